/- ExApart: an expression in memory lies in no fresh assignment. No program in sight. -/
import Derived.Test.YtnbbllkbefagmaaGreatDoorTrFewSaidMB
import Derived.Test.YtnbbllkbefagmaaGreatDoorTrFewSaidMA
import Derived.Deep.DeepCutAuto
import Derived.StillTailTactics
import Derived.Deep.LoopGhost
import Derived.IntWalk
import Derived.Laws.BytesArg
namespace Go.Proofs.YtnbbllkbefagmaaGreatDoor
open Go.RowKit
set_option linter.unusedVariables false
set_option linter.unusedSimpArgs false
set_option maxRecDepth 100000 in
set_option maxHeartbeats 16000000 in
theorem gcond_of {m : Nat} (HE : GE m) : GC (m + 1) := by
 intro M T w hM ht hMT p depth hp hW hT hB hd hd2
 obtain ⟨⟨fA, fn, fc, fl⟩, ⟨sA, sn, sc, sl⟩⟩ := p
 have KS := ((((Hold.startT M w T hM ht hMT).add hW).add (hp.less (by simp [mut_cons, Mut, Hp.foot]))).alloc_cst #[.slice fA fn fc, .slice sA sn sc] 177).alloc #[.int .i64 0, .int .i64 0, .bool false, .int .i64 0, .int .i64 0, .string ⟨#[]⟩, .string ⟨#[]⟩, .string ⟨#[]⟩, .slice none 0 0, .slice none 0 0] 126
 rw [World.size_alloc] at KS
 obtain ⟨gp, hgp⟩ : ∃ g, g = w.heap.size := ⟨_, rfl⟩
 rw [← hgp] at KS
 obtain ⟨gr, hgr⟩ : ∃ g, g = gp + 1 := ⟨_, rfl⟩
 rw [← hgr] at KS
 have HBE := hid (show PlN m ⟨⟨fA, fn, fc, fl⟩, ⟨sA, sn, sc, sl⟩⟩ from ⟨hB.b, by have := hB.n; omega, fun _ => trivial⟩)
 have hm90 : m ≤ 90 := by have := hB.n; omega
 simp only [Pl.val]
 clear hp hW hB
 go_enter Tryz.func156, Tryz.ntmps156
 go_wp2_with fail
 rw [← hgp]
 try rw [← hgr]
 have HG := hid (And.intro hgp hgr)
 clear hgp hgr
 refine (next_any T 3 _ (KS.tp_ 4 rfl) (by omega) (by omega)).mono ?_
 rintro e w1 ⟨s, rfl, s0, s1, t1, g1⟩
 have K1 := Hold.callT KS 4 rfl g1 t1
 clear KS g1 t1
 have hws : IntKind.i64.wrap (1 + s) = 1 + s := IntWalk.i64_in _ (by omega)
 have hs1 : IntKind.i64.wrap (depth - 1) = depth - 1 := IntWalk.i64_in _ (by omega)
 go_wp2_with fail
 refine (next_any T 6 _ (K1.tp_ 4 rfl) (by omega) (by omega)).mono ?_
 rintro e w2 ⟨r, rfl, r0, r1, t2, g2⟩
 have K5 := Hold.callT K1 4 rfl g2 t2
 clear K1 g2 t2
 have F5 := K5.facts
 simp only [factsL, cellsF, Nat.reduceAdd, zf, zl] at F5
 by_cases hr0 : r = 0
 ·subst hr0
  go_wp2_with fail
  refine (HE (Mut M _) T _ K5.mutLt (K5.tp_ 4 rfl) (K5.get 4 rfl).2 ⟨⟨fA, fn, fc, fl⟩, ⟨sA, sn, sc, sl⟩⟩ 2 (depth - 1) ((K5.ro 2 rfl).less (mut_tpG (i := 4) rfl)) ((K5.ro 3 rfl).less (mut_tpG (i := 4) rfl)) hT HBE.out (by omega) (by omega)).mono ?_
  rintro e w5 ⟨x, rfl, hx, rx, tY, gY⟩
  have K4 := (Hold.callT K5 4 rfl gY tY).add rx
  clear F5 K5 rx tY gY
  have HOK := hid (fun g : Nat => op_ok (d := m + 2) (kind := 3) (op := 0) (nt := false) (g := g) (k := 1) (l := [x]) (i64_lit 3 (by decide)) (i64_lit 0 (by decide)) (by omega) (fun z hz => by
   simp only [List.mem_cons, List.not_mem_nil, or_false] at hz
   subst hz
   exact hx))
  have K7 := K4.alloc_cst #[.int .i64 x.kind, .int .i64 x.op, .bool x.nt, .int .i64 x.v.k, .int .i64 x.v.i, .string x.v.s, .string x.tab, .string x.nm, .slice x.A x.n x.c, .slice x.B x.m x.d] 126
  rw [show x.val = .agg #[.int .i64 x.kind, .int .i64 x.op, .bool x.nt, .int .i64 x.v.k, .int .i64 x.v.i, .string x.v.s, .string x.tab, .string x.nm, .slice x.A x.n x.c, .slice x.B x.m x.d] from rfl]
  have F7 := K7.facts
  simp only [factsL, cellsF, Nat.reduceAdd, zf, zl] at F7
  have K8 := ((((((((((K7.store 2 rfl 0 (.int .i64 3)).store 2 rfl 1 (.int .i64 0)).store 2 rfl 2 (.bool false)).store 2 rfl 3 (.int .i64 0)).store 2 rfl 4 (.int .i64 0)).store 2 rfl 5 (.string ⟨#[]⟩)).store 2 rfl 6 (.string ⟨#[]⟩)).store 2 rfl 7 (.string ⟨#[]⟩)).store 2 rfl 8 (.slice (some ⟨w5.heap.size, 0, none⟩) 1 1)).store 2 rfl 9 (.slice none 0 0))
  simp only [zl] at K8
  have F8 := K8.facts
  simp only [factsL, cellsF, Nat.reduceAdd, zf, zl] at F8
  have hE1 : Ro _ _ (ExsIn (m + 2) (some ⟨w5.heap.size, 0, none⟩) 1 [x]) := exs_block (l := [x]) (K8.get 0 rfl) rfl (fun z hz => by
     simp only [List.mem_cons, List.not_mem_nil, or_false] at hz
     subst hz
     exact K8.ro 1 rfl)
  have HR := hid ((hE1.imp (S' := ExIn (m + 2 + 1) (opE 3 0 false w5.heap.size 1 [x])) fun w2 h2 => op_in h2).less zm)
  have HT := hid (And.intro (K8.tp_ 6 rfl) K8.grow)
  clear K7 K8 hE1
  go_wp2_with fail
  refine bodyPost_ret (v := .agg #[.int .i64 3, .int .i64 0, .bool false, .int .i64 0, .int .i64 0, .string ⟨#[]⟩, .string ⟨#[]⟩, .string ⟨#[]⟩, .slice (some ⟨w5.heap.size, 0, none⟩) 1 1, .slice none 0 0]) ?_ rfl ?_
  ·clear HT HR HOK
   simp [results, Tryz.results156, go_sem, F8]
  ·exact ⟨opE 3 0 false w5.heap.size 1 [x], rfl, HOK.out _, HR.out, HT.out.1, HT.out.2⟩
 ·by_cases hr1 : r = 1
  ·subst hr1
   obtain ⟨KL, hKL⟩ : ∃ KL : List Hp, KL = [.blk gr 126 #[.int .i64 0, .int .i64 0, .bool false, .int .i64 0, .int .i64 0, .string ⟨#[]⟩, .string ⟨#[]⟩, .string ⟨#[]⟩, .slice none 0 0, .slice none 0 0], .cst gp 177 #[.slice fA fn fc, .slice sA sn sc], .ro (PlIn ⟨⟨fA, fn, fc, fl⟩, ⟨sA, sn, sc, sl⟩⟩), .ro Wds, .tp T] := ⟨_, rfl⟩
   have hcast : ∀ (L1 : List Hp) (wz : World), Hold M (some T) w wz L1 → L1 = KL → Hold M (some T) w wz KL := fun _ _ h e => e ▸ h
   have K6 := hcast _ _ K5 hKL.symm
   have H1 : ∀ wv : World, Hold M (some T) w wv KL → Blk wv gp 177 #[.slice fA fn fc, .slice sA sn sc] := fun wv h => by rw [hKL] at h; exact h.cst_ 1 rfl
   have H2 : ∀ wv : World, Hold M (some T) w wv KL → Ro wv (Mut M KL) (PlIn ⟨⟨fA, fn, fc, fl⟩, ⟨sA, sn, sc, sl⟩⟩) ∧ Ro wv (Mut M KL) Wds ∧ Tp wv T ∧ ∀ b, (Mut M KL) b → T ≤ b := fun wv h => by rw [hKL] at h ⊢; exact ⟨h.ro 2 rfl, h.ro 3 rfl, h.tp_ 4 rfl, (h.get 4 rfl).2⟩
   have h4 : KL[4]? = some (.tp T) := by rw [hKL]; rfl
   have HH1 := hid H1
   have HH2 := hid H2
   have HH4 := hid h4
   have HKL := hid hKL
   clear hKL hcast H1 H2 h4 K5
   go_wp2_with fail
   clear F5
   refine wp_region_any (by kernel_rfl) ?_
   refine wpAny_hold 13 85 (KL) (spL [(25, fun u _ => NatB 2 u), (31, ExSlot (Mut M KL) (m + 2)), (36, ExSlot (Mut M KL) (m + 2))]) (by kernel_rfl) (by kernel_rfl) (by kernel_rfl) rfl ?_ (K6.drew) ?_
   ·exact stays_cons (fun _ _ _ _ h => h) (stays_cons exSlot_mono (stays_cons exSlot_mono (stays_nil _)))
   simp only [zd, Act.put, List.getElem_toArray, List.getElem_cons_zero, List.getElem_cons_succ, zl]
   refine dw_val rfl rfl rfl ?_; apply Exists.intro; refine ⟨fun wv HC => ?_, ?_⟩
   · go_simp <;> rfl
   simp only [Act.put, zl]
   refine dw_next 2 4 HH4.out 25 rfl rfl rfl rfl (fun wv => ?_) (fun r hr => ?_)
   ·go_simp <;> rfl
   have r6 : (r : Int) < 2 := by omega
   have r0 : (0 : Int) ≤ (r : Int) := by omega
   have hwr : IntKind.i64.wrap (1 + (r : Int)) = 1 + r := IntWalk.i64_in _ (by omega)
   simp only [Act.put, zl]
   refine dw_val rfl rfl rfl ?_; apply Exists.intro; refine ⟨fun wv HC => ?_, ?_⟩
   · go_simp <;> rfl
   simp only [Act.put, zl]
   refine dw_val rfl rfl rfl ?_; apply Exists.intro; refine ⟨fun wv HC => ?_, ?_⟩
   · go_simp <;> rfl
   simp only [Act.put, zl]
   refine dw_val rfl rfl rfl ?_; apply Exists.intro; refine ⟨fun wv HC => ?_, ?_⟩
   ·obtain q0 := (HH1.out _ HC).cell 0; obtain q1 := (HH1.out _ HC).cell 1; go_simp <;> rfl
   simp only [Act.put, zl]
   refine dw_val rfl rfl rfl ?_; apply Exists.intro; refine ⟨fun wv HC => ?_, ?_⟩
   · go_simp <;> rfl
   simp only [Act.put, zl]
   refine dw_val rfl rfl rfl ?_; apply Exists.intro; refine ⟨fun wv HC => ?_, ?_⟩
   · go_simp <;> rfl
   simp only [Act.put, zl]
   refine dw_callR 31 (ExSlot (Mut M KL) (m + 2)) (f := 99) (args := #[.pointer (some ⟨T, 0, none⟩), .agg #[.slice fA fn fc, .slice sA sn sc], .int .i64 2, .int .i64 (depth - 1)]) rfl rfl rfl rfl (fun wv => ?_) (fun wv HC hrm hD => ?_) ?_
   ·go_simp <;> rfl
   ·obtain ⟨X0, X1, X2, X3⟩ := HH2.out _ HC
    refine (HE (Mut M KL) T wv HC.mutLt X2 X3 ⟨⟨fA, fn, fc, fl⟩, ⟨sA, sn, sc, sl⟩⟩ 2 (depth - 1) (X0.less (mut_tpG HH4.out)) (X1.less (mut_tpG HH4.out)) hT HBE.out (by omega) (by omega)).mono ?_
    rintro e w5 ⟨x, rfl, hx, rx, t5, g5⟩
    exact ⟨_, rfl, ⟨x, rfl, hx, rx⟩, Hold.callT HC 4 HH4.out g5 t5, RM.grown g5 (.inr ⟨_, List.mem_of_getElem? HH4.out, rfl⟩)⟩
   rintro u wx HCx ⟨x, rfl, hx, rx⟩
   clear HCx hx rx
   simp only [Act.put, zl]
   refine dw_val rfl rfl rfl ?_; apply Exists.intro; refine ⟨fun wv HC => ?_, ?_⟩
   · go_simp <;> rfl
   simp only [Act.put, zl]
   refine dw_val rfl rfl rfl ?_; apply Exists.intro; refine ⟨fun wv HC => ?_, ?_⟩
   ·obtain q0 := (HH1.out _ HC).cell 0; obtain q1 := (HH1.out _ HC).cell 1; go_simp <;> rfl
   simp only [Act.put, zl]
   refine dw_val rfl rfl rfl ?_; apply Exists.intro; refine ⟨fun wv HC => ?_, ?_⟩
   · go_simp <;> rfl
   simp only [Act.put, zl]
   refine dw_val rfl rfl rfl ?_; apply Exists.intro; refine ⟨fun wv HC => ?_, ?_⟩
   · go_simp <;> rfl
   simp only [Act.put, zl]
   refine dw_callR 36 (ExSlot (Mut M KL) (m + 2)) (f := 99) (args := #[.pointer (some ⟨T, 0, none⟩), .agg #[.slice fA fn fc, .slice sA sn sc], .int .i64 2, .int .i64 (depth - 1)]) rfl rfl rfl rfl (fun wv => ?_) (fun wv HC hrm hD => ?_) ?_
   ·go_simp <;> rfl
   ·obtain ⟨X0, X1, X2, X3⟩ := HH2.out _ HC
    refine (HE (Mut M KL) T wv HC.mutLt X2 X3 ⟨⟨fA, fn, fc, fl⟩, ⟨sA, sn, sc, sl⟩⟩ 2 (depth - 1) (X0.less (mut_tpG HH4.out)) (X1.less (mut_tpG HH4.out)) hT HBE.out (by omega) (by omega)).mono ?_
    rintro e w5 ⟨x, rfl, hx, rx, t5, g5⟩
    exact ⟨_, rfl, ⟨x, rfl, hx, rx⟩, Hold.callT HC 4 HH4.out g5 t5, RM.grown g5 (.inr ⟨_, List.mem_of_getElem? HH4.out, rfl⟩)⟩
   rintro u wx HCx ⟨x2, rfl, hx, rx⟩
   clear HCx hx rx
   simp only [Act.put, zl]
   refine rel_nil ?_
   rintro wx2 HX
   rintro _hrm HG
   have hu : ExSlot (Mut M KL) (m + 2) x.val wx2 := (GW_on (d := 31) rfl).1 (HG 7 _ rfl (by omega))
   have hu2 : ExSlot (Mut M KL) (m + 2) x2.val wx2 := (GW_on (d := 36) rfl).1 (HG 12 _ rfl (by omega))
   clear HG _hrm
   obtain ⟨y1, hy1, hok1, hro1⟩ := hu
   obtain ⟨y2, hy2, hok2, hro2⟩ := hu2
   rw [HKL.out] at HX hro1 hro2
   have HYA := hid (op_ok (d := m + 2) (kind := 5) (op := 1 + (r : Int)) (nt := false) (g := 0) (k := 2) (l := [y1, y2]) (i64_lit 5 (by decide)) (show I64 _ from ⟨by omega, by omega⟩) (by omega) (fun z hz => by
    simp only [List.mem_cons, List.not_mem_nil, or_false] at hz
    rcases hz with rfl | rfl
    ·exact hok1
    ·exact hok2))
   clear hok1 hok2
   rw [hy1, hy2]
   clear hy1 hy2 x x2
   rw [show y1.val = .agg #[.int .i64 y1.kind, .int .i64 y1.op, .bool y1.nt, .int .i64 y1.v.k, .int .i64 y1.v.i, .string y1.v.s, .string y1.tab, .string y1.nm, .slice y1.A y1.n y1.c, .slice y1.B y1.m y1.d] from rfl]
   rw [show y2.val = .agg #[.int .i64 y2.kind, .int .i64 y2.op, .bool y2.nt, .int .i64 y2.v.k, .int .i64 y2.v.i, .string y2.v.s, .string y2.tab, .string y2.nm, .slice y2.A y2.n y2.c, .slice y2.B y2.m y2.d] from rfl]
   go_wp2_with fail
   refine (bin_any (Mut M _) _ HX.mutLt (1 + r) y1 y2 (m + 2) hro1 hro2).mono ?_
   rintro e w6 ⟨g6, rfl, ry, b6⟩
   have HYB := hid (show ExGd (m + 1 + 2) (opE 5 (1 + r) false g6 2 [y1, y2]) from HYA.out)
   generalize opE 5 (1 + (r : Int)) false g6 2 [y1, y2] = y at *
   have HY := HYB
   have KC : Hold M (some T) w w6 [.blk gr 126 #[.int .i64 0, .int .i64 0, .bool false, .int .i64 0, .int .i64 0, .string ⟨#[]⟩, .string ⟨#[]⟩, .string ⟨#[]⟩, .slice none 0 0, .slice none 0 0], .cst gp 177 #[.slice fA fn fc, .slice sA sn sc], .ro (PlIn ⟨⟨fA, fn, fc, fl⟩, ⟨sA, sn, sc, sl⟩⟩), .ro Wds, .tp T, .ro (ExIn (m + 2 + 1) y)] := ((HX.call b6).add ry).pick [1, 2, 3, 4, 5, 0] (by decide) rfl
   clear HX hro1 hro2 ry b6 HYA HYB
   rw [show y.val = .agg #[.int .i64 y.kind, .int .i64 y.op, .bool y.nt, .int .i64 y.v.k, .int .i64 y.v.i, .string y.v.s, .string y.tab, .string y.nm, .slice y.A y.n y.c, .slice y.B y.m y.d] from rfl]
   have F9 := KC.facts
   simp only [factsL, cellsF, Nat.reduceAdd, zf, zl] at F9
   have KA := ((((((((((KC.store 0 rfl 0 (.int .i64 y.kind)).store 0 rfl 1 (.int .i64 y.op)).store 0 rfl 2 (.bool y.nt)).store 0 rfl 3 (.int .i64 y.v.k)).store 0 rfl 4 (.int .i64 y.v.i)).store 0 rfl 5 (.string y.v.s)).store 0 rfl 6 (.string y.tab)).store 0 rfl 7 (.string y.nm)).store 0 rfl 8 (.slice y.A y.n y.c)).store 0 rfl 9 (.slice y.B y.m y.d))
   simp only [zl] at KA
   have FA := KA.facts
   simp only [factsL, cellsF, Nat.reduceAdd, zf, zl] at FA
   have HR := hid ((KA.ro 5 rfl).less zm)
   have HT := hid (And.intro (KA.tp_ 4 rfl) KA.grow)
   clear KC KA
   go_wp2_with fail
   refine bodyPost_ret (v := .agg #[.int .i64 y.kind, .int .i64 y.op, .bool y.nt, .int .i64 y.v.k, .int .i64 y.v.i, .string y.v.s, .string y.tab, .string y.nm, .slice y.A y.n y.c, .slice y.B y.m y.d]) ?_ rfl ?_
   ·clear HT HR
    simp [results, Tryz.results156, go_sem, FA]
   ·exact ⟨y, rfl, HY.out.le (by omega), HR.out.imp (fun w2 h2 => h2.le (by omega)), HT.out.1, HT.out.2⟩
  ·by_cases hr2 : r = 2
   ·subst hr2
    obtain ⟨KL, hKL⟩ : ∃ KL : List Hp, KL = [.blk gr 126 #[.int .i64 0, .int .i64 0, .bool false, .int .i64 0, .int .i64 0, .string ⟨#[]⟩, .string ⟨#[]⟩, .string ⟨#[]⟩, .slice none 0 0, .slice none 0 0], .cst gp 177 #[.slice fA fn fc, .slice sA sn sc], .ro (PlIn ⟨⟨fA, fn, fc, fl⟩, ⟨sA, sn, sc, sl⟩⟩), .ro Wds, .tp T] := ⟨_, rfl⟩
    have hcast : ∀ (L1 : List Hp) (wz : World), Hold M (some T) w wz L1 → L1 = KL → Hold M (some T) w wz KL := fun _ _ h e => e ▸ h
    have K6 := hcast _ _ K5 hKL.symm
    have H1 : ∀ wv : World, Hold M (some T) w wv KL → Blk wv gp 177 #[.slice fA fn fc, .slice sA sn sc] := fun wv h => by rw [hKL] at h; exact h.cst_ 1 rfl
    have H2 : ∀ wv : World, Hold M (some T) w wv KL → Ro wv (Mut M KL) (PlIn ⟨⟨fA, fn, fc, fl⟩, ⟨sA, sn, sc, sl⟩⟩) ∧ Ro wv (Mut M KL) Wds ∧ Tp wv T ∧ ∀ b, (Mut M KL) b → T ≤ b := fun wv h => by rw [hKL] at h ⊢; exact ⟨h.ro 2 rfl, h.ro 3 rfl, h.tp_ 4 rfl, (h.get 4 rfl).2⟩
    have h4 : KL[4]? = some (.tp T) := by rw [hKL]; rfl
    have HH1 := hid H1
    have HH2 := hid H2
    have HH4 := hid h4
    have HKL := hid hKL
    clear hKL hcast H1 H2 h4 K5
    go_wp2_with fail
    clear F5
    refine wp_region_any (by kernel_rfl) ?_
    refine wpAny_hold 8 85 (KL) (spL [(41, BoolSlot), (47, ExSlot (Mut M KL) (m + 2))]) (by kernel_rfl) (by kernel_rfl) (by kernel_rfl) rfl ?_ (K6.drew) ?_
    ·exact stays_cons (fun _ _ _ _ h => h) (stays_cons exSlot_mono (stays_nil _))
    simp only [zd, Act.put, List.getElem_toArray, List.getElem_cons_zero, List.getElem_cons_succ, zl]
    refine dw_val rfl rfl rfl ?_; apply Exists.intro; refine ⟨fun wv HC => ?_, ?_⟩
    · go_simp <;> rfl
    simp only [Act.put, zl]
    refine dw_bool 2 4 HH4.out 41 rfl rfl rfl rfl (fun wv => ?_) (fun bb => ?_)
    ·go_simp <;> rfl
    simp only [Act.put, zl]
    refine dw_val rfl rfl rfl ?_; apply Exists.intro; refine ⟨fun wv HC => ?_, ?_⟩
    · go_simp <;> rfl
    simp only [Act.put, zl]
    refine dw_val rfl rfl rfl ?_; apply Exists.intro; refine ⟨fun wv HC => ?_, ?_⟩
    ·obtain q0 := (HH1.out _ HC).cell 0; obtain q1 := (HH1.out _ HC).cell 1; go_simp <;> rfl
    simp only [Act.put, zl]
    refine dw_val rfl rfl rfl ?_; apply Exists.intro; refine ⟨fun wv HC => ?_, ?_⟩
    · go_simp <;> rfl
    simp only [Act.put, zl]
    refine dw_val rfl rfl rfl ?_; apply Exists.intro; refine ⟨fun wv HC => ?_, ?_⟩
    · go_simp <;> rfl
    simp only [Act.put, zl]
    refine dw_val rfl rfl rfl ?_; apply Exists.intro; refine ⟨fun wv HC => ?_, ?_⟩
    · go_simp <;> rfl
    simp only [Act.put, zl]
    refine dw_callR 47 (ExSlot (Mut M KL) (m + 2)) (f := 99) (args := #[.pointer (some ⟨T, 0, none⟩), .agg #[.slice fA fn fc, .slice sA sn sc], .int .i64 (1 + s), .int .i64 (depth - 1)]) rfl rfl rfl rfl (fun wv => ?_) (fun wv HC hrm hD => ?_) ?_
    ·go_simp <;> rfl
    ·obtain ⟨X0, X1, X2, X3⟩ := HH2.out _ HC
     refine (HE (Mut M KL) T wv HC.mutLt X2 X3 ⟨⟨fA, fn, fc, fl⟩, ⟨sA, sn, sc, sl⟩⟩ (1 + s) (depth - 1) (X0.less (mut_tpG HH4.out)) (X1.less (mut_tpG HH4.out)) hT HBE.out (by omega) (by omega)).mono ?_
     rintro e w5 ⟨x, rfl, hx, rx, t5, g5⟩
     exact ⟨_, rfl, ⟨x, rfl, hx, rx⟩, Hold.callT HC 4 HH4.out g5 t5, RM.grown g5 (.inr ⟨_, List.mem_of_getElem? HH4.out, rfl⟩)⟩
    rintro u wx HCx ⟨x, rfl, hx, rx⟩
    clear HCx hx rx
    simp only [Act.put, zl]
    refine rel_nil ?_
    rintro wx2 HX
    rintro _hrm HG
    have hu : ExSlot (Mut M KL) (m + 2) x.val wx2 := (GW_on (d := 47) rfl).1 (HG 7 _ rfl (by omega))
    clear HG _hrm
    obtain ⟨y1, hy1, hok1, hro1⟩ := hu
    rw [HKL.out] at HX hro1
    rw [hy1]
    clear hy1 x
    have K4 := HX.add hro1
    clear HX hro1
    have HOK := hid (fun g : Nat => op_ok (d := m + 2) (kind := 6) (op := 0) (nt := bb) (g := g) (k := 1) (l := [y1]) (i64_lit 6 (by decide)) (i64_lit 0 (by decide)) (by omega) (fun z hz => by
     simp only [List.mem_cons, List.not_mem_nil, or_false] at hz
     subst hz
     exact hok1))
    have K7 := K4.alloc_cst #[.int .i64 y1.kind, .int .i64 y1.op, .bool y1.nt, .int .i64 y1.v.k, .int .i64 y1.v.i, .string y1.v.s, .string y1.tab, .string y1.nm, .slice y1.A y1.n y1.c, .slice y1.B y1.m y1.d] 126
    rw [show y1.val = .agg #[.int .i64 y1.kind, .int .i64 y1.op, .bool y1.nt, .int .i64 y1.v.k, .int .i64 y1.v.i, .string y1.v.s, .string y1.tab, .string y1.nm, .slice y1.A y1.n y1.c, .slice y1.B y1.m y1.d] from rfl]
    have F7 := K7.facts
    simp only [factsL, cellsF, Nat.reduceAdd, zf, zl] at F7
    have K8 := ((((((((((K7.store 2 rfl 0 (.int .i64 6)).store 2 rfl 1 (.int .i64 0)).store 2 rfl 2 (.bool bb)).store 2 rfl 3 (.int .i64 0)).store 2 rfl 4 (.int .i64 0)).store 2 rfl 5 (.string ⟨#[]⟩)).store 2 rfl 6 (.string ⟨#[]⟩)).store 2 rfl 7 (.string ⟨#[]⟩)).store 2 rfl 8 (.slice (some ⟨wx2.heap.size, 0, none⟩) 1 1)).store 2 rfl 9 (.slice none 0 0))
    simp only [zl] at K8
    have F8 := K8.facts
    simp only [factsL, cellsF, Nat.reduceAdd, zf, zl] at F8
    have hE1 : Ro _ _ (ExsIn (m + 2) (some ⟨wx2.heap.size, 0, none⟩) 1 [y1]) := exs_block (l := [y1]) (K8.get 0 rfl) rfl (fun z hz => by
       simp only [List.mem_cons, List.not_mem_nil, or_false] at hz
       subst hz
       exact K8.ro 1 rfl)
    have HR := hid ((hE1.imp (S' := ExIn (m + 2 + 1) (opE 6 0 bb wx2.heap.size 1 [y1])) fun w2 h2 => op_in h2).less zm)
    have HT := hid (And.intro (K8.tp_ 6 rfl) K8.grow)
    clear K7 K8 hE1
    go_wp2_with fail
    refine bodyPost_ret (v := .agg #[.int .i64 6, .int .i64 0, .bool bb, .int .i64 0, .int .i64 0, .string ⟨#[]⟩, .string ⟨#[]⟩, .string ⟨#[]⟩, .slice (some ⟨wx2.heap.size, 0, none⟩) 1 1, .slice none 0 0]) ?_ rfl ?_
    ·clear HT HR HOK
     simp [results, Tryz.results156, go_sem, F8]
    ·exact ⟨opE 6 0 bb wx2.heap.size 1 [y1], rfl, HOK.out _, HR.out, HT.out.1, HT.out.2⟩
   ·by_cases hr3 : r = 3
    ·subst hr3
     obtain ⟨KL, hKL⟩ : ∃ KL : List Hp, KL = [.blk gr 126 #[.int .i64 0, .int .i64 0, .bool false, .int .i64 0, .int .i64 0, .string ⟨#[]⟩, .string ⟨#[]⟩, .string ⟨#[]⟩, .slice none 0 0, .slice none 0 0], .cst gp 177 #[.slice fA fn fc, .slice sA sn sc], .ro (PlIn ⟨⟨fA, fn, fc, fl⟩, ⟨sA, sn, sc, sl⟩⟩), .ro Wds, .tp T] := ⟨_, rfl⟩
     have hcast : ∀ (L1 : List Hp) (wz : World), Hold M (some T) w wz L1 → L1 = KL → Hold M (some T) w wz KL := fun _ _ h e => e ▸ h
     have K6 := hcast _ _ K5 hKL.symm
     have H1 : ∀ wv : World, Hold M (some T) w wv KL → Blk wv gp 177 #[.slice fA fn fc, .slice sA sn sc] := fun wv h => by rw [hKL] at h; exact h.cst_ 1 rfl
     have H2 : ∀ wv : World, Hold M (some T) w wv KL → Ro wv (Mut M KL) (PlIn ⟨⟨fA, fn, fc, fl⟩, ⟨sA, sn, sc, sl⟩⟩) ∧ Ro wv (Mut M KL) Wds ∧ Tp wv T ∧ ∀ b, (Mut M KL) b → T ≤ b := fun wv h => by rw [hKL] at h ⊢; exact ⟨h.ro 2 rfl, h.ro 3 rfl, h.tp_ 4 rfl, (h.get 4 rfl).2⟩
     have h4 : KL[4]? = some (.tp T) := by rw [hKL]; rfl
     have HH1 := hid H1
     have HH2 := hid H2
     have HH4 := hid h4
     have HKL := hid hKL
     clear hKL hcast H1 H2 h4 K5
     go_wp2_with fail
     clear F5
     refine wp_region_any (by kernel_rfl) ?_
     refine wpAny_hold 15 85 (KL) (spL [(56, ExSlot (Mut M KL) (m + 2)), (61, ExSlot (Mut M KL) (m + 2)), (66, ExSlot (Mut M KL) (m + 2))]) (by kernel_rfl) (by kernel_rfl) (by kernel_rfl) rfl ?_ (K6.drew) ?_
     ·exact stays_cons exSlot_mono (stays_cons exSlot_mono (stays_cons exSlot_mono (stays_nil _)))
     simp only [zd, Act.put, List.getElem_toArray, List.getElem_cons_zero, List.getElem_cons_succ, zl]
     refine dw_val rfl rfl rfl ?_; apply Exists.intro; refine ⟨fun wv HC => ?_, ?_⟩
     · go_simp <;> rfl
     simp only [Act.put, zl]
     refine dw_val rfl rfl rfl ?_; apply Exists.intro; refine ⟨fun wv HC => ?_, ?_⟩
     ·obtain q0 := (HH1.out _ HC).cell 0; obtain q1 := (HH1.out _ HC).cell 1; go_simp <;> rfl
     simp only [Act.put, zl]
     refine dw_val rfl rfl rfl ?_; apply Exists.intro; refine ⟨fun wv HC => ?_, ?_⟩
     · go_simp <;> rfl
     simp only [Act.put, zl]
     refine dw_val rfl rfl rfl ?_; apply Exists.intro; refine ⟨fun wv HC => ?_, ?_⟩
     · go_simp <;> rfl
     simp only [Act.put, zl]
     refine dw_callR 56 (ExSlot (Mut M KL) (m + 2)) (f := 99) (args := #[.pointer (some ⟨T, 0, none⟩), .agg #[.slice fA fn fc, .slice sA sn sc], .int .i64 1, .int .i64 (depth - 1)]) rfl rfl rfl rfl (fun wv => ?_) (fun wv HC hrm hD => ?_) ?_
     ·go_simp <;> rfl
     ·obtain ⟨X0, X1, X2, X3⟩ := HH2.out _ HC
      refine (HE (Mut M KL) T wv HC.mutLt X2 X3 ⟨⟨fA, fn, fc, fl⟩, ⟨sA, sn, sc, sl⟩⟩ 1 (depth - 1) (X0.less (mut_tpG HH4.out)) (X1.less (mut_tpG HH4.out)) hT HBE.out (by omega) (by omega)).mono ?_
      rintro e w5 ⟨x, rfl, hx, rx, t5, g5⟩
      exact ⟨_, rfl, ⟨x, rfl, hx, rx⟩, Hold.callT HC 4 HH4.out g5 t5, RM.grown g5 (.inr ⟨_, List.mem_of_getElem? HH4.out, rfl⟩)⟩
     rintro u wx HCx ⟨x, rfl, hx, rx⟩
     clear HCx hx rx
     simp only [Act.put, zl]
     refine dw_val rfl rfl rfl ?_; apply Exists.intro; refine ⟨fun wv HC => ?_, ?_⟩
     · go_simp <;> rfl
     simp only [Act.put, zl]
     refine dw_val rfl rfl rfl ?_; apply Exists.intro; refine ⟨fun wv HC => ?_, ?_⟩
     ·obtain q0 := (HH1.out _ HC).cell 0; obtain q1 := (HH1.out _ HC).cell 1; go_simp <;> rfl
     simp only [Act.put, zl]
     refine dw_val rfl rfl rfl ?_; apply Exists.intro; refine ⟨fun wv HC => ?_, ?_⟩
     · go_simp <;> rfl
     simp only [Act.put, zl]
     refine dw_val rfl rfl rfl ?_; apply Exists.intro; refine ⟨fun wv HC => ?_, ?_⟩
     · go_simp <;> rfl
     simp only [Act.put, zl]
     refine dw_callR 61 (ExSlot (Mut M KL) (m + 2)) (f := 99) (args := #[.pointer (some ⟨T, 0, none⟩), .agg #[.slice fA fn fc, .slice sA sn sc], .int .i64 1, .int .i64 (depth - 1)]) rfl rfl rfl rfl (fun wv => ?_) (fun wv HC hrm hD => ?_) ?_
     ·go_simp <;> rfl
     ·obtain ⟨X0, X1, X2, X3⟩ := HH2.out _ HC
      refine (HE (Mut M KL) T wv HC.mutLt X2 X3 ⟨⟨fA, fn, fc, fl⟩, ⟨sA, sn, sc, sl⟩⟩ 1 (depth - 1) (X0.less (mut_tpG HH4.out)) (X1.less (mut_tpG HH4.out)) hT HBE.out (by omega) (by omega)).mono ?_
      rintro e w5 ⟨x, rfl, hx, rx, t5, g5⟩
      exact ⟨_, rfl, ⟨x, rfl, hx, rx⟩, Hold.callT HC 4 HH4.out g5 t5, RM.grown g5 (.inr ⟨_, List.mem_of_getElem? HH4.out, rfl⟩)⟩
     rintro u wx HCx ⟨x2, rfl, hx, rx⟩
     clear HCx hx rx
     simp only [Act.put, zl]
     refine dw_val rfl rfl rfl ?_; apply Exists.intro; refine ⟨fun wv HC => ?_, ?_⟩
     · go_simp <;> rfl
     simp only [Act.put, zl]
     refine dw_val rfl rfl rfl ?_; apply Exists.intro; refine ⟨fun wv HC => ?_, ?_⟩
     ·obtain q0 := (HH1.out _ HC).cell 0; obtain q1 := (HH1.out _ HC).cell 1; go_simp <;> rfl
     simp only [Act.put, zl]
     refine dw_val rfl rfl rfl ?_; apply Exists.intro; refine ⟨fun wv HC => ?_, ?_⟩
     · go_simp <;> rfl
     simp only [Act.put, zl]
     refine dw_val rfl rfl rfl ?_; apply Exists.intro; refine ⟨fun wv HC => ?_, ?_⟩
     · go_simp <;> rfl
     simp only [Act.put, zl]
     refine dw_callR 66 (ExSlot (Mut M KL) (m + 2)) (f := 99) (args := #[.pointer (some ⟨T, 0, none⟩), .agg #[.slice fA fn fc, .slice sA sn sc], .int .i64 1, .int .i64 (depth - 1)]) rfl rfl rfl rfl (fun wv => ?_) (fun wv HC hrm hD => ?_) ?_
     ·go_simp <;> rfl
     ·obtain ⟨X0, X1, X2, X3⟩ := HH2.out _ HC
      refine (HE (Mut M KL) T wv HC.mutLt X2 X3 ⟨⟨fA, fn, fc, fl⟩, ⟨sA, sn, sc, sl⟩⟩ 1 (depth - 1) (X0.less (mut_tpG HH4.out)) (X1.less (mut_tpG HH4.out)) hT HBE.out (by omega) (by omega)).mono ?_
      rintro e w5 ⟨x, rfl, hx, rx, t5, g5⟩
      exact ⟨_, rfl, ⟨x, rfl, hx, rx⟩, Hold.callT HC 4 HH4.out g5 t5, RM.grown g5 (.inr ⟨_, List.mem_of_getElem? HH4.out, rfl⟩)⟩
     rintro u wx HCx ⟨x3, rfl, hx, rx⟩
     clear HCx hx rx
     simp only [Act.put, zl]
     refine rel_nil ?_
     rintro wx2 HX
     rintro _hrm HG
     have hu : ExSlot (Mut M KL) (m + 2) x.val wx2 := (GW_on (d := 56) rfl).1 (HG 4 _ rfl (by omega))
     have hu2 : ExSlot (Mut M KL) (m + 2) x2.val wx2 := (GW_on (d := 61) rfl).1 (HG 9 _ rfl (by omega))
     have hu3 : ExSlot (Mut M KL) (m + 2) x3.val wx2 := (GW_on (d := 66) rfl).1 (HG 14 _ rfl (by omega))
     clear HG _hrm
     obtain ⟨y1, hy1, hok1, hro1⟩ := hu
     obtain ⟨y2, hy2, hok2, hro2⟩ := hu2
     obtain ⟨y3, hy3, hok3, hro3⟩ := hu3
     rw [HKL.out] at HX hro1 hro2 hro3
     rw [hy1, hy2, hy3]
     clear hy1 hy2 hy3 x x2 x3
     have K4 := ((HX.add hro1).add (hro2.less (by intro b hb; simpa [Mut, Hp.foot] using hb))).add (hro3.less (by intro b hb; simpa [Mut, Hp.foot] using hb))
     clear HX hro1 hro2 hro3
     have HOK := hid (fun g : Nat => op_ok (d := m + 2) (kind := 7) (op := 0) (nt := false) (g := g) (k := 3) (l := [y1, y2, y3]) (i64_lit 7 (by decide)) (i64_lit 0 (by decide)) (by omega) (fun z hz => by
      simp only [List.mem_cons, List.not_mem_nil, or_false] at hz
      rcases hz with rfl | rfl | rfl
      ·exact hok1
      ·exact hok2
      ·exact hok3))
     have K7 := K4.alloc_cst #[.int .i64 y1.kind, .int .i64 y1.op, .bool y1.nt, .int .i64 y1.v.k, .int .i64 y1.v.i, .string y1.v.s, .string y1.tab, .string y1.nm, .slice y1.A y1.n y1.c, .slice y1.B y1.m y1.d, .int .i64 y2.kind, .int .i64 y2.op, .bool y2.nt, .int .i64 y2.v.k, .int .i64 y2.v.i, .string y2.v.s, .string y2.tab, .string y2.nm, .slice y2.A y2.n y2.c, .slice y2.B y2.m y2.d, .int .i64 y3.kind, .int .i64 y3.op, .bool y3.nt, .int .i64 y3.v.k, .int .i64 y3.v.i, .string y3.v.s, .string y3.tab, .string y3.nm, .slice y3.A y3.n y3.c, .slice y3.B y3.m y3.d] 126
     rw [show y1.val = .agg #[.int .i64 y1.kind, .int .i64 y1.op, .bool y1.nt, .int .i64 y1.v.k, .int .i64 y1.v.i, .string y1.v.s, .string y1.tab, .string y1.nm, .slice y1.A y1.n y1.c, .slice y1.B y1.m y1.d] from rfl]
     rw [show y2.val = .agg #[.int .i64 y2.kind, .int .i64 y2.op, .bool y2.nt, .int .i64 y2.v.k, .int .i64 y2.v.i, .string y2.v.s, .string y2.tab, .string y2.nm, .slice y2.A y2.n y2.c, .slice y2.B y2.m y2.d] from rfl]
     rw [show y3.val = .agg #[.int .i64 y3.kind, .int .i64 y3.op, .bool y3.nt, .int .i64 y3.v.k, .int .i64 y3.v.i, .string y3.v.s, .string y3.tab, .string y3.nm, .slice y3.A y3.n y3.c, .slice y3.B y3.m y3.d] from rfl]
     have F7 := K7.facts
     simp only [factsL, cellsF, Nat.reduceAdd, zf, zl] at F7
     have K8 := ((((((((((K7.store 4 rfl 0 (.int .i64 7)).store 4 rfl 1 (.int .i64 0)).store 4 rfl 2 (.bool false)).store 4 rfl 3 (.int .i64 0)).store 4 rfl 4 (.int .i64 0)).store 4 rfl 5 (.string ⟨#[]⟩)).store 4 rfl 6 (.string ⟨#[]⟩)).store 4 rfl 7 (.string ⟨#[]⟩)).store 4 rfl 8 (.slice (some ⟨wx2.heap.size, 0, none⟩) 3 3)).store 4 rfl 9 (.slice none 0 0))
     simp only [zl] at K8
     have F8 := K8.facts
     simp only [factsL, cellsF, Nat.reduceAdd, zf, zl] at F8
     have hE1 : Ro _ _ (ExsIn (m + 2) (some ⟨wx2.heap.size, 0, none⟩) 3 [y1, y2, y3]) := exs_block (l := [y1, y2, y3]) (K8.get 0 rfl) rfl (fun z hz => by
        simp only [List.mem_cons, List.not_mem_nil, or_false] at hz
        rcases hz with rfl | rfl | rfl
        ·exact K8.ro 3 rfl
        ·exact K8.ro 2 rfl
        ·exact K8.ro 1 rfl)
     have HR := hid ((hE1.imp (S' := ExIn (m + 2 + 1) (opE 7 0 false wx2.heap.size 3 [y1, y2, y3])) fun w2 h2 => op_in h2).less zm)
     have HT := hid (And.intro (K8.tp_ 8 rfl) K8.grow)
     clear K7 K8 hE1
     go_wp2_with fail
     refine bodyPost_ret (v := .agg #[.int .i64 7, .int .i64 0, .bool false, .int .i64 0, .int .i64 0, .string ⟨#[]⟩, .string ⟨#[]⟩, .string ⟨#[]⟩, .slice (some ⟨wx2.heap.size, 0, none⟩) 3 3, .slice none 0 0]) ?_ rfl ?_
     ·clear HT HR HOK
      simp [results, Tryz.results156, go_sem, F8]
     ·exact ⟨opE 7 0 false wx2.heap.size 3 [y1, y2, y3], rfl, HOK.out _, HR.out, HT.out.1, HT.out.2⟩
    ·have hb0 : (r == 0) = false := by simpa using hr0
     have hb1 : (r == 1) = false := by simpa using hr1
     have hb2 : (r == 2) = false := by simpa using hr2
     have hb3 : (r == 3) = false := by simpa using hr3
     obtain ⟨KL, hKL⟩ : ∃ KL : List Hp, KL = [.blk gr 126 #[.int .i64 0, .int .i64 0, .bool false, .int .i64 0, .int .i64 0, .string ⟨#[]⟩, .string ⟨#[]⟩, .string ⟨#[]⟩, .slice none 0 0, .slice none 0 0], .cst gp 177 #[.slice fA fn fc, .slice sA sn sc], .ro (PlIn ⟨⟨fA, fn, fc, fl⟩, ⟨sA, sn, sc, sl⟩⟩), .ro Wds, .tp T] := ⟨_, rfl⟩
     have hcast : ∀ (L1 : List Hp) (wz : World), Hold M (some T) w wz L1 → L1 = KL → Hold M (some T) w wz KL := fun _ _ h e => e ▸ h
     have K6 := hcast _ _ K5 hKL.symm
     have H1 : ∀ wv : World, Hold M (some T) w wv KL → Blk wv gp 177 #[.slice fA fn fc, .slice sA sn sc] := fun wv h => by rw [hKL] at h; exact h.cst_ 1 rfl
     have H2 : ∀ wv : World, Hold M (some T) w wv KL → Ro wv (Mut M KL) (PlIn ⟨⟨fA, fn, fc, fl⟩, ⟨sA, sn, sc, sl⟩⟩) ∧ Ro wv (Mut M KL) Wds ∧ Tp wv T ∧ ∀ b, (Mut M KL) b → T ≤ b := fun wv h => by rw [hKL] at h ⊢; exact ⟨h.ro 2 rfl, h.ro 3 rfl, h.tp_ 4 rfl, (h.get 4 rfl).2⟩
     have h4 : KL[4]? = some (.tp T) := by rw [hKL]; rfl
     have HH1 := hid H1
     have HH2 := hid H2
     have HH4 := hid h4
     have HKL := hid hKL
     clear hKL hcast H1 H2 h4 K5
     go_wp2_with fail
     clear F5
     refine wp_region_any (by kernel_rfl) ?_
     refine wpAny_hold 15 85 (KL) (spL [(70, fun u _ => NatB 6 u), (77, ExSlot (Mut M KL) (m + 2)), (83, ExSlot (Mut M KL) (m + 2))]) (by kernel_rfl) (by kernel_rfl) (by kernel_rfl) rfl ?_ (K6.drew) ?_
     ·exact stays_cons (fun _ _ _ _ h => h) (stays_cons exSlot_mono (stays_cons exSlot_mono (stays_nil _)))
     simp only [zd, Act.put, List.getElem_toArray, List.getElem_cons_zero, List.getElem_cons_succ, zl]
     refine dw_val rfl rfl rfl ?_; apply Exists.intro; refine ⟨fun wv HC => ?_, ?_⟩
     · go_simp <;> rfl
     simp only [Act.put, zl]
     refine dw_next 6 4 HH4.out 70 rfl rfl rfl rfl (fun wv => ?_) (fun r hr => ?_)
     ·go_simp <;> rfl
     have r6 : (r : Int) < 6 := by omega
     have r0 : (0 : Int) ≤ (r : Int) := by omega
     have hwr : IntKind.i64.wrap (3 + (r : Int)) = 3 + r := IntWalk.i64_in _ (by omega)
     simp only [Act.put, zl]
     refine dw_val rfl rfl rfl ?_; apply Exists.intro; refine ⟨fun wv HC => ?_, ?_⟩
     · go_simp <;> rfl
     simp only [Act.put, zl]
     refine dw_val rfl rfl rfl ?_; apply Exists.intro; refine ⟨fun wv HC => ?_, ?_⟩
     · go_simp <;> rfl
     simp only [Act.put, zl]
     refine dw_val rfl rfl rfl ?_; apply Exists.intro; refine ⟨fun wv HC => ?_, ?_⟩
     ·obtain q0 := (HH1.out _ HC).cell 0; obtain q1 := (HH1.out _ HC).cell 1; go_simp <;> rfl
     simp only [Act.put, zl]
     refine dw_val rfl rfl rfl ?_; apply Exists.intro; refine ⟨fun wv HC => ?_, ?_⟩
     · go_simp <;> rfl
     simp only [Act.put, zl]
     refine dw_val rfl rfl rfl ?_; apply Exists.intro; refine ⟨fun wv HC => ?_, ?_⟩
     · go_simp <;> rfl
     simp only [Act.put, zl]
     refine dw_val rfl rfl rfl ?_; apply Exists.intro; refine ⟨fun wv HC => ?_, ?_⟩
     · go_simp <;> rfl
     simp only [Act.put, zl]
     refine dw_callR 77 (ExSlot (Mut M KL) (m + 2)) (f := 99) (args := #[.pointer (some ⟨T, 0, none⟩), .agg #[.slice fA fn fc, .slice sA sn sc], .int .i64 (1 + s), .int .i64 (depth - 1)]) rfl rfl rfl rfl (fun wv => ?_) (fun wv HC hrm hD => ?_) ?_
     ·go_simp <;> rfl
     ·obtain ⟨X0, X1, X2, X3⟩ := HH2.out _ HC
      refine (HE (Mut M KL) T wv HC.mutLt X2 X3 ⟨⟨fA, fn, fc, fl⟩, ⟨sA, sn, sc, sl⟩⟩ (1 + s) (depth - 1) (X0.less (mut_tpG HH4.out)) (X1.less (mut_tpG HH4.out)) hT HBE.out (by omega) (by omega)).mono ?_
      rintro e w5 ⟨x, rfl, hx, rx, t5, g5⟩
      exact ⟨_, rfl, ⟨x, rfl, hx, rx⟩, Hold.callT HC 4 HH4.out g5 t5, RM.grown g5 (.inr ⟨_, List.mem_of_getElem? HH4.out, rfl⟩)⟩
     rintro u wx HCx ⟨x, rfl, hx, rx⟩
     clear HCx hx rx
     simp only [Act.put, zl]
     refine dw_val rfl rfl rfl ?_; apply Exists.intro; refine ⟨fun wv HC => ?_, ?_⟩
     · go_simp <;> rfl
     simp only [Act.put, zl]
     refine dw_val rfl rfl rfl ?_; apply Exists.intro; refine ⟨fun wv HC => ?_, ?_⟩
     ·obtain q0 := (HH1.out _ HC).cell 0; obtain q1 := (HH1.out _ HC).cell 1; go_simp <;> rfl
     simp only [Act.put, zl]
     refine dw_val rfl rfl rfl ?_; apply Exists.intro; refine ⟨fun wv HC => ?_, ?_⟩
     · go_simp <;> rfl
     simp only [Act.put, zl]
     refine dw_val rfl rfl rfl ?_; apply Exists.intro; refine ⟨fun wv HC => ?_, ?_⟩
     · go_simp <;> rfl
     simp only [Act.put, zl]
     refine dw_val rfl rfl rfl ?_; apply Exists.intro; refine ⟨fun wv HC => ?_, ?_⟩
     · go_simp <;> rfl
     simp only [Act.put, zl]
     refine dw_callR 83 (ExSlot (Mut M KL) (m + 2)) (f := 99) (args := #[.pointer (some ⟨T, 0, none⟩), .agg #[.slice fA fn fc, .slice sA sn sc], .int .i64 (1 + s), .int .i64 (depth - 1)]) rfl rfl rfl rfl (fun wv => ?_) (fun wv HC hrm hD => ?_) ?_
     ·go_simp <;> rfl
     ·obtain ⟨X0, X1, X2, X3⟩ := HH2.out _ HC
      refine (HE (Mut M KL) T wv HC.mutLt X2 X3 ⟨⟨fA, fn, fc, fl⟩, ⟨sA, sn, sc, sl⟩⟩ (1 + s) (depth - 1) (X0.less (mut_tpG HH4.out)) (X1.less (mut_tpG HH4.out)) hT HBE.out (by omega) (by omega)).mono ?_
      rintro e w5 ⟨x, rfl, hx, rx, t5, g5⟩
      exact ⟨_, rfl, ⟨x, rfl, hx, rx⟩, Hold.callT HC 4 HH4.out g5 t5, RM.grown g5 (.inr ⟨_, List.mem_of_getElem? HH4.out, rfl⟩)⟩
     rintro u wx HCx ⟨x2, rfl, hx, rx⟩
     clear HCx hx rx
     simp only [Act.put, zl]
     refine rel_nil ?_
     rintro wx2 HX
     rintro _hrm HG
     have hu : ExSlot (Mut M KL) (m + 2) x.val wx2 := (GW_on (d := 77) rfl).1 (HG 8 _ rfl (by omega))
     have hu2 : ExSlot (Mut M KL) (m + 2) x2.val wx2 := (GW_on (d := 83) rfl).1 (HG 14 _ rfl (by omega))
     clear HG _hrm
     obtain ⟨y1, hy1, hok1, hro1⟩ := hu
     obtain ⟨y2, hy2, hok2, hro2⟩ := hu2
     rw [HKL.out] at HX hro1 hro2
     have HYA := hid (op_ok (d := m + 2) (kind := 5) (op := 3 + (r : Int)) (nt := false) (g := 0) (k := 2) (l := [y1, y2]) (i64_lit 5 (by decide)) (show I64 _ from ⟨by omega, by omega⟩) (by omega) (fun z hz => by
      simp only [List.mem_cons, List.not_mem_nil, or_false] at hz
      rcases hz with rfl | rfl
      ·exact hok1
      ·exact hok2))
     clear hok1 hok2
     rw [hy1, hy2]
     clear hy1 hy2 x x2
     rw [show y1.val = .agg #[.int .i64 y1.kind, .int .i64 y1.op, .bool y1.nt, .int .i64 y1.v.k, .int .i64 y1.v.i, .string y1.v.s, .string y1.tab, .string y1.nm, .slice y1.A y1.n y1.c, .slice y1.B y1.m y1.d] from rfl]
     rw [show y2.val = .agg #[.int .i64 y2.kind, .int .i64 y2.op, .bool y2.nt, .int .i64 y2.v.k, .int .i64 y2.v.i, .string y2.v.s, .string y2.tab, .string y2.nm, .slice y2.A y2.n y2.c, .slice y2.B y2.m y2.d] from rfl]
     go_wp2_with fail
     refine (bin_any (Mut M _) _ HX.mutLt (3 + r) y1 y2 (m + 2) hro1 hro2).mono ?_
     rintro e w6 ⟨g6, rfl, ry, b6⟩
     have HYB := hid (show ExGd (m + 1 + 2) (opE 5 (3 + r) false g6 2 [y1, y2]) from HYA.out)
     generalize opE 5 (3 + (r : Int)) false g6 2 [y1, y2] = y at *
     have HY := HYB
     have KC : Hold M (some T) w w6 [.blk gr 126 #[.int .i64 0, .int .i64 0, .bool false, .int .i64 0, .int .i64 0, .string ⟨#[]⟩, .string ⟨#[]⟩, .string ⟨#[]⟩, .slice none 0 0, .slice none 0 0], .cst gp 177 #[.slice fA fn fc, .slice sA sn sc], .ro (PlIn ⟨⟨fA, fn, fc, fl⟩, ⟨sA, sn, sc, sl⟩⟩), .ro Wds, .tp T, .ro (ExIn (m + 2 + 1) y)] := ((HX.call b6).add ry).pick [1, 2, 3, 4, 5, 0] (by decide) rfl
     clear HX hro1 hro2 ry b6 HYA HYB
     rw [show y.val = .agg #[.int .i64 y.kind, .int .i64 y.op, .bool y.nt, .int .i64 y.v.k, .int .i64 y.v.i, .string y.v.s, .string y.tab, .string y.nm, .slice y.A y.n y.c, .slice y.B y.m y.d] from rfl]
     have F9 := KC.facts
     simp only [factsL, cellsF, Nat.reduceAdd, zf, zl] at F9
     have KA := ((((((((((KC.store 0 rfl 0 (.int .i64 y.kind)).store 0 rfl 1 (.int .i64 y.op)).store 0 rfl 2 (.bool y.nt)).store 0 rfl 3 (.int .i64 y.v.k)).store 0 rfl 4 (.int .i64 y.v.i)).store 0 rfl 5 (.string y.v.s)).store 0 rfl 6 (.string y.tab)).store 0 rfl 7 (.string y.nm)).store 0 rfl 8 (.slice y.A y.n y.c)).store 0 rfl 9 (.slice y.B y.m y.d))
     simp only [zl] at KA
     have FA := KA.facts
     simp only [factsL, cellsF, Nat.reduceAdd, zf, zl] at FA
     have HR := hid ((KA.ro 5 rfl).less zm)
     have HT := hid (And.intro (KA.tp_ 4 rfl) KA.grow)
     clear KC KA
     go_wp2_with fail
     refine bodyPost_ret (v := .agg #[.int .i64 y.kind, .int .i64 y.op, .bool y.nt, .int .i64 y.v.k, .int .i64 y.v.i, .string y.v.s, .string y.tab, .string y.nm, .slice y.A y.n y.c, .slice y.B y.m y.d]) ?_ rfl ?_
     ·clear HT HR
      simp [results, Tryz.results156, go_sem, FA]
     ·exact ⟨y, rfl, HY.out.le (by omega), HR.out.imp (fun w2 h2 => h2.le (by omega)), HT.out.1, HT.out.2⟩
end Go.Proofs.YtnbbllkbefagmaaGreatDoor

namespace Go.Proofs.YtnbbllkbefagmaaGreatDoor
open Go.RowKit
set_option linter.unusedVariables false
set_option linter.unusedSimpArgs false
theorem plN_more {m : Nat} {p : Pl} (h : PlN (m + 1) p) {s : Sm} (hs : s ∈ p.tb.l) {A : Option Addr} {c : Nat} (hc : p.fr.n + 1 ≤ c) : PlN m (p.more s A c) := by
 have hn := h.n
 refine ⟨⟨⟨hc, ?_⟩, h.b.t, fun f hf => ?_, h.b.tc⟩, ?_, fun _ => trivial⟩
 ·show p.fr.n + 1 ≤ 100
  omega
 ·rcases List.mem_append.1 hf with hf | hf
  ·exact h.b.fc f hf
  ·simp only [List.mem_singleton] at hf
   subst hf
   exact h.b.tc s hs
 ·show p.fr.n + 1 + m ≤ 90
  omega
theorem SmsIn.len {s : SlP Sm} {w : World} (h : SmsIn s w) : s.l.length = s.n := SlP.In.len (s := s) (k := 2) (cel := Sm.cells) (P := SmIn) h (by omega) (fun _ => rfl)
theorem SmsIn.at_ {s : SlP Sm} {w : World} (h : SmsIn s w) {k : Nat} {x : Sm} (hx : s.l[k]? = some x) :
  ∃ b o, s.A = some ⟨b, o, none⟩ ∧ b < w.heap.size ∧ (∀ j u, j < 2 → x.cells[j]? = some u → w.cell? ⟨b, o + k * 2 + j, none⟩ = some u) ∧ SmIn x w := SlP.In.at_ (s := s) (k := 2) (cel := Sm.cells) (P := SmIn) h (by omega) (fun _ => rfl) hx
/-- a list of expressions with its place -/
def ExlIn (d : Nat) (s : SlP Ex) (w : World) : Prop := s.In 10 Ex.cells (ExIn d) w
theorem exl_one {d g : Nat} {x : Ex} {M : Nat → Prop} {w : World} {t : TypeId} {cs : Array Value} (h : Ro w M (fun w => w.heap[g]? = some (.cells cs t (0, 0)))) (hl : cs.toList = exCells [x]) (hr : Ro w M (ExIn d x)) : Ro w M (ExlIn d ⟨some ⟨g, 0, none⟩, 1, 1, [x]⟩) :=
 exs_block (l := [x]) h hl (fun z hz => by
  simp only [List.mem_cons, List.not_mem_nil, or_false] at hz
  subst hz
  exact hr)
def ItOk (d : Nat) (s : SlP Ex) : Prop := (s.n ≤ s.c ∧ s.c ≤ 9223372036854775807) ∧ s.l.length ≤ 1 ∧ ∀ x ∈ s.l, ExGd d x
theorem exl_one_ok {d g : Nat} {x : Ex} (h : ExGd d x) : ItOk d (⟨some ⟨g, 0, none⟩, 1, 1, [x]⟩ : SlP Ex) := ⟨⟨Nat.le_refl _, by simp⟩, by simp, fun z hz => by
 simp only [List.mem_cons, List.not_mem_nil, or_false] at hz
 subst hz
 exact h⟩
theorem exl_nil_ok {d : Nat} : ItOk d (SlP.nil : SlP Ex) := ⟨⟨Nat.le_refl _, by simp [SlP.nil]⟩, by simp [SlP.nil], fun z hz => (nomatch hz)⟩
def quE (kind : Int) (g : Nat) (q : Qu) : Ex := ⟨kind, 0, false, vlZ, ⟨#[]⟩, ⟨#[]⟩, none, 0, 0, [], some ⟨g, 0, none⟩, 1, 1, [q]⟩
def quOf (star : Bool) (it : SlP Ex) (nm : ByteArray) (wh : SlP Ex) : Qu := ⟨star, it.A, it.n, it.c, it.l, nm, wh.A, wh.n, wh.c, wh.l⟩
theorem quE_ok {d : Nat} {kind : Int} {g : Nat} {star : Bool} {it wh : SlP Ex} {nm : ByteArray} (hk : I64 kind) (hk1 : 1 ≤ kind) (h1 : ItOk d it) (h2 : ItOk d wh) : ExGd (d + 1) (quE kind g (quOf star it nm wh)) := by
 refine ⟨⟨hk, i64_lit 0 (by decide), i64_lit 0 (by decide), i64_lit 0 (by decide), Nat.le_refl _, by simp [quE], Nat.le_refl _, by simp [quE]⟩, ⟨hk1, by simp [quE], by simp [quE]⟩, fun a ha => (nomatch ha), fun q hq => ?_⟩
 have hq : q ∈ [quOf star it nm wh] := hq
 simp only [List.mem_cons, List.not_mem_nil, or_false] at hq
 subst hq
 have h3 := h1.2.1
 exact ⟨⟨h1.1.1, h1.1.2, h2.1.1, h2.1.2⟩, ⟨by show it.l.length ≤ 8; omega, h2.2.1⟩, h1.2.2, h2.2.2⟩
theorem quE_in {d : Nat} {kind : Int} {g : Nat} {star : Bool} {it wh : SlP Ex} {nm : ByteArray} {w : World} (h : SlR 4 (some ⟨g, 0, none⟩) 1 (Qu.cells (quOf star it nm wh)) w) (h1 : ExlIn d it w) (h2 : ExlIn d wh w) : ExIn (d + 1) (quE kind g (quOf star it nm wh)) w := by
 refine ⟨slr_nil 10 w, fun a ha => (nomatch ha), ?_, fun q hq => ?_⟩
 ·show SlR 4 (some ⟨g, 0, none⟩) 1 (quCells [quOf star it nm wh]) w
  simpa [quCells] using h
 ·have hq : q ∈ [quOf star it nm wh] := hq
  simp only [List.mem_cons, List.not_mem_nil, or_false] at hq
  subst hq
  exact ⟨h1, h2.1, h2.2⟩
set_option maxRecDepth 100000 in
set_option maxHeartbeats 16000000 in
theorem gquery_of {m : Nat} (HE : GE m) : GQ (m + 1) := by
 intro M T w hM ht hMT p kind depth hp hW hT hB hd hd2 hs hk hk1
 have HBM := hid (fun (s : Sm) (hs : s ∈ p.tb.l) (A : Option Addr) (c : Nat) (hc : p.fr.n + 1 ≤ c) => plN_more hB hs (A := A) hc)
 obtain ⟨⟨fA, fn, fc, fl⟩, ⟨sA, sn, sc, sl⟩⟩ := p
 have hs : 0 < sn := hs
 have HSL := hid (show sl.length = sn from SmsIn.len hp.now.2)
 obtain ⟨bS, oS, eS, -, -⟩ := (show Rd w w.heap.size 2 sA sn (sl.flatMap Sm.cells) from hp.now.2.1).2 hs
 obtain rfl : sA = some ⟨bS, oS, none⟩ := eS
 have KS := ((((Hold.startT M w T hM ht hMT).add hW).add (hp.less (by simp [mut_cons, Mut, Hp.foot]))).alloc_cst #[.slice fA fn fc, .slice (some ⟨bS, oS, none⟩) sn sc] 177).alloc #[.int .i64 0, .int .i64 0, .bool false, .int .i64 0, .int .i64 0, .string ⟨#[]⟩, .string ⟨#[]⟩, .string ⟨#[]⟩, .slice none 0 0, .slice none 0 0] 126
 rw [World.size_alloc] at KS
 obtain ⟨gp, hgp⟩ : ∃ g, g = w.heap.size := ⟨_, rfl⟩
 rw [← hgp] at KS
 obtain ⟨gr, hgr⟩ : ∃ g, g = gp + 1 := ⟨_, rfl⟩
 rw [← hgr] at KS
 have hm90 : m ≤ 90 ∧ fn ≤ 100 := by have h1 : fn + (m + 1) ≤ 90 := hB.n; omega
 have hsn : sn ≤ 100 := hB.b.t.2
 simp only [Pl.val]
 clear hp hW hB
 go_enter Tryz.func155, Tryz.ntmps155
 obtain ⟨KL, hKL⟩ : ∃ KL : List Hp, KL = [.blk gr 126 #[.int .i64 0, .int .i64 0, .bool false, .int .i64 0, .int .i64 0, .string ⟨#[]⟩, .string ⟨#[]⟩, .string ⟨#[]⟩, .slice none 0 0, .slice none 0 0], .cst gp 177 #[.slice fA fn fc, .slice (some ⟨bS, oS, none⟩) sn sc], .ro (PlIn ⟨⟨fA, fn, fc, fl⟩, ⟨some ⟨bS, oS, none⟩, sn, sc, sl⟩⟩), .ro Wds, .tp T] := ⟨_, rfl⟩
 have hcast : ∀ (L1 : List Hp) (wz : World), Hold M (some T) w wz L1 → L1 = KL → Hold M (some T) w wz KL := fun _ _ h e => e ▸ h
 have K6 := hcast _ _ KS hKL.symm
 have H1 : ∀ wv : World, Hold M (some T) w wv KL → Blk wv gp 177 #[.slice fA fn fc, .slice (some ⟨bS, oS, none⟩) sn sc] := fun wv h => by rw [hKL] at h; exact h.cst_ 1 rfl
 have H2 : ∀ wv : World, Hold M (some T) w wv KL → Ro wv (Mut M KL) (PlIn ⟨⟨fA, fn, fc, fl⟩, ⟨some ⟨bS, oS, none⟩, sn, sc, sl⟩⟩) ∧ Ro wv (Mut M KL) Wds ∧ Tp wv T ∧ ∀ b, (Mut M KL) b → T ≤ b := fun wv h => by rw [hKL] at h ⊢; exact ⟨h.ro 2 rfl, h.ro 3 rfl, h.tp_ 4 rfl, (h.get 4 rfl).2⟩
 have h4 : KL[4]? = some (.tp T) := by rw [hKL]; rfl
 have HH1 := hid H1
 have HH2 := hid H2
 have HH4 := hid h4
 have HKL := hid hKL
 clear hKL hcast H1 H2 h4 KS
 have H5 : ∀ wv : World, Hold M (some T) w wv KL → ∀ k x, sl[k]? = some x → wv.cell? ⟨bS, oS + k * 2, none⟩ = some (.string x.nm) ∧ wv.cell? ⟨bS, oS + k * 2 + 1, none⟩ = some (.slice x.cols.A x.cols.n x.cols.c) := fun wv h k x hx => by
  rw [HKL.out] at h
  obtain ⟨b, o, e, -, hc, -⟩ := SmsIn.at_ (h.ro 2 rfl).now.2 hx
  have e : some (⟨bS, oS, none⟩ : Addr) = some ⟨b, o, none⟩ := e
  obtain ⟨rfl, rfl⟩ : bS = b ∧ oS = o := by injection e with e; injection e with e1 e2; exact ⟨e1, e2⟩
  exact ⟨hc 0 _ (by omega) rfl, hc 1 _ (by omega) rfl⟩
 have HH5 := hid H5
 clear H5
 go_wp2_with fail
 rw [← hgp]
 try rw [← hgr]
 have HG := hid (And.intro hgp hgr)
 clear hgp hgr
 refine wp_region_any (by kernel_rfl) ?_
 refine wpAny_hold 10 52 (KL) (spL [(18, fun u _ => NatB sn u), (9, NewSlot (Mut M KL) (gr + 1) 49 #[.string ⟨#[]⟩, .slice none 0 0])]) (by kernel_rfl) (by kernel_rfl) (by kernel_rfl) rfl ?_ (K6.drew) ?_
 ·exact stays_cons (fun _ _ _ _ h => h) (stays_cons newSlot_mono (stays_nil _))
 simp only [zd, Act.put, List.getElem_toArray, List.getElem_cons_zero, List.getElem_cons_succ, zl]
 refine dw_val rfl rfl rfl ?_; apply Exists.intro; refine ⟨fun wv HC => ?_, ?_⟩
 · go_simp <;> rfl
 simp only [Act.put, zl]
 refine dw_val rfl rfl rfl ?_; apply Exists.intro; refine ⟨fun wv HC => ?_, ?_⟩
 ·obtain q1 := (HH1.out _ HC).cell 1; go_simp <;> rfl
 simp only [Act.put, zl]
 refine dw_val rfl rfl rfl ?_; apply Exists.intro; refine ⟨fun wv HC => ?_, ?_⟩
 · go_simp <;> rfl
 simp only [Act.put, zl]
 refine dw_val rfl rfl rfl ?_; apply Exists.intro; refine ⟨fun wv HC => ?_, ?_⟩
 · go_simp <;> rfl
 simp only [Act.put, zl]
 refine dw_val rfl rfl rfl ?_; apply Exists.intro; refine ⟨fun wv HC => ?_, ?_⟩
 ·obtain q1 := (HH1.out _ HC).cell 1; go_simp <;> rfl
 simp only [Act.put, zl]
 refine dw_val rfl rfl rfl ?_; apply Exists.intro; refine ⟨fun wv HC => ?_, ?_⟩
 · go_simp <;> rfl
 simp only [Act.put, zl]
 refine dw_next sn 4 HH4.out 18 rfl rfl rfl rfl (fun wv => ?_) (fun r hr => ?_)
 ·go_simp <;> rfl
 have r6 : (r : Int) < sn := by omega
 have r0 : (0 : Int) ≤ (r : Int) := by omega
 obtain ⟨x, hx⟩ := get_anyG HSL.out hr
 have HX0 := hid hx
 clear hx
 simp only [Act.put, zl]
 refine dw_val rfl rfl rfl ?_; apply Exists.intro; refine ⟨fun wv HC => ?_, ?_⟩
 · go_simp <;> rfl
 simp only [Act.put, zl]
 refine dw_val rfl rfl rfl ?_; apply Exists.intro; refine ⟨fun wv HC => ?_, ?_⟩
 ·obtain ⟨q2, q3⟩ := HH5.out _ HC r x HX0.out; go_simp <;> rfl
 simp only [Act.put, zl]
 refine dw_new #[.string ⟨#[]⟩, .slice none 0 0] 49 9 (NewSlot (Mut M KL) (gr + 1) 49 #[.string ⟨#[]⟩, .slice none 0 0]) (fun g => .pointer (some ⟨g, 0, none⟩)) rfl rfl rfl rfl (fun wv => ?_) (fun wv HC hrm hD hro => ?_) ?_
 ·go_simp <;> rfl
 ·exact ⟨_, rfl, by have := hrm.1; simp only [World.size_alloc, World.size_drew] at this; have := HG.out; omega, hro _ HC.mutLt⟩
 rintro gs wg HCg hsl
 clear HCg hsl
 simp only [Act.put, zl]
 refine rel_nil ?_
 rintro wx2 HX
 rintro _hrm HGW
 have hu : NewSlot (Mut M KL) (gr + 1) 49 #[.string ⟨#[]⟩, .slice none 0 0] (.pointer (some ⟨gs, 0, none⟩)) wx2 := (GW_on (d := 9) rfl).1 (HGW 9 _ rfl (by omega))
 clear HGW
 obtain ⟨gs', e', hg1, hg2⟩ := hu
 obtain rfl : gs = gs' := by injection e' with e'; injection e' with e'; injection e'
 clear e'
 have HB := Hold.addFreshBlk K6.drew HX _hrm (by simp only [World.size_alloc, World.size_drew]; have := HG.out; omega) hg2.now
 rw [HKL.out] at HB
 clear HX _hrm hg2 K6 HH1 HH2 HH4 HH5 HKL
 have hxm : x ∈ sl := List.mem_of_getElem? HX0.out
 obtain ⟨xnm, ⟨cA, cn, cc, cl⟩⟩ := x
 simp only
 have K7 := (HB.store 0 rfl 0 (.string xnm)).store 0 rfl 1 (.slice cA cn cc)
 simp only [zl] at K7
 have F0 := HB.facts
 simp only [factsL, cellsF, Nat.reduceAdd, zf, zl] at F0
 have F7 := K7.facts
 simp only [factsL, cellsF, Nat.reduceAdd, zf, zl] at F7
 clear HB
 go_wp2_with fail
 refine (inside_any (Mut M _) _ K7.mutLt ⟨⟨fA, fn, fc, fl⟩, ⟨some ⟨bS, oS, none⟩, sn, sc, sl⟩⟩ ⟨xnm, ⟨cA, cn, cc, cl⟩⟩ (K7.ro 3 rfl) ((K7.ro 3 rfl).imp fun w2 h2 => h2.2.2 _ hxm) (by have := hm90; show fn ≤ 1000; omega)).mono ?_
 rintro e w5 ⟨A9, c9, rfl, hc9, ro9, b9⟩
 have HIN := hid (HBM.out ⟨xnm, ⟨cA, cn, cc, cl⟩⟩ hxm A9 c9 hc9)
 simp only [Pl.val, Pl.more] at *
 obtain ⟨fl2, hfl2⟩ : ∃ l, l = fl ++ [(⟨xnm, false, ⟨cA, cn, cc, cl⟩, SlP.nil⟩ : Fr)] := ⟨_, rfl⟩
 rw [← hfl2] at ro9 HIN
 clear hfl2 HBM HX0 HSL F0 F7 hxm
 have K8 := ((K7.call b9).add ro9).alloc #[.slice A9 (fn + 1) c9, .slice (some ⟨bS, oS, none⟩) sn sc] 177
 have F8a := (K7.call b9).facts
 simp only [factsL, cellsF, Nat.reduceAdd, zf, zl] at F8a
 have F8 := K8.facts
 simp only [factsL, cellsF, Nat.reduceAdd, zf, zl] at F8
 have KR := K8.alloc #[.bool (kind == 8), .slice none 0 0, .string xnm, .slice none 0 0] 273
 rw [World.size_alloc] at KR
 have FR := KR.facts
 simp only [factsL, cellsF, Nat.reduceAdd, zf, zl] at FR
 clear K7 b9 ro9 K8
 go_upto_if 30 with (fail)
 obtain ⟨gi, hgi⟩ : ∃ g, g = w5.heap.size := ⟨_, rfl⟩
 rw [← hgi] at KR FR ⊢
 obtain ⟨gq, hgq⟩ : ∃ g, g = gi + 1 := ⟨_, rfl⟩
 rw [← hgq] at KR FR ⊢
 have HGI := hid (And.intro hgi hgq)
 clear hgi hgq F8 F8a
 have hs2 : IntKind.i64.wrap (depth - 2) = depth - 2 := IntWalk.i64_in _ (by omega)
 have hs1 : IntKind.i64.wrap (depth - 1) = depth - 1 := IntWalk.i64_in _ (by omega)
 go_cut [] (fun wx => ∃ it : SlP Ex, ItOk (m + 2) it ∧ Hold M (some T) w wx [.blk gq 273 #[.bool (kind == 8), .slice it.A it.n it.c, .string xnm, .slice none 0 0], .ro (ExlIn (m + 2) it), .blk gi 177 #[.slice A9 (fn + 1) c9, .slice (some ⟨bS, oS, none⟩) sn sc], .ro (PlIn ⟨⟨A9, fn + 1, c9, fl2⟩, ⟨some ⟨bS, oS, none⟩, sn, sc, sl⟩⟩), .blk gr 126 #[.int .i64 0, .int .i64 0, .bool false, .int .i64 0, .int .i64 0, .string ⟨#[]⟩, .string ⟨#[]⟩, .string ⟨#[]⟩, .slice none 0 0, .slice none 0 0], .ro Wds, .tp T])
 case first =>
  by_cases h10 : 10 ≤ kind
  ·go_wp2_with fail
   refine (HE (Mut M _) T _ KR.mutLt (KR.tp_ 8 rfl) (KR.get 8 rfl).2 ⟨⟨A9, fn + 1, c9, fl2⟩, ⟨some ⟨bS, oS, none⟩, sn, sc, sl⟩⟩ 1 (depth - 2) ((KR.ro 2 rfl).less (mut_tpG (i := 8) rfl)) ((KR.ro 7 rfl).less (mut_tpG (i := 8) rfl)) hT HIN.out (by omega) (by omega)).mono ?_
   rintro e w6 ⟨x, rfl, hx, rx, tY, gY⟩
   have K7 := ((Hold.callT KR 8 rfl gY tY).add rx).alloc_cst #[.int .i64 x.kind, .int .i64 x.op, .bool x.nt, .int .i64 x.v.k, .int .i64 x.v.i, .string x.v.s, .string x.tab, .string x.nm, .slice x.A x.n x.c, .slice x.B x.m x.d] 126
   rw [show x.val = .agg #[.int .i64 x.kind, .int .i64 x.op, .bool x.nt, .int .i64 x.v.k, .int .i64 x.v.i, .string x.v.s, .string x.tab, .string x.nm, .slice x.A x.n x.c, .slice x.B x.m x.d] from rfl]
   clear FR KR rx tY gY
   have F7 := K7.facts
   simp only [factsL, cellsF, Nat.reduceAdd, zf, zl] at F7
   have K8 := K7.store 2 rfl 1 (.slice (some ⟨w6.heap.size, 0, none⟩) 1 1)
   simp only [zl] at K8
   clear K7
   go_wp2_with fail
   go_meet
   exact ⟨⟨some ⟨w6.heap.size, 0, none⟩, 1, 1, [x]⟩, exl_one_ok hx, (K8.add (exl_one (K8.get 0 rfl) rfl (K8.ro 1 rfl))).pick [3, 0, 4, 5, 7, 10, 11] (by decide) rfl⟩
  ·go_wp2_with fail
   go_meet
   exact ⟨SlP.nil, exl_nil_ok, (KR.add (S := ExlIn (m + 2) SlP.nil) (fun w2 _ _ => SlP.nil_in _ _ _ w2)).pick [1, 0, 2, 3, 5, 8, 9] (by decide) rfl⟩
 case rest =>
  obtain ⟨⟨iA, iN, iC, il⟩, hit, K3⟩ := hcut
  clear KR FR
  simp only at K3
  have HIT := hid hit
  clear hit
  have F3 := K3.facts
  simp only [factsL, cellsF, Nat.reduceAdd, zf, zl] at F3
  go_wp2_with fail
  refine (bool_any T 3 _ (K3.tp_ 6 rfl) (by omega) (by omega)).mono ?_
  rintro e w7 ⟨b, rfl, t7, g7⟩
  have K4 := Hold.callT K3 6 rfl g7 t7
  clear K3 F3 g7 t7
  have F4 := K4.facts
  simp only [factsL, cellsF, Nat.reduceAdd, zf, zl] at F4
  go_upto_if 40 with (fail)
  go_cut [] (fun wx => ∃ wh : SlP Ex, ItOk (m + 2) wh ∧ Hold M (some T) w wx [.blk gq 273 #[.bool (kind == 8), .slice iA iN iC, .string xnm, .slice wh.A wh.n wh.c], .ro (ExlIn (m + 2) ⟨iA, iN, iC, il⟩), .ro (ExlIn (m + 2) wh), .blk gr 126 #[.int .i64 0, .int .i64 0, .bool false, .int .i64 0, .int .i64 0, .string ⟨#[]⟩, .string ⟨#[]⟩, .string ⟨#[]⟩, .slice none 0 0, .slice none 0 0], .tp T])
  case first =>
   cases b
   ·go_wp2_with fail
    refine (HE (Mut M _) T _ K4.mutLt (K4.tp_ 6 rfl) (K4.get 6 rfl).2 ⟨⟨A9, fn + 1, c9, fl2⟩, ⟨some ⟨bS, oS, none⟩, sn, sc, sl⟩⟩ 2 (depth - 1) ((K4.ro 3 rfl).less (mut_tpG (i := 6) rfl)) ((K4.ro 5 rfl).less (mut_tpG (i := 6) rfl)) hT HIN.out (by omega) (by omega)).mono ?_
    rintro e w6 ⟨x, rfl, hx, rx, tY, gY⟩
    have K7 := ((Hold.callT K4 6 rfl gY tY).add rx).alloc_cst #[.int .i64 x.kind, .int .i64 x.op, .bool x.nt, .int .i64 x.v.k, .int .i64 x.v.i, .string x.v.s, .string x.tab, .string x.nm, .slice x.A x.n x.c, .slice x.B x.m x.d] 126
    rw [show x.val = .agg #[.int .i64 x.kind, .int .i64 x.op, .bool x.nt, .int .i64 x.v.k, .int .i64 x.v.i, .string x.v.s, .string x.tab, .string x.nm, .slice x.A x.n x.c, .slice x.B x.m x.d] from rfl]
    clear F4 K4 rx tY gY
    have F7 := K7.facts
    simp only [factsL, cellsF, Nat.reduceAdd, zf, zl] at F7
    have K8 := K7.store 2 rfl 3 (.slice (some ⟨w6.heap.size, 0, none⟩) 1 1)
    simp only [zl] at K8
    clear K7
    go_wp2_with fail
    go_meet
    exact ⟨⟨some ⟨w6.heap.size, 0, none⟩, 1, 1, [x]⟩, exl_one_ok hx, (K8.add (exl_one (K8.get 0 rfl) rfl (K8.ro 1 rfl))).pick [3, 4, 0, 7, 9] (by decide) rfl⟩
   ·go_wp2_with fail
    go_meet
    exact ⟨SlP.nil, exl_nil_ok, (K4.add (S := ExlIn (m + 2) SlP.nil) (fun w2 _ _ => SlP.nil_in _ _ _ w2)).pick [1, 2, 0, 5, 7] (by decide) rfl⟩
  case rest =>
   obtain ⟨⟨hA, hN, hC, hl⟩, hwh, K5⟩ := hcut
   clear K4 F4
   simp only at K5
   have HOK := hid (fun g : Nat => quE_ok (g := g) (star := (kind == 8)) (nm := xnm) hk hk1 HIT.out hwh)
   clear hwh
   have K6 := K5.alloc_cst #[.bool (kind == 8), .slice iA iN iC, .string xnm, .slice hA hN hC] 273
   have q0 := (K5.blk_ 0 rfl).cell 0
   have q1 := (K5.blk_ 0 rfl).cell 1
   have q2 := (K5.blk_ 0 rfl).cell 2
   have q3 := (K5.blk_ 0 rfl).cell 3
   simp only [List.getElem?_toArray, List.getElem?_cons_zero, List.getElem?_cons_succ] at q0 q1 q2 q3
   have F6 := K6.facts
   simp only [factsL, cellsF, Nat.reduceAdd, zf, zl] at F6
   have K7 := ((((((((((K6.store 4 rfl 0 (.int .i64 kind)).store 4 rfl 1 (.int .i64 0)).store 4 rfl 2 (.bool false)).store 4 rfl 3 (.int .i64 0)).store 4 rfl 4 (.int .i64 0)).store 4 rfl 5 (.string ⟨#[]⟩)).store 4 rfl 6 (.string ⟨#[]⟩)).store 4 rfl 7 (.string ⟨#[]⟩)).store 4 rfl 8 (.slice none 0 0)).store 4 rfl 9 (.slice (some ⟨wc.heap.size, 0, none⟩) 1 1))
   simp only [zl] at K7
   have F7 := K7.facts
   simp only [factsL, cellsF, Nat.reduceAdd, zf, zl] at F7
   have hq1 : Ro _ _ (SlR 4 (some ⟨wc.heap.size, 0, none⟩) 1 [.bool (kind == 8), .slice iA iN iC, .string xnm, .slice hA hN hC]) := ro_block (K7.get 0 rfl) rfl
   have HR := hid (((hq1.and ((K7.ro 2 rfl).and (K7.ro 3 rfl))).imp (S' := ExIn (m + 2 + 1) (quE kind wc.heap.size (quOf (kind == 8) ⟨iA, iN, iC, il⟩ xnm ⟨hA, hN, hC, hl⟩))) fun w2 h2 => quE_in h2.1 h2.2.1 h2.2.2).less zm)
   have HT := hid (And.intro (K7.tp_ 5 rfl) K7.grow)
   clear K5 K6 K7 hq1
   go_wp2_with fail
   refine bodyPost_ret (v := .agg #[.int .i64 kind, .int .i64 0, .bool false, .int .i64 0, .int .i64 0, .string ⟨#[]⟩, .string ⟨#[]⟩, .string ⟨#[]⟩, .slice none 0 0, .slice (some ⟨wc.heap.size, 0, none⟩) 1 1]) ?_ rfl ?_
   ·clear HT HR HOK HIT
    simp [results, Tryz.results155, go_sem, F7]
   ·exact ⟨quE kind wc.heap.size (quOf (kind == 8) ⟨iA, iN, iC, il⟩ xnm ⟨hA, hN, hC, hl⟩), rfl, (HOK.out _).le (by omega), HR.out.imp (fun w2 h2 => h2.le (by omega)), HT.out.1, HT.out.2⟩
end Go.Proofs.YtnbbllkbefagmaaGreatDoor

namespace Go.Proofs.YtnbbllkbefagmaaGreatDoor
open Go.RowKit
set_option linter.unusedVariables false
theorem ge_all : ∀ n : Nat, GE n
  | 0 => gexpr_of (fun m h => absurd h (by omega)) (fun h => absurd h (by omega)) (fun h => absurd h (by omega))
  | n + 1 => gexpr_of (fun m h => by obtain rfl : n = m := by omega
                                     exact ge_all n) (fun _ => gquery_of (ge_all n)) (fun _ => gcond_of (ge_all n))
end Go.Proofs.YtnbbllkbefagmaaGreatDoor

namespace Go.Proofs.YtnbbllkbefagmaaGreatDoor
open Go.RowKit
def Ac.val (a : Ac) : Value := .agg #[.int .i64 a.kind, .string a.tab, .slice a.rows.A a.rows.n a.rows.c, .slice a.qs.A a.qs.n a.qs.c, .slice a.sets.A a.sets.n a.sets.c, .slice a.wh.A a.wh.n a.wh.c, .string a.text]
def Tg.val (t : Tg) : Value := .agg #[.string t.name, .string t.tab, .bool t.before, .int .i64 t.event, .slice t.cols.A t.cols.n t.cols.c, .bool t.each, .slice t.prec.A t.prec.n t.prec.c, .slice t.foll.A t.foll.n t.foll.c, .slice t.rank.A t.rank.n t.rank.c, .slice t.cond.A t.cond.n t.cond.c, .slice t.acts.A t.acts.n t.acts.c]
def tgCells (l : List Tg) : List Value := l.flatMap Tg.cells
def TgsIn (d : Nat) (A : Option Addr) (n : Nat) (l : List Tg) (w : World) : Prop := SlR 11 A n (tgCells l) w ∧ ∀ t ∈ l, TgIn d t w
def TgsOf (d : Nat) (l : List Tg) (w : World) : Prop := ∀ t ∈ l, TgIn d t w
theorem tgCells_snoc (l : List Tg) (x : Tg) : tgCells (l ++ [x]) = tgCells l ++ x.cells := by simp [tgCells]
theorem TgsIn.len {d : Nat} {A : Option Addr} {n : Nat} {l : List Tg} {w : World} (h : TgsIn d A n l w) : l.length = n := SlP.In.len (s := ⟨A, n, 0, l⟩) (k := 11) (cel := Tg.cells) (P := TgIn d) h (by omega) (fun _ => rfl)
theorem TgsIn.at_ {d : Nat} {w : World} {A : Option Addr} {n : Nat} {l : List Tg} (h : TgsIn d A n l w) {k : Nat} {x : Tg} (hx : l[k]? = some x) :
  ∃ b o, A = some ⟨b, o, none⟩ ∧ b < w.heap.size ∧ (∀ j u, j < 11 → x.cells[j]? = some u → w.cell? ⟨b, o + k * 11 + j, none⟩ = some u) ∧ TgIn d x w := SlP.In.at_ (s := ⟨A, n, 0, l⟩) (k := 11) (cel := Tg.cells) (P := TgIn d) h (by omega) (fun _ => rfl) hx
end Go.Proofs.YtnbbllkbefagmaaGreatDoor

namespace Go.Proofs.YtnbbllkbefagmaaGreatDoor
open Go.RowKit
set_option linter.unusedVariables false
set_option linter.unusedSimpArgs false
def FrmRet (w : World) (M : Nat → Prop) (s : Sm) (e : Ending) (w' : World) : Prop := ∃ fs : SlP Fr, e = .returned fs.v ∧ fs.n ≤ fs.c ∧ fs.n ≤ 2 ∧ (∀ f ∈ fs.l, f.cols.n = s.cols.n) ∧ Ro w' M (FrsIn fs) ∧ Below w.heap.size w w'
set_option maxRecDepth 100000 in
set_option maxHeartbeats 8000000 in
theorem frames_nil (M : Nat → Prop) (w : World) (hM : ∀ b, M b → b < w.heap.size) (t : Tg) (s : Sm) (hs : Ro w M (SmIn s)) (hn : s.cols.n ≤ 1000) : Calls Tryz.prog 75 #[t.val, s.val, .slice none 0 0, .slice none 0 0] w fun e w' => FrmRet w M s e w' := by
 obtain ⟨tn, tt, tb, te, ⟨oA, on, oc, ol⟩, tch, ⟨pA, pn, pc, pl⟩, ⟨qA, qn, qc, ql⟩, ⟨rA, rn, rc, rl⟩, ⟨kA, kn, kc, kl⟩, ⟨aA, an, ac, al⟩⟩ := t
 obtain ⟨snm, ⟨cA, cn, cc, cl⟩⟩ := s
 have hcn : cn ≤ 1000 := hn
 have K0 := ((((Hold.start M w hM).add (hs.less (by simp [Mut]))).alloc_cst #[.string tn, .string tt, .bool tb, .int .i64 te, .slice oA on oc, .bool tch, .slice pA pn pc, .slice qA qn qc, .slice rA rn rc, .slice kA kn kc, .slice aA an ac] 40).alloc_cst #[.string snm, .slice cA cn cc] 49).nil 210 4
 have F0 := K0.facts
 simp only [factsL, cellsF, Nat.reduceAdd, zf, zl] at F0
 rw [World.size_alloc] at K0
 have KP : Hold M none w _ [.own 210 4 (.slice none 0 0) 0 [], .ro (SmIn ⟨snm, ⟨cA, cn, cc, cl⟩⟩), .cst w.heap.size 40 #[.string tn, .string tt, .bool tb, .int .i64 te, .slice oA on oc, .bool tch, .slice pA pn pc, .slice qA qn qc, .slice rA rn rc, .slice kA kn kc, .slice aA an ac], .cst (w.heap.size + 1) 49 #[.string snm, .slice cA cn cc]] := K0.pick [0, 3, 2, 1] (by decide) rfl
 simp only [Tg.val, Sm.val]
 clear hs K0
 go_enter Tryz.func75, Tryz.ntmps75
 cases tch
 ·have HB := hid KP.below
  go_wp2_with fail
  go_ret
  exact ⟨SlP.nil, rfl, Nat.le_refl _, by simp [SlP.nil], fun f hf => (nomatch hf), fun w2 _ _ => ⟨slr_nil 4 w2, fun _ hx => (nomatch hx)⟩, HB.out⟩
 ·by_cases e2 : te = 2
  ·subst e2
   have N1 := KP.nil 158 4
   have H1 := hid (show SlR 4 cA cn (colCells cl) _ from (N1.ro 2 rfl).now.1)
   go_wp2_with (at_builtin; go_must (refine wpList_appAllH N1 0 rfl Tryz.elCol H1.out rfl (.const (.slice none 0 0)) (.tmp 24) rfl rfl rfl (one_cols cl) (by omega) (by omega) ?_); intro C1 cap1 wA1 hcA1 hmA1 KB1; simp only [Nat.zero_add] at hcA1 ⊢; simp only [Nat.zero_add, List.nil_append, List.set_cons_zero, List.set_cons_succ] at KB1)
   have KS1 := KB1.sealRow 0 rfl
   simp only [List.set_cons_zero] at KS1
   refine (copyVls_any (Mut M _) _ KS1.mutLt none 0 0 [] (fun w2 _ _ => slr_nil 3 w2) (by omega)).mono ?_
   rintro e w1 ⟨D1, dn1, dc1, rfl, hd01, hd11, hd21, ro1, b1⟩
   obtain rfl : dn1 = 0 := by simpa using hd01
   clear hd01
   have KD1 := ((KS1.call b1).add ro1).alloc_cst #[.string ⟨#[79, 76, 68]⟩, .bool true, .slice C1 cn cap1, .slice D1 0 dc1] 210
   have FD1 := KD1.facts
   simp only [factsL, cellsF, Nat.reduceAdd, zf, zl] at FD1
   have E1 := hid (show SlR 4 (some ⟨w1.heap.size, 0, none⟩) 1 [.string ⟨#[79, 76, 68]⟩, .bool true, .slice C1 cn cap1, .slice D1 0 dc1] _ from ((ro_block (KD1.get 0 rfl) rfl : Ro _ _ _).now))
   clear KB1 KS1 b1 ro1
   go_upto_region 4 with (at_builtin; go_must (refine wpList_appAllH KD1 3 rfl Tryz.elFr E1.out rfl (.tmp 22) (.tmp 29) rfl rfl rfl (by intro u hu; simp at hu; rcases hu with rfl | rfl | rfl | rfl <;> rfl) (by omega) (by omega) ?_); intro G1 gc1 wB1 hcB1 hmB1 KE1; (try simp only [Nat.zero_add, Nat.reduceAdd] at hcB1 ⊢); simp only [Nat.zero_add, Nat.reduceAdd, List.nil_append, List.set_cons_zero, List.set_cons_succ] at KE1; (have hf1 : Ro _ _ (FrIn ⟨⟨#[79, 76, 68]⟩, true, ⟨C1, cn, cap1, cl⟩, ⟨D1, 0, dc1, []⟩⟩) := ((KE1.ro 2 rfl).and (KE1.ro 1 rfl)).imp fun w2 h2 => ⟨⟨h2.1, fun _ _ => trivial⟩, ⟨h2.2, fun _ hx => (nomatch hx)⟩⟩); (have K1 : Hold M none w wB1 [.own 210 4 (.slice G1 1 gc1) 1 [.string ⟨#[79, 76, 68]⟩, .bool true, .slice C1 cn cap1, .slice D1 0 dc1], .ro (SmIn ⟨snm, ⟨cA, cn, cc, cl⟩⟩), .cst w.heap.size 40 #[.string tn, .string tt, .bool tb, .int .i64 2, .slice oA on oc, .bool true, .slice pA pn pc, .slice qA qn qc, .slice rA rn rc, .slice kA kn kc, .slice aA an ac], .cst (w.heap.size + 1) 49 #[.string snm, .slice cA cn cc], .ro (FrIn ⟨⟨#[79, 76, 68]⟩, true, ⟨C1, cn, cap1, cl⟩, ⟨D1, 0, dc1, []⟩⟩)] := (KE1.add hf1).pick [4, 5, 6, 7, 0] (by decide) rfl); (have F1 := K1.facts); simp only [factsL, cellsF, Nat.reduceAdd, zf, zl] at F1; clear KE1 KD1 FD1 hf1)
   have N2 := K1.nil 158 4
   have H2 := hid (show SlR 4 cA cn (colCells cl) _ from (N2.ro 2 rfl).now.1)
   go_wp2_with (at_builtin; go_must (refine wpList_appAllH N2 0 rfl Tryz.elCol H2.out rfl (.const (.slice none 0 0)) (.tmp 45) rfl rfl rfl (one_cols cl) (by omega) (by omega) ?_); intro C2 cap2 wA2 hcA2 hmA2 KB2; simp only [Nat.zero_add] at hcA2 ⊢; simp only [Nat.zero_add, List.nil_append, List.set_cons_zero, List.set_cons_succ] at KB2)
   have KS2 := KB2.sealRow 0 rfl
   simp only [List.set_cons_zero] at KS2
   refine (copyVls_any (Mut M _) _ KS2.mutLt none 0 0 [] (fun w2 _ _ => slr_nil 3 w2) (by omega)).mono ?_
   rintro e w2 ⟨D2, dn2, dc2, rfl, hd02, hd12, hd22, ro2, b2⟩
   obtain rfl : dn2 = 0 := by simpa using hd02
   clear hd02
   have KD2 := ((KS2.call b2).add ro2).alloc_cst #[.string ⟨#[78, 69, 87]⟩, .bool true, .slice C2 cn cap2, .slice D2 0 dc2] 210
   have FD2 := KD2.facts
   simp only [factsL, cellsF, Nat.reduceAdd, zf, zl] at FD2
   have E2 := hid (show SlR 4 (some ⟨w2.heap.size, 0, none⟩) 1 [.string ⟨#[78, 69, 87]⟩, .bool true, .slice C2 cn cap2, .slice D2 0 dc2] _ from ((ro_block (KD2.get 0 rfl) rfl : Ro _ _ _).now))
   clear KB2 KS2 b2 ro2
   go_wp2_with (at_builtin; go_must (refine wpList_appAllH KD2 3 rfl Tryz.elFr E2.out rfl (.tmp 43) (.tmp 50) rfl rfl rfl (by intro u hu; simp at hu; rcases hu with rfl | rfl | rfl | rfl <;> rfl) (by omega) (by omega) ?_); intro G2 gc2 wB2 hcB2 hmB2 KE2; (try simp only [Nat.zero_add, Nat.reduceAdd] at hcB2 ⊢); simp only [Nat.zero_add, Nat.reduceAdd, List.nil_append, List.set_cons_zero, List.set_cons_succ] at KE2; (have hf2 : Ro _ _ (FrIn ⟨⟨#[78, 69, 87]⟩, true, ⟨C2, cn, cap2, cl⟩, ⟨D2, 0, dc2, []⟩⟩) := ((KE2.ro 2 rfl).and (KE2.ro 1 rfl)).imp fun w2 h2 => ⟨⟨h2.1, fun _ _ => trivial⟩, ⟨h2.2, fun _ hx => (nomatch hx)⟩⟩); (have K2 : Hold M none w wB2 [.own 210 4 (.slice G2 2 gc2) 2 [.string ⟨#[79, 76, 68]⟩, .bool true, .slice C1 cn cap1, .slice D1 0 dc1, .string ⟨#[78, 69, 87]⟩, .bool true, .slice C2 cn cap2, .slice D2 0 dc2], .ro (SmIn ⟨snm, ⟨cA, cn, cc, cl⟩⟩), .cst w.heap.size 40 #[.string tn, .string tt, .bool tb, .int .i64 2, .slice oA on oc, .bool true, .slice pA pn pc, .slice qA qn qc, .slice rA rn rc, .slice kA kn kc, .slice aA an ac], .cst (w.heap.size + 1) 49 #[.string snm, .slice cA cn cc], .ro (FrIn ⟨⟨#[79, 76, 68]⟩, true, ⟨C1, cn, cap1, cl⟩, ⟨D1, 0, dc1, []⟩⟩), .ro (FrIn ⟨⟨#[78, 69, 87]⟩, true, ⟨C2, cn, cap2, cl⟩, ⟨D2, 0, dc2, []⟩⟩)] := (KE2.add hf2).pick [4, 5, 6, 7, 8, 0] (by decide) rfl); (have F2 := K2.facts); simp only [factsL, cellsF, Nat.reduceAdd, zf, zl] at F2; clear KE2 KD2 FD2 hf2)
   have KZ := K2.sealRow 0 rfl
   simp only [List.set_cons_zero] at KZ
   have HB := hid KZ.below
   have hR : Ro _ _ (FrsIn ⟨G2, 2, gc2, [⟨⟨#[79, 76, 68]⟩, true, ⟨C1, cn, cap1, cl⟩, ⟨D1, 0, dc1, []⟩⟩, ⟨⟨#[78, 69, 87]⟩, true, ⟨C2, cn, cap2, cl⟩, ⟨D2, 0, dc2, []⟩⟩]⟩) := ((KZ.ro 0 rfl).and ((KZ.ro 4 rfl).and (KZ.ro 5 rfl))).imp (fun w2 h2 => ⟨h2.1, fun f hf => by
      simp only [List.mem_cons, List.not_mem_nil, or_false] at hf
      rcases hf with rfl | rfl
      ·exact h2.2.1
      ·exact h2.2.2⟩)
   have HR := hid (hR.less zm)
   clear KZ hR
   go_wp2_with fail
   go_ret
   exact ⟨⟨G2, 2, gc2, [⟨⟨#[79, 76, 68]⟩, true, ⟨C1, cn, cap1, cl⟩, ⟨D1, 0, dc1, []⟩⟩, ⟨⟨#[78, 69, 87]⟩, true, ⟨C2, cn, cap2, cl⟩, ⟨D2, 0, dc2, []⟩⟩]⟩, rfl, by simpa using hcB2, by simp, fun f hf => by
     simp only [List.mem_cons, List.not_mem_nil, or_false] at hf
     rcases hf with rfl | rfl <;> rfl, HR.out, HB.out⟩
  ·by_cases e3 : te = 3
   ·subst e3
    have N1 := KP.nil 158 4
    have H1 := hid (show SlR 4 cA cn (colCells cl) _ from (N1.ro 2 rfl).now.1)
    go_wp2_with (at_builtin; go_must (refine wpList_appAllH N1 0 rfl Tryz.elCol H1.out rfl (.const (.slice none 0 0)) (.tmp 24) rfl rfl rfl (one_cols cl) (by omega) (by omega) ?_); intro C1 cap1 wA1 hcA1 hmA1 KB1; simp only [Nat.zero_add] at hcA1 ⊢; simp only [Nat.zero_add, List.nil_append, List.set_cons_zero, List.set_cons_succ] at KB1)
    have KS1 := KB1.sealRow 0 rfl
    simp only [List.set_cons_zero] at KS1
    refine (copyVls_any (Mut M _) _ KS1.mutLt none 0 0 [] (fun w2 _ _ => slr_nil 3 w2) (by omega)).mono ?_
    rintro e w1 ⟨D1, dn1, dc1, rfl, hd01, hd11, hd21, ro1, b1⟩
    obtain rfl : dn1 = 0 := by simpa using hd01
    clear hd01
    have KD1 := ((KS1.call b1).add ro1).alloc_cst #[.string ⟨#[79, 76, 68]⟩, .bool true, .slice C1 cn cap1, .slice D1 0 dc1] 210
    have FD1 := KD1.facts
    simp only [factsL, cellsF, Nat.reduceAdd, zf, zl] at FD1
    have E1 := hid (show SlR 4 (some ⟨w1.heap.size, 0, none⟩) 1 [.string ⟨#[79, 76, 68]⟩, .bool true, .slice C1 cn cap1, .slice D1 0 dc1] _ from ((ro_block (KD1.get 0 rfl) rfl : Ro _ _ _).now))
    clear KB1 KS1 b1 ro1
    go_wp2_with (at_builtin; go_must (refine wpList_appAllH KD1 3 rfl Tryz.elFr E1.out rfl (.tmp 22) (.tmp 29) rfl rfl rfl (by intro u hu; simp at hu; rcases hu with rfl | rfl | rfl | rfl <;> rfl) (by omega) (by omega) ?_); intro G1 gc1 wB1 hcB1 hmB1 KE1; (try simp only [Nat.zero_add, Nat.reduceAdd] at hcB1 ⊢); simp only [Nat.zero_add, Nat.reduceAdd, List.nil_append, List.set_cons_zero, List.set_cons_succ] at KE1; (have hf1 : Ro _ _ (FrIn ⟨⟨#[79, 76, 68]⟩, true, ⟨C1, cn, cap1, cl⟩, ⟨D1, 0, dc1, []⟩⟩) := ((KE1.ro 2 rfl).and (KE1.ro 1 rfl)).imp fun w2 h2 => ⟨⟨h2.1, fun _ _ => trivial⟩, ⟨h2.2, fun _ hx => (nomatch hx)⟩⟩); (have K1 : Hold M none w wB1 [.own 210 4 (.slice G1 1 gc1) 1 [.string ⟨#[79, 76, 68]⟩, .bool true, .slice C1 cn cap1, .slice D1 0 dc1], .ro (SmIn ⟨snm, ⟨cA, cn, cc, cl⟩⟩), .cst w.heap.size 40 #[.string tn, .string tt, .bool tb, .int .i64 3, .slice oA on oc, .bool true, .slice pA pn pc, .slice qA qn qc, .slice rA rn rc, .slice kA kn kc, .slice aA an ac], .cst (w.heap.size + 1) 49 #[.string snm, .slice cA cn cc], .ro (FrIn ⟨⟨#[79, 76, 68]⟩, true, ⟨C1, cn, cap1, cl⟩, ⟨D1, 0, dc1, []⟩⟩)] := (KE1.add hf1).pick [4, 5, 6, 7, 0] (by decide) rfl); (have F1 := K1.facts); simp only [factsL, cellsF, Nat.reduceAdd, zf, zl] at F1; clear KE1 KD1 FD1 hf1)
    have KZ := K1.sealRow 0 rfl
    simp only [List.set_cons_zero] at KZ
    have HB := hid KZ.below
    have hR : Ro _ _ (FrsIn ⟨G1, 1, gc1, [⟨⟨#[79, 76, 68]⟩, true, ⟨C1, cn, cap1, cl⟩, ⟨D1, 0, dc1, []⟩⟩]⟩) := ((KZ.ro 0 rfl).and (KZ.ro 4 rfl)).imp (fun w2 h2 => ⟨h2.1, fun f hf => by
       simp only [List.mem_cons, List.not_mem_nil, or_false] at hf
       subst hf
       exact h2.2⟩)
    have HR := hid (hR.less zm)
    clear KZ hR
    go_wp2_with fail
    go_ret
    exact ⟨⟨G1, 1, gc1, [⟨⟨#[79, 76, 68]⟩, true, ⟨C1, cn, cap1, cl⟩, ⟨D1, 0, dc1, []⟩⟩]⟩, rfl, by simpa using hcB1, by simp, fun f hf => by
      simp only [List.mem_cons, List.not_mem_nil, or_false] at hf
      subst hf
      rfl, HR.out, HB.out⟩
   ·by_cases e1 : te = 1
    ·subst e1
     have N1 := KP.nil 158 4
     have H1 := hid (show SlR 4 cA cn (colCells cl) _ from (N1.ro 2 rfl).now.1)
     go_wp2_with (at_builtin; go_must (refine wpList_appAllH N1 0 rfl Tryz.elCol H1.out rfl (.const (.slice none 0 0)) (.tmp 45) rfl rfl rfl (one_cols cl) (by omega) (by omega) ?_); intro C1 cap1 wA1 hcA1 hmA1 KB1; simp only [Nat.zero_add] at hcA1 ⊢; simp only [Nat.zero_add, List.nil_append, List.set_cons_zero, List.set_cons_succ] at KB1)
     have KS1 := KB1.sealRow 0 rfl
     simp only [List.set_cons_zero] at KS1
     refine (copyVls_any (Mut M _) _ KS1.mutLt none 0 0 [] (fun w2 _ _ => slr_nil 3 w2) (by omega)).mono ?_
     rintro e w1 ⟨D1, dn1, dc1, rfl, hd01, hd11, hd21, ro1, b1⟩
     obtain rfl : dn1 = 0 := by simpa using hd01
     clear hd01
     have KD1 := ((KS1.call b1).add ro1).alloc_cst #[.string ⟨#[78, 69, 87]⟩, .bool true, .slice C1 cn cap1, .slice D1 0 dc1] 210
     have FD1 := KD1.facts
     simp only [factsL, cellsF, Nat.reduceAdd, zf, zl] at FD1
     have E1 := hid (show SlR 4 (some ⟨w1.heap.size, 0, none⟩) 1 [.string ⟨#[78, 69, 87]⟩, .bool true, .slice C1 cn cap1, .slice D1 0 dc1] _ from ((ro_block (KD1.get 0 rfl) rfl : Ro _ _ _).now))
     clear KB1 KS1 b1 ro1
     go_wp2_with (at_builtin; go_must (refine wpList_appAllH KD1 3 rfl Tryz.elFr E1.out rfl (.tmp 43) (.tmp 50) rfl rfl rfl (by intro u hu; simp at hu; rcases hu with rfl | rfl | rfl | rfl <;> rfl) (by omega) (by omega) ?_); intro G1 gc1 wB1 hcB1 hmB1 KE1; (try simp only [Nat.zero_add, Nat.reduceAdd] at hcB1 ⊢); simp only [Nat.zero_add, Nat.reduceAdd, List.nil_append, List.set_cons_zero, List.set_cons_succ] at KE1; (have hf1 : Ro _ _ (FrIn ⟨⟨#[78, 69, 87]⟩, true, ⟨C1, cn, cap1, cl⟩, ⟨D1, 0, dc1, []⟩⟩) := ((KE1.ro 2 rfl).and (KE1.ro 1 rfl)).imp fun w2 h2 => ⟨⟨h2.1, fun _ _ => trivial⟩, ⟨h2.2, fun _ hx => (nomatch hx)⟩⟩); (have K1 : Hold M none w wB1 [.own 210 4 (.slice G1 1 gc1) 1 [.string ⟨#[78, 69, 87]⟩, .bool true, .slice C1 cn cap1, .slice D1 0 dc1], .ro (SmIn ⟨snm, ⟨cA, cn, cc, cl⟩⟩), .cst w.heap.size 40 #[.string tn, .string tt, .bool tb, .int .i64 1, .slice oA on oc, .bool true, .slice pA pn pc, .slice qA qn qc, .slice rA rn rc, .slice kA kn kc, .slice aA an ac], .cst (w.heap.size + 1) 49 #[.string snm, .slice cA cn cc], .ro (FrIn ⟨⟨#[78, 69, 87]⟩, true, ⟨C1, cn, cap1, cl⟩, ⟨D1, 0, dc1, []⟩⟩)] := (KE1.add hf1).pick [4, 5, 6, 7, 0] (by decide) rfl); (have F1 := K1.facts); simp only [factsL, cellsF, Nat.reduceAdd, zf, zl] at F1; clear KE1 KD1 FD1 hf1)
     have KZ := K1.sealRow 0 rfl
     simp only [List.set_cons_zero] at KZ
     have HB := hid KZ.below
     have hR : Ro _ _ (FrsIn ⟨G1, 1, gc1, [⟨⟨#[78, 69, 87]⟩, true, ⟨C1, cn, cap1, cl⟩, ⟨D1, 0, dc1, []⟩⟩]⟩) := ((KZ.ro 0 rfl).and (KZ.ro 4 rfl)).imp (fun w2 h2 => ⟨h2.1, fun f hf => by
        simp only [List.mem_cons, List.not_mem_nil, or_false] at hf
        subst hf
        exact h2.2⟩)
     have HR := hid (hR.less zm)
     clear KZ hR
     go_wp2_with fail
     go_ret
     exact ⟨⟨G1, 1, gc1, [⟨⟨#[78, 69, 87]⟩, true, ⟨C1, cn, cap1, cl⟩, ⟨D1, 0, dc1, []⟩⟩]⟩, rfl, by simpa using hcB1, by simp, fun f hf => by
       simp only [List.mem_cons, List.not_mem_nil, or_false] at hf
       subst hf
       rfl, HR.out, HB.out⟩
    ·have c2 : (te == 2) = false := by simpa using e2
     have c3 : (te == 3) = false := by simpa using e3
     have c1 : (te == 1) = false := by simpa using e1
     have HB := hid KP.below
     go_wp2_with fail
     go_ret
     exact ⟨SlP.nil, rfl, Nat.le_refl _, by simp [SlP.nil], fun f hf => (nomatch hf), (fun w2 _ _ => ⟨slr_nil 4 w2, fun _ hx => (nomatch hx)⟩), HB.out⟩
end Go.Proofs.YtnbbllkbefagmaaGreatDoor

namespace Go.Proofs.YtnbbllkbefagmaaGreatDoor
open Go.RowKit
set_option linter.unusedVariables false
set_option linter.unusedSimpArgs false

/-- every key column is the first one -/
def KeyOne (cs : List Col) : Prop := ∀ (i : Nat) (c : Col), cs[i]? = some c → c.key = true → findB Col.key cs = i
end Go.Proofs.YtnbbllkbefagmaaGreatDoor

namespace Go.Proofs.YtnbbllkbefagmaaGreatDoor
open Go.RowKit
set_option linter.unusedVariables false
/-- the items under one name -/
theorem Hold.name {M : Nat → Prop} {row : Option Nat} {w0 w : World} {L : List Hp} (h : Hold M row w0 w L) : ∃ KL, KL = L ∧ Hold M row w0 w KL := ⟨L, rfl, h⟩
end Go.Proofs.YtnbbllkbefagmaaGreatDoor

namespace Go.Proofs.YtnbbllkbefagmaaGreatDoor
open Go.RowKit
set_option linter.unusedVariables false
set_option linter.unusedSimpArgs false

end Go.Proofs.YtnbbllkbefagmaaGreatDoor

namespace Go.Proofs.YtnbbllkbefagmaaGreatDoor
open Go.RowKit
set_option linter.unusedVariables false
set_option linter.unusedSimpArgs false

end Go.Proofs.YtnbbllkbefagmaaGreatDoor

namespace Go.Proofs.YtnbbllkbefagmaaGreatDoor
open Go.RowKit
set_option linter.unusedVariables false
set_option linter.unusedSimpArgs false

theorem okR_fits {cs : List Col} {nx : Int} : ∀ {lst : Int} {rs : List Row}, okR cs nx lst rs = true → ∀ r ∈ rs, fitsT cs r.2 = 0
 | _, [], _, r, hr => nomatch hr
 | lst, x :: rs, h, r, hr => by
  rw [okR] at h
  simp only [Bool.and_eq_true, decide_eq_true_eq] at h
  rcases List.mem_cons.1 hr with rfl | hr
  ·exact h.1.2
  ·exact okR_fits h.2 r hr
theorem fitsT_len {cs : List Col} {vs : List Vl} (h : fitsT cs vs = 0) : vs.length = cs.length := by
 unfold fitsT at h
 split at h
 ·assumption
 ·omega
end Go.Proofs.YtnbbllkbefagmaaGreatDoor

namespace Go.Proofs.YtnbbllkbefagmaaGreatDoor
open Go.RowKit
set_option linter.unusedVariables false
set_option linter.unusedSimpArgs false

theorem mut_tp {M : Nat → Prop} {L : List Hp} {T i : Nat} (hi : L[i]? = some (.tp T)) : ∀ b, Mut (Mut M L) [.tp T] b → Mut M L b := fun b hb => by
 rcases hb with hb | ⟨k, hk, hf⟩
 ·exact hb
 ·simp only [List.mem_singleton] at hk
  subst hk
  exact .inr ⟨_, List.mem_of_getElem? hi, hf⟩
/-- what is known of the rows -/
structure RowsOk (cs : List Col) (nx : Int) (rs : List Rw) : Prop where
 ok : okR cs nx 0 (rs.map Rw.row) = true
 dup : dupB cs (rs.map Rw.row) = false
 rok : ∀ r ∈ rs, r.ok
end Go.Proofs.YtnbbllkbefagmaaGreatDoor

namespace Go.Proofs.YtnbbllkbefagmaaGreatDoor
open Go.RowKit
set_option linter.unusedVariables false
set_option linter.unusedSimpArgs false

/-- Some value, drawn, its numbers Go's. -/
def DrawnO2 (w : World) (T : Nat) (e : Ending) (w' : World) : Prop :=
 ∃ (k i : Int) (s : ByteArray), e = .returned (.agg #[.int .i64 k, .int .i64 i, .string s]) ∧ (s.size ≤ 100 ∧ I64 k ∧ I64 i) ∧ Tp w' T ∧ w.grownBy w' (some T)
/-- The state of Odd's walk: the value's box V, the result's box R. -/
structure OddSt (w : World) (T V R : Nat) (wr : World) (k i : Int) (s : ByteArray) : Prop where
 bv : Blk wr V 122 #[.int .i64 k, .int .i64 i, .string s]
 br : Blk wr R 122 #[.int .i64 0, .int .i64 0, .string ⟨#[]⟩]
 tp : Tp wr T
 gr : w.grownBy wr (some T)
 hi : I64 i
 hs : s.size ≤ 100

theorem OddSt.grown {w : World} {T V R : Nat} {wr w' : World} {k i : Int} {s : ByteArray} (h : OddSt w T V R wr k i s) (hV : T < V) (hR : T < R) (t : Tp w' T) (g : wr.grownBy w' (some T)) : OddSt w T V R w' k i s :=
 ⟨h.bv.grown g (by intro e; injection e with e; omega), h.br.grown g (by intro e; injection e with e; omega), t, only_trans h.gr g, h.hi, h.hs⟩

theorem OddSt.drew {w : World} {T V R : Nat} {wr : World} {k i : Int} {s : ByteArray} (h : OddSt w T V R wr k i s) : OddSt w T V R wr.drew k i s := ⟨h.bv, h.br, h.tp, only_drew h.gr, h.hi, h.hs⟩
theorem DrawnO2.alloc {w w' : World} {T : Nat} {e : Ending} (h : DrawnO2 w T e w') (o : Obj) : DrawnO2 w T e (w'.alloc o) := by
 obtain ⟨k, i, s, h1, h2, h3, h4⟩ := h
 exact ⟨k, i, s, h1, h2, h3.alloc o, only_alloc h4 o⟩
end Go.Proofs.YtnbbllkbefagmaaGreatDoor

namespace Go.Proofs.YtnbbllkbefagmaaGreatDoor
open Go.RowKit
set_option linter.unusedVariables false
set_option linter.unusedSimpArgs false

end Go.Proofs.YtnbbllkbefagmaaGreatDoor

namespace Go.Proofs.YtnbbllkbefagmaaGreatDoor
open Go.RowKit
set_option linter.unusedVariables false
set_option linter.unusedSimpArgs false

def OneName (s : ByteArray) : Prop := s = ⟨#[116]⟩ ∨ s = ⟨#[117]⟩ ∨ s = ⟨#[108, 111, 103]⟩
def DrawnName (w : World) (T : Nat) (e : Ending) (w' : World) : Prop := ∃ s : ByteArray, e = .returned (.string s) ∧ OneName s ∧ Tp w' T ∧ w.grownBy w' (some T)
set_option maxHeartbeats 1000000 in
theorem tname_any (M : Nat → Prop) (T : Nat) (w : World) (hM : ∀ b, M b → b < w.heap.size) (ht : Tp w T) (hMT : ∀ b, M b → T ≤ b) : Calls Tryz.prog 96 #[.pointer (some ⟨T, 0, none⟩)] w fun e w' => DrawnName w T e w' := by
 have K0 := (Hold.startT M w T hM ht hMT).alloc_cst #[.string ⟨#[116]⟩, .string ⟨#[117]⟩, .string ⟨#[108, 111, 103]⟩] 9
 go_enter Tryz.func96, Tryz.ntmps96
 go_wp2_with fail
 refine (next_any T 3 _ (K0.tp_ 1 rfl) (by omega) (by omega)).mono ?_
 rintro e w1 ⟨r, rfl, r0, r1, t1, g1⟩
 have K1 := Hold.callT K0 1 rfl g1 t1
 have F1 := K1.facts
 simp only [factsL, cellsF, Nat.reduceAdd, zf, zl] at F1
 clear K0 g1 t1
 obtain ⟨r, rfl⟩ := Int.eq_ofNat_of_zero_le r0
 obtain rfl | rfl | rfl : r = 0 ∨ r = 1 ∨ r = 2 := by omega
 ·go_wp2_with fail
  go_ret
  exact ⟨_, rfl, .inl rfl, K1.tp_ 1 rfl, K1.grow⟩
 ·go_wp2_with fail
  go_ret
  exact ⟨_, rfl, .inr (.inl rfl), K1.tp_ 1 rfl, K1.grow⟩
 ·go_wp2_with fail
  go_ret
  exact ⟨_, rfl, .inr (.inr rfl), K1.tp_ 1 rfl, K1.grow⟩
/-- what is known of a schema of the three -/
structure SchOk (nm : ByteArray) (cs : List Col) : Prop where
 val : schemaB nm cs = true
 col : ∀ x ∈ cs, ColOk x
 key : KeyOne cs
 len : 1 ≤ cs.length ∧ cs.length ≤ 4
 nm : nm.size ≤ maxLen
 cs : ∀ x ∈ cs, x.name.size ≤ maxLen
def keyOneB (cs : List Col) : Bool := (List.range cs.length).all fun i => match cs[i]? with | some c => !c.key || findB Col.key cs == (i : Int) | none => true
theorem keyOne_of {cs : List Col} (h : keyOneB cs = true) : KeyOne cs := fun i c hc hk => by
 have h1 := List.all_eq_true.1 h i (List.mem_range.2 (List.getElem?_eq_some_iff.1 hc).1)
 simp only [hc, hk, Bool.not_true, Bool.false_or, beq_iff_eq] at h1
 exact h1
def colOkB (c : Col) : Bool := c.ty == 1 || c.ty == 2 || c.ty == 3
def schOkB (nm : ByteArray) (cs : List Col) : Bool := schemaB nm cs && cs.all colOkB && keyOneB cs && decide (1 ≤ cs.length) && decide (cs.length ≤ 4) && decide (nm.size ≤ 100) && cs.all fun x => decide (x.name.size ≤ 100)
theorem schOk_of {nm : ByteArray} {cs : List Col} (h : schOkB nm cs = true) : SchOk nm cs := by
 unfold schOkB at h
 simp only [Bool.and_eq_true, decide_eq_true_eq] at h
 obtain ⟨⟨⟨⟨⟨⟨h1, h2⟩, h3⟩, h4⟩, h5⟩, h6⟩, h7⟩ := h
 refine ⟨h1, fun x hx => ?_, keyOne_of h3, ⟨h4, h5⟩, by unfold maxLen; omega, fun x hx => ?_⟩
 ·have := List.all_eq_true.1 h2 x hx
  simpa [colOkB, ColOk, or_assoc] using this
 ·have := List.all_eq_true.1 h7 x hx
  simp only [decide_eq_true_eq] at this
  unfold maxLen; omega
end Go.Proofs.YtnbbllkbefagmaaGreatDoor

namespace Go.Proofs.YtnbbllkbefagmaaGreatDoor
open Go.RowKit
set_option linter.unusedVariables false
set_option linter.unusedSimpArgs false

end Go.Proofs.YtnbbllkbefagmaaGreatDoor

namespace Go.Proofs.YtnbbllkbefagmaaGreatDoor
open Go.RowKit
set_option linter.unusedVariables false
set_option linter.unusedSimpArgs false

/-- the new rows -/
def insR (nx : Int) (ins : List (List Vl)) : List Row := ins.zipIdx.map fun p => (nx + (p.2 : Int), p.1)
theorem PrsIn.tail {w : World} {b o k : Nat} {u : Pr} {us : List Pr} (h : PrsIn (some ⟨b, o, none⟩) (k + 1) (u :: us) w) : PrsIn (some ⟨b, o + 3, none⟩) k us w := by
 refine ⟨?_, fun r hr => h.2 r (List.mem_cons_of_mem _ hr)⟩
 have h1 : Rd w w.heap.size 3 (some ⟨b, o, none⟩) (k + 1) (prCells (u :: us)) := h.1
 have hl := h1.1
 refine ⟨by simp [prCells, Pr.cells] at hl ⊢; omega, fun hk => ?_⟩
 obtain ⟨b', o', e, hb, hc⟩ := h1.2 (by omega)
 obtain ⟨rfl, rfl⟩ : b = b' ∧ o = o' := by injection e with e; injection e with a1 a2; exact ⟨a1, a2⟩
 refine ⟨b, o + 3, rfl, hb, fun j v hv => ?_⟩
 have := hc (3 + j) v (by
  show (prCells (u :: us))[3 + j]? = some v
  unfold prCells
  rw [List.flatMap_cons, List.getElem?_append_right (by simp [Pr.cells])]
  simpa [Pr.cells, prCells] using hv)
 rwa [show o + (3 + j) = o + 3 + j by omega] at this
theorem PrsIn.zero {w : World} (A : Option Addr) : PrsIn A 0 [] w := ⟨⟨by simp [prCells], fun h => absurd h (by omega)⟩, fun r hr => nomatch hr⟩
end Go.Proofs.YtnbbllkbefagmaaGreatDoor

namespace Go.Proofs.YtnbbllkbefagmaaGreatDoor
open Go.RowKit
set_option linter.unusedVariables false
set_option linter.unusedSimpArgs false

/-- the values that the updates ask for -/
def wantR (us : List Upd) (id : Int) (v : List Vl) : List Vl := us.foldl (fun acc p => if p.1 = id then p.2.2 else acc) v
def keepR (dels : List Int) (us : List Upd) (rs : List Row) : List Row := (rs.filter fun r => !dels.contains r.1).map fun r => (r.1, wantR us r.1 r.2)
theorem okR_asc {cs : List Col} {nx : Int} : ∀ {lst : Int} {rs : List Row}, okR cs nx lst rs = true → (rs.map (·.1)).Pairwise (· < ·) ∧ ∀ r ∈ rs, lst < r.1 ∧ r.1 < nx
 | _, [], _ => ⟨List.Pairwise.nil, fun _ h => nomatch h⟩
 | lst, r :: rs, h => by
  rw [okR] at h
  simp only [Bool.and_eq_true, decide_eq_true_eq] at h
  obtain ⟨h1, h2⟩ := okR_asc h.2
  refine ⟨?_, fun x hx => ?_⟩
  ·rw [List.map_cons, List.pairwise_cons]
   refine ⟨fun a ha => ?_, h1⟩
   obtain ⟨x, hx, rfl⟩ := List.mem_map.1 ha
   exact (h2 x hx).1
  ·rcases List.mem_cons.1 hx with rfl | hx
   ·exact ⟨h.1.1.1, h.1.1.2⟩
   ·exact ⟨Int.lt_trans h.1.1.1 (h2 x hx).1, (h2 x hx).2⟩
theorem getR_some {rs : List Row} {id : Int} (h : (getR rs id).isSome = true) : id ∈ rs.map (·.1) := by
 unfold getR at h
 rw [Option.isSome_map] at h
 obtain ⟨r, hr⟩ := Option.isSome_iff_exists.1 h
 have h1 := List.find?_some hr
 have h2 := List.mem_of_find?_eq_some hr
 exact List.mem_map.2 ⟨r, h2, by simpa using h1⟩
/-- What is known of a change that succeeds. -/
structure ApOk (nm : ByteArray) (cs : List Col) (nx : Int) (rs : List Row) (ins : List (List Vl)) (dels : List Int) (us : List Upd) (T : Tb) : Prop where
 tab : tabB nm cs nx rs = true
 tb : T = ⟨nm, cs, nx + ins.length, keepR dels us rs ++ insR nx ins⟩
 asc : (rs.map (·.1)).Pairwise (· < ·)
 low : ∀ r ∈ rs, 0 < r.1 ∧ r.1 < nx
 dasc : dels.Pairwise (· < ·)
 din : ∀ id ∈ dels, id ∈ rs.map (·.1)
 uasc : (us.map (·.1)).Pairwise (· < ·)
 uin : ∀ u ∈ us, u.1 ∈ rs.map (·.1) ∧ dels.contains u.1 = false
 dup : dupB cs (keepR dels us rs ++ insR nx ins) = false
 fits : (∀ u ∈ us, fitsT cs u.2.2 = 0) ∧ ∀ v ∈ ins, fitsT cs v = 0
 lim : (rs.length : Int) - dels.length + ins.length ≤ 100
 nlim : (ins.length : Int) ≤ 2147483648 - nx
theorem tabB_ok {nm : ByteArray} {cs : List Col} {nx : Int} {rs : List Row} (h : tabB nm cs nx rs = true) : schemaB nm cs = true ∧ rs.length ≤ 100 ∧ 1 ≤ nx ∧ nx ≤ 2147483648 ∧ okR cs nx 0 rs = true ∧ dupB cs rs = false := by
 unfold tabB at h
 simp only [Bool.and_eq_true, decide_eq_true_eq, Bool.not_eq_true'] at h
 obtain ⟨⟨⟨⟨⟨h1, h2⟩, h3⟩, h4⟩, h5⟩, h6⟩ := h
 exact ⟨h1, h2, h3, h4, h5, h6⟩
theorem find_uniq {l : List Row} (h : (l.map (·.1)).Pairwise (· < ·)) {r : Row} (hr : r ∈ l) : l.find? (fun x => x.1 == r.1) = some r := by
 induction l with
 | nil => cases hr
 | cons x l ih =>
  obtain ⟨h1, h2⟩ := List.pairwise_cons.1 h
  rcases List.mem_cons.1 hr with rfl | hr
  ·simp
  ·have : x.1 < r.1 := h1 r.1 (List.mem_map_of_mem (f := fun x : Row => x.1) hr)
   rw [List.find?_cons, show (x.1 == r.1) = false by rw [beq_eq_false_iff_ne]; omega]
   exact ih h2 hr
theorem getR_none {l : List Row} {id : Int} (h : ∀ r ∈ l, r.1 ≠ id) : getR l id = none := by
 unfold getR
 rw [List.find?_eq_none.2 fun x hx => by simpa using h x hx]; rfl
theorem getR_app (a b : List Row) (id : Int) : getR (a ++ b) id = (getR a id).or (getR b id) := by
 unfold getR
 rw [List.find?_append]
 cases a.find? (fun r => r.1 == id) <;> simp
theorem insR_at : ∀ (ins : List (List Vl)) (nx : Int) (i : Nat), getR (insR nx ins) (nx + (i : Int)) = ins[i]? := by
 intro ins nx i
 have key : ∀ (l : List (List Vl)) (k : Nat) (i : Nat), k ≤ i → getR ((l.zipIdx k).map fun p => (nx + (p.2 : Int), p.1)) (nx + (i : Int)) = l[i - k]? := by
  intro l
  induction l with
  | nil => intro k i _; simp [getR]
  | cons v l ih =>
   intro k i hki
   rw [List.zipIdx_cons, List.map_cons]
   by_cases h : k = i
   ·subst h
    simp [getR]
   ·have h2 := ih (k + 1) i (by omega)
    have e : i - k = (i - (k + 1)) + 1 := by omega
    rw [e, List.getElem?_cons_succ, ← h2]
    unfold getR
    rw [List.find?_cons, show ((nx + (k : Int), v).1 == nx + (i : Int)) = false by rw [beq_eq_false_iff_ne]; show nx + (k : Int) ≠ _; omega]
 have := key ins 0 i (by omega)
 simpa [insR] using this
theorem insR_ge {ins : List (List Vl)} {nx : Int} : ∀ r ∈ insR nx ins, nx ≤ r.1 := fun r hr => by
 unfold insR at hr
 obtain ⟨p, _, rfl⟩ := List.mem_map.1 hr
 show nx ≤ nx + (p.2 : Int)
 omega
section
variable {nm : ByteArray} {cs : List Col} {nx : Int} {rs : List Row} {ins : List (List Vl)} {dels : List Int} {us : List Upd} {T : Tb}
theorem ApOk.asc2 (h : ApOk nm cs nx rs ins dels us T) : ((keepR dels us rs).map (·.1)).Pairwise (· < ·) := by
 have e : (keepR dels us rs).map (·.1) = (rs.filter fun r => !dels.contains r.1).map (·.1) := by simp [keepR]
 rw [e]
 exact List.Pairwise.sublist (List.Sublist.map _ List.filter_sublist) h.asc
/-- a row of before -/
theorem ApOk.old (h : ApOk nm cs nx rs ins dels us T) {r : Row} (hr : r ∈ rs) : getR T.rs r.1 = if dels.contains r.1 then none else some (wantR us r.1 r.2) := by
 rw [h.tb]
 show getR (keepR dels us rs ++ insR nx ins) r.1 = _
 rw [getR_app, getR_none (l := insR nx ins) fun x hx => by have := insR_ge x hx; have := (h.low r hr).2; omega, Option.or_none]
 cases hd : dels.contains r.1
 ·have hm : (r.1, wantR us r.1 r.2) ∈ keepR dels us rs := List.mem_map.2 ⟨r, List.mem_filter.2 ⟨hr, by simp only [hd]; rfl⟩, rfl⟩
  have := find_uniq h.asc2 hm
  unfold getR
  rw [this]; simp
 ·rw [getR_none fun x hx => ?_]
  ·simp
  ·obtain ⟨y, hy, rfl⟩ := List.mem_map.1 hx
   have := (List.mem_filter.1 hy).2
   intro e
   have e : y.1 = r.1 := e
   rw [e, hd] at this
   cases this
/-- a new row -/
theorem ApOk.new (h : ApOk nm cs nx rs ins dels us T) (i : Nat) : getR T.rs (nx + (i : Int)) = ins[i]? := by
 rw [h.tb]
 show getR (keepR dels us rs ++ insR nx ins) _ = _
 rw [getR_app, getR_none (l := keepR dels us rs) fun x hx => ?_, Option.none_or, insR_at]
 obtain ⟨y, hy, rfl⟩ := List.mem_map.1 hx
 have := (h.low y (List.mem_filter.1 hy).1).2
 show y.1 ≠ _
 omega
theorem ApOk.len (h : ApOk nm cs nx rs ins dels us T) : (T.rs.length : Int) = rs.length - dels.length + ins.length := by
 rw [h.tb]
 show ((keepR dels us rs ++ insR nx ins).length : Int) = _
 have h1 : (insR nx ins).length = ins.length := by simp [insR]
 have h2 : (keepR dels us rs).length = (rs.filter fun r => !dels.contains r.1).length := by simp [keepR]
 have hnd : (rs.map (·.1)).Nodup := h.asc.imp fun h => by omega
 have hdn : dels.Nodup := h.dasc.imp fun h => by omega
 have hp : ((rs.map (·.1)).filter fun id => dels.contains id).Perm dels := (List.perm_ext_iff_of_nodup (hnd.sublist List.filter_sublist) hdn).2 fun a => by
  simp only [List.mem_filter, List.contains_iff_mem]
  exact ⟨fun k => k.2, fun k => ⟨h.din a k, k⟩⟩
 have h3 : (rs.filter fun r => dels.contains r.1).length = dels.length := by
  rw [← hp.length_eq, List.filter_map, List.length_map]; rfl
 have h4 : (rs.filter fun r => dels.contains r.1).length + (rs.filter fun r => !dels.contains r.1).length = rs.length := by
  have : ∀ l : List Row, (l.filter fun r => dels.contains r.1).length + (l.filter fun r => !dels.contains r.1).length = l.length := by
   intro l
   induction l with
   | nil => rfl
   | cons x l ih => cases hx : dels.contains x.1 <;> simp only [List.filter_cons, hx, if_true, if_false, Bool.not_true, Bool.not_false, List.length_cons, Bool.false_eq_true] <;> omega
  exact this rs
 rw [List.length_append, h1, h2]
 omega
end
end Go.Proofs.YtnbbllkbefagmaaGreatDoor

namespace Go.Proofs.YtnbbllkbefagmaaGreatDoor
open Go.RowKit
set_option linter.unusedVariables false
set_option linter.unusedSimpArgs false

end Go.Proofs.YtnbbllkbefagmaaGreatDoor

namespace Go.Proofs.YtnbbllkbefagmaaGreatDoor
open Go.RowKit
set_option linter.unusedVariables false
set_option linter.unusedSimpArgs false

/-- a valid table of a schema of the three -/
structure VTab (t : Tb) : Prop where
 sch : SchOk t.nm t.cs
 val : tabB t.nm t.cs t.nx t.rs = true
theorem VTab.fit {t : Tb} (h : VTab t) {l : List Rw} (hl : l.map Rw.row = t.rs) : ∀ r ∈ l, r.vs.length = t.cs.length := fun r hr => by
 obtain ⟨_, _, _, _, hok, _⟩ := tabB_ok h.val
 exact fitsT_len (okR_fits hok r.row (by rw [← hl]; exact List.mem_map_of_mem hr))
theorem VTab.rows {t : Tb} (h : VTab t) : t.rs.length ≤ 100 := (tabB_ok h.val).2.1
theorem VTab.len {t : Tb} (h : VTab t) : ∀ r ∈ t.rs, r.2.length ≤ 4 := fun r hr => by
 obtain ⟨_, _, _, _, hok, _⟩ := tabB_ok h.val
 have h1 := fitsT_len (okR_fits hok r hr)
 have h2 := h.sch.len
 omega
end Go.Proofs.YtnbbllkbefagmaaGreatDoor

namespace Go.Proofs.YtnbbllkbefagmaaGreatDoor
open Go.RowKit
set_option linter.unusedVariables false
set_option linter.unusedSimpArgs false

structure Te where
 nm : ByteArray
 A : Option Addr
 n : Nat
 c : Nat
 cs : List Col
 nx : Int
 B : Option Addr
 m : Nat
 d : Nat
 l : List Rw
def Te.cells (x : Te) : List Value := [.string x.nm, .slice x.A x.n x.c, .int .i64 x.nx, .slice x.B x.m x.d]
def Te.val (x : Te) : Value := .agg #[.string x.nm, .slice x.A x.n x.c, .int .i64 x.nx, .slice x.B x.m x.d]
def Te.tb (x : Te) : Tb := ⟨x.nm, x.cs, x.nx, x.l.map Rw.row⟩
def TeIn (x : Te) (w : World) : Prop := ColsIn x.A x.n x.cs w ∧ RwsIn x.B x.m x.l w
structure Te.ok (x : Te) : Prop where
 nc : x.n ≤ x.c
 c : x.c ≤ 9223372036854775807
 md : x.m ≤ x.d
 d : x.d ≤ 9223372036854775807
 l : ∀ r ∈ x.l, r.ok
/-- a table within the limits that the contracts ask -/
structure TbM (t : Tb) : Prop where
 nm : t.nm.size ≤ maxLen
 cs : ∀ x ∈ t.cs, x.name.size ≤ maxLen
 rs : t.rs.length ≤ 4398046511104
 row : ∀ r ∈ t.rs, r.2.length ≤ 4398046511104
def teCells (l : List Te) : List Value := l.flatMap Te.cells
theorem teCells_len (l : List Te) : (teCells l).length = l.length * 4 := flat_len _ 4 (fun _ => rfl) l
def TesIn (A : Option Addr) (n : Nat) (l : List Te) (w : World) : Prop := SlR 4 A n (teCells l) w ∧ ∀ x ∈ l, TeIn x w
theorem TesIn.len {w : World} {A : Option Addr} {n : Nat} {l : List Te} (h : TesIn A n l w) : l.length = n := by
 have := (show Rd w w.heap.size 4 A n (teCells l) from h.1).1
 rw [teCells_len] at this
 omega
theorem TesIn.at_ {w : World} {A : Option Addr} {n : Nat} {l : List Te} (h : TesIn A n l w) {k : Nat} {x : Te} (hx : l[k]? = some x) :
  ∃ b o, A = some ⟨b, o, none⟩ ∧ b < w.heap.size ∧ w.cell? ⟨b, o + k * 4, none⟩ = some (.string x.nm) ∧ w.cell? ⟨b, o + k * 4 + 1, none⟩ = some (.slice x.A x.n x.c) ∧ w.cell? ⟨b, o + k * 4 + 2, none⟩ = some (.int .i64 x.nx) ∧ w.cell? ⟨b, o + k * 4 + 3, none⟩ = some (.slice x.B x.m x.d) ∧ TeIn x w := by
 have hk : k < n := by rw [← h.len]; exact (List.getElem?_eq_some_iff.1 hx).1
 obtain ⟨b, o, e, hb, hc⟩ := (show Rd w w.heap.size 4 A n (teCells l) from h.1).2 (by omega)
 exact ⟨b, o, e, hb, hc _ _ (flat_get Te.cells 4 (fun _ => rfl) l k 0 x (by omega) hx), hc _ _ (flat_get Te.cells 4 (fun _ => rfl) l k 1 x (by omega) hx), hc _ _ (flat_get Te.cells 4 (fun _ => rfl) l k 2 x (by omega) hx), hc _ _ (flat_get Te.cells 4 (fun _ => rfl) l k 3 x (by omega) hx), h.2 x (List.mem_of_getElem? hx)⟩
theorem one_tes (l : List Te) : ∀ u ∈ teCells l, u.oneCell' = true := fun u hu => by
 unfold teCells at hu
 rw [List.mem_flatMap] at hu
 obtain ⟨x, _, hx⟩ := hu
 simp only [Te.cells, List.mem_cons, List.not_mem_nil, or_false] at hx
 rcases hx with rfl | rfl | rfl | rfl <;> rfl
/-- a literal list of tables in a new block -/
theorem tes_block {w : World} {M : Nat → Prop} {g : Nat} {t : TypeId} {cs : Array Value} {l : List Te} (h : Ro w M (fun w => w.heap[g]? = some (.cells cs t (0, 0)))) (hl : cs.toList = teCells l) (hr : ∀ x ∈ l, Ro w M (TeIn x)) : Ro w M (TesIn (some ⟨g, 0, none⟩) l.length l) := by
 have h1 : Ro w M (SlR 4 (some ⟨g, 0, none⟩) l.length cs.toList) := ro_block h (by rw [hl, teCells_len])
 rw [hl] at h1
 exact h1.and fun w2 a b x hx => hr x hx w2 a b
end Go.Proofs.YtnbbllkbefagmaaGreatDoor

namespace Go.Proofs.YtnbbllkbefagmaaGreatDoor
open Go.RowKit
set_option linter.unusedVariables false
set_option linter.unusedSimpArgs false
set_option maxRecDepth 100000 in
theorem copyRows_nil (w : World) : Calls Tryz.prog 52 #[.slice none 0 0] w fun e w' => e = .returned (.slice none 0 0) ∧ Below w.heap.size w w' := by
 have K0 := Hold.start None_ w zn
 go_enter Tryz.func52, Tryz.ntmps52
 go_wp2_with fail
 go_loopw [3, 8] (fun ov iv wr => ov = .slice none 0 0 ∧ iv = .int .i64 0 ∧ Hold None_ none w wr []) (fun _ _ _ => 0)
 case atStart => exact ⟨rfl, rfl, K0⟩
 case round =>
  clear K0
  obtain ⟨rfl, rfl, H⟩ := hrel
  have HB := hid H.below
  go_wp2_with fail
  go_ret
  exact ⟨rfl, HB.out⟩
structure TrOk (s : Sm) (x : Te) : Prop where
 n : x.n = s.cols.n
 c : x.n ≤ x.c
 c2 : x.c ≤ 9223372036854775807
 z : x.B = none ∧ x.m = 0 ∧ x.d = 0 ∧ x.l = []
def TrRet (w : World) (M : Nat → Prop) (s : Sm) (e : Ending) (w' : World) : Prop := ∃ x : Te, e = .returned x.val ∧ TrOk s x ∧ Ro w' M (TeIn x) ∧ Below w.heap.size w w'
theorem colCells_snoc (l : List Col) (n : ByteArray) (t : Int) : colCells l ++ (#[.string n, .int .i64 t, .bool false, .bool false] : Array Value).toList = colCells (l ++ [⟨n, t, false, false⟩]) := by simp [colCells, Col.cells]
set_option maxRecDepth 100000 in
set_option maxHeartbeats 8000000 in
theorem transition_nil (M : Nat → Prop) (w : World) (hM : ∀ b, M b → b < w.heap.size) (name : ByteArray) (s : Sm) (hs : Ro w M (SmIn s)) (hn : 1 ≤ s.cols.n ∧ s.cols.n ≤ 1000) : Calls Tryz.prog 128 #[.string name, s.val, .slice none 0 0] w fun e w' => TrRet w M s e w' := by
 obtain ⟨snm, ⟨cA, cn, cc, cl⟩⟩ := s
 have hcn : 1 ≤ cn ∧ cn ≤ 1000 := hn
 obtain ⟨b, o, eA, -, -⟩ := (show Rd w w.heap.size 4 cA cn (colCells cl) from hs.now.1).2 (by omega)
 subst eA
 have HLN := hid (show cl.length = cn from (RdC.of_sl (show SlR 4 (some ⟨b, o, none⟩) cn (colCells cl) w from hs.now.1)).len)
 have K0 := ((((Hold.start M w hM).add (hs.less (by simp [Mut]))).add ((hs.imp (S' := SlR 4 (some ⟨b, o, none⟩) cn (colCells cl)) fun w2 h2 => h2.1).less (by simp [mut_cons, Mut, Hp.foot]))).alloc_cst #[.string snm, .slice (some ⟨b, o, none⟩) cn cc] 49).alloc #[.string ⟨#[]⟩, .slice none 0 0, .int .i64 0, .slice none 0 0] 67
 obtain ⟨gs, hgs⟩ : ∃ g, g = w.heap.size := ⟨_, rfl⟩
 rw [World.size_alloc, ← hgs] at K0
 obtain ⟨gr, hgr⟩ : ∃ g, g = gs + 1 := ⟨_, rfl⟩
 rw [← hgr] at K0
 simp only [Sm.val]
 clear hs
 go_enter Tryz.func128, Tryz.ntmps128
 go_wp2_with fail
 rw [← hgs]
 try rw [← hgr]
 have HG := hid (And.intro hgs hgr)
 clear hgs hgr
 refine (copyRows_nil _).mono ?_
 rintro e w1 ⟨rfl, b1⟩
 have K1 := K0.call b1
 have K2 := (K1.alloc #[.string name, .slice none 0 0, .int .i64 1, .slice none 0 0] 67).nil 158 4
 obtain ⟨gt, hgt⟩ : ∃ g, g = w1.heap.size := ⟨_, rfl⟩
 rw [← hgt] at K2
 have K3 : Hold M none w _ [.own 158 4 (.slice none 0 0) 0 [], .blk gt 67 #[.string name, .slice none 0 0, .int .i64 1, .slice none 0 0], .ro (SlR 4 (some ⟨b, o, none⟩) cn (colCells cl)), .cst gs 49 #[.string snm, .slice (some ⟨b, o, none⟩) cn cc], .blk gr 67 #[.string ⟨#[]⟩, .slice none 0 0, .int .i64 0, .slice none 0 0]] := K2.pick [0, 1, 4, 3, 2] (by decide) rfl
 have F2 := K2.facts
 simp only [factsL, cellsF, Nat.reduceAdd, zf, zl] at F2
 rw [hgt] at F2
 clear K0 K1 K2 b1
 go_wp2_with fail
 try rw [← hgt]
 have HGT := hid hgt
 clear hgt F2
 go_loopw [18] (fun iv wr => ∃ (j cap : Nat) (O : Option Addr) (outs : List Col), j ≤ cn ∧ iv = .int .i64 j ∧ Hold M none w wr [.own 158 4 (.slice O j cap) j (colCells outs), .blk gt 67 #[.string name, .slice O j cap, .int .i64 1, .slice none 0 0], .ro (SlR 4 (some ⟨b, o, none⟩) cn (colCells cl)), .cst gs 49 #[.string snm, .slice (some ⟨b, o, none⟩) cn cc], .blk gr 67 #[.string ⟨#[]⟩, .slice none 0 0, .int .i64 0, .slice none 0 0]]) (fun iv _ => cn - (intOf iv).toNat)
 case atStart => exact ⟨0, 0, none, [], by omega, rfl, K3⟩
 case round =>
  clear K3
  obtain ⟨j, cap, O, outs, hj, rfl, H⟩ := hrel
  by_cases hlt : j < cn
  ·obtain ⟨⟨xnm, xty, xnn, xkey⟩, hc⟩ := get_col HLN.out hlt
   obtain ⟨b2', o2', hcA, hb2, x0, x1, x2, x3⟩ := (RdC.of_sl (H.ro 2 rfl).now).at_ hc
   obtain ⟨rfl, rfl⟩ : b = b2' ∧ o = o2' := by injection hcA with hcA; injection hcA with e1 e2; exact ⟨e1, e2⟩
   clear hcA
   simp only at x0 x1 x2 x3
   clear hc
   have K2 := H.alloc_cst #[.string xnm, .int .i64 xty, .bool xnn, .bool xkey] 158
   have F2 := K2.facts
   simp only [factsL, cellsF, Nat.reduceAdd, zf, zl] at F2
   clear H
   go_wp2_with (at_builtin; go_must (refine wpList_appH K2 1 rfl Tryz.elCol #[.string xnm, .int .i64 xty, .bool false, .bool false] rfl (.tmp 24) (.tmp 30) rfl rfl _ (by first | rfl | simp) rfl rfl (by intro u hu; simp at hu; rcases hu with rfl | rfl | rfl | rfl <;> rfl) (by omega) (by omega) ?_); intro gA capA wA hcA hmA KA; rw [colCells_snoc outs xnm xty] at KA; simp only [zl] at KA; have FA := KA.facts; simp only [factsL, cellsF, Nat.reduceAdd, zf, zl] at FA)
   have KB := KA.store 2 rfl 1 (.slice (some ⟨gA, 0, none⟩) (j + 1) capA)
   simp only [zl] at KB
   go_roundw
   case rel => exact ⟨j + 1, capA, _, outs ++ [⟨xnm, xty, false, false⟩], by omega, by go_num, KB.pick [1, 2, 3, 4, 5] (by decide) rfl⟩
   case measure => simp [intOf]; omega
  ·obtain rfl : cn = j := by omega
   have F := H.facts
   simp only [factsL, cellsF, Nat.reduceAdd, zf, zl] at F
   have K6 := (((H.store 4 rfl 0 (.string name)).store 4 rfl 1 (.slice O cn cap)).store 4 rfl 2 (.int .i64 1)).store 4 rfl 3 (.slice none 0 0)
   simp only [zl] at K6
   have F6 := K6.facts
   simp only [factsL, cellsF, Nat.reduceAdd, zf, zl] at F6
   have hcap := own_caps (H.get 0 rfl)
   have KZ := K6.sealRow 0 rfl
   simp only [List.set_cons_zero] at KZ
   have hR : Ro _ _ (TeIn ⟨name, O, cn, cap, outs, 1, none, 0, 0, []⟩) := (KZ.ro 0 rfl).imp fun w2 h2 => ⟨h2, ⟨slr_nil 2 w2, fun _ hx => (nomatch hx)⟩⟩
   have HR := hid (hR.less zm)
   have HB := hid KZ.below
   clear KZ hR K6 H
   go_wp2_with fail
   refine bodyPost_ret (v := .agg #[.string name, .slice O cn cap, .int .i64 1, .slice none 0 0]) ?_ rfl ?_
   ·clear HR HB
    simp [results, Tryz.results128, go_sem, F6]
   ·exact ⟨⟨name, O, cn, cap, outs, 1, none, 0, 0, []⟩, rfl, ⟨rfl, hcap.1, hcap.2.1, rfl, rfl, rfl, rfl⟩, HR.out, HB.out⟩
/-- the answer of Transitions -/
def TrsRet (w : World) (M : Nat → Prop) (s : Sm) (e : Ending) (w' : World) : Prop := ∃ (A : Option Addr) (c : Nat) (l : List Te), e = .returned (.slice A l.length c) ∧ l.length ≤ 2 ∧ l.length ≤ c ∧ c ≤ 9223372036854775807 ∧ (∀ x ∈ l, TrOk s x) ∧ Ro w' M (TesIn A l.length l) ∧ Below w.heap.size w w'
def TrSlot (M : Nat → Prop) (s : Sm) (u : Value) (w : World) : Prop := ∃ x : Te, u = x.val ∧ TrOk s x ∧ Ro w M (TeIn x)
theorem trSlot_mono {M : Nat → Prop} {s : Sm} (u : Value) (w w' : World) (hr : RM M w w') (h : TrSlot M s u w) : TrSlot M s u w' := by
 obtain ⟨y, h1, h2, h3⟩ := h
 exact ⟨y, h1, h2, hr.ro h3⟩
set_option maxRecDepth 100000 in
set_option maxHeartbeats 8000000 in
theorem transitions_nil (M : Nat → Prop) (w : World) (hM : ∀ b, M b → b < w.heap.size) (t : Tg) (s : Sm) (hs : Ro w M (SmIn s)) (hn : 1 ≤ s.cols.n ∧ s.cols.n ≤ 1000) : Calls Tryz.prog 76 #[t.val, s.val, .agg #[.string ⟨#[]⟩, .slice none 0 0, .slice none 0 0, .slice none 0 0]] w fun e w' => TrsRet w M s e w' := by
 obtain ⟨tn, tt, tb, te, ⟨oA, on, oc, ol⟩, tch, ⟨pA, pn, pc, pl⟩, ⟨qA, qn, qc, ql⟩, ⟨rA, rn, rc, rl⟩, ⟨kA, kn, kc, kl⟩, ⟨aA, an, ac, al⟩⟩ := t
 obtain ⟨snm, ⟨cA, cn, cc, cl⟩⟩ := s
 have K0 := ((((Hold.start M w hM).add (hs.less (by simp [Mut]))).alloc_cst #[.string tn, .string tt, .bool tb, .int .i64 te, .slice oA on oc, .bool tch, .slice pA pn pc, .slice qA qn qc, .slice rA rn rc, .slice kA kn kc, .slice aA an ac] 40).alloc_cst #[.string snm, .slice cA cn cc] 49).alloc_cst #[.string ⟨#[]⟩, .slice none 0 0, .slice none 0 0, .slice none 0 0] 44
 rw [World.size_alloc, World.size_alloc] at K0
 obtain ⟨gt, hgt⟩ : ∃ g, g = w.heap.size := ⟨_, rfl⟩
 rw [← hgt] at K0
 obtain ⟨gs, hgs⟩ : ∃ g, g = gt + 1 := ⟨_, rfl⟩
 obtain ⟨gd, hgd⟩ : ∃ g, g = gs + 1 := ⟨_, rfl⟩
 rw [← hgs, ← hgd] at K0
 have F0 := K0.facts
 simp only [factsL, cellsF, Nat.reduceAdd, zf, zl] at F0
 rw [hgd, hgs, hgt] at F0
 simp only [Tg.val, Sm.val]
 clear hs
 go_enter Tryz.func76, Tryz.ntmps76
 cases tb
 ·cases tch
  ·go_wp2_with fail
   rw [← hgt, ← hgs, ← hgd]
   have HG := hid (And.intro hgt (And.intro hgs hgd))
   clear hgt hgs hgd F0
   go_loopw [7, 8, 20] (fun ov nv iv wr => ov = .slice none 0 0 ∧ nv = .slice none 0 0 ∧ iv = .int .i64 0 ∧ Hold M none w wr [.cst gd 44 #[.string ⟨#[]⟩, .slice none 0 0, .slice none 0 0, .slice none 0 0], .cst gs 49 #[.string snm, .slice cA cn cc], .cst gt 40 #[.string tn, .string tt, .bool false, .int .i64 te, .slice oA on oc, .bool false, .slice pA pn pc, .slice qA qn qc, .slice rA rn rc, .slice kA kn kc, .slice aA an ac], .ro (SmIn ⟨snm, ⟨cA, cn, cc, cl⟩⟩)]) (fun _ _ _ _ => 0)
   case atStart => exact ⟨rfl, rfl, rfl, K0⟩
   case round =>
    clear K0
    obtain ⟨rfl, rfl, rfl, H⟩ := hrel
    have F := H.facts
    simp only [factsL, cellsF, Nat.reduceAdd, zf, zl] at F
    by_cases e1 : te = 1
    ·skip
     subst e1
     go_wp2_with fail
     refine (transition_nil (Mut M _) _ H.mutLt ⟨#[73, 78, 83, 69, 82, 84, 69, 68]⟩ ⟨snm, ⟨cA, cn, cc, cl⟩⟩ (H.ro 3 rfl) hn).mono ?_
     rintro e w2 ⟨x, rfl, hx, rx, b2⟩
     have K5 := ((H.call b2).add rx).alloc_cst #[.string x.nm, .slice x.A x.n x.c, .int .i64 x.nx, .slice x.B x.m x.d] 67
     rw [show x.val = .agg #[.string x.nm, .slice x.A x.n x.c, .int .i64 x.nx, .slice x.B x.m x.d] from rfl]
     have hR : Ro _ _ (TesIn (some ⟨w2.heap.size, 0, none⟩) 1 [x]) := tes_block (l := [x]) (K5.get 0 rfl) (by simp [teCells, Te.cells]) (fun z hz => by
      simp only [List.mem_cons, List.not_mem_nil, or_false] at hz
      subst hz
      exact K5.ro 1 rfl)
     have HR := hid (hR.less zm)
     have HB := hid K5.below
     clear H F b2 rx K5 hR
     go_wp2_with fail
     go_ret
     exact ⟨_, 1, [x], rfl, by simp, by simp, by simp, fun z hz => by
      simp only [List.mem_cons, List.not_mem_nil, or_false] at hz
      subst hz
      exact hx, HR.out, HB.out⟩
    ·by_cases e3 : te = 3
     ·skip
      subst e3
      go_wp2_with fail
      refine (transition_nil (Mut M _) _ H.mutLt ⟨#[68, 69, 76, 69, 84, 69, 68]⟩ ⟨snm, ⟨cA, cn, cc, cl⟩⟩ (H.ro 3 rfl) hn).mono ?_
      rintro e w2 ⟨x, rfl, hx, rx, b2⟩
      have K5 := ((H.call b2).add rx).alloc_cst #[.string x.nm, .slice x.A x.n x.c, .int .i64 x.nx, .slice x.B x.m x.d] 67
      rw [show x.val = .agg #[.string x.nm, .slice x.A x.n x.c, .int .i64 x.nx, .slice x.B x.m x.d] from rfl]
      have hR : Ro _ _ (TesIn (some ⟨w2.heap.size, 0, none⟩) 1 [x]) := tes_block (l := [x]) (K5.get 0 rfl) (by simp [teCells, Te.cells]) (fun z hz => by
       simp only [List.mem_cons, List.not_mem_nil, or_false] at hz
       subst hz
       exact K5.ro 1 rfl)
      have HR := hid (hR.less zm)
      have HB := hid K5.below
      clear H F b2 rx K5 hR
      go_wp2_with fail
      go_ret
      exact ⟨_, 1, [x], rfl, by simp, by simp, by simp, fun z hz => by
       simp only [List.mem_cons, List.not_mem_nil, or_false] at hz
       subst hz
       exact hx, HR.out, HB.out⟩
     ·by_cases e2 : te = 2
      ·skip
       subst e2
       obtain ⟨KL, hKL⟩ : ∃ KL : List Hp, KL = [.cst gd 44 #[.string ⟨#[]⟩, .slice none 0 0, .slice none 0 0, .slice none 0 0], .cst gs 49 #[.string snm, .slice cA cn cc], .cst gt 40 #[.string tn, .string tt, .bool false, .int .i64 2, .slice oA on oc, .bool false, .slice pA pn pc, .slice qA qn qc, .slice rA rn rc, .slice kA kn kc, .slice aA an ac], .ro (SmIn ⟨snm, ⟨cA, cn, cc, cl⟩⟩)] := ⟨_, rfl⟩
       have hcast : ∀ (L1 : List Hp) (wz : World), Hold M none w wz L1 → L1 = KL → Hold M none w wz KL := fun _ _ h e => e ▸ h
       have K6 := hcast _ _ H hKL.symm
       have H1 : ∀ wv : World, Hold M none w wv KL → Blk wv gs 49 #[.string snm, .slice cA cn cc] := fun wv h => by rw [hKL] at h; exact h.cst_ 1 rfl
       have H2 : ∀ wv : World, Hold M none w wv KL → Ro wv (Mut M KL) (SmIn ⟨snm, ⟨cA, cn, cc, cl⟩⟩) := fun wv h => by rw [hKL] at h ⊢; exact h.ro 3 rfl
       have HH1 := hid H1
       have HH2 := hid H2
       have HKL := hid hKL
       clear hKL hcast H1 H2 H
       go_wp2_with fail
       clear F
       refine wp_region_any (by kernel_rfl) ?_
       refine wpAny_hold 6 66 (KL) (spL [(61, TrSlot (Mut M KL) ⟨snm, ⟨cA, cn, cc, cl⟩⟩), (64, TrSlot (Mut M KL) ⟨snm, ⟨cA, cn, cc, cl⟩⟩)]) (by kernel_rfl) (by kernel_rfl) (by kernel_rfl) rfl ?_ (K6.drew) ?_
       ·exact stays_cons trSlot_mono (stays_cons trSlot_mono (stays_nil _))
       simp only [zd, Act.put, List.getElem_toArray, List.getElem_cons_zero, List.getElem_cons_succ, zl]
       refine dw_val rfl rfl rfl ?_; apply Exists.intro; refine ⟨fun wv HC => ?_, ?_⟩
       ·obtain q0 := (HH1.out _ HC).cell 0; obtain q1 := (HH1.out _ HC).cell 1; go_simp <;> rfl
       simp only [Act.put, zl]
       refine dw_val rfl rfl rfl ?_; apply Exists.intro; refine ⟨fun wv HC => ?_, ?_⟩
       · go_simp <;> rfl
       simp only [Act.put, zl]
       refine dw_callR 61 (TrSlot (Mut M KL) ⟨snm, ⟨cA, cn, cc, cl⟩⟩) (f := 128) (args := #[.string ⟨#[68, 69, 76, 69, 84, 69, 68]⟩, .agg #[.string snm, .slice cA cn cc], .slice none 0 0]) rfl rfl rfl rfl (fun wv => ?_) (fun wv HC hrm hD => ?_) ?_
       ·go_simp <;> rfl
       ·refine (transition_nil (Mut M KL) wv HC.mutLt ⟨#[68, 69, 76, 69, 84, 69, 68]⟩ ⟨snm, ⟨cA, cn, cc, cl⟩⟩ (HH2.out _ HC) hn).mono ?_
        rintro e w5 ⟨x, rfl, hx, rx, b5⟩
        exact ⟨_, rfl, ⟨x, rfl, hx, rx⟩, HC.call b5, RM.below b5⟩
       rintro u wx HCx ⟨x, rfl, hx, rx⟩
       clear HCx hx rx
       simp only [Act.put, zl]
       refine dw_val rfl rfl rfl ?_; apply Exists.intro; refine ⟨fun wv HC => ?_, ?_⟩
       ·obtain q0 := (HH1.out _ HC).cell 0; obtain q1 := (HH1.out _ HC).cell 1; go_simp <;> rfl
       simp only [Act.put, zl]
       refine dw_val rfl rfl rfl ?_; apply Exists.intro; refine ⟨fun wv HC => ?_, ?_⟩
       · go_simp <;> rfl
       simp only [Act.put, zl]
       refine dw_callR 64 (TrSlot (Mut M KL) ⟨snm, ⟨cA, cn, cc, cl⟩⟩) (f := 128) (args := #[.string ⟨#[73, 78, 83, 69, 82, 84, 69, 68]⟩, .agg #[.string snm, .slice cA cn cc], .slice none 0 0]) rfl rfl rfl rfl (fun wv => ?_) (fun wv HC hrm hD => ?_) ?_
       ·go_simp <;> rfl
       ·refine (transition_nil (Mut M KL) wv HC.mutLt ⟨#[73, 78, 83, 69, 82, 84, 69, 68]⟩ ⟨snm, ⟨cA, cn, cc, cl⟩⟩ (HH2.out _ HC) hn).mono ?_
        rintro e w5 ⟨x, rfl, hx, rx, b5⟩
        exact ⟨_, rfl, ⟨x, rfl, hx, rx⟩, HC.call b5, RM.below b5⟩
       rintro u wx HCx ⟨y, rfl, hx, rx⟩
       clear HCx hx rx
       simp only [Act.put, zl]
       refine rel_nil ?_
       rintro wx2 HX
       rintro _hrm HG
       have hu : TrSlot (Mut M KL) ⟨snm, ⟨cA, cn, cc, cl⟩⟩ x.val wx2 := (GW_on (d := 61) rfl).1 (HG 2 _ rfl (by omega))
       have hu2 : TrSlot (Mut M KL) ⟨snm, ⟨cA, cn, cc, cl⟩⟩ y.val wx2 := (GW_on (d := 64) rfl).1 (HG 5 _ rfl (by omega))
       clear HG _hrm
       obtain ⟨x1, hy1, hok1, hro1⟩ := hu
       obtain ⟨x2, hy2, hok2, hro2⟩ := hu2
       rw [HKL.out] at HX hro1 hro2
       rw [hy1, hy2]
       clear hy1 hy2 x y HH1 HH2 HKL
       have K5 := (((HX.add hro1).add (hro2.less (by intro b hb; simpa [mut_cons, Hp.foot] using hb)))).alloc_cst #[.string x1.nm, .slice x1.A x1.n x1.c, .int .i64 x1.nx, .slice x1.B x1.m x1.d, .string x2.nm, .slice x2.A x2.n x2.c, .int .i64 x2.nx, .slice x2.B x2.m x2.d] 67
       rw [show x1.val = .agg #[.string x1.nm, .slice x1.A x1.n x1.c, .int .i64 x1.nx, .slice x1.B x1.m x1.d] from rfl, show x2.val = .agg #[.string x2.nm, .slice x2.A x2.n x2.c, .int .i64 x2.nx, .slice x2.B x2.m x2.d] from rfl]
       have hR : Ro _ _ (TesIn (some ⟨wx2.heap.size, 0, none⟩) 2 [x1, x2]) := tes_block (l := [x1, x2]) (K5.get 0 rfl) (by simp [teCells, Te.cells]) (fun z hz => by
        simp only [List.mem_cons, List.not_mem_nil, or_false] at hz
        rcases hz with rfl | rfl
        ·exact K5.ro 2 rfl
        ·exact K5.ro 1 rfl)
       have HR := hid (hR.less zm)
       have HB := hid K5.below
       clear HX hro1 hro2 K5 hR
       go_wp2_with fail
       go_ret
       exact ⟨_, 2, [x1, x2], rfl, by simp, by simp, by simp, fun z hz => by
        simp only [List.mem_cons, List.not_mem_nil, or_false] at hz
        rcases hz with rfl | rfl
        ·exact hok1
        ·exact hok2, HR.out, HB.out⟩
      ·have c2 : (te == 2) = false := by simpa using e2
       have c3 : (te == 3) = false := by simpa using e3
       have c1 : (te == 1) = false := by simpa using e1
       have HB := hid H.below
       clear H
       go_wp2_with fail
       go_ret
       exact ⟨none, 0, [], rfl, by simp, by simp, by simp, fun _ hx => (nomatch hx), fun w2 _ _ => ⟨slr_nil 4 w2, fun _ hx => (nomatch hx)⟩, HB.out⟩
  ·have HB := hid K0.below
   go_wp2_with fail
   go_ret
   exact ⟨none, 0, [], rfl, by simp, by simp, by simp, fun _ hx => (nomatch hx), fun w2 _ _ => ⟨slr_nil 4 w2, fun _ hx => (nomatch hx)⟩, HB.out⟩
 ·have HB := hid K0.below
  go_wp2_with fail
  go_ret
  exact ⟨none, 0, [], rfl, by simp, by simp, by simp, fun _ hx => (nomatch hx), fun w2 _ _ => ⟨slr_nil 4 w2, fun _ hx => (nomatch hx)⟩, HB.out⟩
end Go.Proofs.YtnbbllkbefagmaaGreatDoor

namespace Go.Proofs.YtnbbllkbefagmaaGreatDoor
open Go.RowKit
set_option linter.unusedVariables false
set_option linter.unusedSimpArgs false
/-- a schema of few columns -/
def SmB (s : Sm) : Prop := 1 ≤ s.cols.n ∧ s.cols.n ≤ 1000 ∧ s.cols.n ≤ 100 ∧ s.cols.n ≤ s.cols.c
theorem mut_head {M : Nat → Prop} {L : List Hp} {g : Nat} {t : TypeId} {cs : Array Value} : ∀ b, (M b ∨ b = g) → Mut M (.blk g t cs :: L) b := fun b hb => by
 rcases hb with hb | rfl
 ·exact .inl hb
 ·exact .inr ⟨_, List.mem_cons_self .., rfl⟩
def SchOwn (w : World) (M : Nat → Prop) (e : Ending) (w' : World) : Prop := ∃ (g : Nat) (l : List Sm), e = .returned (.slice (some ⟨g, 0, none⟩) 3 3) ∧ l.length = 3 ∧ (∀ s ∈ l, SmB s) ∧ w'.ownsRow w.heap.size 49 2 (.slice (some ⟨g, 0, none⟩) 3 3) 3 (smCells l) ∧ (∀ s ∈ l, Ro w' (fun b => M b ∨ b = g) (SmIn s)) ∧ Below w.heap.size w w'
set_option maxHeartbeats 4000000 in
theorem schemasOwn_any (M : Nat → Prop) (w : World) (hM : ∀ b, M b → b < w.heap.size) : Calls Tryz.prog 56 #[] w fun e w' => SchOwn w M e w' := by
 have K0 := ((((Hold.start M w hM).alloc_cst (colCells logCols).toArray 158).alloc_cst (colCells tCols).toArray 158).alloc_cst (colCells uCols).toArray 158).alloc
  #[.string nmLog, .slice (some ⟨w.heap.size, 0, none⟩) 2 2, .string nmT, .slice (some ⟨w.heap.size + 1, 0, none⟩) 4 4, .string nmU, .slice (some ⟨w.heap.size + 1 + 1, 0, none⟩) 3 3] 49
 simp only [World.size_alloc] at K0
 go_enter Tryz.func56, Tryz.ntmps56
 go_wp2
 go_ret
 have h0 := K0.blk_ 0 rfl
 refine ⟨w.heap.size + 1 + 1 + 1, [⟨nmLog, ⟨some ⟨w.heap.size, 0, none⟩, 2, 2, logCols⟩⟩, ⟨nmT, ⟨some ⟨w.heap.size + 1, 0, none⟩, 4, 4, tCols⟩⟩, ⟨nmU, ⟨some ⟨w.heap.size + 1 + 1, 0, none⟩, 3, 3, uCols⟩⟩], rfl, rfl, fun s hs => ?_, ⟨rfl, .inr ⟨w.heap.size + 1 + 1 + 1, 3, _, rfl, by omega, h0, Nat.le_refl _, by decide, rfl, rfl⟩⟩, fun s hs => ?_, K0.below⟩
 ·simp only [List.mem_cons, List.not_mem_nil, or_false] at hs
  rcases hs with rfl | rfl | rfl <;> exact ⟨by simp, by simp, by simp, by simp⟩
 ·simp only [List.mem_cons, List.not_mem_nil, or_false] at hs
  rcases hs with rfl | rfl | rfl
  ·exact (((ro_block (K0.get 3 rfl) (by rfl)).less mut_head) : Ro _ _ (SlR 4 _ 2 (colCells logCols))).imp fun w2 h2 => ⟨h2, fun _ _ => trivial⟩
  ·exact (((ro_block (K0.get 2 rfl) (by rfl)).less mut_head) : Ro _ _ (SlR 4 _ 4 (colCells tCols))).imp fun w2 h2 => ⟨h2, fun _ _ => trivial⟩
  ·exact (((ro_block (K0.get 1 rfl) (by rfl)).less mut_head) : Ro _ _ (SlR 4 _ 3 (colCells uCols))).imp fun w2 h2 => ⟨h2, fun _ _ => trivial⟩
theorem one_schema {s : ByteArray} (h : OneName s) : 1 ≤ (schemaOf s).2.length ∧ (schemaOf s).2.length ≤ 4 := by
 rcases h with rfl | rfl | rfl <;> exact ⟨by decide +kernel, by decide +kernel⟩
theorem Tryz.elSm : ElemT Tryz.prog 119 49 2 40 (.agg #[.string ⟨#[]⟩, .slice none 0 0]) := ⟨Tryz.underlying119, by kernel_rfl, rfl, by omega⟩
theorem smCells_snoc (l : List Sm) (n : ByteArray) (A : Option Addr) (k c : Nat) (cs : List Col) : smCells l ++ (#[.string n, .slice A k c] : Array Value).toList = smCells (l ++ [⟨n, ⟨A, k, c, cs⟩⟩]) := by simp [smCells, Sm.cells, SlP.v]
def PlcRet (w : World) (M : Nat → Prop) (e : Ending) (w' : World) : Prop := ∃ p : Pl, e = .returned p.val ∧ PlB p ∧ p.fr.n ≤ 2 ∧ 1 ≤ p.tb.n ∧ Ro w' M (PlIn p) ∧ Below w.heap.size w w'
set_option maxRecDepth 100000 in
set_option maxHeartbeats 8000000 in
theorem place_any (M : Nat → Prop) (w : World) (hM : ∀ b, M b → b < w.heap.size) (t : Tg) (hT : OneName t.tab) : Calls Tryz.prog 98 #[t.val] w fun e w' => PlcRet w M e w' := by
 obtain ⟨tn, tt, tb, te, ⟨oA, on, oc, ol⟩, tch, ⟨pA, pn, pc, pl⟩, ⟨qA, qn, qc, ql⟩, ⟨rA, rn, rc, rl⟩, ⟨kA, kn, kc, kl⟩, ⟨aA, an, ac, al⟩⟩ := t
 have hT : OneName tt := hT
 have K0 := ((Hold.start M w hM).alloc_cst #[.string tn, .string tt, .bool tb, .int .i64 te, .slice oA on oc, .bool tch, .slice pA pn pc, .slice qA qn qc, .slice rA rn rc, .slice kA kn kc, .slice aA an ac] 40).alloc #[.slice none 0 0, .slice none 0 0] 177
 rw [World.size_alloc] at K0
 obtain ⟨gx, hgx⟩ : ∃ g, g = w.heap.size := ⟨_, rfl⟩
 rw [← hgx] at K0
 obtain ⟨gr, hgr⟩ : ∃ g, g = gx + 1 := ⟨_, rfl⟩
 rw [← hgr] at K0
 have F0 := K0.facts
 simp only [factsL, cellsF, Nat.reduceAdd, zf, zl] at F0
 rw [hgr, hgx] at F0
 simp only [Tg.val]
 go_enter Tryz.func98, Tryz.ntmps98
 go_wp2_with fail
 rw [← hgx]
 try rw [← hgr]
 have HG := hid (And.intro hgx hgr)
 clear hgx hgr F0
 refine (schema_any (Mut M _) _ K0.mutLt tt).mono ?_
 rintro e w1 ⟨cA, cn, cc, rfl, hcc, hc4, r1, b1⟩
 have hcl : 1 ≤ cn ∧ cn ≤ 4 := by
  have h := (show Rd w1 w1.heap.size 4 cA cn (colCells (schemaOf tt).2) from r1.now).1
  have h2 := one_schema hT
  have h3 : (colCells (schemaOf tt).2).length = (schemaOf tt).2.length * 4 := flat_len _ 4 (fun _ => rfl) _
  omega
 have K1 := (K0.call b1).add (r1.imp (S' := SmIn ⟨(schemaOf tt).1, ⟨cA, cn, cc, (schemaOf tt).2⟩⟩) fun w2 h2 => ⟨h2, fun _ _ => trivial⟩)
 obtain ⟨snm, hsnm⟩ : ∃ x, x = (schemaOf tt).1 := ⟨_, rfl⟩
 obtain ⟨cl, hcs⟩ : ∃ x, x = (schemaOf tt).2 := ⟨_, rfl⟩
 rw [← hsnm, ← hcs] at K1
 rw [← hsnm]
 clear K0 hsnm hcs r1 b1
 have K2 := K1.alloc #[.string snm, .slice cA cn cc] 49
 have F1 := K1.facts
 simp only [factsL, cellsF, Nat.reduceAdd, zf, zl] at F1
 have F2 := K2.facts
 simp only [factsL, cellsF, Nat.reduceAdd, zf, zl] at F2
 clear K1
 go_wp2_with fail
 refine (frames_nil (Mut M _) _ K2.mutLt ⟨tn, tt, tb, te, ⟨oA, on, oc, ol⟩, tch, ⟨pA, pn, pc, pl⟩, ⟨qA, qn, qc, ql⟩, ⟨rA, rn, rc, rl⟩, ⟨kA, kn, kc, kl⟩, ⟨aA, an, ac, al⟩⟩ ⟨snm, ⟨cA, cn, cc, cl⟩⟩ (K2.ro 1 rfl) (by show cn ≤ 1000; omega)).mono ?_
 rintro e w3 ⟨⟨fA, fn, fc, fl⟩, rfl, hf1, hf2, hf3, rf, b3⟩
 have K3 := (K2.call b3).add rf
 simp only [SlP.v] at *
 clear K2 F1 F2 rf b3
 go_wp2_with fail
 refine (schemasOwn_any (Mut M _) _ K3.mutLt).mono ?_
 rintro e w4 ⟨g, sl, rfl, hl3, hsl, ho, hro, b4⟩
 have K4 := (K3.callOwn b4 ho).add (S := fun w => ∀ s ∈ sl, SmIn s w) (by
  intro w2 ha hb s hs
  refine (hro s hs).less (fun b hm => ?_) w2 ha hb
  rcases mut_cons.1 hm with hf | hm
  ·right
   have hf : some g = some b := hf
   injection hf with hf
   exact hf.symm
  ·exact .inl hm)
 have K5 := K4.alloc #[.slice fA fn fc, .slice (some ⟨g, 0, none⟩) 3 3] 177
 have F4 := K4.facts
 simp only [factsL, cellsF, Nat.reduceAdd, zf, zl] at F4
 have F5 := K5.facts
 simp only [factsL, cellsF, Nat.reduceAdd, zf, zl] at F5
 have HRO := hid hro
 clear K3 K4 ho hro b4
 go_wp2_with fail
 refine (transitions_nil (Mut M _) _ K5.mutLt ⟨tn, tt, tb, te, ⟨oA, on, oc, ol⟩, tch, ⟨pA, pn, pc, pl⟩, ⟨qA, qn, qc, ql⟩, ⟨rA, rn, rc, rl⟩, ⟨kA, kn, kc, kl⟩, ⟨aA, an, ac, al⟩⟩ ⟨snm, ⟨cA, cn, cc, cl⟩⟩ (K5.ro 5 rfl) (by show 1 ≤ cn ∧ cn ≤ 1000; omega)).mono ?_
 rintro e w5 ⟨tA, tc, tl, rfl, htl, htc, htm, htr, rt, b5⟩
 obtain ⟨gq, hgq⟩ : ∃ g, g = w4.heap.size := ⟨_, rfl⟩
 rw [← hgq] at K5 rt ⊢
 have HGQ := hid hgq
 clear hgq F4 F5
 have K6 : Hold M none w w5 [.own 49 2 (.slice (some ⟨g, 0, none⟩) 3 3) 3 (smCells sl), .blk gq 177 #[.slice fA fn fc, .slice (some ⟨g, 0, none⟩) 3 3], .ro (fun w => ∀ s ∈ sl, SmIn s w), .ro (TesIn tA tl.length tl), .ro (FrsIn ⟨fA, fn, fc, fl⟩), .blk gr 177 #[.slice none 0 0, .slice none 0 0]] := ((K5.call b5).add rt).pick [3, 1, 2, 0, 4, 7] (by decide) rfl
 have HTR := hid htr
 clear K5 rt b5 htr
 go_wp2_with fail
 go_loopw [20] (fun iv wr => ∃ (j cap : Nat) (O : Option Addr) (outs : List Sm), j ≤ tl.length ∧ iv = .int .i64 j ∧ (∀ s ∈ outs, SmB s) ∧ Hold M none w wr [.own 49 2 (.slice O (3 + j) cap) (3 + j) (smCells outs), .blk gq 177 #[.slice fA fn fc, .slice O (3 + j) cap], .ro (fun w => ∀ s ∈ outs, SmIn s w), .ro (TesIn tA tl.length tl), .ro (FrsIn ⟨fA, fn, fc, fl⟩), .blk gr 177 #[.slice none 0 0, .slice none 0 0]]) (fun iv _ => tl.length - (intOf iv).toNat)
 case atStart => exact ⟨0, 3, some ⟨g, 0, none⟩, sl, by omega, rfl, hsl, K6⟩
 case round =>
  clear K6
  obtain ⟨j, cap, O, outs, hj, rfl, hso, H⟩ := hrel
  by_cases hlt : j < tl.length
  ·obtain ⟨x, hx⟩ := get_anyG rfl hlt
   obtain ⟨b, o, rfl, hb2, x0, x1, x2, x3, hin⟩ := TesIn.at_ (H.ro 3 rfl).now hx
   have hok := HTR.out x (List.mem_of_getElem? hx)
   have hxin := (H.ro 3 rfl).imp (S' := SmIn ⟨x.nm, ⟨x.A, x.n, x.c, x.cs⟩⟩) fun w2 h2 => ⟨(h2.2 x (List.mem_of_getElem? hx)).1, fun _ _ => trivial⟩
   clear hx
   have K2 := (H.add hxin).alloc_cst #[.string x.nm, .slice x.A x.n x.c, .int .i64 x.nx, .slice x.B x.m x.d] 67
   have F2 := K2.facts
   simp only [factsL, cellsF, Nat.reduceAdd, zf, zl] at F2
   clear H hin hxin
   go_wp2_with (at_builtin; go_must (refine wpList_appH K2 2 rfl Tryz.elSm #[.string x.nm, .slice x.A x.n x.c] rfl (.tmp 25) (.tmp 28) rfl rfl _ (by first | rfl | simp) rfl rfl (by intro u hu; simp at hu; rcases hu with rfl | rfl <;> rfl) (by omega) (by omega) ?_); intro gA capA wA hcA hmA KA; rw [smCells_snoc outs x.nm x.A x.n x.c x.cs] at KA; simp only [zl] at KA; have FA := KA.facts; simp only [factsL, cellsF, Nat.reduceAdd, zf, zl] at FA)
   have KB := KA.store 3 rfl 1 (.slice (some ⟨gA, 0, none⟩) (3 + j + 1) capA)
   simp only [zl] at KB
   have KC := KB.add (S := fun w => ∀ s ∈ outs ++ [(⟨x.nm, ⟨x.A, x.n, x.c, x.cs⟩⟩ : Sm)], SmIn s w) (((KB.ro 4 rfl).and (KB.ro 1 rfl)).imp fun w2 h2 s hs => by
    rcases List.mem_append.1 hs with hs | hs
    ·exact h2.1 s hs
    ·simp only [List.mem_cons, List.not_mem_nil, or_false] at hs
     subst hs
     exact h2.2)
   go_roundw
   case rel =>
    refine ⟨j + 1, capA, _, outs ++ [⟨x.nm, ⟨x.A, x.n, x.c, x.cs⟩⟩], by omega, by go_num, fun s hs => ?_, KC.pick [3, 4, 0, 6, 7, 8] (by decide) rfl⟩
    rcases List.mem_append.1 hs with hs | hs
    ·exact hso s hs
    ·simp only [List.mem_cons, List.not_mem_nil, or_false] at hs
     subst hs
     have h1 : x.n = cn := hok.n
     have h2 := hok.c
     exact ⟨by show 1 ≤ x.n; omega, by show x.n ≤ 1000; omega, by show x.n ≤ 100; omega, h2⟩
   case measure => simp [intOf]; omega
  ·obtain rfl : tl.length = j := by omega
   have F := H.facts
   simp only [factsL, cellsF, Nat.reduceAdd, zf, zl] at F
   have K6 := (H.store 5 rfl 0 (.slice fA fn fc)).store 5 rfl 1 (.slice O (3 + tl.length) cap)
   simp only [zl] at K6
   have F6 := K6.facts
   simp only [factsL, cellsF, Nat.reduceAdd, zf, zl] at F6
   have hcap := own_caps (H.get 0 rfl)
   have hlen := (H.get 0 rfl).1
   rw [smCells_len] at hlen
   have KZ := K6.sealRow 0 rfl
   simp only [List.set_cons_zero] at KZ
   have hR : Ro _ _ (PlIn ⟨⟨fA, fn, fc, fl⟩, ⟨O, 3 + tl.length, cap, outs⟩⟩) := ((KZ.ro 4 rfl).and ((KZ.ro 0 rfl).and (KZ.ro 2 rfl))).imp fun w2 h2 => ⟨h2.1, ⟨h2.2.1, h2.2.2⟩⟩
   have HR := hid (hR.less zm)
   have HB := hid KZ.below
   clear KZ hR K6 H
   go_wp2_with fail
   refine bodyPost_ret (v := .agg #[.slice fA fn fc, .slice O (3 + tl.length) cap]) ?_ rfl ?_
   ·clear HR HB
    simp [results, Tryz.results98, go_sem, F6]
   ·exact ⟨⟨⟨fA, fn, fc, fl⟩, ⟨O, 3 + tl.length, cap, outs⟩⟩, rfl, ⟨⟨hf1, by show fn ≤ 100; omega⟩, ⟨hcap.1, by show 3 + tl.length ≤ 100; omega⟩, fun f hf => by have := hf3 f hf; show f.cols.n ≤ 100; have h5 : f.cols.n = cn := this; omega, fun s hs => (hso s hs).2.2.1⟩, hf2, by show 1 ≤ 3 + tl.length; omega, HR.out, HB.out⟩
end Go.Proofs.YtnbbllkbefagmaaGreatDoor

namespace Go.Proofs.YtnbbllkbefagmaaGreatDoor
open Go.RowKit
set_option linter.unusedVariables false
set_option linter.unusedSimpArgs false
/-- a query drawn -/
def QuGd (d : Nat) (q : Qu) : Prop := (q.n ≤ q.c ∧ q.c ≤ 9223372036854775807 ∧ q.m ≤ q.d ∧ q.d ≤ 9223372036854775807) ∧ (q.items.length ≤ 8 ∧ q.wh.length ≤ 1) ∧ (∀ a ∈ q.items, ExGd d a) ∧ ∀ a ∈ q.wh, ExGd d a
def QuRet (w : World) (T : Nat) (M : Nat → Prop) (d : Nat) (e : Ending) (w' : World) : Prop := ∃ q : Qu, e = .returned (.agg #[.bool q.star, .slice q.A q.n q.c, .string q.src, .slice q.B q.m q.d]) ∧ QuGd d q ∧ Ro w' M (QuIn d q) ∧ Tp w' T ∧ w.grownBy w' (some T)
theorem frs_last {w : World} {b o n c : Nat} {l : List Fr} {f : Fr} {c' : Nat} (h : FrsIn ⟨some ⟨b, o, none⟩, n + 1, c, l ++ [f]⟩ w) : FrsIn ⟨some ⟨b, o + n * 4, none⟩, 1, c', [f]⟩ w := by
 have hl : l.length = n := by
  have := FrsIn.len h
  simp at this
  exact this
 refine ⟨⟨by simp [Fr.cells], fun _ => ⟨b, o + n * 4, rfl, ?_, fun j u hu => ?_⟩⟩, fun x hx => h.2 x (List.mem_append_right _ hx)⟩
 ·obtain ⟨b2, o2, e, hb, -⟩ := (show Rd w w.heap.size 4 (some ⟨b, o, none⟩) (n + 1) ((l ++ [f]).flatMap Fr.cells) from h.1).2 (by omega)
  injection e with e
  injection e with e1 e2
  subst e1
  exact hb
 ·obtain ⟨b2, o2, e, hb, hc⟩ := (show Rd w w.heap.size 4 (some ⟨b, o, none⟩) (n + 1) ((l ++ [f]).flatMap Fr.cells) from h.1).2 (by omega)
  injection e with e
  injection e with e1 e2
  subst e1
  subst e2
  have hlen : (l.flatMap Fr.cells).length = n * 4 := by rw [flat_len Fr.cells 4 (fun _ => rfl), hl]
  have := hc (n * 4 + j) u (by
   rw [List.flatMap_append, List.getElem?_append_right (by omega), hlen]
   simpa using hu)
  rw [← Nat.add_assoc] at this
  exact this
set_option maxRecDepth 100000 in
set_option maxHeartbeats 16000000 in
theorem copies_anyG {n : Nat} (HE : GE n) (M : Nat → Prop) (T : Nat) (w : World) (hM : ∀ b, M b → b < w.heap.size) (ht : Tp w T) (hMT : ∀ b, M b → T ≤ b) (p : Pl) (s : Sm) (depth : Int) (hp : Ro w (Mut M [.tp T]) (PlIn p)) (hsm : Ro w (Mut M [.tp T]) (SmIn s)) (hsc : 1 ≤ s.cols.n ∧ s.cols.n ≤ 4) (hW : Ro w (Mut M [.tp T]) Wds) (hT : 1 < T) (hB : PlN (n + 1) p) (hd : depth ≤ n) (hd2 : -100 ≤ depth) (hs : 0 < p.tb.n) :
  Calls Tryz.prog 204 #[.pointer (some ⟨T, 0, none⟩), p.val, s.val, .int .i64 depth] w fun e w' => QuRet w T M (n + 3) e w' := by
 have HBM := hid (fun (s : Sm) (hs : s ∈ p.tb.l) (A : Option Addr) (c : Nat) (hc : p.fr.n + 1 ≤ c) => plN_more hB hs (A := A) hc)
 obtain ⟨⟨fA, fn, fc, fl⟩, ⟨sA, sn, sc, sl⟩⟩ := p
 obtain ⟨snm, ⟨cA, cn, cc, cl⟩⟩ := s
 have hs : 0 < sn := hs
 have hcn : 1 ≤ cn ∧ cn ≤ 4 := hsc
 have HTC := hid (show ∀ s ∈ sl, s.cols.n ≤ 100 from hB.b.tc)
 have HSL := hid (show sl.length = sn from SmsIn.len hp.now.2)
 obtain ⟨bS, oS, eS, -, -⟩ := (show Rd w w.heap.size 2 sA sn (sl.flatMap Sm.cells) from hp.now.2.1).2 hs
 obtain rfl : sA = some ⟨bS, oS, none⟩ := eS
 obtain ⟨bC, oC, eC, -, -⟩ := (show Rd w w.heap.size 4 cA cn (cl.flatMap Col.cells) from hsm.now.1).2 (by omega)
 obtain rfl : cA = some ⟨bC, oC, none⟩ := eC
 have HLN := hid (show cl.length = cn from (RdC.of_sl (show SlR 4 (some ⟨bC, oC, none⟩) cn (colCells cl) w from hsm.now.1)).len)
 have KZ := ((((((Hold.startT M w T hM ht hMT).add hW).add (hp.less (by simp [mut_cons, Mut, Hp.foot]))).add ((hsm.imp (S' := SlR 4 (some ⟨bC, oC, none⟩) cn (colCells cl)) fun w2 h2 => h2.1).less (by simp [mut_cons, Mut, Hp.foot]))).alloc_cst #[.slice fA fn fc, .slice (some ⟨bS, oS, none⟩) sn sc] 177).alloc_cst #[.string snm, .slice (some ⟨bC, oC, none⟩) cn cc] 49).alloc #[.bool false, .slice none 0 0, .string ⟨#[]⟩, .slice none 0 0] 273
 rw [World.size_alloc, World.size_alloc] at KZ
 obtain ⟨gp, hgp⟩ : ∃ g, g = w.heap.size := ⟨_, rfl⟩
 rw [← hgp] at KZ
 obtain ⟨gc, hgc⟩ : ∃ g, g = gp + 1 := ⟨_, rfl⟩
 obtain ⟨gr, hgr⟩ : ∃ g, g = gc + 1 := ⟨_, rfl⟩
 rw [← hgc, ← hgr] at KZ
 have KS : Hold M (some T) w _ [.blk gr 273 #[.bool false, .slice none 0 0, .string ⟨#[]⟩, .slice none 0 0], .cst gc 49 #[.string snm, .slice (some ⟨bC, oC, none⟩) cn cc], .cst gp 177 #[.slice fA fn fc, .slice (some ⟨bS, oS, none⟩) sn sc], .ro (PlIn ⟨⟨fA, fn, fc, fl⟩, ⟨some ⟨bS, oS, none⟩, sn, sc, sl⟩⟩), .ro Wds, .tp T, .ro (SlR 4 (some ⟨bC, oC, none⟩) cn (colCells cl))] := KZ.pick [0, 1, 2, 4, 5, 6, 3] (by decide) rfl
 have hm90 : n ≤ 90 ∧ fn ≤ 100 := by have h1 : fn + (n + 1) ≤ 90 := hB.n; omega
 have hsn : sn ≤ 100 := hB.b.t.2
 simp only [Pl.val, Sm.val]
 clear hp hW hB hsm KZ
 go_enter Tryz.func204, Tryz.ntmps204
 obtain ⟨KL, hKL⟩ : ∃ KL : List Hp, KL = [.blk gr 273 #[.bool false, .slice none 0 0, .string ⟨#[]⟩, .slice none 0 0], .cst gc 49 #[.string snm, .slice (some ⟨bC, oC, none⟩) cn cc], .cst gp 177 #[.slice fA fn fc, .slice (some ⟨bS, oS, none⟩) sn sc], .ro (PlIn ⟨⟨fA, fn, fc, fl⟩, ⟨some ⟨bS, oS, none⟩, sn, sc, sl⟩⟩), .ro Wds, .tp T, .ro (SlR 4 (some ⟨bC, oC, none⟩) cn (colCells cl))] := ⟨_, rfl⟩
 have hcast : ∀ (L1 : List Hp) (wz : World), Hold M (some T) w wz L1 → L1 = KL → Hold M (some T) w wz KL := fun _ _ h e => e ▸ h
 have K6 := hcast _ _ KS hKL.symm
 have H1 : ∀ wv : World, Hold M (some T) w wv KL → Blk wv gp 177 #[.slice fA fn fc, .slice (some ⟨bS, oS, none⟩) sn sc] := fun wv h => by rw [hKL] at h; exact h.cst_ 2 rfl
 have h4 : KL[5]? = some (.tp T) := by rw [hKL]; rfl
 have H5 : ∀ wv : World, Hold M (some T) w wv KL → ∀ k x, sl[k]? = some x → wv.cell? ⟨bS, oS + k * 2, none⟩ = some (.string x.nm) ∧ wv.cell? ⟨bS, oS + k * 2 + 1, none⟩ = some (.slice x.cols.A x.cols.n x.cols.c) := fun wv h k x hx => by
  rw [hKL] at h
  obtain ⟨b, o, e, -, hc, -⟩ := SmsIn.at_ (h.ro 3 rfl).now.2 hx
  have e : some (⟨bS, oS, none⟩ : Addr) = some ⟨b, o, none⟩ := e
  obtain ⟨rfl, rfl⟩ : bS = b ∧ oS = o := by injection e with e; injection e with e1 e2; exact ⟨e1, e2⟩
  exact ⟨hc 0 _ (by omega) rfl, hc 1 _ (by omega) rfl⟩
 have HH1 := hid H1
 have HH4 := hid h4
 have HH5 := hid H5
 have HKL := hid hKL
 clear hKL hcast H1 H5 h4 KS
 go_wp2_with fail
 rw [← hgp]
 try rw [← hgc]
 try rw [← hgr]
 have HG := hid (And.intro hgp (And.intro hgc hgr))
 clear hgp hgc hgr
 refine wp_region_any (by kernel_rfl) ?_
 refine wpAny_hold 10 83 (KL) (spL [(23, fun u _ => NatB sn u), (9, NewSlot (Mut M KL) (gr + 1) 49 #[.string ⟨#[]⟩, .slice none 0 0])]) (by kernel_rfl) (by kernel_rfl) (by kernel_rfl) rfl ?_ (K6.drew) ?_
 ·exact stays_cons (fun _ _ _ _ h => h) (stays_cons newSlot_mono (stays_nil _))
 simp only [zd, Act.put, List.getElem_toArray, List.getElem_cons_zero, List.getElem_cons_succ, zl]
 refine dw_val rfl rfl rfl ?_; apply Exists.intro; refine ⟨fun wv HC => ?_, ?_⟩
 · go_simp <;> rfl
 simp only [Act.put, zl]
 refine dw_val rfl rfl rfl ?_; apply Exists.intro; refine ⟨fun wv HC => ?_, ?_⟩
 ·obtain q1 := (HH1.out _ HC).cell 1; go_simp <;> rfl
 simp only [Act.put, zl]
 refine dw_val rfl rfl rfl ?_; apply Exists.intro; refine ⟨fun wv HC => ?_, ?_⟩
 · go_simp <;> rfl
 simp only [Act.put, zl]
 refine dw_val rfl rfl rfl ?_; apply Exists.intro; refine ⟨fun wv HC => ?_, ?_⟩
 · go_simp <;> rfl
 simp only [Act.put, zl]
 refine dw_val rfl rfl rfl ?_; apply Exists.intro; refine ⟨fun wv HC => ?_, ?_⟩
 ·obtain q1 := (HH1.out _ HC).cell 1; go_simp <;> rfl
 simp only [Act.put, zl]
 refine dw_val rfl rfl rfl ?_; apply Exists.intro; refine ⟨fun wv HC => ?_, ?_⟩
 · go_simp <;> rfl
 simp only [Act.put, zl]
 refine dw_next sn 5 HH4.out 23 rfl rfl rfl rfl (fun wv => ?_) (fun r hr => ?_)
 ·go_simp <;> rfl
 have r6 : (r : Int) < sn := by omega
 have r0 : (0 : Int) ≤ (r : Int) := by omega
 obtain ⟨x, hx⟩ := get_anyG HSL.out hr
 have HX0 := hid hx
 clear hx
 simp only [Act.put, zl]
 refine dw_val rfl rfl rfl ?_; apply Exists.intro; refine ⟨fun wv HC => ?_, ?_⟩
 · go_simp <;> rfl
 simp only [Act.put, zl]
 refine dw_val rfl rfl rfl ?_; apply Exists.intro; refine ⟨fun wv HC => ?_, ?_⟩
 ·obtain ⟨q2, q3⟩ := HH5.out _ HC r x HX0.out; go_simp <;> rfl
 simp only [Act.put, zl]
 refine dw_new #[.string ⟨#[]⟩, .slice none 0 0] 49 9 (NewSlot (Mut M KL) (gr + 1) 49 #[.string ⟨#[]⟩, .slice none 0 0]) (fun g => .pointer (some ⟨g, 0, none⟩)) rfl rfl rfl rfl (fun wv => ?_) (fun wv HC hrm hD hro => ?_) ?_
 ·go_simp <;> rfl
 ·exact ⟨_, rfl, by have := hrm.1; simp only [World.size_alloc, World.size_drew] at this; have := HG.out; omega, hro _ HC.mutLt⟩
 rintro gs wg HCg hsl
 clear HCg hsl
 simp only [Act.put, zl]
 refine rel_nil ?_
 rintro wx2 HX
 rintro _hrm HGW
 have hu : NewSlot (Mut M KL) (gr + 1) 49 #[.string ⟨#[]⟩, .slice none 0 0] (.pointer (some ⟨gs, 0, none⟩)) wx2 := (GW_on (d := 9) rfl).1 (HGW 9 _ rfl (by omega))
 clear HGW
 obtain ⟨gs', e', hg1, hg2⟩ := hu
 obtain rfl : gs = gs' := by injection e' with e'; injection e' with e'; injection e'
 clear e'
 have HB := Hold.addFreshBlk K6.drew HX _hrm (by simp only [World.size_alloc, World.size_drew]; have := HG.out; omega) hg2.now
 rw [HKL.out] at HB
 clear HX _hrm hg2 K6 HH1 HH4 HH5 HKL
 have hxm : x ∈ sl := List.mem_of_getElem? HX0.out
 have hx100 := HTC.out x hxm
 obtain ⟨xnm, ⟨cA, ccn, ccc, ccl⟩⟩ := x
 simp only
 have K7 := (HB.store 0 rfl 0 (.string xnm)).store 0 rfl 1 (.slice cA ccn ccc)
 simp only [zl] at K7
 have F0 := HB.facts
 simp only [factsL, cellsF, Nat.reduceAdd, zf, zl] at F0
 have F7 := K7.facts
 simp only [factsL, cellsF, Nat.reduceAdd, zf, zl] at F7
 clear HB
 go_wp2_with fail
 refine (inside_any (Mut M _) _ K7.mutLt ⟨⟨fA, fn, fc, fl⟩, ⟨some ⟨bS, oS, none⟩, sn, sc, sl⟩⟩ ⟨xnm, ⟨cA, ccn, ccc, ccl⟩⟩ (K7.ro 4 rfl) ((K7.ro 4 rfl).imp fun w2 h2 => h2.2.2 _ hxm) (by have := hm90; show fn ≤ 1000; omega)).mono ?_
 rintro e w5 ⟨A9, c9, rfl, hc9, ro9, hbl9⟩
 have HIN := hid (HBM.out ⟨xnm, ⟨cA, ccn, ccc, ccl⟩⟩ hxm A9 c9 hc9)
 simp only [Pl.val, Pl.more] at *
 obtain ⟨b9', o9', e9, -, -⟩ := (show Rd w5 w5.heap.size 4 A9 (fn + 1) _ from ro9.now.1.1).2 (by omega)
 obtain ⟨b9, hb9⟩ : ∃ x, x = b9' := ⟨_, rfl⟩
 obtain ⟨o9, ho9⟩ : ∃ x, x = o9' := ⟨_, rfl⟩
 rw [← hb9, ← ho9] at e9
 subst e9
 clear hb9 ho9
 have hlast := ro9.imp (S' := PlIn ⟨⟨some ⟨b9, o9 + fn * 4, none⟩, 1, c9 - fn, [(⟨xnm, false, ⟨cA, ccn, ccc, ccl⟩, SlP.nil⟩ : Fr)]⟩, SlP.nil⟩) fun w2 h2 => ⟨frs_last h2.1, SlP.nil_in _ _ _ w2⟩
 have HLB := hid (show PlB ⟨⟨some ⟨b9, o9 + fn * 4, none⟩, 1, c9 - fn, [(⟨xnm, false, ⟨cA, ccn, ccc, ccl⟩, SlP.nil⟩ : Fr)]⟩, SlP.nil⟩ from ⟨⟨by show 1 ≤ c9 - fn; omega, by show 1 ≤ 100; omega⟩, ⟨Nat.le_refl _, by simp [SlP.nil]⟩, fun f hf => by
  simp only [List.mem_cons, List.not_mem_nil, or_false] at hf
  subst hf
  exact hx100, fun _ hx => (nomatch hx)⟩)
 obtain ⟨fl2, hfl2⟩ : ∃ l, l = fl ++ [(⟨xnm, false, ⟨cA, ccn, ccc, ccl⟩, SlP.nil⟩ : Fr)] := ⟨_, rfl⟩
 rw [← hfl2] at ro9 HIN
 obtain ⟨fla, hfla⟩ : ∃ l, l = [(⟨xnm, false, ⟨cA, ccn, ccc, ccl⟩, SlP.nil⟩ : Fr)] := ⟨_, rfl⟩
 rw [← hfla] at hlast HLB
 clear hfl2 hfla HBM HX0 HSL HTC F0 F7 hxm hx100
 have K8 := (((K7.call hbl9).add ro9).add (hlast.less (by intro b hb; simpa [mut_cons, Hp.foot] using hb))).alloc #[.slice (some ⟨b9, o9, none⟩) (fn + 1) c9, .slice (some ⟨bS, oS, none⟩) sn sc] 177
 have F8a := (K7.call hbl9).facts
 simp only [factsL, cellsF, Nat.reduceAdd, zf, zl] at F8a
 have F8 := K8.facts
 simp only [factsL, cellsF, Nat.reduceAdd, zf, zl] at F8
 have KR := (K8.alloc #[.bool false, .slice none 0 0, .string xnm, .slice none 0 0] 273).nil 126 10
 rw [World.size_alloc] at KR
 have FR := KR.facts
 simp only [factsL, cellsF, Nat.reduceAdd, zf, zl] at FR
 clear K7 hbl9 ro9 K8 hlast
 go_wp2_with fail
 obtain ⟨gi, hgi⟩ : ∃ g, g = w5.heap.size := ⟨_, rfl⟩
 rw [← hgi] at KR ⊢
 obtain ⟨gq, hgq⟩ : ∃ g, g = gi + 1 := ⟨_, rfl⟩
 rw [← hgq] at KR ⊢
 have HGI := hid (And.intro hgi hgq)
 clear hgi hgq F8 F8a FR
 have K3 : Hold M (some T) w _ [.own 126 10 (.slice none 0 0) 0 (exCells ([] : List Ex)), .ro (fun w => ∀ x ∈ ([] : List Ex), ExIn (n + 3) x w), .blk gq 273 #[.bool false, .slice none 0 0, .string xnm, .slice none 0 0], .blk gi 177 #[.slice (some ⟨b9, o9, none⟩) (fn + 1) c9, .slice (some ⟨bS, oS, none⟩) sn sc], .ro (PlIn ⟨⟨some ⟨b9, o9, none⟩, fn + 1, c9, fl2⟩, ⟨some ⟨bS, oS, none⟩, sn, sc, sl⟩⟩), .ro (PlIn ⟨⟨some ⟨b9, o9 + fn * 4, none⟩, 1, c9 - fn, fla⟩, SlP.nil⟩), .ro (SlR 4 (some ⟨bC, oC, none⟩) cn (colCells cl)), .cst gc 49 #[.string snm, .slice (some ⟨bC, oC, none⟩) cn cc], .blk gr 273 #[.bool false, .slice none 0 0, .string ⟨#[]⟩, .slice none 0 0], .ro Wds, .tp T] := (KR.add (S := fun w => ∀ x ∈ ([] : List Ex), ExIn (n + 3) x w) (fun w2 _ _ x hx => (nomatch hx))).pick [1, 0, 2, 3, 5, 4, 13, 8, 7, 11, 12] (by decide) rfl
 clear KR
 go_loopw [35] (fun iv wr => ∃ (j cap : Nat) (O : Option Addr) (outs : List Ex), j ≤ cn ∧ iv = .int .i64 j ∧ (∀ x ∈ outs, ExGd (n + 3) x) ∧ Hold M (some T) w wr [.own 126 10 (.slice O j cap) j (exCells outs), .ro (fun w => ∀ x ∈ outs, ExIn (n + 3) x w), .blk gq 273 #[.bool false, .slice O j cap, .string xnm, .slice none 0 0], .blk gi 177 #[.slice (some ⟨b9, o9, none⟩) (fn + 1) c9, .slice (some ⟨bS, oS, none⟩) sn sc], .ro (PlIn ⟨⟨some ⟨b9, o9, none⟩, fn + 1, c9, fl2⟩, ⟨some ⟨bS, oS, none⟩, sn, sc, sl⟩⟩), .ro (PlIn ⟨⟨some ⟨b9, o9 + fn * 4, none⟩, 1, c9 - fn, fla⟩, SlP.nil⟩), .ro (SlR 4 (some ⟨bC, oC, none⟩) cn (colCells cl)), .cst gc 49 #[.string snm, .slice (some ⟨bC, oC, none⟩) cn cc], .blk gr 273 #[.bool false, .slice none 0 0, .string ⟨#[]⟩, .slice none 0 0], .ro Wds, .tp T]) (fun iv _ => cn - (intOf iv).toNat)
 case atStart => exact ⟨0, 0, none, [], by omega, rfl, fun x hx => (nomatch hx), K3⟩
 case round =>
  clear K3
  obtain ⟨j, cap, O, outs, hj, rfl, hgd, H⟩ := hrel
  by_cases hlt : j < cn
  ·obtain ⟨⟨ynm, yty, ynn, ykey⟩, hc⟩ := get_col HLN.out hlt
   obtain ⟨b2', o2', hcA, hb2, x0, x1, x2, x3⟩ := (RdC.of_sl (H.ro 6 rfl).now).at_ hc
   obtain ⟨rfl, rfl⟩ : bC = b2' ∧ oC = o2' := by injection hcA with hcA; injection hcA with e1 e2; exact ⟨e1, e2⟩
   clear hcA
   simp only at x0 x1 x2 x3
   clear hc
   have K2 := H.alloc_cst #[.string ynm, .int .i64 yty, .bool ynn, .bool ykey] 158
   have F2 := K2.facts
   simp only [factsL, cellsF, Nat.reduceAdd, zf, zl] at F2
   clear H
   go_wp2_with fail
   refine (HE (Mut M _) T _ K2.mutLt (K2.tp_ 11 rfl) (K2.get 11 rfl).2 ⟨⟨some ⟨b9, o9, none⟩, fn + 1, c9, fl2⟩, ⟨some ⟨bS, oS, none⟩, sn, sc, sl⟩⟩ yty depth ((K2.ro 5 rfl).less (mut_tpG (i := 11) rfl)) ((K2.ro 10 rfl).less (mut_tpG (i := 11) rfl)) hT HIN.out hd hd2).mono ?_
   rintro e w3 ⟨e1, rfl, he1, re1, t3, g3⟩
   have K3 := ((Hold.callT K2 11 rfl g3 t3).add re1).alloc #[.int .i64 e1.kind, .int .i64 e1.op, .bool e1.nt, .int .i64 e1.v.k, .int .i64 e1.v.i, .string e1.v.s, .string e1.tab, .string e1.nm, .slice e1.A e1.n e1.c, .slice e1.B e1.m e1.d] 126
   rw [show e1.val = .agg #[.int .i64 e1.kind, .int .i64 e1.op, .bool e1.nt, .int .i64 e1.v.k, .int .i64 e1.v.i, .string e1.v.s, .string e1.tab, .string e1.nm, .slice e1.A e1.n e1.c, .slice e1.B e1.m e1.d] from rfl]
   have HE1 := hid he1
   clear K2 F2 re1 t3 g3 x0 x1 x2 x3 he1
   have F3 := K3.facts
   simp only [factsL, cellsF, Nat.reduceAdd, zf, zl] at F3
   go_upto_if 46 with (fail)
   obtain ⟨ge, hge⟩ : ∃ g, g = w3.heap.size := ⟨_, rfl⟩
   rw [← hge] at K3 F3 ⊢
   have HGE := hid hge
   clear hge
   go_cut [] (fun wx => ∃ y : Ex, ExGd (n + 3) y ∧ Hold M (some T) w wx [.blk ge 126 #[.int .i64 y.kind, .int .i64 y.op, .bool y.nt, .int .i64 y.v.k, .int .i64 y.v.i, .string y.v.s, .string y.tab, .string y.nm, .slice y.A y.n y.c, .slice y.B y.m y.d], .ro (ExIn (n + 3) y), .own 126 10 (.slice O j cap) j (exCells outs), .ro (fun w => ∀ x ∈ outs, ExIn (n + 3) x w), .blk gq 273 #[.bool false, .slice O j cap, .string xnm, .slice none 0 0], .blk gi 177 #[.slice (some ⟨b9, o9, none⟩) (fn + 1) c9, .slice (some ⟨bS, oS, none⟩) sn sc], .ro (PlIn ⟨⟨some ⟨b9, o9, none⟩, fn + 1, c9, fl2⟩, ⟨some ⟨bS, oS, none⟩, sn, sc, sl⟩⟩), .ro (PlIn ⟨⟨some ⟨b9, o9 + fn * 4, none⟩, 1, c9 - fn, fla⟩, SlP.nil⟩), .ro (SlR 4 (some ⟨bC, oC, none⟩) cn (colCells cl)), .cst gc 49 #[.string snm, .slice (some ⟨bC, oC, none⟩) cn cc], .blk gr 273 #[.bool false, .slice none 0 0, .string ⟨#[]⟩, .slice none 0 0], .ro Wds, .tp T])
   case first =>
    cases ykey
    ·go_wp2_with fail
     go_meet
     exact ⟨e1, HE1.out.le (by omega), (K3.add ((K3.ro 1 rfl).imp (S' := ExIn (n + 3) e1) fun w2 h2 => h2.le (by omega))).pick [1, 0, 4, 5, 6, 7, 8, 9, 10, 11, 12, 13, 14] (by decide) rfl⟩
    ·have hs1 : IntKind.i64.wrap (((fn + 1 : Nat) : Int) - 1) = fn := by rw [show ((fn + 1 : Nat) : Int) - 1 = fn by omega]; exact IntWalk.i64_in _ (by omega)
     have hs2 : IntKind.i64.wrap ((fn : Int) + 1 - 1) = fn := by rw [show (fn : Int) + 1 - 1 = fn by omega]; exact IntWalk.i64_in _ (by omega)
     go_wp2_with fail
     refine (column_any (Mut M _) T _ K3.mutLt (K3.tp_ 13 rfl) (K3.get 13 rfl).2 ⟨⟨some ⟨b9, o9 + fn * 4, none⟩, 1, c9 - fn, fla⟩, SlP.nil⟩ 1 ((K3.ro 8 rfl).less (mut_tpG (i := 13) rfl)) HLB.out).mono ?_
     rintro e w4 ⟨x, ok, rfl, hx, t4, g4⟩
     have HXK := hid (show ok = true → ExGd 1 x from fun hok => by
      rcases hx with ⟨h1, rfl⟩ | ⟨ct, cn', rfl⟩
      ·rw [hok] at h1; exact absurd h1 (by decide)
      ·exact col_ok _ _)
     have K5 := ((Hold.callT K3 13 rfl g4 t4).add (S := ExIn 1 x) (fun w2 _ _ => by
      rcases hx with ⟨_, rfl⟩ | ⟨ct, cn', rfl⟩
      ·exact zeroE_in w2
      ·exact col_in _ _ w2)).alloc_cst #[.int .i64 x.kind, .int .i64 x.op, .bool x.nt, .int .i64 x.v.k, .int .i64 x.v.i, .string x.v.s, .string x.tab, .string x.nm, .slice x.A x.n x.c, .slice x.B x.m x.d] 126
     rw [show x.val = .agg #[.int .i64 x.kind, .int .i64 x.op, .bool x.nt, .int .i64 x.v.k, .int .i64 x.v.i, .string x.v.s, .string x.tab, .string x.nm, .slice x.A x.n x.c, .slice x.B x.m x.d] from rfl]
     clear K3 F3 t4 g4 hx
     have F5 := K5.facts
     simp only [factsL, cellsF, Nat.reduceAdd, zf, zl] at F5
     cases ok
     ·go_wp2_with fail
      go_meet
      exact ⟨e1, HE1.out.le (by omega), (K5.add ((K5.ro 3 rfl).imp (S' := ExIn (n + 3) e1) fun w2 h2 => h2.le (by omega))).pick [3, 0, 6, 7, 8, 9, 10, 11, 12, 13, 14, 15, 16] (by decide) rfl⟩
     ·obtain ⟨KM, hKM, K6⟩ := K5.name
      have H1 : ∀ wv : World, Hold M (some T) w wv KM → Blk wv w4.heap.size 126 #[.int .i64 x.kind, .int .i64 x.op, .bool x.nt, .int .i64 x.v.k, .int .i64 x.v.i, .string x.v.s, .string x.tab, .string x.nm, .slice x.A x.n x.c, .slice x.B x.m x.d] := fun wv h => by rw [hKM] at h; exact h.cst_ 0 rfl
      have h4 : KM[15]? = some (.tp T) := by rw [hKM]; rfl
      have HH1 := hid H1
      have HH4 := hid h4
      have HKM := hid hKM
      clear hKM H1 h4 K5
      go_wp2_with fail
      clear F5
      refine wp_region_any (by kernel_rfl) ?_
      refine wpAny_hold 5 83 (KM) (spL [(63, fun u _ => NatB 20 u), (65, ExSlot (Mut M KM) 2)]) (by kernel_rfl) (by kernel_rfl) (by kernel_rfl) rfl ?_ (K6.drew) ?_
      ·exact stays_cons (fun _ _ _ _ h => h) (stays_cons exSlot_mono (stays_nil _))
      simp only [zd, Act.put, List.getElem_toArray, List.getElem_cons_zero, List.getElem_cons_succ, zl]
      refine dw_val rfl rfl rfl ?_; apply Exists.intro; refine ⟨fun wv HC => ?_, ?_⟩
      ·obtain q0 := (HH1.out _ HC).cell 0; obtain q1 := (HH1.out _ HC).cell 1; obtain q2 := (HH1.out _ HC).cell 2; obtain q3 := (HH1.out _ HC).cell 3; obtain q4 := (HH1.out _ HC).cell 4; obtain q5 := (HH1.out _ HC).cell 5; obtain q6 := (HH1.out _ HC).cell 6; obtain q7 := (HH1.out _ HC).cell 7; obtain q8 := (HH1.out _ HC).cell 8; obtain q9 := (HH1.out _ HC).cell 9; go_simp <;> rfl
      simp only [Act.put, zl]
      refine dw_val rfl rfl rfl ?_; apply Exists.intro; refine ⟨fun wv HC => ?_, ?_⟩
      · go_simp <;> rfl
      simp only [Act.put, zl]
      refine dw_next 20 15 HH4.out 63 rfl rfl rfl rfl (fun wv => ?_) (fun r hr => ?_)
      ·go_simp <;> rfl
      have hwr : IntKind.i64.wrap (10 + (r : Int)) = 10 + r := IntWalk.i64_in _ (by omega)
      simp only [Act.put, zl]
      refine dw_val rfl rfl rfl ?_; apply Exists.intro; refine ⟨fun wv HC => ?_, ?_⟩
      · go_simp <;> rfl
      simp only [Act.put, zl]
      refine dw_callR 65 (ExSlot (Mut M KM) 2) (f := 134) (args := #[.int .i64 (10 + r)]) rfl rfl rfl rfl (fun wv => ?_) (fun wv HC hrm hD => ?_) ?_
      ·go_simp <;> rfl
      ·refine (wnum_any (Mut M KM) wv HC.mutLt (10 + r) (by omega)).mono ?_
       rintro e w5 ⟨y, rfl, hy, ry, b5⟩
       exact ⟨_, rfl, ⟨y, rfl, num_ok hy (by omega) (by omega), ry⟩, HC.call b5, RM.below b5⟩
      rintro u wx HCx ⟨z, rfl, hz, rz⟩
      clear HCx hz rz
      simp only [Act.put, zl]
      refine rel_nil ?_
      rintro wx2 HX
      rintro _hrm HGW
      have hu : ExSlot (Mut M KM) 2 z.val wx2 := (GW_on (d := 65) rfl).1 (HGW 4 _ rfl (by omega))
      clear HGW _hrm
      obtain ⟨z1, hz1, hok1, hro1⟩ := hu
      rw [HKM.out] at HX hro1
      rw [hz1]
      clear hz1 z HH1 HH4 HKM
      rw [show z1.val = .agg #[.int .i64 z1.kind, .int .i64 z1.op, .bool z1.nt, .int .i64 z1.v.k, .int .i64 z1.v.i, .string z1.v.s, .string z1.tab, .string z1.nm, .slice z1.A z1.n z1.c, .slice z1.B z1.m z1.d] from rfl]
      go_wp2_with fail
      refine (bin_any (Mut M _) _ HX.mutLt 9 x z1 2 ((HX.ro 1 rfl).imp fun w2 h2 => h2.le (by omega)) hro1).mono ?_
      rintro e w8 ⟨g8, rfl, ry, b8⟩
      have hyok := hid (op_ok (d := 2) (kind := 5) (op := 9) (nt := false) (g := g8) (k := 2) (l := [x, z1]) (i64_lit 5 (by decide)) (i64_lit 9 (by decide)) (by omega) (fun a ha => by
       simp only [List.mem_cons, List.not_mem_nil, or_false] at ha
       rcases ha with rfl | rfl
       ·exact (HXK.out (by first | trivial | rfl)).le (by omega)
       ·exact hok1))
      have KB := ((HX.call b8).add ry)
      generalize opE 5 9 false g8 2 [x, z1] = y at *
      have FB := KB.facts
      simp only [factsL, cellsF, Nat.reduceAdd, zf, zl] at FB
      have KC := ((((((((((KB.store 3 rfl 0 (.int .i64 y.kind)).store 3 rfl 1 (.int .i64 y.op)).store 3 rfl 2 (.bool y.nt)).store 3 rfl 3 (.int .i64 y.v.k)).store 3 rfl 4 (.int .i64 y.v.i)).store 3 rfl 5 (.string y.v.s)).store 3 rfl 6 (.string y.tab)).store 3 rfl 7 (.string y.nm)).store 3 rfl 8 (.slice y.A y.n y.c)).store 3 rfl 9 (.slice y.B y.m y.d))
      simp only [zl] at KC
      rw [show y.val = .agg #[.int .i64 y.kind, .int .i64 y.op, .bool y.nt, .int .i64 y.v.k, .int .i64 y.v.i, .string y.v.s, .string y.tab, .string y.nm, .slice y.A y.n y.c, .slice y.B y.m y.d] from rfl]
      clear HX b8 ry hro1 hok1
      go_wp2_with fail
      go_meet
      exact ⟨y, hyok.out.le (by omega), (KC.add ((KC.ro 0 rfl).imp (S' := ExIn (n + 3) y) fun w2 h2 => h2.le (by omega))).pick [4, 0, 7, 8, 9, 10, 11, 12, 13, 14, 15, 16, 17] (by decide) rfl⟩
   case rest =>
    obtain ⟨y, hy, K4⟩ := hcut
    clear K3 F3 HE1
    have F4 := K4.facts
    simp only [factsL, cellsF, Nat.reduceAdd, zf, zl] at F4
    go_wp2_with (at_builtin; go_must (refine wpList_appH K4 2 rfl Tryz.elExG #[.int .i64 y.kind, .int .i64 y.op, .bool y.nt, .int .i64 y.v.k, .int .i64 y.v.i, .string y.v.s, .string y.tab, .string y.nm, .slice y.A y.n y.c, .slice y.B y.m y.d] rfl (.tmp 68) (.tmp 70) rfl rfl _ (by first | rfl | simp) rfl rfl (by intro u hu; simp at hu; rcases hu with rfl | rfl | rfl | rfl | rfl | rfl | rfl | rfl | rfl | rfl <;> rfl) (by omega) (by omega) ?_); intro gA capA wA hcA hmA KA; rw [show exCells outs ++ (#[.int .i64 y.kind, .int .i64 y.op, .bool y.nt, .int .i64 y.v.k, .int .i64 y.v.i, .string y.v.s, .string y.tab, .string y.nm, .slice y.A y.n y.c, .slice y.B y.m y.d] : Array Value).toList = exCells (outs ++ [y]) by simp [exCells, Ex.cells]] at KA; simp only [zl] at KA; have FA := KA.facts; simp only [factsL, cellsF, Nat.reduceAdd, zf, zl] at FA)
    have KB := KA.store 4 rfl 1 (.slice (some ⟨gA, 0, none⟩) (j + 1) capA)
    simp only [zl] at KB
    have KC := KB.add (S := fun w => ∀ x ∈ outs ++ [y], ExIn (n + 3) x w) (((KB.ro 3 rfl).and (KB.ro 1 rfl)).imp fun w2 h2 x hx => by
     rcases List.mem_append.1 hx with hx | hx
     ·exact h2.1 x hx
     ·simp only [List.mem_cons, List.not_mem_nil, or_false] at hx
      subst hx
      exact h2.2)
    go_roundw
    case rel =>
     refine ⟨j + 1, capA, _, outs ++ [y], by omega, by go_num, fun x hx => ?_, KC.pick [3, 0, 5, 6, 7, 8, 9, 10, 11, 12, 13] (by decide) rfl⟩
     rcases List.mem_append.1 hx with hx | hx
     ·exact hgd x hx
     ·simp only [List.mem_cons, List.not_mem_nil, or_false] at hx
      subst hx
      exact hy
    case measure => simp [intOf]; omega
  ·obtain rfl : cn = j := by omega
   have F := H.facts
   simp only [factsL, cellsF, Nat.reduceAdd, zf, zl] at F
   go_wp2_with fail
   refine (bool_any T 2 _ (H.tp_ 10 rfl) (by omega) (by omega)).mono ?_
   rintro e w7 ⟨b, rfl, t7, g7⟩
   have K4 := Hold.callT H 10 rfl g7 t7
   clear H F g7 t7
   have F4 := K4.facts
   simp only [factsL, cellsF, Nat.reduceAdd, zf, zl] at F4
   go_upto_if 75 with (fail)
   go_cut [] (fun wx => ∃ wh : SlP Ex, ItOk (n + 2) wh ∧ Hold M (some T) w wx [.own 126 10 (.slice O cn cap) cn (exCells outs), .ro (fun w => ∀ x ∈ outs, ExIn (n + 3) x w), .blk gq 273 #[.bool false, .slice O cn cap, .string xnm, .slice wh.A wh.n wh.c], .ro (ExlIn (n + 2) wh), .blk gr 273 #[.bool false, .slice none 0 0, .string ⟨#[]⟩, .slice none 0 0], .tp T])
   case first =>
    cases b
    ·go_wp2_with fail
     go_meet
     exact ⟨SlP.nil, exl_nil_ok, (K4.add (S := ExlIn (n + 2) SlP.nil) (fun w2 _ _ => SlP.nil_in _ _ _ w2)).pick [1, 2, 3, 0, 9, 11] (by decide) rfl⟩
    ·go_wp2_with fail
     refine (HE (Mut M _) T _ K4.mutLt (K4.tp_ 10 rfl) (K4.get 10 rfl).2 ⟨⟨some ⟨b9, o9, none⟩, fn + 1, c9, fl2⟩, ⟨some ⟨bS, oS, none⟩, sn, sc, sl⟩⟩ 2 depth ((K4.ro 4 rfl).less (mut_tpG (i := 10) rfl)) ((K4.ro 9 rfl).less (mut_tpG (i := 10) rfl)) hT HIN.out hd hd2).mono ?_
     rintro e w6 ⟨x, rfl, hx, rx, tY, gY⟩
     have K7 := ((Hold.callT K4 10 rfl gY tY).add rx).alloc_cst #[.int .i64 x.kind, .int .i64 x.op, .bool x.nt, .int .i64 x.v.k, .int .i64 x.v.i, .string x.v.s, .string x.tab, .string x.nm, .slice x.A x.n x.c, .slice x.B x.m x.d] 126
     rw [show x.val = .agg #[.int .i64 x.kind, .int .i64 x.op, .bool x.nt, .int .i64 x.v.k, .int .i64 x.v.i, .string x.v.s, .string x.tab, .string x.nm, .slice x.A x.n x.c, .slice x.B x.m x.d] from rfl]
     clear F4 K4 rx tY gY
     have F7 := K7.facts
     simp only [factsL, cellsF, Nat.reduceAdd, zf, zl] at F7
     have K8 := K7.store 4 rfl 3 (.slice (some ⟨w6.heap.size, 0, none⟩) 1 1)
     simp only [zl] at K8
     clear K7
     go_wp2_with fail
     go_meet
     exact ⟨⟨some ⟨w6.heap.size, 0, none⟩, 1, 1, [x]⟩, exl_one_ok hx, (K8.add (exl_one (K8.get 0 rfl) rfl (K8.ro 1 rfl))).pick [3, 4, 5, 0, 11, 13] (by decide) rfl⟩
   case rest =>
    obtain ⟨⟨hA, hN, hC, hl⟩, hwh, K5⟩ := hcut
    clear K4 F4
    simp only at K5
    have HWH := hid hwh
    clear hwh
    have F5 := K5.facts
    simp only [factsL, cellsF, Nat.reduceAdd, zf, zl] at F5
    have K7 := ((((K5.store 4 rfl 0 (.bool false)).store 4 rfl 1 (.slice O cn cap)).store 4 rfl 2 (.string xnm)).store 4 rfl 3 (.slice hA hN hC))
    simp only [zl] at K7
    have F7 := K7.facts
    simp only [factsL, cellsF, Nat.reduceAdd, zf, zl] at F7
    have hcap := own_caps (K5.get 0 rfl)
    have hlen := (K5.get 0 rfl).1
    rw [exCells_len] at hlen
    have KZ := K7.sealRow 0 rfl
    simp only [List.set_cons_zero] at KZ
    have hR : Ro _ _ (QuIn (n + 3) ⟨false, O, cn, cap, outs, xnm, hA, hN, hC, hl⟩) := ((KZ.ro 0 rfl).and ((KZ.ro 1 rfl).and (KZ.ro 3 rfl))).imp fun w2 h2 => ⟨⟨h2.1, h2.2.1⟩, h2.2.2.1, fun a ha => (h2.2.2.2 a ha).le (by omega)⟩
    have HR := hid (hR.less zm)
    have HT := hid (And.intro (KZ.tp_ 5 rfl) KZ.grow)
    have HGD := hid hgd
    clear K5 K7 KZ hR hgd
    go_wp2_with fail
    refine bodyPost_ret (v := .agg #[.bool false, .slice O cn cap, .string xnm, .slice hA hN hC]) ?_ rfl ?_
    ·clear HT HR HGD HWH
     simp [results, Tryz.results204, go_sem, F7]
    ·exact ⟨⟨false, O, cn, cap, outs, xnm, hA, hN, hC, hl⟩, rfl, ⟨⟨hcap.1, hcap.2.1, HWH.out.1.1, HWH.out.1.2⟩, ⟨by show outs.length ≤ 8; omega, HWH.out.2.1⟩, HGD.out, fun a ha => (HWH.out.2.2 a ha).le (by omega)⟩, HR.out, HT.out.1, HT.out.2⟩
end Go.Proofs.YtnbbllkbefagmaaGreatDoor

namespace Go.Proofs.YtnbbllkbefagmaaGreatDoor
open Go.RowKit
set_option linter.unusedVariables false
set_option linter.unusedSimpArgs false
/-- what is read lies outside a block that does not hold it -/
theorem slr_apart {w : World} {M : Nat → Prop} {size n : Nat} {A : Option Addr} {xs : List Value} {g : Nat} {t : TypeId} {cs : Array Value} (h : Ro w M (SlR size A n xs)) (hg : w.heap[g]? = some (.cells cs t (0, 0))) (hno : n = 0 ∨ ∀ o : Nat, ¬ ∀ (j : Nat) (u : Value), xs[j]? = some u → cs[o + j]? = some u) : Ro w (fun b => M b ∨ b = g) (SlR size A n xs) := by
 have h0 : Rd w w.heap.size size A n xs := h.now
 rcases hno with hn | hno
 ·exact fun w2 _ _ => ⟨h0.1, fun k => absurd k (by omega)⟩
 ·rcases Nat.eq_zero_or_pos n with hn | hn
  ·exact fun w2 _ _ => ⟨h0.1, fun k => absurd k (by omega)⟩
  ·obtain ⟨b, o, hA, hb, hc⟩ := h0.2 hn
   have hbg : b ≠ g := by
    rintro rfl
    refine hno o fun j u hu => ?_
    have := hc j u hu
    rw [cell_of_row w b _ _ t (0, 0) hg] at this
    exact this
   intro w2 h1 h2
   have hgl : g < w.heap.size := (List.getElem?_eq_some_iff.1 (by simpa using hg : w.heap.toList[g]? = _)).1
   have hne : ∀ x, x ≠ g → (w2.heap.setIfInBounds g (.cells cs t (0, 0)))[x]? = w2.heap[x]? := fun x hx => by
    rw [Array.getElem?_setIfInBounds, if_neg (fun e => hx e.symm)]
   have h3 : Rd { w2 with heap := w2.heap.setIfInBounds g (.cells cs t (0, 0)) } _ size A n xs := h { w2 with heap := w2.heap.setIfInBounds g (.cells cs t (0, 0)) } (by simpa using h1) (fun x hx hm => by
    show (w2.heap.setIfInBounds g _)[x]? = _
    by_cases hxg : x = g
    ·subst hxg
     rw [Array.getElem?_setIfInBounds_self_of_lt (by omega), hg]
    ·exact (hne x hxg).trans (h2 x hx (fun k => k.elim hm hxg)))
   obtain ⟨b', o', e, _, hc'⟩ := h3.2 hn
   obtain ⟨rfl, rfl⟩ : b = b' ∧ o = o' := by rw [hA] at e; injection e with e; injection e with a1 a2; exact ⟨a1, a2⟩
   refine ⟨h3.1, fun _ => ⟨b, o, hA, by omega, fun j u hu => ?_⟩⟩
   rw [← hc' j u hu]
   exact (World.cell?_of_block (w := w2) (w' := { w2 with heap := w2.heap.setIfInBounds g (.cells cs t (0, 0)) }) (a := ⟨b, o + j, none⟩) (hne b hbg)).symm
/-- a fresh assignment's cells -/
def zeroSe : Array Value := #[.string ⟨#[]⟩, .int .i64 0, .int .i64 0, .bool false, .int .i64 0, .int .i64 0, .string ⟨#[]⟩, .string ⟨#[]⟩, .string ⟨#[]⟩, .slice none 0 0, .slice none 0 0]
theorem exs_off {l : List Ex} {n : Nat} (hl : l.length = n) (hk : ∀ a ∈ l, 1 ≤ a.kind) : n = 0 ∨ ∀ o : Nat, ¬ ∀ (j : Nat) (u : Value), (exCells l)[j]? = some u → zeroSe[o + j]? = some u := by
 cases l with
 | nil => left; simpa using hl.symm
 | cons a l =>
  refine .inr fun o h => ?_
  have h0 := h 0 (.int .i64 a.kind) rfl
  have hk := hk a (List.mem_cons_self ..)
  rcases o with _ | _ | _ | _ | _ | _ | _ | _ | _ | _ | _ | o <;> simp [zeroSe] at h0 <;> omega
theorem qus_off {l : List Qu} {n : Nat} (hl : l.length = n) : n = 0 ∨ ∀ o : Nat, ¬ ∀ (j : Nat) (u : Value), (quCells l)[j]? = some u → zeroSe[o + j]? = some u := by
 cases l with
 | nil => left; simpa using hl.symm
 | cons a l =>
  refine .inr fun o h => ?_
  have h0 := h 0 (.bool a.star) rfl
  have h1 := h 1 (.slice a.A a.n a.c) rfl
  rcases o with _ | _ | _ | _ | _ | _ | _ | _ | _ | _ | _ | o <;> simp [zeroSe] at h0 h1
theorem ExGd.kind {d : Nat} {e : Ex} (h : ExGd d e) : 1 ≤ e.kind := by
 cases d with
 | zero => exact h.elim
 | succ d => exact h.2.1.1
theorem ex_apart {w : World} {g : Nat} {t : TypeId} (hg : w.heap[g]? = some (.cells zeroSe t (0, 0))) {M : Nat → Prop} : ∀ {d : Nat} {e : Ex}, ExGd d e → Ro w M (ExIn d e) → Ro w (fun b => M b ∨ b = g) (ExIn d e)
 | 0, _, h, _ => h.elim
 | d + 1, e, ⟨h1, h4, h2, h3⟩, hr => by
  have a1 : Ro w M (SlR 10 e.A e.n (exCells e.args)) := hr.imp fun w2 h => h.1
  have a3 : Ro w M (SlR 4 e.B e.m (quCells e.sub)) := hr.imp fun w2 h => h.2.2.1
  have l1 : e.args.length = e.n := by
   have := (show Rd _ _ 10 e.A e.n (exCells e.args) from a1.now).1
   rw [exCells_len] at this
   omega
  have l3 : e.sub.length = e.m := by
   have := (show Rd _ _ 4 e.B e.m (quCells e.sub) from a3.now).1
   rw [quCells_len] at this
   omega
  have b1 := slr_apart a1 hg (exs_off l1 fun a ha => (h2 a ha).kind)
  have b3 := slr_apart a3 hg (qus_off l3)
  have b2 : ∀ a ∈ e.args, Ro w (fun b => M b ∨ b = g) (ExIn d a) := fun a ha => ex_apart hg (h2 a ha) (hr.imp fun w2 h => h.2.1 a ha)
  have b4 : ∀ q ∈ e.sub, Ro w (fun b => M b ∨ b = g) (QuIn d q) := fun q hq => by
   have c1 : Ro w M (SlR 10 q.A q.n (exCells q.items)) := hr.imp fun w2 h => (h.2.2.2 q hq).1.1
   have c2 : Ro w M (SlR 10 q.B q.m (exCells q.wh)) := hr.imp fun w2 h => (h.2.2.2 q hq).2.1
   have m1 : q.items.length = q.n := by
    have := (show Rd _ _ 10 q.A q.n (exCells q.items) from c1.now).1
    rw [exCells_len] at this
    omega
   have m2 : q.wh.length = q.m := by
    have := (show Rd _ _ 10 q.B q.m (exCells q.wh) from c2.now).1
    rw [exCells_len] at this
    omega
   have e1 := slr_apart c1 hg (exs_off m1 fun a ha => ((h3 q hq).2.2.1 a ha).kind)
   have e2 := slr_apart c2 hg (exs_off m2 fun a ha => ((h3 q hq).2.2.2 a ha).kind)
   have e3 : ∀ a ∈ q.items, Ro w (fun b => M b ∨ b = g) (ExIn d a) := fun a ha => ex_apart hg ((h3 q hq).2.2.1 a ha) (hr.imp fun w2 h => (h.2.2.2 q hq).1.2 a ha)
   have e4 : ∀ a ∈ q.wh, Ro w (fun b => M b ∨ b = g) (ExIn d a) := fun a ha => ex_apart hg ((h3 q hq).2.2.2 a ha) (hr.imp fun w2 h => (h.2.2.2 q hq).2.2 a ha)
   exact fun w2 g1 g2 => ⟨⟨e1 w2 g1 g2, fun a ha => e3 a ha w2 g1 g2⟩, e2 w2 g1 g2, fun a ha => e4 a ha w2 g1 g2⟩
  exact fun w2 g1 g2 => ⟨b1 w2 g1 g2, fun a ha => b2 a ha w2 g1 g2, b3 w2 g1 g2, fun q hq => b4 q hq w2 g1 g2⟩
end Go.Proofs.YtnbbllkbefagmaaGreatDoor

/- The contract of law4.spoiled: a schema with one change. -/
import Derived.Test.YtdgdllicmccnfaaDoorAnySch
import Derived.Deep.RegionLaw
import Derived.Laws.BytesArg
namespace Go.Proofs.YtdgdllicmccnfaaDoor
open Go.RowKit
set_option linter.unusedVariables false
set_option linter.unusedSimpArgs false

/-- Some schema in memory that nobody writes; the tape has turned. -/
def SomeSch (w : World) (T : Nat) (M : Nat → Prop) (e : Ending) (w' : World) : Prop :=
  ∃ (nm : ByteArray) (A : Option Addr) (n c : Nat) (l : List Col), e = .returned (.agg #[.string nm, .slice A n c]) ∧ nm.size ≤ 40 ∧ (∀ x ∈ l, x.name.size ≤ 40) ∧ n ≤ 10 ∧ n ≤ c ∧ Ro w' M (SlR 4 A n (colCells l)) ∧ Tp w' T ∧ w.grownBy w' (some T)

theorem SlR.src {w : World} {size b o n : Nat} {xs : List Value} (h : SlR size (some ⟨b, o, none⟩) n xs w) (hn : 0 < n) : ∀ j u, xs[j]? = some u → w.cell? ((⟨b, o, none⟩ : Addr).add j) = some u := by
  obtain ⟨b', o', e, _, hc⟩ := (show Rd w w.heap.size size (some ⟨b, o, none⟩) n xs from h).2 hn
  injection e with e
  injection e with e1 e2
  subst e1 e2
  intro j u hu
  rw [Go.WideShapes.add_plain]
  exact hc j u hu
theorem colCells_one (l : List Col) : ∀ u ∈ colCells l, u.oneCell' = true := by
  intro u hu
  simp only [colCells, List.mem_flatMap, Col.cells, List.mem_cons, List.not_mem_nil, or_false] at hu
  obtain ⟨c, _, rfl | rfl | rfl | rfl⟩ := hu <;> rfl
theorem one_of {w : World} {a : Nat} {t : TypeId} {x0 x1 : Value} (ha : Blk w a t #[x0, x1]) : w.cell? ⟨a, 1, none⟩ = some x1 := ha.cell 1

theorem own_col {w : World} {base g n cap r : Nat} {e : TypeId} {l : List Col} {x : Col} (h : w.ownsRow base e 4 (.slice (some ⟨g, 0, none⟩) n cap) n (colCells l)) (hl : l.length = n) (hx : l[r]? = some x) :
    (w.cell? ⟨g, r * 4, none⟩ = some (.string x.name) ∧ w.cell? ⟨g, r * 4 + 1, none⟩ = some (.int .i64 x.ty) ∧ w.cell? ⟨g, r * 4 + 2, none⟩ = some (.bool x.nn) ∧ w.cell? ⟨g, r * 4 + 3, none⟩ = some (.bool x.key)) ∧
    (w.frozen? ⟨g, r * 4, none⟩ = false ∧ w.frozen? ⟨g, r * 4 + 1, none⟩ = false ∧ w.frozen? ⟨g, r * 4 + 2, none⟩ = false ∧ w.frozen? ⟨g, r * 4 + 3, none⟩ = false) ∧ g < w.heap.size := by
  have hr := (List.getElem?_eq_some_iff.1 hx).1
  obtain ⟨c0, c1, c2, c3⟩ := colCells_at hx
  exact ⟨⟨(h.cellAt _ (by omega)).trans c0, (h.cellAt _ (by omega)).trans c1, (h.cellAt _ (by omega)).trans c2, (h.cellAt _ (by omega)).trans c3⟩, ⟨h.frozenAt _, h.frozenAt _, h.frozenAt _, h.frozenAt _⟩, (h.lt g rfl).2⟩
theorem flat_set {α β : Type} (f : α → List β) (n : Nat) (hf : ∀ a, (f a).length = n) : ∀ (l : List α) (r j : Nat) (a a' : α) (u : β), j < n → l[r]? = some a → f a' = (f a).set j u → (l.flatMap f).set (r * n + j) u = (l.set r a').flatMap f
  | [], r, j, a, a', u, _, h, _ => by simp at h
  | x :: l, 0, j, a, a', u, hj, h, he => by
    simp only [List.getElem?_cons_zero, Option.some.injEq] at h
    subst h
    simp only [List.flatMap_cons, Nat.zero_mul, Nat.zero_add, List.set_cons_zero]
    rw [he, List.set_append_left _ _ (by rw [hf]; exact hj)]
  | x :: l, r + 1, j, a, a', u, hj, h, he => by
    simp only [List.getElem?_cons_succ] at h
    simp only [List.flatMap_cons, List.set_cons_succ]
    rw [List.set_append_right _ _ (by rw [hf, Nat.succ_mul]; omega), hf, show (r + 1) * n + j - n = r * n + j by rw [Nat.succ_mul]; omega, flat_set f n hf l r j a a' u hj h he]

theorem conv2 (W : World) (x y : Int) : (convert 57 9 (.slice (some ⟨W.heap.size, 0, none⟩) 2 2)).run Tryd.prog (W.alloc (.cells #[.int .u8 x, .int .u8 y] 5)) = .ok (.string (strOfNums [x, y])) (W.alloc (.cells #[.int .u8 x, .int .u8 y] 5)) :=
  run_convert_bytes_arg _ _ _ Tryd.underlying57 Tryd.underlying5 W.heap.size 0 2 2 [x, y] rfl (fun i hi => by
    obtain rfl | rfl : i = 0 ∨ i = 1 := by omega
    · exact (Blk.new W 5 #[.int .u8 x, .int .u8 y]).cell 0
    · exact (Blk.new W 5 #[.int .u8 x, .int .u8 y]).cell 1) _ Tryd.underlying9

set_option maxHeartbeats 8000000 in
theorem spoiled_any (M : Nat → Prop) (T : Nat) (nm : ByteArray) (A : Option Addr) (n c : Nat) (l : List Col) (w : World) (hM : ∀ b, M b → b < w.heap.size) (ht : Tp w T) (hMT : ∀ b, M b → T ≤ b)
    (hD : Ro w (Mut M [.tp T]) (SlR 4 A n (colCells l))) (hn1 : 1 ≤ n) (hn5 : n ≤ 5) (hnc : n ≤ c) (hnm : nm.size ≤ 12) (hok : ∀ x ∈ l, x.name.size ≤ 12) :
    Calls Tryd.prog 10 #[.pointer (some ⟨T, 0, none⟩), .agg #[.string nm, .slice A n c]] w fun e w' => SomeSch w T M e w' := by
  have HL := hid (RdC.of_sl hD.now).len
  obtain ⟨b, o, hA, _⟩ := (show Rd w w.heap.size 4 A n (colCells l) from hD.now).2 (by omega)
  subst hA
  have K0 := ((((Hold.startT M w T hM ht hMT).add hD).alloc #[.string nm, .slice (some ⟨b, o, none⟩) n c] 24).alloc #[.string ⟨#[]⟩, .slice none 0 0] 24).alloc_own #[] 35 4 0 (by unfold maxLen; omega) rfl
  simp only [World.size_alloc] at K0
  go_enter Tryd.func10, Tryd.ntmps10
  have HSRC := hid ((show SlR 4 (some ⟨b, o, none⟩) n (colCells l) _ from (K0.ro 3 rfl).now).src (by omega))
  have HOWN := hid (K0.get 0 rfl)
  have HLC := hid (show (colCells l).length = n * 4 by rw [colCells_len, HL.out])
  obtain ⟨i0, hi1, hi2, hi3, hi4⟩ := info_parts Tryd.infoCol
  have HI := hid (And.intro hi1 (And.intro hi2 (And.intro hi3 hi4)))
  clear hi1 hi2 hi3 hi4
  go_wp2_with (at_builtin; go_must (refine wpList_append_lies _ rfl (.tmp 7) (.tmp 9) 22 rfl w.heap.size 35 i0 _ 4 32 Tryd.underlying22 HI.out.1 HI.out.2.1 HI.out.2.2.1 HI.out.2.2.2 rfl (by omega) _ 0 [] rfl HOWN.out ⟨b, o, none⟩ n c (colCells l) rfl HLC.out HSRC.out (colCells_one l) (by omega) (by unfold maxLen; omega) (by omega) (by simp; omega) (w.heap.size + 1 + 1 + 1) (by simp) ?_); intro g cap w' ho hg hdj hl'; simp only [Nat.zero_add, List.nil_append] at ho; have hcap' := hid ho.2; have KA := Hold.append K0 0 rfl ho hg (hdj.imp id fun e => by rw [e]; simp) hl'; have FA := KA.facts; simp only [World.size_alloc, World.size_drew, factsL, cellsF, Nat.reduceAdd, List.toList_toArray, List.set_cons_zero, List.set_cons_succ, List.setIfInBounds_toArray, and_true, true_and] at FA)
  have KB := KA.store 2 rfl 1 (.slice (some ⟨g, 0, none⟩) n cap)
  clear K0 KA FA HOWN HSRC HI hg hdj
  go_wp2_with fail
  have hnI : (n : Int) ≤ 5 := by omega
  go_region_held3 (fun w' => w'.cell? ⟨w.heap.size, 1, none⟩ = some (.slice (some ⟨g, 0, none⟩) n cap))
    (first | (have hk_ := one_of (KB.drew.blk_ 2 rfl); with_reducible exact hk_) | (have hk_ := one_of (K2.blk_ 2 rfl); with_reducible exact hk_))
    (first | (have ht_ := KB.drew.tp_ 4 rfl; go_at_call 18; ((with_reducible refine (next_any T (n : Int) _ ht_ (by omega) (by omega)).mono ?_); clear ht_; rintro e w2 ⟨r, rfl, hr0, hr1, t2, g2⟩; have K2 := Hold.callT KB.drew 4 rfl g2 t2)))
  clear KB
  obtain ⟨r, rfl⟩ := Int.eq_ofNat_of_zero_le hr0
  go_wp2_with fail
  refine (next_any T 6 _ (K2.tp_ 4 rfl) (by omega) (by omega)).mono ?_
  rintro e w3 ⟨z, rfl, hz0, hz1, t3, g3⟩
  have K3 := Hold.callT K2 4 rfl g3 t3
  clear K2 g3 t3 g2 t2
  obtain ⟨x, hx⟩ := get_col HL.out (show r < n by omega)
  have OC := own_col (K3.get 0 rfl) HL.out hx
  have NK := K3.nes
  simp only [World.size_alloc, nesL, neF, List.set_cons_zero, List.set_cons_succ, and_true, true_and] at NK
  have F3 := K3.facts
  simp only [World.size_alloc, World.size_drew, factsL, cellsF, Nat.reduceAdd, List.toList_toArray, List.set_cons_zero, List.set_cons_succ, List.setIfInBounds_toArray, and_true, true_and] at F3
  have ne1 : ¬ g = w.heap.size := fun e => K3.sep.mem (i := 0) (j := 2) rfl rfl (by omega) (x := g) rfl (by rw [e]; rfl)
  have ne2 : ¬ w.heap.size = g := fun e => ne1 e.symm
  have ne3 : ¬ g = w.heap.size + 1 := fun e => K3.sep.mem (i := 0) (j := 1) rfl rfl (by omega) (x := g) rfl (by rw [e]; rfl)
  have ne4 : ¬ w.heap.size + 1 = g := fun e => ne3 e.symm
  have HX := hid hx; clear hx
  have hxn : x.name.size ≤ 12 := hok x (List.mem_of_getElem? HX.out)
  have HNC := hid (show n ≤ cap by
    rcases hcap'.out with ⟨h, h'⟩ | ⟨g2, c2, cur, hv, _, _, hle, _⟩
    · omega
    · have h3 := (Value.slice.inj hv).2.2; omega)
  have hzz : z = 0 ∨ z = 1 ∨ z = 2 ∨ z = 3 ∨ z = 4 ∨ z = 5 := by omega
  clear hz0 hz1
  rcases hzz with rfl | rfl | rfl | rfl | rfl | rfl
  · go_wp2_with fail
    have KF := (((K3.store 2 rfl 0 (.string (nm ++ ⟨#[45]⟩))).sealRow 0 rfl).store 1 rfl 0 (.string (nm ++ ⟨#[45]⟩))).store 1 rfl 1 (.slice (some ⟨g, 0, none⟩) n cap)
    refine bodyPost_ret (v := .agg #[.string (nm ++ ⟨#[45]⟩), .slice (some ⟨g, 0, none⟩) n cap]) (by simp [results, Tryd.results10, go_sem, F3, OC, ne1, ne2, ne3, ne4, NK]) rfl ⟨(nm ++ ⟨#[45]⟩), some ⟨g, 0, none⟩, n, cap, l, rfl, by rw [ByteArray.size_append]; show nm.size + 1 ≤ 40; omega, fun y hy => Nat.le_trans (hok y hy) (by omega), by omega, HNC.out, KF.roOut 0 rfl, KF.tp_ 4 rfl, KF.grow⟩
  · go_wp2_with fail
    have e : (colCells l).set (r * 4) (.string ⟨#[83, 69, 76, 69, 67, 84]⟩) = colCells (l.set r ⟨⟨#[83, 69, 76, 69, 67, 84]⟩, x.ty, x.nn, x.key⟩) := flat_set Col.cells 4 (fun _ => rfl) l r 0 x _ _ (by omega) HX.out rfl
    have KP := K3.put_ 0 rfl (r * 4) (.string ⟨#[83, 69, 76, 69, 67, 84]⟩)
    rw [e] at KP
    have KF := ((KP.sealRow 0 rfl).store 1 rfl 0 (.string nm)).store 1 rfl 1 (.slice (some ⟨g, 0, none⟩) n cap)
    refine bodyPost_ret (v := .agg #[.string nm, .slice (some ⟨g, 0, none⟩) n cap]) (by simp [results, Tryd.results10, go_sem, F3, OC, ne1, ne2, ne3, ne4, NK]) rfl ⟨nm, some ⟨g, 0, none⟩, n, cap, (l.set r ⟨⟨#[83, 69, 76, 69, 67, 84]⟩, x.ty, x.nn, x.key⟩), rfl, by omega, fun y hy => (List.mem_or_eq_of_mem_set hy).elim (fun h => Nat.le_trans (hok y h) (by omega)) (fun h => by rw [h]; show (6 : Nat) ≤ 40; omega), by omega, HNC.out, KF.roOut 0 rfl, KF.tp_ 4 rfl, KF.grow⟩
  · go_wp2_with fail
    refine (next_any T 2 _ (K3.tp_ 4 rfl) (by omega) (by omega)).mono ?_
    rintro e w4 ⟨y, rfl, hy0, hy1, t4, g4⟩
    have K4 := Hold.callT K3 4 rfl g4 t4
    clear g4 t4 OC F3
    have OC := own_col (K4.get 0 rfl) HL.out HX.out
    have F4 := K4.facts
    simp only [World.size_alloc, World.size_drew, factsL, cellsF, Nat.reduceAdd, List.toList_toArray, List.set_cons_zero, List.set_cons_succ, List.setIfInBounds_toArray, and_true, true_and] at F4
    go_wp2_with fail
    have e : (colCells l).set (r * 4 + 1) (.int .i64 (4 * y)) = colCells (l.set r ⟨x.name, 4 * y, x.nn, x.key⟩) := flat_set Col.cells 4 (fun _ => rfl) l r 1 x _ _ (by omega) HX.out rfl
    have KP := K4.put_ 0 rfl (r * 4 + 1) (.int .i64 (4 * y))
    rw [e] at KP
    have KF := ((KP.sealRow 0 rfl).store 1 rfl 0 (.string nm)).store 1 rfl 1 (.slice (some ⟨g, 0, none⟩) n cap)
    refine bodyPost_ret (v := .agg #[.string nm, .slice (some ⟨g, 0, none⟩) n cap]) (by simp [results, Tryd.results10, go_sem, F4, OC, ne1, ne2, ne3, ne4, NK]) rfl ⟨nm, some ⟨g, 0, none⟩, n, cap, (l.set r ⟨x.name, 4 * y, x.nn, x.key⟩), rfl, by omega, fun y hy => (List.mem_or_eq_of_mem_set hy).elim (fun h => Nat.le_trans (hok y h) (by omega)) (fun h => by rw [h]; show x.name.size ≤ 40; omega), by omega, HNC.out, KF.roOut 0 rfl, KF.tp_ 4 rfl, KF.grow⟩
  · go_wp2_with fail
    have e : (colCells l).set (r * 4 + 3) (.bool true) = colCells (l.set r ⟨x.name, x.ty, x.nn, true⟩) := flat_set Col.cells 4 (fun _ => rfl) l r 3 x _ _ (by omega) HX.out rfl
    have hx2 : (l.set r ⟨x.name, x.ty, x.nn, true⟩)[r]? = some (⟨x.name, x.ty, x.nn, true⟩ : Col) := by rw [List.getElem?_set_self (List.getElem?_eq_some_iff.1 HX.out).1]
    have e2 : (colCells (l.set r ⟨x.name, x.ty, x.nn, true⟩)).set (r * 4 + 2) (.bool (!x.key)) = colCells ((l.set r ⟨x.name, x.ty, x.nn, true⟩).set r ⟨x.name, x.ty, !x.key, true⟩) := flat_set Col.cells 4 (fun _ => rfl) _ r 2 _ _ _ (by omega) hx2 rfl
    have KP := K3.put_ 0 rfl (r * 4 + 3) (.bool true)
    rw [e] at KP
    have KQ := KP.put_ 0 rfl (r * 4 + 2) (.bool (!x.key))
    rw [e2] at KQ
    have KF := ((KQ.sealRow 0 rfl).store 1 rfl 0 (.string nm)).store 1 rfl 1 (.slice (some ⟨g, 0, none⟩) n cap)
    refine bodyPost_ret (v := .agg #[.string nm, .slice (some ⟨g, 0, none⟩) n cap]) (by simp [results, Tryd.results10, go_sem, F3, OC, ne1, ne2, ne3, ne4, NK]) rfl ⟨nm, some ⟨g, 0, none⟩, n, cap, ((l.set r ⟨x.name, x.ty, x.nn, true⟩).set r ⟨x.name, x.ty, !x.key, true⟩), rfl, by omega, fun y hy => (List.mem_or_eq_of_mem_set hy).elim (fun h => (List.mem_or_eq_of_mem_set h).elim (fun h => Nat.le_trans (hok y h) (by omega)) (fun h => by rw [h]; show x.name.size ≤ 40; omega)) (fun h => by rw [h]; show x.name.size ≤ 40; omega), by omega, HNC.out, KF.roOut 0 rfl, KF.tp_ 4 rfl, KF.grow⟩
  · go_wp2_with fail
    have HOWN := hid ((K3.drew.alloc_cst #[.string x.name, .int .i64 x.ty, .bool x.nn, .bool x.key] 35).get 1 rfl)
    have HGR := hid (K3.drew.alloc_cst #[.string x.name, .int .i64 x.ty, .bool x.nn, .bool x.key] 35).grow.size
    obtain ⟨i0, hi1, hi2, hi3, hi4⟩ := info_parts Tryd.infoCol
    have HI := hid (And.intro hi1 (And.intro hi2 (And.intro hi3 hi4)))
    clear hi1 hi2 hi3 hi4
    go_region_law ((refine step_append_lies _ (by rfl) (.tmp 72) (.tmp 76) 22 (by rfl) w.heap.size 35 i0 _ 4 32 Tryd.underlying22 HI.out.1 HI.out.2.1 HI.out.2.2.1 HI.out.2.2.2 (by rfl) (by omega) (.slice (some ⟨g, 0, none⟩) n cap) n (colCells l) (by rfl) (by exact HOWN.out) ⟨w3.heap.size, 0, none⟩ 1 1 [.string x.name, .int .i64 x.ty, .bool x.nn, .bool x.key] (by rfl) (by rfl) (by exact World.news_of_block (heap_alloc_new _ _)) (by intro u hu; simp at hu; rcases hu with rfl | rfl | rfl | rfl <;> rfl) (by omega) (by unfold maxLen; omega) (by omega) (by exact HGR.out) (w3.heap.size + 1) (by simp) ?_; intro g2 cap2 w5 ho2 hg2 hdj2 hl2; have hcap2 := hid ho2.2; have KD := Hold.append (K3.drew.alloc_cst #[.string x.name, .int .i64 x.ty, .bool x.nn, .bool x.key] 35) 1 rfl ho2 hg2 (hdj2.imp id fun e => by rw [e]; simp) hl2; clear F3 OC; have FD := KD.facts; simp only [World.size_alloc, World.size_drew, factsL, cellsF, Nat.reduceAdd, List.toList_toArray, List.set_cons_zero, List.set_cons_succ, List.setIfInBounds_toArray, and_true, true_and] at FD))
    all_goals
      have KE := KD.store 3 rfl 1 (.slice (some ⟨g2, 0, none⟩) (n + 1) cap2)
      have ND := KE.nes
      simp only [World.size_alloc, nesL, neF, List.set_cons_zero, List.set_cons_succ, and_true, true_and] at ND
      go_wp2_with fail
      have e : colCells l ++ [.string x.name, .int .i64 x.ty, .bool x.nn, .bool x.key] = colCells (l ++ [x]) := by simp [colCells, Col.cells]
      rw [e] at KE
      have hle : n + 1 ≤ cap2 := by
        rcases hcap2.out with ⟨h, h'⟩ | ⟨g3, c3, cur, hv, _, _, hle, _⟩
        · omega
        · have h3 := (Value.slice.inj hv).2.2; omega
      have KF := ((KE.sealRow 1 rfl).store 2 rfl 0 (.string nm)).store 2 rfl 1 (.slice (some ⟨g2, 0, none⟩) (n + 1) cap2)
      refine bodyPost_ret (v := .agg #[.string nm, .slice (some ⟨g2, 0, none⟩) (n + 1) cap2]) (by simp [results, Tryd.results10, go_sem, FD, ND]) rfl ⟨nm, some ⟨g2, 0, none⟩, n + 1, cap2, l ++ [x], rfl, by omega, fun y hy => ?_, by omega, hle, KF.roOut 1 rfl, KF.tp_ 5 rfl, KF.grow⟩
      rcases List.mem_append.1 hy with hy | hy
      · exact Nat.le_trans (hok y hy) (by omega)
      · simp only [List.mem_singleton] at hy; rw [hy]; omega
  · go_wp2_with fail
    clear OC F3 NK ne1 ne2 ne3 ne4
    go_loopw [6] (fun i wr => ∃ (k cp g2 : Nat) (ex : List Col), k ≤ 3 ∧ i = .int .i64 k ∧ ex.length = k ∧ (∀ y ∈ ex, y.name.size ≤ 40) ∧ n + k ≤ cp ∧
      Hold M (some T) w wr [.own 35 4 (.slice (some ⟨g2, 0, none⟩) (n + k) cp) (n + k) (colCells (l ++ ex)), .blk (w.heap.size + 1) 24 #[.string ⟨#[]⟩, .slice none 0 0], .blk w.heap.size 24 #[.string nm, .slice (some ⟨g2, 0, none⟩) (n + k) cp], .ro (SlR 4 (some ⟨b, o, none⟩) n (colCells l)), .tp T]) (fun i _ => 3 - (intOf i).toNat)
    case atStart => exact ⟨0, cap, g, [], by omega, rfl, rfl, (fun y hy => by cases hy), HNC.out, by rw [List.append_nil]; exact K3⟩
    case round =>
      obtain ⟨k, cp, g2, ex, hk, rfl, hex, hexn, hcp, H⟩ := hrel
      have HEX := hid hex; clear hex
      have FH := H.facts
      simp only [World.size_alloc, World.size_drew, factsL, cellsF, Nat.reduceAdd, List.toList_toArray, and_true, true_and] at FH
      by_cases hlt : k < 3
      · have hc2 := conv2 wr 112 (97 + (k : Int))
        have hu8 : IntKind.u8.wrap (97 + (k : Int)) = 97 + (k : Int) := by rw [IntKind.wrap_u8]; omega
        have KP := H.alloc_cst #[.int .u8 112, .int .u8 (97 + (k : Int))] 5
        have HOWN := hid (KP.get 1 rfl)
        have HB := hid KP.grow.size
        have hnk : n + k ≤ 8 := by omega
        go_wp2_with (at_builtin; go_must (refine wpList_app2 (wr.alloc (.cells #[.int .u8 112, .int .u8 (97 + (k : Int))] 5)) #[.string (strOfNums [112, 97 + (k : Int)]), .int .i64 1, .bool false, .bool false] rfl (.tmp 27) (.tmp 34) 22 rfl w.heap.size 35 4 32 _ Tryd.underlying22 Tryd.infoCol rfl (by omega) (.slice (some ⟨g2, 0, none⟩) (n + k) cp) (n + k) (colCells (l ++ ex)) rfl HOWN.out (wr.heap.size + 1) (by simp) rfl rfl (by intro u hu; simp at hu; rcases hu with rfl | rfl | rfl | rfl <;> rfl) (by omega) (by omega) HB.out ?_); intro g3 cp3 w5 ho hg hdj hl'; have hcap3 := hid ho.2; have KA := Hold.append (KP.alloc_cst #[.string (strOfNums [112, 97 + (k : Int)]), .int .i64 1, .bool false, .bool false] 35) 2 rfl ho hg hdj hl'; clear FH; have FA := KA.facts; simp only [World.size_alloc, World.size_drew, factsL, cellsF, Nat.reduceAdd, List.toList_toArray, List.set_cons_zero, List.set_cons_succ, List.setIfInBounds_toArray, and_true, true_and] at FA)
        have KB := KA.store 4 rfl 1 (.slice (some ⟨g3, 0, none⟩) (n + k + 1) cp3)
        go_roundw
        case rel =>
          have e : colCells (l ++ ex) ++ (#[.string (strOfNums [112, 97 + (k : Int)]), .int .i64 1, .bool false, .bool false] : Array Value).toList = colCells (l ++ (ex ++ [⟨strOfNums [112, 97 + (k : Int)], 1, false, false⟩])) := by simp [colCells, Col.cells]
          have hle : n + k + 1 ≤ cp3 := by
            rcases hcap3.out with ⟨h, h'⟩ | ⟨g4, c4, cur, hv, _, _, hle, _⟩
            · omega
            · have h3 := (Value.slice.inj hv).2.2; omega
          refine ⟨k + 1, cp3, g3, ex ++ [⟨strOfNums [112, 97 + (k : Int)], 1, false, false⟩], by omega, by go_num, by rw [List.length_append, HEX.out]; rfl, fun y hy => ?_, hle, ?_⟩
          · rcases List.mem_append.1 hy with hy | hy
            · exact hexn y hy
            · simp only [List.mem_singleton] at hy
              rw [hy]
              show (strOfNums [112, 97 + (k : Int)]).size ≤ 40
              rw [strOfNums_size]; simp
          · rw [← e]
            exact KB.drop (List.Sublist.cons _ (List.sublist_cons_self _ _))
        case measure => simp [intOf]; omega
      · obtain rfl : k = 3 := by omega
        have KF := ((H.sealRow 0 rfl).store 1 rfl 0 (.string nm)).store 1 rfl 1 (.slice (some ⟨g2, 0, none⟩) (n + 3) cp)
        go_wp2_with fail
        refine bodyPost_ret (v := .agg #[.string nm, .slice (some ⟨g2, 0, none⟩) (n + 3) cp]) (by simp [results, Tryd.results10, go_sem, FH]) rfl ⟨nm, some ⟨g2, 0, none⟩, n + 3, cp, l ++ ex, rfl, by omega, fun y hy => ?_, by omega, hcp, KF.roOut 0 rfl, KF.tp_ 4 rfl, KF.grow⟩
        rcases List.mem_append.1 hy with hy | hy
        · exact Nat.le_trans (hok y hy) (by omega)
        · exact hexn y hy
end Go.Proofs.YtdgdllicmccnfaaDoor

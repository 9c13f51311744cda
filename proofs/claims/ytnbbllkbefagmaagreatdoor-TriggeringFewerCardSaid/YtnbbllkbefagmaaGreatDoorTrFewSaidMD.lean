/- Rel2: Rel, where a move or an extract that is waited for only behind n (E) is taken as soon as it is ready. No program in sight. -/
import Derived.Test.YtnbbllkbefagmaaGreatDoorTrFewSaidMC
import Derived.Test.YtnbbllkbefagmaaGreatDoorTrFewSaidMB
import Derived.Deep.CutRange
import Derived.Orders
namespace Go.Proofs.YtnbbllkbefagmaaGreatDoor
open Go.RowKit
set_option linter.unusedVariables false
set_option linter.unusedSimpArgs false
/-- a short slice of good things -/
def LsOk {α : Type} (k : Nat) (s : SlP α) (Q : α → Prop) : Prop := (s.n ≤ s.c ∧ s.c ≤ 9223372036854775807) ∧ s.l.length ≤ k ∧ ∀ x ∈ s.l, Q x
theorem LsOk.nil {α : Type} (k : Nat) (Q : α → Prop) : LsOk k (SlP.nil : SlP α) Q := ⟨⟨Nat.le_refl _, by simp [SlP.nil]⟩, by simp [SlP.nil], fun z hz => (nomatch hz)⟩
/-- an action drawn -/
structure AcGd (d : Nat) (a : Ac) : Prop where
 k : 1 ≤ a.kind ∧ a.kind ≤ 5
 r : LsOk 8 a.rows (fun r => LsOk 8 r (ExGd d))
 q : LsOk 1 a.qs (QuGd d)
 s : LsOk 8 a.sets (fun s => ExGd d s.e)
 h : LsOk 1 a.wh (ExGd d)
theorem addr_eq {b o b2 o2 : Nat} (h : some (⟨b, o, none⟩ : Addr) = some ⟨b2, o2, none⟩) : b = b2 ∧ o = o2 := by
 injection h with h
 injection h with e1 e2
 exact ⟨e1, e2⟩
theorem gd_snoc {d : Nat} {l : List Ex} {y : Ex} (h : ∀ x ∈ l, ExGd d x) (hy : ExGd d y) : ∀ x ∈ l ++ [y], ExGd d x := fun x hx => by
 rcases List.mem_append.1 hx with hx | hx
 ·exact h x hx
 ·simp only [List.mem_cons, List.not_mem_nil, or_false] at hx
  subst hx
  exact hy
def rwE (l : List (SlP Ex)) : List Value := l.flatMap fun r => [r.v]
theorem Tryz.elRowG : ElemT Tryz.prog 93 37 1 24 (.slice none 0 0) := ⟨Tryz.underlying93, by kernel_rfl, rfl, by omega⟩
theorem exCells_set (z : Ex) : ∀ {l : List Ex} {k : Nat}, k < l.length → (((((((((((exCells l).set (k * 10) (.int .i64 z.kind)).set (k * 10 + 1) (.int .i64 z.op)).set (k * 10 + 2) (.bool z.nt)).set (k * 10 + 3) (.int .i64 z.v.k)).set (k * 10 + 4) (.int .i64 z.v.i)).set (k * 10 + 5) (.string z.v.s)).set (k * 10 + 6) (.string z.tab)).set (k * 10 + 7) (.string z.nm)).set (k * 10 + 8) (.slice z.A z.n z.c)).set (k * 10 + 9) (.slice z.B z.m z.d)) = exCells (l.set k z)
 | [], k, h => by simp at h
 | x :: l, 0, h => by simp [exCells, Ex.cells]
 | x :: l, k + 1, h => by
  have ih := exCells_set z (l := l) (k := k) (by simpa using h)
  have e : ∀ (ys : List Value) (j : Nat) (u : Value), (x.cells ++ ys).set (j + 10) u = x.cells ++ ys.set j u := fun ys j u => by
   rw [List.set_append_right _ _ (by simp [Ex.cells])]
   simp [Ex.cells]
  have e0 : exCells (x :: l) = x.cells ++ exCells l := by simp [exCells]
  have e1 : exCells ((x :: l).set (k + 1) z) = x.cells ++ exCells (l.set k z) := by simp [exCells]
  rw [e0, e1, show (k + 1) * 10 = k * 10 + 10 by omega, e, show k * 10 + 10 + 1 = (k * 10 + 1) + 10 by omega, e, show k * 10 + 10 + 2 = (k * 10 + 2) + 10 by omega, e, show k * 10 + 10 + 3 = (k * 10 + 3) + 10 by omega, e, show k * 10 + 10 + 4 = (k * 10 + 4) + 10 by omega, e, show k * 10 + 10 + 5 = (k * 10 + 5) + 10 by omega, e, show k * 10 + 10 + 6 = (k * 10 + 6) + 10 by omega, e, show k * 10 + 10 + 7 = (k * 10 + 7) + 10 by omega, e, show k * 10 + 10 + 8 = (k * 10 + 8) + 10 by omega, e, show k * 10 + 10 + 9 = (k * 10 + 9) + 10 by omega, e, ih]
def seCells (l : List Se) : List Value := l.flatMap Se.cells
theorem Tryz.elSeG : ElemT Tryz.prog 95 128 11 152 (.agg #[.string ⟨#[]⟩, .int .i64 0, .int .i64 0, .bool false, .int .i64 0, .int .i64 0, .string ⟨#[]⟩, .string ⟨#[]⟩, .string ⟨#[]⟩, .slice none 0 0, .slice none 0 0]) := ⟨Tryz.underlying95, by kernel_rfl, rfl, by omega⟩
def AcRet (w : World) (T : Nat) (M : Nat → Prop) (d : Nat) (e : Ending) (w' : World) : Prop := ∃ a : Ac, e = .returned a.val ∧ AcGd d a ∧ Ro w' M (AcIn d a) ∧ Tp w' T ∧ w.grownBy w' (some T)
theorem QuIn.le {d d' : Nat} {q : Qu} {w : World} (h : QuIn d q w) (hd : d ≤ d') : QuIn d' q w := ⟨⟨h.1.1, fun a ha => (h.1.2 a ha).le hd⟩, h.2.1, fun a ha => (h.2.2 a ha).le hd⟩
theorem QuGd.le {d d' : Nat} {q : Qu} (h : QuGd d q) (hd : d ≤ d') : QuGd d' q := ⟨h.1, h.2.1, fun a ha => (h.2.2.1 a ha).le hd, fun a ha => (h.2.2.2 a ha).le hd⟩
theorem plN_ins {m : Nat} {p : Pl} (h : PlN (m + 1) p) {s : Sm} (hs : s.cols.n ≤ 100) {A : Option Addr} {c : Nat} (hc : p.fr.n + 1 ≤ c) : PlN m (p.more s A c) := by
 have hn := h.n
 refine ⟨⟨⟨hc, ?_⟩, h.b.t, fun f hf => ?_, h.b.tc⟩, ?_, fun _ => trivial⟩
 ·show p.fr.n + 1 ≤ 100
  omega
 ·rcases List.mem_append.1 hf with hf | hf
  ·exact h.b.fc f hf
  ·simp only [List.mem_singleton] at hf
   subst hf
   exact hs
 ·show p.fr.n + 1 + m ≤ 90
  omega
set_option maxRecDepth 100000 in
set_option maxHeartbeats 16000000 in
theorem change_anyG {n : Nat} (HE : GE n) (M : Nat → Prop) (T : Nat) (w : World) (hM : ∀ b, M b → b < w.heap.size) (ht : Tp w T) (hMT : ∀ b, M b → T ≤ b) (p : Pl) (depth : Int) (hp : Ro w (Mut M [.tp T]) (PlIn p)) (hW : Ro w (Mut M [.tp T]) Wds) (hT : 1 < T) (hB : PlN (n + 1) p) (hd : depth ≤ n) (hd2 : -100 ≤ depth) (hs : 0 < p.tb.n) :
  Calls Tryz.prog 159 #[.pointer (some ⟨T, 0, none⟩), p.val, .int .i64 depth] w fun e w' => AcRet w T M (n + 3) e w' := by
 have HBM := hid (fun (s : Sm) (hs : s.cols.n ≤ 100) (A : Option Addr) (c : Nat) (hc : p.fr.n + 1 ≤ c) => plN_ins hB hs (A := A) hc)
 have HB0 := hid hB
 have HBN := hid (show PlN n p from ⟨hB.b, by have := hB.n; omega, fun _ => trivial⟩)
 obtain ⟨⟨fA, fn, fc, fl⟩, ⟨sA, sn, sc, sl⟩⟩ := p
 have HS := hid (show 0 < sn from hs)
 have KS := ((((Hold.startT M w T hM ht hMT).add hW).add (hp.less (by simp [mut_cons, Mut, Hp.foot]))).alloc_cst #[.slice fA fn fc, .slice sA sn sc] 177).alloc #[.int .i64 0, .string ⟨#[]⟩, .slice none 0 0, .slice none 0 0, .slice none 0 0, .slice none 0 0, .string ⟨#[]⟩] 97
 rw [World.size_alloc] at KS
 obtain ⟨gp, hgp⟩ : ∃ g, g = w.heap.size := ⟨_, rfl⟩
 rw [← hgp] at KS
 obtain ⟨gr, hgr⟩ : ∃ g, g = gp + 1 := ⟨_, rfl⟩
 rw [← hgr] at KS
 have hm90 : n ≤ 90 ∧ fn ≤ 90 := by have h1 : fn + (n + 1) ≤ 90 := hB.n; omega
 have F0 := KS.facts
 simp only [factsL, cellsF, Nat.reduceAdd, zf, zl] at F0
 rw [hgr, hgp] at F0
 simp only [Pl.val]
 clear hp hW hB hs
 go_enter Tryz.func159, Tryz.ntmps159
 go_wp2_with fail
 rw [← hgp]
 try rw [← hgr]
 have HG := hid (And.intro hgp hgr)
 clear hgp hgr F0
 refine (tname_any (Mut M _) T _ KS.mutLt (KS.tp_ 4 rfl) (KS.get 4 rfl).2).mono ?_
 rintro e w1 ⟨tt, rfl, hT1, t1, g1⟩
 have K1 := Hold.callT KS 4 rfl g1 t1
 clear KS g1 t1
 go_wp2_with fail
 refine (schema_any (Mut M _) _ K1.mutLt tt).mono ?_
 rintro e w2 ⟨cA, cn, cc, rfl, hcc, hc4, r1, b1⟩
 have hcl : 1 ≤ cn ∧ cn ≤ 4 := by
  have h := (show Rd w2 w2.heap.size 4 cA cn (colCells (schemaOf tt).2) from r1.now).1
  have h2 := one_schema hT1
  have h3 : (colCells (schemaOf tt).2).length = (schemaOf tt).2.length * 4 := flat_len _ 4 (fun _ => rfl) _
  omega
 obtain ⟨bC, oC, eC, -, -⟩ := (show Rd w2 w2.heap.size 4 cA cn (colCells (schemaOf tt).2) from r1.now).2 (by omega)
 subst eC
 obtain ⟨snm, hsnm⟩ : ∃ x, x = (schemaOf tt).1 := ⟨_, rfl⟩
 obtain ⟨cl, hcs⟩ : ∃ x, x = (schemaOf tt).2 := ⟨_, rfl⟩
 rw [← hcs] at r1
 rw [← hsnm]
 have HLN := hid (show cl.length = cn from (RdC.of_sl r1.now).len)
 have K2 := ((K1.call b1).add r1).alloc #[.string snm, .slice (some ⟨bC, oC, none⟩) cn cc] 49
 have F1 := (K1.call b1).facts
 simp only [factsL, cellsF, Nat.reduceAdd, zf, zl] at F1
 have F2 := K2.facts
 simp only [factsL, cellsF, Nat.reduceAdd, zf, zl] at F2
 clear K1 hsnm hcs r1 b1
 go_wp2_with fail
 obtain ⟨gs, hgs⟩ : ∃ g, g = w2.heap.size := ⟨_, rfl⟩
 rw [← hgs] at K2 ⊢
 have HGS := hid hgs
 clear hgs F1 F2
 refine (inside_any (Mut M _) _ K2.mutLt ⟨⟨fA, fn, fc, fl⟩, ⟨sA, sn, sc, sl⟩⟩ ⟨snm, ⟨some ⟨bC, oC, none⟩, cn, cc, cl⟩⟩ (K2.ro 4 rfl) ((K2.ro 1 rfl).imp fun w2 h2 => ⟨h2, fun _ _ => trivial⟩) (by have := hm90; show fn ≤ 1000; omega)).mono ?_
 rintro e w5 ⟨A9, c9, rfl, hc9, ro9, hbl9⟩
 have HIN := hid (HBM.out ⟨snm, ⟨some ⟨bC, oC, none⟩, cn, cc, cl⟩⟩ (by show cn ≤ 100; omega) A9 c9 hc9)
 simp only [Pl.val, Pl.more] at *
 obtain ⟨fl2, hfl2⟩ : ∃ l, l = fl ++ [(⟨snm, false, ⟨some ⟨bC, oC, none⟩, cn, cc, cl⟩, SlP.nil⟩ : Fr)] := ⟨_, rfl⟩
 rw [← hfl2] at ro9 HIN
 clear hfl2 HBM
 have K8 := ((K2.call hbl9).add ro9).alloc #[.slice A9 (fn + 1) c9, .slice sA sn sc] 177
 have F8a := (K2.call hbl9).facts
 simp only [factsL, cellsF, Nat.reduceAdd, zf, zl] at F8a
 have F8 := K8.facts
 simp only [factsL, cellsF, Nat.reduceAdd, zf, zl] at F8
 clear K2 hbl9 ro9
 go_upto_region 3 with fail
 obtain ⟨gi, hgi⟩ : ∃ g, g = w5.heap.size := ⟨_, rfl⟩
 rw [← hgi] at K8 F8 ⊢
 have HGI := hid hgi
 clear hgi F8a
 have K9 : Hold M (some T) w _ [.blk gi 177 #[.slice A9 (fn + 1) c9, .slice sA sn sc], .ro (PlIn ⟨⟨A9, fn + 1, c9, fl2⟩, ⟨sA, sn, sc, sl⟩⟩), .blk gs 49 #[.string snm, .slice (some ⟨bC, oC, none⟩) cn cc], .ro (SlR 4 (some ⟨bC, oC, none⟩) cn (colCells cl)), .blk gr 97 #[.int .i64 0, .string ⟨#[]⟩, .slice none 0 0, .slice none 0 0, .slice none 0 0, .slice none 0 0, .string ⟨#[]⟩], .cst gp 177 #[.slice fA fn fc, .slice sA sn sc], .ro (PlIn ⟨⟨fA, fn, fc, fl⟩, ⟨sA, sn, sc, sl⟩⟩), .ro Wds, .tp T] := K8.pick [0, 1, 2, 3, 4, 5, 6, 7, 8] (by decide) rfl
 obtain ⟨KL, hKL, K6⟩ := K9.name
 have H1 : ∀ wv : World, Hold M (some T) w wv KL → Blk wv gs 49 #[.string snm, .slice (some ⟨bC, oC, none⟩) cn cc] := fun wv h => by rw [hKL] at h; exact h.blk_ 2 rfl
 have h4 : KL[8]? = some (.tp T) := by rw [hKL]; rfl
 have HH1 := hid H1
 have HH4 := hid h4
 have HKL := hid hKL
 clear hKL H1 h4 K8 K9
 go_wp2_with fail
 clear F8
 refine wp_region_any (by kernel_rfl) ?_
 refine wpAny_hold 7 175 (KL) (spL [(25, fun u _ => NatB 3 u), (9, NewSlot (Mut M KL) (gi + 1) 97 #[.int .i64 0, .string ⟨#[]⟩, .slice none 0 0, .slice none 0 0, .slice none 0 0, .slice none 0 0, .string ⟨#[]⟩])]) (by kernel_rfl) (by kernel_rfl) (by kernel_rfl) rfl ?_ (K6.drew) ?_
 ·exact stays_cons (fun _ _ _ _ h => h) (stays_cons newSlot_mono (stays_nil _))
 simp only [zd, Act.put, List.getElem_toArray, List.getElem_cons_zero, List.getElem_cons_succ, zl]
 refine dw_val rfl rfl rfl ?_; apply Exists.intro; refine ⟨fun wv HC => ?_, ?_⟩
 · go_simp <;> rfl
 simp only [Act.put, zl]
 refine dw_next 3 8 HH4.out 25 rfl rfl rfl rfl (fun wv => ?_) (fun r hr => ?_)
 ·go_simp <;> rfl
 have hwr : IntKind.i64.wrap (1 + (r : Int)) = 1 + r := IntWalk.i64_in _ (by omega)
 simp only [Act.put, zl]
 refine dw_val rfl rfl rfl ?_; apply Exists.intro; refine ⟨fun wv HC => ?_, ?_⟩
 · go_simp <;> rfl
 simp only [Act.put, zl]
 refine dw_val rfl rfl rfl ?_; apply Exists.intro; refine ⟨fun wv HC => ?_, ?_⟩
 · go_simp <;> rfl
 simp only [Act.put, zl]
 refine dw_val rfl rfl rfl ?_; apply Exists.intro; refine ⟨fun wv HC => ?_, ?_⟩
 ·obtain q0 := (HH1.out _ HC).cell 0; go_simp <;> rfl
 simp only [Act.put, zl]
 refine dw_val rfl rfl rfl ?_; apply Exists.intro; refine ⟨fun wv HC => ?_, ?_⟩
 · go_simp <;> rfl
 simp only [Act.put, zl]
 refine dw_new #[.int .i64 0, .string ⟨#[]⟩, .slice none 0 0, .slice none 0 0, .slice none 0 0, .slice none 0 0, .string ⟨#[]⟩] 97 9 (NewSlot (Mut M KL) (gi + 1) 97 #[.int .i64 0, .string ⟨#[]⟩, .slice none 0 0, .slice none 0 0, .slice none 0 0, .slice none 0 0, .string ⟨#[]⟩]) (fun g => .pointer (some ⟨g, 0, none⟩)) rfl rfl rfl rfl (fun wv => ?_) (fun wv HC hrm hD hro => ?_) ?_
 ·go_simp <;> rfl
 ·exact ⟨_, rfl, by have := hrm.1; simp only [World.size_alloc, World.size_drew] at this; have := HGI.out; omega, hro _ HC.mutLt⟩
 rintro ga wg HCg hsl
 clear HCg hsl
 simp only [Act.put, zl]
 refine rel_nil ?_
 rintro wx2 HX
 rintro _hrm HGW
 have hu : NewSlot (Mut M KL) (gi + 1) 97 #[.int .i64 0, .string ⟨#[]⟩, .slice none 0 0, .slice none 0 0, .slice none 0 0, .slice none 0 0, .string ⟨#[]⟩] (.pointer (some ⟨ga, 0, none⟩)) wx2 := (GW_on (d := 9) rfl).1 (HGW 6 _ rfl (by omega))
 clear HGW
 obtain ⟨ga', e', hg1, hg2⟩ := hu
 obtain rfl : ga = ga' := by injection e' with e'; injection e' with e'; injection e'
 clear e'
 have HB := Hold.addFreshBlk K6.drew HX _hrm (by simp only [World.size_alloc, World.size_drew]; have := HGI.out; omega) hg2.now
 rw [HKL.out] at HB
 clear HX _hrm hg2 K6 HH1 HH4 HKL
 have FA := HB.facts
 simp only [factsL, cellsF, Nat.reduceAdd, zf, zl] at FA
 have KA := ((((((HB.store 0 rfl 0 (.int .i64 (1 + r))).store 0 rfl 1 (.string snm)).store 0 rfl 2 (.slice none 0 0)).store 0 rfl 3 (.slice none 0 0)).store 0 rfl 4 (.slice none 0 0)).store 0 rfl 5 (.slice none 0 0)).store 0 rfl 6 (.string ⟨#[]⟩)
 simp only [zl] at KA
 have F := KA.facts
 simp only [factsL, cellsF, Nat.reduceAdd, zf, zl] at F
 clear HB
 go_upto_region 4 with fail
 clear FA
 generalize World.setCell _ _ _ = wa at KA F ⊢
 generalize hk : (1 + (r : Int)) = k at KA F ⊢
 have hk3 : k = 1 ∨ k = 2 ∨ k = 3 := by omega
 clear hk hwr
 rcases hk3 with rfl | rfl | rfl
 ·go_wp2_with fail
  refine (bool_any T 4 _ (KA.tp_ 9 rfl) (by omega) (by omega)).mono ?_
  rintro e w3 ⟨b4, rfl, t3, g3⟩
  have K1 := Hold.callT KA 9 rfl g3 t3
  clear KA F t3 g3
  have F1 := K1.facts
  simp only [factsL, cellsF, Nat.reduceAdd, zf, zl] at F1
  cases b4
  ·go_wp2_with fail
   refine (next_any T 3 _ (K1.tp_ 9 rfl) (by omega) (by omega)).mono ?_
   rintro e w3 ⟨r3, rfl, r30, r31, t3, g3⟩
   have KB := ((Hold.callT K1 9 rfl g3 t3).nil 37 1).add (S := fun w => ∀ r ∈ ([] : List (SlP Ex)), ExlIn (n + 3) r w) (fun w2 _ _ s hs => (nomatch hs))
   have KC : Hold M (some T) w _ [.own 37 1 (.slice none 0 0) 0 (rwE ([] : List (SlP Ex))), .ro (fun w => ∀ r ∈ ([] : List (SlP Ex)), ExlIn (n + 3) r w), .blk ga 97 #[.int .i64 1, .string snm, .slice none 0 0, .slice none 0 0, .slice none 0 0, .slice none 0 0, .string ⟨#[]⟩], .blk gi 177 #[.slice A9 (fn + 1) c9, .slice sA sn sc], .ro (PlIn ⟨⟨A9, fn + 1, c9, fl2⟩, ⟨sA, sn, sc, sl⟩⟩), .blk gs 49 #[.string snm, .slice (some ⟨bC, oC, none⟩) cn cc], .ro (SlR 4 (some ⟨bC, oC, none⟩) cn (colCells cl)), .blk gr 97 #[.int .i64 0, .string ⟨#[]⟩, .slice none 0 0, .slice none 0 0, .slice none 0 0, .slice none 0 0, .string ⟨#[]⟩], .cst gp 177 #[.slice fA fn fc, .slice sA sn sc], .ro (PlIn ⟨⟨fA, fn, fc, fl⟩, ⟨sA, sn, sc, sl⟩⟩), .ro Wds, .tp T] := KB.pick [1, 0, 2, 3, 4, 5, 6, 7, 8, 9, 10, 11] (by decide) rfl
   obtain ⟨i0, hi0⟩ : ∃ i0 : Nat, 1 + r3 = i0 := ⟨(1 + r3).toNat, by omega⟩
   have hi03 : i0 ≤ 3 := by omega
   have hwi0 : IntKind.i64.wrap (1 + r3) = i0 := by rw [hi0]; exact IntWalk.i64_in _ (by omega)
   have HI0 := hid hi0
   clear K1 KB F1 t3 g3 hi0
   go_wp2_with fail
   go_loopw [10] (fun iv wr => ∃ (i k cap : Nat) (O : Option Addr) (rs : List (SlP Ex)), iv = .int .i64 i ∧ k + i ≤ 3 ∧ (∀ r ∈ rs, LsOk 8 r (ExGd (n + 3))) ∧ Hold M (some T) w wr [.own 37 1 (.slice O k cap) k (rwE rs), .ro (fun w => ∀ r ∈ rs, ExlIn (n + 3) r w), .blk ga 97 #[.int .i64 1, .string snm, .slice O k cap, .slice none 0 0, .slice none 0 0, .slice none 0 0, .string ⟨#[]⟩], .blk gi 177 #[.slice A9 (fn + 1) c9, .slice sA sn sc], .ro (PlIn ⟨⟨A9, fn + 1, c9, fl2⟩, ⟨sA, sn, sc, sl⟩⟩), .blk gs 49 #[.string snm, .slice (some ⟨bC, oC, none⟩) cn cc], .ro (SlR 4 (some ⟨bC, oC, none⟩) cn (colCells cl)), .blk gr 97 #[.int .i64 0, .string ⟨#[]⟩, .slice none 0 0, .slice none 0 0, .slice none 0 0, .slice none 0 0, .string ⟨#[]⟩], .cst gp 177 #[.slice fA fn fc, .slice sA sn sc], .ro (PlIn ⟨⟨fA, fn, fc, fl⟩, ⟨sA, sn, sc, sl⟩⟩), .ro Wds, .tp T]) (fun iv _ => (intOf iv).toNat)
   case atStart => exact ⟨i0, 0, 0, none, [], rfl, by omega, fun s hs => (nomatch hs), KC⟩
   case round =>
    clear KC
    obtain ⟨i, k, cap, O, rs, rfl, hki, hrs, H⟩ := hrel
    by_cases hi : 0 < i
    ·have hii : (0 : Int) < (i : Int) := by omega
     have hwi : IntKind.i64.wrap ((i : Int) - 1) = ((i - 1 : Nat) : Int) := by rw [show ((i - 1 : Nat) : Int) = (i : Int) - 1 by omega]; exact IntWalk.i64_in _ (by omega)
     have F := H.facts
     simp only [factsL, cellsF, Nat.reduceAdd, zf, zl] at F
     have K2 : Hold M (some T) w _ [.own 126 10 (.slice none 0 0) 0 (exCells ([] : List Ex)), .ro (fun w => ∀ x ∈ ([] : List Ex), ExIn (n + 3) x w), .own 37 1 (.slice O k cap) k (rwE rs), .ro (fun w => ∀ r ∈ rs, ExlIn (n + 3) r w), .blk ga 97 #[.int .i64 1, .string snm, .slice O k cap, .slice none 0 0, .slice none 0 0, .slice none 0 0, .string ⟨#[]⟩], .blk gi 177 #[.slice A9 (fn + 1) c9, .slice sA sn sc], .ro (PlIn ⟨⟨A9, fn + 1, c9, fl2⟩, ⟨sA, sn, sc, sl⟩⟩), .blk gs 49 #[.string snm, .slice (some ⟨bC, oC, none⟩) cn cc], .ro (SlR 4 (some ⟨bC, oC, none⟩) cn (colCells cl)), .blk gr 97 #[.int .i64 0, .string ⟨#[]⟩, .slice none 0 0, .slice none 0 0, .slice none 0 0, .slice none 0 0, .string ⟨#[]⟩], .cst gp 177 #[.slice fA fn fc, .slice sA sn sc], .ro (PlIn ⟨⟨fA, fn, fc, fl⟩, ⟨sA, sn, sc, sl⟩⟩), .ro Wds, .tp T] := ((H.nil 126 10).add (S := fun w => ∀ x ∈ ([] : List Ex), ExIn (n + 3) x w) (fun w2 _ _ s hs => (nomatch hs))).pick [1, 0, 2, 3, 4, 5, 6, 7, 8, 9, 10, 11, 12, 13] (by decide) rfl
     clear H
     go_wp2_with fail
     clear F
     go_loopw [11, 54] (fun rv jv wr => ∃ (j cap2 : Nat) (O2 : Option Addr) (outs : List Ex), j ≤ cn ∧ rv = .slice O2 j cap2 ∧ jv = .int .i64 j ∧ (∀ x ∈ outs, ExGd (n + 3) x) ∧ Hold M (some T) w wr [.own 126 10 (.slice O2 j cap2) j (exCells outs), .ro (fun w => ∀ x ∈ outs, ExIn (n + 3) x w), .own 37 1 (.slice O k cap) k (rwE rs), .ro (fun w => ∀ r ∈ rs, ExlIn (n + 3) r w), .blk ga 97 #[.int .i64 1, .string snm, .slice O k cap, .slice none 0 0, .slice none 0 0, .slice none 0 0, .string ⟨#[]⟩], .blk gi 177 #[.slice A9 (fn + 1) c9, .slice sA sn sc], .ro (PlIn ⟨⟨A9, fn + 1, c9, fl2⟩, ⟨sA, sn, sc, sl⟩⟩), .blk gs 49 #[.string snm, .slice (some ⟨bC, oC, none⟩) cn cc], .ro (SlR 4 (some ⟨bC, oC, none⟩) cn (colCells cl)), .blk gr 97 #[.int .i64 0, .string ⟨#[]⟩, .slice none 0 0, .slice none 0 0, .slice none 0 0, .slice none 0 0, .string ⟨#[]⟩], .cst gp 177 #[.slice fA fn fc, .slice sA sn sc], .ro (PlIn ⟨⟨fA, fn, fc, fl⟩, ⟨sA, sn, sc, sl⟩⟩), .ro Wds, .tp T]) (fun _ jv _ => cn - (intOf jv).toNat)
     case atStart => exact ⟨0, 0, none, [], by omega, rfl, rfl, fun x hx => (nomatch hx), K2⟩
     case round =>
      clear K2
      obtain ⟨j, cap2, O2, outs, hj, rfl, rfl, hgd, H⟩ := hrel
      by_cases hlt : j < cn
      ·obtain ⟨⟨ynm, yty, ynn, ykey⟩, hc⟩ := get_col HLN.out hlt
       obtain ⟨b2', o2', hcA, hb2, x0, x1, x2, x3⟩ := (RdC.of_sl (H.ro 8 rfl).now).at_ hc
       obtain ⟨rfl, rfl⟩ := addr_eq hcA
       clear hcA
       simp only at x0 x1 x2 x3
       clear hc
       obtain ⟨gk, hgk, K3⟩ : ∃ gk, gk = _ ∧ Hold M (some T) w _ [.cst gk 158 #[.string ynm, .int .i64 yty, .bool ynn, .bool ykey], .own 126 10 (.slice O2 j cap2) j (exCells outs), .ro (fun w => ∀ x ∈ outs, ExIn (n + 3) x w), .own 37 1 (.slice O k cap) k (rwE rs), .ro (fun w => ∀ r ∈ rs, ExlIn (n + 3) r w), .blk ga 97 #[.int .i64 1, .string snm, .slice O k cap, .slice none 0 0, .slice none 0 0, .slice none 0 0, .string ⟨#[]⟩], .blk gi 177 #[.slice A9 (fn + 1) c9, .slice sA sn sc], .ro (PlIn ⟨⟨A9, fn + 1, c9, fl2⟩, ⟨sA, sn, sc, sl⟩⟩), .blk gs 49 #[.string snm, .slice (some ⟨bC, oC, none⟩) cn cc], .ro (SlR 4 (some ⟨bC, oC, none⟩) cn (colCells cl)), .blk gr 97 #[.int .i64 0, .string ⟨#[]⟩, .slice none 0 0, .slice none 0 0, .slice none 0 0, .slice none 0 0, .string ⟨#[]⟩], .cst gp 177 #[.slice fA fn fc, .slice sA sn sc], .ro (PlIn ⟨⟨fA, fn, fc, fl⟩, ⟨sA, sn, sc, sl⟩⟩), .ro Wds, .tp T] := ⟨_, rfl, H.alloc_cst #[.string ynm, .int .i64 yty, .bool ynn, .bool ykey] 158⟩
       have F3 := K3.facts
       simp only [factsL, cellsF, Nat.reduceAdd, zf, zl] at F3
       rw [hgk] at F3
       clear H
       go_upto_region 16 with fail
       rw [← hgk] at F3 ⊢
       have HGK := hid hgk
       clear hgk
       go_cut [63] (fun v wx => ∃ bb : Bool, v = .bool bb ∧ Hold M (some T) w wx [.cst gk 158 #[.string ynm, .int .i64 yty, .bool ynn, .bool ykey], .own 126 10 (.slice O2 j cap2) j (exCells outs), .ro (fun w => ∀ x ∈ outs, ExIn (n + 3) x w), .own 37 1 (.slice O k cap) k (rwE rs), .ro (fun w => ∀ r ∈ rs, ExlIn (n + 3) r w), .blk ga 97 #[.int .i64 1, .string snm, .slice O k cap, .slice none 0 0, .slice none 0 0, .slice none 0 0, .string ⟨#[]⟩], .blk gi 177 #[.slice A9 (fn + 1) c9, .slice sA sn sc], .ro (PlIn ⟨⟨A9, fn + 1, c9, fl2⟩, ⟨sA, sn, sc, sl⟩⟩), .blk gs 49 #[.string snm, .slice (some ⟨bC, oC, none⟩) cn cc], .ro (SlR 4 (some ⟨bC, oC, none⟩) cn (colCells cl)), .blk gr 97 #[.int .i64 0, .string ⟨#[]⟩, .slice none 0 0, .slice none 0 0, .slice none 0 0, .slice none 0 0, .string ⟨#[]⟩], .cst gp 177 #[.slice fA fn fc, .slice sA sn sc], .ro (PlIn ⟨⟨fA, fn, fc, fl⟩, ⟨sA, sn, sc, sl⟩⟩), .ro Wds, .tp T])
       case first =>
        cases ykey
        ·go_wp2_with fail
         refine (bool_any T 3 _ (K3.tp_ 14 rfl) (by omega) (by omega)).mono ?_
         rintro e w7 ⟨b7, rfl, t7, g7⟩
         have K4 := Hold.callT K3 14 rfl g7 t7
         go_wp2_with fail
         go_meet
         exact ⟨b7, rfl, K4⟩
        ·go_wp2_with fail
         go_meet
         exact ⟨true, rfl, K3⟩
       case rest =>
        obtain ⟨bb, rfl, K4⟩ := hcut
        clear K3 F3 x0 x1 x2 x3
        have F4 := K4.facts
        simp only [factsL, cellsF, Nat.reduceAdd, zf, zl] at F4
        cases bb
        ·go_wp2_with fail
         refine (HE (Mut M _) T _ K4.mutLt (K4.tp_ 14 rfl) (K4.get 14 rfl).2 ⟨⟨fA, fn, fc, fl⟩, ⟨sA, sn, sc, sl⟩⟩ yty depth ((K4.ro 12 rfl).less (mut_tpG (i := 14) rfl)) ((K4.ro 13 rfl).less (mut_tpG (i := 14) rfl)) hT HBN.out hd hd2).mono ?_
         rintro e w8 ⟨y, rfl, hy, ry, t8, g8⟩
         have K6 := (Hold.callT K4 14 rfl g8 t8).add ry
         have HYO := hid hy
         clear K4 F4 g8 t8 ry hy
         rw [show y.val = .agg #[.int .i64 y.kind, .int .i64 y.op, .bool y.nt, .int .i64 y.v.k, .int .i64 y.v.i, .string y.v.s, .string y.tab, .string y.nm, .slice y.A y.n y.c, .slice y.B y.m y.d] from rfl]
         have F6 := K6.facts
         simp only [factsL, cellsF, Nat.reduceAdd, zf, zl] at F6
         go_wp2_with (at_builtin; go_must (refine wpList_appH K6 2 rfl Tryz.elExG #[.int .i64 y.kind, .int .i64 y.op, .bool y.nt, .int .i64 y.v.k, .int .i64 y.v.i, .string y.v.s, .string y.tab, .string y.nm, .slice y.A y.n y.c, .slice y.B y.m y.d] rfl (.tmp 83) (.tmp 90) rfl rfl _ (by first | rfl | simp) rfl rfl (by intro u hu; simp at hu; rcases hu with rfl | rfl | rfl | rfl | rfl | rfl | rfl | rfl | rfl | rfl <;> rfl) (by omega) (by omega) ?_); intro gA capA wA hcA hmA KA; rw [show exCells outs ++ (#[.int .i64 y.kind, .int .i64 y.op, .bool y.nt, .int .i64 y.v.k, .int .i64 y.v.i, .string y.v.s, .string y.tab, .string y.nm, .slice y.A y.n y.c, .slice y.B y.m y.d] : Array Value).toList = exCells (outs ++ [y]) by simp [exCells, Ex.cells]] at KA; simp only [zl] at KA; have FA := KA.facts; simp only [factsL, cellsF, Nat.reduceAdd, zf, zl] at FA)
         clear F6
         have KN := (KA.add (S := fun w => ∀ x ∈ outs ++ [y], ExIn (n + 3) x w) (((KA.ro 3 rfl).and (KA.ro 0 rfl)).imp fun w2 h2 x hx => by
          rcases List.mem_append.1 hx with hx | hx
          ·exact h2.1 x hx
          ·simp only [List.mem_cons, List.not_mem_nil, or_false] at hx
           subst hx
           exact h2.2.le (by omega)))
         go_roundw
         case rel => exact ⟨j + 1, capA, _, outs ++ [y], by omega, by first | rfl | trivial, by go_num, gd_snoc hgd (HYO.out.le (by omega)), KN.pick [3, 0, 5, 6, 7, 8, 9, 10, 11, 12, 13, 14, 15, 16] (by decide) rfl⟩
         case measure => simp [intOf]; omega
        ·go_wp2_with fail
         refine (typed_any T yty _ (K4.tp_ 14 rfl) (K4.ro 13 rfl).now hT).mono ?_
         rintro e w8 ⟨vk, vi, vs, rfl, hv, hvs, hvi, t8, -, g8⟩
         have K5 := Hold.callT K4 14 rfl g8 t8
         have HVK := hid (kind_i64 hv)
         clear K4 F4 g8 t8
         go_wp2_with fail
         refine (lit_any _ ⟨vk, vi, vs⟩).mono ?_
         rintro e w9 ⟨rfl, b9⟩
         have K6 := (K5.call b9).add (S := ExIn 1 (litE ⟨vk, vi, vs⟩)) (fun w2 _ _ => lit_in _ _)
         have HYO := hid (lit_ok ⟨vk, vi, vs⟩ HVK.out hvi)
         clear K5 b9
         generalize litE ⟨vk, vi, vs⟩ = y at *
         rw [show y.val = .agg #[.int .i64 y.kind, .int .i64 y.op, .bool y.nt, .int .i64 y.v.k, .int .i64 y.v.i, .string y.v.s, .string y.tab, .string y.nm, .slice y.A y.n y.c, .slice y.B y.m y.d] from rfl]
         have F6 := K6.facts
         simp only [factsL, cellsF, Nat.reduceAdd, zf, zl] at F6
         go_upto_region 18 with (at_builtin; go_must (refine wpList_appH K6 2 rfl Tryz.elExG #[.int .i64 y.kind, .int .i64 y.op, .bool y.nt, .int .i64 y.v.k, .int .i64 y.v.i, .string y.v.s, .string y.tab, .string y.nm, .slice y.A y.n y.c, .slice y.B y.m y.d] rfl (.tmp 64) (.tmp 70) rfl rfl _ (by first | rfl | simp) rfl rfl (by intro u hu; simp at hu; rcases hu with rfl | rfl | rfl | rfl | rfl | rfl | rfl | rfl | rfl | rfl <;> rfl) (by omega) (by omega) ?_); intro gA capA wA hcA hmA KA; rw [show exCells outs ++ (#[.int .i64 y.kind, .int .i64 y.op, .bool y.nt, .int .i64 y.v.k, .int .i64 y.v.i, .string y.v.s, .string y.tab, .string y.nm, .slice y.A y.n y.c, .slice y.B y.m y.d] : Array Value).toList = exCells (outs ++ [y]) by simp [exCells, Ex.cells]] at KA; simp only [zl] at KA; have FA := KA.facts; simp only [factsL, cellsF, Nat.reduceAdd, zf, zl] at FA)
         clear F6
         have KN := (KA.add (S := fun w => ∀ x ∈ outs ++ [y], ExIn (n + 3) x w) (((KA.ro 3 rfl).and (KA.ro 0 rfl)).imp fun w2 h2 x hx => by
          rcases List.mem_append.1 hx with hx | hx
          ·exact h2.1 x hx
          ·simp only [List.mem_cons, List.not_mem_nil, or_false] at hx
           subst hx
           exact h2.2.le (by omega)))
         by_cases hty : yty = 1
         ·subst hty
          go_wp2_with fail
          refine (small_any T _ (KA.tp_ 15 rfl)).mono ?_
          rintro e wS ⟨zz, rfl, zz0, zz1, tS, gS⟩
          have KB := Hold.callT KA 15 rfl gS tS
          clear KA FA gS tS KN
          go_wp2_with fail
          refine (wnum_any _ _ KB.mutLt zz (by omega)).mono ?_
          rintro e wN ⟨z, rfl, hz, rz, bN⟩
          have HZO := hid (num_ok hz (by omega) (by omega))
          have KC := (KB.call bN).add rz
          clear KB bN rz hz
          rw [show z.val = .agg #[.int .i64 z.kind, .int .i64 z.op, .bool z.nt, .int .i64 z.v.k, .int .i64 z.v.i, .string z.v.s, .string z.tab, .string z.nm, .slice z.A z.n z.c, .slice z.B z.m z.d] from rfl]
          have hol : outs.length = j := by
           have h := (KC.get 3 rfl).1
           rw [exCells_len] at h
           simp at h
           omega
          have HXK := hid (show (outs ++ [y])[j]? = some y by rw [List.getElem?_append_right (by omega), hol]; simp)
          have hwj : IntKind.i64.wrap (((j + 1 : Nat) : Int) - 1) = j := by rw [show ((j + 1 : Nat) : Int) - 1 = j by omega]; exact IntWalk.i64_in _ (by omega)
          have hwj2 : IntKind.i64.wrap ((j : Int) + 1 - 1) = j := by rw [show (j : Int) + 1 - 1 = j by omega]; exact IntWalk.i64_in _ (by omega)
          have ho := KC.get 3 rfl
          have q0 : _ = some (Value.int .i64 y.kind) := (ho.cellAt (j * 10) (by omega)).trans (flat_get Ex.cells 10 (fun _ => rfl) (outs ++ [y]) j 0 y (by omega) HXK.out)
          have q1 : _ = some (Value.int .i64 y.op) := (ho.cellAt (j * 10 + 1) (by omega)).trans (flat_get Ex.cells 10 (fun _ => rfl) (outs ++ [y]) j 1 y (by omega) HXK.out)
          have q2 : _ = some (Value.bool y.nt) := (ho.cellAt (j * 10 + 2) (by omega)).trans (flat_get Ex.cells 10 (fun _ => rfl) (outs ++ [y]) j 2 y (by omega) HXK.out)
          have q3 : _ = some (Value.int .i64 y.v.k) := (ho.cellAt (j * 10 + 3) (by omega)).trans (flat_get Ex.cells 10 (fun _ => rfl) (outs ++ [y]) j 3 y (by omega) HXK.out)
          have q4 : _ = some (Value.int .i64 y.v.i) := (ho.cellAt (j * 10 + 4) (by omega)).trans (flat_get Ex.cells 10 (fun _ => rfl) (outs ++ [y]) j 4 y (by omega) HXK.out)
          have q5 : _ = some (Value.string y.v.s) := (ho.cellAt (j * 10 + 5) (by omega)).trans (flat_get Ex.cells 10 (fun _ => rfl) (outs ++ [y]) j 5 y (by omega) HXK.out)
          have q6 : _ = some (Value.string y.tab) := (ho.cellAt (j * 10 + 6) (by omega)).trans (flat_get Ex.cells 10 (fun _ => rfl) (outs ++ [y]) j 6 y (by omega) HXK.out)
          have q7 : _ = some (Value.string y.nm) := (ho.cellAt (j * 10 + 7) (by omega)).trans (flat_get Ex.cells 10 (fun _ => rfl) (outs ++ [y]) j 7 y (by omega) HXK.out)
          have q8 : _ = some (Value.slice y.A y.n y.c) := (ho.cellAt (j * 10 + 8) (by omega)).trans (flat_get Ex.cells 10 (fun _ => rfl) (outs ++ [y]) j 8 y (by omega) HXK.out)
          have q9 : _ = some (Value.slice y.B y.m y.d) := (ho.cellAt (j * 10 + 9) (by omega)).trans (flat_get Ex.cells 10 (fun _ => rfl) (outs ++ [y]) j 9 y (by omega) HXK.out)
          have z0 := ho.frozenAt (j * 10)
          have z1 := ho.frozenAt (j * 10 + 1)
          have z2 := ho.frozenAt (j * 10 + 2)
          have z3 := ho.frozenAt (j * 10 + 3)
          have z4 := ho.frozenAt (j * 10 + 4)
          have z5 := ho.frozenAt (j * 10 + 5)
          have z6 := ho.frozenAt (j * 10 + 6)
          have z7 := ho.frozenAt (j * 10 + 7)
          have z8 := ho.frozenAt (j * 10 + 8)
          have z9 := ho.frozenAt (j * 10 + 9)
          have gl := (ho.lt gA rfl).2
          clear ho
          have KP0 := KC.put_ 3 rfl (j * 10) (.int .i64 z.kind)
          simp only [zl] at KP0
          have KP1 := KP0.put_ 3 rfl (j * 10 + 1) (.int .i64 z.op)
          simp only [zl] at KP1
          have KP2 := KP1.put_ 3 rfl (j * 10 + 2) (.bool z.nt)
          simp only [zl] at KP2
          have KP3 := KP2.put_ 3 rfl (j * 10 + 3) (.int .i64 z.v.k)
          simp only [zl] at KP3
          have KP4 := KP3.put_ 3 rfl (j * 10 + 4) (.int .i64 z.v.i)
          simp only [zl] at KP4
          have KP5 := KP4.put_ 3 rfl (j * 10 + 5) (.string z.v.s)
          simp only [zl] at KP5
          have KP6 := KP5.put_ 3 rfl (j * 10 + 6) (.string z.tab)
          simp only [zl] at KP6
          have KP7 := KP6.put_ 3 rfl (j * 10 + 7) (.string z.nm)
          simp only [zl] at KP7
          have KP8 := KP7.put_ 3 rfl (j * 10 + 8) (.slice z.A z.n z.c)
          simp only [zl] at KP8
          have KP9 := KP8.put_ 3 rfl (j * 10 + 9) (.slice z.B z.m z.d)
          simp only [zl] at KP9
          have e1 : _ = some (Value.int .i64 y.op) := ((KP0.get 3 rfl).cellAt (j * 10 + 1) (by omega)).trans ((List.getElem?_set_ne (by omega)).trans (flat_get Ex.cells 10 (fun _ => rfl) (outs ++ [y]) j 1 y (by omega) HXK.out))
          have y1_ := (KP0.get 3 rfl).frozenAt (j * 10 + 1)
          have e2 : _ = some (Value.bool y.nt) := ((KP1.get 3 rfl).cellAt (j * 10 + 2) (by omega)).trans ((List.getElem?_set_ne (by omega)).trans ((List.getElem?_set_ne (by omega)).trans (flat_get Ex.cells 10 (fun _ => rfl) (outs ++ [y]) j 2 y (by omega) HXK.out)))
          have y2_ := (KP1.get 3 rfl).frozenAt (j * 10 + 2)
          have e3 : _ = some (Value.int .i64 y.v.k) := ((KP2.get 3 rfl).cellAt (j * 10 + 3) (by omega)).trans ((List.getElem?_set_ne (by omega)).trans ((List.getElem?_set_ne (by omega)).trans ((List.getElem?_set_ne (by omega)).trans (flat_get Ex.cells 10 (fun _ => rfl) (outs ++ [y]) j 3 y (by omega) HXK.out))))
          have y3_ := (KP2.get 3 rfl).frozenAt (j * 10 + 3)
          have e4 : _ = some (Value.int .i64 y.v.i) := ((KP3.get 3 rfl).cellAt (j * 10 + 4) (by omega)).trans ((List.getElem?_set_ne (by omega)).trans ((List.getElem?_set_ne (by omega)).trans ((List.getElem?_set_ne (by omega)).trans ((List.getElem?_set_ne (by omega)).trans (flat_get Ex.cells 10 (fun _ => rfl) (outs ++ [y]) j 4 y (by omega) HXK.out)))))
          have y4_ := (KP3.get 3 rfl).frozenAt (j * 10 + 4)
          have e5 : _ = some (Value.string y.v.s) := ((KP4.get 3 rfl).cellAt (j * 10 + 5) (by omega)).trans ((List.getElem?_set_ne (by omega)).trans ((List.getElem?_set_ne (by omega)).trans ((List.getElem?_set_ne (by omega)).trans ((List.getElem?_set_ne (by omega)).trans ((List.getElem?_set_ne (by omega)).trans (flat_get Ex.cells 10 (fun _ => rfl) (outs ++ [y]) j 5 y (by omega) HXK.out))))))
          have y5_ := (KP4.get 3 rfl).frozenAt (j * 10 + 5)
          have e6 : _ = some (Value.string y.tab) := ((KP5.get 3 rfl).cellAt (j * 10 + 6) (by omega)).trans ((List.getElem?_set_ne (by omega)).trans ((List.getElem?_set_ne (by omega)).trans ((List.getElem?_set_ne (by omega)).trans ((List.getElem?_set_ne (by omega)).trans ((List.getElem?_set_ne (by omega)).trans ((List.getElem?_set_ne (by omega)).trans (flat_get Ex.cells 10 (fun _ => rfl) (outs ++ [y]) j 6 y (by omega) HXK.out)))))))
          have y6_ := (KP5.get 3 rfl).frozenAt (j * 10 + 6)
          have e7 : _ = some (Value.string y.nm) := ((KP6.get 3 rfl).cellAt (j * 10 + 7) (by omega)).trans ((List.getElem?_set_ne (by omega)).trans ((List.getElem?_set_ne (by omega)).trans ((List.getElem?_set_ne (by omega)).trans ((List.getElem?_set_ne (by omega)).trans ((List.getElem?_set_ne (by omega)).trans ((List.getElem?_set_ne (by omega)).trans ((List.getElem?_set_ne (by omega)).trans (flat_get Ex.cells 10 (fun _ => rfl) (outs ++ [y]) j 7 y (by omega) HXK.out))))))))
          have y7_ := (KP6.get 3 rfl).frozenAt (j * 10 + 7)
          have e8 : _ = some (Value.slice y.A y.n y.c) := ((KP7.get 3 rfl).cellAt (j * 10 + 8) (by omega)).trans ((List.getElem?_set_ne (by omega)).trans ((List.getElem?_set_ne (by omega)).trans ((List.getElem?_set_ne (by omega)).trans ((List.getElem?_set_ne (by omega)).trans ((List.getElem?_set_ne (by omega)).trans ((List.getElem?_set_ne (by omega)).trans ((List.getElem?_set_ne (by omega)).trans ((List.getElem?_set_ne (by omega)).trans (flat_get Ex.cells 10 (fun _ => rfl) (outs ++ [y]) j 8 y (by omega) HXK.out)))))))))
          have y8_ := (KP7.get 3 rfl).frozenAt (j * 10 + 8)
          have e9 : _ = some (Value.slice y.B y.m y.d) := ((KP8.get 3 rfl).cellAt (j * 10 + 9) (by omega)).trans ((List.getElem?_set_ne (by omega)).trans ((List.getElem?_set_ne (by omega)).trans ((List.getElem?_set_ne (by omega)).trans ((List.getElem?_set_ne (by omega)).trans ((List.getElem?_set_ne (by omega)).trans ((List.getElem?_set_ne (by omega)).trans ((List.getElem?_set_ne (by omega)).trans ((List.getElem?_set_ne (by omega)).trans ((List.getElem?_set_ne (by omega)).trans (flat_get Ex.cells 10 (fun _ => rfl) (outs ++ [y]) j 9 y (by omega) HXK.out))))))))))
          have y9_ := (KP8.get 3 rfl).frozenAt (j * 10 + 9)
          clear KP0 KP1 KP2 KP3 KP4 KP5 KP6 KP7 KP8
          rw [exCells_set z (show j < (outs ++ [y]).length by simp; omega), show (outs ++ [y]).set j z = outs ++ [z] by rw [List.set_append_right _ _ (by omega), hol]; simp] at KP9
          have KZ2 := KP9.add (S := fun w => ∀ x ∈ outs ++ [z], ExIn (n + 3) x w) (((KP9.ro 4 rfl).and (KP9.ro 0 rfl)).imp fun w2 h2 x hx => by
           rcases List.mem_append.1 hx with hx | hx
           ·exact h2.1 x hx
           ·simp only [List.mem_cons, List.not_mem_nil, or_false] at hx
            subst hx
            exact h2.2.le (by omega))
          clear KP9
          go_wp2_with fail
          go_roundw
          case rel => exact ⟨j + 1, capA, _, outs ++ [z], by omega, by first | rfl | trivial, by go_num, gd_snoc hgd (HZO.out.le (by omega)), KZ2.pick [4, 0, 6, 7, 8, 9, 10, 11, 12, 13, 14, 15, 16, 17] (by decide) rfl⟩
          case measure => simp [intOf]; omega
         ·have htb : (yty == 1) = false := by simpa using hty
          go_wp2_with fail
          go_roundw
          case rel => exact ⟨j + 1, capA, _, outs ++ [y], by omega, by first | rfl | trivial, by go_num, gd_snoc hgd (HYO.out.le (by omega)), KN.pick [3, 0, 5, 6, 7, 8, 9, 10, 11, 12, 13, 14, 15, 16] (by decide) rfl⟩
          case measure => simp [intOf]; omega
      ·obtain rfl : cn = j := by omega
       have hcap := own_caps (H.get 0 rfl)
       have hlen := (H.get 0 rfl).1
       rw [exCells_len] at hlen
       have KS := H.sealRow 0 rfl
       simp only [List.set_cons_zero] at KS
       have F := KS.facts
       simp only [factsL, cellsF, Nat.reduceAdd, zf, zl] at F
       clear H
       go_wp2_with (at_builtin; go_must (refine wpList_appH KS 2 rfl Tryz.elRowG #[.slice O2 cn cap2] rfl (.tmp 94) (.tmp 96) rfl rfl _ (by first | rfl | simp) rfl rfl (by intro u hu; simp at hu; rcases hu with rfl; rfl) (by omega) (by omega) ?_); intro gA capA wA hcA hmA KA; rw [show rwE rs ++ (#[.slice O2 cn cap2] : Array Value).toList = rwE (rs ++ [⟨O2, cn, cap2, outs⟩]) by simp [rwE, SlP.v]] at KA; simp only [zl] at KA; have FA := KA.facts; simp only [factsL, cellsF, Nat.reduceAdd, zf, zl] at FA)
       have KB := KA.store 4 rfl 2 (.slice (some ⟨gA, 0, none⟩) (k + 1) capA)
       simp only [zl] at KB
       have KC := KB.add (S := fun w => ∀ r ∈ rs ++ [(⟨O2, cn, cap2, outs⟩ : SlP Ex)], ExlIn (n + 3) r w) (((KB.ro 3 rfl).and ((KB.ro 0 rfl).and (KB.ro 1 rfl))).imp fun w2 h2 r hr => by
        rcases List.mem_append.1 hr with hr | hr
        ·exact h2.1 r hr
        ·simp only [List.mem_cons, List.not_mem_nil, or_false] at hr
         subst hr
         exact ⟨h2.2.1, h2.2.2⟩)
       go_roundw
       case rel =>
        refine ⟨i - 1, k + 1, capA, _, rs ++ [⟨O2, cn, cap2, outs⟩], by first | rfl | (rw [hwi]; go_num), by omega, fun r hr => ?_, KC.pick [3, 0, 5, 6, 7, 8, 9, 10, 11, 12, 13, 14] (by decide) rfl⟩
        rcases List.mem_append.1 hr with hr | hr
        ·exact hrs r hr
        ·simp only [List.mem_cons, List.not_mem_nil, or_false] at hr
         subst hr
         exact ⟨⟨hcap.1, hcap.2.1⟩, by show outs.length ≤ 8; omega, hgd⟩
       case measure => simp [intOf]; omega
    ·obtain rfl : i = 0 := by omega
     have F5 := H.facts
     simp only [factsL, cellsF, Nat.reduceAdd, zf, zl] at F5
     have K7 := (((((((H.store 7 rfl 0 (.int .i64 1)).store 7 rfl 1 (.string snm)).store 7 rfl 2 (.slice O k cap)).store 7 rfl 3 (.slice none 0 0)).store 7 rfl 4 (.slice none 0 0)).store 7 rfl 5 (.slice none 0 0)).store 7 rfl 6 (.string ⟨#[]⟩))
     simp only [zl] at K7
     have F7 := K7.facts
     simp only [factsL, cellsF, Nat.reduceAdd, zf, zl] at F7
     have hcap := own_caps (H.get 0 rfl)
     have hlen := (H.get 0 rfl).1
     rw [show (rwE rs).length = rs.length * 1 from flat_len (fun r : SlP Ex => [r.v]) 1 (fun _ => rfl) rs] at hlen
     have KZ := K7.sealRow 0 rfl
     simp only [zl] at KZ
     have hR : Ro _ _ (AcIn (n + 3) ⟨1, snm, ⟨O, k, cap, rs⟩, SlP.nil, SlP.nil, SlP.nil, ⟨#[]⟩⟩) := ((KZ.ro 0 rfl).and (KZ.ro 1 rfl)).imp fun w2 h2 => ⟨⟨h2.1, h2.2⟩, SlP.nil_in _ _ _ w2, SlP.nil_in _ _ _ w2, SlP.nil_in _ _ _ w2⟩
     have HR := hid (hR.less zm)
     have HT := hid (And.intro (KZ.tp_ 11 rfl) KZ.grow)
     have HGD := hid (show AcGd (n + 3) ⟨1, snm, ⟨O, k, cap, rs⟩, SlP.nil, SlP.nil, SlP.nil, ⟨#[]⟩⟩ from ⟨⟨by simp, by simp⟩, ⟨⟨hcap.1, hcap.2.1⟩, by show rs.length ≤ 8; omega, hrs⟩, LsOk.nil _ _, LsOk.nil _ _, LsOk.nil _ _⟩)
     clear H K7 KZ hR
     go_wp2_with fail
     refine bodyPost_ret (v := .agg #[.int .i64 1, .string snm, .slice O k cap, .slice none 0 0, .slice none 0 0, .slice none 0 0, .string ⟨#[]⟩]) ?_ rfl ?_
     ·clear HT HR HGD
      simp [results, Tryz.results159, go_sem, F7]
     ·exact ⟨⟨1, snm, ⟨O, k, cap, rs⟩, SlP.nil, SlP.nil, SlP.nil, ⟨#[]⟩⟩, rfl, HGD.out, HR.out, HT.out.1, HT.out.2⟩
  ·go_wp2_with fail
   refine (copies_anyG HE (Mut M _) T _ K1.mutLt (K1.tp_ 9 rfl) (K1.get 9 rfl).2 ⟨⟨fA, fn, fc, fl⟩, ⟨sA, sn, sc, sl⟩⟩ ⟨snm, ⟨some ⟨bC, oC, none⟩, cn, cc, cl⟩⟩ depth ((K1.ro 7 rfl).less (mut_tpG (i := 9) rfl)) (((K1.ro 4 rfl).imp fun w2 h2 => ⟨h2, fun _ _ => trivial⟩).less (mut_tpG (i := 9) rfl)) hcl ((K1.ro 8 rfl).less (mut_tpG (i := 9) rfl)) hT HB0.out hd hd2 HS.out).mono ?_
   rintro e wq ⟨q, rfl, hq, rq, t8, g8⟩
   have K2 := ((Hold.callT K1 9 rfl g8 t8).add rq).alloc_cst #[.bool q.star, .slice q.A q.n q.c, .string q.src, .slice q.B q.m q.d] 273
   clear K1 F1 g8 t8 rq
   have F2 := K2.facts
   simp only [factsL, cellsF, Nat.reduceAdd, zf, zl] at F2
   have K3 := K2.store 2 rfl 3 (.slice (some ⟨wq.heap.size, 0, none⟩) 1 1)
   simp only [zl] at K3
   clear K2
   have F5 := K3.facts
   simp only [factsL, cellsF, Nat.reduceAdd, zf, zl] at F5
   have K7 := (((((((K3.store 7 rfl 0 (.int .i64 1)).store 7 rfl 1 (.string snm)).store 7 rfl 2 (.slice none 0 0)).store 7 rfl 3 (.slice (some ⟨wq.heap.size, 0, none⟩) 1 1)).store 7 rfl 4 (.slice none 0 0)).store 7 rfl 5 (.slice none 0 0)).store 7 rfl 6 (.string ⟨#[]⟩))
   simp only [zl] at K7
   have F7 := K7.facts
   simp only [factsL, cellsF, Nat.reduceAdd, zf, zl] at F7
   have KZ := K7
   have hR : Ro _ _ (AcIn (n + 3) ⟨1, snm, SlP.nil, ⟨some ⟨wq.heap.size, 0, none⟩, 1, 1, [q]⟩, SlP.nil, SlP.nil, ⟨#[]⟩⟩) := ((ro_block (KZ.get 0 rfl) rfl : Ro _ _ (SlR 4 (some ⟨wq.heap.size, 0, none⟩) 1 [.bool q.star, .slice q.A q.n q.c, .string q.src, .slice q.B q.m q.d])).and (KZ.ro 1 rfl)).imp fun w2 h2 => ⟨SlP.nil_in _ _ _ w2, ⟨h2.1, fun z hz => by
    simp only [List.mem_cons, List.not_mem_nil, or_false] at hz
    subst hz
    exact h2.2⟩, SlP.nil_in _ _ _ w2, SlP.nil_in _ _ _ w2⟩
   have HR := hid (hR.less zm)
   have HT := hid (And.intro (KZ.tp_ 11 rfl) KZ.grow)
   have HGD := hid (show AcGd (n + 3) ⟨1, snm, SlP.nil, ⟨some ⟨wq.heap.size, 0, none⟩, 1, 1, [q]⟩, SlP.nil, SlP.nil, ⟨#[]⟩⟩ from ⟨⟨by simp, by simp⟩, LsOk.nil _ _, ⟨⟨Nat.le_refl _, by simp⟩, by simp, fun z hz => by
    simp only [List.mem_cons, List.not_mem_nil, or_false] at hz
    subst hz
    exact hq⟩, LsOk.nil _ _, LsOk.nil _ _⟩)
   clear K3 K7 KZ hR
   go_wp2_with fail
   refine bodyPost_ret (v := .agg #[.int .i64 1, .string snm, .slice none 0 0, .slice (some ⟨wq.heap.size, 0, none⟩) 1 1, .slice none 0 0, .slice none 0 0, .string ⟨#[]⟩]) ?_ rfl ?_
   ·clear HT HR HGD
    simp [results, Tryz.results159, go_sem, F7]
   ·exact ⟨⟨1, snm, SlP.nil, ⟨some ⟨wq.heap.size, 0, none⟩, 1, 1, [q]⟩, SlP.nil, SlP.nil, ⟨#[]⟩⟩, rfl, HGD.out, HR.out, HT.out.1, HT.out.2⟩
 ·go_wp2_with fail
  refine (next_any T cn _ (KA.tp_ 9 rfl) (by omega) (by omega)).mono ?_
  rintro e w3 ⟨f, rfl, f0, f1, t3, g3⟩
  have KB := ((Hold.callT KA 9 rfl g3 t3).nil 128 11).add (S := fun w => ∀ s ∈ ([] : List Se), ExIn (n + 3) s.e w) (fun w2 _ _ s hs => (nomatch hs))
  have KC : Hold M (some T) w _ [.own 128 11 (.slice none 0 0) 0 (seCells ([] : List Se)), .ro (fun w => ∀ s ∈ ([] : List Se), ExIn (n + 3) s.e w), .blk ga 97 #[.int .i64 2, .string snm, .slice none 0 0, .slice none 0 0, .slice none 0 0, .slice none 0 0, .string ⟨#[]⟩], .blk gi 177 #[.slice A9 (fn + 1) c9, .slice sA sn sc], .ro (PlIn ⟨⟨A9, fn + 1, c9, fl2⟩, ⟨sA, sn, sc, sl⟩⟩), .blk gs 49 #[.string snm, .slice (some ⟨bC, oC, none⟩) cn cc], .ro (SlR 4 (some ⟨bC, oC, none⟩) cn (colCells cl)), .blk gr 97 #[.int .i64 0, .string ⟨#[]⟩, .slice none 0 0, .slice none 0 0, .slice none 0 0, .slice none 0 0, .string ⟨#[]⟩], .cst gp 177 #[.slice fA fn fc, .slice sA sn sc], .ro (PlIn ⟨⟨fA, fn, fc, fl⟩, ⟨sA, sn, sc, sl⟩⟩), .ro Wds, .tp T] := KB.pick [1, 0, 2, 3, 4, 5, 6, 7, 8, 9, 10, 11] (by decide) rfl
  clear KA KB F t3 g3
  go_wp2_with fail
  go_loopw [15] (fun iv wr => ∃ (i cap : Nat) (O : Option Addr) (outs : List Se), i ≤ 2 ∧ iv = .int .i64 i ∧ (∀ s ∈ outs, ExGd (n + 3) s.e) ∧ Hold M (some T) w wr [.own 128 11 (.slice O i cap) i (seCells outs), .ro (fun w => ∀ s ∈ outs, ExIn (n + 3) s.e w), .blk ga 97 #[.int .i64 2, .string snm, .slice none 0 0, .slice none 0 0, .slice O i cap, .slice none 0 0, .string ⟨#[]⟩], .blk gi 177 #[.slice A9 (fn + 1) c9, .slice sA sn sc], .ro (PlIn ⟨⟨A9, fn + 1, c9, fl2⟩, ⟨sA, sn, sc, sl⟩⟩), .blk gs 49 #[.string snm, .slice (some ⟨bC, oC, none⟩) cn cc], .ro (SlR 4 (some ⟨bC, oC, none⟩) cn (colCells cl)), .blk gr 97 #[.int .i64 0, .string ⟨#[]⟩, .slice none 0 0, .slice none 0 0, .slice none 0 0, .slice none 0 0, .string ⟨#[]⟩], .cst gp 177 #[.slice fA fn fc, .slice sA sn sc], .ro (PlIn ⟨⟨fA, fn, fc, fl⟩, ⟨sA, sn, sc, sl⟩⟩), .ro Wds, .tp T]) (fun iv _ => 2 - (intOf iv).toNat)
  case atStart => exact ⟨0, 0, none, [], by omega, rfl, fun s hs => (nomatch hs), KC⟩
  case round =>
   clear KC
   obtain ⟨i, cap, O, outs, hi, rfl, hgd, H⟩ := hrel
   have F := H.facts
   simp only [factsL, cellsF, Nat.reduceAdd, zf, zl] at F
   go_wp2_with fail
   refine (next_any T 2 _ (H.tp_ 11 rfl) (by omega) (by omega)).mono ?_
   rintro e w4 ⟨r2, rfl, q0, q1, t4, g4⟩
   have K1 := Hold.callT H 11 rfl g4 t4
   have hw2 : IntKind.i64.wrap (1 + r2) = 1 + r2 := IntWalk.i64_in _ (by omega)
   clear H g4 t4 F
   have F := K1.facts
   simp only [factsL, cellsF, Nat.reduceAdd, zf, zl] at F
   by_cases hA : (i : Int) < 1 + r2
   ·by_cases hB : (i : Int) < cn
    ·have hi2 : i < 2 := by omega
     have hicn : i < cn := by omega
     clear q0 q1
     go_upto_region 29 with fail
     obtain ⟨KM, hKM, K6⟩ := K1.name
     obtain ⟨Ha, hHa⟩ : ∃ m, m = w4.heap.size := ⟨_, rfl⟩
     have H1 : ∀ wv : World, Hold M (some T) w wv KM → Blk wv gs 49 #[.string snm, .slice (some ⟨bC, oC, none⟩) cn cc] := fun wv h => by rw [hKM] at h; exact h.blk_ 5 rfl
     have H2 : ∀ wv : World, Hold M (some T) w wv KM → SlR 4 (some ⟨bC, oC, none⟩) cn (colCells cl) wv := fun wv h => by rw [hKM] at h; exact (h.ro 6 rfl).now
     have HH1 := hid H1
     have HH2 := hid H2
     have HKM := hid hKM
     have HHa := hid hHa
     clear hKM H1 H2 K1 hHa
     obtain ⟨f', rfl⟩ := Int.eq_ofNat_of_zero_le f0
     have hwq : IntKind.i64.wrap ((f' : Int) + (i : Int)) = (f' : Int) + (i : Int) := IntWalk.i64_in _ (by omega)
     have hql : (f' + i) % cn < cn := Nat.mod_lt _ (by omega)
     obtain ⟨q, hq⟩ : ∃ q, q = (f' + i) % cn := ⟨_, rfl⟩
     obtain ⟨⟨ynm, yty, ynn, ykey⟩, hy⟩ := get_col HLN.out (show q < cn by omega)
     have HY := hid hy
     clear hy
     have hcn0 : ¬ cn = 0 := by omega
     have hwt : ((f' : Int) + (i : Int)).tmod (cn : Int) = (q : Int) := by rw [hq, ← Int.natCast_add]; exact (Int.ofNat_tmod _ _).symm
     have hqcn : q < cn := by omega
     clear hql hq
     go_wp2_with fail
     clear F hA hB
     refine wp_region_any (by kernel_rfl) ?_
     refine wpAny_hold 12 175 (KM) (spL [(16, NewSlot (Mut M KM) Ha 158 #[.string ⟨#[]⟩, .int .i64 0, .bool false, .bool false])]) (by kernel_rfl) (by kernel_rfl) (by kernel_rfl) rfl ?_ (K6.drew) ?_
     ·exact stays_cons newSlot_mono (stays_nil _)
     simp only [zd, Act.put, List.getElem_toArray, List.getElem_cons_zero, List.getElem_cons_succ, zl]
     refine dw_val rfl rfl rfl ?_; apply Exists.intro; refine ⟨fun wv HC => ?_, ?_⟩
     · go_simp <;> rfl
     simp only [Act.put, zl]
     refine dw_val rfl rfl rfl ?_; apply Exists.intro; refine ⟨fun wv HC => ?_, ?_⟩
     ·obtain q1 := (HH1.out _ HC).cell 1; go_simp <;> rfl
     simp only [Act.put, zl]
     refine dw_val rfl rfl rfl ?_; apply Exists.intro; refine ⟨fun wv HC => ?_, ?_⟩
     · go_simp <;> rfl
     simp only [Act.put, zl]
     refine dw_val rfl rfl rfl ?_; apply Exists.intro; refine ⟨fun wv HC => ?_, ?_⟩
     · go_simp <;> rfl
     simp only [Act.put, zl]
     refine dw_val rfl rfl rfl ?_; apply Exists.intro; refine ⟨fun wv HC => ?_, ?_⟩
     · go_simp <;> rfl
     simp only [Act.put, zl]
     refine dw_val rfl rfl rfl ?_; apply Exists.intro; refine ⟨fun wv HC => ?_, ?_⟩
     · go_simp <;> rfl
     simp only [Act.put, zl]
     refine dw_val rfl rfl rfl ?_; apply Exists.intro; refine ⟨fun wv HC => ?_, ?_⟩
     ·obtain q1 := (HH1.out _ HC).cell 1; go_simp <;> rfl
     simp only [Act.put, zl]
     refine dw_val rfl rfl rfl ?_; apply Exists.intro; refine ⟨fun wv HC => ?_, ?_⟩
     · go_simp <;> rfl
     simp only [Act.put, zl]
     refine dw_val rfl rfl rfl ?_; apply Exists.intro; refine ⟨fun wv HC => ?_, ?_⟩
     · go_simp <;> rfl
     simp only [Act.put, zl]
     refine dw_val rfl rfl rfl ?_; apply Exists.intro; refine ⟨fun wv HC => ?_, ?_⟩
     · go_simp <;> rfl
     simp only [Act.put, zl]
     refine dw_val rfl rfl rfl ?_; apply Exists.intro; refine ⟨fun wv HC => ?_, ?_⟩
     ·obtain ⟨b2', o2', hcA, hb2, x0, x1, x2, x3⟩ := (RdC.of_sl (HH2.out _ HC)).at_ HY.out; obtain ⟨rfl, rfl⟩ := addr_eq hcA; clear hcA; go_simp <;> rfl
     simp only [Act.put, zl]
     refine dw_new #[.string ⟨#[]⟩, .int .i64 0, .bool false, .bool false] 158 16 (NewSlot (Mut M KM) Ha 158 #[.string ⟨#[]⟩, .int .i64 0, .bool false, .bool false]) (fun g => .pointer (some ⟨g, 0, none⟩)) rfl rfl rfl rfl (fun wv => ?_) (fun wv HC hrm hD hro => ?_) ?_
     ·go_simp <;> rfl
     ·exact ⟨_, rfl, by have := hrm.1; rw [HHa.out]; exact this, hro _ HC.mutLt⟩
     rintro gk wg HCg hsl
     clear HCg hsl
     simp only [Act.put, zl]
     refine rel_nil ?_
     rintro wx2 HX
     rintro _hrm HGW
     have hu : NewSlot (Mut M KM) Ha 158 #[.string ⟨#[]⟩, .int .i64 0, .bool false, .bool false] (.pointer (some ⟨gk, 0, none⟩)) wx2 := (GW_on (d := 16) rfl).1 (HGW 11 _ rfl (by omega))
     clear HGW
     obtain ⟨gk', e', hg1, hg2⟩ := hu
     obtain rfl : gk = gk' := by injection e' with e'; injection e' with e'; injection e'
     clear e'
     rw [HHa.out] at hg1
     have HB := Hold.addFreshBlk K6.drew HX _hrm hg1 hg2.now
     rw [HKM.out] at HB
     clear HX _hrm hg2 hg1 K6 HH1 HH2 HKM HHa
     have FB := HB.facts
     simp only [factsL, cellsF, Nat.reduceAdd, zf, zl] at FB
     have K1 := (((HB.store 0 rfl 0 (.string ynm)).store 0 rfl 1 (.int .i64 yty)).store 0 rfl 2 (.bool ynn)).store 0 rfl 3 (.bool ykey)
     simp only [zl] at K1
     have F1 := K1.facts
     simp only [factsL, cellsF, Nat.reduceAdd, zf, zl] at F1
     clear HB
     go_upto_region 30 with fail
     clear FB
     generalize World.setCell _ _ _ = wb at K1 F1 ⊢
     obtain ⟨KM, hKM, K6⟩ := K1.name
     obtain ⟨Ha, hHa⟩ : ∃ m, m = wb.heap.size := ⟨_, rfl⟩
     have H1 : ∀ wv : World, Hold M (some T) w wv KM → Blk wv gk 158 #[.string ynm, .int .i64 yty, .bool ynn, .bool ykey] := fun wv h => by rw [hKM] at h; exact h.blk_ 0 rfl
     have H2 : ∀ wv : World, Hold M (some T) w wv KM → Blk wv gi 177 #[.slice A9 (fn + 1) c9, .slice sA sn sc] := fun wv h => by rw [hKM] at h; exact h.blk_ 4 rfl
     have H3 : ∀ wv : World, Hold M (some T) w wv KM → Ro wv (Mut M KM) (PlIn ⟨⟨A9, fn + 1, c9, fl2⟩, ⟨sA, sn, sc, sl⟩⟩) ∧ Ro wv (Mut M KM) Wds ∧ Tp wv T ∧ ∀ b, (Mut M KM) b → T ≤ b := fun wv h => by rw [hKM] at h ⊢; exact ⟨h.ro 5 rfl, h.ro 11 rfl, h.tp_ 12 rfl, (h.get 12 rfl).2⟩
     have h4 : KM[12]? = some (.tp T) := by rw [hKM]; rfl
     have HH1 := hid H1
     have HH2 := hid H2
     have HH3 := hid H3
     have HH4 := hid h4
     have HKM := hid hKM
     have HHa := hid hHa
     clear hKM H1 H2 H3 h4 K1 hHa
     go_wp2_with fail
     clear F1
     refine wp_region_any (by kernel_rfl) ?_
     refine wpAny_hold 10 175 (KM) (spL [(139, ExSlot (Mut M KM) (n + 2)), (17, NewSlot (Mut M KM) Ha 128 zeroSe)]) (by kernel_rfl) (by kernel_rfl) (by kernel_rfl) rfl ?_ (K6.drew) ?_
     ·exact stays_cons exSlot_mono (stays_cons newSlot_mono (stays_nil _))
     simp only [zd, Act.put, List.getElem_toArray, List.getElem_cons_zero, List.getElem_cons_succ, zl]
     refine dw_val rfl rfl rfl ?_; apply Exists.intro; refine ⟨fun wv HC => ?_, ?_⟩
     · go_simp <;> rfl
     simp only [Act.put, zl]
     refine dw_val rfl rfl rfl ?_; apply Exists.intro; refine ⟨fun wv HC => ?_, ?_⟩
     ·obtain q0 := (HH1.out _ HC).cell 0; go_simp <;> rfl
     simp only [Act.put, zl]
     refine dw_val rfl rfl rfl ?_; apply Exists.intro; refine ⟨fun wv HC => ?_, ?_⟩
     · go_simp <;> rfl
     simp only [Act.put, zl]
     refine dw_val rfl rfl rfl ?_; apply Exists.intro; refine ⟨fun wv HC => ?_, ?_⟩
     ·obtain q0 := (HH2.out _ HC).cell 0; obtain q1 := (HH2.out _ HC).cell 1; go_simp <;> rfl
     simp only [Act.put, zl]
     refine dw_val rfl rfl rfl ?_; apply Exists.intro; refine ⟨fun wv HC => ?_, ?_⟩
     · go_simp <;> rfl
     simp only [Act.put, zl]
     refine dw_val rfl rfl rfl ?_; apply Exists.intro; refine ⟨fun wv HC => ?_, ?_⟩
     ·obtain q1 := (HH1.out _ HC).cell 1; go_simp <;> rfl
     simp only [Act.put, zl]
     refine dw_val rfl rfl rfl ?_; apply Exists.intro; refine ⟨fun wv HC => ?_, ?_⟩
     · go_simp <;> rfl
     simp only [Act.put, zl]
     refine dw_callR 139 (ExSlot (Mut M KM) (n + 2)) (f := 99) (args := #[.pointer (some ⟨T, 0, none⟩), .agg #[.slice A9 (fn + 1) c9, .slice sA sn sc], .int .i64 yty, .int .i64 depth]) rfl rfl rfl rfl (fun wv => ?_) (fun wv HC hrm hD => ?_) ?_
     ·go_simp <;> rfl
     ·obtain ⟨X0, X1, X2, X3⟩ := HH3.out _ HC
      refine (HE (Mut M KM) T wv HC.mutLt X2 X3 ⟨⟨A9, fn + 1, c9, fl2⟩, ⟨sA, sn, sc, sl⟩⟩ yty depth (X0.less (mut_tpG HH4.out)) (X1.less (mut_tpG HH4.out)) hT HIN.out hd hd2).mono ?_
      rintro e w5 ⟨x, rfl, hx, rx, t5, g5⟩
      exact ⟨_, rfl, ⟨x, rfl, hx, rx⟩, Hold.callT HC 12 HH4.out g5 t5, RM.grown g5 (.inr ⟨_, List.mem_of_getElem? HH4.out, rfl⟩)⟩
     rintro u wx HCx ⟨x, rfl, hx, rx⟩
     clear HCx hx rx
     simp only [Act.put, zl]
     rw [show x.val = .agg #[.int .i64 x.kind, .int .i64 x.op, .bool x.nt, .int .i64 x.v.k, .int .i64 x.v.i, .string x.v.s, .string x.tab, .string x.nm, .slice x.A x.n x.c, .slice x.B x.m x.d] from rfl]
     refine dw_val rfl rfl rfl ?_; apply Exists.intro; refine ⟨fun wv HC => ?_, ?_⟩
     · go_simp <;> rfl
     simp only [Act.put, zl]
     refine dw_new zeroSe 128 17 (NewSlot (Mut M KM) Ha 128 zeroSe) (fun g => .pointer (some ⟨g, 0, none⟩)) rfl rfl rfl rfl (fun wv => ?_) (fun wv HC hrm hD hro => ?_) ?_
     ·go_simp <;> rfl
     ·exact ⟨_, rfl, by have := hrm.1; rw [HHa.out]; exact this, hro _ HC.mutLt⟩
     rintro gx wg HCg hsl
     clear HCg hsl
     simp only [Act.put, zl]
     refine rel_nil ?_
     rintro wx3 HX
     rintro _hrm HGW
     have hu : ExSlot (Mut M KM) (n + 2) x.val wx3 := (GW_on (d := 139) rfl).1 (HGW 7 _ rfl (by omega))
     have hu2 : NewSlot (Mut M KM) Ha 128 zeroSe (.pointer (some ⟨gx, 0, none⟩)) wx3 := (GW_on (d := 17) rfl).1 (HGW 9 _ rfl (by omega))
     clear HGW
     obtain ⟨gx', e', hg1, hg2⟩ := hu2
     obtain rfl : gx = gx' := by injection e' with e'; injection e' with e'; injection e'
     clear e'
     rw [HHa.out] at hg1
     obtain ⟨y, hyv, hyok, hyro⟩ := hu
     have HB := (Hold.addFreshBlk K6.drew HX _hrm hg1 hg2.now).add ((ex_apart hg2.now hyok hyro).less fun b hb => (mut_cons.1 hb).elim (fun hf => Or.inr (by have hf : some gx = some b := hf; injection hf with hf; exact hf.symm)) Or.inl)
     rw [HKM.out] at HB
     have ev : Value.agg #[.string ynm, .int .i64 x.kind, .int .i64 x.op, .bool x.nt, .int .i64 x.v.k, .int .i64 x.v.i, .string x.v.s, .string x.tab, .string x.nm, .slice x.A x.n x.c, .slice x.B x.m x.d] = .agg #[.string ynm, .int .i64 y.kind, .int .i64 y.op, .bool y.nt, .int .i64 y.v.k, .int .i64 y.v.i, .string y.v.s, .string y.tab, .string y.nm, .slice y.A y.n y.c, .slice y.B y.m y.d] := by
      have h := hyv
      simp only [Ex.val, Value.agg.injEq, Array.mk.injEq, List.cons.injEq, and_true, true_and] at h ⊢
      exact h
     rw [ev]
     have HYO := hid hyok
     clear HX _hrm hg2 hg1 K6 HH1 HH2 HH3 HKM HHa ev hyv hyro hyok
     unfold zeroSe at HB
     have FB := HB.facts
     simp only [factsL, cellsF, Nat.reduceAdd, zf, zl] at FB
     have K2 := (((((((((((HB.store 1 rfl 0 (.string ynm)).store 1 rfl 1 (.int .i64 y.kind)).store 1 rfl 2 (.int .i64 y.op)).store 1 rfl 3 (.bool y.nt)).store 1 rfl 4 (.int .i64 y.v.k)).store 1 rfl 5 (.int .i64 y.v.i)).store 1 rfl 6 (.string y.v.s)).store 1 rfl 7 (.string y.tab)).store 1 rfl 8 (.string y.nm)).store 1 rfl 9 (.slice y.A y.n y.c)).store 1 rfl 10 (.slice y.B y.m y.d))
     simp only [zl] at K2
     have F2 := K2.facts
     simp only [factsL, cellsF, Nat.reduceAdd, zf, zl] at F2
     clear HB
     go_upto_region 31 with fail
     clear FB
     generalize World.setCell _ _ _ = wd at K2 F2 ⊢
     go_cut [147] (fun v wx => ∃ bb : Bool, v = .bool bb ∧ Hold M (some T) w wx [.ro (ExIn (n + 2) y), .blk gx 128 #[.string ynm, .int .i64 y.kind, .int .i64 y.op, .bool y.nt, .int .i64 y.v.k, .int .i64 y.v.i, .string y.v.s, .string y.tab, .string y.nm, .slice y.A y.n y.c, .slice y.B y.m y.d], .blk gk 158 #[.string ynm, .int .i64 yty, .bool ynn, .bool ykey], .own 128 11 (.slice O i cap) i (seCells outs), .ro (fun w => ∀ s ∈ outs, ExIn (n + 3) s.e w), .blk ga 97 #[.int .i64 2, .string snm, .slice none 0 0, .slice none 0 0, .slice O i cap, .slice none 0 0, .string ⟨#[]⟩], .blk gi 177 #[.slice A9 (fn + 1) c9, .slice sA sn sc], .ro (PlIn ⟨⟨A9, fn + 1, c9, fl2⟩, ⟨sA, sn, sc, sl⟩⟩), .blk gs 49 #[.string snm, .slice (some ⟨bC, oC, none⟩) cn cc], .ro (SlR 4 (some ⟨bC, oC, none⟩) cn (colCells cl)), .blk gr 97 #[.int .i64 0, .string ⟨#[]⟩, .slice none 0 0, .slice none 0 0, .slice none 0 0, .slice none 0 0, .string ⟨#[]⟩], .cst gp 177 #[.slice fA fn fc, .slice sA sn sc], .ro (PlIn ⟨⟨fA, fn, fc, fl⟩, ⟨sA, sn, sc, sl⟩⟩), .ro Wds, .tp T])
     case first =>
      by_cases hty : yty = 1
      ·subst hty
       go_wp2_with fail
       refine (bool_any T 2 _ (K2.tp_ 14 rfl) (by omega) (by omega)).mono ?_
       rintro e w7 ⟨b7, rfl, t7, g7⟩
       have K3 := Hold.callT K2 14 rfl g7 t7
       go_wp2_with fail
       go_meet
       exact ⟨b7, rfl, K3⟩
      ·have htb : (yty == 1) = false := by simpa using hty
       go_wp2_with fail
       go_meet
       exact ⟨false, rfl, K2⟩
     case rest =>
      obtain ⟨bb, rfl, K3⟩ := hcut
      clear K2 F2
      have F3 := K3.facts
      simp only [factsL, cellsF, Nat.reduceAdd, zf, zl] at F3
      go_upto_if 147 with (fail)
      go_cut [] (fun wx => ∃ z : Ex, ExGd (n + 3) z ∧ Hold M (some T) w wx [.blk gx 128 #[.string ynm, .int .i64 z.kind, .int .i64 z.op, .bool z.nt, .int .i64 z.v.k, .int .i64 z.v.i, .string z.v.s, .string z.tab, .string z.nm, .slice z.A z.n z.c, .slice z.B z.m z.d], .ro (ExIn (n + 3) z), .own 128 11 (.slice O i cap) i (seCells outs), .ro (fun w => ∀ s ∈ outs, ExIn (n + 3) s.e w), .blk ga 97 #[.int .i64 2, .string snm, .slice none 0 0, .slice none 0 0, .slice O i cap, .slice none 0 0, .string ⟨#[]⟩], .blk gi 177 #[.slice A9 (fn + 1) c9, .slice sA sn sc], .ro (PlIn ⟨⟨A9, fn + 1, c9, fl2⟩, ⟨sA, sn, sc, sl⟩⟩), .blk gs 49 #[.string snm, .slice (some ⟨bC, oC, none⟩) cn cc], .ro (SlR 4 (some ⟨bC, oC, none⟩) cn (colCells cl)), .blk gr 97 #[.int .i64 0, .string ⟨#[]⟩, .slice none 0 0, .slice none 0 0, .slice none 0 0, .slice none 0 0, .string ⟨#[]⟩], .cst gp 177 #[.slice fA fn fc, .slice sA sn sc], .ro (PlIn ⟨⟨fA, fn, fc, fl⟩, ⟨sA, sn, sc, sl⟩⟩), .ro Wds, .tp T])
      case first =>
       cases bb
       ·go_wp2_with fail
        go_meet
        exact ⟨y, HYO.out.le (by omega), (K3.add ((K3.ro 0 rfl).imp (S' := ExIn (n + 3) y) fun w2 h2 => h2.le (by omega))).pick [2, 0, 4, 5, 6, 7, 8, 9, 10, 11, 12, 13, 14, 15] (by decide) rfl⟩
       ·obtain ⟨KM, hKM, K6⟩ := K3.name
        have H1 : ∀ wv : World, Hold M (some T) w wv KM → Blk wv gk 158 #[.string ynm, .int .i64 yty, .bool ynn, .bool ykey] := fun wv h => by rw [hKM] at h; exact h.blk_ 2 rfl
        have h4 : KM[14]? = some (.tp T) := by rw [hKM]; rfl
        have HH1 := hid H1
        have HH4 := hid h4
        have HKM := hid hKM
        clear hKM H1 h4 K3
        go_wp2_with fail
        clear F3
        refine wp_region_any (by kernel_rfl) ?_
        refine wpAny_hold 9 175 (KM) (spL [(149, fun u _ => NatB 2 u), (153, ExSlot (Mut M KM) 1), (155, fun u _ => NatB 4 u), (156, ExSlot (Mut M KM) 2)]) (by kernel_rfl) (by kernel_rfl) (by kernel_rfl) rfl ?_ (K6.drew) ?_
        ·exact stays_cons (fun _ _ _ _ h => h) (stays_cons exSlot_mono (stays_cons (fun _ _ _ _ h => h) (stays_cons exSlot_mono (stays_nil _))))
        simp only [zd, Act.put, List.getElem_toArray, List.getElem_cons_zero, List.getElem_cons_succ, zl]
        refine dw_val rfl rfl rfl ?_; apply Exists.intro; refine ⟨fun wv HC => ?_, ?_⟩
        · go_simp <;> rfl
        simp only [Act.put, zl]
        refine dw_next 2 14 HH4.out 149 rfl rfl rfl rfl (fun wv => ?_) (fun r2 hr2 => ?_)
        ·go_simp <;> rfl
        have hwr2 : IntKind.i64.wrap (9 + (r2 : Int)) = 9 + r2 := IntWalk.i64_in _ (by omega)
        simp only [Act.put, zl]
        refine dw_val rfl rfl rfl ?_; apply Exists.intro; refine ⟨fun wv HC => ?_, ?_⟩
        · go_simp <;> rfl
        simp only [Act.put, zl]
        refine dw_val rfl rfl rfl ?_; apply Exists.intro; refine ⟨fun wv HC => ?_, ?_⟩
        · go_simp <;> rfl
        simp only [Act.put, zl]
        refine dw_val rfl rfl rfl ?_; apply Exists.intro; refine ⟨fun wv HC => ?_, ?_⟩
        ·obtain q0 := (HH1.out _ HC).cell 0; go_simp <;> rfl
        simp only [Act.put, zl]
        refine dw_callR 153 (ExSlot (Mut M KM) 1) (f := 133) (args := #[.string ⟨#[]⟩, .string ynm]) rfl rfl rfl rfl (fun wv => ?_) (fun wv HC hrm hD => ?_) ?_
        ·go_simp <;> rfl
        ·refine (col_any wv ⟨#[]⟩ ynm).mono ?_
         rintro e w5 ⟨rfl, b5⟩
         exact ⟨_, rfl, ⟨_, rfl, col_ok _ _, fun w2 _ _ => col_in _ _ w2⟩, HC.call b5, RM.below b5⟩
        rintro u wx HCx ⟨c1, rfl, hx, rx⟩
        clear HCx hx rx
        simp only [Act.put, zl]
        refine dw_val rfl rfl rfl ?_; apply Exists.intro; refine ⟨fun wv HC => ?_, ?_⟩
        · go_simp <;> rfl
        simp only [Act.put, zl]
        refine dw_next 4 14 HH4.out 155 rfl rfl rfl rfl (fun wv => ?_) (fun r4 hr4 => ?_)
        ·go_simp <;> rfl
        simp only [Act.put, zl]
        refine dw_callR 156 (ExSlot (Mut M KM) 2) (f := 134) (args := #[.int .i64 (r4 : Int)]) rfl rfl rfl rfl (fun wv => ?_) (fun wv HC hrm hD => ?_) ?_
        ·go_simp <;> rfl
        ·refine (wnum_any (Mut M KM) wv HC.mutLt (r4 : Int) (by omega)).mono ?_
         rintro e w5 ⟨x, rfl, hx, rx, b5⟩
         exact ⟨_, rfl, ⟨x, rfl, num_ok hx (by omega) (by omega), rx⟩, HC.call b5, RM.below b5⟩
        rintro u wx HCx ⟨c2, rfl, hx, rx⟩
        clear HCx hx rx
        simp only [Act.put, zl]
        refine rel_nil ?_
        rintro wx4 HX
        rintro _hrm HGW
        have hu : ExSlot (Mut M KM) 1 c1.val wx4 := (GW_on (d := 153) rfl).1 (HGW 5 _ rfl (by omega))
        have hu2 : ExSlot (Mut M KM) 2 c2.val wx4 := (GW_on (d := 156) rfl).1 (HGW 8 _ rfl (by omega))
        clear HGW _hrm
        obtain ⟨z1, hz1, hok1, hro1⟩ := hu
        obtain ⟨z2, hz2, hok2, hro2⟩ := hu2
        rw [HKM.out] at HX hro1 hro2
        rw [hz1, hz2]
        clear hz1 hz2 c1 c2 HH1 HH4 HKM
        rw [show z1.val = .agg #[.int .i64 z1.kind, .int .i64 z1.op, .bool z1.nt, .int .i64 z1.v.k, .int .i64 z1.v.i, .string z1.v.s, .string z1.tab, .string z1.nm, .slice z1.A z1.n z1.c, .slice z1.B z1.m z1.d] from rfl]
        rw [show z2.val = .agg #[.int .i64 z2.kind, .int .i64 z2.op, .bool z2.nt, .int .i64 z2.v.k, .int .i64 z2.v.i, .string z2.v.s, .string z2.tab, .string z2.nm, .slice z2.A z2.n z2.c, .slice z2.B z2.m z2.d] from rfl]
        go_wp2_with fail
        refine (bin_any (Mut M _) _ HX.mutLt (9 + r2) z1 z2 2 (hro1.imp fun w2 h2 => h2.le (by omega)) hro2).mono ?_
        rintro e w8 ⟨g8, rfl, ry, b8⟩
        have hyok := hid (op_ok (d := 2) (kind := 5) (op := 9 + (r2 : Int)) (nt := false) (g := g8) (k := 2) (l := [z1, z2]) (i64_lit 5 (by decide)) (show I64 _ from ⟨by omega, by omega⟩) (by omega) (fun a ha => by
         simp only [List.mem_cons, List.not_mem_nil, or_false] at ha
         rcases ha with rfl | rfl
         ·exact hok1.le (by omega)
         ·exact hok2))
        have KB := ((HX.call b8).add ry)
        generalize opE 5 (9 + (r2 : Int)) false g8 2 [z1, z2] = z at *
        have FB := KB.facts
        simp only [factsL, cellsF, Nat.reduceAdd, zf, zl] at FB
        have KC := ((((((((((KB.store 2 rfl 1 (.int .i64 z.kind)).store 2 rfl 2 (.int .i64 z.op)).store 2 rfl 3 (.bool z.nt)).store 2 rfl 4 (.int .i64 z.v.k)).store 2 rfl 5 (.int .i64 z.v.i)).store 2 rfl 6 (.string z.v.s)).store 2 rfl 7 (.string z.tab)).store 2 rfl 8 (.string z.nm)).store 2 rfl 9 (.slice z.A z.n z.c)).store 2 rfl 10 (.slice z.B z.m z.d))
        simp only [zl] at KC
        rw [show z.val = .agg #[.int .i64 z.kind, .int .i64 z.op, .bool z.nt, .int .i64 z.v.k, .int .i64 z.v.i, .string z.v.s, .string z.tab, .string z.nm, .slice z.A z.n z.c, .slice z.B z.m z.d] from rfl]
        clear HX b8 ry hro1 hok1 hro2 hok2
        go_wp2_with fail
        go_meet
        exact ⟨z, hyok.out.le (by omega), (KC.add ((KC.ro 0 rfl).imp (S' := ExIn (n + 3) z) fun w2 h2 => h2.le (by omega))).pick [3, 0, 5, 6, 7, 8, 9, 10, 11, 12, 13, 14, 15, 16] (by decide) rfl⟩
      case rest =>
       obtain ⟨z, hz, K5⟩ := hcut
       clear K3 F3 HYO HY
       have F5 := K5.facts
       simp only [factsL, cellsF, Nat.reduceAdd, zf, zl] at F5
       go_wp2_with (at_builtin; go_must (refine wpList_appH K5 2 rfl Tryz.elSeG #[.string ynm, .int .i64 z.kind, .int .i64 z.op, .bool z.nt, .int .i64 z.v.k, .int .i64 z.v.i, .string z.v.s, .string z.tab, .string z.nm, .slice z.A z.n z.c, .slice z.B z.m z.d] rfl (.tmp 160) (.tmp 162) rfl rfl _ (by first | rfl | simp) rfl rfl (by intro u hu; simp at hu; rcases hu with rfl | rfl | rfl | rfl | rfl | rfl | rfl | rfl | rfl | rfl | rfl <;> rfl) (by omega) (by omega) ?_); intro gA capA wA hcA hmA KA; rw [show seCells outs ++ (#[.string ynm, .int .i64 z.kind, .int .i64 z.op, .bool z.nt, .int .i64 z.v.k, .int .i64 z.v.i, .string z.v.s, .string z.tab, .string z.nm, .slice z.A z.n z.c, .slice z.B z.m z.d] : Array Value).toList = seCells (outs ++ [⟨ynm, z⟩]) by simp [seCells, Se.cells, Ex.cells]] at KA; simp only [zl] at KA; have FA := KA.facts; simp only [factsL, cellsF, Nat.reduceAdd, zf, zl] at FA)
       have KB := KA.store 4 rfl 4 (.slice (some ⟨gA, 0, none⟩) (i + 1) capA)
       simp only [zl] at KB
       have KC := KB.add (S := fun w => ∀ s ∈ outs ++ [(⟨ynm, z⟩ : Se)], ExIn (n + 3) s.e w) (((KB.ro 3 rfl).and (KB.ro 1 rfl)).imp fun w2 h2 s hs => by
        rcases List.mem_append.1 hs with hs | hs
        ·exact h2.1 s hs
        ·simp only [List.mem_cons, List.not_mem_nil, or_false] at hs
         subst hs
         exact h2.2)
       go_roundw
       case rel =>
        refine ⟨i + 1, capA, _, outs ++ [⟨ynm, z⟩], by omega, by go_num, fun s hs => ?_, KC.pick [3, 0, 5, 6, 7, 8, 9, 10, 11, 12, 13, 14] (by decide) rfl⟩
        rcases List.mem_append.1 hs with hs | hs
        ·exact hgd s hs
        ·simp only [List.mem_cons, List.not_mem_nil, or_false] at hs
         subst hs
         exact hz
       case measure => simp [intOf]; omega
    ·go_wp2_with fail
     refine (bool_any T 4 _ (K1.tp_ 11 rfl) (by omega) (by omega)).mono ?_
     rintro e w7 ⟨b, rfl, t7, g7⟩
     have K4 := Hold.callT K1 11 rfl g7 t7
     clear K1 F g7 t7
     have F4 := K4.facts
     simp only [factsL, cellsF, Nat.reduceAdd, zf, zl] at F4
     go_upto_if 167 with (fail)
     go_cut [] (fun wx => ∃ wh : SlP Ex, ItOk (n + 2) wh ∧ Hold M (some T) w wx [.blk ga 97 #[.int .i64 2, .string snm, .slice none 0 0, .slice none 0 0, .slice O i cap, .slice wh.A wh.n wh.c, .string ⟨#[]⟩], .ro (ExlIn (n + 2) wh), .own 128 11 (.slice O i cap) i (seCells outs), .ro (fun w => ∀ s ∈ outs, ExIn (n + 3) s.e w), .blk gr 97 #[.int .i64 0, .string ⟨#[]⟩, .slice none 0 0, .slice none 0 0, .slice none 0 0, .slice none 0 0, .string ⟨#[]⟩], .tp T])
     case first =>
      cases b
      ·go_wp2_with fail
       refine (HE (Mut M _) T _ K4.mutLt (K4.tp_ 11 rfl) (K4.get 11 rfl).2 ⟨⟨A9, fn + 1, c9, fl2⟩, ⟨sA, sn, sc, sl⟩⟩ 2 depth ((K4.ro 4 rfl).less (mut_tpG (i := 11) rfl)) ((K4.ro 10 rfl).less (mut_tpG (i := 11) rfl)) hT HIN.out hd hd2).mono ?_
       rintro e w6 ⟨x, rfl, hx, rx, tY, gY⟩
       have K7 := ((Hold.callT K4 11 rfl gY tY).add rx).alloc_cst #[.int .i64 x.kind, .int .i64 x.op, .bool x.nt, .int .i64 x.v.k, .int .i64 x.v.i, .string x.v.s, .string x.tab, .string x.nm, .slice x.A x.n x.c, .slice x.B x.m x.d] 126
       rw [show x.val = .agg #[.int .i64 x.kind, .int .i64 x.op, .bool x.nt, .int .i64 x.v.k, .int .i64 x.v.i, .string x.v.s, .string x.tab, .string x.nm, .slice x.A x.n x.c, .slice x.B x.m x.d] from rfl]
       clear F4 K4 rx tY gY
       have F7 := K7.facts
       simp only [factsL, cellsF, Nat.reduceAdd, zf, zl] at F7
       have K8 := K7.store 4 rfl 5 (.slice (some ⟨w6.heap.size, 0, none⟩) 1 1)
       simp only [zl] at K8
       clear K7
       go_wp2_with fail
       go_meet
       exact ⟨⟨some ⟨w6.heap.size, 0, none⟩, 1, 1, [x]⟩, exl_one_ok hx, (K8.add (exl_one (K8.get 0 rfl) rfl (K8.ro 1 rfl))).pick [5, 0, 3, 4, 10, 14] (by decide) rfl⟩
      ·go_wp2_with fail
       go_meet
       exact ⟨SlP.nil, exl_nil_ok, (K4.add (S := ExlIn (n + 2) SlP.nil) (fun w2 _ _ => SlP.nil_in _ _ _ w2)).pick [3, 0, 1, 2, 8, 12] (by decide) rfl⟩
     case rest =>
      obtain ⟨⟨hA, hN, hC, hl⟩, hwh, K5⟩ := hcut
      clear K4 F4
      simp only at K5
      have F5 := K5.facts
      simp only [factsL, cellsF, Nat.reduceAdd, zf, zl] at F5
      have K7 := (((((((K5.store 4 rfl 0 (.int .i64 2)).store 4 rfl 1 (.string snm)).store 4 rfl 2 (.slice none 0 0)).store 4 rfl 3 (.slice none 0 0)).store 4 rfl 4 (.slice O i cap)).store 4 rfl 5 (.slice hA hN hC)).store 4 rfl 6 (.string ⟨#[]⟩))
      simp only [zl] at K7
      have F7 := K7.facts
      simp only [factsL, cellsF, Nat.reduceAdd, zf, zl] at F7
      have hcap := own_caps (K5.get 2 rfl)
      have hlen := (K5.get 2 rfl).1
      rw [show (seCells outs).length = outs.length * 11 from flat_len Se.cells 11 (fun _ => rfl) outs] at hlen
      have KZ := K7.sealRow 2 rfl
      simp only [zl] at KZ
      have hR : Ro _ _ (AcIn (n + 3) ⟨2, snm, SlP.nil, SlP.nil, ⟨O, i, cap, outs⟩, ⟨hA, hN, hC, hl⟩, ⟨#[]⟩⟩) := ((KZ.ro 1 rfl).and ((KZ.ro 2 rfl).and (KZ.ro 3 rfl))).imp fun w2 h2 => ⟨SlP.nil_in _ _ _ w2, SlP.nil_in _ _ _ w2, ⟨h2.2.1, h2.2.2⟩, h2.1.1, fun a ha => (h2.1.2 a ha).le (by omega)⟩
      have HR := hid (hR.less zm)
      have HT := hid (And.intro (KZ.tp_ 5 rfl) KZ.grow)
      have HGD := hid (show AcGd (n + 3) ⟨2, snm, SlP.nil, SlP.nil, ⟨O, i, cap, outs⟩, ⟨hA, hN, hC, hl⟩, ⟨#[]⟩⟩ from ⟨⟨by simp, by simp⟩, LsOk.nil _ _, LsOk.nil _ _, ⟨⟨hcap.1, hcap.2.1⟩, by show outs.length ≤ 8; omega, hgd⟩, ⟨hwh.1, hwh.2.1, fun a ha => (hwh.2.2 a ha).le (by omega)⟩⟩)
      clear K5 K7 KZ hR
      go_wp2_with fail
      refine bodyPost_ret (v := .agg #[.int .i64 2, .string snm, .slice none 0 0, .slice none 0 0, .slice O i cap, .slice hA hN hC, .string ⟨#[]⟩]) ?_ rfl ?_
      ·clear HT HR HGD
       simp [results, Tryz.results159, go_sem, F7]
      ·exact ⟨⟨2, snm, SlP.nil, SlP.nil, ⟨O, i, cap, outs⟩, ⟨hA, hN, hC, hl⟩, ⟨#[]⟩⟩, rfl, HGD.out, HR.out, HT.out.1, HT.out.2⟩
   ·go_wp2_with fail
    refine (bool_any T 4 _ (K1.tp_ 11 rfl) (by omega) (by omega)).mono ?_
    rintro e w7 ⟨b, rfl, t7, g7⟩
    have K4 := Hold.callT K1 11 rfl g7 t7
    clear K1 F g7 t7
    have F4 := K4.facts
    simp only [factsL, cellsF, Nat.reduceAdd, zf, zl] at F4
    go_upto_if 167 with (fail)
    go_cut [] (fun wx => ∃ wh : SlP Ex, ItOk (n + 2) wh ∧ Hold M (some T) w wx [.blk ga 97 #[.int .i64 2, .string snm, .slice none 0 0, .slice none 0 0, .slice O i cap, .slice wh.A wh.n wh.c, .string ⟨#[]⟩], .ro (ExlIn (n + 2) wh), .own 128 11 (.slice O i cap) i (seCells outs), .ro (fun w => ∀ s ∈ outs, ExIn (n + 3) s.e w), .blk gr 97 #[.int .i64 0, .string ⟨#[]⟩, .slice none 0 0, .slice none 0 0, .slice none 0 0, .slice none 0 0, .string ⟨#[]⟩], .tp T])
    case first =>
     cases b
     ·go_wp2_with fail
      refine (HE (Mut M _) T _ K4.mutLt (K4.tp_ 11 rfl) (K4.get 11 rfl).2 ⟨⟨A9, fn + 1, c9, fl2⟩, ⟨sA, sn, sc, sl⟩⟩ 2 depth ((K4.ro 4 rfl).less (mut_tpG (i := 11) rfl)) ((K4.ro 10 rfl).less (mut_tpG (i := 11) rfl)) hT HIN.out hd hd2).mono ?_
      rintro e w6 ⟨x, rfl, hx, rx, tY, gY⟩
      have K7 := ((Hold.callT K4 11 rfl gY tY).add rx).alloc_cst #[.int .i64 x.kind, .int .i64 x.op, .bool x.nt, .int .i64 x.v.k, .int .i64 x.v.i, .string x.v.s, .string x.tab, .string x.nm, .slice x.A x.n x.c, .slice x.B x.m x.d] 126
      rw [show x.val = .agg #[.int .i64 x.kind, .int .i64 x.op, .bool x.nt, .int .i64 x.v.k, .int .i64 x.v.i, .string x.v.s, .string x.tab, .string x.nm, .slice x.A x.n x.c, .slice x.B x.m x.d] from rfl]
      clear F4 K4 rx tY gY
      have F7 := K7.facts
      simp only [factsL, cellsF, Nat.reduceAdd, zf, zl] at F7
      have K8 := K7.store 4 rfl 5 (.slice (some ⟨w6.heap.size, 0, none⟩) 1 1)
      simp only [zl] at K8
      clear K7
      go_wp2_with fail
      go_meet
      exact ⟨⟨some ⟨w6.heap.size, 0, none⟩, 1, 1, [x]⟩, exl_one_ok hx, (K8.add (exl_one (K8.get 0 rfl) rfl (K8.ro 1 rfl))).pick [5, 0, 3, 4, 10, 14] (by decide) rfl⟩
     ·go_wp2_with fail
      go_meet
      exact ⟨SlP.nil, exl_nil_ok, (K4.add (S := ExlIn (n + 2) SlP.nil) (fun w2 _ _ => SlP.nil_in _ _ _ w2)).pick [3, 0, 1, 2, 8, 12] (by decide) rfl⟩
    case rest =>
     obtain ⟨⟨hA, hN, hC, hl⟩, hwh, K5⟩ := hcut
     clear K4 F4
     simp only at K5
     have F5 := K5.facts
     simp only [factsL, cellsF, Nat.reduceAdd, zf, zl] at F5
     have K7 := (((((((K5.store 4 rfl 0 (.int .i64 2)).store 4 rfl 1 (.string snm)).store 4 rfl 2 (.slice none 0 0)).store 4 rfl 3 (.slice none 0 0)).store 4 rfl 4 (.slice O i cap)).store 4 rfl 5 (.slice hA hN hC)).store 4 rfl 6 (.string ⟨#[]⟩))
     simp only [zl] at K7
     have F7 := K7.facts
     simp only [factsL, cellsF, Nat.reduceAdd, zf, zl] at F7
     have hcap := own_caps (K5.get 2 rfl)
     have hlen := (K5.get 2 rfl).1
     rw [show (seCells outs).length = outs.length * 11 from flat_len Se.cells 11 (fun _ => rfl) outs] at hlen
     have KZ := K7.sealRow 2 rfl
     simp only [zl] at KZ
     have hR : Ro _ _ (AcIn (n + 3) ⟨2, snm, SlP.nil, SlP.nil, ⟨O, i, cap, outs⟩, ⟨hA, hN, hC, hl⟩, ⟨#[]⟩⟩) := ((KZ.ro 1 rfl).and ((KZ.ro 2 rfl).and (KZ.ro 3 rfl))).imp fun w2 h2 => ⟨SlP.nil_in _ _ _ w2, SlP.nil_in _ _ _ w2, ⟨h2.2.1, h2.2.2⟩, h2.1.1, fun a ha => (h2.1.2 a ha).le (by omega)⟩
     have HR := hid (hR.less zm)
     have HT := hid (And.intro (KZ.tp_ 5 rfl) KZ.grow)
     have HGD := hid (show AcGd (n + 3) ⟨2, snm, SlP.nil, SlP.nil, ⟨O, i, cap, outs⟩, ⟨hA, hN, hC, hl⟩, ⟨#[]⟩⟩ from ⟨⟨by simp, by simp⟩, LsOk.nil _ _, LsOk.nil _ _, ⟨⟨hcap.1, hcap.2.1⟩, by show outs.length ≤ 8; omega, hgd⟩, ⟨hwh.1, hwh.2.1, fun a ha => (hwh.2.2 a ha).le (by omega)⟩⟩)
     clear K5 K7 KZ hR
     go_wp2_with fail
     refine bodyPost_ret (v := .agg #[.int .i64 2, .string snm, .slice none 0 0, .slice none 0 0, .slice O i cap, .slice hA hN hC, .string ⟨#[]⟩]) ?_ rfl ?_
     ·clear HT HR HGD
      simp [results, Tryz.results159, go_sem, F7]
     ·exact ⟨⟨2, snm, SlP.nil, SlP.nil, ⟨O, i, cap, outs⟩, ⟨hA, hN, hC, hl⟩, ⟨#[]⟩⟩, rfl, HGD.out, HR.out, HT.out.1, HT.out.2⟩
 ·go_wp2_with fail
  refine (bool_any T 4 _ (KA.tp_ 9 rfl) (by omega) (by omega)).mono ?_
  rintro e w7 ⟨b, rfl, t7, g7⟩
  have K4 := Hold.callT KA 9 rfl g7 t7
  clear KA F g7 t7
  have F4 := K4.facts
  simp only [factsL, cellsF, Nat.reduceAdd, zf, zl] at F4
  go_upto_if 167 with (fail)
  go_cut [] (fun wx => ∃ wh : SlP Ex, ItOk (n + 2) wh ∧ Hold M (some T) w wx [.blk ga 97 #[.int .i64 3, .string snm, .slice none 0 0, .slice none 0 0, .slice none 0 0, .slice wh.A wh.n wh.c, .string ⟨#[]⟩], .ro (ExlIn (n + 2) wh), .blk gr 97 #[.int .i64 0, .string ⟨#[]⟩, .slice none 0 0, .slice none 0 0, .slice none 0 0, .slice none 0 0, .string ⟨#[]⟩], .tp T])
  case first =>
   cases b
   ·go_wp2_with fail
    refine (HE (Mut M _) T _ K4.mutLt (K4.tp_ 9 rfl) (K4.get 9 rfl).2 ⟨⟨A9, fn + 1, c9, fl2⟩, ⟨sA, sn, sc, sl⟩⟩ 2 depth ((K4.ro 2 rfl).less (mut_tpG (i := 9) rfl)) ((K4.ro 8 rfl).less (mut_tpG (i := 9) rfl)) hT HIN.out hd hd2).mono ?_
    rintro e w6 ⟨x, rfl, hx, rx, tY, gY⟩
    have K7 := ((Hold.callT K4 9 rfl gY tY).add rx).alloc_cst #[.int .i64 x.kind, .int .i64 x.op, .bool x.nt, .int .i64 x.v.k, .int .i64 x.v.i, .string x.v.s, .string x.tab, .string x.nm, .slice x.A x.n x.c, .slice x.B x.m x.d] 126
    rw [show x.val = .agg #[.int .i64 x.kind, .int .i64 x.op, .bool x.nt, .int .i64 x.v.k, .int .i64 x.v.i, .string x.v.s, .string x.tab, .string x.nm, .slice x.A x.n x.c, .slice x.B x.m x.d] from rfl]
    clear F4 K4 rx tY gY
    have F7 := K7.facts
    simp only [factsL, cellsF, Nat.reduceAdd, zf, zl] at F7
    have K8 := K7.store 2 rfl 5 (.slice (some ⟨w6.heap.size, 0, none⟩) 1 1)
    simp only [zl] at K8
    clear K7
    go_wp2_with fail
    go_meet
    exact ⟨⟨some ⟨w6.heap.size, 0, none⟩, 1, 1, [x]⟩, exl_one_ok hx, (K8.add (exl_one (K8.get 0 rfl) rfl (K8.ro 1 rfl))).pick [3, 0, 8, 12] (by decide) rfl⟩
   ·go_wp2_with fail
    go_meet
    exact ⟨SlP.nil, exl_nil_ok, (K4.add (S := ExlIn (n + 2) SlP.nil) (fun w2 _ _ => SlP.nil_in _ _ _ w2)).pick [1, 0, 6, 10] (by decide) rfl⟩
  case rest =>
   obtain ⟨⟨hA, hN, hC, hl⟩, hwh, K5⟩ := hcut
   clear K4 F4
   simp only at K5
   have F5 := K5.facts
   simp only [factsL, cellsF, Nat.reduceAdd, zf, zl] at F5
   have K7 := (((((((K5.store 2 rfl 0 (.int .i64 3)).store 2 rfl 1 (.string snm)).store 2 rfl 2 (.slice none 0 0)).store 2 rfl 3 (.slice none 0 0)).store 2 rfl 4 (.slice none 0 0)).store 2 rfl 5 (.slice hA hN hC)).store 2 rfl 6 (.string ⟨#[]⟩))
   simp only [zl] at K7
   have F7 := K7.facts
   simp only [factsL, cellsF, Nat.reduceAdd, zf, zl] at F7
   have KZ := K7
   have hR : Ro _ _ (AcIn (n + 3) ⟨3, snm, SlP.nil, SlP.nil, SlP.nil, ⟨hA, hN, hC, hl⟩, ⟨#[]⟩⟩) := (KZ.ro 1 rfl).imp fun w2 h2 => ⟨SlP.nil_in _ _ _ w2, SlP.nil_in _ _ _ w2, SlP.nil_in _ _ _ w2, h2.1, fun a ha => (h2.2 a ha).le (by omega)⟩
   have HR := hid (hR.less zm)
   have HT := hid (And.intro (KZ.tp_ 3 rfl) KZ.grow)
   have HGD := hid (show AcGd (n + 3) ⟨3, snm, SlP.nil, SlP.nil, SlP.nil, ⟨hA, hN, hC, hl⟩, ⟨#[]⟩⟩ from ⟨⟨by simp, by simp⟩, LsOk.nil _ _, LsOk.nil _ _, LsOk.nil _ _, ⟨hwh.1, hwh.2.1, fun a ha => (hwh.2.2 a ha).le (by omega)⟩⟩)
   clear K5 K7 KZ hR
   go_wp2_with fail
   refine bodyPost_ret (v := .agg #[.int .i64 3, .string snm, .slice none 0 0, .slice none 0 0, .slice none 0 0, .slice hA hN hC, .string ⟨#[]⟩]) ?_ rfl ?_
   ·clear HT HR HGD
    simp [results, Tryz.results159, go_sem, F7]
   ·exact ⟨⟨3, snm, SlP.nil, SlP.nil, SlP.nil, ⟨hA, hN, hC, hl⟩, ⟨#[]⟩⟩, rfl, HGD.out, HR.out, HT.out.1, HT.out.2⟩
end Go.Proofs.YtnbbllkbefagmaaGreatDoor

namespace Go.Proofs.YtnbbllkbefagmaaGreatDoor
open Go.RowKit
set_option linter.unusedVariables false
set_option linter.unusedSimpArgs false
/-- a list of values in a slot -/
def ValsSlot (M : Nat → Prop) (n : Nat) (vs : List Value) (u : Value) (w : World) : Prop := ∃ g : Nat, u = .slice (some ⟨g, 0, none⟩) n n ∧ vs.length = n ∧ Ro w M (SlR 1 (some ⟨g, 0, none⟩) n vs)
theorem valsSlot_mono {M : Nat → Prop} {n : Nat} {vs : List Value} (u : Value) (w w' : World) (hr : RM M w w') (h : ValsSlot M n vs u w) : ValsSlot M n vs u w' := by
 obtain ⟨g, h1, h2, h3⟩ := h
 exact ⟨g, h1, h2, hr.ro h3⟩
/-- the place of a value in a slot -/
def CellZ (M : Nat → Prop) (Z : Value → Prop) (u : Value) (w : World) : Prop := ∃ (g o : Nat) (z : Value), u = .pointer (some ⟨g, o, none⟩) ∧ Z z ∧ Ro w M (fun w => w.cell? ⟨g, o, none⟩ = some z)
theorem cellZ_mono {M : Nat → Prop} {Z : Value → Prop} (u : Value) (w w' : World) (hr : RM M w w') (h : CellZ M Z u w) : CellZ M Z u w' := by
 obtain ⟨g, o, z, h1, h2, h3⟩ := h
 exact ⟨g, o, z, h1, h2, hr.ro h3⟩
def StrZ (u : Value) : Prop := ∃ s : ByteArray, u = .string s
def StrSlot (u : Value) (_ : World) : Prop := StrZ u
theorem strSlot_mono {M : Nat → Prop} (u : Value) (w w' : World) (hr : RM M w w') (h : StrSlot u w) : StrSlot u w' := h
theorem ValsSlot.cell {M : Nat → Prop} {n : Nat} {vs : List Value} {Z : Value → Prop} {g r : Nat} {w : World} (h : ValsSlot M n vs (.slice (some ⟨g, 0, none⟩) n n) w) (hZ : ∀ z ∈ vs, Z z) (hr : r < n) : CellZ M Z (.pointer (some ⟨g, r, none⟩)) w := by
 obtain ⟨g', e, hl, h3⟩ := h
 obtain rfl : g = g' := by injection e with e; injection e with e; injection e
 obtain ⟨z, hz⟩ : ∃ z, vs[r]? = some z := ⟨vs[r]'(by omega), List.getElem?_eq_getElem _⟩
 refine ⟨g, r, z, rfl, hZ z (List.mem_of_getElem? hz), h3.imp fun w2 h2 => ?_⟩
 obtain ⟨b, o, e, hb, hc⟩ := h2.2 (by omega)
 obtain ⟨rfl, rfl⟩ : g = b ∧ 0 = o := by injection e with e; injection e with e1 e2; exact ⟨e1, e2⟩
 have := hc r z hz
 simpa using this
end Go.Proofs.YtnbbllkbefagmaaGreatDoor

namespace Go.Proofs.YtnbbllkbefagmaaGreatDoor
open Go.RowKit
set_option linter.unusedVariables false
set_option linter.unusedSimpArgs false
theorem NumE.gd {x : Ex} {n : Int} (h : NumE x n) (h1 : -100 ≤ n) (h2 : n ≤ 100) : ExGd 2 x := num_ok h h1 h2
theorem ses_one {d g : Nat} {s : Se} {M : Nat → Prop} {w : World} {t : TypeId} {cs : Array Value} (h : Ro w M (fun w => w.heap[g]? = some (.cells cs t (0, 0)))) (hl : cs.toList = Se.cells s) (hr : Ro w M (ExIn d s.e)) : Ro w M ((⟨some ⟨g, 0, none⟩, 1, 1, [s]⟩ : SlP Se).In 11 Se.cells (SeIn d)) := by
 have h1 : Ro w M (SlR 11 (some ⟨g, 0, none⟩) 1 cs.toList) := ro_block h (by rw [hl]; rfl)
 rw [hl] at h1
 exact (h1.and hr).imp fun w2 h2 => ⟨by simpa using h2.1, fun z hz => by
  simp only [List.mem_cons, List.not_mem_nil, or_false] at hz
  subst hz
  exact h2.2⟩
theorem ls_one {α : Type} {k g : Nat} {s : α} {Q : α → Prop} (hk : 1 ≤ k) (h : Q s) : LsOk k (⟨some ⟨g, 0, none⟩, 1, 1, [s]⟩ : SlP α) Q := ⟨⟨Nat.le_refl _, by simp⟩, by simpa using hk, fun z hz => by
 simp only [List.mem_cons, List.not_mem_nil, or_false] at hz
 subst hz
 exact h⟩
theorem AcIn.le {d d' : Nat} {a : Ac} {w : World} (h : AcIn d a w) (hd : d ≤ d') : AcIn d' a w := ⟨⟨h.1.1, fun r hr => ⟨(h.1.2 r hr).1, fun x hx => ((h.1.2 r hr).2 x hx).le hd⟩⟩, ⟨h.2.1.1, fun q hq => (h.2.1.2 q hq).le hd⟩, ⟨h.2.2.1.1, fun s hs => (show ExIn d s.e w from h.2.2.1.2 s hs).le hd⟩, h.2.2.2.1, fun x hx => (h.2.2.2.2 x hx).le hd⟩
theorem LsOk.imp {α : Type} {k : Nat} {s : SlP α} {Q Q' : α → Prop} (h : LsOk k s Q) (hq : ∀ x, Q x → Q' x) : LsOk k s Q' := ⟨h.1, h.2.1, fun x hx => hq x (h.2.2 x hx)⟩
theorem AcGd.le {d d' : Nat} {a : Ac} (h : AcGd d a) (hd : d ≤ d') : AcGd d' a := ⟨h.k, h.r.imp fun r hr => hr.imp fun x hx => hx.le hd, h.q.imp fun q hq => hq.le hd, h.s.imp fun s hs => hs.le hd, h.h.imp fun x hx => hx.le hd⟩
def SmSlot (M : Nat → Prop) (u : Value) (w : World) : Prop := ∃ s : Sm, u = s.val ∧ s.cols.n ≤ 100 ∧ Ro w M (SmIn s)
theorem smSlot_mono {M : Nat → Prop} (u : Value) (w w' : World) (hr : RM M w w') (h : SmSlot M u w) : SmSlot M u w' := by
 obtain ⟨s, h1, h2, h3⟩ := h
 exact ⟨s, h1, h2, hr.ro h3⟩
def PlSlot (M : Nat → Prop) (n : Nat) (u : Value) (w : World) : Prop := ∃ p : Pl, u = p.val ∧ PlN n p ∧ Ro w M (PlIn p)
theorem plSlot_mono {M : Nat → Prop} {n : Nat} (u : Value) (w w' : World) (hr : RM M w w') (h : PlSlot M n u w) : PlSlot M n u w' := by
 obtain ⟨s, h1, h2, h3⟩ := h
 exact ⟨s, h1, h2, hr.ro h3⟩
theorem plN_of {n : Nat} {p : Pl} (h : PlB p) (hf : p.fr.n ≤ 2) (hn : n ≤ 80) : PlN n p := ⟨h, by omega, fun _ => trivial⟩
set_option maxRecDepth 100000 in
set_option maxHeartbeats 60000000 in
theorem action_any (M : Nat → Prop) (T : Nat) (w : World) (hM : ∀ b, M b → b < w.heap.size) (ht : Tp w T) (hMT : ∀ b, M b → T ≤ b) (t : Tg) (s : Sm) (p : Pl) (hp : Ro w (Mut M [.tp T]) (PlIn p)) (hsm : Ro w (Mut M [.tp T]) (SmIn s)) (hsc : 1 ≤ s.cols.n ∧ s.cols.n ≤ 4) (hW : Ro w (Mut M [.tp T]) Wds) (hT : 1 < T) (hB : PlB p) (hfr : p.fr.n ≤ 2) (hs : 1 ≤ p.tb.n) :
  Calls Tryz.prog 100 #[.pointer (some ⟨T, 0, none⟩), t.val, s.val, p.val] w fun e w' => AcRet w T M 5 e w' := by
 have HBN := hid (fun (n : Nat) (hn : n ≤ 80) => plN_of hB hfr hn)
 obtain ⟨tn, tt, tb, te, ⟨oA, on, oc, ol⟩, tch, ⟨pA, pn, pc, pl⟩, ⟨qA, qn, qc, ql⟩, ⟨rA, rn, rc, rl⟩, ⟨kA, kn, kc, kl⟩, ⟨aA, an, ac, al⟩⟩ := t
 obtain ⟨⟨fA, fn, fc, fl⟩, ⟨sA, sn, sc, sl⟩⟩ := p
 obtain ⟨snm, ⟨cA, cn, cc, cl⟩⟩ := s
 have HS := hid (show 1 ≤ sn from hs)
 have HBC := hid (show PlB ⟨⟨fA, fn, fc, fl⟩, SlP.nil⟩ from ⟨hB.f, ⟨Nat.le_refl _, by simp [SlP.nil]⟩, hB.fc, fun _ hx => (nomatch hx)⟩)
 have hcn : 1 ≤ cn ∧ cn ≤ 4 := hsc
 have hfn : fn ≤ 2 := hfr
 obtain ⟨bC, oC, eC, -, -⟩ := (show Rd w w.heap.size 4 cA cn (cl.flatMap Col.cells) from hsm.now.1).2 (by omega)
 obtain rfl : cA = some ⟨bC, oC, none⟩ := eC
 have HLN := hid (show cl.length = cn from (RdC.of_sl (show SlR 4 (some ⟨bC, oC, none⟩) cn (colCells cl) w from hsm.now.1)).len)
 have KZ := (((((((Hold.startT M w T hM ht hMT).add hW).add (hp.less (by simp [mut_cons, Mut, Hp.foot]))).add ((hsm.imp (S' := SlR 4 (some ⟨bC, oC, none⟩) cn (colCells cl)) fun w2 h2 => h2.1).less (by simp [mut_cons, Mut, Hp.foot]))).alloc_cst #[.string tn, .string tt, .bool tb, .int .i64 te, .slice oA on oc, .bool tch, .slice pA pn pc, .slice qA qn qc, .slice rA rn rc, .slice kA kn kc, .slice aA an ac] 40).alloc_cst #[.string snm, .slice (some ⟨bC, oC, none⟩) cn cc] 49).alloc_cst #[.slice fA fn fc, .slice sA sn sc] 177).alloc #[.int .i64 0, .string ⟨#[]⟩, .slice none 0 0, .slice none 0 0, .slice none 0 0, .slice none 0 0, .string ⟨#[]⟩] 97
 rw [World.size_alloc, World.size_alloc, World.size_alloc] at KZ
 obtain ⟨gt, hgt⟩ : ∃ g, g = w.heap.size := ⟨_, rfl⟩
 rw [← hgt] at KZ
 obtain ⟨gs, hgs⟩ : ∃ g, g = gt + 1 := ⟨_, rfl⟩
 obtain ⟨gp, hgp⟩ : ∃ g, g = gs + 1 := ⟨_, rfl⟩
 obtain ⟨gr, hgr⟩ : ∃ g, g = gp + 1 := ⟨_, rfl⟩
 rw [← hgs, ← hgp, ← hgr] at KZ
 have K0 : Hold M (some T) w _ [.blk gr 97 #[.int .i64 0, .string ⟨#[]⟩, .slice none 0 0, .slice none 0 0, .slice none 0 0, .slice none 0 0, .string ⟨#[]⟩], .cst gp 177 #[.slice fA fn fc, .slice sA sn sc], .cst gs 49 #[.string snm, .slice (some ⟨bC, oC, none⟩) cn cc], .cst gt 40 #[.string tn, .string tt, .bool tb, .int .i64 te, .slice oA on oc, .bool tch, .slice pA pn pc, .slice qA qn qc, .slice rA rn rc, .slice kA kn kc, .slice aA an ac], .ro (SlR 4 (some ⟨bC, oC, none⟩) cn (colCells cl)), .ro (PlIn ⟨⟨fA, fn, fc, fl⟩, ⟨sA, sn, sc, sl⟩⟩), .ro Wds, .tp T] := KZ.pick [0, 1, 2, 3, 4, 5, 6, 7] (by decide) rfl
 simp only [Tg.val, Pl.val, Sm.val]
 clear hp hW hB hsm KZ hfr hs
 go_enter Tryz.func100, Tryz.ntmps100
 have F0 := K0.facts
 simp only [factsL, cellsF, Nat.reduceAdd, zf, zl] at F0
 rw [hgr, hgp, hgs, hgt] at F0
 go_upto_region 1 with fail
 rw [← hgt, ← hgs, ← hgp, ← hgr] at F0 ⊢
 have HG := hid (And.intro hgt (And.intro hgs (And.intro hgp hgr)))
 clear hgt hgs hgp hgr
 go_cut [32] from 17 to 32 (fun v wx => ∃ bb : Bool, v = .bool bb ∧ Hold M (some T) w wx [.blk gr 97 #[.int .i64 0, .string ⟨#[]⟩, .slice none 0 0, .slice none 0 0, .slice none 0 0, .slice none 0 0, .string ⟨#[]⟩], .cst gp 177 #[.slice fA fn fc, .slice sA sn sc], .cst gs 49 #[.string snm, .slice (some ⟨bC, oC, none⟩) cn cc], .cst gt 40 #[.string tn, .string tt, .bool tb, .int .i64 te, .slice oA on oc, .bool tch, .slice pA pn pc, .slice qA qn qc, .slice rA rn rc, .slice kA kn kc, .slice aA an ac], .ro (SlR 4 (some ⟨bC, oC, none⟩) cn (colCells cl)), .ro (PlIn ⟨⟨fA, fn, fc, fl⟩, ⟨sA, sn, sc, sl⟩⟩), .ro Wds, .tp T])
 case first =>
  go_wp2_with fail
  refine (bool_any T 9 _ (K0.tp_ 7 rfl) (by omega) (by omega)).mono ?_
  rintro e w1 ⟨b, rfl, t1, g1⟩
  have K1 := Hold.callT K0 7 rfl g1 t1
  have F1 := K1.facts
  simp only [factsL, cellsF, Nat.reduceAdd, zf, zl] at F1
  clear F0
  cases b
  ·cases tb
   ·go_wp2_with fail
    all_goals (go_meet; exact ⟨_, rfl, K1⟩)
   ·cases tch
    ·go_wp2_with fail
     all_goals (go_meet; exact ⟨_, rfl, K1⟩)
    ·go_wp2_with fail
     all_goals (go_meet; exact ⟨_, rfl, K1⟩)
  ·go_wp2_with fail
   all_goals (go_meet; exact ⟨_, rfl, K1⟩)
 case rest =>
  obtain ⟨bb, rfl, K1⟩ := hcut
  clear K0 F0
  have F1 := K1.facts
  simp only [factsL, cellsF, Nat.reduceAdd, zf, zl] at F1
  cases bb
  ·cases tb
   ·go_wp2_with fail
    refine (next_any T 5 _ (K1.tp_ 7 rfl) (by omega) (by omega)).mono ?_
    rintro e w2 ⟨r, rfl, r0, r1, t2, g2⟩
    have K2 := Hold.callT K1 7 rfl g2 t2
    clear K1 F1 t2 g2
    go_wp2_with fail
    refine (lit_any _ ⟨1, r, ⟨#[]⟩⟩).mono ?_
    rintro e w3 ⟨rfl, b3⟩
    have HY0 := hid (lit_ok ⟨1, r, ⟨#[]⟩⟩ (i64_lit 1 (by decide)) (show I64 r from ⟨by omega, by omega⟩))
    have K3 := ((K2.call b3).add (S := ExIn 1 (litE ⟨1, r, ⟨#[]⟩⟩)) (fun w2 _ _ => lit_in _ _))
    generalize litE ⟨1, r, ⟨#[]⟩⟩ = y0 at *
    have K4 := K3.alloc #[.int .i64 y0.kind, .int .i64 y0.op, .bool y0.nt, .int .i64 y0.v.k, .int .i64 y0.v.i, .string y0.v.s, .string y0.tab, .string y0.nm, .slice y0.A y0.n y0.c, .slice y0.B y0.m y0.d] 126
    have F3 := K3.facts
    simp only [factsL, cellsF, Nat.reduceAdd, zf, zl] at F3
    have F4 := K4.facts
    simp only [factsL, cellsF, Nat.reduceAdd, zf, zl] at F4
    rw [show y0.val = .agg #[.int .i64 y0.kind, .int .i64 y0.op, .bool y0.nt, .int .i64 y0.v.k, .int .i64 y0.v.i, .string y0.v.s, .string y0.tab, .string y0.nm, .slice y0.A y0.n y0.c, .slice y0.B y0.m y0.d] from rfl]
    clear K2 K3 b3
    go_wp2_with fail
    obtain ⟨gn, hgn⟩ : ∃ g, g = w3.heap.size := ⟨_, rfl⟩
    rw [← hgn] at K4 ⊢
    have HGN := hid hgn
    clear hgn F3 F4
    refine (column_any (Mut M _) T _ K4.mutLt (K4.tp_ 9 rfl) (K4.get 9 rfl).2 ⟨⟨fA, fn, fc, fl⟩, SlP.nil⟩ 1 (((K4.ro 7 rfl).imp (S' := PlIn ⟨⟨fA, fn, fc, fl⟩, SlP.nil⟩) (fun w2 h2 => ⟨h2.1, SlP.nil_in _ _ _ w2⟩)).less (mut_tpG (i := 9) rfl)) HBC.out).mono ?_
    rintro e w4 ⟨x, ok, rfl, hx, t4, g4⟩
    have HXK := hid (show ok = true → ExGd 1 x from fun hok => by
     rcases hx with ⟨h1, rfl⟩ | ⟨ct, cn', rfl⟩
     ·rw [hok] at h1; exact absurd h1 (by decide)
     ·exact col_ok _ _)
    have K5 := ((Hold.callT K4 9 rfl g4 t4).add (S := ExIn 1 x) (fun w2 _ _ => by
     rcases hx with ⟨_, rfl⟩ | ⟨ct, cn', rfl⟩
     ·exact zeroE_in w2
     ·exact col_in _ _ w2)).alloc_cst #[.int .i64 x.kind, .int .i64 x.op, .bool x.nt, .int .i64 x.v.k, .int .i64 x.v.i, .string x.v.s, .string x.tab, .string x.nm, .slice x.A x.n x.c, .slice x.B x.m x.d] 126
    rw [show x.val = .agg #[.int .i64 x.kind, .int .i64 x.op, .bool x.nt, .int .i64 x.v.k, .int .i64 x.v.i, .string x.v.s, .string x.tab, .string x.nm, .slice x.A x.n x.c, .slice x.B x.m x.d] from rfl]
    clear K4 t4 g4 hx
    have F5 := K5.facts
    simp only [factsL, cellsF, Nat.reduceAdd, zf, zl] at F5
    go_upto_region 8 with fail
    obtain ⟨gx, hgx⟩ : ∃ g, g = w4.heap.size := ⟨_, rfl⟩
    rw [← hgx] at K5 F5 ⊢
    have HGX := hid hgx
    clear hgx
    go_cut [73] from 69 to 73 (fun v wx => ∃ bb : Bool, v = .bool bb ∧ (bb = true → ok = true) ∧ Hold M (some T) w wx [.cst gx 126 #[.int .i64 x.kind, .int .i64 x.op, .bool x.nt, .int .i64 x.v.k, .int .i64 x.v.i, .string x.v.s, .string x.tab, .string x.nm, .slice x.A x.n x.c, .slice x.B x.m x.d], .ro (ExIn 1 x), .blk gn 126 #[.int .i64 y0.kind, .int .i64 y0.op, .bool y0.nt, .int .i64 y0.v.k, .int .i64 y0.v.i, .string y0.v.s, .string y0.tab, .string y0.nm, .slice y0.A y0.n y0.c, .slice y0.B y0.m y0.d], .ro (ExIn 1 y0), .blk gr 97 #[.int .i64 0, .string ⟨#[]⟩, .slice none 0 0, .slice none 0 0, .slice none 0 0, .slice none 0 0, .string ⟨#[]⟩], .cst gp 177 #[.slice fA fn fc, .slice sA sn sc], .cst gs 49 #[.string snm, .slice (some ⟨bC, oC, none⟩) cn cc], .cst gt 40 #[.string tn, .string tt, .bool false, .int .i64 te, .slice oA on oc, .bool tch, .slice pA pn pc, .slice qA qn qc, .slice rA rn rc, .slice kA kn kc, .slice aA an ac], .ro (SlR 4 (some ⟨bC, oC, none⟩) cn (colCells cl)), .ro (PlIn ⟨⟨fA, fn, fc, fl⟩, ⟨sA, sn, sc, sl⟩⟩), .ro Wds, .tp T])
    case first =>
     cases ok
     ·go_wp2_with fail
      go_meet
      exact ⟨false, rfl, fun h => (nomatch h), K5⟩
     ·go_wp2_with fail
      refine (bool_any T 2 _ (K5.tp_ 11 rfl) (by omega) (by omega)).mono ?_
      rintro e w5 ⟨b5, rfl, t5, g5⟩
      have K6 := Hold.callT K5 11 rfl g5 t5
      go_wp2_with fail
      go_meet
      exact ⟨b5, rfl, fun _ => (by first | trivial | rfl), K6⟩
    case rest =>
     obtain ⟨bb, rfl, hbb, K6⟩ := hcut
     clear K5 F5
     have HBO := hid hbb
     clear hbb
     have F6 := K6.facts
     simp only [factsL, cellsF, Nat.reduceAdd, zf, zl] at F6
     go_upto_if 73 with (fail)
     go_cut [] from 74 to 74 (fun wx => ∃ y : Ex, ExGd 1 y ∧ Hold M (some T) w wx [.blk gn 126 #[.int .i64 y.kind, .int .i64 y.op, .bool y.nt, .int .i64 y.v.k, .int .i64 y.v.i, .string y.v.s, .string y.tab, .string y.nm, .slice y.A y.n y.c, .slice y.B y.m y.d], .ro (ExIn 1 y), .blk gr 97 #[.int .i64 0, .string ⟨#[]⟩, .slice none 0 0, .slice none 0 0, .slice none 0 0, .slice none 0 0, .string ⟨#[]⟩], .cst gp 177 #[.slice fA fn fc, .slice sA sn sc], .cst gs 49 #[.string snm, .slice (some ⟨bC, oC, none⟩) cn cc], .cst gt 40 #[.string tn, .string tt, .bool false, .int .i64 te, .slice oA on oc, .bool tch, .slice pA pn pc, .slice qA qn qc, .slice rA rn rc, .slice kA kn kc, .slice aA an ac], .ro (SlR 4 (some ⟨bC, oC, none⟩) cn (colCells cl)), .ro (PlIn ⟨⟨fA, fn, fc, fl⟩, ⟨sA, sn, sc, sl⟩⟩), .ro Wds, .tp T])
     case first =>
      cases bb
      ·go_wp2_with fail
       go_meet
       exact ⟨y0, HY0.out, K6.pick [2, 3, 4, 5, 6, 7, 8, 9, 10, 11] (by decide) rfl⟩
      ·have KC := ((((((((((K6.store 2 rfl 0 (.int .i64 x.kind)).store 2 rfl 1 (.int .i64 x.op)).store 2 rfl 2 (.bool x.nt)).store 2 rfl 3 (.int .i64 x.v.k)).store 2 rfl 4 (.int .i64 x.v.i)).store 2 rfl 5 (.string x.v.s)).store 2 rfl 6 (.string x.tab)).store 2 rfl 7 (.string x.nm)).store 2 rfl 8 (.slice x.A x.n x.c)).store 2 rfl 9 (.slice x.B x.m x.d))
       simp only [zl] at KC
       go_wp2_with fail
       go_meet
       have h2 : ok = true := (by simpa using HBO.out)
       exact ⟨x, HXK.out h2, KC.pick [2, 1, 4, 5, 6, 7, 8, 9, 10, 11] (by decide) rfl⟩
     case rest =>
      obtain ⟨y, hy, K7⟩ := hcut
      clear K6 F6 HBO HXK HY0
      have HYO := hid hy
      clear hy
      have F7 := K7.facts
      simp only [factsL, cellsF, Nat.reduceAdd, zf, zl] at F7
      go_wp2_with fail
      refine (next_any T 7 _ (K7.tp_ 9 rfl) (by omega) (by omega)).mono ?_
      rintro e w8 ⟨r, rfl, r0, r1, t8, g8⟩
      have K1 := Hold.callT K7 9 rfl g8 t8
      clear K7 F7 t8 g8
      have F1 := K1.facts
      simp only [factsL, cellsF, Nat.reduceAdd, zf, zl] at F1
      by_cases e0 : r = 0
      ·subst e0
       obtain ⟨KM, hKM, K6⟩ := K1.name
       have H1 : ∀ wv : World, Hold M (some T) w wv KM → Blk wv gn 126 #[.int .i64 y.kind, .int .i64 y.op, .bool y.nt, .int .i64 y.v.k, .int .i64 y.v.i, .string y.v.s, .string y.tab, .string y.nm, .slice y.A y.n y.c, .slice y.B y.m y.d] := fun wv h => by rw [hKM] at h; exact h.blk_ 0 rfl
       have H2 : ∀ wv : World, Hold M (some T) w wv KM → Blk wv gt 40 #[.string tn, .string tt, .bool false, .int .i64 te, .slice oA on oc, .bool tch, .slice pA pn pc, .slice qA qn qc, .slice rA rn rc, .slice kA kn kc, .slice aA an ac] := fun wv h => by rw [hKM] at h; exact h.cst_ 5 rfl
       have h4 : KM[9]? = some (.tp T) := by rw [hKM]; rfl
       have HH1 := hid H1
       have HH2 := hid H2
       have HH4 := hid h4
       have HKM := hid hKM
       clear hKM H1 H2 h4 K1
       go_wp2_with fail
       clear F1
       refine wp_region_any (by as_aux_lemma => kernel_rfl) ?_
       refine wpAny_hold 5 187 (KM) (spL [(83, ExSlot (Mut M KM) 1)]) (by as_aux_lemma => kernel_rfl) (by as_aux_lemma => kernel_rfl) (by as_aux_lemma => kernel_rfl) rfl ?_ (K6.drew) ?_
       ·exact stays_cons exSlot_mono (stays_nil _)
       simp only [zd, Act.put, List.getElem_toArray, List.getElem_cons_zero, List.getElem_cons_succ, zl]
       refine dw_val rfl rfl rfl ?_; apply Exists.intro; refine ⟨fun wv HC => ?_, ?_⟩
       ·obtain q0 := (HH1.out _ HC).cell 0; obtain q1 := (HH1.out _ HC).cell 1; obtain q2 := (HH1.out _ HC).cell 2; obtain q3 := (HH1.out _ HC).cell 3; obtain q4 := (HH1.out _ HC).cell 4; obtain q5 := (HH1.out _ HC).cell 5; obtain q6 := (HH1.out _ HC).cell 6; obtain q7 := (HH1.out _ HC).cell 7; obtain q8 := (HH1.out _ HC).cell 8; obtain q9 := (HH1.out _ HC).cell 9; go_simp <;> rfl
       simp only [Act.put, zl]
       refine dw_val rfl rfl rfl ?_; apply Exists.intro; refine ⟨fun wv HC => ?_, ?_⟩
       · go_simp <;> rfl
       simp only [Act.put, zl]
       refine dw_val rfl rfl rfl ?_; apply Exists.intro; refine ⟨fun wv HC => ?_, ?_⟩
       ·obtain q0 := (HH2.out _ HC).cell 0; go_simp <;> rfl
       simp only [Act.put, zl]
       refine dw_val rfl rfl rfl ?_; apply Exists.intro; refine ⟨fun wv HC => ?_, ?_⟩
       · go_simp <;> rfl
       simp only [Act.put, zl]
       refine dw_callR 83 (ExSlot (Mut M KM) 1) (f := 154) (args := #[.agg #[.int .i64 3, .int .i64 0, .string tn]]) rfl rfl rfl rfl (fun wv => ?_) (fun wv HC hrm hD => ?_) ?_
       ·go_simp <;> rfl
       ·refine (lit_any wv ⟨3, 0, tn⟩).mono ?_
        rintro e w5 ⟨rfl, b5⟩
        exact ⟨_, rfl, ⟨_, rfl, lit_ok _ (i64_lit 3 (by decide)) (i64_lit 0 (by decide)), fun w2 _ _ => lit_in _ w2⟩, HC.call b5, RM.below b5⟩
       rintro u wx HCx ⟨c1, rfl, hx, rx⟩
       clear HCx hx rx
       simp only [Act.put, zl]
       refine rel_nil ?_
       rintro wx3 HX
       rintro _hrm HGW
       have hu : ExSlot (Mut M KM) 1 c1.val wx3 := (GW_on (d := 83) rfl).1 (HGW 4 _ rfl (by omega))
       clear HGW _hrm
       obtain ⟨z, hz, hok, hro⟩ := hu
       rw [HKM.out] at HX hro
       rw [hz]
       rw [show z.val = .agg #[.int .i64 z.kind, .int .i64 z.op, .bool z.nt, .int .i64 z.v.k, .int .i64 z.v.i, .string z.v.s, .string z.tab, .string z.nm, .slice z.A z.n z.c, .slice z.B z.m z.d] from rfl]
       clear hz HH1 HH2 HH4 HKM K6 c1
       have HOK := hid hok
       have K2 := ((HX.add hro).alloc_cst #[.int .i64 y.kind, .int .i64 y.op, .bool y.nt, .int .i64 y.v.k, .int .i64 y.v.i, .string y.v.s, .string y.tab, .string y.nm, .slice y.A y.n y.c, .slice y.B y.m y.d, .int .i64 z.kind, .int .i64 z.op, .bool z.nt, .int .i64 z.v.k, .int .i64 z.v.i, .string z.v.s, .string z.tab, .string z.nm, .slice z.A z.n z.c, .slice z.B z.m z.d] 126).alloc_cst #[.slice (some ⟨wx3.heap.size, 0, none⟩) 2 2] 37
       rw [World.size_alloc] at K2
       have F2 := K2.facts
       simp only [factsL, cellsF, Nat.reduceAdd, zf, zl] at F2
       clear HX hro hok
       have K7 := (((((((K2.store 5 rfl 0 (.int .i64 1)).store 5 rfl 1 (.string ⟨#[108, 111, 103]⟩)).store 5 rfl 2 (.slice (some ⟨wx3.heap.size + 1, 0, none⟩) 1 1)).store 5 rfl 3 (.slice none 0 0)).store 5 rfl 4 (.slice none 0 0)).store 5 rfl 5 (.slice none 0 0)).store 5 rfl 6 (.string ⟨#[]⟩))
       simp only [zl] at K7
       have F7 := K7.facts
       simp only [factsL, cellsF, Nat.reduceAdd, zf, zl] at F7
       have KZ := K7
       have hR : Ro _ _ (AcIn 5 ⟨1, ⟨#[108, 111, 103]⟩, ⟨some ⟨wx3.heap.size + 1, 0, none⟩, 1, 1, [⟨some ⟨wx3.heap.size, 0, none⟩, 2, 2, [y, z]⟩]⟩, SlP.nil, SlP.nil, SlP.nil, ⟨#[]⟩⟩) := ((ro_block (KZ.get 0 rfl) rfl : Ro _ _ (SlR 1 (some ⟨wx3.heap.size + 1, 0, none⟩) 1 [.slice (some ⟨wx3.heap.size, 0, none⟩) 2 2])).and (exs_block (d := 1) (l := [y, z]) (KZ.get 1 rfl) rfl (fun a ha => by
        simp only [List.mem_cons, List.not_mem_nil, or_false] at ha
        rcases ha with rfl | rfl
        ·exact KZ.ro 4 rfl
        ·exact KZ.ro 2 rfl))).imp fun w2 h2 => ⟨⟨h2.1, fun r hr => by
        simp only [List.mem_cons, List.not_mem_nil, or_false] at hr
        subst hr
        exact ⟨h2.2.1, fun x hx => (h2.2.2 x hx).le (by omega)⟩⟩, SlP.nil_in _ _ _ w2, SlP.nil_in _ _ _ w2, SlP.nil_in _ _ _ w2⟩
       have HR := hid (hR.less zm)
       have HT := hid (And.intro (KZ.tp_ 12 rfl) KZ.grow)
       have HGD := hid (show AcGd 5 ⟨1, ⟨#[108, 111, 103]⟩, ⟨some ⟨wx3.heap.size + 1, 0, none⟩, 1, 1, [⟨some ⟨wx3.heap.size, 0, none⟩, 2, 2, [y, z]⟩]⟩, SlP.nil, SlP.nil, SlP.nil, ⟨#[]⟩⟩ from ⟨⟨by simp, by simp⟩, ls_one (by omega) ⟨⟨Nat.le_refl _, by simp⟩, by simp, fun a ha => by
        simp only [List.mem_cons, List.not_mem_nil, or_false] at ha
        rcases ha with rfl | rfl
        ·exact HYO.out.le (by omega)
        ·exact HOK.out.le (by omega)⟩, LsOk.nil _ _, LsOk.nil _ _, LsOk.nil _ _⟩)
       clear K2 K7 KZ hR
       go_wp2_with fail
       refine bodyPost_ret (v := .agg #[.int .i64 1, .string ⟨#[108, 111, 103]⟩, .slice (some ⟨wx3.heap.size + 1, 0, none⟩) 1 1, .slice none 0 0, .slice none 0 0, .slice none 0 0, .string ⟨#[]⟩]) ?_ rfl ?_
       ·clear HT HR HGD
        simp [results, Tryz.results100, go_sem, F7]
       ·exact ⟨⟨1, ⟨#[108, 111, 103]⟩, ⟨some ⟨wx3.heap.size + 1, 0, none⟩, 1, 1, [⟨some ⟨wx3.heap.size, 0, none⟩, 2, 2, [y, z]⟩]⟩, SlP.nil, SlP.nil, SlP.nil, ⟨#[]⟩⟩, rfl, HGD.out, HR.out, HT.out.1, HT.out.2⟩
      ·by_cases e1 : r = 1
       ·subst e1
        obtain ⟨KM, hKM, K6⟩ := K1.name
        have H1 : ∀ wv : World, Hold M (some T) w wv KM → Blk wv gn 126 #[.int .i64 y.kind, .int .i64 y.op, .bool y.nt, .int .i64 y.v.k, .int .i64 y.v.i, .string y.v.s, .string y.tab, .string y.nm, .slice y.A y.n y.c, .slice y.B y.m y.d] := fun wv h => by rw [hKM] at h; exact h.blk_ 0 rfl
        have h4 : KM[9]? = some (.tp T) := by rw [hKM]; rfl
        have HH1 := hid H1
        have HH4 := hid h4
        have HKM := hid hKM
        clear hKM H1 h4 K1
        go_wp2_with fail
        clear F1
        refine wp_region_any (by as_aux_lemma => kernel_rfl) ?_
        refine wpAny_hold 19 187 (KM) (spL [(89, ValsSlot (Mut M KM) 2 [.string ⟨#[110]⟩, .string ⟨#[109]⟩]), (91, fun u _ => NatB 2 u), (92, CellZ (Mut M KM) StrZ), (93, StrSlot), (95, fun u _ => NatB 2 u), (97, ValsSlot (Mut M KM) 2 [.string ⟨#[110]⟩, .string ⟨#[109]⟩]), (99, fun u _ => NatB 2 u), (100, CellZ (Mut M KM) StrZ), (101, StrSlot), (102, ExSlot (Mut M KM) 1), (104, fun u _ => NatB 3 u), (106, ExSlot (Mut M KM) 2), (107, ExSlot (Mut M KM) 3)]) (by as_aux_lemma => kernel_rfl) (by as_aux_lemma => kernel_rfl) (by as_aux_lemma => kernel_rfl) rfl ?_ (K6.drew) ?_
        ·exact stays_cons valsSlot_mono (stays_cons (fun _ _ _ _ h => h) (stays_cons cellZ_mono (stays_cons strSlot_mono (stays_cons (fun _ _ _ _ h => h) (stays_cons valsSlot_mono (stays_cons (fun _ _ _ _ h => h) (stays_cons cellZ_mono (stays_cons strSlot_mono (stays_cons exSlot_mono (stays_cons (fun _ _ _ _ h => h) (stays_cons exSlot_mono (stays_cons exSlot_mono (stays_nil _)))))))))))))
        simp only [zd, Act.put, List.getElem_toArray, List.getElem_cons_zero, List.getElem_cons_succ, zl]
        refine dw_new #[.string ⟨#[110]⟩, .string ⟨#[109]⟩] 9 89 (ValsSlot (Mut M KM) 2 [.string ⟨#[110]⟩, .string ⟨#[109]⟩]) (fun g => .slice (some ⟨g, 0, none⟩) 2 2) rfl rfl rfl rfl (fun wv => ?_) (fun wv HC _hrm hD hro => ?_) ?_
        ·go_simp <;> rfl
        ·exact ⟨_, rfl, rfl, ro_block (hro _ HC.mutLt) rfl⟩
        rintro ga1 wg HCg hg21
        simp only [Act.put, zl]
        clear HCg hg21
        refine dw_val rfl rfl rfl ?_; apply Exists.intro; refine ⟨fun wv HC => ?_, ?_⟩
        · go_simp <;> rfl
        simp only [Act.put, zl]
        refine dw_next 2 9 HH4.out 91 rfl rfl rfl rfl (fun wv => ?_) (fun ra1 hra1 => ?_)
        ·go_simp <;> rfl
        have ira1 : (ra1 : Int) < 2 := by omega
        have jra1 : (0 : Int) ≤ (ra1 : Int) := by omega
        simp only [Act.put, zl]
        refine dw_any 92 (CellZ (Mut M KM) StrZ) rfl rfl rfl rfl (fun wv HC hD => ?_) ?_
        ·have ha : ValsSlot (Mut M KM) 2 [.string ⟨#[110]⟩, .string ⟨#[109]⟩] (.slice (some ⟨ga1, 0, none⟩) 2 2) wv := deps_at hD 0 rfl (by as_aux_lemma => kernel_rfl) rfl rfl
         refine ⟨.pointer (some ⟨ga1, ra1, none⟩), ?_, ha.cell (by intro z hz; simp only [List.mem_cons, List.not_mem_nil, or_false] at hz; rcases hz with rfl | rfl <;> exact ⟨_, rfl⟩) hra1⟩
         go_simp
        rintro u wx HCx ⟨gz, oz, zz, rfl, hz, -⟩
        clear HCx hz
        simp only [Act.put, zl]
        refine dw_any 93 StrSlot rfl rfl rfl rfl (fun wv HC hD => ?_) ?_
        ·obtain ⟨g', o', z, e', hz, hc⟩ : CellZ (Mut M KM) StrZ (.pointer (some ⟨gz, oz, none⟩)) wv := deps_at hD 3 rfl (by as_aux_lemma => kernel_rfl) rfl rfl
         obtain ⟨rfl, rfl⟩ : gz = g' ∧ oz = o' := by injection e' with e'; injection e' with e'; injection e' with e1 e2; exact ⟨e1, e2⟩
         have hc0 := hc.now
         obtain ⟨z', rfl⟩ := hz
         refine ⟨.string z', ?_, ⟨z', rfl⟩⟩
         go_simp
        rintro u wx HCx ⟨nm1, rfl⟩
        clear HCx
        simp only [Act.put, zl]
        refine dw_val rfl rfl rfl ?_; apply Exists.intro; refine ⟨fun wv HC => ?_, ?_⟩
        · go_simp <;> rfl
        simp only [Act.put, zl]
        refine dw_next 2 9 HH4.out 95 rfl rfl rfl rfl (fun wv => ?_) (fun ro1 hro1 => ?_)
        ·go_simp <;> rfl
        have hwr1 : IntKind.i64.wrap (9 + (ro1 : Int)) = 9 + ro1 := IntWalk.i64_in _ (by omega)
        simp only [Act.put, zl]
        refine dw_val rfl rfl rfl ?_; apply Exists.intro; refine ⟨fun wv HC => ?_, ?_⟩
        · go_simp <;> rfl
        simp only [Act.put, zl]
        refine dw_new #[.string ⟨#[110]⟩, .string ⟨#[109]⟩] 9 97 (ValsSlot (Mut M KM) 2 [.string ⟨#[110]⟩, .string ⟨#[109]⟩]) (fun g => .slice (some ⟨g, 0, none⟩) 2 2) rfl rfl rfl rfl (fun wv => ?_) (fun wv HC _hrm hD hro => ?_) ?_
        ·go_simp <;> rfl
        ·exact ⟨_, rfl, rfl, ro_block (hro _ HC.mutLt) rfl⟩
        rintro ga2 wg HCg hg21
        simp only [Act.put, zl]
        clear HCg hg21
        refine dw_val rfl rfl rfl ?_; apply Exists.intro; refine ⟨fun wv HC => ?_, ?_⟩
        · go_simp <;> rfl
        simp only [Act.put, zl]
        refine dw_next 2 9 HH4.out 99 rfl rfl rfl rfl (fun wv => ?_) (fun ra2 hra2 => ?_)
        ·go_simp <;> rfl
        have ira2 : (ra2 : Int) < 2 := by omega
        have jra2 : (0 : Int) ≤ (ra2 : Int) := by omega
        simp only [Act.put, zl]
        refine dw_any 100 (CellZ (Mut M KM) StrZ) rfl rfl rfl rfl (fun wv HC hD => ?_) ?_
        ·have ha : ValsSlot (Mut M KM) 2 [.string ⟨#[110]⟩, .string ⟨#[109]⟩] (.slice (some ⟨ga2, 0, none⟩) 2 2) wv := deps_at hD 8 rfl (by as_aux_lemma => kernel_rfl) rfl rfl
         refine ⟨.pointer (some ⟨ga2, ra2, none⟩), ?_, ha.cell (by intro z hz; simp only [List.mem_cons, List.not_mem_nil, or_false] at hz; rcases hz with rfl | rfl <;> exact ⟨_, rfl⟩) hra2⟩
         go_simp
        rintro u wx HCx ⟨gz, oz, zz, rfl, hz, -⟩
        clear HCx hz
        simp only [Act.put, zl]
        refine dw_any 101 StrSlot rfl rfl rfl rfl (fun wv HC hD => ?_) ?_
        ·obtain ⟨g', o', z, e', hz, hc⟩ : CellZ (Mut M KM) StrZ (.pointer (some ⟨gz, oz, none⟩)) wv := deps_at hD 11 rfl (by as_aux_lemma => kernel_rfl) rfl rfl
         obtain ⟨rfl, rfl⟩ : gz = g' ∧ oz = o' := by injection e' with e'; injection e' with e'; injection e' with e1 e2; exact ⟨e1, e2⟩
         have hc0 := hc.now
         obtain ⟨z', rfl⟩ := hz
         refine ⟨.string z', ?_, ⟨z', rfl⟩⟩
         go_simp
        rintro u wx HCx ⟨nm2, rfl⟩
        clear HCx
        simp only [Act.put, zl]
        refine dw_callR 102 (ExSlot (Mut M KM) 1) (f := 133) (args := #[.string ⟨#[]⟩, .string nm2]) rfl rfl rfl rfl (fun wv => ?_) (fun wv HC hrm hD => ?_) ?_
        ·go_simp <;> rfl
        ·refine (col_any wv ⟨#[]⟩ nm2).mono ?_
         rintro e w5 ⟨rfl, b5⟩
         exact ⟨_, rfl, ⟨_, rfl, col_ok _ _, fun w2 _ _ => col_in _ _ w2⟩, HC.call b5, RM.below b5⟩
        rintro u wx HCx ⟨c1, rfl, hx, rx⟩
        clear HCx hx rx
        simp only [Act.put, zl]
        refine dw_val rfl rfl rfl ?_; apply Exists.intro; refine ⟨fun wv HC => ?_, ?_⟩
        · go_simp <;> rfl
        simp only [Act.put, zl]
        refine dw_next 3 9 HH4.out 104 rfl rfl rfl rfl (fun wv => ?_) (fun ro2 hro2 => ?_)
        ·go_simp <;> rfl
        have hwr2 : IntKind.i64.wrap (1 + (ro2 : Int)) = 1 + ro2 := IntWalk.i64_in _ (by omega)
        simp only [Act.put, zl]
        refine dw_val rfl rfl rfl ?_; apply Exists.intro; refine ⟨fun wv HC => ?_, ?_⟩
        · go_simp <;> rfl
        simp only [Act.put, zl]
        refine dw_callR 106 (ExSlot (Mut M KM) 2) (f := 134) (args := #[.int .i64 (1 + (ro2 : Int))]) rfl rfl rfl rfl (fun wv => ?_) (fun wv HC hrm hD => ?_) ?_
        ·go_simp <;> rfl
        ·refine (wnum_any (Mut M KM) wv HC.mutLt (1 + (ro2 : Int)) (by omega)).mono ?_
         rintro e w5 ⟨x, rfl, hx, rx, b5⟩
         exact ⟨_, rfl, ⟨x, rfl, num_ok hx (by omega) (by omega), rx⟩, HC.call b5, RM.below b5⟩
        rintro u wx HCx ⟨c2, rfl, hx, rx⟩
        clear HCx hx rx
        simp only [Act.put, zl]
        refine dw_callR 107 (ExSlot (Mut M KM) 3) (f := 132) (args := #[.int .i64 (9 + (ro1 : Int)), c1.val, c2.val]) rfl rfl rfl rfl (fun wv => ?_) (fun wv HC hrm hD => ?_) ?_
        ·go_simp <;> rfl
        ·have h1 : ExSlot (Mut M KM) 1 c1.val wv := deps_at hD 13 rfl (by as_aux_lemma => kernel_rfl) rfl rfl
         have h2 : ExSlot (Mut M KM) 2 c2.val wv := deps_at hD 17 rfl (by as_aux_lemma => kernel_rfl) rfl rfl
         obtain ⟨y1, hy1, ok1, q1⟩ := h1
         obtain ⟨y2, hy2, ok2, q2⟩ := h2
         rw [hy1, hy2]
         refine (bin_any (Mut M KM) wv HC.mutLt (9 + (ro1 : Int)) y1 y2 2 (q1.imp fun w2 h2 => h2.le (by omega)) q2).mono ?_
         rintro e w5 ⟨g5, rfl, ry, b5⟩
         exact ⟨_, rfl, ⟨_, rfl, op_ok (i64_lit 5 (by decide)) (show I64 _ from ⟨by omega, by omega⟩) (by omega) (fun a ha => by
         simp only [List.mem_cons, List.not_mem_nil, or_false] at ha
         rcases ha with rfl | rfl
         ·exact ok1.le (by omega)
         ·exact ok2), ry⟩, HC.call b5, RM.below b5⟩
        rintro u wx HCx ⟨c3, rfl, hx, rx⟩
        clear HCx hx rx
        simp only [Act.put, zl]
        refine rel_nil ?_
        rintro wx3 HX
        rintro _hrm HGW
        have hu : ExSlot (Mut M KM) 3 c3.val wx3 := (GW_on (d := 107) rfl).1 (HGW 18 _ rfl (by omega))
        clear HGW _hrm
        obtain ⟨z, hz, hok, hro⟩ := hu
        rw [HKM.out] at HX hro
        rw [hz]
        rw [show z.val = .agg #[.int .i64 z.kind, .int .i64 z.op, .bool z.nt, .int .i64 z.v.k, .int .i64 z.v.i, .string z.v.s, .string z.tab, .string z.nm, .slice z.A z.n z.c, .slice z.B z.m z.d] from rfl]
        clear hz HH1 HH4 HKM K6 c3
        have HOK := hid hok
        have K2 := (HX.add hro).alloc_cst #[.string nm1, .int .i64 z.kind, .int .i64 z.op, .bool z.nt, .int .i64 z.v.k, .int .i64 z.v.i, .string z.v.s, .string z.tab, .string z.nm, .slice z.A z.n z.c, .slice z.B z.m z.d] 128
        have F2 := K2.facts
        simp only [factsL, cellsF, Nat.reduceAdd, zf, zl] at F2
        clear HX hro hok
        have K7 := (((((((K2.store 4 rfl 0 (.int .i64 2)).store 4 rfl 1 (.string ⟨#[117]⟩)).store 4 rfl 2 (.slice none 0 0)).store 4 rfl 3 (.slice none 0 0)).store 4 rfl 4 (.slice (some ⟨wx3.heap.size, 0, none⟩) 1 1)).store 4 rfl 5 (.slice none 0 0)).store 4 rfl 6 (.string ⟨#[]⟩))
        simp only [zl] at K7
        have F7 := K7.facts
        simp only [factsL, cellsF, Nat.reduceAdd, zf, zl] at F7
        have KZ := K7
        have hR : Ro _ _ (AcIn 5 ⟨2, ⟨#[117]⟩, SlP.nil, SlP.nil, ⟨some ⟨wx3.heap.size, 0, none⟩, 1, 1, [⟨nm1, z⟩]⟩, SlP.nil, ⟨#[]⟩⟩) := ((ses_one (d := 5) (s := ⟨nm1, z⟩) (KZ.get 0 rfl) rfl ((KZ.ro 1 rfl).imp fun w2 h2 => h2.le (by omega)))).imp fun w2 h2 => ⟨SlP.nil_in _ _ _ w2, SlP.nil_in _ _ _ w2, h2, SlP.nil_in _ _ _ w2⟩
        have HR := hid (hR.less zm)
        have HT := hid (And.intro (KZ.tp_ 11 rfl) KZ.grow)
        have HGD := hid (show AcGd 5 ⟨2, ⟨#[117]⟩, SlP.nil, SlP.nil, ⟨some ⟨wx3.heap.size, 0, none⟩, 1, 1, [⟨nm1, z⟩]⟩, SlP.nil, ⟨#[]⟩⟩ from ⟨⟨by simp, by simp⟩, LsOk.nil _ _, LsOk.nil _ _, ls_one (by omega) (HOK.out.le (by omega)), LsOk.nil _ _⟩)
        clear K2 K7 KZ hR
        go_wp2_with fail
        refine bodyPost_ret (v := .agg #[.int .i64 2, .string ⟨#[117]⟩, .slice none 0 0, .slice none 0 0, .slice (some ⟨wx3.heap.size, 0, none⟩) 1 1, .slice none 0 0, .string ⟨#[]⟩]) ?_ rfl ?_
        ·clear HT HR HGD
         simp [results, Tryz.results100, go_sem, F7]
        ·exact ⟨⟨2, ⟨#[117]⟩, SlP.nil, SlP.nil, ⟨some ⟨wx3.heap.size, 0, none⟩, 1, 1, [⟨nm1, z⟩]⟩, SlP.nil, ⟨#[]⟩⟩, rfl, HGD.out, HR.out, HT.out.1, HT.out.2⟩
       ·by_cases e2 : r = 2
        ·subst e2
         go_upto_region 16 with fail
         go_cut [13] from 113 to 117 (fun v wx => ∃ c : ByteArray, v = .string c ∧ Hold M (some T) w wx [.blk gn 126 #[.int .i64 y.kind, .int .i64 y.op, .bool y.nt, .int .i64 y.v.k, .int .i64 y.v.i, .string y.v.s, .string y.tab, .string y.nm, .slice y.A y.n y.c, .slice y.B y.m y.d], .ro (ExIn 1 y), .blk gr 97 #[.int .i64 0, .string ⟨#[]⟩, .slice none 0 0, .slice none 0 0, .slice none 0 0, .slice none 0 0, .string ⟨#[]⟩], .cst gp 177 #[.slice fA fn fc, .slice sA sn sc], .cst gs 49 #[.string snm, .slice (some ⟨bC, oC, none⟩) cn cc], .cst gt 40 #[.string tn, .string tt, .bool false, .int .i64 te, .slice oA on oc, .bool tch, .slice pA pn pc, .slice qA qn qc, .slice rA rn rc, .slice kA kn kc, .slice aA an ac], .ro (SlR 4 (some ⟨bC, oC, none⟩) cn (colCells cl)), .ro (PlIn ⟨⟨fA, fn, fc, fl⟩, ⟨sA, sn, sc, sl⟩⟩), .ro Wds, .tp T])
         case first =>
          have K2 := K1.alloc_cst #[.string ⟨#[110]⟩, .string ⟨#[109]⟩] 9
          have F2 := K2.facts
          simp only [factsL, cellsF, Nat.reduceAdd, zf, zl] at F2
          clear F1
          go_wp2_with fail
          refine (next_any T 2 _ (K2.tp_ 10 rfl) (by omega) (by omega)).mono ?_
          rintro e w9 ⟨r2, rfl, r20, r21, t9, g9⟩
          have K3 := Hold.callT K2 10 rfl g9 t9
          clear K2 F2 t9 g9
          have F3 := K3.facts
          simp only [factsL, cellsF, Nat.reduceAdd, zf, zl] at F3
          obtain rfl | rfl : r2 = 0 ∨ r2 = 1 := by omega
          ·go_wp2_with fail
           go_meet
           exact ⟨_, rfl, K3.drop (List.sublist_cons_self _ _)⟩
          ·go_wp2_with fail
           go_meet
           exact ⟨_, rfl, K3.drop (List.sublist_cons_self _ _)⟩
         case rest =>
          obtain ⟨c, rfl, K2⟩ := hcut
          clear K1 F1
          go_wp2_with fail
          refine (next_any T 2 _ (K2.tp_ 9 rfl) (by omega) (by omega)).mono ?_
          rintro e w9 ⟨r2, rfl, r20, r21, t9, g9⟩
          have K3 := Hold.callT K2 9 rfl g9 t9
          have hwr2 : IntKind.i64.wrap (9 + r2) = 9 + r2 := IntWalk.i64_in _ (by omega)
          clear K2 t9 g9
          go_wp2_with fail
          refine (col_any _ ⟨#[]⟩ c).mono ?_
          rintro e wa ⟨rfl, ba⟩
          have K4 := (K3.call ba).add (S := ExIn 1 (colE ⟨#[]⟩ c)) (fun w2 _ _ => col_in _ _ w2)
          clear K3 ba
          have HC1 := hid (col_ok ⟨#[]⟩ c)
          generalize colE ⟨#[]⟩ c = z1 at *
          go_wp2_with fail
          refine (next_any T 3 _ (K4.tp_ 10 rfl) (by omega) (by omega)).mono ?_
          rintro e w9 ⟨r3, rfl, r30, r31, t9, g9⟩
          have K5 := Hold.callT K4 10 rfl g9 t9
          have hwr3 : IntKind.i64.wrap (1 + r3) = 1 + r3 := IntWalk.i64_in _ (by omega)
          clear K4 t9 g9
          go_wp2_with fail
          refine (wnum_any _ _ K5.mutLt (1 + r3) (by omega)).mono ?_
          rintro e wb ⟨z2, rfl, hz2, rz2, bb⟩
          have K6 := (K5.call bb).add rz2
          have HC2 := hid (num_ok hz2 (by omega) (by omega))
          clear K5 bb rz2 hz2
          rw [show z1.val = .agg #[.int .i64 z1.kind, .int .i64 z1.op, .bool z1.nt, .int .i64 z1.v.k, .int .i64 z1.v.i, .string z1.v.s, .string z1.tab, .string z1.nm, .slice z1.A z1.n z1.c, .slice z1.B z1.m z1.d] from rfl]
          rw [show z2.val = .agg #[.int .i64 z2.kind, .int .i64 z2.op, .bool z2.nt, .int .i64 z2.v.k, .int .i64 z2.v.i, .string z2.v.s, .string z2.tab, .string z2.nm, .slice z2.A z2.n z2.c, .slice z2.B z2.m z2.d] from rfl]
          go_wp2_with fail
          refine (bin_any (Mut M _) _ K6.mutLt (9 + r2) z1 z2 2 ((K6.ro 1 rfl).imp fun w2 h2 => h2.le (by omega)) (K6.ro 0 rfl)).mono ?_
          rintro e wd ⟨gd, rfl, rd, bd⟩
          have HC3 := hid (op_ok (d := 2) (kind := 5) (op := 9 + r2) (nt := false) (g := gd) (k := 2) (l := [z1, z2]) (i64_lit 5 (by decide)) (show I64 _ from ⟨by omega, by omega⟩) (by omega) (fun a ha => by
           simp only [List.mem_cons, List.not_mem_nil, or_false] at ha
           rcases ha with rfl | rfl
           ·exact HC1.out.le (by omega)
           ·exact HC2.out))
          generalize opE 5 (9 + r2) false gd 2 [z1, z2] = z at *
          have K7 := ((K6.call bd).add rd).alloc_cst #[.string c, .int .i64 z.kind, .int .i64 z.op, .bool z.nt, .int .i64 z.v.k, .int .i64 z.v.i, .string z.v.s, .string z.tab, .string z.nm, .slice z.A z.n z.c, .slice z.B z.m z.d] 128
          rw [show z.val = .agg #[.int .i64 z.kind, .int .i64 z.op, .bool z.nt, .int .i64 z.v.k, .int .i64 z.v.i, .string z.v.s, .string z.tab, .string z.nm, .slice z.A z.n z.c, .slice z.B z.m z.d] from rfl]
          clear K6 bd rd
          go_wp2_with fail
          refine (small_any T _ (K7.tp_ 13 rfl)).mono ?_
          rintro e we ⟨zz, rfl, zz0, zz1, te9, ge9⟩
          have K8 := Hold.callT K7 13 rfl ge9 te9
          clear K7 te9 ge9
          go_wp2_with fail
          refine (between_any (Mut M _) _ K8.mutLt c zz 9 (by omega) (by omega)).mono ?_
          rintro e wf ⟨gf, n1, n2, rfl, hn1, hn2, rf, bf⟩
          have HC4 := hid (op_ok (d := 2) (kind := 7) (op := 0) (nt := false) (g := gf) (k := 3) (l := [colE ⟨#[]⟩ c, n1, n2]) (i64_lit 7 (by decide)) (i64_lit 0 (by decide)) (by omega) (fun a ha => by
           simp only [List.mem_cons, List.not_mem_nil, or_false] at ha
           rcases ha with rfl | rfl | rfl
           ·exact (col_ok _ _).le (by omega)
           ·exact num_ok hn1 (by omega) (by omega)
           ·exact num_ok hn2 (by omega) (by omega)))
          generalize opE 7 0 false gf 3 [colE ⟨#[]⟩ c, n1, n2] = q at *
          have K2 := ((K8.call bf).add rf).alloc_cst #[.int .i64 q.kind, .int .i64 q.op, .bool q.nt, .int .i64 q.v.k, .int .i64 q.v.i, .string q.v.s, .string q.tab, .string q.nm, .slice q.A q.n q.c, .slice q.B q.m q.d] 126
          rw [show q.val = .agg #[.int .i64 q.kind, .int .i64 q.op, .bool q.nt, .int .i64 q.v.k, .int .i64 q.v.i, .string q.v.s, .string q.tab, .string q.nm, .slice q.A q.n q.c, .slice q.B q.m q.d] from rfl]
          clear K8 bf rf hn1 hn2
          have F2 := K2.facts
          simp only [factsL, cellsF, Nat.reduceAdd, zf, zl] at F2
          have K7 := (((((((K2.store 8 rfl 0 (.int .i64 2)).store 8 rfl 1 (.string ⟨#[117]⟩)).store 8 rfl 2 (.slice none 0 0)).store 8 rfl 3 (.slice none 0 0)).store 8 rfl 4 (.slice (some ⟨wd.heap.size, 0, none⟩) 1 1)).store 8 rfl 5 (.slice (some ⟨wf.heap.size, 0, none⟩) 1 1)).store 8 rfl 6 (.string ⟨#[]⟩))
          simp only [zl] at K7
          have F7 := K7.facts
          simp only [factsL, cellsF, Nat.reduceAdd, zf, zl] at F7
          have KZ := K7
          have hR : Ro _ _ (AcIn 5 ⟨2, ⟨#[117]⟩, SlP.nil, SlP.nil, ⟨some ⟨wd.heap.size, 0, none⟩, 1, 1, [⟨c, z⟩]⟩, ⟨some ⟨wf.heap.size, 0, none⟩, 1, 1, [q]⟩, ⟨#[]⟩⟩) := ((ses_one (d := 5) (s := ⟨c, z⟩) (KZ.get 2 rfl) rfl ((KZ.ro 3 rfl).imp fun w2 h2 => h2.le (by omega))).and (exl_one (KZ.get 0 rfl) rfl (KZ.ro 1 rfl))).imp fun w2 h2 => ⟨SlP.nil_in _ _ _ w2, SlP.nil_in _ _ _ w2, h2.1, h2.2.1, fun x hx => (h2.2.2 x hx).le (by omega)⟩
          have HR := hid (hR.less zm)
          have HT := hid (And.intro (KZ.tp_ 15 rfl) KZ.grow)
          have HGD := hid (show AcGd 5 ⟨2, ⟨#[117]⟩, SlP.nil, SlP.nil, ⟨some ⟨wd.heap.size, 0, none⟩, 1, 1, [⟨c, z⟩]⟩, ⟨some ⟨wf.heap.size, 0, none⟩, 1, 1, [q]⟩, ⟨#[]⟩⟩ from ⟨⟨by simp, by simp⟩, LsOk.nil _ _, LsOk.nil _ _, ls_one (by omega) (HC3.out.le (by omega)), ls_one (by omega) (HC4.out.le (by omega))⟩)
          clear K2 K7 KZ hR
          go_wp2_with fail
          refine bodyPost_ret (v := .agg #[.int .i64 2, .string ⟨#[117]⟩, .slice none 0 0, .slice none 0 0, .slice (some ⟨wd.heap.size, 0, none⟩) 1 1, .slice (some ⟨wf.heap.size, 0, none⟩) 1 1, .string ⟨#[]⟩]) ?_ rfl ?_
          ·clear HT HR HGD
           simp [results, Tryz.results100, go_sem, F7]
          ·exact ⟨⟨2, ⟨#[117]⟩, SlP.nil, SlP.nil, ⟨some ⟨wd.heap.size, 0, none⟩, 1, 1, [⟨c, z⟩]⟩, ⟨some ⟨wf.heap.size, 0, none⟩, 1, 1, [q]⟩, ⟨#[]⟩⟩, rfl, HGD.out, HR.out, HT.out.1, HT.out.2⟩
        ·by_cases e3 : r = 3
         ·subst e3
          go_upto_region 19 with fail
          go_cut [145] from 139 to 145 (fun v wx => ∃ bb : Bool, v = .bool bb ∧ Hold M (some T) w wx [.blk gn 126 #[.int .i64 y.kind, .int .i64 y.op, .bool y.nt, .int .i64 y.v.k, .int .i64 y.v.i, .string y.v.s, .string y.tab, .string y.nm, .slice y.A y.n y.c, .slice y.B y.m y.d], .ro (ExIn 1 y), .blk gr 97 #[.int .i64 0, .string ⟨#[]⟩, .slice none 0 0, .slice none 0 0, .slice none 0 0, .slice none 0 0, .string ⟨#[]⟩], .cst gp 177 #[.slice fA fn fc, .slice sA sn sc], .cst gs 49 #[.string snm, .slice (some ⟨bC, oC, none⟩) cn cc], .cst gt 40 #[.string tn, .string tt, .bool false, .int .i64 te, .slice oA on oc, .bool tch, .slice pA pn pc, .slice qA qn qc, .slice rA rn rc, .slice kA kn kc, .slice aA an ac], .ro (SlR 4 (some ⟨bC, oC, none⟩) cn (colCells cl)), .ro (PlIn ⟨⟨fA, fn, fc, fl⟩, ⟨sA, sn, sc, sl⟩⟩), .ro Wds, .tp T])
          case first =>
           cases tch
           ·go_wp2_with fail
            go_meet
            exact ⟨_, rfl, K1⟩
           ·go_wp2_with fail
            go_meet
            exact ⟨_, rfl, K1⟩
          case rest =>
           obtain ⟨bb, rfl, K2⟩ := hcut
           clear K1 F1
           have K1 := K2
           clear K2
           have F1 := K1.facts
           simp only [factsL, cellsF, Nat.reduceAdd, zf, zl] at F1
           cases bb
           ·go_wp2_with fail
            refine (change_anyG (ge_all 1) (Mut M _) T _ K1.mutLt (K1.tp_ 9 rfl) (K1.get 9 rfl).2 ⟨⟨fA, fn, fc, fl⟩, ⟨sA, sn, sc, sl⟩⟩ 1 ((K1.ro 7 rfl).less (mut_tpG (i := 9) rfl)) ((K1.ro 8 rfl).less (mut_tpG (i := 9) rfl)) hT (HBN.out 2 (by omega)) (by omega) (by omega) HS.out).mono ?_
            rintro e w9 ⟨a, rfl, ha, ra, t9, g9⟩
            have K2 := (Hold.callT K1 9 rfl g9 t9).add ra
            clear K1 F1 t9 g9 ra
            have F2 := K2.facts
            simp only [factsL, cellsF, Nat.reduceAdd, zf, zl] at F2
            rw [show a.val = .agg #[.int .i64 a.kind, .string a.tab, .slice a.rows.A a.rows.n a.rows.c, .slice a.qs.A a.qs.n a.qs.c, .slice a.sets.A a.sets.n a.sets.c, .slice a.wh.A a.wh.n a.wh.c, .string a.text] from rfl]
            have HA := hid ha
            clear ha
            have K7 := (((((((K2.store 3 rfl 0 (.int .i64 a.kind)).store 3 rfl 1 (.string (a.tab))).store 3 rfl 2 (.slice a.rows.A a.rows.n a.rows.c)).store 3 rfl 3 (.slice a.qs.A a.qs.n a.qs.c)).store 3 rfl 4 (.slice a.sets.A a.sets.n a.sets.c)).store 3 rfl 5 (.slice a.wh.A a.wh.n a.wh.c)).store 3 rfl 6 (.string (a.text)))
            simp only [zl] at K7
            have F7 := K7.facts
            simp only [factsL, cellsF, Nat.reduceAdd, zf, zl] at F7
            have KZ := K7
            have hR : Ro _ _ (AcIn 5 a) := (KZ.ro 0 rfl).imp fun w2 h2 => h2.le (by omega)
            have HR := hid (hR.less zm)
            have HT := hid (And.intro (KZ.tp_ 10 rfl) KZ.grow)
            have HGD := hid (show AcGd 5 a from HA.out.le (by omega))
            clear K2 K7 KZ hR
            go_wp2_with fail
            refine bodyPost_ret (v := .agg #[.int .i64 a.kind, .string (a.tab), .slice a.rows.A a.rows.n a.rows.c, .slice a.qs.A a.qs.n a.qs.c, .slice a.sets.A a.sets.n a.sets.c, .slice a.wh.A a.wh.n a.wh.c, .string (a.text)]) ?_ rfl ?_
            ·clear HT HR HGD
             simp [results, Tryz.results100, go_sem, F7]
            ·exact ⟨a, rfl, HGD.out, HR.out, HT.out.1, HT.out.2⟩
           ·go_upto_if 148 with (fail)
            go_cut [14] from 148 to 148 (fun v wx => ∃ q : ByteArray, v = .string q ∧ Hold M (some T) w wx [.blk gn 126 #[.int .i64 y.kind, .int .i64 y.op, .bool y.nt, .int .i64 y.v.k, .int .i64 y.v.i, .string y.v.s, .string y.tab, .string y.nm, .slice y.A y.n y.c, .slice y.B y.m y.d], .ro (ExIn 1 y), .blk gr 97 #[.int .i64 0, .string ⟨#[]⟩, .slice none 0 0, .slice none 0 0, .slice none 0 0, .slice none 0 0, .string ⟨#[]⟩], .cst gp 177 #[.slice fA fn fc, .slice sA sn sc], .cst gs 49 #[.string snm, .slice (some ⟨bC, oC, none⟩) cn cc], .cst gt 40 #[.string tn, .string tt, .bool false, .int .i64 te, .slice oA on oc, .bool tch, .slice pA pn pc, .slice qA qn qc, .slice rA rn rc, .slice kA kn kc, .slice aA an ac], .ro (SlR 4 (some ⟨bC, oC, none⟩) cn (colCells cl)), .ro (PlIn ⟨⟨fA, fn, fc, fl⟩, ⟨sA, sn, sc, sl⟩⟩), .ro Wds, .tp T])
            case first =>
             by_cases h3 : te = 3
             ·have h3b : (te == 3) = true := by simpa using h3
              go_wp2_with fail
              all_goals first
               | (exfalso; contradiction)
               | (go_meet; exact ⟨_, rfl, K1⟩)
             ·have h3b : (te == 3) = false := by simpa using h3
              go_wp2_with fail
              all_goals first
               | (exfalso; contradiction)
               | (go_meet; exact ⟨_, rfl, K1⟩)
            case rest =>
             obtain ⟨q, rfl, K2⟩ := hcut
             clear K1 F1
             go_upto_region 23 with fail
             go_cut [15] from 149 to 153 (fun v wx => ∃ o : ByteArray, v = .string o ∧ Hold M (some T) w wx [.blk gn 126 #[.int .i64 y.kind, .int .i64 y.op, .bool y.nt, .int .i64 y.v.k, .int .i64 y.v.i, .string y.v.s, .string y.tab, .string y.nm, .slice y.A y.n y.c, .slice y.B y.m y.d], .ro (ExIn 1 y), .blk gr 97 #[.int .i64 0, .string ⟨#[]⟩, .slice none 0 0, .slice none 0 0, .slice none 0 0, .slice none 0 0, .string ⟨#[]⟩], .cst gp 177 #[.slice fA fn fc, .slice sA sn sc], .cst gs 49 #[.string snm, .slice (some ⟨bC, oC, none⟩) cn cc], .cst gt 40 #[.string tn, .string tt, .bool false, .int .i64 te, .slice oA on oc, .bool tch, .slice pA pn pc, .slice qA qn qc, .slice rA rn rc, .slice kA kn kc, .slice aA an ac], .ro (SlR 4 (some ⟨bC, oC, none⟩) cn (colCells cl)), .ro (PlIn ⟨⟨fA, fn, fc, fl⟩, ⟨sA, sn, sc, sl⟩⟩), .ro Wds, .tp T])
             case first =>
              have K3 := K2.alloc_cst #[.string ⟨#[116]⟩, .string ⟨#[117]⟩] 9
              have F3 := K3.facts
              simp only [factsL, cellsF, Nat.reduceAdd, zf, zl] at F3
              go_wp2_with fail
              refine (next_any T 2 _ (K3.tp_ 10 rfl) (by omega) (by omega)).mono ?_
              rintro e w9 ⟨r2, rfl, r20, r21, t9, g9⟩
              have K4 := Hold.callT K3 10 rfl g9 t9
              clear K3 F3 t9 g9
              have F4 := K4.facts
              simp only [factsL, cellsF, Nat.reduceAdd, zf, zl] at F4
              obtain rfl | rfl : r2 = 0 ∨ r2 = 1 := by omega
              ·go_wp2_with fail
               go_meet
               exact ⟨_, rfl, K4.drop (List.sublist_cons_self _ _)⟩
              ·go_wp2_with fail
               go_meet
               exact ⟨_, rfl, K4.drop (List.sublist_cons_self _ _)⟩
             case rest =>
              obtain ⟨o, rfl, K3⟩ := hcut
              clear K2
              go_wp2_with fail
              refine (col_any _ ⟨#[]⟩ ⟨#[105, 100]⟩).mono ?_
              rintro e wa ⟨rfl, ba⟩
              have K4 := (K3.call ba).add (S := ExIn 1 (colE ⟨#[]⟩ ⟨#[105, 100]⟩)) (fun w2 _ _ => col_in _ _ w2)
              clear K3 ba
              have HC1 := hid (col_ok ⟨#[]⟩ ⟨#[105, 100]⟩)
              generalize colE ⟨#[]⟩ ⟨#[105, 100]⟩ = z1 at *
              go_wp2_with fail
              refine (col_any _ q ⟨#[105, 100]⟩).mono ?_
              rintro e wb ⟨rfl, bb⟩
              have K5 := (K4.call bb).add (S := ExIn 1 (colE q ⟨#[105, 100]⟩)) (fun w2 _ _ => col_in _ _ w2)
              clear K4 bb
              have HC2 := hid (col_ok q ⟨#[105, 100]⟩)
              generalize colE q ⟨#[105, 100]⟩ = z2 at *
              rw [show z1.val = .agg #[.int .i64 z1.kind, .int .i64 z1.op, .bool z1.nt, .int .i64 z1.v.k, .int .i64 z1.v.i, .string z1.v.s, .string z1.tab, .string z1.nm, .slice z1.A z1.n z1.c, .slice z1.B z1.m z1.d] from rfl]
              rw [show z2.val = .agg #[.int .i64 z2.kind, .int .i64 z2.op, .bool z2.nt, .int .i64 z2.v.k, .int .i64 z2.v.i, .string z2.v.s, .string z2.tab, .string z2.nm, .slice z2.A z2.n z2.c, .slice z2.B z2.m z2.d] from rfl]
              go_wp2_with fail
              refine (bin_any (Mut M _) _ K5.mutLt 3 z1 z2 1 (K5.ro 1 rfl) (K5.ro 0 rfl)).mono ?_
              rintro e wd ⟨gd, rfl, rd, bd⟩
              have HZO := hid (op_ok (d := 1) (kind := 5) (op := 3) (nt := false) (g := gd) (k := 2) (l := [z1, z2]) (i64_lit 5 (by decide)) (i64_lit 3 (by decide)) (by omega) (fun a ha => by
               simp only [List.mem_cons, List.not_mem_nil, or_false] at ha
               rcases ha with rfl | rfl
               ·exact HC1.out
               ·exact HC2.out))
              generalize opE 5 3 false gd 2 [z1, z2] = z at *
              have K7 := ((K5.call bd).add rd).alloc #[.int .i64 z.kind, .int .i64 z.op, .bool z.nt, .int .i64 z.v.k, .int .i64 z.v.i, .string z.v.s, .string z.tab, .string z.nm, .slice z.A z.n z.c, .slice z.B z.m z.d] 126
              rw [show z.val = .agg #[.int .i64 z.kind, .int .i64 z.op, .bool z.nt, .int .i64 z.v.k, .int .i64 z.v.i, .string z.v.s, .string z.tab, .string z.nm, .slice z.A z.n z.c, .slice z.B z.m z.d] from rfl]
              clear K5 bd rd
              have F7 := K7.facts
              simp only [factsL, cellsF, Nat.reduceAdd, zf, zl] at F7
              go_wp2_with fail
              obtain ⟨gw, hgw⟩ : ∃ g, g = wd.heap.size := ⟨_, rfl⟩
              rw [← hgw] at K7 ⊢
              have HGW2 := hid hgw
              clear hgw F7
              refine (bool_any T 3 _ (K7.tp_ 13 rfl) (by omega) (by omega)).mono ?_
              rintro e w9 ⟨b9, rfl, t9, g9⟩
              have K8 := Hold.callT K7 13 rfl g9 t9
              have K5 : Hold M (some T) w w9 [.blk gw 126 #[.int .i64 z.kind, .int .i64 z.op, .bool z.nt, .int .i64 z.v.k, .int .i64 z.v.i, .string z.v.s, .string z.tab, .string z.nm, .slice z.A z.n z.c, .slice z.B z.m z.d], .ro (ExIn 2 z), .blk gn 126 #[.int .i64 y.kind, .int .i64 y.op, .bool y.nt, .int .i64 y.v.k, .int .i64 y.v.i, .string y.v.s, .string y.tab, .string y.nm, .slice y.A y.n y.c, .slice y.B y.m y.d], .ro (ExIn 1 y), .blk gr 97 #[.int .i64 0, .string ⟨#[]⟩, .slice none 0 0, .slice none 0 0, .slice none 0 0, .slice none 0 0, .string ⟨#[]⟩], .cst gp 177 #[.slice fA fn fc, .slice sA sn sc], .cst gs 49 #[.string snm, .slice (some ⟨bC, oC, none⟩) cn cc], .cst gt 40 #[.string tn, .string tt, .bool false, .int .i64 te, .slice oA on oc, .bool tch, .slice pA pn pc, .slice qA qn qc, .slice rA rn rc, .slice kA kn kc, .slice aA an ac], .ro (SlR 4 (some ⟨bC, oC, none⟩) cn (colCells cl)), .ro (PlIn ⟨⟨fA, fn, fc, fl⟩, ⟨sA, sn, sc, sl⟩⟩), .ro Wds, .tp T] := K8.pick [0, 1, 4, 5, 6, 7, 8, 9, 10, 11, 12, 13] (by decide) rfl
              clear K7 K8 t9 g9
              have F5 := K5.facts
              simp only [factsL, cellsF, Nat.reduceAdd, zf, zl] at F5
              go_upto_if 159 with (fail)
              go_cut [] from 160 to 167 (fun wx => ∃ z2 : Ex, ExGd 5 z2 ∧ Hold M (some T) w wx [.blk gw 126 #[.int .i64 z2.kind, .int .i64 z2.op, .bool z2.nt, .int .i64 z2.v.k, .int .i64 z2.v.i, .string z2.v.s, .string z2.tab, .string z2.nm, .slice z2.A z2.n z2.c, .slice z2.B z2.m z2.d], .ro (ExIn 5 z2), .blk gn 126 #[.int .i64 y.kind, .int .i64 y.op, .bool y.nt, .int .i64 y.v.k, .int .i64 y.v.i, .string y.v.s, .string y.tab, .string y.nm, .slice y.A y.n y.c, .slice y.B y.m y.d], .ro (ExIn 1 y), .blk gr 97 #[.int .i64 0, .string ⟨#[]⟩, .slice none 0 0, .slice none 0 0, .slice none 0 0, .slice none 0 0, .string ⟨#[]⟩], .cst gp 177 #[.slice fA fn fc, .slice sA sn sc], .cst gs 49 #[.string snm, .slice (some ⟨bC, oC, none⟩) cn cc], .cst gt 40 #[.string tn, .string tt, .bool false, .int .i64 te, .slice oA on oc, .bool tch, .slice pA pn pc, .slice qA qn qc, .slice rA rn rc, .slice kA kn kc, .slice aA an ac], .ro (SlR 4 (some ⟨bC, oC, none⟩) cn (colCells cl)), .ro (PlIn ⟨⟨fA, fn, fc, fl⟩, ⟨sA, sn, sc, sl⟩⟩), .ro Wds, .tp T])
              case first =>
               cases b9
               ·go_wp2_with fail
                go_meet
                exact ⟨z, HZO.out.le (by omega), (K5.add ((K5.ro 1 rfl).imp (S' := ExIn 5 z) fun w2 h2 => h2.le (by omega))).pick [1, 0, 3, 4, 5, 6, 7, 8, 9, 10, 11, 12] (by decide) rfl⟩
               ·obtain ⟨KM, hKM, K6⟩ := K5.name
                have H1 : ∀ wv : World, Hold M (some T) w wv KM → Blk wv gw 126 #[.int .i64 z.kind, .int .i64 z.op, .bool z.nt, .int .i64 z.v.k, .int .i64 z.v.i, .string z.v.s, .string z.tab, .string z.nm, .slice z.A z.n z.c, .slice z.B z.m z.d] := fun wv h => by rw [hKM] at h; exact h.blk_ 0 rfl
                have H2 : ∀ wv : World, Hold M (some T) w wv KM → Blk wv gp 177 #[.slice fA fn fc, .slice sA sn sc] := fun wv h => by rw [hKM] at h; exact h.cst_ 5 rfl
                have H3 : ∀ wv : World, Hold M (some T) w wv KM → Ro wv (Mut M KM) (PlIn ⟨⟨fA, fn, fc, fl⟩, ⟨sA, sn, sc, sl⟩⟩) ∧ Ro wv (Mut M KM) Wds ∧ Tp wv T ∧ ∀ b, (Mut M KM) b → T ≤ b := fun wv h => by rw [hKM] at h ⊢; exact ⟨h.ro 9 rfl, h.ro 10 rfl, h.tp_ 11 rfl, (h.get 11 rfl).2⟩
                have h4 : KM[11]? = some (.tp T) := by rw [hKM]; rfl
                have HH1 := hid H1
                have HH2 := hid H2
                have HH3 := hid H3
                have HH4 := hid h4
                have HKM := hid hKM
                clear hKM H1 H2 H3 h4 K5
                go_wp2_with fail
                clear F5
                refine wp_region_any (by as_aux_lemma => kernel_rfl) ?_
                refine wpAny_hold 7 187 (KM) (spL [(164, SmSlot (Mut M KM)), (165, PlSlot (Mut M KM) 2), (166, ExSlot (Mut M KM) 4)]) (by as_aux_lemma => kernel_rfl) (by as_aux_lemma => kernel_rfl) (by as_aux_lemma => kernel_rfl) rfl ?_ (K6.drew) ?_
                ·exact stays_cons smSlot_mono (stays_cons plSlot_mono (stays_cons exSlot_mono (stays_nil _)))
                simp only [zd, Act.put, List.getElem_toArray, List.getElem_cons_zero, List.getElem_cons_succ, zl]
                refine dw_val rfl rfl rfl ?_; apply Exists.intro; refine ⟨fun wv HC => ?_, ?_⟩
                ·obtain q0 := (HH1.out _ HC).cell 0; obtain q1 := (HH1.out _ HC).cell 1; obtain q2 := (HH1.out _ HC).cell 2; obtain q3 := (HH1.out _ HC).cell 3; obtain q4 := (HH1.out _ HC).cell 4; obtain q5 := (HH1.out _ HC).cell 5; obtain q6 := (HH1.out _ HC).cell 6; obtain q7 := (HH1.out _ HC).cell 7; obtain q8 := (HH1.out _ HC).cell 8; obtain q9 := (HH1.out _ HC).cell 9; go_simp <;> rfl
                simp only [Act.put, zl]
                refine dw_val rfl rfl rfl ?_; apply Exists.intro; refine ⟨fun wv HC => ?_, ?_⟩
                · go_simp <;> rfl
                simp only [Act.put, zl]
                refine dw_val rfl rfl rfl ?_; apply Exists.intro; refine ⟨fun wv HC => ?_, ?_⟩
                ·obtain q0 := (HH2.out _ HC).cell 0; obtain q1 := (HH2.out _ HC).cell 1; go_simp <;> rfl
                simp only [Act.put, zl]
                refine dw_val rfl rfl rfl ?_; apply Exists.intro; refine ⟨fun wv HC => ?_, ?_⟩
                · go_simp <;> rfl
                simp only [Act.put, zl]
                refine dw_callR 164 (SmSlot (Mut M KM)) (f := 14) (args := #[.string o]) rfl rfl rfl rfl (fun wv => ?_) (fun wv HC hrm hD => ?_) ?_
                ·go_simp <;> rfl
                ·refine (schema_any (Mut M KM) wv HC.mutLt o).mono ?_
                 rintro e w5 ⟨A, m, c, rfl, hmc, hc4, r1, b5⟩
                 exact ⟨_, rfl, ⟨⟨(schemaOf o).1, ⟨A, m, c, (schemaOf o).2⟩⟩, rfl, by show m ≤ 100; omega, r1.imp fun w2 h2 => ⟨h2, fun _ _ => trivial⟩⟩, HC.call b5, RM.below b5⟩
                rintro u wx HCx ⟨s1, rfl, hs1, rs1⟩
                clear HCx hs1 rs1
                simp only [Act.put, zl]
                refine dw_callR 165 (PlSlot (Mut M KM) 2) (f := 158) (args := #[.agg #[.slice fA fn fc, .slice sA sn sc], s1.val]) rfl rfl rfl rfl (fun wv => ?_) (fun wv HC hrm hD => ?_) ?_
                ·go_simp <;> rfl
                ·have h1 : SmSlot (Mut M KM) s1.val wv := deps_at hD 4 rfl (by as_aux_lemma => kernel_rfl) rfl rfl
                 obtain ⟨s2, hs2, hn2, rs2⟩ := h1
                 rw [hs2]
                 obtain ⟨X0, X1, X2, X3⟩ := HH3.out _ HC
                 refine (inside_any (Mut M KM) wv HC.mutLt ⟨⟨fA, fn, fc, fl⟩, ⟨sA, sn, sc, sl⟩⟩ s2 X0 rs2 (by show fn ≤ 1000; omega)).mono ?_
                 rintro e w5 ⟨A, c, rfl, hc, ro5, b5⟩
                 exact ⟨_, rfl, ⟨_, rfl, plN_ins (HBN.out 3 (by omega)) hn2 hc, ro5⟩, HC.call b5, RM.below b5⟩
                rintro u wx HCx ⟨p1, rfl, hp1, rp1⟩
                clear HCx hp1 rp1
                simp only [Act.put, zl]
                refine dw_callR 166 (ExSlot (Mut M KM) 4) (f := 99) (args := #[.pointer (some ⟨T, 0, none⟩), p1.val, .int .i64 2, .int .i64 2]) rfl rfl rfl rfl (fun wv => ?_) (fun wv HC hrm hD => ?_) ?_
                ·go_simp <;> rfl
                ·have h1 : PlSlot (Mut M KM) 2 p1.val wv := deps_at hD 5 rfl (by as_aux_lemma => kernel_rfl) rfl rfl
                 obtain ⟨p2, hp2, hn2, rp2⟩ := h1
                 rw [hp2]
                 obtain ⟨X0, X1, X2, X3⟩ := HH3.out _ HC
                 refine (ge_all 2 (Mut M KM) T wv HC.mutLt X2 X3 p2 2 2 (rp2.less (mut_tpG HH4.out)) (X1.less (mut_tpG HH4.out)) hT hn2 (by omega) (by omega)).mono ?_
                 rintro e w5 ⟨x, rfl, hx, rx, t5, g5⟩
                 exact ⟨_, rfl, ⟨x, rfl, hx, rx⟩, Hold.callT HC 11 HH4.out g5 t5, RM.grown g5 (.inr ⟨_, List.mem_of_getElem? HH4.out, rfl⟩)⟩
                rintro u wx HCx ⟨c1, rfl, hx, rx⟩
                clear HCx hx rx
                simp only [Act.put, zl]
                refine rel_nil ?_
                rintro wx3 HX
                rintro _hrm HGW
                have hu : ExSlot (Mut M KM) 4 c1.val wx3 := (GW_on (d := 166) rfl).1 (HGW 6 _ rfl (by omega))
                clear HGW _hrm
                obtain ⟨v, hv, hok, hro⟩ := hu
                rw [HKM.out] at HX hro
                rw [hv]
                rw [show v.val = .agg #[.int .i64 v.kind, .int .i64 v.op, .bool v.nt, .int .i64 v.v.k, .int .i64 v.v.i, .string v.v.s, .string v.tab, .string v.nm, .slice v.A v.n v.c, .slice v.B v.m v.d] from rfl]
                clear hv HH1 HH2 HH3 HH4 HKM K6 c1
                go_wp2_with fail
                refine (bin_any (Mut M _) _ HX.mutLt 2 z v 4 ((HX.ro 1 rfl).imp fun w2 h2 => h2.le (by omega)) hro).mono ?_
                rintro e w8 ⟨g8, rfl, ry, b8⟩
                have hyok := hid (op_ok (d := 4) (kind := 5) (op := 2) (nt := false) (g := g8) (k := 2) (l := [z, v]) (i64_lit 5 (by decide)) (i64_lit 2 (by decide)) (by omega) (fun a ha => by
                 simp only [List.mem_cons, List.not_mem_nil, or_false] at ha
                 rcases ha with rfl | rfl
                 ·exact HZO.out.le (by omega)
                 ·exact hok))
                have KB := ((HX.call b8).add ry)
                generalize opE 5 2 false g8 2 [z, v] = z2 at *
                have FB := KB.facts
                simp only [factsL, cellsF, Nat.reduceAdd, zf, zl] at FB
                have KC := ((((((((((KB.store 1 rfl 0 (.int .i64 z2.kind)).store 1 rfl 1 (.int .i64 z2.op)).store 1 rfl 2 (.bool z2.nt)).store 1 rfl 3 (.int .i64 z2.v.k)).store 1 rfl 4 (.int .i64 z2.v.i)).store 1 rfl 5 (.string z2.v.s)).store 1 rfl 6 (.string z2.tab)).store 1 rfl 7 (.string z2.nm)).store 1 rfl 8 (.slice z2.A z2.n z2.c)).store 1 rfl 9 (.slice z2.B z2.m z2.d))
                simp only [zl] at KC
                rw [show z2.val = .agg #[.int .i64 z2.kind, .int .i64 z2.op, .bool z2.nt, .int .i64 z2.v.k, .int .i64 z2.v.i, .string z2.v.s, .string z2.tab, .string z2.nm, .slice z2.A z2.n z2.c, .slice z2.B z2.m z2.d] from rfl]
                clear HX b8 ry hro hok
                go_wp2_with fail
                go_meet
                exact ⟨z2, hyok.out.le (by omega), KC.pick [1, 0, 3, 4, 5, 6, 7, 8, 9, 10, 11, 12] (by decide) rfl⟩
              case rest =>
               obtain ⟨z2, hz2, K6⟩ := hcut
               clear K5 F5
               have HZ2 := hid hz2
               clear hz2
               have qa0 := (K6.blk_ 2 rfl).cell 0
               have qa1 := (K6.blk_ 2 rfl).cell 1
               have qa2 := (K6.blk_ 2 rfl).cell 2
               have qa3 := (K6.blk_ 2 rfl).cell 3
               have qa4 := (K6.blk_ 2 rfl).cell 4
               have qa5 := (K6.blk_ 2 rfl).cell 5
               have qa6 := (K6.blk_ 2 rfl).cell 6
               have qa7 := (K6.blk_ 2 rfl).cell 7
               have qa8 := (K6.blk_ 2 rfl).cell 8
               have qa9 := (K6.blk_ 2 rfl).cell 9
               have K7 := K6.alloc_cst #[.string ⟨#[110]⟩, .int .i64 y.kind, .int .i64 y.op, .bool y.nt, .int .i64 y.v.k, .int .i64 y.v.i, .string y.v.s, .string y.tab, .string y.nm, .slice y.A y.n y.c, .slice y.B y.m y.d] 128
               have qb0 := (K7.blk_ 1 rfl).cell 0
               have qb1 := (K7.blk_ 1 rfl).cell 1
               have qb2 := (K7.blk_ 1 rfl).cell 2
               have qb3 := (K7.blk_ 1 rfl).cell 3
               have qb4 := (K7.blk_ 1 rfl).cell 4
               have qb5 := (K7.blk_ 1 rfl).cell 5
               have qb6 := (K7.blk_ 1 rfl).cell 6
               have qb7 := (K7.blk_ 1 rfl).cell 7
               have qb8 := (K7.blk_ 1 rfl).cell 8
               have qb9 := (K7.blk_ 1 rfl).cell 9
               simp only [List.getElem?_toArray, List.getElem?_cons_zero, List.getElem?_cons_succ] at qa0 qb0 qa1 qb1 qa2 qb2 qa3 qb3 qa4 qb4 qa5 qb5 qa6 qb6 qa7 qb7 qa8 qb8 qa9 qb9
               have K2 := K7.alloc_cst #[.int .i64 z2.kind, .int .i64 z2.op, .bool z2.nt, .int .i64 z2.v.k, .int .i64 z2.v.i, .string z2.v.s, .string z2.tab, .string z2.nm, .slice z2.A z2.n z2.c, .slice z2.B z2.m z2.d] 126
               rw [World.size_alloc] at K2
               have F2 := K2.facts
               simp only [factsL, cellsF, Nat.reduceAdd, zf, zl] at F2
               clear K6 K7
               have K7 := (((((((K2.store 6 rfl 0 (.int .i64 2)).store 6 rfl 1 (.string o)).store 6 rfl 2 (.slice none 0 0)).store 6 rfl 3 (.slice none 0 0)).store 6 rfl 4 (.slice (some ⟨wc.heap.size, 0, none⟩) 1 1)).store 6 rfl 5 (.slice (some ⟨wc.heap.size + 1, 0, none⟩) 1 1)).store 6 rfl 6 (.string ⟨#[]⟩))
               simp only [zl] at K7
               have F7 := K7.facts
               simp only [factsL, cellsF, Nat.reduceAdd, zf, zl] at F7
               have KZ := K7
               have hR : Ro _ _ (AcIn 5 ⟨2, o, SlP.nil, SlP.nil, ⟨some ⟨wc.heap.size, 0, none⟩, 1, 1, [⟨⟨#[110]⟩, y⟩]⟩, ⟨some ⟨wc.heap.size + 1, 0, none⟩, 1, 1, [z2]⟩, ⟨#[]⟩⟩) := ((ses_one (d := 5) (s := ⟨⟨#[110]⟩, y⟩) (KZ.get 1 rfl) rfl ((KZ.ro 5 rfl).imp fun w2 h2 => h2.le (by omega))).and (exl_one (KZ.get 0 rfl) rfl (KZ.ro 3 rfl))).imp fun w2 h2 => ⟨SlP.nil_in _ _ _ w2, SlP.nil_in _ _ _ w2, h2.1, h2.2⟩
               have HR := hid (hR.less zm)
               have HT := hid (And.intro (KZ.tp_ 13 rfl) KZ.grow)
               have HGD := hid (show AcGd 5 ⟨2, o, SlP.nil, SlP.nil, ⟨some ⟨wc.heap.size, 0, none⟩, 1, 1, [⟨⟨#[110]⟩, y⟩]⟩, ⟨some ⟨wc.heap.size + 1, 0, none⟩, 1, 1, [z2]⟩, ⟨#[]⟩⟩ from ⟨⟨by simp, by simp⟩, LsOk.nil _ _, LsOk.nil _ _, ls_one (by omega) (HYO.out.le (by omega)), ls_one (by omega) HZ2.out⟩)
               clear K2 K7 KZ hR
               go_wp2_with fail
               refine bodyPost_ret (v := .agg #[.int .i64 2, .string o, .slice none 0 0, .slice none 0 0, .slice (some ⟨wc.heap.size, 0, none⟩) 1 1, .slice (some ⟨wc.heap.size + 1, 0, none⟩) 1 1, .string ⟨#[]⟩]) ?_ rfl ?_
               ·clear HT HR HGD
                simp [results, Tryz.results100, go_sem, F7]
               ·exact ⟨⟨2, o, SlP.nil, SlP.nil, ⟨some ⟨wc.heap.size, 0, none⟩, 1, 1, [⟨⟨#[110]⟩, y⟩]⟩, ⟨some ⟨wc.heap.size + 1, 0, none⟩, 1, 1, [z2]⟩, ⟨#[]⟩⟩, rfl, HGD.out, HR.out, HT.out.1, HT.out.2⟩
         ·by_cases e4 : r = 4
          ·subst e4
           obtain ⟨KM, hKM, K6⟩ := K1.name
           have H1 : ∀ wv : World, Hold M (some T) w wv KM → Blk wv gn 126 #[.int .i64 y.kind, .int .i64 y.op, .bool y.nt, .int .i64 y.v.k, .int .i64 y.v.i, .string y.v.s, .string y.tab, .string y.nm, .slice y.A y.n y.c, .slice y.B y.m y.d] := fun wv h => by rw [hKM] at h; exact h.blk_ 0 rfl
           have H3 : ∀ wv : World, Hold M (some T) w wv KM → Ro wv (Mut M KM) (ExIn 1 y) := fun wv h => by rw [hKM] at h ⊢; exact h.ro 1 rfl
           have h4 : KM[9]? = some (.tp T) := by rw [hKM]; rfl
           have HH1 := hid H1
           have HH3 := hid H3
           have HH4 := hid h4
           have HKM := hid hKM
           clear hKM H1 H3 h4 K1
           go_wp2_with fail
           clear F1
           refine wp_region_any (by as_aux_lemma => kernel_rfl) ?_
           refine wpAny_hold 5 187 (KM) (spL [(178, StrSlot), (179, ExSlot (Mut M KM) 1), (181, ExSlot (Mut M KM) 2)]) (by as_aux_lemma => kernel_rfl) (by as_aux_lemma => kernel_rfl) (by as_aux_lemma => kernel_rfl) rfl ?_ (K6.drew) ?_
           ·exact stays_cons strSlot_mono (stays_cons exSlot_mono (stays_cons exSlot_mono (stays_nil _)))
           simp only [zd, Act.put, List.getElem_toArray, List.getElem_cons_zero, List.getElem_cons_succ, zl]
           refine dw_val rfl rfl rfl ?_; apply Exists.intro; refine ⟨fun wv HC => ?_, ?_⟩
           · go_simp <;> rfl
           simp only [Act.put, zl]
           refine dw_callR 178 StrSlot (f := 96) (args := #[.pointer (some ⟨T, 0, none⟩)]) rfl rfl rfl rfl (fun wv => ?_) (fun wv HC hrm hD => ?_) ?_
           ·go_simp <;> rfl
           ·refine (tname_any (Mut M KM) T wv HC.mutLt (HC.tp_ 9 HH4.out) (HC.get 9 HH4.out).2).mono ?_
            rintro e w5 ⟨s, rfl, hs, t5, g5⟩
            exact ⟨_, rfl, ⟨s, rfl⟩, Hold.callT HC 9 HH4.out g5 t5, RM.grown g5 (.inr ⟨_, List.mem_of_getElem? HH4.out, rfl⟩)⟩
           rintro u wx HCx ⟨tab, rfl⟩
           clear HCx
           simp only [Act.put, zl]
           refine dw_callR 179 (ExSlot (Mut M KM) 1) (f := 133) (args := #[.string ⟨#[]⟩, .string ⟨#[110]⟩]) rfl rfl rfl rfl (fun wv => ?_) (fun wv HC hrm hD => ?_) ?_
           ·go_simp <;> rfl
           ·refine (col_any wv ⟨#[]⟩ ⟨#[110]⟩).mono ?_
            rintro e w5 ⟨rfl, b5⟩
            exact ⟨_, rfl, ⟨_, rfl, col_ok _ _, fun w2 _ _ => col_in _ _ w2⟩, HC.call b5, RM.below b5⟩
           rintro u wx HCx ⟨c1, rfl, hx, rx⟩
           clear HCx hx rx
           simp only [Act.put, zl]
           refine dw_val rfl rfl rfl ?_; apply Exists.intro; refine ⟨fun wv HC => ?_, ?_⟩
           ·obtain q0 := (HH1.out _ HC).cell 0; obtain q1 := (HH1.out _ HC).cell 1; obtain q2 := (HH1.out _ HC).cell 2; obtain q3 := (HH1.out _ HC).cell 3; obtain q4 := (HH1.out _ HC).cell 4; obtain q5 := (HH1.out _ HC).cell 5; obtain q6 := (HH1.out _ HC).cell 6; obtain q7 := (HH1.out _ HC).cell 7; obtain q8 := (HH1.out _ HC).cell 8; obtain q9 := (HH1.out _ HC).cell 9; go_simp <;> rfl
           simp only [Act.put, zl]
           refine dw_callR 181 (ExSlot (Mut M KM) 2) (f := 132) (args := #[.int .i64 5, c1.val, .agg #[.int .i64 y.kind, .int .i64 y.op, .bool y.nt, .int .i64 y.v.k, .int .i64 y.v.i, .string y.v.s, .string y.tab, .string y.nm, .slice y.A y.n y.c, .slice y.B y.m y.d]]) rfl rfl rfl rfl (fun wv => ?_) (fun wv HC hrm hD => ?_) ?_
           ·go_simp <;> rfl
           ·have h1 : ExSlot (Mut M KM) 1 c1.val wv := deps_at hD 2 rfl (by as_aux_lemma => kernel_rfl) rfl rfl
            obtain ⟨y1, hy1, ok1, ro1⟩ := h1
            rw [hy1]
            refine (bin_any (Mut M KM) wv HC.mutLt 5 y1 y 1 ro1 (HH3.out _ HC)).mono ?_
            rintro e w5 ⟨g5, rfl, ry, b5⟩
            exact ⟨_, rfl, ⟨_, rfl, op_ok (i64_lit 5 (by decide)) (i64_lit 5 (by decide)) (by omega) (fun a ha => by
            simp only [List.mem_cons, List.not_mem_nil, or_false] at ha
            rcases ha with rfl | rfl
            ·exact ok1
            ·exact HYO.out), ry⟩, HC.call b5, RM.below b5⟩
           rintro u wx HCx ⟨c2, rfl, hx, rx⟩
           clear HCx hx rx
           simp only [Act.put, zl]
           refine rel_nil ?_
           rintro wx3 HX
           rintro _hrm HGW
           have hu : ExSlot (Mut M KM) 2 c2.val wx3 := (GW_on (d := 181) rfl).1 (HGW 4 _ rfl (by omega))
           clear HGW _hrm
           obtain ⟨z, hz, hok, hro⟩ := hu
           rw [HKM.out] at HX hro
           rw [hz]
           rw [show z.val = .agg #[.int .i64 z.kind, .int .i64 z.op, .bool z.nt, .int .i64 z.v.k, .int .i64 z.v.i, .string z.v.s, .string z.tab, .string z.nm, .slice z.A z.n z.c, .slice z.B z.m z.d] from rfl]
           clear hz HH1 HH3 HH4 HKM K6 c2
           have HOK := hid hok
           have K2 := (HX.add hro).alloc_cst #[.int .i64 z.kind, .int .i64 z.op, .bool z.nt, .int .i64 z.v.k, .int .i64 z.v.i, .string z.v.s, .string z.tab, .string z.nm, .slice z.A z.n z.c, .slice z.B z.m z.d] 126
           have F2 := K2.facts
           simp only [factsL, cellsF, Nat.reduceAdd, zf, zl] at F2
           clear HX hro hok
           have K7 := (((((((K2.store 4 rfl 0 (.int .i64 3)).store 4 rfl 1 (.string tab)).store 4 rfl 2 (.slice none 0 0)).store 4 rfl 3 (.slice none 0 0)).store 4 rfl 4 (.slice none 0 0)).store 4 rfl 5 (.slice (some ⟨wx3.heap.size, 0, none⟩) 1 1)).store 4 rfl 6 (.string ⟨#[]⟩))
           simp only [zl] at K7
           have F7 := K7.facts
           simp only [factsL, cellsF, Nat.reduceAdd, zf, zl] at F7
           have KZ := K7
           have hR : Ro _ _ (AcIn 5 ⟨3, tab, SlP.nil, SlP.nil, SlP.nil, ⟨some ⟨wx3.heap.size, 0, none⟩, 1, 1, [z]⟩, ⟨#[]⟩⟩) := (exl_one (KZ.get 0 rfl) rfl (KZ.ro 1 rfl)).imp fun w2 h2 => ⟨SlP.nil_in _ _ _ w2, SlP.nil_in _ _ _ w2, SlP.nil_in _ _ _ w2, h2.1, fun x hx => (h2.2 x hx).le (by omega)⟩
           have HR := hid (hR.less zm)
           have HT := hid (And.intro (KZ.tp_ 11 rfl) KZ.grow)
           have HGD := hid (show AcGd 5 ⟨3, tab, SlP.nil, SlP.nil, SlP.nil, ⟨some ⟨wx3.heap.size, 0, none⟩, 1, 1, [z]⟩, ⟨#[]⟩⟩ from ⟨⟨by simp, by simp⟩, LsOk.nil _ _, LsOk.nil _ _, LsOk.nil _ _, ls_one (by omega) (HOK.out.le (by omega))⟩)
           clear K2 K7 KZ hR
           go_wp2_with fail
           refine bodyPost_ret (v := .agg #[.int .i64 3, .string tab, .slice none 0 0, .slice none 0 0, .slice none 0 0, .slice (some ⟨wx3.heap.size, 0, none⟩) 1 1, .string ⟨#[]⟩]) ?_ rfl ?_
           ·clear HT HR HGD
            simp [results, Tryz.results100, go_sem, F7]
           ·exact ⟨⟨3, tab, SlP.nil, SlP.nil, SlP.nil, ⟨some ⟨wx3.heap.size, 0, none⟩, 1, 1, [z]⟩, ⟨#[]⟩⟩, rfl, HGD.out, HR.out, HT.out.1, HT.out.2⟩
          ·have b0 : (r == 0) = false := by simpa using e0
           have b1 : (r == 1) = false := by simpa using e1
           have b2 : (r == 2) = false := by simpa using e2
           have b3 : (r == 3) = false := by simpa using e3
           have b4 : (r == 4) = false := by simpa using e4
           go_wp2_with fail
           refine (change_anyG (ge_all 1) (Mut M _) T _ K1.mutLt (K1.tp_ 9 rfl) (K1.get 9 rfl).2 ⟨⟨fA, fn, fc, fl⟩, ⟨sA, sn, sc, sl⟩⟩ 1 ((K1.ro 7 rfl).less (mut_tpG (i := 9) rfl)) ((K1.ro 8 rfl).less (mut_tpG (i := 9) rfl)) hT (HBN.out 2 (by omega)) (by omega) (by omega) HS.out).mono ?_
           rintro e w9 ⟨a, rfl, ha, ra, t9, g9⟩
           have K2 := (Hold.callT K1 9 rfl g9 t9).add ra
           clear K1 F1 t9 g9 ra
           have F2 := K2.facts
           simp only [factsL, cellsF, Nat.reduceAdd, zf, zl] at F2
           rw [show a.val = .agg #[.int .i64 a.kind, .string a.tab, .slice a.rows.A a.rows.n a.rows.c, .slice a.qs.A a.qs.n a.qs.c, .slice a.sets.A a.sets.n a.sets.c, .slice a.wh.A a.wh.n a.wh.c, .string a.text] from rfl]
           have HA := hid ha
           clear ha
           have K7 := (((((((K2.store 3 rfl 0 (.int .i64 a.kind)).store 3 rfl 1 (.string (a.tab))).store 3 rfl 2 (.slice a.rows.A a.rows.n a.rows.c)).store 3 rfl 3 (.slice a.qs.A a.qs.n a.qs.c)).store 3 rfl 4 (.slice a.sets.A a.sets.n a.sets.c)).store 3 rfl 5 (.slice a.wh.A a.wh.n a.wh.c)).store 3 rfl 6 (.string (a.text)))
           simp only [zl] at K7
           have F7 := K7.facts
           simp only [factsL, cellsF, Nat.reduceAdd, zf, zl] at F7
           have KZ := K7
           have hR : Ro _ _ (AcIn 5 a) := (KZ.ro 0 rfl).imp fun w2 h2 => h2.le (by omega)
           have HR := hid (hR.less zm)
           have HT := hid (And.intro (KZ.tp_ 10 rfl) KZ.grow)
           have HGD := hid (show AcGd 5 a from HA.out.le (by omega))
           clear K2 K7 KZ hR
           go_wp2_with fail
           refine bodyPost_ret (v := .agg #[.int .i64 a.kind, .string (a.tab), .slice a.rows.A a.rows.n a.rows.c, .slice a.qs.A a.qs.n a.qs.c, .slice a.sets.A a.sets.n a.sets.c, .slice a.wh.A a.wh.n a.wh.c, .string (a.text)]) ?_ rfl ?_
           ·clear HT HR HGD
            simp [results, Tryz.results100, go_sem, F7]
           ·exact ⟨a, rfl, HGD.out, HR.out, HT.out.1, HT.out.2⟩
   ·obtain ⟨KM, hKM, K6⟩ := K1.name
    obtain ⟨Ha, hHa⟩ : ∃ m, m = wc.heap.size := ⟨_, rfl⟩
    have HHa := hid hHa
    clear hHa
    have H1 : ∀ wv : World, Hold M (some T) w wv KM → Blk wv gs 49 #[.string snm, .slice (some ⟨bC, oC, none⟩) cn cc] := fun wv h => by rw [hKM] at h; exact h.cst_ 2 rfl
    have H2 : ∀ wv : World, Hold M (some T) w wv KM → SlR 4 (some ⟨bC, oC, none⟩) cn (colCells cl) wv := fun wv h => by rw [hKM] at h; exact (h.ro 4 rfl).now
    have h4 : KM[7]? = some (.tp T) := by rw [hKM]; rfl
    have HH1 := hid H1
    have HH2 := hid H2
    have HH4 := hid h4
    have HKM := hid hKM
    clear hKM H1 H2 h4 K1
    go_wp2_with fail
    clear F1
    refine wp_region_any (by as_aux_lemma => kernel_rfl) ?_
    refine wpAny_hold 10 187 (KM) (spL [(44, fun u _ => NatB cn u), (9, NewSlot (Mut M KM) Ha 158 #[.string ⟨#[]⟩, .int .i64 0, .bool false, .bool false])]) (by as_aux_lemma => kernel_rfl) (by as_aux_lemma => kernel_rfl) (by as_aux_lemma => kernel_rfl) rfl ?_ (K6.drew) ?_
    ·exact stays_cons (fun _ _ _ _ h => h) (stays_cons newSlot_mono (stays_nil _))
    simp only [zd, Act.put, List.getElem_toArray, List.getElem_cons_zero, List.getElem_cons_succ, zl]
    refine dw_val rfl rfl rfl ?_; apply Exists.intro; refine ⟨fun wv HC => ?_, ?_⟩
    · go_simp <;> rfl
    simp only [Act.put, zl]
    refine dw_val rfl rfl rfl ?_; apply Exists.intro; refine ⟨fun wv HC => ?_, ?_⟩
    ·obtain q1 := (HH1.out _ HC).cell 1; go_simp <;> rfl
    simp only [Act.put, zl]
    refine dw_val rfl rfl rfl ?_; apply Exists.intro; refine ⟨fun wv HC => ?_, ?_⟩
    · go_simp <;> rfl
    simp only [Act.put, zl]
    refine dw_val rfl rfl rfl ?_; apply Exists.intro; refine ⟨fun wv HC => ?_, ?_⟩
    · go_simp <;> rfl
    simp only [Act.put, zl]
    refine dw_val rfl rfl rfl ?_; apply Exists.intro; refine ⟨fun wv HC => ?_, ?_⟩
    ·obtain q1 := (HH1.out _ HC).cell 1; go_simp <;> rfl
    simp only [Act.put, zl]
    refine dw_val rfl rfl rfl ?_; apply Exists.intro; refine ⟨fun wv HC => ?_, ?_⟩
    · go_simp <;> rfl
    simp only [Act.put, zl]
    refine dw_next cn 7 HH4.out 44 rfl rfl rfl rfl (fun wv => ?_) (fun r hr => ?_)
    ·go_simp <;> rfl
    have r6 : (r : Int) < cn := by omega
    have r0 : (0 : Int) ≤ (r : Int) := by omega
    obtain ⟨⟨ynm, yty, ynn, ykey⟩, hy⟩ := get_col HLN.out hr
    have HY := hid hy
    clear hy
    simp only [Act.put, zl]
    refine dw_val rfl rfl rfl ?_; apply Exists.intro; refine ⟨fun wv HC => ?_, ?_⟩
    · go_simp <;> rfl
    simp only [Act.put, zl]
    refine dw_val rfl rfl rfl ?_; apply Exists.intro; refine ⟨fun wv HC => ?_, ?_⟩
    ·obtain ⟨b2', o2', hcA, hb2, x0, x1, x2, x3⟩ := (RdC.of_sl (HH2.out _ HC)).at_ HY.out; obtain ⟨rfl, rfl⟩ := addr_eq hcA; clear hcA; go_simp <;> rfl
    simp only [Act.put, zl]
    refine dw_new #[.string ⟨#[]⟩, .int .i64 0, .bool false, .bool false] 158 9 (NewSlot (Mut M KM) Ha 158 #[.string ⟨#[]⟩, .int .i64 0, .bool false, .bool false]) (fun g => .pointer (some ⟨g, 0, none⟩)) rfl rfl rfl rfl (fun wv => ?_) (fun wv HC hrm hD hro => ?_) ?_
    ·go_simp <;> rfl
    ·exact ⟨_, rfl, by have := hrm.1; rw [HHa.out]; exact this, hro _ HC.mutLt⟩
    rintro gk wg HCg hsl
    clear HCg hsl
    simp only [Act.put, zl]
    refine rel_nil ?_
    rintro wx2 HX
    rintro _hrm HGW
    have hu : NewSlot (Mut M KM) Ha 158 #[.string ⟨#[]⟩, .int .i64 0, .bool false, .bool false] (.pointer (some ⟨gk, 0, none⟩)) wx2 := (GW_on (d := 9) rfl).1 (HGW 9 _ rfl (by omega))
    clear HGW
    obtain ⟨gk', e', hg1, hg2⟩ := hu
    obtain rfl : gk = gk' := by injection e' with e'; injection e' with e'; injection e'
    clear e'
    rw [HHa.out] at hg1
    have HB := Hold.addFreshBlk K6.drew HX _hrm hg1 hg2.now
    rw [HKM.out] at HB
    clear HX _hrm hg2 hg1 K6 HH1 HH2 HKM HHa
    have FB := HB.facts
    simp only [factsL, cellsF, Nat.reduceAdd, zf, zl] at FB
    have K1 := (((HB.store 0 rfl 0 (.string ynm)).store 0 rfl 1 (.int .i64 yty)).store 0 rfl 2 (.bool ynn)).store 0 rfl 3 (.bool ykey)
    simp only [zl] at K1
    have F1 := K1.facts
    simp only [factsL, cellsF, Nat.reduceAdd, zf, zl] at F1
    clear HB
    go_upto_region 5 with fail
    clear FB
    generalize World.setCell _ _ _ = wb at K1 F1 ⊢
    obtain ⟨KM, hKM, K6⟩ := K1.name
    have H1 : ∀ wv : World, Hold M (some T) w wv KM → Blk wv gk 158 #[.string ynm, .int .i64 yty, .bool ynn, .bool ykey] := fun wv h => by rw [hKM] at h; exact h.blk_ 0 rfl
    have H2 : ∀ wv : World, Hold M (some T) w wv KM → Blk wv gp 177 #[.slice fA fn fc, .slice sA sn sc] := fun wv h => by rw [hKM] at h; exact h.cst_ 2 rfl
    have H3 : ∀ wv : World, Hold M (some T) w wv KM → Ro wv (Mut M KM) (PlIn ⟨⟨fA, fn, fc, fl⟩, ⟨sA, sn, sc, sl⟩⟩) ∧ Ro wv (Mut M KM) Wds ∧ Tp wv T ∧ ∀ b, (Mut M KM) b → T ≤ b := fun wv h => by rw [hKM] at h ⊢; exact ⟨h.ro 6 rfl, h.ro 7 rfl, h.tp_ 8 rfl, (h.get 8 rfl).2⟩
    have h4 : KM[8]? = some (.tp T) := by rw [hKM]; rfl
    have HH1 := hid H1
    have HH2 := hid H2
    have HH3 := hid H3
    have HH4 := hid h4
    have HKM := hid hKM
    clear hKM H1 H2 H3 h4 K1
    go_wp2_with fail
    clear F1
    refine wp_region_any (by as_aux_lemma => kernel_rfl) ?_
    refine wpAny_hold 7 187 (KM) (spL [(53, ExSlot (Mut M KM) 3)]) (by as_aux_lemma => kernel_rfl) (by as_aux_lemma => kernel_rfl) (by as_aux_lemma => kernel_rfl) rfl ?_ (K6.drew) ?_
    ·exact stays_cons exSlot_mono (stays_nil _)
    simp only [zd, Act.put, List.getElem_toArray, List.getElem_cons_zero, List.getElem_cons_succ, zl]
    refine dw_val rfl rfl rfl ?_; apply Exists.intro; refine ⟨fun wv HC => ?_, ?_⟩
    · go_simp <;> rfl
    simp only [Act.put, zl]
    refine dw_val rfl rfl rfl ?_; apply Exists.intro; refine ⟨fun wv HC => ?_, ?_⟩
    ·obtain q0 := (HH1.out _ HC).cell 0; go_simp <;> rfl
    simp only [Act.put, zl]
    refine dw_val rfl rfl rfl ?_; apply Exists.intro; refine ⟨fun wv HC => ?_, ?_⟩
    · go_simp <;> rfl
    simp only [Act.put, zl]
    refine dw_val rfl rfl rfl ?_; apply Exists.intro; refine ⟨fun wv HC => ?_, ?_⟩
    ·obtain q0 := (HH2.out _ HC).cell 0; obtain q1 := (HH2.out _ HC).cell 1; go_simp <;> rfl
    simp only [Act.put, zl]
    refine dw_val rfl rfl rfl ?_; apply Exists.intro; refine ⟨fun wv HC => ?_, ?_⟩
    · go_simp <;> rfl
    simp only [Act.put, zl]
    refine dw_val rfl rfl rfl ?_; apply Exists.intro; refine ⟨fun wv HC => ?_, ?_⟩
    ·obtain q1 := (HH1.out _ HC).cell 1; go_simp <;> rfl
    simp only [Act.put, zl]
    refine dw_callR 53 (ExSlot (Mut M KM) 3) (f := 99) (args := #[.pointer (some ⟨T, 0, none⟩), .agg #[.slice fA fn fc, .slice sA sn sc], .int .i64 yty, .int .i64 1]) rfl rfl rfl rfl (fun wv => ?_) (fun wv HC hrm hD => ?_) ?_
    ·go_simp <;> rfl
    ·obtain ⟨X0, X1, X2, X3⟩ := HH3.out _ HC
     refine (ge_all 1 (Mut M KM) T wv HC.mutLt X2 X3 ⟨⟨fA, fn, fc, fl⟩, ⟨sA, sn, sc, sl⟩⟩ yty 1 (X0.less (mut_tpG HH4.out)) (X1.less (mut_tpG HH4.out)) hT (HBN.out 1 (by omega)) (by omega) (by omega)).mono ?_
     rintro e w5 ⟨x, rfl, hx, rx, t5, g5⟩
     exact ⟨_, rfl, ⟨x, rfl, hx, rx⟩, Hold.callT HC 8 HH4.out g5 t5, RM.grown g5 (.inr ⟨_, List.mem_of_getElem? HH4.out, rfl⟩)⟩
    rintro u wx HCx ⟨x, rfl, hx, rx⟩
    clear HCx hx rx
    simp only [Act.put, zl]
    refine rel_nil ?_
    rintro wx3 HX
    rintro _hrm HGW
    have hu : ExSlot (Mut M KM) 3 x.val wx3 := (GW_on (d := 53) rfl).1 (HGW 6 _ rfl (by omega))
    clear HGW _hrm
    obtain ⟨y, hy, hok, hro⟩ := hu
    rw [HKM.out] at HX hro
    rw [hy]
    rw [show y.val = .agg #[.int .i64 y.kind, .int .i64 y.op, .bool y.nt, .int .i64 y.v.k, .int .i64 y.v.i, .string y.v.s, .string y.tab, .string y.nm, .slice y.A y.n y.c, .slice y.B y.m y.d] from rfl]
    clear hy HH1 HH2 HH3 HKM K6 x
    have HOK := hid hok
    have K2 := (HX.add hro).alloc_cst #[.string ynm, .int .i64 y.kind, .int .i64 y.op, .bool y.nt, .int .i64 y.v.k, .int .i64 y.v.i, .string y.v.s, .string y.tab, .string y.nm, .slice y.A y.n y.c, .slice y.B y.m y.d] 128
    have F2 := K2.facts
    simp only [factsL, cellsF, Nat.reduceAdd, zf, zl] at F2
    clear HX hro hok
    have K7 := (((((((K2.store 3 rfl 0 (.int .i64 5)).store 3 rfl 1 (.string ⟨#[]⟩)).store 3 rfl 2 (.slice none 0 0)).store 3 rfl 3 (.slice none 0 0)).store 3 rfl 4 (.slice (some ⟨wx3.heap.size, 0, none⟩) 1 1)).store 3 rfl 5 (.slice none 0 0)).store 3 rfl 6 (.string ⟨#[]⟩))
    simp only [zl] at K7
    have F7 := K7.facts
    simp only [factsL, cellsF, Nat.reduceAdd, zf, zl] at F7
    have KZ := K7
    have hR : Ro _ _ (AcIn 5 ⟨5, ⟨#[]⟩, SlP.nil, SlP.nil, ⟨some ⟨wx3.heap.size, 0, none⟩, 1, 1, [⟨ynm, y⟩]⟩, SlP.nil, ⟨#[]⟩⟩) := ((ses_one (d := 5) (s := ⟨ynm, y⟩) (KZ.get 0 rfl) rfl ((KZ.ro 1 rfl).imp fun w2 h2 => h2.le (by omega)))).imp fun w2 h2 => ⟨SlP.nil_in _ _ _ w2, SlP.nil_in _ _ _ w2, h2, SlP.nil_in _ _ _ w2⟩
    have HR := hid (hR.less zm)
    have HT := hid (And.intro (KZ.tp_ 10 rfl) KZ.grow)
    have HGD := hid (show AcGd 5 ⟨5, ⟨#[]⟩, SlP.nil, SlP.nil, ⟨some ⟨wx3.heap.size, 0, none⟩, 1, 1, [⟨ynm, y⟩]⟩, SlP.nil, ⟨#[]⟩⟩ from ⟨⟨by simp, by simp⟩, LsOk.nil _ _, LsOk.nil _ _, ls_one (by omega) (HOK.out.le (by omega)), LsOk.nil _ _⟩)
    clear K2 K7 KZ hR
    go_wp2_with fail
    refine bodyPost_ret (v := .agg #[.int .i64 5, .string ⟨#[]⟩, .slice none 0 0, .slice none 0 0, .slice (some ⟨wx3.heap.size, 0, none⟩) 1 1, .slice none 0 0, .string ⟨#[]⟩]) ?_ rfl ?_
    ·clear HT HR HGD
     simp [results, Tryz.results100, go_sem, F7]
    ·exact ⟨⟨5, ⟨#[]⟩, SlP.nil, SlP.nil, ⟨some ⟨wx3.heap.size, 0, none⟩, 1, 1, [⟨ynm, y⟩]⟩, SlP.nil, ⟨#[]⟩⟩, rfl, HGD.out, HR.out, HT.out.1, HT.out.2⟩
  ·go_wp2_with fail
   refine (word_any T _ (K1.tp_ 7 rfl) (K1.ro 6 rfl).now hT).mono ?_
   rintro e w2 ⟨s, rfl, hpl, hs4, t2, g2⟩
   have K2 := Hold.callT K1 7 rfl g2 t2
   clear K1 F1 t2 g2
   have F2 := K2.facts
   simp only [factsL, cellsF, Nat.reduceAdd, zf, zl] at F2
   have K7 := (((((((K2.store 0 rfl 0 (.int .i64 4)).store 0 rfl 1 (.string ⟨#[]⟩)).store 0 rfl 2 (.slice none 0 0)).store 0 rfl 3 (.slice none 0 0)).store 0 rfl 4 (.slice none 0 0)).store 0 rfl 5 (.slice none 0 0)).store 0 rfl 6 (.string s))
   simp only [zl] at K7
   have F7 := K7.facts
   simp only [factsL, cellsF, Nat.reduceAdd, zf, zl] at F7
   have KZ := K7
   have hR : Ro _ _ (AcIn 5 ⟨4, ⟨#[]⟩, SlP.nil, SlP.nil, SlP.nil, SlP.nil, s⟩) := (KZ.ro 4 rfl).imp fun w2 _ => ⟨SlP.nil_in _ _ _ w2, SlP.nil_in _ _ _ w2, SlP.nil_in _ _ _ w2, SlP.nil_in _ _ _ w2⟩
   have HR := hid (hR.less zm)
   have HT := hid (And.intro (KZ.tp_ 7 rfl) KZ.grow)
   have HGD := hid (show AcGd 5 ⟨4, ⟨#[]⟩, SlP.nil, SlP.nil, SlP.nil, SlP.nil, s⟩ from ⟨⟨by simp, by simp⟩, LsOk.nil _ _, LsOk.nil _ _, LsOk.nil _ _, LsOk.nil _ _⟩)
   clear K2 K7 KZ hR
   go_wp2_with fail
   refine bodyPost_ret (v := .agg #[.int .i64 4, .string ⟨#[]⟩, .slice none 0 0, .slice none 0 0, .slice none 0 0, .slice none 0 0, .string s]) ?_ rfl ?_
   ·clear HT HR HGD
    simp [results, Tryz.results100, go_sem, F7]
   ·exact ⟨⟨4, ⟨#[]⟩, SlP.nil, SlP.nil, SlP.nil, SlP.nil, s⟩, rfl, HGD.out, HR.out, HT.out.1, HT.out.2⟩
end Go.Proofs.YtnbbllkbefagmaaGreatDoor

namespace Go.Proofs.YtnbbllkbefagmaaGreatDoor
open Go.RowKit
/-- a trigger drawn -/
structure TgGd (d : Nat) (t : Tg) : Prop where
 e : 1 ≤ t.event ∧ t.event ≤ 3
 o : LsOk 8 t.cols (fun _ => True)
 p : LsOk 8 t.prec (fun _ => True)
 f : LsOk 8 t.foll (fun _ => True)
 r : LsOk 1 t.rank RkOk
 h : LsOk 1 t.cond (ExGd d)
 a : LsOk 4 t.acts (AcGd d)
end Go.Proofs.YtnbbllkbefagmaaGreatDoor

namespace Go.Proofs.YtnbbllkbefagmaaGreatDoor
open Go Go.RowKit
set_option linter.unusedVariables false
set_option linter.unusedSectionVars false
set_option linter.unusedSimpArgs false

section
variable {P : Program} {ops : Array Oper} {C : World → Prop} {G : Option Tmp → Value → World → Prop} {R : World → World → Prop} {n N : Nat} {F : Act → Prop}

/-- an operation that reads its slots alone -/
def plainOp (o : Oper) : Bool := match o.op with
  | .move _ => true
  | .extract _ _ => true
  | _ => false
theorem plain_run {o : Oper} (h : plainOp o = true) {a : Act} {w : World} {C : World → Prop} {G : Option Tmp → Value → World → Prop} {R : World → World → Prop} (hg : goodUpon P C G R o.dst w ((execOp a.eval o).run P w)) :
    ∃ v, (∀ w', (execOp a.eval o).run P w' = .ok (.value v) w') ∧ G o.dst v w ∧ C w ∧ R w w := by
  unfold plainOp at h
  split at h
  · rename_i x hx
    have e : ∀ w', (execOp a.eval o).run P w' = .ok (.value (a.eval x)) w' := fun w' => by
      unfold execOp; simp only [hx, Sem.run_pure]
    rw [e w] at hg
    exact ⟨_, e, hg⟩
  · rename_i t ix hx
    have e : ∀ w', (execOp a.eval o).run P w' = ((Instr.extract (a.eval t) ix).run P w').andThen fun u => (pure (.value u) : Sem Next).run P := fun w' => by
      unfold execOp; simp only [hx, Sem.run_bind]
    by_cases hv : ∃ vs v, a.eval t = .tuple vs ∧ vs[ix]? = some v
    · obtain ⟨vs, v, h1, h2⟩ := hv
      have e2 : ∀ w', (execOp a.eval o).run P w' = .ok (.value v) w' := fun w' => by
        rw [e w', h1]; unfold Instr.extract; simp only [h2, Sem.run_pure, Result.andThen_ok]
      rw [e2 w] at hg
      exact ⟨_, e2, hg⟩
    · exfalso
      have hh : ∃ x w2, (Instr.extract (a.eval t) ix).run P w = .halt x w2 := by
        unfold Instr.extract
        split
        · rename_i vs hvs
          split
          · rename_i v hvv; exact absurd ⟨vs, v, hvs, hvv⟩ hv
          · exact ⟨_, _, rfl⟩
        · exact ⟨_, _, rfl⟩
      obtain ⟨x, w2, hh⟩ := hh
      rw [e w, hh] at hg
      exact hg
  · cases h
/-- the exempt ones: they read their slots alone, and are apart from all that does not wait for them -/
def waitS (ops : Array Oper) (i : Nat) : Array Bool := ((List.range ops.size).map fun j => Region.waitsFor .any ops i j).toArray
def exB (ops : Array Oper) (E : List Nat) (n : Nat) : Bool := E.all fun i => decide (i < n) && (match ops[i]? with | some o => plainOp o | none => false) && Region.free .any ops (waitS ops i) i
def sinkE (ops : Array Oper) (S0 : Array Bool) (E : List Nat) (n : Nat) : Bool := (List.range n).all fun i => E.contains i || S0.getD i false || (List.range (n + 1)).any fun j => decide (i < j) && !E.contains j && Region.waitsFor .any ops j i
theorem free_mono {i : Nat} {oi : Oper} (hi : ops[i]? = some oi) (h : Region.free .any ops (waitS ops i) i = true) (S : Array Bool) (hS : S.size = ops.size) (hw : ∀ e ∈ oi.after, Region.binds .any e = true → S.getD e.on false = true) : Region.free .any ops S i = true := by
  simp only [Region.free, hi, List.all_eq_true, List.mem_range] at h ⊢
  intro j hj
  have h1 := h j hj
  simp only [Bool.or_eq_true] at h1 ⊢
  rcases h1 with (h1 | h1) | h1
  · exact .inl (.inl h1)
  · have h2 : Region.waitsFor .any ops i j = true := by simpa [waitS, hj] using h1
    obtain ⟨o', ho', e, he, hb, hon⟩ := Region.waitsFor_spec h2
    obtain rfl : oi = o' := Option.some.inj (hi.symm.trans ho')
    have h3 := hw e he hb
    rw [hon] at h3
    have hl : j < S.size := by omega
    exact .inl (.inr (by simpa [hl] using h3))
  · exact .inr h1
theorem tail_waitsE {S0 listed : Array Bool} {E : List Nat} (hs : sinkE ops S0 E n = true) (hc : laterB ops n = true) (hn : n < ops.size) (inv : HeadInv .any ops n listed) (h0 : ∀ j, S0.getD j false = true → listed.getD j false = true) :
    ∀ (d i : Nat), n - i = d → i < n → E.contains i = false → listed.getD i true = false → ∀ t, n ≤ t → t ∉ Region.ready .any ops listed := by
  intro d
  induction d using Nat.strongRecOn with
  | _ d ih =>
    intro i hd hi hE hun t ht hr
    obtain ⟨_, ot, hot, hall⟩ := mem_ready.1 hr
    have htlt : t < ops.size := (Array.getElem?_eq_some_iff.1 hot).1
    by_cases htn : t = n
    · subst htn
      have h1 := List.all_eq_true.1 hs i (List.mem_range.2 hi)
      have hnot : S0.getD i false = false := by
        cases hS : S0.getD i false with
        | false => rfl
        | true => have := h0 i hS; rw [getD_both hun] at this; cases this
      rw [hE, hnot, Bool.false_or, Bool.false_or] at h1
      obtain ⟨j, hj, hj2⟩ := List.any_eq_true.1 h1
      simp only [Bool.and_eq_true, decide_eq_true_eq, Bool.not_eq_true'] at hj2
      obtain ⟨oj, hoj, e, he, hb, hon⟩ := Region.waitsFor_spec hj2.2
      have hjle : j ≤ t := by have := List.mem_range.1 hj; omega
      by_cases hjt : j = t
      · subst hjt
        have : oj = ot := Option.some.inj (hoj.symm.trans hot)
        subst this
        have h2 := hall e he hb
        rw [hon, getD_both hun] at h2
        cases h2
      · cases hl : listed.getD j false with
        | true =>
          have h2 := inv.closed j oj hoj hl e he hb
          rw [hon, getD_both hun] at h2
          cases h2
        | false =>
          have hjs : j < listed.size := by rw [inv.size]; omega
          exact ih (t - j) (by omega) j rfl (by omega) hj2.1.2 (getD_in hjs hl) t (Nat.le_refl _) hr
    · have h1 := List.all_eq_true.1 hc t (List.mem_range.2 htlt)
      simp only [Bool.or_eq_true, decide_eq_true_eq] at h1
      rcases h1 with h1 | h1
      · omega
      · obtain ⟨j, hj, hj2⟩ := List.any_eq_true.1 h1
        simp only [Bool.and_eq_true, decide_eq_true_eq] at hj2
        obtain ⟨o', ho', e, he, hb, hon⟩ := Region.waitsFor_spec hj2.2
        have : o' = ot := Option.some.inj (ho'.symm.trans hot)
        subst this
        have h2 := hall e he hb
        rw [hon, getD_both (inv.tail j hj2.1 (List.mem_range.1 hj))] at h2
        cases h2
theorem wpAny_of_wkE (sh : Shape ops n N) (hmono : ∀ d u w w', R w w' → G d u w → G d u w') (hR : ∀ w, C w → R w w) (hu : ∀ w, C w → G none undef w) {g : Nat} {Q : Exit → Act → World → Prop} (S0 : Array Bool) (E : List Nat)
    (hE : ∀ i, E.contains i = true → i < n ∧ ∃ oi, ops[i]? = some oi ∧ plainOp oi = true ∧ ∀ S : Array Bool, S.size = ops.size → (∀ e ∈ oi.after, Region.binds .any e = true → S.getD e.on false = true) → Region.free .any ops S i = true) (hno : Region.noSelect ops = true) (hQ : ∀ c d v a w, Q (.panic c) (a.put d v) w → Q (.panic c) a w)
    (htail : ∀ S, HeadInv .any ops n S → (∀ j, S0.getD j false = true → S.getD j false = true) → (∃ i, i < n ∧ E.contains i = false ∧ S.getD i true = false) → ∀ t, n ≤ t → t ∉ Region.ready .any ops S)
    (hend : ∀ S a w, HeadInv .any ops n S → (∀ j, j < n → S.getD j false = true) → C w → (∀ j oj, ops[j]? = some oj → j < n → G oj.dst (slot a oj.dst) w) → F a → wpAny P .any ops Q g S a w) :
    ∀ (f : Nat) (S : Array Bool) (a : Act) (w : World), HeadInv .any ops n S → (∀ j, S0.getD j false = true → S.getD j false = true) → unl n S = f → a.tmps.size = N → Inv ops C G S a w → Wk P ops C G R S F n 0 a → wpAny P .any ops Q (f + g) S a w
  | 0, S, a, w, hd, h0s, hf, hN, hI, h => by
    have hall := unl_zero hf (by rw [hd.size]; exact sh.le)
    rw [Nat.zero_add]
    exact hend S a w hd hall hI.1 (fun j oj hj hjn => hI.2 j oj hj (hall j hjn)) (Wk.done sh hmono n 0 a w (by omega) hall hI.1 (fun j oj hj hs => hI.2 j oj hj (hs.resolve_right (by omega))) h)
  | f + 1, S, a, w, hd, h0s, hf, hN, hI, h => by
    obtain ⟨k0, hk0, hun0⟩ := unl_pos hf
    obtain ⟨k, ⟨hk, hun⟩, hmin⟩ := least (p := fun j => j < n ∧ S.getD j true = false) k0 ⟨hk0, hun0⟩
    have hrk : k ∈ Region.ready .any ops S := by
      have hks : k < ops.size := by have := sh.le; omega
      refine mem_ready.2 ⟨hun, ops[k], Array.getElem?_eq_getElem hks, fun e he hb => ?_⟩
      have hlt := sh.back k _ (Array.getElem?_eq_getElem hks) hk e he hb
      cases hS : S.getD e.on false with
      | true => rfl
      | false => exact absurd ⟨by omega, getD_in (by rw [hd.size]; have := sh.le; omega) hS⟩ (hmin e.on hlt)
    rw [show f + 1 + g = (f + g) + 1 by omega]
    have hstep : ∀ i, i < n → i ∈ Region.ready .any ops S → ∃ oi, ops[i]? = some oi ∧ StepOk P ops C G R oi a ∧ Deps ops G oi a w ∧ ∀ u w', May P ops C G oi a u → C w' → R w w' → G oi.dst u w' → wpAny P .any ops Q (f + g) (S.setIfInBounds i true) (a.put oi.dst u) w' := fun i hin hi => by
      obtain ⟨huni, oi, hoi, hall⟩ := mem_ready.1 hi
      have hunf : S.getD i false = false := getD_both huni
      have hst := Wk.ready sh hmono hR hu hoi hin hunf hall n 0 a w (by omega) (by omega) hN hI.1 (fun j oj hj hs => hI.2 j oj hj (hs.resolve_right (by omega))) h
      have hD : Deps ops G oi a w := fun e he hb oe hoe => hI.2 e.on oe hoe (hall e he hb)
      refine ⟨oi, hoi, hst, hD, fun u w' hm hC' hR' hG' => ?_⟩
      refine wpAny_of_wkE sh hmono hR hu S0 E hE hno hQ htail hend f _ _ w' (hd.set hi hin) (fun j hj => getD_set_true (h0s j hj)) ?_ (by rw [size_put]; exact hN) ⟨hC', fun j oj hj hs => ?_⟩ (Wk.front sh hmono hoi hin (by rw [hd.size]) hunf hall n 0 a (by omega) (by omega) hN hm h)
      · have := unl_set hin huni; omega
      · by_cases hji : j = i
        · subst hji
          obtain rfl : oi = oj := Option.some.inj (hoi.symm.trans hj)
          exact slots_new sh hmono hN hj hG' (fun _ => hu w' hC')
        · rw [slots_keep sh hmono (S := S) hoi hj hji]
          rw [getD_set_ne false (Ne.symm hji)] at hs
          exact hmono _ _ _ _ hR' (hI.2 j oj hj hs)
    cases hkE : E.contains k with
    | true =>
      obtain ⟨_, ok, hok, hpl, hfr⟩ := hE k hkE
      obtain ⟨oi, hoi, hst, hD, hnext⟩ := hstep k hk hrk
      obtain ⟨_, o3, ho3, hall⟩ := mem_ready.1 hrk
      obtain rfl : oi = o3 := Option.some.inj (hoi.symm.trans ho3)
      obtain rfl : ok = oi := Option.some.inj (hok.symm.trans hoi)
      by_cases hw : Region.wanted ok (yielded ops a.tmps) = true
      · unfold StepOk at hst
        simp only [hw, if_true] at hst
        have hg := hst w hI.1 hD
        unfold Good at hg
        obtain ⟨v, hv, hG, hC, hRR⟩ := plain_run hpl hg
        refine wpAny_take hok hno (hfr S hd.size hall) (by simpa using hrk) (fun c a w => hQ c _ _ a w) (.inl ⟨hw, hv⟩) (hnext v w ?_ hC hRR hG)
        unfold May
        rw [if_pos hw]
        exact ⟨w, hI.1, hD, by rw [hv w]; rfl⟩
      · unfold StepOk at hst
        rw [if_neg hw] at hst
        refine wpAny_take hok hno (hfr S hd.size hall) (by simpa using hrk) (fun c a w => hQ c _ _ a w) (.inr ⟨by simpa using hw, rfl⟩) (hnext undef w ?_ hI.1 (hR w hI.1) (hst w hI.1))
        unfold May
        rw [if_neg hw]
    | false =>
    refine ⟨fun h0 => (by rw [h0] at hrk; cases hrk), fun i hi => ?_⟩
    have hin : i < n := by
      rcases Nat.lt_or_ge i n with h' | h'
      · exact h'
      · exact absurd hi (htail S hd h0s ⟨k, hk, hkE, hun⟩ i h')
    obtain ⟨oi, hoi, hst, hD, hnext⟩ := hstep i hin hi
    unfold wpOp
    simp only [hoi]
    split
    · rename_i hw
      refine .inl (good_wp hI.1 hD hw ?_ hnext)
      unfold StepOk at hst
      simp only [hw, if_true] at hst
      exact hst w hI.1 hD
    · rename_i hw
      unfold StepOk at hst
      rw [if_neg hw] at hst
      exact hnext undef w (by unfold May; rw [if_neg hw]) hI.1 (hR w hI.1) (hst w hI.1)
def relE (ops : Array Oper) (S0 : Array Bool) (E : List Nat) (n N : Nat) : Bool :=
  Region.noSelect ops && dstsB ops N && decide (n ≤ ops.size) && backB ops n && asideB ops n && (decide (n = ops.size) || (decide (n < ops.size) && sinkE ops S0 E n && laterB ops n)) && closedB ops S0 n && exB ops E n && Region.seqB .any ops (ops.size - n) n (headList n ops.size)
theorem relE_shape {S0 : Array Bool} {E : List Nat} {n N : Nat} (h : relE ops S0 E n N = true) : Shape ops n N := by
  simp only [relE, Bool.and_eq_true, decide_eq_true_eq] at h
  obtain ⟨⟨⟨⟨⟨⟨⟨⟨hsel, hd⟩, hn⟩, hb⟩, ha⟩, _⟩, _⟩, _⟩, _⟩ := h
  refine ⟨hd, hn, fun k o hk hkn e he hbd => ?_, fun k i ok oi hki hin hk hi hno => ?_, Region.noSelect_spec hsel⟩
  · have h1 := List.all_eq_true.1 hb k (List.mem_range.2 hkn)
    simp only [hk] at h1
    have h2 := Array.all_eq_true'.1 h1 e he
    simp only [hbd, Bool.not_true, Bool.false_or, decide_eq_true_eq] at h2
    exact h2
  · have h1 := List.all_eq_true.1 (List.all_eq_true.1 ha i (List.mem_range.2 hin)) k (List.mem_range.2 hki)
    simp only [hk, hi, Bool.or_eq_true] at h1
    refine h1.resolve_left fun h2 => ?_
    obtain ⟨e, he, hb2⟩ := Array.any_eq_true'.1 h2
    simp only [Bool.and_eq_true, beq_iff_eq] at hb2
    exact hno e he hb2.1 hb2.2
/-- A region that draws its order, the operations of S0 done, E exempt: the first n operations in any order; then the others. -/
theorem wpAny_relE {Q : Exit → Act → World → Prop} {a : Act} {w : World} {l : List Oper} (S0 : Array Bool) (E : List Nat) (n N : Nat) (C : World → Prop) (G : Option Tmp → Value → World → Prop) (R : World → World → Prop) {fuel : Nat}
    (hB : relE l.toArray S0 E n N = true) (hQ : ∀ c d v a w, Q (.panic c) (a.put d v) w → Q (.panic c) a w) (hf : fuel = unl n S0 + (l.length - n)) (hN : a.tmps.size = N) (hmono : ∀ d u w w', R w w' → G d u w → G d u w') (hR : ∀ w, C w → R w w) (hu : ∀ w, C w → G none undef w) (hC : C w)
    (h0 : ∀ j oj, l[j]? = some oj → S0.getD j false = true → G oj.dst (slot a oj.dst) w)
    (h : wpRel P l.toArray C G R S0 (fun a' => ∀ w', C w' → (∀ j oj, l[j]? = some oj → j < n → G oj.dst (slot a' oj.dst) w') → wpList P l.toArray Q (l.drop n) a' w') 0 (l.take n) a) : wpAny P .any l.toArray Q fuel S0 a w := by
  have sh := relE_shape hB
  have hB' := hB
  simp only [relE, Bool.and_eq_true, Bool.or_eq_true, decide_eq_true_eq] at hB'
  obtain ⟨⟨⟨⟨⟨⟨⟨⟨hsel, hd⟩, hn⟩, hb⟩, ha⟩, hsc⟩, hcl⟩, hex⟩, hseq⟩ := hB'
  have hnl : n ≤ l.length := by simpa using hn
  have htl : (l.take n).length = n := by simp; omega
  have hw := wk_of_rel sh (l.take n) 0 a (fun j hj => by
    have hj' : j < n := by rw [htl] at hj; exact hj
    simp [hj']) (by simpa using htl) hN h
  rw [htl] at hw
  have := wpAny_of_wkE (Q := Q) (g := l.length - n) sh hmono hR hu S0 E (fun i hi => ?_) hsel hQ (fun S hI h0s hex t ht hr => ?_) (fun S a' w' hI hall hC' hg hF => ?_) _ S0 a w
    (closedB_head hcl) (fun _ h => h) rfl hN ⟨hC, fun j oj hj hs => h0 j oj (by simpa using hj) hs⟩ hw
  · rw [hf]; exact this
  · have h1 := List.all_eq_true.1 hex i (List.contains_iff_mem.1 hi)
    simp only [Bool.and_eq_true, decide_eq_true_eq] at h1
    obtain ⟨⟨h1, h2⟩, h3⟩ := h1
    have hil : i < l.toArray.size := by have : l.toArray.size = l.length := by simp
                                        omega
    have hio := Array.getElem?_eq_getElem hil
    rw [hio] at h2
    exact ⟨h1, _, hio, h2, fun S hS hw => free_mono hio h3 S hS hw⟩
  · obtain ⟨i, hi, hE, hun⟩ := hex
    rcases hsc with hsc | ⟨⟨hlt, hs⟩, hc⟩
    · have := (mem_ready.1 hr).2
      obtain ⟨o, ho, _⟩ := this
      have := (Array.getElem?_eq_some_iff.1 ho).1
      omega
    · exact tail_waitsE hs hc hlt hI h0s _ i rfl hi hE hun t ht hr
  · have hSeq := headList_eq hI.size hn hall hI.tail
    rw [show l.toArray.size = l.length from by simp] at hSeq
    rw [hSeq]
    have hdl : (l.drop n).length = l.length - n := by simp
    have := wpAny_of_seq (md := .any) (Q' := Q) (ops := l.toArray) (l.drop n) n (headList n l.length) a' w' (fun j => by simp [List.getElem?_drop]) (by rw [hdl]; simpa using hseq) (hF w' hC' fun j oj hj hjn => hg j oj (by simpa using hj) hjn)
    rwa [hdl] at this
end
section
variable {P : Program} {M : Nat → Prop} {row : Option Nat} {w0 w1 : World} {L : List Hp} {sp : SpW} {F : Act → Prop} {S0 : Array Bool}
theorem wpAny_holdE {Q : Exit → Act → World → Prop} {a : Act} {w : World} {l : List Oper} (E : List Nat) (n N : Nat) (L : List Hp) (sp : SpW) {fuel : Nat}
    (hB : relE l.toArray S0 E n N = true) (hQ : ∀ c d v a w, Q (.panic c) (a.put d v) w → Q (.panic c) a w) (hO : offW l.toArray S0 sp = true) (hf : fuel = unl n S0 + (l.length - n)) (hN : a.tmps.size = N) (hs : Stays (Mut M L) sp) (hC : Hold M row w0 w L)
    (h : wpRel P l.toArray (HC M row w0 w L) (GW sp) (RM (Mut M L)) S0 (fun a' => ∀ w', Hold M row w0 w' L → RM (Mut M L) w w' → (∀ j oj, l[j]? = some oj → j < n → GW sp oj.dst (slot a' oj.dst) w') → wpList P l.toArray Q (l.drop n) a' w') 0 (l.take n) a) : wpAny P .any l.toArray Q fuel S0 a w := by
  refine wpAny_relE S0 E n N (HC M row w0 w L) (GW sp) (RM (Mut M L)) hB hQ hf hN (fun d u w w' hr hg => ?_) (fun w _ => RM.refl _ w) (fun _ _ => trivial) ⟨hC, RM.refl _ _⟩ (fun j oj hj hs => offW_h hO (by simpa using hj) hs) (wpRel_mono (fun a' hF w' hC' hg => hF w' hC'.1 hC'.2 hg) _ _ _ h)
  unfold GW at hg ⊢
  cases hd : d.bind sp with
  | none => trivial
  | some V =>
    rw [hd] at hg
    obtain ⟨t, rfl, ht⟩ := Option.bind_eq_some_iff.1 hd
    exact hs t V ht u w w' hr hg
end
end Go.Proofs.YtnbbllkbefagmaaGreatDoor

/- DWvals: in a region that draws its order: a list of values made there, an element of it. -/
import Derived.Test.YtdkebcfkchhlmaaGreatDoorEvNoneSaidMC
import Derived.Test.YtdkebcfkchhlmaaGreatDoorEvNoneSaidMB
import Derived.Test.YtdkebcfkchhlmaaGreatDoorEvNoneSaidMA
namespace Go.Proofs.YtdkebcfkchhlmaaGreatDoor
open Go.RowKit
set_option linter.unusedVariables false
set_option linter.unusedSimpArgs false

/-- a valid table of a schema of the three -/
structure VTab (t : Tb) : Prop where
 sch : SchOk t.nm t.cs
 val : tabB t.nm t.cs t.nx t.rs = true
theorem VTab.fit {t : Tb} (h : VTab t) {l : List Rw} (hl : l.map Rw.row = t.rs) : ∀ r ∈ l, r.vs.length = t.cs.length := fun r hr => by
 obtain ⟨_, _, _, _, hok, _⟩ := tabB_ok h.val
 exact fitsT_len (okR_fits hok r.row (by rw [← hl]; exact List.mem_map_of_mem hr))
theorem VTab.rows {t : Tb} (h : VTab t) : t.rs.length ≤ 100 := (tabB_ok h.val).2.1
theorem VTab.len {t : Tb} (h : VTab t) : ∀ r ∈ t.rs, r.2.length ≤ 4 := fun r hr => by
 obtain ⟨_, _, _, _, hok, _⟩ := tabB_ok h.val
 have h1 := fitsT_len (okR_fits hok r hr)
 have h2 := h.sch.len
 omega
theorem tof_slot (M : Nat → Prop) (T : Nat) (w : World) (hM : ∀ b, M b → b < w.heap.size) (ht : Tp w T) (hMT : ∀ b, M b → T ≤ b) (nm : ByteArray) (A : Option Addr) (n c : Nat) (cs : List Col) (N : Nat) (hD : Ro w (Mut M [.tp T]) (ColsIn A n cs)) (hc1 : n ≤ c) (hc2 : c ≤ 9223372036854775807) (hs : SchOk nm cs) (hW : Ro w (Mut M [.tp T]) Wds) (hw : 1 < T) (hN : N ≤ 50) :
  Calls Tryz.prog 59 #[.pointer (some ⟨T, 0, none⟩), .agg #[.string nm, .slice A n c], .int .i64 N] w fun e w' => ∃ (v : Value) (t : Tb), e = .returned v ∧ TbAt w' M v t ∧ VTab t ∧ t.nm = nm ∧ t.cs = cs ∧ t.rs.length ≤ N ∧ Tp w' T ∧ w.grownBy w' (some T) := by
 have hn : cs.length = n := cols_n hD.now
 have hl := hs.len
 refine (tof_any M T w hM ht hMT nm A n c cs N hD hW hw (by omega) hc1 hc2 hs.col hs.val hs.key hN).mono ?_
 rintro e w' ⟨v, nx, rs, rfl, hT, hv, hr, t1, g1⟩
 exact ⟨v, _, rfl, hT, ⟨hs, hv⟩, rfl, rfl, hr, t1, g1⟩
end Go.Proofs.YtdkebcfkchhlmaaGreatDoor

namespace Go.Proofs.YtdkebcfkchhlmaaGreatDoor
open Go.RowKit
set_option linter.unusedVariables false
set_option linter.unusedSimpArgs false

structure Te where
 nm : ByteArray
 A : Option Addr
 n : Nat
 c : Nat
 cs : List Col
 nx : Int
 B : Option Addr
 m : Nat
 d : Nat
 l : List Rw
def Te.cells (x : Te) : List Value := [.string x.nm, .slice x.A x.n x.c, .int .i64 x.nx, .slice x.B x.m x.d]
def Te.val (x : Te) : Value := .agg #[.string x.nm, .slice x.A x.n x.c, .int .i64 x.nx, .slice x.B x.m x.d]
def Te.tb (x : Te) : Tb := ⟨x.nm, x.cs, x.nx, x.l.map Rw.row⟩
def TeIn (x : Te) (w : World) : Prop := ColsIn x.A x.n x.cs w ∧ RwsIn x.B x.m x.l w
structure Te.ok (x : Te) : Prop where
 nc : x.n ≤ x.c
 c : x.c ≤ 9223372036854775807
 md : x.m ≤ x.d
 d : x.d ≤ 9223372036854775807
 l : ∀ r ∈ x.l, r.ok
theorem tb_te {w : World} {M : Nat → Prop} {v : Value} {t : Tb} (h : TbAt w M v t) : ∃ x : Te, v = x.val ∧ x.tb = t ∧ x.ok ∧ Ro w M (TeIn x) := by
 obtain ⟨A, n, c, B, m, d, l, rfl, h1, h2, h3, h4, h5, h6, h7, h8⟩ := h
 exact ⟨⟨t.nm, A, n, c, t.cs, t.nx, B, m, d, l⟩, rfl, by simp only [Te.tb, h8], ⟨h1, h2, h3, h4, h7⟩, h5.and h6⟩
theorem te_tb {w : World} {M : Nat → Prop} {x : Te} (h : x.ok) (r : Ro w M (TeIn x)) : TbAt w M x.val x.tb :=
 ⟨x.A, x.n, x.c, x.B, x.m, x.d, x.l, rfl, h.nc, h.c, h.md, h.d, r.imp fun w h => h.1, r.imp fun w h => h.2, h.l, rfl⟩
/-- a table within the limits that the contracts ask -/
structure TbM (t : Tb) : Prop where
 nm : t.nm.size ≤ maxLen
 cs : ∀ x ∈ t.cs, x.name.size ≤ maxLen
 rs : t.rs.length ≤ 4398046511104
 row : ∀ r ∈ t.rs, r.2.length ≤ 4398046511104
def teCells (l : List Te) : List Value := l.flatMap Te.cells
theorem teCells_len (l : List Te) : (teCells l).length = l.length * 4 := flat_len _ 4 (fun _ => rfl) l
def TesIn (A : Option Addr) (n : Nat) (l : List Te) (w : World) : Prop := SlR 4 A n (teCells l) w ∧ ∀ x ∈ l, TeIn x w
theorem TesIn.len {w : World} {A : Option Addr} {n : Nat} {l : List Te} (h : TesIn A n l w) : l.length = n := by
 have := (show Rd w w.heap.size 4 A n (teCells l) from h.1).1
 rw [teCells_len] at this
 omega
theorem TesIn.at_ {w : World} {A : Option Addr} {n : Nat} {l : List Te} (h : TesIn A n l w) {k : Nat} {x : Te} (hx : l[k]? = some x) :
  ∃ b o, A = some ⟨b, o, none⟩ ∧ b < w.heap.size ∧ w.cell? ⟨b, o + k * 4, none⟩ = some (.string x.nm) ∧ w.cell? ⟨b, o + k * 4 + 1, none⟩ = some (.slice x.A x.n x.c) ∧ w.cell? ⟨b, o + k * 4 + 2, none⟩ = some (.int .i64 x.nx) ∧ w.cell? ⟨b, o + k * 4 + 3, none⟩ = some (.slice x.B x.m x.d) ∧ TeIn x w := by
 have hk : k < n := by rw [← h.len]; exact (List.getElem?_eq_some_iff.1 hx).1
 obtain ⟨b, o, e, hb, hc⟩ := (show Rd w w.heap.size 4 A n (teCells l) from h.1).2 (by omega)
 exact ⟨b, o, e, hb, hc _ _ (flat_get Te.cells 4 (fun _ => rfl) l k 0 x (by omega) hx), hc _ _ (flat_get Te.cells 4 (fun _ => rfl) l k 1 x (by omega) hx), hc _ _ (flat_get Te.cells 4 (fun _ => rfl) l k 2 x (by omega) hx), hc _ _ (flat_get Te.cells 4 (fun _ => rfl) l k 3 x (by omega) hx), h.2 x (List.mem_of_getElem? hx)⟩
theorem one_tes (l : List Te) : ∀ u ∈ teCells l, u.oneCell' = true := fun u hu => by
 unfold teCells at hu
 rw [List.mem_flatMap] at hu
 obtain ⟨x, _, hx⟩ := hu
 simp only [Te.cells, List.mem_cons, List.not_mem_nil, or_false] at hx
 rcases hx with rfl | rfl | rfl | rfl <;> rfl
/-- a literal list of tables in a new block -/
theorem tes_block {w : World} {M : Nat → Prop} {g : Nat} {t : TypeId} {cs : Array Value} {l : List Te} (h : Ro w M (fun w => w.heap[g]? = some (.cells cs t (0, 0)))) (hl : cs.toList = teCells l) (hr : ∀ x ∈ l, Ro w M (TeIn x)) : Ro w M (TesIn (some ⟨g, 0, none⟩) l.length l) := by
 have h1 : Ro w M (SlR 4 (some ⟨g, 0, none⟩) l.length cs.toList) := ro_block h (by rw [hl, teCells_len])
 rw [hl] at h1
 exact h1.and fun w2 a b x hx => hr x hx w2 a b
end Go.Proofs.YtdkebcfkchhlmaaGreatDoor

namespace Go.Proofs.YtdkebcfkchhlmaaGreatDoor
open Go.RowKit
set_option linter.unusedVariables false
set_option linter.unusedSimpArgs false
set_option maxRecDepth 100000 in
theorem copyRows_nil (w : World) : Calls Tryz.prog 54 #[.slice none 0 0] w fun e w' => e = .returned (.slice none 0 0) ∧ Below w.heap.size w w' := by
 have K0 := Hold.start None_ w zn
 go_enter Tryz.func54, Tryz.ntmps54
 go_wp2_with fail
 go_loopw [3, 8] (fun ov iv wr => ov = .slice none 0 0 ∧ iv = .int .i64 0 ∧ Hold None_ none w wr []) (fun _ _ _ => 0)
 case atStart => exact ⟨rfl, rfl, K0⟩
 case round =>
  clear K0
  obtain ⟨rfl, rfl, H⟩ := hrel
  have HB := hid H.below
  go_wp2_with fail
  go_ret
  exact ⟨rfl, HB.out⟩
structure TrOk (s : Sm) (x : Te) : Prop where
 n : x.n = s.cols.n
 c : x.n ≤ x.c
 c2 : x.c ≤ 9223372036854775807
 z : x.B = none ∧ x.m = 0 ∧ x.d = 0 ∧ x.l = []
def TrRet (w : World) (M : Nat → Prop) (s : Sm) (e : Ending) (w' : World) : Prop := ∃ x : Te, e = .returned x.val ∧ TrOk s x ∧ Ro w' M (TeIn x) ∧ Below w.heap.size w w'
theorem colCells_snoc (l : List Col) (n : ByteArray) (t : Int) : colCells l ++ (#[.string n, .int .i64 t, .bool false, .bool false] : Array Value).toList = colCells (l ++ [⟨n, t, false, false⟩]) := by simp [colCells, Col.cells]
set_option maxRecDepth 100000 in
set_option maxHeartbeats 8000000 in
theorem transition_nil (M : Nat → Prop) (w : World) (hM : ∀ b, M b → b < w.heap.size) (name : ByteArray) (s : Sm) (hs : Ro w M (SmIn s)) (hn : 1 ≤ s.cols.n ∧ s.cols.n ≤ 1000) : Calls Tryz.prog 131 #[.string name, s.val, .slice none 0 0] w fun e w' => TrRet w M s e w' := by
 obtain ⟨snm, ⟨cA, cn, cc, cl⟩⟩ := s
 have hcn : 1 ≤ cn ∧ cn ≤ 1000 := hn
 obtain ⟨b, o, eA, -, -⟩ := (show Rd w w.heap.size 4 cA cn (colCells cl) from hs.now.1).2 (by omega)
 subst eA
 have HLN := hid (show cl.length = cn from (RdC.of_sl (show SlR 4 (some ⟨b, o, none⟩) cn (colCells cl) w from hs.now.1)).len)
 have K0 := ((((Hold.start M w hM).add (hs.less (by simp [Mut]))).add ((hs.imp (S' := SlR 4 (some ⟨b, o, none⟩) cn (colCells cl)) fun w2 h2 => h2.1).less (by simp [mut_cons, Mut, Hp.foot]))).alloc_cst #[.string snm, .slice (some ⟨b, o, none⟩) cn cc] 49).alloc #[.string ⟨#[]⟩, .slice none 0 0, .int .i64 0, .slice none 0 0] 58
 obtain ⟨gs, hgs⟩ : ∃ g, g = w.heap.size := ⟨_, rfl⟩
 rw [World.size_alloc, ← hgs] at K0
 obtain ⟨gr, hgr⟩ : ∃ g, g = gs + 1 := ⟨_, rfl⟩
 rw [← hgr] at K0
 simp only [Sm.val]
 clear hs
 go_enter Tryz.func131, Tryz.ntmps131
 go_wp2_with fail
 rw [← hgs]
 try rw [← hgr]
 have HG := hid (And.intro hgs hgr)
 clear hgs hgr
 refine (copyRows_nil _).mono ?_
 rintro e w1 ⟨rfl, b1⟩
 have K1 := K0.call b1
 have K2 := (K1.alloc #[.string name, .slice none 0 0, .int .i64 1, .slice none 0 0] 58).nil 162 4
 obtain ⟨gt, hgt⟩ : ∃ g, g = w1.heap.size := ⟨_, rfl⟩
 rw [← hgt] at K2
 have K3 : Hold M none w _ [.own 162 4 (.slice none 0 0) 0 [], .blk gt 58 #[.string name, .slice none 0 0, .int .i64 1, .slice none 0 0], .ro (SlR 4 (some ⟨b, o, none⟩) cn (colCells cl)), .cst gs 49 #[.string snm, .slice (some ⟨b, o, none⟩) cn cc], .blk gr 58 #[.string ⟨#[]⟩, .slice none 0 0, .int .i64 0, .slice none 0 0]] := K2.pick [0, 1, 4, 3, 2] (by decide) rfl
 have F2 := K2.facts
 simp only [factsL, cellsF, Nat.reduceAdd, zf, zl] at F2
 rw [hgt] at F2
 clear K0 K1 K2 b1
 go_wp2_with fail
 try rw [← hgt]
 have HGT := hid hgt
 clear hgt F2
 go_loopw [18] (fun iv wr => ∃ (j cap : Nat) (O : Option Addr) (outs : List Col), j ≤ cn ∧ iv = .int .i64 j ∧ Hold M none w wr [.own 162 4 (.slice O j cap) j (colCells outs), .blk gt 58 #[.string name, .slice O j cap, .int .i64 1, .slice none 0 0], .ro (SlR 4 (some ⟨b, o, none⟩) cn (colCells cl)), .cst gs 49 #[.string snm, .slice (some ⟨b, o, none⟩) cn cc], .blk gr 58 #[.string ⟨#[]⟩, .slice none 0 0, .int .i64 0, .slice none 0 0]]) (fun iv _ => cn - (intOf iv).toNat)
 case atStart => exact ⟨0, 0, none, [], by omega, rfl, K3⟩
 case round =>
  clear K3
  obtain ⟨j, cap, O, outs, hj, rfl, H⟩ := hrel
  by_cases hlt : j < cn
  ·obtain ⟨⟨xnm, xty, xnn, xkey⟩, hc⟩ := get_col HLN.out hlt
   obtain ⟨b2', o2', hcA, hb2, x0, x1, x2, x3⟩ := (RdC.of_sl (H.ro 2 rfl).now).at_ hc
   obtain ⟨rfl, rfl⟩ : b = b2' ∧ o = o2' := by injection hcA with hcA; injection hcA with e1 e2; exact ⟨e1, e2⟩
   clear hcA
   simp only at x0 x1 x2 x3
   clear hc
   have K2 := H.alloc_cst #[.string xnm, .int .i64 xty, .bool xnn, .bool xkey] 162
   have F2 := K2.facts
   simp only [factsL, cellsF, Nat.reduceAdd, zf, zl] at F2
   clear H
   go_wp2_with (at_builtin; go_must (refine wpList_appH K2 1 rfl Tryz.elCol #[.string xnm, .int .i64 xty, .bool false, .bool false] rfl (.tmp 24) (.tmp 30) rfl rfl _ (by first | rfl | simp) rfl rfl (by intro u hu; simp at hu; rcases hu with rfl | rfl | rfl | rfl <;> rfl) (by omega) (by omega) ?_); intro gA capA wA hcA hmA KA; rw [colCells_snoc outs xnm xty] at KA; simp only [zl] at KA; have FA := KA.facts; simp only [factsL, cellsF, Nat.reduceAdd, zf, zl] at FA)
   have KB := KA.store 2 rfl 1 (.slice (some ⟨gA, 0, none⟩) (j + 1) capA)
   simp only [zl] at KB
   go_roundw
   case rel => exact ⟨j + 1, capA, _, outs ++ [⟨xnm, xty, false, false⟩], by omega, by go_num, KB.pick [1, 2, 3, 4, 5] (by decide) rfl⟩
   case measure => simp [intOf]; omega
  ·obtain rfl : cn = j := by omega
   have F := H.facts
   simp only [factsL, cellsF, Nat.reduceAdd, zf, zl] at F
   have K6 := (((H.store 4 rfl 0 (.string name)).store 4 rfl 1 (.slice O cn cap)).store 4 rfl 2 (.int .i64 1)).store 4 rfl 3 (.slice none 0 0)
   simp only [zl] at K6
   have F6 := K6.facts
   simp only [factsL, cellsF, Nat.reduceAdd, zf, zl] at F6
   have hcap := own_caps (H.get 0 rfl)
   have KZ := K6.sealRow 0 rfl
   simp only [List.set_cons_zero] at KZ
   have hR : Ro _ _ (TeIn ⟨name, O, cn, cap, outs, 1, none, 0, 0, []⟩) := (KZ.ro 0 rfl).imp fun w2 h2 => ⟨h2, ⟨slr_nil 2 w2, fun _ hx => (nomatch hx)⟩⟩
   have HR := hid (hR.less zm)
   have HB := hid KZ.below
   clear KZ hR K6 H
   go_wp2_with fail
   refine bodyPost_ret (v := .agg #[.string name, .slice O cn cap, .int .i64 1, .slice none 0 0]) ?_ rfl ?_
   ·clear HR HB
    simp [results, Tryz.results131, go_sem, F6]
   ·exact ⟨⟨name, O, cn, cap, outs, 1, none, 0, 0, []⟩, rfl, ⟨rfl, hcap.1, hcap.2.1, rfl, rfl, rfl, rfl⟩, HR.out, HB.out⟩
/-- the answer of Transitions -/
def TrsRet (w : World) (M : Nat → Prop) (s : Sm) (e : Ending) (w' : World) : Prop := ∃ (A : Option Addr) (c : Nat) (l : List Te), e = .returned (.slice A l.length c) ∧ l.length ≤ 2 ∧ l.length ≤ c ∧ c ≤ 9223372036854775807 ∧ (∀ x ∈ l, TrOk s x) ∧ Ro w' M (TesIn A l.length l) ∧ Below w.heap.size w w'
def TrSlot (M : Nat → Prop) (s : Sm) (u : Value) (w : World) : Prop := ∃ x : Te, u = x.val ∧ TrOk s x ∧ Ro w M (TeIn x)
theorem trSlot_mono {M : Nat → Prop} {s : Sm} (u : Value) (w w' : World) (hr : RM M w w') (h : TrSlot M s u w) : TrSlot M s u w' := by
 obtain ⟨y, h1, h2, h3⟩ := h
 exact ⟨y, h1, h2, hr.ro h3⟩
set_option maxRecDepth 100000 in
set_option maxHeartbeats 8000000 in
theorem transitions_nil (M : Nat → Prop) (w : World) (hM : ∀ b, M b → b < w.heap.size) (t : Tg) (s : Sm) (hs : Ro w M (SmIn s)) (hn : 1 ≤ s.cols.n ∧ s.cols.n ≤ 1000) : Calls Tryz.prog 82 #[t.val, s.val, .agg #[.string ⟨#[]⟩, .slice none 0 0, .slice none 0 0, .slice none 0 0]] w fun e w' => TrsRet w M s e w' := by
 obtain ⟨tn, tt, tb, te, ⟨oA, on, oc, ol⟩, tch, ⟨pA, pn, pc, pl⟩, ⟨qA, qn, qc, ql⟩, ⟨rA, rn, rc, rl⟩, ⟨kA, kn, kc, kl⟩, ⟨aA, an, ac, al⟩⟩ := t
 obtain ⟨snm, ⟨cA, cn, cc, cl⟩⟩ := s
 have K0 := ((((Hold.start M w hM).add (hs.less (by simp [Mut]))).alloc_cst #[.string tn, .string tt, .bool tb, .int .i64 te, .slice oA on oc, .bool tch, .slice pA pn pc, .slice qA qn qc, .slice rA rn rc, .slice kA kn kc, .slice aA an ac] 40).alloc_cst #[.string snm, .slice cA cn cc] 49).alloc_cst #[.string ⟨#[]⟩, .slice none 0 0, .slice none 0 0, .slice none 0 0] 44
 rw [World.size_alloc, World.size_alloc] at K0
 obtain ⟨gt, hgt⟩ : ∃ g, g = w.heap.size := ⟨_, rfl⟩
 rw [← hgt] at K0
 obtain ⟨gs, hgs⟩ : ∃ g, g = gt + 1 := ⟨_, rfl⟩
 obtain ⟨gd, hgd⟩ : ∃ g, g = gs + 1 := ⟨_, rfl⟩
 rw [← hgs, ← hgd] at K0
 have F0 := K0.facts
 simp only [factsL, cellsF, Nat.reduceAdd, zf, zl] at F0
 rw [hgd, hgs, hgt] at F0
 simp only [Tg.val, Sm.val]
 clear hs
 go_enter Tryz.func82, Tryz.ntmps82
 cases tb
 ·cases tch
  ·go_wp2_with fail
   rw [← hgt, ← hgs, ← hgd]
   have HG := hid (And.intro hgt (And.intro hgs hgd))
   clear hgt hgs hgd F0
   go_loopw [7, 8, 20] (fun ov nv iv wr => ov = .slice none 0 0 ∧ nv = .slice none 0 0 ∧ iv = .int .i64 0 ∧ Hold M none w wr [.cst gd 44 #[.string ⟨#[]⟩, .slice none 0 0, .slice none 0 0, .slice none 0 0], .cst gs 49 #[.string snm, .slice cA cn cc], .cst gt 40 #[.string tn, .string tt, .bool false, .int .i64 te, .slice oA on oc, .bool false, .slice pA pn pc, .slice qA qn qc, .slice rA rn rc, .slice kA kn kc, .slice aA an ac], .ro (SmIn ⟨snm, ⟨cA, cn, cc, cl⟩⟩)]) (fun _ _ _ _ => 0)
   case atStart => exact ⟨rfl, rfl, rfl, K0⟩
   case round =>
    clear K0
    obtain ⟨rfl, rfl, rfl, H⟩ := hrel
    have F := H.facts
    simp only [factsL, cellsF, Nat.reduceAdd, zf, zl] at F
    by_cases e1 : te = 1
    ·skip
     subst e1
     go_wp2_with fail
     refine (transition_nil (Mut M _) _ H.mutLt ⟨#[73, 78, 83, 69, 82, 84, 69, 68]⟩ ⟨snm, ⟨cA, cn, cc, cl⟩⟩ (H.ro 3 rfl) hn).mono ?_
     rintro e w2 ⟨x, rfl, hx, rx, b2⟩
     have K5 := ((H.call b2).add rx).alloc_cst #[.string x.nm, .slice x.A x.n x.c, .int .i64 x.nx, .slice x.B x.m x.d] 58
     rw [show x.val = .agg #[.string x.nm, .slice x.A x.n x.c, .int .i64 x.nx, .slice x.B x.m x.d] from rfl]
     have hR : Ro _ _ (TesIn (some ⟨w2.heap.size, 0, none⟩) 1 [x]) := tes_block (l := [x]) (K5.get 0 rfl) (by simp [teCells, Te.cells]) (fun z hz => by
      simp only [List.mem_cons, List.not_mem_nil, or_false] at hz
      subst hz
      exact K5.ro 1 rfl)
     have HR := hid (hR.less zm)
     have HB := hid K5.below
     clear H F b2 rx K5 hR
     go_wp2_with fail
     go_ret
     exact ⟨_, 1, [x], rfl, by simp, by simp, by simp, fun z hz => by
      simp only [List.mem_cons, List.not_mem_nil, or_false] at hz
      subst hz
      exact hx, HR.out, HB.out⟩
    ·by_cases e3 : te = 3
     ·skip
      subst e3
      go_wp2_with fail
      refine (transition_nil (Mut M _) _ H.mutLt ⟨#[68, 69, 76, 69, 84, 69, 68]⟩ ⟨snm, ⟨cA, cn, cc, cl⟩⟩ (H.ro 3 rfl) hn).mono ?_
      rintro e w2 ⟨x, rfl, hx, rx, b2⟩
      have K5 := ((H.call b2).add rx).alloc_cst #[.string x.nm, .slice x.A x.n x.c, .int .i64 x.nx, .slice x.B x.m x.d] 58
      rw [show x.val = .agg #[.string x.nm, .slice x.A x.n x.c, .int .i64 x.nx, .slice x.B x.m x.d] from rfl]
      have hR : Ro _ _ (TesIn (some ⟨w2.heap.size, 0, none⟩) 1 [x]) := tes_block (l := [x]) (K5.get 0 rfl) (by simp [teCells, Te.cells]) (fun z hz => by
       simp only [List.mem_cons, List.not_mem_nil, or_false] at hz
       subst hz
       exact K5.ro 1 rfl)
      have HR := hid (hR.less zm)
      have HB := hid K5.below
      clear H F b2 rx K5 hR
      go_wp2_with fail
      go_ret
      exact ⟨_, 1, [x], rfl, by simp, by simp, by simp, fun z hz => by
       simp only [List.mem_cons, List.not_mem_nil, or_false] at hz
       subst hz
       exact hx, HR.out, HB.out⟩
     ·by_cases e2 : te = 2
      ·skip
       subst e2
       obtain ⟨KL, hKL⟩ : ∃ KL : List Hp, KL = [.cst gd 44 #[.string ⟨#[]⟩, .slice none 0 0, .slice none 0 0, .slice none 0 0], .cst gs 49 #[.string snm, .slice cA cn cc], .cst gt 40 #[.string tn, .string tt, .bool false, .int .i64 2, .slice oA on oc, .bool false, .slice pA pn pc, .slice qA qn qc, .slice rA rn rc, .slice kA kn kc, .slice aA an ac], .ro (SmIn ⟨snm, ⟨cA, cn, cc, cl⟩⟩)] := ⟨_, rfl⟩
       have hcast : ∀ (L1 : List Hp) (wz : World), Hold M none w wz L1 → L1 = KL → Hold M none w wz KL := fun _ _ h e => e ▸ h
       have K6 := hcast _ _ H hKL.symm
       have H1 : ∀ wv : World, Hold M none w wv KL → Blk wv gs 49 #[.string snm, .slice cA cn cc] := fun wv h => by rw [hKL] at h; exact h.cst_ 1 rfl
       have H2 : ∀ wv : World, Hold M none w wv KL → Ro wv (Mut M KL) (SmIn ⟨snm, ⟨cA, cn, cc, cl⟩⟩) := fun wv h => by rw [hKL] at h ⊢; exact h.ro 3 rfl
       have HH1 := hid H1
       have HH2 := hid H2
       have HKL := hid hKL
       clear hKL hcast H1 H2 H
       go_wp2_with fail
       clear F
       refine wp_region_any (by kernel_rfl) ?_
       refine wpAny_hold 6 66 (KL) (spL [(61, TrSlot (Mut M KL) ⟨snm, ⟨cA, cn, cc, cl⟩⟩), (64, TrSlot (Mut M KL) ⟨snm, ⟨cA, cn, cc, cl⟩⟩)]) (by kernel_rfl) (by kernel_rfl) (by kernel_rfl) rfl ?_ (K6.drew) ?_
       ·exact stays_cons trSlot_mono (stays_cons trSlot_mono (stays_nil _))
       simp only [zd, Act.put, List.getElem_toArray, List.getElem_cons_zero, List.getElem_cons_succ, zl]
       refine dw_val rfl rfl rfl ?_; apply Exists.intro; refine ⟨fun wv HC => ?_, ?_⟩
       ·obtain q0 := (HH1.out _ HC).cell 0; obtain q1 := (HH1.out _ HC).cell 1; go_simp <;> rfl
       simp only [Act.put, zl]
       refine dw_val rfl rfl rfl ?_; apply Exists.intro; refine ⟨fun wv HC => ?_, ?_⟩
       · go_simp <;> rfl
       simp only [Act.put, zl]
       refine dw_callR 61 (TrSlot (Mut M KL) ⟨snm, ⟨cA, cn, cc, cl⟩⟩) (f := 131) (args := #[.string ⟨#[68, 69, 76, 69, 84, 69, 68]⟩, .agg #[.string snm, .slice cA cn cc], .slice none 0 0]) rfl rfl rfl rfl (fun wv => ?_) (fun wv HC hrm hD => ?_) ?_
       ·go_simp <;> rfl
       ·refine (transition_nil (Mut M KL) wv HC.mutLt ⟨#[68, 69, 76, 69, 84, 69, 68]⟩ ⟨snm, ⟨cA, cn, cc, cl⟩⟩ (HH2.out _ HC) hn).mono ?_
        rintro e w5 ⟨x, rfl, hx, rx, b5⟩
        exact ⟨_, rfl, ⟨x, rfl, hx, rx⟩, HC.call b5, RM.below b5⟩
       rintro u wx HCx ⟨x, rfl, hx, rx⟩
       clear HCx hx rx
       simp only [Act.put, zl]
       refine dw_val rfl rfl rfl ?_; apply Exists.intro; refine ⟨fun wv HC => ?_, ?_⟩
       ·obtain q0 := (HH1.out _ HC).cell 0; obtain q1 := (HH1.out _ HC).cell 1; go_simp <;> rfl
       simp only [Act.put, zl]
       refine dw_val rfl rfl rfl ?_; apply Exists.intro; refine ⟨fun wv HC => ?_, ?_⟩
       · go_simp <;> rfl
       simp only [Act.put, zl]
       refine dw_callR 64 (TrSlot (Mut M KL) ⟨snm, ⟨cA, cn, cc, cl⟩⟩) (f := 131) (args := #[.string ⟨#[73, 78, 83, 69, 82, 84, 69, 68]⟩, .agg #[.string snm, .slice cA cn cc], .slice none 0 0]) rfl rfl rfl rfl (fun wv => ?_) (fun wv HC hrm hD => ?_) ?_
       ·go_simp <;> rfl
       ·refine (transition_nil (Mut M KL) wv HC.mutLt ⟨#[73, 78, 83, 69, 82, 84, 69, 68]⟩ ⟨snm, ⟨cA, cn, cc, cl⟩⟩ (HH2.out _ HC) hn).mono ?_
        rintro e w5 ⟨x, rfl, hx, rx, b5⟩
        exact ⟨_, rfl, ⟨x, rfl, hx, rx⟩, HC.call b5, RM.below b5⟩
       rintro u wx HCx ⟨y, rfl, hx, rx⟩
       clear HCx hx rx
       simp only [Act.put, zl]
       refine rel_nil ?_
       rintro wx2 HX
       rintro _hrm HG
       have hu : TrSlot (Mut M KL) ⟨snm, ⟨cA, cn, cc, cl⟩⟩ x.val wx2 := (GW_on (d := 61) rfl).1 (HG 2 _ rfl (by omega))
       have hu2 : TrSlot (Mut M KL) ⟨snm, ⟨cA, cn, cc, cl⟩⟩ y.val wx2 := (GW_on (d := 64) rfl).1 (HG 5 _ rfl (by omega))
       clear HG _hrm
       obtain ⟨x1, hy1, hok1, hro1⟩ := hu
       obtain ⟨x2, hy2, hok2, hro2⟩ := hu2
       rw [HKL.out] at HX hro1 hro2
       rw [hy1, hy2]
       clear hy1 hy2 x y HH1 HH2 HKL
       have K5 := (((HX.add hro1).add (hro2.less (by intro b hb; simpa [mut_cons, Hp.foot] using hb)))).alloc_cst #[.string x1.nm, .slice x1.A x1.n x1.c, .int .i64 x1.nx, .slice x1.B x1.m x1.d, .string x2.nm, .slice x2.A x2.n x2.c, .int .i64 x2.nx, .slice x2.B x2.m x2.d] 58
       rw [show x1.val = .agg #[.string x1.nm, .slice x1.A x1.n x1.c, .int .i64 x1.nx, .slice x1.B x1.m x1.d] from rfl, show x2.val = .agg #[.string x2.nm, .slice x2.A x2.n x2.c, .int .i64 x2.nx, .slice x2.B x2.m x2.d] from rfl]
       have hR : Ro _ _ (TesIn (some ⟨wx2.heap.size, 0, none⟩) 2 [x1, x2]) := tes_block (l := [x1, x2]) (K5.get 0 rfl) (by simp [teCells, Te.cells]) (fun z hz => by
        simp only [List.mem_cons, List.not_mem_nil, or_false] at hz
        rcases hz with rfl | rfl
        ·exact K5.ro 2 rfl
        ·exact K5.ro 1 rfl)
       have HR := hid (hR.less zm)
       have HB := hid K5.below
       clear HX hro1 hro2 K5 hR
       go_wp2_with fail
       go_ret
       exact ⟨_, 2, [x1, x2], rfl, by simp, by simp, by simp, fun z hz => by
        simp only [List.mem_cons, List.not_mem_nil, or_false] at hz
        rcases hz with rfl | rfl
        ·exact hok1
        ·exact hok2, HR.out, HB.out⟩
      ·have c2 : (te == 2) = false := by simpa using e2
       have c3 : (te == 3) = false := by simpa using e3
       have c1 : (te == 1) = false := by simpa using e1
       have HB := hid H.below
       clear H
       go_wp2_with fail
       go_ret
       exact ⟨none, 0, [], rfl, by simp, by simp, by simp, fun _ hx => (nomatch hx), fun w2 _ _ => ⟨slr_nil 4 w2, fun _ hx => (nomatch hx)⟩, HB.out⟩
  ·have HB := hid K0.below
   go_wp2_with fail
   go_ret
   exact ⟨none, 0, [], rfl, by simp, by simp, by simp, fun _ hx => (nomatch hx), fun w2 _ _ => ⟨slr_nil 4 w2, fun _ hx => (nomatch hx)⟩, HB.out⟩
 ·have HB := hid K0.below
  go_wp2_with fail
  go_ret
  exact ⟨none, 0, [], rfl, by simp, by simp, by simp, fun _ hx => (nomatch hx), fun w2 _ _ => ⟨slr_nil 4 w2, fun _ hx => (nomatch hx)⟩, HB.out⟩
end Go.Proofs.YtdkebcfkchhlmaaGreatDoor

namespace Go.Proofs.YtdkebcfkchhlmaaGreatDoor
open Go.RowKit
set_option linter.unusedVariables false
set_option linter.unusedSimpArgs false
/-- a schema of few columns -/
def SmB (s : Sm) : Prop := 1 ≤ s.cols.n ∧ s.cols.n ≤ 1000 ∧ s.cols.n ≤ 100 ∧ s.cols.n ≤ s.cols.c
theorem mut_head {M : Nat → Prop} {L : List Hp} {g : Nat} {t : TypeId} {cs : Array Value} : ∀ b, (M b ∨ b = g) → Mut M (.blk g t cs :: L) b := fun b hb => by
 rcases hb with hb | rfl
 ·exact .inl hb
 ·exact .inr ⟨_, List.mem_cons_self .., rfl⟩
def SchOwn (w : World) (M : Nat → Prop) (e : Ending) (w' : World) : Prop := ∃ (g : Nat) (l : List Sm), e = .returned (.slice (some ⟨g, 0, none⟩) 3 3) ∧ l.length = 3 ∧ (∀ s ∈ l, SmB s) ∧ w'.ownsRow w.heap.size 49 2 (.slice (some ⟨g, 0, none⟩) 3 3) 3 (smCells l) ∧ (∀ s ∈ l, Ro w' (fun b => M b ∨ b = g) (SmIn s)) ∧ Below w.heap.size w w'
set_option maxHeartbeats 4000000 in
theorem schemasOwn_any (M : Nat → Prop) (w : World) (hM : ∀ b, M b → b < w.heap.size) : Calls Tryz.prog 58 #[] w fun e w' => SchOwn w M e w' := by
 have K0 := ((((Hold.start M w hM).alloc_cst (colCells logCols).toArray 162).alloc_cst (colCells tCols).toArray 162).alloc_cst (colCells uCols).toArray 162).alloc
  #[.string nmLog, .slice (some ⟨w.heap.size, 0, none⟩) 2 2, .string nmT, .slice (some ⟨w.heap.size + 1, 0, none⟩) 4 4, .string nmU, .slice (some ⟨w.heap.size + 1 + 1, 0, none⟩) 3 3] 49
 simp only [World.size_alloc] at K0
 go_enter Tryz.func58, Tryz.ntmps58
 go_wp2
 go_ret
 have h0 := K0.blk_ 0 rfl
 refine ⟨w.heap.size + 1 + 1 + 1, [⟨nmLog, ⟨some ⟨w.heap.size, 0, none⟩, 2, 2, logCols⟩⟩, ⟨nmT, ⟨some ⟨w.heap.size + 1, 0, none⟩, 4, 4, tCols⟩⟩, ⟨nmU, ⟨some ⟨w.heap.size + 1 + 1, 0, none⟩, 3, 3, uCols⟩⟩], rfl, rfl, fun s hs => ?_, ⟨rfl, .inr ⟨w.heap.size + 1 + 1 + 1, 3, _, rfl, by omega, h0, Nat.le_refl _, by decide, rfl, rfl⟩⟩, fun s hs => ?_, K0.below⟩
 ·simp only [List.mem_cons, List.not_mem_nil, or_false] at hs
  rcases hs with rfl | rfl | rfl <;> exact ⟨by simp, by simp, by simp, by simp⟩
 ·simp only [List.mem_cons, List.not_mem_nil, or_false] at hs
  rcases hs with rfl | rfl | rfl
  ·exact (((ro_block (K0.get 3 rfl) (by rfl)).less mut_head) : Ro _ _ (SlR 4 _ 2 (colCells logCols))).imp fun w2 h2 => ⟨h2, fun _ _ => trivial⟩
  ·exact (((ro_block (K0.get 2 rfl) (by rfl)).less mut_head) : Ro _ _ (SlR 4 _ 4 (colCells tCols))).imp fun w2 h2 => ⟨h2, fun _ _ => trivial⟩
  ·exact (((ro_block (K0.get 1 rfl) (by rfl)).less mut_head) : Ro _ _ (SlR 4 _ 3 (colCells uCols))).imp fun w2 h2 => ⟨h2, fun _ _ => trivial⟩
theorem one_schema {s : ByteArray} (h : OneName s) : 1 ≤ (schemaOf s).2.length ∧ (schemaOf s).2.length ≤ 4 := by
 rcases h with rfl | rfl | rfl <;> exact ⟨by decide +kernel, by decide +kernel⟩
theorem Tryz.elSm : ElemT Tryz.prog 120 49 2 40 (.agg #[.string ⟨#[]⟩, .slice none 0 0]) := ⟨Tryz.underlying120, by kernel_rfl, rfl, by omega⟩
theorem smCells_snoc (l : List Sm) (n : ByteArray) (A : Option Addr) (k c : Nat) (cs : List Col) : smCells l ++ (#[.string n, .slice A k c] : Array Value).toList = smCells (l ++ [⟨n, ⟨A, k, c, cs⟩⟩]) := by simp [smCells, Sm.cells, SlP.v]
def PlcRet (w : World) (M : Nat → Prop) (e : Ending) (w' : World) : Prop := ∃ p : Pl, e = .returned p.val ∧ PlB p ∧ p.fr.n ≤ 2 ∧ 1 ≤ p.tb.n ∧ Ro w' M (PlIn p) ∧ Below w.heap.size w w'
set_option maxRecDepth 100000 in
set_option maxHeartbeats 8000000 in
theorem place_any (M : Nat → Prop) (w : World) (hM : ∀ b, M b → b < w.heap.size) (t : Tg) (hT : OneName t.tab) : Calls Tryz.prog 104 #[t.val] w fun e w' => PlcRet w M e w' := by
 obtain ⟨tn, tt, tb, te, ⟨oA, on, oc, ol⟩, tch, ⟨pA, pn, pc, pl⟩, ⟨qA, qn, qc, ql⟩, ⟨rA, rn, rc, rl⟩, ⟨kA, kn, kc, kl⟩, ⟨aA, an, ac, al⟩⟩ := t
 have hT : OneName tt := hT
 have K0 := ((Hold.start M w hM).alloc_cst #[.string tn, .string tt, .bool tb, .int .i64 te, .slice oA on oc, .bool tch, .slice pA pn pc, .slice qA qn qc, .slice rA rn rc, .slice kA kn kc, .slice aA an ac] 40).alloc #[.slice none 0 0, .slice none 0 0] 181
 rw [World.size_alloc] at K0
 obtain ⟨gx, hgx⟩ : ∃ g, g = w.heap.size := ⟨_, rfl⟩
 rw [← hgx] at K0
 obtain ⟨gr, hgr⟩ : ∃ g, g = gx + 1 := ⟨_, rfl⟩
 rw [← hgr] at K0
 have F0 := K0.facts
 simp only [factsL, cellsF, Nat.reduceAdd, zf, zl] at F0
 rw [hgr, hgx] at F0
 simp only [Tg.val]
 go_enter Tryz.func104, Tryz.ntmps104
 go_wp2_with fail
 rw [← hgx]
 try rw [← hgr]
 have HG := hid (And.intro hgx hgr)
 clear hgx hgr F0
 refine (schema_any (Mut M _) _ K0.mutLt tt).mono ?_
 rintro e w1 ⟨cA, cn, cc, rfl, hcc, hc4, r1, b1⟩
 have hcl : 1 ≤ cn ∧ cn ≤ 4 := by
  have h := (show Rd w1 w1.heap.size 4 cA cn (colCells (schemaOf tt).2) from r1.now).1
  have h2 := one_schema hT
  have h3 : (colCells (schemaOf tt).2).length = (schemaOf tt).2.length * 4 := flat_len _ 4 (fun _ => rfl) _
  omega
 have K1 := (K0.call b1).add (r1.imp (S' := SmIn ⟨(schemaOf tt).1, ⟨cA, cn, cc, (schemaOf tt).2⟩⟩) fun w2 h2 => ⟨h2, fun _ _ => trivial⟩)
 obtain ⟨snm, hsnm⟩ : ∃ x, x = (schemaOf tt).1 := ⟨_, rfl⟩
 obtain ⟨cl, hcs⟩ : ∃ x, x = (schemaOf tt).2 := ⟨_, rfl⟩
 rw [← hsnm, ← hcs] at K1
 rw [← hsnm]
 clear K0 hsnm hcs r1 b1
 have K2 := K1.alloc #[.string snm, .slice cA cn cc] 49
 have F1 := K1.facts
 simp only [factsL, cellsF, Nat.reduceAdd, zf, zl] at F1
 have F2 := K2.facts
 simp only [factsL, cellsF, Nat.reduceAdd, zf, zl] at F2
 clear K1
 go_wp2_with fail
 refine (frames_nil (Mut M _) _ K2.mutLt ⟨tn, tt, tb, te, ⟨oA, on, oc, ol⟩, tch, ⟨pA, pn, pc, pl⟩, ⟨qA, qn, qc, ql⟩, ⟨rA, rn, rc, rl⟩, ⟨kA, kn, kc, kl⟩, ⟨aA, an, ac, al⟩⟩ ⟨snm, ⟨cA, cn, cc, cl⟩⟩ (K2.ro 1 rfl) (by show cn ≤ 1000; omega)).mono ?_
 rintro e w3 ⟨⟨fA, fn, fc, fl⟩, rfl, hf1, hf2, hf3, rf, b3⟩
 have K3 := (K2.call b3).add rf
 simp only [SlP.v] at *
 clear K2 F1 F2 rf b3
 go_wp2_with fail
 refine (schemasOwn_any (Mut M _) _ K3.mutLt).mono ?_
 rintro e w4 ⟨g, sl, rfl, hl3, hsl, ho, hro, b4⟩
 have K4 := (K3.callOwn b4 ho).add (S := fun w => ∀ s ∈ sl, SmIn s w) (by
  intro w2 ha hb s hs
  refine (hro s hs).less (fun b hm => ?_) w2 ha hb
  rcases mut_cons.1 hm with hf | hm
  ·right
   have hf : some g = some b := hf
   injection hf with hf
   exact hf.symm
  ·exact .inl hm)
 have K5 := K4.alloc #[.slice fA fn fc, .slice (some ⟨g, 0, none⟩) 3 3] 181
 have F4 := K4.facts
 simp only [factsL, cellsF, Nat.reduceAdd, zf, zl] at F4
 have F5 := K5.facts
 simp only [factsL, cellsF, Nat.reduceAdd, zf, zl] at F5
 have HRO := hid hro
 clear K3 K4 ho hro b4
 go_wp2_with fail
 refine (transitions_nil (Mut M _) _ K5.mutLt ⟨tn, tt, tb, te, ⟨oA, on, oc, ol⟩, tch, ⟨pA, pn, pc, pl⟩, ⟨qA, qn, qc, ql⟩, ⟨rA, rn, rc, rl⟩, ⟨kA, kn, kc, kl⟩, ⟨aA, an, ac, al⟩⟩ ⟨snm, ⟨cA, cn, cc, cl⟩⟩ (K5.ro 5 rfl) (by show 1 ≤ cn ∧ cn ≤ 1000; omega)).mono ?_
 rintro e w5 ⟨tA, tc, tl, rfl, htl, htc, htm, htr, rt, b5⟩
 obtain ⟨gq, hgq⟩ : ∃ g, g = w4.heap.size := ⟨_, rfl⟩
 rw [← hgq] at K5 rt ⊢
 have HGQ := hid hgq
 clear hgq F4 F5
 have K6 : Hold M none w w5 [.own 49 2 (.slice (some ⟨g, 0, none⟩) 3 3) 3 (smCells sl), .blk gq 181 #[.slice fA fn fc, .slice (some ⟨g, 0, none⟩) 3 3], .ro (fun w => ∀ s ∈ sl, SmIn s w), .ro (TesIn tA tl.length tl), .ro (FrsIn ⟨fA, fn, fc, fl⟩), .blk gr 181 #[.slice none 0 0, .slice none 0 0]] := ((K5.call b5).add rt).pick [3, 1, 2, 0, 4, 7] (by decide) rfl
 have HTR := hid htr
 clear K5 rt b5 htr
 go_wp2_with fail
 go_loopw [20] (fun iv wr => ∃ (j cap : Nat) (O : Option Addr) (outs : List Sm), j ≤ tl.length ∧ iv = .int .i64 j ∧ (∀ s ∈ outs, SmB s) ∧ Hold M none w wr [.own 49 2 (.slice O (3 + j) cap) (3 + j) (smCells outs), .blk gq 181 #[.slice fA fn fc, .slice O (3 + j) cap], .ro (fun w => ∀ s ∈ outs, SmIn s w), .ro (TesIn tA tl.length tl), .ro (FrsIn ⟨fA, fn, fc, fl⟩), .blk gr 181 #[.slice none 0 0, .slice none 0 0]]) (fun iv _ => tl.length - (intOf iv).toNat)
 case atStart => exact ⟨0, 3, some ⟨g, 0, none⟩, sl, by omega, rfl, hsl, K6⟩
 case round =>
  clear K6
  obtain ⟨j, cap, O, outs, hj, rfl, hso, H⟩ := hrel
  by_cases hlt : j < tl.length
  ·obtain ⟨x, hx⟩ := get_anyG rfl hlt
   obtain ⟨b, o, rfl, hb2, x0, x1, x2, x3, hin⟩ := TesIn.at_ (H.ro 3 rfl).now hx
   have hok := HTR.out x (List.mem_of_getElem? hx)
   have hxin := (H.ro 3 rfl).imp (S' := SmIn ⟨x.nm, ⟨x.A, x.n, x.c, x.cs⟩⟩) fun w2 h2 => ⟨(h2.2 x (List.mem_of_getElem? hx)).1, fun _ _ => trivial⟩
   clear hx
   have K2 := (H.add hxin).alloc_cst #[.string x.nm, .slice x.A x.n x.c, .int .i64 x.nx, .slice x.B x.m x.d] 58
   have F2 := K2.facts
   simp only [factsL, cellsF, Nat.reduceAdd, zf, zl] at F2
   clear H hin hxin
   go_wp2_with (at_builtin; go_must (refine wpList_appH K2 2 rfl Tryz.elSm #[.string x.nm, .slice x.A x.n x.c] rfl (.tmp 25) (.tmp 28) rfl rfl _ (by first | rfl | simp) rfl rfl (by intro u hu; simp at hu; rcases hu with rfl | rfl <;> rfl) (by omega) (by omega) ?_); intro gA capA wA hcA hmA KA; rw [smCells_snoc outs x.nm x.A x.n x.c x.cs] at KA; simp only [zl] at KA; have FA := KA.facts; simp only [factsL, cellsF, Nat.reduceAdd, zf, zl] at FA)
   have KB := KA.store 3 rfl 1 (.slice (some ⟨gA, 0, none⟩) (3 + j + 1) capA)
   simp only [zl] at KB
   have KC := KB.add (S := fun w => ∀ s ∈ outs ++ [(⟨x.nm, ⟨x.A, x.n, x.c, x.cs⟩⟩ : Sm)], SmIn s w) (((KB.ro 4 rfl).and (KB.ro 1 rfl)).imp fun w2 h2 s hs => by
    rcases List.mem_append.1 hs with hs | hs
    ·exact h2.1 s hs
    ·simp only [List.mem_cons, List.not_mem_nil, or_false] at hs
     subst hs
     exact h2.2)
   go_roundw
   case rel =>
    refine ⟨j + 1, capA, _, outs ++ [⟨x.nm, ⟨x.A, x.n, x.c, x.cs⟩⟩], by omega, by go_num, fun s hs => ?_, KC.pick [3, 4, 0, 6, 7, 8] (by decide) rfl⟩
    rcases List.mem_append.1 hs with hs | hs
    ·exact hso s hs
    ·simp only [List.mem_cons, List.not_mem_nil, or_false] at hs
     subst hs
     have h1 : x.n = cn := hok.n
     have h2 := hok.c
     exact ⟨by show 1 ≤ x.n; omega, by show x.n ≤ 1000; omega, by show x.n ≤ 100; omega, h2⟩
   case measure => simp [intOf]; omega
  ·obtain rfl : tl.length = j := by omega
   have F := H.facts
   simp only [factsL, cellsF, Nat.reduceAdd, zf, zl] at F
   have K6 := (H.store 5 rfl 0 (.slice fA fn fc)).store 5 rfl 1 (.slice O (3 + tl.length) cap)
   simp only [zl] at K6
   have F6 := K6.facts
   simp only [factsL, cellsF, Nat.reduceAdd, zf, zl] at F6
   have hcap := own_caps (H.get 0 rfl)
   have hlen := (H.get 0 rfl).1
   rw [smCells_len] at hlen
   have KZ := K6.sealRow 0 rfl
   simp only [List.set_cons_zero] at KZ
   have hR : Ro _ _ (PlIn ⟨⟨fA, fn, fc, fl⟩, ⟨O, 3 + tl.length, cap, outs⟩⟩) := ((KZ.ro 4 rfl).and ((KZ.ro 0 rfl).and (KZ.ro 2 rfl))).imp fun w2 h2 => ⟨h2.1, ⟨h2.2.1, h2.2.2⟩⟩
   have HR := hid (hR.less zm)
   have HB := hid KZ.below
   clear KZ hR K6 H
   go_wp2_with fail
   refine bodyPost_ret (v := .agg #[.slice fA fn fc, .slice O (3 + tl.length) cap]) ?_ rfl ?_
   ·clear HR HB
    simp [results, Tryz.results104, go_sem, F6]
   ·exact ⟨⟨⟨fA, fn, fc, fl⟩, ⟨O, 3 + tl.length, cap, outs⟩⟩, rfl, ⟨⟨hf1, by show fn ≤ 100; omega⟩, ⟨hcap.1, by show 3 + tl.length ≤ 100; omega⟩, fun f hf => by have := hf3 f hf; show f.cols.n ≤ 100; have h5 : f.cols.n = cn := this; omega, fun s hs => (hso s hs).2.2.1⟩, hf2, by show 1 ≤ 3 + tl.length; omega, HR.out, HB.out⟩
end Go.Proofs.YtdkebcfkchhlmaaGreatDoor

namespace Go.Proofs.YtdkebcfkchhlmaaGreatDoor
open Go.RowKit
set_option linter.unusedVariables false
set_option linter.unusedSimpArgs false
/-- a query drawn -/
def QuGd (d : Nat) (q : Qu) : Prop := (q.n ≤ q.c ∧ q.c ≤ 9223372036854775807 ∧ q.m ≤ q.d ∧ q.d ≤ 9223372036854775807) ∧ (q.items.length ≤ 8 ∧ q.wh.length ≤ 1) ∧ (∀ a ∈ q.items, ExGd d a) ∧ ∀ a ∈ q.wh, ExGd d a
def QuRet (w : World) (T : Nat) (M : Nat → Prop) (d : Nat) (e : Ending) (w' : World) : Prop := ∃ q : Qu, e = .returned (.agg #[.bool q.star, .slice q.A q.n q.c, .string q.src, .slice q.B q.m q.d]) ∧ QuGd d q ∧ Ro w' M (QuIn d q) ∧ Tp w' T ∧ w.grownBy w' (some T)
theorem frs_last {w : World} {b o n c : Nat} {l : List Fr} {f : Fr} {c' : Nat} (h : FrsIn ⟨some ⟨b, o, none⟩, n + 1, c, l ++ [f]⟩ w) : FrsIn ⟨some ⟨b, o + n * 4, none⟩, 1, c', [f]⟩ w := by
 have hl : l.length = n := by
  have := FrsIn.len h
  simp at this
  exact this
 refine ⟨⟨by simp [Fr.cells], fun _ => ⟨b, o + n * 4, rfl, ?_, fun j u hu => ?_⟩⟩, fun x hx => h.2 x (List.mem_append_right _ hx)⟩
 ·obtain ⟨b2, o2, e, hb, -⟩ := (show Rd w w.heap.size 4 (some ⟨b, o, none⟩) (n + 1) ((l ++ [f]).flatMap Fr.cells) from h.1).2 (by omega)
  injection e with e
  injection e with e1 e2
  subst e1
  exact hb
 ·obtain ⟨b2, o2, e, hb, hc⟩ := (show Rd w w.heap.size 4 (some ⟨b, o, none⟩) (n + 1) ((l ++ [f]).flatMap Fr.cells) from h.1).2 (by omega)
  injection e with e
  injection e with e1 e2
  subst e1
  subst e2
  have hlen : (l.flatMap Fr.cells).length = n * 4 := by rw [flat_len Fr.cells 4 (fun _ => rfl), hl]
  have := hc (n * 4 + j) u (by
   rw [List.flatMap_append, List.getElem?_append_right (by omega), hlen]
   simpa using hu)
  rw [← Nat.add_assoc] at this
  exact this
set_option maxRecDepth 100000 in
set_option maxHeartbeats 16000000 in
theorem copies_anyG {n : Nat} (HE : GE n) (M : Nat → Prop) (T : Nat) (w : World) (hM : ∀ b, M b → b < w.heap.size) (ht : Tp w T) (hMT : ∀ b, M b → T ≤ b) (p : Pl) (s : Sm) (depth : Int) (hp : Ro w (Mut M [.tp T]) (PlIn p)) (hsm : Ro w (Mut M [.tp T]) (SmIn s)) (hsc : 1 ≤ s.cols.n ∧ s.cols.n ≤ 4) (hW : Ro w (Mut M [.tp T]) Wds) (hT : 1 < T) (hB : PlN (n + 1) p) (hd : depth ≤ n) (hd2 : -100 ≤ depth) (hs : 0 < p.tb.n) :
  Calls Tryz.prog 206 #[.pointer (some ⟨T, 0, none⟩), p.val, s.val, .int .i64 depth] w fun e w' => QuRet w T M (n + 3) e w' := by
 have HBM := hid (fun (s : Sm) (hs : s ∈ p.tb.l) (A : Option Addr) (c : Nat) (hc : p.fr.n + 1 ≤ c) => plN_more hB hs (A := A) hc)
 obtain ⟨⟨fA, fn, fc, fl⟩, ⟨sA, sn, sc, sl⟩⟩ := p
 obtain ⟨snm, ⟨cA, cn, cc, cl⟩⟩ := s
 have hs : 0 < sn := hs
 have hcn : 1 ≤ cn ∧ cn ≤ 4 := hsc
 have HTC := hid (show ∀ s ∈ sl, s.cols.n ≤ 100 from hB.b.tc)
 have HSL := hid (show sl.length = sn from SmsIn.len hp.now.2)
 obtain ⟨bS, oS, eS, -, -⟩ := (show Rd w w.heap.size 2 sA sn (sl.flatMap Sm.cells) from hp.now.2.1).2 hs
 obtain rfl : sA = some ⟨bS, oS, none⟩ := eS
 obtain ⟨bC, oC, eC, -, -⟩ := (show Rd w w.heap.size 4 cA cn (cl.flatMap Col.cells) from hsm.now.1).2 (by omega)
 obtain rfl : cA = some ⟨bC, oC, none⟩ := eC
 have HLN := hid (show cl.length = cn from (RdC.of_sl (show SlR 4 (some ⟨bC, oC, none⟩) cn (colCells cl) w from hsm.now.1)).len)
 have KZ := ((((((Hold.startT M w T hM ht hMT).add hW).add (hp.less (by simp [mut_cons, Mut, Hp.foot]))).add ((hsm.imp (S' := SlR 4 (some ⟨bC, oC, none⟩) cn (colCells cl)) fun w2 h2 => h2.1).less (by simp [mut_cons, Mut, Hp.foot]))).alloc_cst #[.slice fA fn fc, .slice (some ⟨bS, oS, none⟩) sn sc] 181).alloc_cst #[.string snm, .slice (some ⟨bC, oC, none⟩) cn cc] 49).alloc #[.bool false, .slice none 0 0, .string ⟨#[]⟩, .slice none 0 0] 274
 rw [World.size_alloc, World.size_alloc] at KZ
 obtain ⟨gp, hgp⟩ : ∃ g, g = w.heap.size := ⟨_, rfl⟩
 rw [← hgp] at KZ
 obtain ⟨gc, hgc⟩ : ∃ g, g = gp + 1 := ⟨_, rfl⟩
 obtain ⟨gr, hgr⟩ : ∃ g, g = gc + 1 := ⟨_, rfl⟩
 rw [← hgc, ← hgr] at KZ
 have KS : Hold M (some T) w _ [.blk gr 274 #[.bool false, .slice none 0 0, .string ⟨#[]⟩, .slice none 0 0], .cst gc 49 #[.string snm, .slice (some ⟨bC, oC, none⟩) cn cc], .cst gp 181 #[.slice fA fn fc, .slice (some ⟨bS, oS, none⟩) sn sc], .ro (PlIn ⟨⟨fA, fn, fc, fl⟩, ⟨some ⟨bS, oS, none⟩, sn, sc, sl⟩⟩), .ro Wds, .tp T, .ro (SlR 4 (some ⟨bC, oC, none⟩) cn (colCells cl))] := KZ.pick [0, 1, 2, 4, 5, 6, 3] (by decide) rfl
 have hm90 : n ≤ 90 ∧ fn ≤ 100 := by have h1 : fn + (n + 1) ≤ 90 := hB.n; omega
 have hsn : sn ≤ 100 := hB.b.t.2
 simp only [Pl.val, Sm.val]
 clear hp hW hB hsm KZ
 go_enter Tryz.func206, Tryz.ntmps206
 obtain ⟨KL, hKL⟩ : ∃ KL : List Hp, KL = [.blk gr 274 #[.bool false, .slice none 0 0, .string ⟨#[]⟩, .slice none 0 0], .cst gc 49 #[.string snm, .slice (some ⟨bC, oC, none⟩) cn cc], .cst gp 181 #[.slice fA fn fc, .slice (some ⟨bS, oS, none⟩) sn sc], .ro (PlIn ⟨⟨fA, fn, fc, fl⟩, ⟨some ⟨bS, oS, none⟩, sn, sc, sl⟩⟩), .ro Wds, .tp T, .ro (SlR 4 (some ⟨bC, oC, none⟩) cn (colCells cl))] := ⟨_, rfl⟩
 have hcast : ∀ (L1 : List Hp) (wz : World), Hold M (some T) w wz L1 → L1 = KL → Hold M (some T) w wz KL := fun _ _ h e => e ▸ h
 have K6 := hcast _ _ KS hKL.symm
 have H1 : ∀ wv : World, Hold M (some T) w wv KL → Blk wv gp 181 #[.slice fA fn fc, .slice (some ⟨bS, oS, none⟩) sn sc] := fun wv h => by rw [hKL] at h; exact h.cst_ 2 rfl
 have h4 : KL[5]? = some (.tp T) := by rw [hKL]; rfl
 have H5 : ∀ wv : World, Hold M (some T) w wv KL → ∀ k x, sl[k]? = some x → wv.cell? ⟨bS, oS + k * 2, none⟩ = some (.string x.nm) ∧ wv.cell? ⟨bS, oS + k * 2 + 1, none⟩ = some (.slice x.cols.A x.cols.n x.cols.c) := fun wv h k x hx => by
  rw [hKL] at h
  obtain ⟨b, o, e, -, hc, -⟩ := SmsIn.at_ (h.ro 3 rfl).now.2 hx
  have e : some (⟨bS, oS, none⟩ : Addr) = some ⟨b, o, none⟩ := e
  obtain ⟨rfl, rfl⟩ : bS = b ∧ oS = o := by injection e with e; injection e with e1 e2; exact ⟨e1, e2⟩
  exact ⟨hc 0 _ (by omega) rfl, hc 1 _ (by omega) rfl⟩
 have HH1 := hid H1
 have HH4 := hid h4
 have HH5 := hid H5
 have HKL := hid hKL
 clear hKL hcast H1 H5 h4 KS
 go_wp2_with fail
 rw [← hgp]
 try rw [← hgc]
 try rw [← hgr]
 have HG := hid (And.intro hgp (And.intro hgc hgr))
 clear hgp hgc hgr
 refine wp_region_any (by kernel_rfl) ?_
 refine wpAny_hold 10 83 (KL) (spL [(23, fun u _ => NatB sn u), (9, NewSlot (Mut M KL) (gr + 1) 49 #[.string ⟨#[]⟩, .slice none 0 0])]) (by kernel_rfl) (by kernel_rfl) (by kernel_rfl) rfl ?_ (K6.drew) ?_
 ·exact stays_cons (fun _ _ _ _ h => h) (stays_cons newSlot_mono (stays_nil _))
 simp only [zd, Act.put, List.getElem_toArray, List.getElem_cons_zero, List.getElem_cons_succ, zl]
 refine dw_val rfl rfl rfl ?_; apply Exists.intro; refine ⟨fun wv HC => ?_, ?_⟩
 · go_simp <;> rfl
 simp only [Act.put, zl]
 refine dw_val rfl rfl rfl ?_; apply Exists.intro; refine ⟨fun wv HC => ?_, ?_⟩
 ·obtain q1 := (HH1.out _ HC).cell 1; go_simp <;> rfl
 simp only [Act.put, zl]
 refine dw_val rfl rfl rfl ?_; apply Exists.intro; refine ⟨fun wv HC => ?_, ?_⟩
 · go_simp <;> rfl
 simp only [Act.put, zl]
 refine dw_val rfl rfl rfl ?_; apply Exists.intro; refine ⟨fun wv HC => ?_, ?_⟩
 · go_simp <;> rfl
 simp only [Act.put, zl]
 refine dw_val rfl rfl rfl ?_; apply Exists.intro; refine ⟨fun wv HC => ?_, ?_⟩
 ·obtain q1 := (HH1.out _ HC).cell 1; go_simp <;> rfl
 simp only [Act.put, zl]
 refine dw_val rfl rfl rfl ?_; apply Exists.intro; refine ⟨fun wv HC => ?_, ?_⟩
 · go_simp <;> rfl
 simp only [Act.put, zl]
 refine dw_next sn 5 HH4.out 23 rfl rfl rfl rfl (fun wv => ?_) (fun r hr => ?_)
 ·go_simp <;> rfl
 have r6 : (r : Int) < sn := by omega
 have r0 : (0 : Int) ≤ (r : Int) := by omega
 obtain ⟨x, hx⟩ := get_anyG HSL.out hr
 have HX0 := hid hx
 clear hx
 simp only [Act.put, zl]
 refine dw_val rfl rfl rfl ?_; apply Exists.intro; refine ⟨fun wv HC => ?_, ?_⟩
 · go_simp <;> rfl
 simp only [Act.put, zl]
 refine dw_val rfl rfl rfl ?_; apply Exists.intro; refine ⟨fun wv HC => ?_, ?_⟩
 ·obtain ⟨q2, q3⟩ := HH5.out _ HC r x HX0.out; go_simp <;> rfl
 simp only [Act.put, zl]
 refine dw_new #[.string ⟨#[]⟩, .slice none 0 0] 49 9 (NewSlot (Mut M KL) (gr + 1) 49 #[.string ⟨#[]⟩, .slice none 0 0]) (fun g => .pointer (some ⟨g, 0, none⟩)) rfl rfl rfl rfl (fun wv => ?_) (fun wv HC hrm hD hro => ?_) ?_
 ·go_simp <;> rfl
 ·exact ⟨_, rfl, by have := hrm.1; simp only [World.size_alloc, World.size_drew] at this; have := HG.out; omega, hro _ HC.mutLt⟩
 rintro gs wg HCg hsl
 clear HCg hsl
 simp only [Act.put, zl]
 refine rel_nil ?_
 rintro wx2 HX
 rintro _hrm HGW
 have hu : NewSlot (Mut M KL) (gr + 1) 49 #[.string ⟨#[]⟩, .slice none 0 0] (.pointer (some ⟨gs, 0, none⟩)) wx2 := (GW_on (d := 9) rfl).1 (HGW 9 _ rfl (by omega))
 clear HGW
 obtain ⟨gs', e', hg1, hg2⟩ := hu
 obtain rfl : gs = gs' := by injection e' with e'; injection e' with e'; injection e'
 clear e'
 have HB := Hold.addFreshBlk K6.drew HX _hrm (by simp only [World.size_alloc, World.size_drew]; have := HG.out; omega) hg2.now
 rw [HKL.out] at HB
 clear HX _hrm hg2 K6 HH1 HH4 HH5 HKL
 have hxm : x ∈ sl := List.mem_of_getElem? HX0.out
 have hx100 := HTC.out x hxm
 obtain ⟨xnm, ⟨cA, ccn, ccc, ccl⟩⟩ := x
 simp only
 have K7 := (HB.store 0 rfl 0 (.string xnm)).store 0 rfl 1 (.slice cA ccn ccc)
 simp only [zl] at K7
 have F0 := HB.facts
 simp only [factsL, cellsF, Nat.reduceAdd, zf, zl] at F0
 have F7 := K7.facts
 simp only [factsL, cellsF, Nat.reduceAdd, zf, zl] at F7
 clear HB
 go_wp2_with fail
 refine (inside_any (Mut M _) _ K7.mutLt ⟨⟨fA, fn, fc, fl⟩, ⟨some ⟨bS, oS, none⟩, sn, sc, sl⟩⟩ ⟨xnm, ⟨cA, ccn, ccc, ccl⟩⟩ (K7.ro 4 rfl) ((K7.ro 4 rfl).imp fun w2 h2 => h2.2.2 _ hxm) (by have := hm90; show fn ≤ 1000; omega)).mono ?_
 rintro e w5 ⟨A9, c9, rfl, hc9, ro9, hbl9⟩
 have HIN := hid (HBM.out ⟨xnm, ⟨cA, ccn, ccc, ccl⟩⟩ hxm A9 c9 hc9)
 simp only [Pl.val, Pl.more] at *
 obtain ⟨b9', o9', e9, -, -⟩ := (show Rd w5 w5.heap.size 4 A9 (fn + 1) _ from ro9.now.1.1).2 (by omega)
 obtain ⟨b9, hb9⟩ : ∃ x, x = b9' := ⟨_, rfl⟩
 obtain ⟨o9, ho9⟩ : ∃ x, x = o9' := ⟨_, rfl⟩
 rw [← hb9, ← ho9] at e9
 subst e9
 clear hb9 ho9
 have hlast := ro9.imp (S' := PlIn ⟨⟨some ⟨b9, o9 + fn * 4, none⟩, 1, c9 - fn, [(⟨xnm, false, ⟨cA, ccn, ccc, ccl⟩, SlP.nil⟩ : Fr)]⟩, SlP.nil⟩) fun w2 h2 => ⟨frs_last h2.1, SlP.nil_in _ _ _ w2⟩
 have HLB := hid (show PlB ⟨⟨some ⟨b9, o9 + fn * 4, none⟩, 1, c9 - fn, [(⟨xnm, false, ⟨cA, ccn, ccc, ccl⟩, SlP.nil⟩ : Fr)]⟩, SlP.nil⟩ from ⟨⟨by show 1 ≤ c9 - fn; omega, by show 1 ≤ 100; omega⟩, ⟨Nat.le_refl _, by simp [SlP.nil]⟩, fun f hf => by
  simp only [List.mem_cons, List.not_mem_nil, or_false] at hf
  subst hf
  exact hx100, fun _ hx => (nomatch hx)⟩)
 obtain ⟨fl2, hfl2⟩ : ∃ l, l = fl ++ [(⟨xnm, false, ⟨cA, ccn, ccc, ccl⟩, SlP.nil⟩ : Fr)] := ⟨_, rfl⟩
 rw [← hfl2] at ro9 HIN
 obtain ⟨fla, hfla⟩ : ∃ l, l = [(⟨xnm, false, ⟨cA, ccn, ccc, ccl⟩, SlP.nil⟩ : Fr)] := ⟨_, rfl⟩
 rw [← hfla] at hlast HLB
 clear hfl2 hfla HBM HX0 HSL HTC F0 F7 hxm hx100
 have K8 := (((K7.call hbl9).add ro9).add (hlast.less (by intro b hb; simpa [mut_cons, Hp.foot] using hb))).alloc #[.slice (some ⟨b9, o9, none⟩) (fn + 1) c9, .slice (some ⟨bS, oS, none⟩) sn sc] 181
 have F8a := (K7.call hbl9).facts
 simp only [factsL, cellsF, Nat.reduceAdd, zf, zl] at F8a
 have F8 := K8.facts
 simp only [factsL, cellsF, Nat.reduceAdd, zf, zl] at F8
 have KR := (K8.alloc #[.bool false, .slice none 0 0, .string xnm, .slice none 0 0] 274).nil 134 10
 rw [World.size_alloc] at KR
 have FR := KR.facts
 simp only [factsL, cellsF, Nat.reduceAdd, zf, zl] at FR
 clear K7 hbl9 ro9 K8 hlast
 go_wp2_with fail
 obtain ⟨gi, hgi⟩ : ∃ g, g = w5.heap.size := ⟨_, rfl⟩
 rw [← hgi] at KR ⊢
 obtain ⟨gq, hgq⟩ : ∃ g, g = gi + 1 := ⟨_, rfl⟩
 rw [← hgq] at KR ⊢
 have HGI := hid (And.intro hgi hgq)
 clear hgi hgq F8 F8a FR
 have K3 : Hold M (some T) w _ [.own 134 10 (.slice none 0 0) 0 (exCells ([] : List Ex)), .ro (fun w => ∀ x ∈ ([] : List Ex), ExIn (n + 3) x w), .blk gq 274 #[.bool false, .slice none 0 0, .string xnm, .slice none 0 0], .blk gi 181 #[.slice (some ⟨b9, o9, none⟩) (fn + 1) c9, .slice (some ⟨bS, oS, none⟩) sn sc], .ro (PlIn ⟨⟨some ⟨b9, o9, none⟩, fn + 1, c9, fl2⟩, ⟨some ⟨bS, oS, none⟩, sn, sc, sl⟩⟩), .ro (PlIn ⟨⟨some ⟨b9, o9 + fn * 4, none⟩, 1, c9 - fn, fla⟩, SlP.nil⟩), .ro (SlR 4 (some ⟨bC, oC, none⟩) cn (colCells cl)), .cst gc 49 #[.string snm, .slice (some ⟨bC, oC, none⟩) cn cc], .blk gr 274 #[.bool false, .slice none 0 0, .string ⟨#[]⟩, .slice none 0 0], .ro Wds, .tp T] := (KR.add (S := fun w => ∀ x ∈ ([] : List Ex), ExIn (n + 3) x w) (fun w2 _ _ x hx => (nomatch hx))).pick [1, 0, 2, 3, 5, 4, 13, 8, 7, 11, 12] (by decide) rfl
 clear KR
 go_loopw [35] (fun iv wr => ∃ (j cap : Nat) (O : Option Addr) (outs : List Ex), j ≤ cn ∧ iv = .int .i64 j ∧ (∀ x ∈ outs, ExGd (n + 3) x) ∧ Hold M (some T) w wr [.own 134 10 (.slice O j cap) j (exCells outs), .ro (fun w => ∀ x ∈ outs, ExIn (n + 3) x w), .blk gq 274 #[.bool false, .slice O j cap, .string xnm, .slice none 0 0], .blk gi 181 #[.slice (some ⟨b9, o9, none⟩) (fn + 1) c9, .slice (some ⟨bS, oS, none⟩) sn sc], .ro (PlIn ⟨⟨some ⟨b9, o9, none⟩, fn + 1, c9, fl2⟩, ⟨some ⟨bS, oS, none⟩, sn, sc, sl⟩⟩), .ro (PlIn ⟨⟨some ⟨b9, o9 + fn * 4, none⟩, 1, c9 - fn, fla⟩, SlP.nil⟩), .ro (SlR 4 (some ⟨bC, oC, none⟩) cn (colCells cl)), .cst gc 49 #[.string snm, .slice (some ⟨bC, oC, none⟩) cn cc], .blk gr 274 #[.bool false, .slice none 0 0, .string ⟨#[]⟩, .slice none 0 0], .ro Wds, .tp T]) (fun iv _ => cn - (intOf iv).toNat)
 case atStart => exact ⟨0, 0, none, [], by omega, rfl, fun x hx => (nomatch hx), K3⟩
 case round =>
  clear K3
  obtain ⟨j, cap, O, outs, hj, rfl, hgd, H⟩ := hrel
  by_cases hlt : j < cn
  ·obtain ⟨⟨ynm, yty, ynn, ykey⟩, hc⟩ := get_col HLN.out hlt
   obtain ⟨b2', o2', hcA, hb2, x0, x1, x2, x3⟩ := (RdC.of_sl (H.ro 6 rfl).now).at_ hc
   obtain ⟨rfl, rfl⟩ : bC = b2' ∧ oC = o2' := by injection hcA with hcA; injection hcA with e1 e2; exact ⟨e1, e2⟩
   clear hcA
   simp only at x0 x1 x2 x3
   clear hc
   have K2 := H.alloc_cst #[.string ynm, .int .i64 yty, .bool ynn, .bool ykey] 162
   have F2 := K2.facts
   simp only [factsL, cellsF, Nat.reduceAdd, zf, zl] at F2
   clear H
   go_wp2_with fail
   refine (HE (Mut M _) T _ K2.mutLt (K2.tp_ 11 rfl) (K2.get 11 rfl).2 ⟨⟨some ⟨b9, o9, none⟩, fn + 1, c9, fl2⟩, ⟨some ⟨bS, oS, none⟩, sn, sc, sl⟩⟩ yty depth ((K2.ro 5 rfl).less (mut_tpG (i := 11) rfl)) ((K2.ro 10 rfl).less (mut_tpG (i := 11) rfl)) hT HIN.out hd hd2).mono ?_
   rintro e w3 ⟨e1, rfl, he1, re1, t3, g3⟩
   have K3 := ((Hold.callT K2 11 rfl g3 t3).add re1).alloc #[.int .i64 e1.kind, .int .i64 e1.op, .bool e1.nt, .int .i64 e1.v.k, .int .i64 e1.v.i, .string e1.v.s, .string e1.tab, .string e1.nm, .slice e1.A e1.n e1.c, .slice e1.B e1.m e1.d] 134
   rw [show e1.val = .agg #[.int .i64 e1.kind, .int .i64 e1.op, .bool e1.nt, .int .i64 e1.v.k, .int .i64 e1.v.i, .string e1.v.s, .string e1.tab, .string e1.nm, .slice e1.A e1.n e1.c, .slice e1.B e1.m e1.d] from rfl]
   have HE1 := hid he1
   clear K2 F2 re1 t3 g3 x0 x1 x2 x3 he1
   have F3 := K3.facts
   simp only [factsL, cellsF, Nat.reduceAdd, zf, zl] at F3
   go_upto_if 46 with (fail)
   obtain ⟨ge, hge⟩ : ∃ g, g = w3.heap.size := ⟨_, rfl⟩
   rw [← hge] at K3 F3 ⊢
   have HGE := hid hge
   clear hge
   go_cut [] (fun wx => ∃ y : Ex, ExGd (n + 3) y ∧ Hold M (some T) w wx [.blk ge 134 #[.int .i64 y.kind, .int .i64 y.op, .bool y.nt, .int .i64 y.v.k, .int .i64 y.v.i, .string y.v.s, .string y.tab, .string y.nm, .slice y.A y.n y.c, .slice y.B y.m y.d], .ro (ExIn (n + 3) y), .own 134 10 (.slice O j cap) j (exCells outs), .ro (fun w => ∀ x ∈ outs, ExIn (n + 3) x w), .blk gq 274 #[.bool false, .slice O j cap, .string xnm, .slice none 0 0], .blk gi 181 #[.slice (some ⟨b9, o9, none⟩) (fn + 1) c9, .slice (some ⟨bS, oS, none⟩) sn sc], .ro (PlIn ⟨⟨some ⟨b9, o9, none⟩, fn + 1, c9, fl2⟩, ⟨some ⟨bS, oS, none⟩, sn, sc, sl⟩⟩), .ro (PlIn ⟨⟨some ⟨b9, o9 + fn * 4, none⟩, 1, c9 - fn, fla⟩, SlP.nil⟩), .ro (SlR 4 (some ⟨bC, oC, none⟩) cn (colCells cl)), .cst gc 49 #[.string snm, .slice (some ⟨bC, oC, none⟩) cn cc], .blk gr 274 #[.bool false, .slice none 0 0, .string ⟨#[]⟩, .slice none 0 0], .ro Wds, .tp T])
   case first =>
    cases ykey
    ·go_wp2_with fail
     go_meet
     exact ⟨e1, HE1.out.le (by omega), (K3.add ((K3.ro 1 rfl).imp (S' := ExIn (n + 3) e1) fun w2 h2 => h2.le (by omega))).pick [1, 0, 4, 5, 6, 7, 8, 9, 10, 11, 12, 13, 14] (by decide) rfl⟩
    ·have hs1 : IntKind.i64.wrap (((fn + 1 : Nat) : Int) - 1) = fn := by rw [show ((fn + 1 : Nat) : Int) - 1 = fn by omega]; exact IntWalk.i64_in _ (by omega)
     have hs2 : IntKind.i64.wrap ((fn : Int) + 1 - 1) = fn := by rw [show (fn : Int) + 1 - 1 = fn by omega]; exact IntWalk.i64_in _ (by omega)
     go_wp2_with fail
     refine (column_any (Mut M _) T _ K3.mutLt (K3.tp_ 13 rfl) (K3.get 13 rfl).2 ⟨⟨some ⟨b9, o9 + fn * 4, none⟩, 1, c9 - fn, fla⟩, SlP.nil⟩ 1 ((K3.ro 8 rfl).less (mut_tpG (i := 13) rfl)) HLB.out).mono ?_
     rintro e w4 ⟨x, ok, rfl, hx, t4, g4⟩
     have HXK := hid (show ok = true → ExGd 1 x from fun hok => by
      rcases hx with ⟨h1, rfl⟩ | ⟨ct, cn', rfl⟩
      ·rw [hok] at h1; exact absurd h1 (by decide)
      ·exact col_ok _ _)
     have K5 := ((Hold.callT K3 13 rfl g4 t4).add (S := ExIn 1 x) (fun w2 _ _ => by
      rcases hx with ⟨_, rfl⟩ | ⟨ct, cn', rfl⟩
      ·exact zeroE_in w2
      ·exact col_in _ _ w2)).alloc_cst #[.int .i64 x.kind, .int .i64 x.op, .bool x.nt, .int .i64 x.v.k, .int .i64 x.v.i, .string x.v.s, .string x.tab, .string x.nm, .slice x.A x.n x.c, .slice x.B x.m x.d] 134
     rw [show x.val = .agg #[.int .i64 x.kind, .int .i64 x.op, .bool x.nt, .int .i64 x.v.k, .int .i64 x.v.i, .string x.v.s, .string x.tab, .string x.nm, .slice x.A x.n x.c, .slice x.B x.m x.d] from rfl]
     clear K3 F3 t4 g4 hx
     have F5 := K5.facts
     simp only [factsL, cellsF, Nat.reduceAdd, zf, zl] at F5
     cases ok
     ·go_wp2_with fail
      go_meet
      exact ⟨e1, HE1.out.le (by omega), (K5.add ((K5.ro 3 rfl).imp (S' := ExIn (n + 3) e1) fun w2 h2 => h2.le (by omega))).pick [3, 0, 6, 7, 8, 9, 10, 11, 12, 13, 14, 15, 16] (by decide) rfl⟩
     ·obtain ⟨KM, hKM, K6⟩ := K5.name
      have H1 : ∀ wv : World, Hold M (some T) w wv KM → Blk wv w4.heap.size 134 #[.int .i64 x.kind, .int .i64 x.op, .bool x.nt, .int .i64 x.v.k, .int .i64 x.v.i, .string x.v.s, .string x.tab, .string x.nm, .slice x.A x.n x.c, .slice x.B x.m x.d] := fun wv h => by rw [hKM] at h; exact h.cst_ 0 rfl
      have h4 : KM[15]? = some (.tp T) := by rw [hKM]; rfl
      have HH1 := hid H1
      have HH4 := hid h4
      have HKM := hid hKM
      clear hKM H1 h4 K5
      go_wp2_with fail
      clear F5
      refine wp_region_any (by kernel_rfl) ?_
      refine wpAny_hold 5 83 (KM) (spL [(63, fun u _ => NatB 20 u), (65, ExSlot (Mut M KM) 2)]) (by kernel_rfl) (by kernel_rfl) (by kernel_rfl) rfl ?_ (K6.drew) ?_
      ·exact stays_cons (fun _ _ _ _ h => h) (stays_cons exSlot_mono (stays_nil _))
      simp only [zd, Act.put, List.getElem_toArray, List.getElem_cons_zero, List.getElem_cons_succ, zl]
      refine dw_val rfl rfl rfl ?_; apply Exists.intro; refine ⟨fun wv HC => ?_, ?_⟩
      ·obtain q0 := (HH1.out _ HC).cell 0; obtain q1 := (HH1.out _ HC).cell 1; obtain q2 := (HH1.out _ HC).cell 2; obtain q3 := (HH1.out _ HC).cell 3; obtain q4 := (HH1.out _ HC).cell 4; obtain q5 := (HH1.out _ HC).cell 5; obtain q6 := (HH1.out _ HC).cell 6; obtain q7 := (HH1.out _ HC).cell 7; obtain q8 := (HH1.out _ HC).cell 8; obtain q9 := (HH1.out _ HC).cell 9; go_simp <;> rfl
      simp only [Act.put, zl]
      refine dw_val rfl rfl rfl ?_; apply Exists.intro; refine ⟨fun wv HC => ?_, ?_⟩
      · go_simp <;> rfl
      simp only [Act.put, zl]
      refine dw_next 20 15 HH4.out 63 rfl rfl rfl rfl (fun wv => ?_) (fun r hr => ?_)
      ·go_simp <;> rfl
      have hwr : IntKind.i64.wrap (10 + (r : Int)) = 10 + r := IntWalk.i64_in _ (by omega)
      simp only [Act.put, zl]
      refine dw_val rfl rfl rfl ?_; apply Exists.intro; refine ⟨fun wv HC => ?_, ?_⟩
      · go_simp <;> rfl
      simp only [Act.put, zl]
      refine dw_callR 65 (ExSlot (Mut M KM) 2) (f := 137) (args := #[.int .i64 (10 + r)]) rfl rfl rfl rfl (fun wv => ?_) (fun wv HC hrm hD => ?_) ?_
      ·go_simp <;> rfl
      ·refine (wnum_any (Mut M KM) wv HC.mutLt (10 + r) (by omega)).mono ?_
       rintro e w5 ⟨y, rfl, hy, ry, b5⟩
       exact ⟨_, rfl, ⟨y, rfl, num_ok hy (by omega) (by omega), ry⟩, HC.call b5, RM.below b5⟩
      rintro u wx HCx ⟨z, rfl, hz, rz⟩
      clear HCx hz rz
      simp only [Act.put, zl]
      refine rel_nil ?_
      rintro wx2 HX
      rintro _hrm HGW
      have hu : ExSlot (Mut M KM) 2 z.val wx2 := (GW_on (d := 65) rfl).1 (HGW 4 _ rfl (by omega))
      clear HGW _hrm
      obtain ⟨z1, hz1, hok1, hro1⟩ := hu
      rw [HKM.out] at HX hro1
      rw [hz1]
      clear hz1 z HH1 HH4 HKM
      rw [show z1.val = .agg #[.int .i64 z1.kind, .int .i64 z1.op, .bool z1.nt, .int .i64 z1.v.k, .int .i64 z1.v.i, .string z1.v.s, .string z1.tab, .string z1.nm, .slice z1.A z1.n z1.c, .slice z1.B z1.m z1.d] from rfl]
      go_wp2_with fail
      refine (bin_any (Mut M _) _ HX.mutLt 9 x z1 2 ((HX.ro 1 rfl).imp fun w2 h2 => h2.le (by omega)) hro1).mono ?_
      rintro e w8 ⟨g8, rfl, ry, b8⟩
      have hyok := hid (op_ok (d := 2) (kind := 5) (op := 9) (nt := false) (g := g8) (k := 2) (l := [x, z1]) (i64_lit 5 (by decide)) (i64_lit 9 (by decide)) (by omega) (fun a ha => by
       simp only [List.mem_cons, List.not_mem_nil, or_false] at ha
       rcases ha with rfl | rfl
       ·exact (HXK.out (by first | trivial | rfl)).le (by omega)
       ·exact hok1))
      have KB := ((HX.call b8).add ry)
      generalize opE 5 9 false g8 2 [x, z1] = y at *
      have FB := KB.facts
      simp only [factsL, cellsF, Nat.reduceAdd, zf, zl] at FB
      have KC := ((((((((((KB.store 3 rfl 0 (.int .i64 y.kind)).store 3 rfl 1 (.int .i64 y.op)).store 3 rfl 2 (.bool y.nt)).store 3 rfl 3 (.int .i64 y.v.k)).store 3 rfl 4 (.int .i64 y.v.i)).store 3 rfl 5 (.string y.v.s)).store 3 rfl 6 (.string y.tab)).store 3 rfl 7 (.string y.nm)).store 3 rfl 8 (.slice y.A y.n y.c)).store 3 rfl 9 (.slice y.B y.m y.d))
      simp only [zl] at KC
      rw [show y.val = .agg #[.int .i64 y.kind, .int .i64 y.op, .bool y.nt, .int .i64 y.v.k, .int .i64 y.v.i, .string y.v.s, .string y.tab, .string y.nm, .slice y.A y.n y.c, .slice y.B y.m y.d] from rfl]
      clear HX b8 ry hro1 hok1
      go_wp2_with fail
      go_meet
      exact ⟨y, hyok.out.le (by omega), (KC.add ((KC.ro 0 rfl).imp (S' := ExIn (n + 3) y) fun w2 h2 => h2.le (by omega))).pick [4, 0, 7, 8, 9, 10, 11, 12, 13, 14, 15, 16, 17] (by decide) rfl⟩
   case rest =>
    obtain ⟨y, hy, K4⟩ := hcut
    clear K3 F3 HE1
    have F4 := K4.facts
    simp only [factsL, cellsF, Nat.reduceAdd, zf, zl] at F4
    go_wp2_with (at_builtin; go_must (refine wpList_appH K4 2 rfl Tryz.elExG #[.int .i64 y.kind, .int .i64 y.op, .bool y.nt, .int .i64 y.v.k, .int .i64 y.v.i, .string y.v.s, .string y.tab, .string y.nm, .slice y.A y.n y.c, .slice y.B y.m y.d] rfl (.tmp 68) (.tmp 70) rfl rfl _ (by first | rfl | simp) rfl rfl (by intro u hu; simp at hu; rcases hu with rfl | rfl | rfl | rfl | rfl | rfl | rfl | rfl | rfl | rfl <;> rfl) (by omega) (by omega) ?_); intro gA capA wA hcA hmA KA; rw [show exCells outs ++ (#[.int .i64 y.kind, .int .i64 y.op, .bool y.nt, .int .i64 y.v.k, .int .i64 y.v.i, .string y.v.s, .string y.tab, .string y.nm, .slice y.A y.n y.c, .slice y.B y.m y.d] : Array Value).toList = exCells (outs ++ [y]) by simp [exCells, Ex.cells]] at KA; simp only [zl] at KA; have FA := KA.facts; simp only [factsL, cellsF, Nat.reduceAdd, zf, zl] at FA)
    have KB := KA.store 4 rfl 1 (.slice (some ⟨gA, 0, none⟩) (j + 1) capA)
    simp only [zl] at KB
    have KC := KB.add (S := fun w => ∀ x ∈ outs ++ [y], ExIn (n + 3) x w) (((KB.ro 3 rfl).and (KB.ro 1 rfl)).imp fun w2 h2 x hx => by
     rcases List.mem_append.1 hx with hx | hx
     ·exact h2.1 x hx
     ·simp only [List.mem_cons, List.not_mem_nil, or_false] at hx
      subst hx
      exact h2.2)
    go_roundw
    case rel =>
     refine ⟨j + 1, capA, _, outs ++ [y], by omega, by go_num, fun x hx => ?_, KC.pick [3, 0, 5, 6, 7, 8, 9, 10, 11, 12, 13] (by decide) rfl⟩
     rcases List.mem_append.1 hx with hx | hx
     ·exact hgd x hx
     ·simp only [List.mem_cons, List.not_mem_nil, or_false] at hx
      subst hx
      exact hy
    case measure => simp [intOf]; omega
  ·obtain rfl : cn = j := by omega
   have F := H.facts
   simp only [factsL, cellsF, Nat.reduceAdd, zf, zl] at F
   go_wp2_with fail
   refine (bool_any T 2 _ (H.tp_ 10 rfl) (by omega) (by omega)).mono ?_
   rintro e w7 ⟨b, rfl, t7, g7⟩
   have K4 := Hold.callT H 10 rfl g7 t7
   clear H F g7 t7
   have F4 := K4.facts
   simp only [factsL, cellsF, Nat.reduceAdd, zf, zl] at F4
   go_upto_if 75 with (fail)
   go_cut [] (fun wx => ∃ wh : SlP Ex, ItOk (n + 2) wh ∧ Hold M (some T) w wx [.own 134 10 (.slice O cn cap) cn (exCells outs), .ro (fun w => ∀ x ∈ outs, ExIn (n + 3) x w), .blk gq 274 #[.bool false, .slice O cn cap, .string xnm, .slice wh.A wh.n wh.c], .ro (ExlIn (n + 2) wh), .blk gr 274 #[.bool false, .slice none 0 0, .string ⟨#[]⟩, .slice none 0 0], .tp T])
   case first =>
    cases b
    ·go_wp2_with fail
     go_meet
     exact ⟨SlP.nil, exl_nil_ok, (K4.add (S := ExlIn (n + 2) SlP.nil) (fun w2 _ _ => SlP.nil_in _ _ _ w2)).pick [1, 2, 3, 0, 9, 11] (by decide) rfl⟩
    ·go_wp2_with fail
     refine (HE (Mut M _) T _ K4.mutLt (K4.tp_ 10 rfl) (K4.get 10 rfl).2 ⟨⟨some ⟨b9, o9, none⟩, fn + 1, c9, fl2⟩, ⟨some ⟨bS, oS, none⟩, sn, sc, sl⟩⟩ 2 depth ((K4.ro 4 rfl).less (mut_tpG (i := 10) rfl)) ((K4.ro 9 rfl).less (mut_tpG (i := 10) rfl)) hT HIN.out hd hd2).mono ?_
     rintro e w6 ⟨x, rfl, hx, rx, tY, gY⟩
     have K7 := ((Hold.callT K4 10 rfl gY tY).add rx).alloc_cst #[.int .i64 x.kind, .int .i64 x.op, .bool x.nt, .int .i64 x.v.k, .int .i64 x.v.i, .string x.v.s, .string x.tab, .string x.nm, .slice x.A x.n x.c, .slice x.B x.m x.d] 134
     rw [show x.val = .agg #[.int .i64 x.kind, .int .i64 x.op, .bool x.nt, .int .i64 x.v.k, .int .i64 x.v.i, .string x.v.s, .string x.tab, .string x.nm, .slice x.A x.n x.c, .slice x.B x.m x.d] from rfl]
     clear F4 K4 rx tY gY
     have F7 := K7.facts
     simp only [factsL, cellsF, Nat.reduceAdd, zf, zl] at F7
     have K8 := K7.store 4 rfl 3 (.slice (some ⟨w6.heap.size, 0, none⟩) 1 1)
     simp only [zl] at K8
     clear K7
     go_wp2_with fail
     go_meet
     exact ⟨⟨some ⟨w6.heap.size, 0, none⟩, 1, 1, [x]⟩, exl_one_ok hx, (K8.add (exl_one (K8.get 0 rfl) rfl (K8.ro 1 rfl))).pick [3, 4, 5, 0, 11, 13] (by decide) rfl⟩
   case rest =>
    obtain ⟨⟨hA, hN, hC, hl⟩, hwh, K5⟩ := hcut
    clear K4 F4
    simp only at K5
    have HWH := hid hwh
    clear hwh
    have F5 := K5.facts
    simp only [factsL, cellsF, Nat.reduceAdd, zf, zl] at F5
    have K7 := ((((K5.store 4 rfl 0 (.bool false)).store 4 rfl 1 (.slice O cn cap)).store 4 rfl 2 (.string xnm)).store 4 rfl 3 (.slice hA hN hC))
    simp only [zl] at K7
    have F7 := K7.facts
    simp only [factsL, cellsF, Nat.reduceAdd, zf, zl] at F7
    have hcap := own_caps (K5.get 0 rfl)
    have hlen := (K5.get 0 rfl).1
    rw [exCells_len] at hlen
    have KZ := K7.sealRow 0 rfl
    simp only [List.set_cons_zero] at KZ
    have hR : Ro _ _ (QuIn (n + 3) ⟨false, O, cn, cap, outs, xnm, hA, hN, hC, hl⟩) := ((KZ.ro 0 rfl).and ((KZ.ro 1 rfl).and (KZ.ro 3 rfl))).imp fun w2 h2 => ⟨⟨h2.1, h2.2.1⟩, h2.2.2.1, fun a ha => (h2.2.2.2 a ha).le (by omega)⟩
    have HR := hid (hR.less zm)
    have HT := hid (And.intro (KZ.tp_ 5 rfl) KZ.grow)
    have HGD := hid hgd
    clear K5 K7 KZ hR hgd
    go_wp2_with fail
    refine bodyPost_ret (v := .agg #[.bool false, .slice O cn cap, .string xnm, .slice hA hN hC]) ?_ rfl ?_
    ·clear HT HR HGD HWH
     simp [results, Tryz.results206, go_sem, F7]
    ·exact ⟨⟨false, O, cn, cap, outs, xnm, hA, hN, hC, hl⟩, rfl, ⟨⟨hcap.1, hcap.2.1, HWH.out.1.1, HWH.out.1.2⟩, ⟨by show outs.length ≤ 8; omega, HWH.out.2.1⟩, HGD.out, fun a ha => (HWH.out.2.2 a ha).le (by omega)⟩, HR.out, HT.out.1, HT.out.2⟩
end Go.Proofs.YtdkebcfkchhlmaaGreatDoor

namespace Go.Proofs.YtdkebcfkchhlmaaGreatDoor
open Go.RowKit
set_option linter.unusedVariables false
set_option linter.unusedSimpArgs false
/-- what is read lies outside a block that does not hold it -/
theorem slr_apart {w : World} {M : Nat → Prop} {size n : Nat} {A : Option Addr} {xs : List Value} {g : Nat} {t : TypeId} {cs : Array Value} (h : Ro w M (SlR size A n xs)) (hg : w.heap[g]? = some (.cells cs t (0, 0))) (hno : n = 0 ∨ ∀ o : Nat, ¬ ∀ (j : Nat) (u : Value), xs[j]? = some u → cs[o + j]? = some u) : Ro w (fun b => M b ∨ b = g) (SlR size A n xs) := by
 have h0 : Rd w w.heap.size size A n xs := h.now
 rcases hno with hn | hno
 ·exact fun w2 _ _ => ⟨h0.1, fun k => absurd k (by omega)⟩
 ·rcases Nat.eq_zero_or_pos n with hn | hn
  ·exact fun w2 _ _ => ⟨h0.1, fun k => absurd k (by omega)⟩
  ·obtain ⟨b, o, hA, hb, hc⟩ := h0.2 hn
   have hbg : b ≠ g := by
    rintro rfl
    refine hno o fun j u hu => ?_
    have := hc j u hu
    rw [cell_of_row w b _ _ t (0, 0) hg] at this
    exact this
   intro w2 h1 h2
   have hgl : g < w.heap.size := (List.getElem?_eq_some_iff.1 (by simpa using hg : w.heap.toList[g]? = _)).1
   have hne : ∀ x, x ≠ g → (w2.heap.setIfInBounds g (.cells cs t (0, 0)))[x]? = w2.heap[x]? := fun x hx => by
    rw [Array.getElem?_setIfInBounds, if_neg (fun e => hx e.symm)]
   have h3 : Rd { w2 with heap := w2.heap.setIfInBounds g (.cells cs t (0, 0)) } _ size A n xs := h { w2 with heap := w2.heap.setIfInBounds g (.cells cs t (0, 0)) } (by simpa using h1) (fun x hx hm => by
    show (w2.heap.setIfInBounds g _)[x]? = _
    by_cases hxg : x = g
    ·subst hxg
     rw [Array.getElem?_setIfInBounds_self_of_lt (by omega), hg]
    ·exact (hne x hxg).trans (h2 x hx (fun k => k.elim hm hxg)))
   obtain ⟨b', o', e, _, hc'⟩ := h3.2 hn
   obtain ⟨rfl, rfl⟩ : b = b' ∧ o = o' := by rw [hA] at e; injection e with e; injection e with a1 a2; exact ⟨a1, a2⟩
   refine ⟨h3.1, fun _ => ⟨b, o, hA, by omega, fun j u hu => ?_⟩⟩
   rw [← hc' j u hu]
   exact (World.cell?_of_block (w := w2) (w' := { w2 with heap := w2.heap.setIfInBounds g (.cells cs t (0, 0)) }) (a := ⟨b, o + j, none⟩) (hne b hbg)).symm
/-- a fresh assignment's cells -/
def zeroSe : Array Value := #[.string ⟨#[]⟩, .int .i64 0, .int .i64 0, .bool false, .int .i64 0, .int .i64 0, .string ⟨#[]⟩, .string ⟨#[]⟩, .string ⟨#[]⟩, .slice none 0 0, .slice none 0 0]
theorem exs_off {l : List Ex} {n : Nat} (hl : l.length = n) (hk : ∀ a ∈ l, 1 ≤ a.kind) : n = 0 ∨ ∀ o : Nat, ¬ ∀ (j : Nat) (u : Value), (exCells l)[j]? = some u → zeroSe[o + j]? = some u := by
 cases l with
 | nil => left; simpa using hl.symm
 | cons a l =>
  refine .inr fun o h => ?_
  have h0 := h 0 (.int .i64 a.kind) rfl
  have hk := hk a (List.mem_cons_self ..)
  rcases o with _ | _ | _ | _ | _ | _ | _ | _ | _ | _ | _ | o <;> simp [zeroSe] at h0 <;> omega
theorem qus_off {l : List Qu} {n : Nat} (hl : l.length = n) : n = 0 ∨ ∀ o : Nat, ¬ ∀ (j : Nat) (u : Value), (quCells l)[j]? = some u → zeroSe[o + j]? = some u := by
 cases l with
 | nil => left; simpa using hl.symm
 | cons a l =>
  refine .inr fun o h => ?_
  have h0 := h 0 (.bool a.star) rfl
  have h1 := h 1 (.slice a.A a.n a.c) rfl
  rcases o with _ | _ | _ | _ | _ | _ | _ | _ | _ | _ | _ | o <;> simp [zeroSe] at h0 h1
theorem ExGd.kind {d : Nat} {e : Ex} (h : ExGd d e) : 1 ≤ e.kind := by
 cases d with
 | zero => exact h.elim
 | succ d => exact h.2.1.1
theorem ex_apart {w : World} {g : Nat} {t : TypeId} (hg : w.heap[g]? = some (.cells zeroSe t (0, 0))) {M : Nat → Prop} : ∀ {d : Nat} {e : Ex}, ExGd d e → Ro w M (ExIn d e) → Ro w (fun b => M b ∨ b = g) (ExIn d e)
 | 0, _, h, _ => h.elim
 | d + 1, e, ⟨h1, h4, h2, h3⟩, hr => by
  have a1 : Ro w M (SlR 10 e.A e.n (exCells e.args)) := hr.imp fun w2 h => h.1
  have a3 : Ro w M (SlR 4 e.B e.m (quCells e.sub)) := hr.imp fun w2 h => h.2.2.1
  have l1 : e.args.length = e.n := by
   have := (show Rd _ _ 10 e.A e.n (exCells e.args) from a1.now).1
   rw [exCells_len] at this
   omega
  have l3 : e.sub.length = e.m := by
   have := (show Rd _ _ 4 e.B e.m (quCells e.sub) from a3.now).1
   rw [quCells_len] at this
   omega
  have b1 := slr_apart a1 hg (exs_off l1 fun a ha => (h2 a ha).kind)
  have b3 := slr_apart a3 hg (qus_off l3)
  have b2 : ∀ a ∈ e.args, Ro w (fun b => M b ∨ b = g) (ExIn d a) := fun a ha => ex_apart hg (h2 a ha) (hr.imp fun w2 h => h.2.1 a ha)
  have b4 : ∀ q ∈ e.sub, Ro w (fun b => M b ∨ b = g) (QuIn d q) := fun q hq => by
   have c1 : Ro w M (SlR 10 q.A q.n (exCells q.items)) := hr.imp fun w2 h => (h.2.2.2 q hq).1.1
   have c2 : Ro w M (SlR 10 q.B q.m (exCells q.wh)) := hr.imp fun w2 h => (h.2.2.2 q hq).2.1
   have m1 : q.items.length = q.n := by
    have := (show Rd _ _ 10 q.A q.n (exCells q.items) from c1.now).1
    rw [exCells_len] at this
    omega
   have m2 : q.wh.length = q.m := by
    have := (show Rd _ _ 10 q.B q.m (exCells q.wh) from c2.now).1
    rw [exCells_len] at this
    omega
   have e1 := slr_apart c1 hg (exs_off m1 fun a ha => ((h3 q hq).2.2.1 a ha).kind)
   have e2 := slr_apart c2 hg (exs_off m2 fun a ha => ((h3 q hq).2.2.2 a ha).kind)
   have e3 : ∀ a ∈ q.items, Ro w (fun b => M b ∨ b = g) (ExIn d a) := fun a ha => ex_apart hg ((h3 q hq).2.2.1 a ha) (hr.imp fun w2 h => (h.2.2.2 q hq).1.2 a ha)
   have e4 : ∀ a ∈ q.wh, Ro w (fun b => M b ∨ b = g) (ExIn d a) := fun a ha => ex_apart hg ((h3 q hq).2.2.2 a ha) (hr.imp fun w2 h => (h.2.2.2 q hq).2.2 a ha)
   exact fun w2 g1 g2 => ⟨⟨e1 w2 g1 g2, fun a ha => e3 a ha w2 g1 g2⟩, e2 w2 g1 g2, fun a ha => e4 a ha w2 g1 g2⟩
  exact fun w2 g1 g2 => ⟨b1 w2 g1 g2, fun a ha => b2 a ha w2 g1 g2, b3 w2 g1 g2, fun q hq => b4 q hq w2 g1 g2⟩
end Go.Proofs.YtdkebcfkchhlmaaGreatDoor

namespace Go.Proofs.YtdkebcfkchhlmaaGreatDoor
open Go.RowKit
set_option linter.unusedVariables false
set_option linter.unusedSimpArgs false
/-- a short slice of good things -/
def LsOk {α : Type} (k : Nat) (s : SlP α) (Q : α → Prop) : Prop := (s.n ≤ s.c ∧ s.c ≤ 9223372036854775807) ∧ s.l.length ≤ k ∧ ∀ x ∈ s.l, Q x
theorem LsOk.nil {α : Type} (k : Nat) (Q : α → Prop) : LsOk k (SlP.nil : SlP α) Q := ⟨⟨Nat.le_refl _, by simp [SlP.nil]⟩, by simp [SlP.nil], fun z hz => (nomatch hz)⟩
/-- an action drawn -/
structure AcGd (d : Nat) (a : Ac) : Prop where
 k : 1 ≤ a.kind ∧ a.kind ≤ 5
 r : LsOk 8 a.rows (fun r => LsOk 8 r (ExGd d))
 q : LsOk 1 a.qs (QuGd d)
 s : LsOk 8 a.sets (fun s => ExGd d s.e)
 h : LsOk 1 a.wh (ExGd d)
theorem addr_eq {b o b2 o2 : Nat} (h : some (⟨b, o, none⟩ : Addr) = some ⟨b2, o2, none⟩) : b = b2 ∧ o = o2 := by
 injection h with h
 injection h with e1 e2
 exact ⟨e1, e2⟩
theorem gd_snoc {d : Nat} {l : List Ex} {y : Ex} (h : ∀ x ∈ l, ExGd d x) (hy : ExGd d y) : ∀ x ∈ l ++ [y], ExGd d x := fun x hx => by
 rcases List.mem_append.1 hx with hx | hx
 ·exact h x hx
 ·simp only [List.mem_cons, List.not_mem_nil, or_false] at hx
  subst hx
  exact hy
def rwE (l : List (SlP Ex)) : List Value := l.flatMap fun r => [r.v]
theorem Tryz.elRowG : ElemT Tryz.prog 95 37 1 24 (.slice none 0 0) := ⟨Tryz.underlying95, by kernel_rfl, rfl, by omega⟩
theorem exCells_set (z : Ex) : ∀ {l : List Ex} {k : Nat}, k < l.length → (((((((((((exCells l).set (k * 10) (.int .i64 z.kind)).set (k * 10 + 1) (.int .i64 z.op)).set (k * 10 + 2) (.bool z.nt)).set (k * 10 + 3) (.int .i64 z.v.k)).set (k * 10 + 4) (.int .i64 z.v.i)).set (k * 10 + 5) (.string z.v.s)).set (k * 10 + 6) (.string z.tab)).set (k * 10 + 7) (.string z.nm)).set (k * 10 + 8) (.slice z.A z.n z.c)).set (k * 10 + 9) (.slice z.B z.m z.d)) = exCells (l.set k z)
 | [], k, h => by simp at h
 | x :: l, 0, h => by simp [exCells, Ex.cells]
 | x :: l, k + 1, h => by
  have ih := exCells_set z (l := l) (k := k) (by simpa using h)
  have e : ∀ (ys : List Value) (j : Nat) (u : Value), (x.cells ++ ys).set (j + 10) u = x.cells ++ ys.set j u := fun ys j u => by
   rw [List.set_append_right _ _ (by simp [Ex.cells])]
   simp [Ex.cells]
  have e0 : exCells (x :: l) = x.cells ++ exCells l := by simp [exCells]
  have e1 : exCells ((x :: l).set (k + 1) z) = x.cells ++ exCells (l.set k z) := by simp [exCells]
  rw [e0, e1, show (k + 1) * 10 = k * 10 + 10 by omega, e, show k * 10 + 10 + 1 = (k * 10 + 1) + 10 by omega, e, show k * 10 + 10 + 2 = (k * 10 + 2) + 10 by omega, e, show k * 10 + 10 + 3 = (k * 10 + 3) + 10 by omega, e, show k * 10 + 10 + 4 = (k * 10 + 4) + 10 by omega, e, show k * 10 + 10 + 5 = (k * 10 + 5) + 10 by omega, e, show k * 10 + 10 + 6 = (k * 10 + 6) + 10 by omega, e, show k * 10 + 10 + 7 = (k * 10 + 7) + 10 by omega, e, show k * 10 + 10 + 8 = (k * 10 + 8) + 10 by omega, e, show k * 10 + 10 + 9 = (k * 10 + 9) + 10 by omega, e, ih]
def seCells (l : List Se) : List Value := l.flatMap Se.cells
theorem Tryz.elSeG : ElemT Tryz.prog 97 136 11 152 (.agg #[.string ⟨#[]⟩, .int .i64 0, .int .i64 0, .bool false, .int .i64 0, .int .i64 0, .string ⟨#[]⟩, .string ⟨#[]⟩, .string ⟨#[]⟩, .slice none 0 0, .slice none 0 0]) := ⟨Tryz.underlying97, by kernel_rfl, rfl, by omega⟩
def AcRet (w : World) (T : Nat) (M : Nat → Prop) (d : Nat) (e : Ending) (w' : World) : Prop := ∃ a : Ac, e = .returned a.val ∧ AcGd d a ∧ Ro w' M (AcIn d a) ∧ Tp w' T ∧ w.grownBy w' (some T)
theorem QuIn.le {d d' : Nat} {q : Qu} {w : World} (h : QuIn d q w) (hd : d ≤ d') : QuIn d' q w := ⟨⟨h.1.1, fun a ha => (h.1.2 a ha).le hd⟩, h.2.1, fun a ha => (h.2.2 a ha).le hd⟩
theorem QuGd.le {d d' : Nat} {q : Qu} (h : QuGd d q) (hd : d ≤ d') : QuGd d' q := ⟨h.1, h.2.1, fun a ha => (h.2.2.1 a ha).le hd, fun a ha => (h.2.2.2 a ha).le hd⟩
theorem plN_ins {m : Nat} {p : Pl} (h : PlN (m + 1) p) {s : Sm} (hs : s.cols.n ≤ 100) {A : Option Addr} {c : Nat} (hc : p.fr.n + 1 ≤ c) : PlN m (p.more s A c) := by
 have hn := h.n
 refine ⟨⟨⟨hc, ?_⟩, h.b.t, fun f hf => ?_, h.b.tc⟩, ?_, fun _ => trivial⟩
 ·show p.fr.n + 1 ≤ 100
  omega
 ·rcases List.mem_append.1 hf with hf | hf
  ·exact h.b.fc f hf
  ·simp only [List.mem_singleton] at hf
   subst hf
   exact hs
 ·show p.fr.n + 1 + m ≤ 90
  omega
set_option maxRecDepth 100000 in
set_option maxHeartbeats 16000000 in
theorem change_anyG {n : Nat} (HE : GE n) (M : Nat → Prop) (T : Nat) (w : World) (hM : ∀ b, M b → b < w.heap.size) (ht : Tp w T) (hMT : ∀ b, M b → T ≤ b) (p : Pl) (depth : Int) (hp : Ro w (Mut M [.tp T]) (PlIn p)) (hW : Ro w (Mut M [.tp T]) Wds) (hT : 1 < T) (hB : PlN (n + 1) p) (hd : depth ≤ n) (hd2 : -100 ≤ depth) (hs : 0 < p.tb.n) :
  Calls Tryz.prog 162 #[.pointer (some ⟨T, 0, none⟩), p.val, .int .i64 depth] w fun e w' => AcRet w T M (n + 3) e w' := by
 have HBM := hid (fun (s : Sm) (hs : s.cols.n ≤ 100) (A : Option Addr) (c : Nat) (hc : p.fr.n + 1 ≤ c) => plN_ins hB hs (A := A) hc)
 have HB0 := hid hB
 have HBN := hid (show PlN n p from ⟨hB.b, by have := hB.n; omega, fun _ => trivial⟩)
 obtain ⟨⟨fA, fn, fc, fl⟩, ⟨sA, sn, sc, sl⟩⟩ := p
 have HS := hid (show 0 < sn from hs)
 have KS := ((((Hold.startT M w T hM ht hMT).add hW).add (hp.less (by simp [mut_cons, Mut, Hp.foot]))).alloc_cst #[.slice fA fn fc, .slice sA sn sc] 181).alloc #[.int .i64 0, .string ⟨#[]⟩, .slice none 0 0, .slice none 0 0, .slice none 0 0, .slice none 0 0, .string ⟨#[]⟩] 99
 rw [World.size_alloc] at KS
 obtain ⟨gp, hgp⟩ : ∃ g, g = w.heap.size := ⟨_, rfl⟩
 rw [← hgp] at KS
 obtain ⟨gr, hgr⟩ : ∃ g, g = gp + 1 := ⟨_, rfl⟩
 rw [← hgr] at KS
 have hm90 : n ≤ 90 ∧ fn ≤ 90 := by have h1 : fn + (n + 1) ≤ 90 := hB.n; omega
 have F0 := KS.facts
 simp only [factsL, cellsF, Nat.reduceAdd, zf, zl] at F0
 rw [hgr, hgp] at F0
 simp only [Pl.val]
 clear hp hW hB hs
 go_enter Tryz.func162, Tryz.ntmps162
 go_wp2_with fail
 rw [← hgp]
 try rw [← hgr]
 have HG := hid (And.intro hgp hgr)
 clear hgp hgr F0
 refine (tname_any (Mut M _) T _ KS.mutLt (KS.tp_ 4 rfl) (KS.get 4 rfl).2).mono ?_
 rintro e w1 ⟨tt, rfl, hT1, t1, g1⟩
 have K1 := Hold.callT KS 4 rfl g1 t1
 clear KS g1 t1
 go_wp2_with fail
 refine (schema_any (Mut M _) _ K1.mutLt tt).mono ?_
 rintro e w2 ⟨cA, cn, cc, rfl, hcc, hc4, r1, b1⟩
 have hcl : 1 ≤ cn ∧ cn ≤ 4 := by
  have h := (show Rd w2 w2.heap.size 4 cA cn (colCells (schemaOf tt).2) from r1.now).1
  have h2 := one_schema hT1
  have h3 : (colCells (schemaOf tt).2).length = (schemaOf tt).2.length * 4 := flat_len _ 4 (fun _ => rfl) _
  omega
 obtain ⟨bC, oC, eC, -, -⟩ := (show Rd w2 w2.heap.size 4 cA cn (colCells (schemaOf tt).2) from r1.now).2 (by omega)
 subst eC
 obtain ⟨snm, hsnm⟩ : ∃ x, x = (schemaOf tt).1 := ⟨_, rfl⟩
 obtain ⟨cl, hcs⟩ : ∃ x, x = (schemaOf tt).2 := ⟨_, rfl⟩
 rw [← hcs] at r1
 rw [← hsnm]
 have HLN := hid (show cl.length = cn from (RdC.of_sl r1.now).len)
 have K2 := ((K1.call b1).add r1).alloc #[.string snm, .slice (some ⟨bC, oC, none⟩) cn cc] 49
 have F1 := (K1.call b1).facts
 simp only [factsL, cellsF, Nat.reduceAdd, zf, zl] at F1
 have F2 := K2.facts
 simp only [factsL, cellsF, Nat.reduceAdd, zf, zl] at F2
 clear K1 hsnm hcs r1 b1
 go_wp2_with fail
 obtain ⟨gs, hgs⟩ : ∃ g, g = w2.heap.size := ⟨_, rfl⟩
 rw [← hgs] at K2 ⊢
 have HGS := hid hgs
 clear hgs F1 F2
 refine (inside_any (Mut M _) _ K2.mutLt ⟨⟨fA, fn, fc, fl⟩, ⟨sA, sn, sc, sl⟩⟩ ⟨snm, ⟨some ⟨bC, oC, none⟩, cn, cc, cl⟩⟩ (K2.ro 4 rfl) ((K2.ro 1 rfl).imp fun w2 h2 => ⟨h2, fun _ _ => trivial⟩) (by have := hm90; show fn ≤ 1000; omega)).mono ?_
 rintro e w5 ⟨A9, c9, rfl, hc9, ro9, hbl9⟩
 have HIN := hid (HBM.out ⟨snm, ⟨some ⟨bC, oC, none⟩, cn, cc, cl⟩⟩ (by show cn ≤ 100; omega) A9 c9 hc9)
 simp only [Pl.val, Pl.more] at *
 obtain ⟨fl2, hfl2⟩ : ∃ l, l = fl ++ [(⟨snm, false, ⟨some ⟨bC, oC, none⟩, cn, cc, cl⟩, SlP.nil⟩ : Fr)] := ⟨_, rfl⟩
 rw [← hfl2] at ro9 HIN
 clear hfl2 HBM
 have K8 := ((K2.call hbl9).add ro9).alloc #[.slice A9 (fn + 1) c9, .slice sA sn sc] 181
 have F8a := (K2.call hbl9).facts
 simp only [factsL, cellsF, Nat.reduceAdd, zf, zl] at F8a
 have F8 := K8.facts
 simp only [factsL, cellsF, Nat.reduceAdd, zf, zl] at F8
 clear K2 hbl9 ro9
 go_upto_region 3 with fail
 obtain ⟨gi, hgi⟩ : ∃ g, g = w5.heap.size := ⟨_, rfl⟩
 rw [← hgi] at K8 F8 ⊢
 have HGI := hid hgi
 clear hgi F8a
 have K9 : Hold M (some T) w _ [.blk gi 181 #[.slice A9 (fn + 1) c9, .slice sA sn sc], .ro (PlIn ⟨⟨A9, fn + 1, c9, fl2⟩, ⟨sA, sn, sc, sl⟩⟩), .blk gs 49 #[.string snm, .slice (some ⟨bC, oC, none⟩) cn cc], .ro (SlR 4 (some ⟨bC, oC, none⟩) cn (colCells cl)), .blk gr 99 #[.int .i64 0, .string ⟨#[]⟩, .slice none 0 0, .slice none 0 0, .slice none 0 0, .slice none 0 0, .string ⟨#[]⟩], .cst gp 181 #[.slice fA fn fc, .slice sA sn sc], .ro (PlIn ⟨⟨fA, fn, fc, fl⟩, ⟨sA, sn, sc, sl⟩⟩), .ro Wds, .tp T] := K8.pick [0, 1, 2, 3, 4, 5, 6, 7, 8] (by decide) rfl
 obtain ⟨KL, hKL, K6⟩ := K9.name
 have H1 : ∀ wv : World, Hold M (some T) w wv KL → Blk wv gs 49 #[.string snm, .slice (some ⟨bC, oC, none⟩) cn cc] := fun wv h => by rw [hKL] at h; exact h.blk_ 2 rfl
 have h4 : KL[8]? = some (.tp T) := by rw [hKL]; rfl
 have HH1 := hid H1
 have HH4 := hid h4
 have HKL := hid hKL
 clear hKL H1 h4 K8 K9
 go_wp2_with fail
 clear F8
 refine wp_region_any (by kernel_rfl) ?_
 refine wpAny_hold 7 175 (KL) (spL [(25, fun u _ => NatB 3 u), (9, NewSlot (Mut M KL) (gi + 1) 99 #[.int .i64 0, .string ⟨#[]⟩, .slice none 0 0, .slice none 0 0, .slice none 0 0, .slice none 0 0, .string ⟨#[]⟩])]) (by kernel_rfl) (by kernel_rfl) (by kernel_rfl) rfl ?_ (K6.drew) ?_
 ·exact stays_cons (fun _ _ _ _ h => h) (stays_cons newSlot_mono (stays_nil _))
 simp only [zd, Act.put, List.getElem_toArray, List.getElem_cons_zero, List.getElem_cons_succ, zl]
 refine dw_val rfl rfl rfl ?_; apply Exists.intro; refine ⟨fun wv HC => ?_, ?_⟩
 · go_simp <;> rfl
 simp only [Act.put, zl]
 refine dw_next 3 8 HH4.out 25 rfl rfl rfl rfl (fun wv => ?_) (fun r hr => ?_)
 ·go_simp <;> rfl
 have hwr : IntKind.i64.wrap (1 + (r : Int)) = 1 + r := IntWalk.i64_in _ (by omega)
 simp only [Act.put, zl]
 refine dw_val rfl rfl rfl ?_; apply Exists.intro; refine ⟨fun wv HC => ?_, ?_⟩
 · go_simp <;> rfl
 simp only [Act.put, zl]
 refine dw_val rfl rfl rfl ?_; apply Exists.intro; refine ⟨fun wv HC => ?_, ?_⟩
 · go_simp <;> rfl
 simp only [Act.put, zl]
 refine dw_val rfl rfl rfl ?_; apply Exists.intro; refine ⟨fun wv HC => ?_, ?_⟩
 ·obtain q0 := (HH1.out _ HC).cell 0; go_simp <;> rfl
 simp only [Act.put, zl]
 refine dw_val rfl rfl rfl ?_; apply Exists.intro; refine ⟨fun wv HC => ?_, ?_⟩
 · go_simp <;> rfl
 simp only [Act.put, zl]
 refine dw_new #[.int .i64 0, .string ⟨#[]⟩, .slice none 0 0, .slice none 0 0, .slice none 0 0, .slice none 0 0, .string ⟨#[]⟩] 99 9 (NewSlot (Mut M KL) (gi + 1) 99 #[.int .i64 0, .string ⟨#[]⟩, .slice none 0 0, .slice none 0 0, .slice none 0 0, .slice none 0 0, .string ⟨#[]⟩]) (fun g => .pointer (some ⟨g, 0, none⟩)) rfl rfl rfl rfl (fun wv => ?_) (fun wv HC hrm hD hro => ?_) ?_
 ·go_simp <;> rfl
 ·exact ⟨_, rfl, by have := hrm.1; simp only [World.size_alloc, World.size_drew] at this; have := HGI.out; omega, hro _ HC.mutLt⟩
 rintro ga wg HCg hsl
 clear HCg hsl
 simp only [Act.put, zl]
 refine rel_nil ?_
 rintro wx2 HX
 rintro _hrm HGW
 have hu : NewSlot (Mut M KL) (gi + 1) 99 #[.int .i64 0, .string ⟨#[]⟩, .slice none 0 0, .slice none 0 0, .slice none 0 0, .slice none 0 0, .string ⟨#[]⟩] (.pointer (some ⟨ga, 0, none⟩)) wx2 := (GW_on (d := 9) rfl).1 (HGW 6 _ rfl (by omega))
 clear HGW
 obtain ⟨ga', e', hg1, hg2⟩ := hu
 obtain rfl : ga = ga' := by injection e' with e'; injection e' with e'; injection e'
 clear e'
 have HB := Hold.addFreshBlk K6.drew HX _hrm (by simp only [World.size_alloc, World.size_drew]; have := HGI.out; omega) hg2.now
 rw [HKL.out] at HB
 clear HX _hrm hg2 K6 HH1 HH4 HKL
 have FA := HB.facts
 simp only [factsL, cellsF, Nat.reduceAdd, zf, zl] at FA
 have KA := ((((((HB.store 0 rfl 0 (.int .i64 (1 + r))).store 0 rfl 1 (.string snm)).store 0 rfl 2 (.slice none 0 0)).store 0 rfl 3 (.slice none 0 0)).store 0 rfl 4 (.slice none 0 0)).store 0 rfl 5 (.slice none 0 0)).store 0 rfl 6 (.string ⟨#[]⟩)
 simp only [zl] at KA
 have F := KA.facts
 simp only [factsL, cellsF, Nat.reduceAdd, zf, zl] at F
 clear HB
 go_upto_region 4 with fail
 clear FA
 generalize World.setCell _ _ _ = wa at KA F ⊢
 generalize hk : (1 + (r : Int)) = k at KA F ⊢
 have hk3 : k = 1 ∨ k = 2 ∨ k = 3 := by omega
 clear hk hwr
 rcases hk3 with rfl | rfl | rfl
 ·go_wp2_with fail
  refine (bool_any T 4 _ (KA.tp_ 9 rfl) (by omega) (by omega)).mono ?_
  rintro e w3 ⟨b4, rfl, t3, g3⟩
  have K1 := Hold.callT KA 9 rfl g3 t3
  clear KA F t3 g3
  have F1 := K1.facts
  simp only [factsL, cellsF, Nat.reduceAdd, zf, zl] at F1
  cases b4
  ·go_wp2_with fail
   refine (next_any T 3 _ (K1.tp_ 9 rfl) (by omega) (by omega)).mono ?_
   rintro e w3 ⟨r3, rfl, r30, r31, t3, g3⟩
   have KB := ((Hold.callT K1 9 rfl g3 t3).nil 37 1).add (S := fun w => ∀ r ∈ ([] : List (SlP Ex)), ExlIn (n + 3) r w) (fun w2 _ _ s hs => (nomatch hs))
   have KC : Hold M (some T) w _ [.own 37 1 (.slice none 0 0) 0 (rwE ([] : List (SlP Ex))), .ro (fun w => ∀ r ∈ ([] : List (SlP Ex)), ExlIn (n + 3) r w), .blk ga 99 #[.int .i64 1, .string snm, .slice none 0 0, .slice none 0 0, .slice none 0 0, .slice none 0 0, .string ⟨#[]⟩], .blk gi 181 #[.slice A9 (fn + 1) c9, .slice sA sn sc], .ro (PlIn ⟨⟨A9, fn + 1, c9, fl2⟩, ⟨sA, sn, sc, sl⟩⟩), .blk gs 49 #[.string snm, .slice (some ⟨bC, oC, none⟩) cn cc], .ro (SlR 4 (some ⟨bC, oC, none⟩) cn (colCells cl)), .blk gr 99 #[.int .i64 0, .string ⟨#[]⟩, .slice none 0 0, .slice none 0 0, .slice none 0 0, .slice none 0 0, .string ⟨#[]⟩], .cst gp 181 #[.slice fA fn fc, .slice sA sn sc], .ro (PlIn ⟨⟨fA, fn, fc, fl⟩, ⟨sA, sn, sc, sl⟩⟩), .ro Wds, .tp T] := KB.pick [1, 0, 2, 3, 4, 5, 6, 7, 8, 9, 10, 11] (by decide) rfl
   obtain ⟨i0, hi0⟩ : ∃ i0 : Nat, 1 + r3 = i0 := ⟨(1 + r3).toNat, by omega⟩
   have hi03 : i0 ≤ 3 := by omega
   have hwi0 : IntKind.i64.wrap (1 + r3) = i0 := by rw [hi0]; exact IntWalk.i64_in _ (by omega)
   have HI0 := hid hi0
   clear K1 KB F1 t3 g3 hi0
   go_wp2_with fail
   go_loopw [10] (fun iv wr => ∃ (i k cap : Nat) (O : Option Addr) (rs : List (SlP Ex)), iv = .int .i64 i ∧ k + i ≤ 3 ∧ (∀ r ∈ rs, LsOk 8 r (ExGd (n + 3))) ∧ Hold M (some T) w wr [.own 37 1 (.slice O k cap) k (rwE rs), .ro (fun w => ∀ r ∈ rs, ExlIn (n + 3) r w), .blk ga 99 #[.int .i64 1, .string snm, .slice O k cap, .slice none 0 0, .slice none 0 0, .slice none 0 0, .string ⟨#[]⟩], .blk gi 181 #[.slice A9 (fn + 1) c9, .slice sA sn sc], .ro (PlIn ⟨⟨A9, fn + 1, c9, fl2⟩, ⟨sA, sn, sc, sl⟩⟩), .blk gs 49 #[.string snm, .slice (some ⟨bC, oC, none⟩) cn cc], .ro (SlR 4 (some ⟨bC, oC, none⟩) cn (colCells cl)), .blk gr 99 #[.int .i64 0, .string ⟨#[]⟩, .slice none 0 0, .slice none 0 0, .slice none 0 0, .slice none 0 0, .string ⟨#[]⟩], .cst gp 181 #[.slice fA fn fc, .slice sA sn sc], .ro (PlIn ⟨⟨fA, fn, fc, fl⟩, ⟨sA, sn, sc, sl⟩⟩), .ro Wds, .tp T]) (fun iv _ => (intOf iv).toNat)
   case atStart => exact ⟨i0, 0, 0, none, [], rfl, by omega, fun s hs => (nomatch hs), KC⟩
   case round =>
    clear KC
    obtain ⟨i, k, cap, O, rs, rfl, hki, hrs, H⟩ := hrel
    by_cases hi : 0 < i
    ·have hii : (0 : Int) < (i : Int) := by omega
     have hwi : IntKind.i64.wrap ((i : Int) - 1) = ((i - 1 : Nat) : Int) := by rw [show ((i - 1 : Nat) : Int) = (i : Int) - 1 by omega]; exact IntWalk.i64_in _ (by omega)
     have F := H.facts
     simp only [factsL, cellsF, Nat.reduceAdd, zf, zl] at F
     have K2 : Hold M (some T) w _ [.own 134 10 (.slice none 0 0) 0 (exCells ([] : List Ex)), .ro (fun w => ∀ x ∈ ([] : List Ex), ExIn (n + 3) x w), .own 37 1 (.slice O k cap) k (rwE rs), .ro (fun w => ∀ r ∈ rs, ExlIn (n + 3) r w), .blk ga 99 #[.int .i64 1, .string snm, .slice O k cap, .slice none 0 0, .slice none 0 0, .slice none 0 0, .string ⟨#[]⟩], .blk gi 181 #[.slice A9 (fn + 1) c9, .slice sA sn sc], .ro (PlIn ⟨⟨A9, fn + 1, c9, fl2⟩, ⟨sA, sn, sc, sl⟩⟩), .blk gs 49 #[.string snm, .slice (some ⟨bC, oC, none⟩) cn cc], .ro (SlR 4 (some ⟨bC, oC, none⟩) cn (colCells cl)), .blk gr 99 #[.int .i64 0, .string ⟨#[]⟩, .slice none 0 0, .slice none 0 0, .slice none 0 0, .slice none 0 0, .string ⟨#[]⟩], .cst gp 181 #[.slice fA fn fc, .slice sA sn sc], .ro (PlIn ⟨⟨fA, fn, fc, fl⟩, ⟨sA, sn, sc, sl⟩⟩), .ro Wds, .tp T] := ((H.nil 134 10).add (S := fun w => ∀ x ∈ ([] : List Ex), ExIn (n + 3) x w) (fun w2 _ _ s hs => (nomatch hs))).pick [1, 0, 2, 3, 4, 5, 6, 7, 8, 9, 10, 11, 12, 13] (by decide) rfl
     clear H
     go_wp2_with fail
     clear F
     go_loopw [11, 54] (fun rv jv wr => ∃ (j cap2 : Nat) (O2 : Option Addr) (outs : List Ex), j ≤ cn ∧ rv = .slice O2 j cap2 ∧ jv = .int .i64 j ∧ (∀ x ∈ outs, ExGd (n + 3) x) ∧ Hold M (some T) w wr [.own 134 10 (.slice O2 j cap2) j (exCells outs), .ro (fun w => ∀ x ∈ outs, ExIn (n + 3) x w), .own 37 1 (.slice O k cap) k (rwE rs), .ro (fun w => ∀ r ∈ rs, ExlIn (n + 3) r w), .blk ga 99 #[.int .i64 1, .string snm, .slice O k cap, .slice none 0 0, .slice none 0 0, .slice none 0 0, .string ⟨#[]⟩], .blk gi 181 #[.slice A9 (fn + 1) c9, .slice sA sn sc], .ro (PlIn ⟨⟨A9, fn + 1, c9, fl2⟩, ⟨sA, sn, sc, sl⟩⟩), .blk gs 49 #[.string snm, .slice (some ⟨bC, oC, none⟩) cn cc], .ro (SlR 4 (some ⟨bC, oC, none⟩) cn (colCells cl)), .blk gr 99 #[.int .i64 0, .string ⟨#[]⟩, .slice none 0 0, .slice none 0 0, .slice none 0 0, .slice none 0 0, .string ⟨#[]⟩], .cst gp 181 #[.slice fA fn fc, .slice sA sn sc], .ro (PlIn ⟨⟨fA, fn, fc, fl⟩, ⟨sA, sn, sc, sl⟩⟩), .ro Wds, .tp T]) (fun _ jv _ => cn - (intOf jv).toNat)
     case atStart => exact ⟨0, 0, none, [], by omega, rfl, rfl, fun x hx => (nomatch hx), K2⟩
     case round =>
      clear K2
      obtain ⟨j, cap2, O2, outs, hj, rfl, rfl, hgd, H⟩ := hrel
      by_cases hlt : j < cn
      ·obtain ⟨⟨ynm, yty, ynn, ykey⟩, hc⟩ := get_col HLN.out hlt
       obtain ⟨b2', o2', hcA, hb2, x0, x1, x2, x3⟩ := (RdC.of_sl (H.ro 8 rfl).now).at_ hc
       obtain ⟨rfl, rfl⟩ := addr_eq hcA
       clear hcA
       simp only at x0 x1 x2 x3
       clear hc
       obtain ⟨gk, hgk, K3⟩ : ∃ gk, gk = _ ∧ Hold M (some T) w _ [.cst gk 162 #[.string ynm, .int .i64 yty, .bool ynn, .bool ykey], .own 134 10 (.slice O2 j cap2) j (exCells outs), .ro (fun w => ∀ x ∈ outs, ExIn (n + 3) x w), .own 37 1 (.slice O k cap) k (rwE rs), .ro (fun w => ∀ r ∈ rs, ExlIn (n + 3) r w), .blk ga 99 #[.int .i64 1, .string snm, .slice O k cap, .slice none 0 0, .slice none 0 0, .slice none 0 0, .string ⟨#[]⟩], .blk gi 181 #[.slice A9 (fn + 1) c9, .slice sA sn sc], .ro (PlIn ⟨⟨A9, fn + 1, c9, fl2⟩, ⟨sA, sn, sc, sl⟩⟩), .blk gs 49 #[.string snm, .slice (some ⟨bC, oC, none⟩) cn cc], .ro (SlR 4 (some ⟨bC, oC, none⟩) cn (colCells cl)), .blk gr 99 #[.int .i64 0, .string ⟨#[]⟩, .slice none 0 0, .slice none 0 0, .slice none 0 0, .slice none 0 0, .string ⟨#[]⟩], .cst gp 181 #[.slice fA fn fc, .slice sA sn sc], .ro (PlIn ⟨⟨fA, fn, fc, fl⟩, ⟨sA, sn, sc, sl⟩⟩), .ro Wds, .tp T] := ⟨_, rfl, H.alloc_cst #[.string ynm, .int .i64 yty, .bool ynn, .bool ykey] 162⟩
       have F3 := K3.facts
       simp only [factsL, cellsF, Nat.reduceAdd, zf, zl] at F3
       rw [hgk] at F3
       clear H
       go_upto_region 16 with fail
       rw [← hgk] at F3 ⊢
       have HGK := hid hgk
       clear hgk
       go_cut [63] (fun v wx => ∃ bb : Bool, v = .bool bb ∧ Hold M (some T) w wx [.cst gk 162 #[.string ynm, .int .i64 yty, .bool ynn, .bool ykey], .own 134 10 (.slice O2 j cap2) j (exCells outs), .ro (fun w => ∀ x ∈ outs, ExIn (n + 3) x w), .own 37 1 (.slice O k cap) k (rwE rs), .ro (fun w => ∀ r ∈ rs, ExlIn (n + 3) r w), .blk ga 99 #[.int .i64 1, .string snm, .slice O k cap, .slice none 0 0, .slice none 0 0, .slice none 0 0, .string ⟨#[]⟩], .blk gi 181 #[.slice A9 (fn + 1) c9, .slice sA sn sc], .ro (PlIn ⟨⟨A9, fn + 1, c9, fl2⟩, ⟨sA, sn, sc, sl⟩⟩), .blk gs 49 #[.string snm, .slice (some ⟨bC, oC, none⟩) cn cc], .ro (SlR 4 (some ⟨bC, oC, none⟩) cn (colCells cl)), .blk gr 99 #[.int .i64 0, .string ⟨#[]⟩, .slice none 0 0, .slice none 0 0, .slice none 0 0, .slice none 0 0, .string ⟨#[]⟩], .cst gp 181 #[.slice fA fn fc, .slice sA sn sc], .ro (PlIn ⟨⟨fA, fn, fc, fl⟩, ⟨sA, sn, sc, sl⟩⟩), .ro Wds, .tp T])
       case first =>
        cases ykey
        ·go_wp2_with fail
         refine (bool_any T 3 _ (K3.tp_ 14 rfl) (by omega) (by omega)).mono ?_
         rintro e w7 ⟨b7, rfl, t7, g7⟩
         have K4 := Hold.callT K3 14 rfl g7 t7
         go_wp2_with fail
         go_meet
         exact ⟨b7, rfl, K4⟩
        ·go_wp2_with fail
         go_meet
         exact ⟨true, rfl, K3⟩
       case rest =>
        obtain ⟨bb, rfl, K4⟩ := hcut
        clear K3 F3 x0 x1 x2 x3
        have F4 := K4.facts
        simp only [factsL, cellsF, Nat.reduceAdd, zf, zl] at F4
        cases bb
        ·go_wp2_with fail
         refine (HE (Mut M _) T _ K4.mutLt (K4.tp_ 14 rfl) (K4.get 14 rfl).2 ⟨⟨fA, fn, fc, fl⟩, ⟨sA, sn, sc, sl⟩⟩ yty depth ((K4.ro 12 rfl).less (mut_tpG (i := 14) rfl)) ((K4.ro 13 rfl).less (mut_tpG (i := 14) rfl)) hT HBN.out hd hd2).mono ?_
         rintro e w8 ⟨y, rfl, hy, ry, t8, g8⟩
         have K6 := (Hold.callT K4 14 rfl g8 t8).add ry
         have HYO := hid hy
         clear K4 F4 g8 t8 ry hy
         rw [show y.val = .agg #[.int .i64 y.kind, .int .i64 y.op, .bool y.nt, .int .i64 y.v.k, .int .i64 y.v.i, .string y.v.s, .string y.tab, .string y.nm, .slice y.A y.n y.c, .slice y.B y.m y.d] from rfl]
         have F6 := K6.facts
         simp only [factsL, cellsF, Nat.reduceAdd, zf, zl] at F6
         go_wp2_with (at_builtin; go_must (refine wpList_appH K6 2 rfl Tryz.elExG #[.int .i64 y.kind, .int .i64 y.op, .bool y.nt, .int .i64 y.v.k, .int .i64 y.v.i, .string y.v.s, .string y.tab, .string y.nm, .slice y.A y.n y.c, .slice y.B y.m y.d] rfl (.tmp 83) (.tmp 90) rfl rfl _ (by first | rfl | simp) rfl rfl (by intro u hu; simp at hu; rcases hu with rfl | rfl | rfl | rfl | rfl | rfl | rfl | rfl | rfl | rfl <;> rfl) (by omega) (by omega) ?_); intro gA capA wA hcA hmA KA; rw [show exCells outs ++ (#[.int .i64 y.kind, .int .i64 y.op, .bool y.nt, .int .i64 y.v.k, .int .i64 y.v.i, .string y.v.s, .string y.tab, .string y.nm, .slice y.A y.n y.c, .slice y.B y.m y.d] : Array Value).toList = exCells (outs ++ [y]) by simp [exCells, Ex.cells]] at KA; simp only [zl] at KA; have FA := KA.facts; simp only [factsL, cellsF, Nat.reduceAdd, zf, zl] at FA)
         clear F6
         have KN := (KA.add (S := fun w => ∀ x ∈ outs ++ [y], ExIn (n + 3) x w) (((KA.ro 3 rfl).and (KA.ro 0 rfl)).imp fun w2 h2 x hx => by
          rcases List.mem_append.1 hx with hx | hx
          ·exact h2.1 x hx
          ·simp only [List.mem_cons, List.not_mem_nil, or_false] at hx
           subst hx
           exact h2.2.le (by omega)))
         go_roundw
         case rel => exact ⟨j + 1, capA, _, outs ++ [y], by omega, by first | rfl | trivial, by go_num, gd_snoc hgd (HYO.out.le (by omega)), KN.pick [3, 0, 5, 6, 7, 8, 9, 10, 11, 12, 13, 14, 15, 16] (by decide) rfl⟩
         case measure => simp [intOf]; omega
        ·go_wp2_with fail
         refine (typed_any T yty _ (K4.tp_ 14 rfl) (K4.ro 13 rfl).now hT).mono ?_
         rintro e w8 ⟨vk, vi, vs, rfl, hv, hvs, hvi, t8, -, g8⟩
         have K5 := Hold.callT K4 14 rfl g8 t8
         have HVK := hid (kind_i64 hv)
         clear K4 F4 g8 t8
         go_wp2_with fail
         refine (lit_any _ ⟨vk, vi, vs⟩).mono ?_
         rintro e w9 ⟨rfl, b9⟩
         have K6 := (K5.call b9).add (S := ExIn 1 (litE ⟨vk, vi, vs⟩)) (fun w2 _ _ => lit_in _ _)
         have HYO := hid (lit_ok ⟨vk, vi, vs⟩ HVK.out hvi)
         clear K5 b9
         generalize litE ⟨vk, vi, vs⟩ = y at *
         rw [show y.val = .agg #[.int .i64 y.kind, .int .i64 y.op, .bool y.nt, .int .i64 y.v.k, .int .i64 y.v.i, .string y.v.s, .string y.tab, .string y.nm, .slice y.A y.n y.c, .slice y.B y.m y.d] from rfl]
         have F6 := K6.facts
         simp only [factsL, cellsF, Nat.reduceAdd, zf, zl] at F6
         go_upto_region 18 with (at_builtin; go_must (refine wpList_appH K6 2 rfl Tryz.elExG #[.int .i64 y.kind, .int .i64 y.op, .bool y.nt, .int .i64 y.v.k, .int .i64 y.v.i, .string y.v.s, .string y.tab, .string y.nm, .slice y.A y.n y.c, .slice y.B y.m y.d] rfl (.tmp 64) (.tmp 70) rfl rfl _ (by first | rfl | simp) rfl rfl (by intro u hu; simp at hu; rcases hu with rfl | rfl | rfl | rfl | rfl | rfl | rfl | rfl | rfl | rfl <;> rfl) (by omega) (by omega) ?_); intro gA capA wA hcA hmA KA; rw [show exCells outs ++ (#[.int .i64 y.kind, .int .i64 y.op, .bool y.nt, .int .i64 y.v.k, .int .i64 y.v.i, .string y.v.s, .string y.tab, .string y.nm, .slice y.A y.n y.c, .slice y.B y.m y.d] : Array Value).toList = exCells (outs ++ [y]) by simp [exCells, Ex.cells]] at KA; simp only [zl] at KA; have FA := KA.facts; simp only [factsL, cellsF, Nat.reduceAdd, zf, zl] at FA)
         clear F6
         have KN := (KA.add (S := fun w => ∀ x ∈ outs ++ [y], ExIn (n + 3) x w) (((KA.ro 3 rfl).and (KA.ro 0 rfl)).imp fun w2 h2 x hx => by
          rcases List.mem_append.1 hx with hx | hx
          ·exact h2.1 x hx
          ·simp only [List.mem_cons, List.not_mem_nil, or_false] at hx
           subst hx
           exact h2.2.le (by omega)))
         by_cases hty : yty = 1
         ·subst hty
          go_wp2_with fail
          refine (small_any T _ (KA.tp_ 15 rfl)).mono ?_
          rintro e wS ⟨zz, rfl, zz0, zz1, tS, gS⟩
          have KB := Hold.callT KA 15 rfl gS tS
          clear KA FA gS tS KN
          go_wp2_with fail
          refine (wnum_any _ _ KB.mutLt zz (by omega)).mono ?_
          rintro e wN ⟨z, rfl, hz, rz, bN⟩
          have HZO := hid (num_ok hz (by omega) (by omega))
          have KC := (KB.call bN).add rz
          clear KB bN rz hz
          rw [show z.val = .agg #[.int .i64 z.kind, .int .i64 z.op, .bool z.nt, .int .i64 z.v.k, .int .i64 z.v.i, .string z.v.s, .string z.tab, .string z.nm, .slice z.A z.n z.c, .slice z.B z.m z.d] from rfl]
          have hol : outs.length = j := by
           have h := (KC.get 3 rfl).1
           rw [exCells_len] at h
           simp at h
           omega
          have HXK := hid (show (outs ++ [y])[j]? = some y by rw [List.getElem?_append_right (by omega), hol]; simp)
          have hwj : IntKind.i64.wrap (((j + 1 : Nat) : Int) - 1) = j := by rw [show ((j + 1 : Nat) : Int) - 1 = j by omega]; exact IntWalk.i64_in _ (by omega)
          have hwj2 : IntKind.i64.wrap ((j : Int) + 1 - 1) = j := by rw [show (j : Int) + 1 - 1 = j by omega]; exact IntWalk.i64_in _ (by omega)
          have ho := KC.get 3 rfl
          have q0 : _ = some (Value.int .i64 y.kind) := (ho.cellAt (j * 10) (by omega)).trans (flat_get Ex.cells 10 (fun _ => rfl) (outs ++ [y]) j 0 y (by omega) HXK.out)
          have q1 : _ = some (Value.int .i64 y.op) := (ho.cellAt (j * 10 + 1) (by omega)).trans (flat_get Ex.cells 10 (fun _ => rfl) (outs ++ [y]) j 1 y (by omega) HXK.out)
          have q2 : _ = some (Value.bool y.nt) := (ho.cellAt (j * 10 + 2) (by omega)).trans (flat_get Ex.cells 10 (fun _ => rfl) (outs ++ [y]) j 2 y (by omega) HXK.out)
          have q3 : _ = some (Value.int .i64 y.v.k) := (ho.cellAt (j * 10 + 3) (by omega)).trans (flat_get Ex.cells 10 (fun _ => rfl) (outs ++ [y]) j 3 y (by omega) HXK.out)
          have q4 : _ = some (Value.int .i64 y.v.i) := (ho.cellAt (j * 10 + 4) (by omega)).trans (flat_get Ex.cells 10 (fun _ => rfl) (outs ++ [y]) j 4 y (by omega) HXK.out)
          have q5 : _ = some (Value.string y.v.s) := (ho.cellAt (j * 10 + 5) (by omega)).trans (flat_get Ex.cells 10 (fun _ => rfl) (outs ++ [y]) j 5 y (by omega) HXK.out)
          have q6 : _ = some (Value.string y.tab) := (ho.cellAt (j * 10 + 6) (by omega)).trans (flat_get Ex.cells 10 (fun _ => rfl) (outs ++ [y]) j 6 y (by omega) HXK.out)
          have q7 : _ = some (Value.string y.nm) := (ho.cellAt (j * 10 + 7) (by omega)).trans (flat_get Ex.cells 10 (fun _ => rfl) (outs ++ [y]) j 7 y (by omega) HXK.out)
          have q8 : _ = some (Value.slice y.A y.n y.c) := (ho.cellAt (j * 10 + 8) (by omega)).trans (flat_get Ex.cells 10 (fun _ => rfl) (outs ++ [y]) j 8 y (by omega) HXK.out)
          have q9 : _ = some (Value.slice y.B y.m y.d) := (ho.cellAt (j * 10 + 9) (by omega)).trans (flat_get Ex.cells 10 (fun _ => rfl) (outs ++ [y]) j 9 y (by omega) HXK.out)
          have z0 := ho.frozenAt (j * 10)
          have z1 := ho.frozenAt (j * 10 + 1)
          have z2 := ho.frozenAt (j * 10 + 2)
          have z3 := ho.frozenAt (j * 10 + 3)
          have z4 := ho.frozenAt (j * 10 + 4)
          have z5 := ho.frozenAt (j * 10 + 5)
          have z6 := ho.frozenAt (j * 10 + 6)
          have z7 := ho.frozenAt (j * 10 + 7)
          have z8 := ho.frozenAt (j * 10 + 8)
          have z9 := ho.frozenAt (j * 10 + 9)
          have gl := (ho.lt gA rfl).2
          clear ho
          have KP0 := KC.put_ 3 rfl (j * 10) (.int .i64 z.kind)
          simp only [zl] at KP0
          have KP1 := KP0.put_ 3 rfl (j * 10 + 1) (.int .i64 z.op)
          simp only [zl] at KP1
          have KP2 := KP1.put_ 3 rfl (j * 10 + 2) (.bool z.nt)
          simp only [zl] at KP2
          have KP3 := KP2.put_ 3 rfl (j * 10 + 3) (.int .i64 z.v.k)
          simp only [zl] at KP3
          have KP4 := KP3.put_ 3 rfl (j * 10 + 4) (.int .i64 z.v.i)
          simp only [zl] at KP4
          have KP5 := KP4.put_ 3 rfl (j * 10 + 5) (.string z.v.s)
          simp only [zl] at KP5
          have KP6 := KP5.put_ 3 rfl (j * 10 + 6) (.string z.tab)
          simp only [zl] at KP6
          have KP7 := KP6.put_ 3 rfl (j * 10 + 7) (.string z.nm)
          simp only [zl] at KP7
          have KP8 := KP7.put_ 3 rfl (j * 10 + 8) (.slice z.A z.n z.c)
          simp only [zl] at KP8
          have KP9 := KP8.put_ 3 rfl (j * 10 + 9) (.slice z.B z.m z.d)
          simp only [zl] at KP9
          have e1 : _ = some (Value.int .i64 y.op) := ((KP0.get 3 rfl).cellAt (j * 10 + 1) (by omega)).trans ((List.getElem?_set_ne (by omega)).trans (flat_get Ex.cells 10 (fun _ => rfl) (outs ++ [y]) j 1 y (by omega) HXK.out))
          have y1_ := (KP0.get 3 rfl).frozenAt (j * 10 + 1)
          have e2 : _ = some (Value.bool y.nt) := ((KP1.get 3 rfl).cellAt (j * 10 + 2) (by omega)).trans ((List.getElem?_set_ne (by omega)).trans ((List.getElem?_set_ne (by omega)).trans (flat_get Ex.cells 10 (fun _ => rfl) (outs ++ [y]) j 2 y (by omega) HXK.out)))
          have y2_ := (KP1.get 3 rfl).frozenAt (j * 10 + 2)
          have e3 : _ = some (Value.int .i64 y.v.k) := ((KP2.get 3 rfl).cellAt (j * 10 + 3) (by omega)).trans ((List.getElem?_set_ne (by omega)).trans ((List.getElem?_set_ne (by omega)).trans ((List.getElem?_set_ne (by omega)).trans (flat_get Ex.cells 10 (fun _ => rfl) (outs ++ [y]) j 3 y (by omega) HXK.out))))
          have y3_ := (KP2.get 3 rfl).frozenAt (j * 10 + 3)
          have e4 : _ = some (Value.int .i64 y.v.i) := ((KP3.get 3 rfl).cellAt (j * 10 + 4) (by omega)).trans ((List.getElem?_set_ne (by omega)).trans ((List.getElem?_set_ne (by omega)).trans ((List.getElem?_set_ne (by omega)).trans ((List.getElem?_set_ne (by omega)).trans (flat_get Ex.cells 10 (fun _ => rfl) (outs ++ [y]) j 4 y (by omega) HXK.out)))))
          have y4_ := (KP3.get 3 rfl).frozenAt (j * 10 + 4)
          have e5 : _ = some (Value.string y.v.s) := ((KP4.get 3 rfl).cellAt (j * 10 + 5) (by omega)).trans ((List.getElem?_set_ne (by omega)).trans ((List.getElem?_set_ne (by omega)).trans ((List.getElem?_set_ne (by omega)).trans ((List.getElem?_set_ne (by omega)).trans ((List.getElem?_set_ne (by omega)).trans (flat_get Ex.cells 10 (fun _ => rfl) (outs ++ [y]) j 5 y (by omega) HXK.out))))))
          have y5_ := (KP4.get 3 rfl).frozenAt (j * 10 + 5)
          have e6 : _ = some (Value.string y.tab) := ((KP5.get 3 rfl).cellAt (j * 10 + 6) (by omega)).trans ((List.getElem?_set_ne (by omega)).trans ((List.getElem?_set_ne (by omega)).trans ((List.getElem?_set_ne (by omega)).trans ((List.getElem?_set_ne (by omega)).trans ((List.getElem?_set_ne (by omega)).trans ((List.getElem?_set_ne (by omega)).trans (flat_get Ex.cells 10 (fun _ => rfl) (outs ++ [y]) j 6 y (by omega) HXK.out)))))))
          have y6_ := (KP5.get 3 rfl).frozenAt (j * 10 + 6)
          have e7 : _ = some (Value.string y.nm) := ((KP6.get 3 rfl).cellAt (j * 10 + 7) (by omega)).trans ((List.getElem?_set_ne (by omega)).trans ((List.getElem?_set_ne (by omega)).trans ((List.getElem?_set_ne (by omega)).trans ((List.getElem?_set_ne (by omega)).trans ((List.getElem?_set_ne (by omega)).trans ((List.getElem?_set_ne (by omega)).trans ((List.getElem?_set_ne (by omega)).trans (flat_get Ex.cells 10 (fun _ => rfl) (outs ++ [y]) j 7 y (by omega) HXK.out))))))))
          have y7_ := (KP6.get 3 rfl).frozenAt (j * 10 + 7)
          have e8 : _ = some (Value.slice y.A y.n y.c) := ((KP7.get 3 rfl).cellAt (j * 10 + 8) (by omega)).trans ((List.getElem?_set_ne (by omega)).trans ((List.getElem?_set_ne (by omega)).trans ((List.getElem?_set_ne (by omega)).trans ((List.getElem?_set_ne (by omega)).trans ((List.getElem?_set_ne (by omega)).trans ((List.getElem?_set_ne (by omega)).trans ((List.getElem?_set_ne (by omega)).trans ((List.getElem?_set_ne (by omega)).trans (flat_get Ex.cells 10 (fun _ => rfl) (outs ++ [y]) j 8 y (by omega) HXK.out)))))))))
          have y8_ := (KP7.get 3 rfl).frozenAt (j * 10 + 8)
          have e9 : _ = some (Value.slice y.B y.m y.d) := ((KP8.get 3 rfl).cellAt (j * 10 + 9) (by omega)).trans ((List.getElem?_set_ne (by omega)).trans ((List.getElem?_set_ne (by omega)).trans ((List.getElem?_set_ne (by omega)).trans ((List.getElem?_set_ne (by omega)).trans ((List.getElem?_set_ne (by omega)).trans ((List.getElem?_set_ne (by omega)).trans ((List.getElem?_set_ne (by omega)).trans ((List.getElem?_set_ne (by omega)).trans ((List.getElem?_set_ne (by omega)).trans (flat_get Ex.cells 10 (fun _ => rfl) (outs ++ [y]) j 9 y (by omega) HXK.out))))))))))
          have y9_ := (KP8.get 3 rfl).frozenAt (j * 10 + 9)
          clear KP0 KP1 KP2 KP3 KP4 KP5 KP6 KP7 KP8
          rw [exCells_set z (show j < (outs ++ [y]).length by simp; omega), show (outs ++ [y]).set j z = outs ++ [z] by rw [List.set_append_right _ _ (by omega), hol]; simp] at KP9
          have KZ2 := KP9.add (S := fun w => ∀ x ∈ outs ++ [z], ExIn (n + 3) x w) (((KP9.ro 4 rfl).and (KP9.ro 0 rfl)).imp fun w2 h2 x hx => by
           rcases List.mem_append.1 hx with hx | hx
           ·exact h2.1 x hx
           ·simp only [List.mem_cons, List.not_mem_nil, or_false] at hx
            subst hx
            exact h2.2.le (by omega))
          clear KP9
          go_wp2_with fail
          go_roundw
          case rel => exact ⟨j + 1, capA, _, outs ++ [z], by omega, by first | rfl | trivial, by go_num, gd_snoc hgd (HZO.out.le (by omega)), KZ2.pick [4, 0, 6, 7, 8, 9, 10, 11, 12, 13, 14, 15, 16, 17] (by decide) rfl⟩
          case measure => simp [intOf]; omega
         ·have htb : (yty == 1) = false := by simpa using hty
          go_wp2_with fail
          go_roundw
          case rel => exact ⟨j + 1, capA, _, outs ++ [y], by omega, by first | rfl | trivial, by go_num, gd_snoc hgd (HYO.out.le (by omega)), KN.pick [3, 0, 5, 6, 7, 8, 9, 10, 11, 12, 13, 14, 15, 16] (by decide) rfl⟩
          case measure => simp [intOf]; omega
      ·obtain rfl : cn = j := by omega
       have hcap := own_caps (H.get 0 rfl)
       have hlen := (H.get 0 rfl).1
       rw [exCells_len] at hlen
       have KS := H.sealRow 0 rfl
       simp only [List.set_cons_zero] at KS
       have F := KS.facts
       simp only [factsL, cellsF, Nat.reduceAdd, zf, zl] at F
       clear H
       go_wp2_with (at_builtin; go_must (refine wpList_appH KS 2 rfl Tryz.elRowG #[.slice O2 cn cap2] rfl (.tmp 94) (.tmp 96) rfl rfl _ (by first | rfl | simp) rfl rfl (by intro u hu; simp at hu; rcases hu with rfl; rfl) (by omega) (by omega) ?_); intro gA capA wA hcA hmA KA; rw [show rwE rs ++ (#[.slice O2 cn cap2] : Array Value).toList = rwE (rs ++ [⟨O2, cn, cap2, outs⟩]) by simp [rwE, SlP.v]] at KA; simp only [zl] at KA; have FA := KA.facts; simp only [factsL, cellsF, Nat.reduceAdd, zf, zl] at FA)
       have KB := KA.store 4 rfl 2 (.slice (some ⟨gA, 0, none⟩) (k + 1) capA)
       simp only [zl] at KB
       have KC := KB.add (S := fun w => ∀ r ∈ rs ++ [(⟨O2, cn, cap2, outs⟩ : SlP Ex)], ExlIn (n + 3) r w) (((KB.ro 3 rfl).and ((KB.ro 0 rfl).and (KB.ro 1 rfl))).imp fun w2 h2 r hr => by
        rcases List.mem_append.1 hr with hr | hr
        ·exact h2.1 r hr
        ·simp only [List.mem_cons, List.not_mem_nil, or_false] at hr
         subst hr
         exact ⟨h2.2.1, h2.2.2⟩)
       go_roundw
       case rel =>
        refine ⟨i - 1, k + 1, capA, _, rs ++ [⟨O2, cn, cap2, outs⟩], by first | rfl | (rw [hwi]; go_num), by omega, fun r hr => ?_, KC.pick [3, 0, 5, 6, 7, 8, 9, 10, 11, 12, 13, 14] (by decide) rfl⟩
        rcases List.mem_append.1 hr with hr | hr
        ·exact hrs r hr
        ·simp only [List.mem_cons, List.not_mem_nil, or_false] at hr
         subst hr
         exact ⟨⟨hcap.1, hcap.2.1⟩, by show outs.length ≤ 8; omega, hgd⟩
       case measure => simp [intOf]; omega
    ·obtain rfl : i = 0 := by omega
     have F5 := H.facts
     simp only [factsL, cellsF, Nat.reduceAdd, zf, zl] at F5
     have K7 := (((((((H.store 7 rfl 0 (.int .i64 1)).store 7 rfl 1 (.string snm)).store 7 rfl 2 (.slice O k cap)).store 7 rfl 3 (.slice none 0 0)).store 7 rfl 4 (.slice none 0 0)).store 7 rfl 5 (.slice none 0 0)).store 7 rfl 6 (.string ⟨#[]⟩))
     simp only [zl] at K7
     have F7 := K7.facts
     simp only [factsL, cellsF, Nat.reduceAdd, zf, zl] at F7
     have hcap := own_caps (H.get 0 rfl)
     have hlen := (H.get 0 rfl).1
     rw [show (rwE rs).length = rs.length * 1 from flat_len (fun r : SlP Ex => [r.v]) 1 (fun _ => rfl) rs] at hlen
     have KZ := K7.sealRow 0 rfl
     simp only [zl] at KZ
     have hR : Ro _ _ (AcIn (n + 3) ⟨1, snm, ⟨O, k, cap, rs⟩, SlP.nil, SlP.nil, SlP.nil, ⟨#[]⟩⟩) := ((KZ.ro 0 rfl).and (KZ.ro 1 rfl)).imp fun w2 h2 => ⟨⟨h2.1, h2.2⟩, SlP.nil_in _ _ _ w2, SlP.nil_in _ _ _ w2, SlP.nil_in _ _ _ w2⟩
     have HR := hid (hR.less zm)
     have HT := hid (And.intro (KZ.tp_ 11 rfl) KZ.grow)
     have HGD := hid (show AcGd (n + 3) ⟨1, snm, ⟨O, k, cap, rs⟩, SlP.nil, SlP.nil, SlP.nil, ⟨#[]⟩⟩ from ⟨⟨by simp, by simp⟩, ⟨⟨hcap.1, hcap.2.1⟩, by show rs.length ≤ 8; omega, hrs⟩, LsOk.nil _ _, LsOk.nil _ _, LsOk.nil _ _⟩)
     clear H K7 KZ hR
     go_wp2_with fail
     refine bodyPost_ret (v := .agg #[.int .i64 1, .string snm, .slice O k cap, .slice none 0 0, .slice none 0 0, .slice none 0 0, .string ⟨#[]⟩]) ?_ rfl ?_
     ·clear HT HR HGD
      simp [results, Tryz.results162, go_sem, F7]
     ·exact ⟨⟨1, snm, ⟨O, k, cap, rs⟩, SlP.nil, SlP.nil, SlP.nil, ⟨#[]⟩⟩, rfl, HGD.out, HR.out, HT.out.1, HT.out.2⟩
  ·go_wp2_with fail
   refine (copies_anyG HE (Mut M _) T _ K1.mutLt (K1.tp_ 9 rfl) (K1.get 9 rfl).2 ⟨⟨fA, fn, fc, fl⟩, ⟨sA, sn, sc, sl⟩⟩ ⟨snm, ⟨some ⟨bC, oC, none⟩, cn, cc, cl⟩⟩ depth ((K1.ro 7 rfl).less (mut_tpG (i := 9) rfl)) (((K1.ro 4 rfl).imp fun w2 h2 => ⟨h2, fun _ _ => trivial⟩).less (mut_tpG (i := 9) rfl)) hcl ((K1.ro 8 rfl).less (mut_tpG (i := 9) rfl)) hT HB0.out hd hd2 HS.out).mono ?_
   rintro e wq ⟨q, rfl, hq, rq, t8, g8⟩
   have K2 := ((Hold.callT K1 9 rfl g8 t8).add rq).alloc_cst #[.bool q.star, .slice q.A q.n q.c, .string q.src, .slice q.B q.m q.d] 274
   clear K1 F1 g8 t8 rq
   have F2 := K2.facts
   simp only [factsL, cellsF, Nat.reduceAdd, zf, zl] at F2
   have K3 := K2.store 2 rfl 3 (.slice (some ⟨wq.heap.size, 0, none⟩) 1 1)
   simp only [zl] at K3
   clear K2
   have F5 := K3.facts
   simp only [factsL, cellsF, Nat.reduceAdd, zf, zl] at F5
   have K7 := (((((((K3.store 7 rfl 0 (.int .i64 1)).store 7 rfl 1 (.string snm)).store 7 rfl 2 (.slice none 0 0)).store 7 rfl 3 (.slice (some ⟨wq.heap.size, 0, none⟩) 1 1)).store 7 rfl 4 (.slice none 0 0)).store 7 rfl 5 (.slice none 0 0)).store 7 rfl 6 (.string ⟨#[]⟩))
   simp only [zl] at K7
   have F7 := K7.facts
   simp only [factsL, cellsF, Nat.reduceAdd, zf, zl] at F7
   have KZ := K7
   have hR : Ro _ _ (AcIn (n + 3) ⟨1, snm, SlP.nil, ⟨some ⟨wq.heap.size, 0, none⟩, 1, 1, [q]⟩, SlP.nil, SlP.nil, ⟨#[]⟩⟩) := ((ro_block (KZ.get 0 rfl) rfl : Ro _ _ (SlR 4 (some ⟨wq.heap.size, 0, none⟩) 1 [.bool q.star, .slice q.A q.n q.c, .string q.src, .slice q.B q.m q.d])).and (KZ.ro 1 rfl)).imp fun w2 h2 => ⟨SlP.nil_in _ _ _ w2, ⟨h2.1, fun z hz => by
    simp only [List.mem_cons, List.not_mem_nil, or_false] at hz
    subst hz
    exact h2.2⟩, SlP.nil_in _ _ _ w2, SlP.nil_in _ _ _ w2⟩
   have HR := hid (hR.less zm)
   have HT := hid (And.intro (KZ.tp_ 11 rfl) KZ.grow)
   have HGD := hid (show AcGd (n + 3) ⟨1, snm, SlP.nil, ⟨some ⟨wq.heap.size, 0, none⟩, 1, 1, [q]⟩, SlP.nil, SlP.nil, ⟨#[]⟩⟩ from ⟨⟨by simp, by simp⟩, LsOk.nil _ _, ⟨⟨Nat.le_refl _, by simp⟩, by simp, fun z hz => by
    simp only [List.mem_cons, List.not_mem_nil, or_false] at hz
    subst hz
    exact hq⟩, LsOk.nil _ _, LsOk.nil _ _⟩)
   clear K3 K7 KZ hR
   go_wp2_with fail
   refine bodyPost_ret (v := .agg #[.int .i64 1, .string snm, .slice none 0 0, .slice (some ⟨wq.heap.size, 0, none⟩) 1 1, .slice none 0 0, .slice none 0 0, .string ⟨#[]⟩]) ?_ rfl ?_
   ·clear HT HR HGD
    simp [results, Tryz.results162, go_sem, F7]
   ·exact ⟨⟨1, snm, SlP.nil, ⟨some ⟨wq.heap.size, 0, none⟩, 1, 1, [q]⟩, SlP.nil, SlP.nil, ⟨#[]⟩⟩, rfl, HGD.out, HR.out, HT.out.1, HT.out.2⟩
 ·go_wp2_with fail
  refine (next_any T cn _ (KA.tp_ 9 rfl) (by omega) (by omega)).mono ?_
  rintro e w3 ⟨f, rfl, f0, f1, t3, g3⟩
  have KB := ((Hold.callT KA 9 rfl g3 t3).nil 136 11).add (S := fun w => ∀ s ∈ ([] : List Se), ExIn (n + 3) s.e w) (fun w2 _ _ s hs => (nomatch hs))
  have KC : Hold M (some T) w _ [.own 136 11 (.slice none 0 0) 0 (seCells ([] : List Se)), .ro (fun w => ∀ s ∈ ([] : List Se), ExIn (n + 3) s.e w), .blk ga 99 #[.int .i64 2, .string snm, .slice none 0 0, .slice none 0 0, .slice none 0 0, .slice none 0 0, .string ⟨#[]⟩], .blk gi 181 #[.slice A9 (fn + 1) c9, .slice sA sn sc], .ro (PlIn ⟨⟨A9, fn + 1, c9, fl2⟩, ⟨sA, sn, sc, sl⟩⟩), .blk gs 49 #[.string snm, .slice (some ⟨bC, oC, none⟩) cn cc], .ro (SlR 4 (some ⟨bC, oC, none⟩) cn (colCells cl)), .blk gr 99 #[.int .i64 0, .string ⟨#[]⟩, .slice none 0 0, .slice none 0 0, .slice none 0 0, .slice none 0 0, .string ⟨#[]⟩], .cst gp 181 #[.slice fA fn fc, .slice sA sn sc], .ro (PlIn ⟨⟨fA, fn, fc, fl⟩, ⟨sA, sn, sc, sl⟩⟩), .ro Wds, .tp T] := KB.pick [1, 0, 2, 3, 4, 5, 6, 7, 8, 9, 10, 11] (by decide) rfl
  clear KA KB F t3 g3
  go_wp2_with fail
  go_loopw [15] (fun iv wr => ∃ (i cap : Nat) (O : Option Addr) (outs : List Se), i ≤ 2 ∧ iv = .int .i64 i ∧ (∀ s ∈ outs, ExGd (n + 3) s.e) ∧ Hold M (some T) w wr [.own 136 11 (.slice O i cap) i (seCells outs), .ro (fun w => ∀ s ∈ outs, ExIn (n + 3) s.e w), .blk ga 99 #[.int .i64 2, .string snm, .slice none 0 0, .slice none 0 0, .slice O i cap, .slice none 0 0, .string ⟨#[]⟩], .blk gi 181 #[.slice A9 (fn + 1) c9, .slice sA sn sc], .ro (PlIn ⟨⟨A9, fn + 1, c9, fl2⟩, ⟨sA, sn, sc, sl⟩⟩), .blk gs 49 #[.string snm, .slice (some ⟨bC, oC, none⟩) cn cc], .ro (SlR 4 (some ⟨bC, oC, none⟩) cn (colCells cl)), .blk gr 99 #[.int .i64 0, .string ⟨#[]⟩, .slice none 0 0, .slice none 0 0, .slice none 0 0, .slice none 0 0, .string ⟨#[]⟩], .cst gp 181 #[.slice fA fn fc, .slice sA sn sc], .ro (PlIn ⟨⟨fA, fn, fc, fl⟩, ⟨sA, sn, sc, sl⟩⟩), .ro Wds, .tp T]) (fun iv _ => 2 - (intOf iv).toNat)
  case atStart => exact ⟨0, 0, none, [], by omega, rfl, fun s hs => (nomatch hs), KC⟩
  case round =>
   clear KC
   obtain ⟨i, cap, O, outs, hi, rfl, hgd, H⟩ := hrel
   have F := H.facts
   simp only [factsL, cellsF, Nat.reduceAdd, zf, zl] at F
   go_wp2_with fail
   refine (next_any T 2 _ (H.tp_ 11 rfl) (by omega) (by omega)).mono ?_
   rintro e w4 ⟨r2, rfl, q0, q1, t4, g4⟩
   have K1 := Hold.callT H 11 rfl g4 t4
   have hw2 : IntKind.i64.wrap (1 + r2) = 1 + r2 := IntWalk.i64_in _ (by omega)
   clear H g4 t4 F
   have F := K1.facts
   simp only [factsL, cellsF, Nat.reduceAdd, zf, zl] at F
   by_cases hA : (i : Int) < 1 + r2
   ·by_cases hB : (i : Int) < cn
    ·have hi2 : i < 2 := by omega
     have hicn : i < cn := by omega
     clear q0 q1
     go_upto_region 29 with fail
     obtain ⟨KM, hKM, K6⟩ := K1.name
     obtain ⟨Ha, hHa⟩ : ∃ m, m = w4.heap.size := ⟨_, rfl⟩
     have H1 : ∀ wv : World, Hold M (some T) w wv KM → Blk wv gs 49 #[.string snm, .slice (some ⟨bC, oC, none⟩) cn cc] := fun wv h => by rw [hKM] at h; exact h.blk_ 5 rfl
     have H2 : ∀ wv : World, Hold M (some T) w wv KM → SlR 4 (some ⟨bC, oC, none⟩) cn (colCells cl) wv := fun wv h => by rw [hKM] at h; exact (h.ro 6 rfl).now
     have HH1 := hid H1
     have HH2 := hid H2
     have HKM := hid hKM
     have HHa := hid hHa
     clear hKM H1 H2 K1 hHa
     obtain ⟨f', rfl⟩ := Int.eq_ofNat_of_zero_le f0
     have hwq : IntKind.i64.wrap ((f' : Int) + (i : Int)) = (f' : Int) + (i : Int) := IntWalk.i64_in _ (by omega)
     have hql : (f' + i) % cn < cn := Nat.mod_lt _ (by omega)
     obtain ⟨q, hq⟩ : ∃ q, q = (f' + i) % cn := ⟨_, rfl⟩
     obtain ⟨⟨ynm, yty, ynn, ykey⟩, hy⟩ := get_col HLN.out (show q < cn by omega)
     have HY := hid hy
     clear hy
     have hcn0 : ¬ cn = 0 := by omega
     have hwt : ((f' : Int) + (i : Int)).tmod (cn : Int) = (q : Int) := by rw [hq, ← Int.natCast_add]; exact (Int.ofNat_tmod _ _).symm
     have hqcn : q < cn := by omega
     clear hql hq
     go_wp2_with fail
     clear F hA hB
     refine wp_region_any (by kernel_rfl) ?_
     refine wpAny_hold 12 175 (KM) (spL [(16, NewSlot (Mut M KM) Ha 162 #[.string ⟨#[]⟩, .int .i64 0, .bool false, .bool false])]) (by kernel_rfl) (by kernel_rfl) (by kernel_rfl) rfl ?_ (K6.drew) ?_
     ·exact stays_cons newSlot_mono (stays_nil _)
     simp only [zd, Act.put, List.getElem_toArray, List.getElem_cons_zero, List.getElem_cons_succ, zl]
     refine dw_val rfl rfl rfl ?_; apply Exists.intro; refine ⟨fun wv HC => ?_, ?_⟩
     · go_simp <;> rfl
     simp only [Act.put, zl]
     refine dw_val rfl rfl rfl ?_; apply Exists.intro; refine ⟨fun wv HC => ?_, ?_⟩
     ·obtain q1 := (HH1.out _ HC).cell 1; go_simp <;> rfl
     simp only [Act.put, zl]
     refine dw_val rfl rfl rfl ?_; apply Exists.intro; refine ⟨fun wv HC => ?_, ?_⟩
     · go_simp <;> rfl
     simp only [Act.put, zl]
     refine dw_val rfl rfl rfl ?_; apply Exists.intro; refine ⟨fun wv HC => ?_, ?_⟩
     · go_simp <;> rfl
     simp only [Act.put, zl]
     refine dw_val rfl rfl rfl ?_; apply Exists.intro; refine ⟨fun wv HC => ?_, ?_⟩
     · go_simp <;> rfl
     simp only [Act.put, zl]
     refine dw_val rfl rfl rfl ?_; apply Exists.intro; refine ⟨fun wv HC => ?_, ?_⟩
     · go_simp <;> rfl
     simp only [Act.put, zl]
     refine dw_val rfl rfl rfl ?_; apply Exists.intro; refine ⟨fun wv HC => ?_, ?_⟩
     ·obtain q1 := (HH1.out _ HC).cell 1; go_simp <;> rfl
     simp only [Act.put, zl]
     refine dw_val rfl rfl rfl ?_; apply Exists.intro; refine ⟨fun wv HC => ?_, ?_⟩
     · go_simp <;> rfl
     simp only [Act.put, zl]
     refine dw_val rfl rfl rfl ?_; apply Exists.intro; refine ⟨fun wv HC => ?_, ?_⟩
     · go_simp <;> rfl
     simp only [Act.put, zl]
     refine dw_val rfl rfl rfl ?_; apply Exists.intro; refine ⟨fun wv HC => ?_, ?_⟩
     · go_simp <;> rfl
     simp only [Act.put, zl]
     refine dw_val rfl rfl rfl ?_; apply Exists.intro; refine ⟨fun wv HC => ?_, ?_⟩
     ·obtain ⟨b2', o2', hcA, hb2, x0, x1, x2, x3⟩ := (RdC.of_sl (HH2.out _ HC)).at_ HY.out; obtain ⟨rfl, rfl⟩ := addr_eq hcA; clear hcA; go_simp <;> rfl
     simp only [Act.put, zl]
     refine dw_new #[.string ⟨#[]⟩, .int .i64 0, .bool false, .bool false] 162 16 (NewSlot (Mut M KM) Ha 162 #[.string ⟨#[]⟩, .int .i64 0, .bool false, .bool false]) (fun g => .pointer (some ⟨g, 0, none⟩)) rfl rfl rfl rfl (fun wv => ?_) (fun wv HC hrm hD hro => ?_) ?_
     ·go_simp <;> rfl
     ·exact ⟨_, rfl, by have := hrm.1; rw [HHa.out]; exact this, hro _ HC.mutLt⟩
     rintro gk wg HCg hsl
     clear HCg hsl
     simp only [Act.put, zl]
     refine rel_nil ?_
     rintro wx2 HX
     rintro _hrm HGW
     have hu : NewSlot (Mut M KM) Ha 162 #[.string ⟨#[]⟩, .int .i64 0, .bool false, .bool false] (.pointer (some ⟨gk, 0, none⟩)) wx2 := (GW_on (d := 16) rfl).1 (HGW 11 _ rfl (by omega))
     clear HGW
     obtain ⟨gk', e', hg1, hg2⟩ := hu
     obtain rfl : gk = gk' := by injection e' with e'; injection e' with e'; injection e'
     clear e'
     rw [HHa.out] at hg1
     have HB := Hold.addFreshBlk K6.drew HX _hrm hg1 hg2.now
     rw [HKM.out] at HB
     clear HX _hrm hg2 hg1 K6 HH1 HH2 HKM HHa
     have FB := HB.facts
     simp only [factsL, cellsF, Nat.reduceAdd, zf, zl] at FB
     have K1 := (((HB.store 0 rfl 0 (.string ynm)).store 0 rfl 1 (.int .i64 yty)).store 0 rfl 2 (.bool ynn)).store 0 rfl 3 (.bool ykey)
     simp only [zl] at K1
     have F1 := K1.facts
     simp only [factsL, cellsF, Nat.reduceAdd, zf, zl] at F1
     clear HB
     go_upto_region 30 with fail
     clear FB
     generalize World.setCell _ _ _ = wb at K1 F1 ⊢
     obtain ⟨KM, hKM, K6⟩ := K1.name
     obtain ⟨Ha, hHa⟩ : ∃ m, m = wb.heap.size := ⟨_, rfl⟩
     have H1 : ∀ wv : World, Hold M (some T) w wv KM → Blk wv gk 162 #[.string ynm, .int .i64 yty, .bool ynn, .bool ykey] := fun wv h => by rw [hKM] at h; exact h.blk_ 0 rfl
     have H2 : ∀ wv : World, Hold M (some T) w wv KM → Blk wv gi 181 #[.slice A9 (fn + 1) c9, .slice sA sn sc] := fun wv h => by rw [hKM] at h; exact h.blk_ 4 rfl
     have H3 : ∀ wv : World, Hold M (some T) w wv KM → Ro wv (Mut M KM) (PlIn ⟨⟨A9, fn + 1, c9, fl2⟩, ⟨sA, sn, sc, sl⟩⟩) ∧ Ro wv (Mut M KM) Wds ∧ Tp wv T ∧ ∀ b, (Mut M KM) b → T ≤ b := fun wv h => by rw [hKM] at h ⊢; exact ⟨h.ro 5 rfl, h.ro 11 rfl, h.tp_ 12 rfl, (h.get 12 rfl).2⟩
     have h4 : KM[12]? = some (.tp T) := by rw [hKM]; rfl
     have HH1 := hid H1
     have HH2 := hid H2
     have HH3 := hid H3
     have HH4 := hid h4
     have HKM := hid hKM
     have HHa := hid hHa
     clear hKM H1 H2 H3 h4 K1 hHa
     go_wp2_with fail
     clear F1
     refine wp_region_any (by kernel_rfl) ?_
     refine wpAny_hold 10 175 (KM) (spL [(139, ExSlot (Mut M KM) (n + 2)), (17, NewSlot (Mut M KM) Ha 136 zeroSe)]) (by kernel_rfl) (by kernel_rfl) (by kernel_rfl) rfl ?_ (K6.drew) ?_
     ·exact stays_cons exSlot_mono (stays_cons newSlot_mono (stays_nil _))
     simp only [zd, Act.put, List.getElem_toArray, List.getElem_cons_zero, List.getElem_cons_succ, zl]
     refine dw_val rfl rfl rfl ?_; apply Exists.intro; refine ⟨fun wv HC => ?_, ?_⟩
     · go_simp <;> rfl
     simp only [Act.put, zl]
     refine dw_val rfl rfl rfl ?_; apply Exists.intro; refine ⟨fun wv HC => ?_, ?_⟩
     ·obtain q0 := (HH1.out _ HC).cell 0; go_simp <;> rfl
     simp only [Act.put, zl]
     refine dw_val rfl rfl rfl ?_; apply Exists.intro; refine ⟨fun wv HC => ?_, ?_⟩
     · go_simp <;> rfl
     simp only [Act.put, zl]
     refine dw_val rfl rfl rfl ?_; apply Exists.intro; refine ⟨fun wv HC => ?_, ?_⟩
     ·obtain q0 := (HH2.out _ HC).cell 0; obtain q1 := (HH2.out _ HC).cell 1; go_simp <;> rfl
     simp only [Act.put, zl]
     refine dw_val rfl rfl rfl ?_; apply Exists.intro; refine ⟨fun wv HC => ?_, ?_⟩
     · go_simp <;> rfl
     simp only [Act.put, zl]
     refine dw_val rfl rfl rfl ?_; apply Exists.intro; refine ⟨fun wv HC => ?_, ?_⟩
     ·obtain q1 := (HH1.out _ HC).cell 1; go_simp <;> rfl
     simp only [Act.put, zl]
     refine dw_val rfl rfl rfl ?_; apply Exists.intro; refine ⟨fun wv HC => ?_, ?_⟩
     · go_simp <;> rfl
     simp only [Act.put, zl]
     refine dw_callR 139 (ExSlot (Mut M KM) (n + 2)) (f := 105) (args := #[.pointer (some ⟨T, 0, none⟩), .agg #[.slice A9 (fn + 1) c9, .slice sA sn sc], .int .i64 yty, .int .i64 depth]) rfl rfl rfl rfl (fun wv => ?_) (fun wv HC hrm hD => ?_) ?_
     ·go_simp <;> rfl
     ·obtain ⟨X0, X1, X2, X3⟩ := HH3.out _ HC
      refine (HE (Mut M KM) T wv HC.mutLt X2 X3 ⟨⟨A9, fn + 1, c9, fl2⟩, ⟨sA, sn, sc, sl⟩⟩ yty depth (X0.less (mut_tpG HH4.out)) (X1.less (mut_tpG HH4.out)) hT HIN.out hd hd2).mono ?_
      rintro e w5 ⟨x, rfl, hx, rx, t5, g5⟩
      exact ⟨_, rfl, ⟨x, rfl, hx, rx⟩, Hold.callT HC 12 HH4.out g5 t5, RM.grown g5 (.inr ⟨_, List.mem_of_getElem? HH4.out, rfl⟩)⟩
     rintro u wx HCx ⟨x, rfl, hx, rx⟩
     clear HCx hx rx
     simp only [Act.put, zl]
     rw [show x.val = .agg #[.int .i64 x.kind, .int .i64 x.op, .bool x.nt, .int .i64 x.v.k, .int .i64 x.v.i, .string x.v.s, .string x.tab, .string x.nm, .slice x.A x.n x.c, .slice x.B x.m x.d] from rfl]
     refine dw_val rfl rfl rfl ?_; apply Exists.intro; refine ⟨fun wv HC => ?_, ?_⟩
     · go_simp <;> rfl
     simp only [Act.put, zl]
     refine dw_new zeroSe 136 17 (NewSlot (Mut M KM) Ha 136 zeroSe) (fun g => .pointer (some ⟨g, 0, none⟩)) rfl rfl rfl rfl (fun wv => ?_) (fun wv HC hrm hD hro => ?_) ?_
     ·go_simp <;> rfl
     ·exact ⟨_, rfl, by have := hrm.1; rw [HHa.out]; exact this, hro _ HC.mutLt⟩
     rintro gx wg HCg hsl
     clear HCg hsl
     simp only [Act.put, zl]
     refine rel_nil ?_
     rintro wx3 HX
     rintro _hrm HGW
     have hu : ExSlot (Mut M KM) (n + 2) x.val wx3 := (GW_on (d := 139) rfl).1 (HGW 7 _ rfl (by omega))
     have hu2 : NewSlot (Mut M KM) Ha 136 zeroSe (.pointer (some ⟨gx, 0, none⟩)) wx3 := (GW_on (d := 17) rfl).1 (HGW 9 _ rfl (by omega))
     clear HGW
     obtain ⟨gx', e', hg1, hg2⟩ := hu2
     obtain rfl : gx = gx' := by injection e' with e'; injection e' with e'; injection e'
     clear e'
     rw [HHa.out] at hg1
     obtain ⟨y, hyv, hyok, hyro⟩ := hu
     have HB := (Hold.addFreshBlk K6.drew HX _hrm hg1 hg2.now).add ((ex_apart hg2.now hyok hyro).less fun b hb => (mut_cons.1 hb).elim (fun hf => Or.inr (by have hf : some gx = some b := hf; injection hf with hf; exact hf.symm)) Or.inl)
     rw [HKM.out] at HB
     have ev : Value.agg #[.string ynm, .int .i64 x.kind, .int .i64 x.op, .bool x.nt, .int .i64 x.v.k, .int .i64 x.v.i, .string x.v.s, .string x.tab, .string x.nm, .slice x.A x.n x.c, .slice x.B x.m x.d] = .agg #[.string ynm, .int .i64 y.kind, .int .i64 y.op, .bool y.nt, .int .i64 y.v.k, .int .i64 y.v.i, .string y.v.s, .string y.tab, .string y.nm, .slice y.A y.n y.c, .slice y.B y.m y.d] := by
      have h := hyv
      simp only [Ex.val, Value.agg.injEq, Array.mk.injEq, List.cons.injEq, and_true, true_and] at h ⊢
      exact h
     rw [ev]
     have HYO := hid hyok
     clear HX _hrm hg2 hg1 K6 HH1 HH2 HH3 HKM HHa ev hyv hyro hyok
     unfold zeroSe at HB
     have FB := HB.facts
     simp only [factsL, cellsF, Nat.reduceAdd, zf, zl] at FB
     have K2 := (((((((((((HB.store 1 rfl 0 (.string ynm)).store 1 rfl 1 (.int .i64 y.kind)).store 1 rfl 2 (.int .i64 y.op)).store 1 rfl 3 (.bool y.nt)).store 1 rfl 4 (.int .i64 y.v.k)).store 1 rfl 5 (.int .i64 y.v.i)).store 1 rfl 6 (.string y.v.s)).store 1 rfl 7 (.string y.tab)).store 1 rfl 8 (.string y.nm)).store 1 rfl 9 (.slice y.A y.n y.c)).store 1 rfl 10 (.slice y.B y.m y.d))
     simp only [zl] at K2
     have F2 := K2.facts
     simp only [factsL, cellsF, Nat.reduceAdd, zf, zl] at F2
     clear HB
     go_upto_region 31 with fail
     clear FB
     generalize World.setCell _ _ _ = wd at K2 F2 ⊢
     go_cut [147] (fun v wx => ∃ bb : Bool, v = .bool bb ∧ Hold M (some T) w wx [.ro (ExIn (n + 2) y), .blk gx 136 #[.string ynm, .int .i64 y.kind, .int .i64 y.op, .bool y.nt, .int .i64 y.v.k, .int .i64 y.v.i, .string y.v.s, .string y.tab, .string y.nm, .slice y.A y.n y.c, .slice y.B y.m y.d], .blk gk 162 #[.string ynm, .int .i64 yty, .bool ynn, .bool ykey], .own 136 11 (.slice O i cap) i (seCells outs), .ro (fun w => ∀ s ∈ outs, ExIn (n + 3) s.e w), .blk ga 99 #[.int .i64 2, .string snm, .slice none 0 0, .slice none 0 0, .slice O i cap, .slice none 0 0, .string ⟨#[]⟩], .blk gi 181 #[.slice A9 (fn + 1) c9, .slice sA sn sc], .ro (PlIn ⟨⟨A9, fn + 1, c9, fl2⟩, ⟨sA, sn, sc, sl⟩⟩), .blk gs 49 #[.string snm, .slice (some ⟨bC, oC, none⟩) cn cc], .ro (SlR 4 (some ⟨bC, oC, none⟩) cn (colCells cl)), .blk gr 99 #[.int .i64 0, .string ⟨#[]⟩, .slice none 0 0, .slice none 0 0, .slice none 0 0, .slice none 0 0, .string ⟨#[]⟩], .cst gp 181 #[.slice fA fn fc, .slice sA sn sc], .ro (PlIn ⟨⟨fA, fn, fc, fl⟩, ⟨sA, sn, sc, sl⟩⟩), .ro Wds, .tp T])
     case first =>
      by_cases hty : yty = 1
      ·subst hty
       go_wp2_with fail
       refine (bool_any T 2 _ (K2.tp_ 14 rfl) (by omega) (by omega)).mono ?_
       rintro e w7 ⟨b7, rfl, t7, g7⟩
       have K3 := Hold.callT K2 14 rfl g7 t7
       go_wp2_with fail
       go_meet
       exact ⟨b7, rfl, K3⟩
      ·have htb : (yty == 1) = false := by simpa using hty
       go_wp2_with fail
       go_meet
       exact ⟨false, rfl, K2⟩
     case rest =>
      obtain ⟨bb, rfl, K3⟩ := hcut
      clear K2 F2
      have F3 := K3.facts
      simp only [factsL, cellsF, Nat.reduceAdd, zf, zl] at F3
      go_upto_if 147 with (fail)
      go_cut [] (fun wx => ∃ z : Ex, ExGd (n + 3) z ∧ Hold M (some T) w wx [.blk gx 136 #[.string ynm, .int .i64 z.kind, .int .i64 z.op, .bool z.nt, .int .i64 z.v.k, .int .i64 z.v.i, .string z.v.s, .string z.tab, .string z.nm, .slice z.A z.n z.c, .slice z.B z.m z.d], .ro (ExIn (n + 3) z), .own 136 11 (.slice O i cap) i (seCells outs), .ro (fun w => ∀ s ∈ outs, ExIn (n + 3) s.e w), .blk ga 99 #[.int .i64 2, .string snm, .slice none 0 0, .slice none 0 0, .slice O i cap, .slice none 0 0, .string ⟨#[]⟩], .blk gi 181 #[.slice A9 (fn + 1) c9, .slice sA sn sc], .ro (PlIn ⟨⟨A9, fn + 1, c9, fl2⟩, ⟨sA, sn, sc, sl⟩⟩), .blk gs 49 #[.string snm, .slice (some ⟨bC, oC, none⟩) cn cc], .ro (SlR 4 (some ⟨bC, oC, none⟩) cn (colCells cl)), .blk gr 99 #[.int .i64 0, .string ⟨#[]⟩, .slice none 0 0, .slice none 0 0, .slice none 0 0, .slice none 0 0, .string ⟨#[]⟩], .cst gp 181 #[.slice fA fn fc, .slice sA sn sc], .ro (PlIn ⟨⟨fA, fn, fc, fl⟩, ⟨sA, sn, sc, sl⟩⟩), .ro Wds, .tp T])
      case first =>
       cases bb
       ·go_wp2_with fail
        go_meet
        exact ⟨y, HYO.out.le (by omega), (K3.add ((K3.ro 0 rfl).imp (S' := ExIn (n + 3) y) fun w2 h2 => h2.le (by omega))).pick [2, 0, 4, 5, 6, 7, 8, 9, 10, 11, 12, 13, 14, 15] (by decide) rfl⟩
       ·obtain ⟨KM, hKM, K6⟩ := K3.name
        have H1 : ∀ wv : World, Hold M (some T) w wv KM → Blk wv gk 162 #[.string ynm, .int .i64 yty, .bool ynn, .bool ykey] := fun wv h => by rw [hKM] at h; exact h.blk_ 2 rfl
        have h4 : KM[14]? = some (.tp T) := by rw [hKM]; rfl
        have HH1 := hid H1
        have HH4 := hid h4
        have HKM := hid hKM
        clear hKM H1 h4 K3
        go_wp2_with fail
        clear F3
        refine wp_region_any (by kernel_rfl) ?_
        refine wpAny_hold 9 175 (KM) (spL [(149, fun u _ => NatB 2 u), (153, ExSlot (Mut M KM) 1), (155, fun u _ => NatB 4 u), (156, ExSlot (Mut M KM) 2)]) (by kernel_rfl) (by kernel_rfl) (by kernel_rfl) rfl ?_ (K6.drew) ?_
        ·exact stays_cons (fun _ _ _ _ h => h) (stays_cons exSlot_mono (stays_cons (fun _ _ _ _ h => h) (stays_cons exSlot_mono (stays_nil _))))
        simp only [zd, Act.put, List.getElem_toArray, List.getElem_cons_zero, List.getElem_cons_succ, zl]
        refine dw_val rfl rfl rfl ?_; apply Exists.intro; refine ⟨fun wv HC => ?_, ?_⟩
        · go_simp <;> rfl
        simp only [Act.put, zl]
        refine dw_next 2 14 HH4.out 149 rfl rfl rfl rfl (fun wv => ?_) (fun r2 hr2 => ?_)
        ·go_simp <;> rfl
        have hwr2 : IntKind.i64.wrap (9 + (r2 : Int)) = 9 + r2 := IntWalk.i64_in _ (by omega)
        simp only [Act.put, zl]
        refine dw_val rfl rfl rfl ?_; apply Exists.intro; refine ⟨fun wv HC => ?_, ?_⟩
        · go_simp <;> rfl
        simp only [Act.put, zl]
        refine dw_val rfl rfl rfl ?_; apply Exists.intro; refine ⟨fun wv HC => ?_, ?_⟩
        · go_simp <;> rfl
        simp only [Act.put, zl]
        refine dw_val rfl rfl rfl ?_; apply Exists.intro; refine ⟨fun wv HC => ?_, ?_⟩
        ·obtain q0 := (HH1.out _ HC).cell 0; go_simp <;> rfl
        simp only [Act.put, zl]
        refine dw_callR 153 (ExSlot (Mut M KM) 1) (f := 136) (args := #[.string ⟨#[]⟩, .string ynm]) rfl rfl rfl rfl (fun wv => ?_) (fun wv HC hrm hD => ?_) ?_
        ·go_simp <;> rfl
        ·refine (col_any wv ⟨#[]⟩ ynm).mono ?_
         rintro e w5 ⟨rfl, b5⟩
         exact ⟨_, rfl, ⟨_, rfl, col_ok _ _, fun w2 _ _ => col_in _ _ w2⟩, HC.call b5, RM.below b5⟩
        rintro u wx HCx ⟨c1, rfl, hx, rx⟩
        clear HCx hx rx
        simp only [Act.put, zl]
        refine dw_val rfl rfl rfl ?_; apply Exists.intro; refine ⟨fun wv HC => ?_, ?_⟩
        · go_simp <;> rfl
        simp only [Act.put, zl]
        refine dw_next 4 14 HH4.out 155 rfl rfl rfl rfl (fun wv => ?_) (fun r4 hr4 => ?_)
        ·go_simp <;> rfl
        simp only [Act.put, zl]
        refine dw_callR 156 (ExSlot (Mut M KM) 2) (f := 137) (args := #[.int .i64 (r4 : Int)]) rfl rfl rfl rfl (fun wv => ?_) (fun wv HC hrm hD => ?_) ?_
        ·go_simp <;> rfl
        ·refine (wnum_any (Mut M KM) wv HC.mutLt (r4 : Int) (by omega)).mono ?_
         rintro e w5 ⟨x, rfl, hx, rx, b5⟩
         exact ⟨_, rfl, ⟨x, rfl, num_ok hx (by omega) (by omega), rx⟩, HC.call b5, RM.below b5⟩
        rintro u wx HCx ⟨c2, rfl, hx, rx⟩
        clear HCx hx rx
        simp only [Act.put, zl]
        refine rel_nil ?_
        rintro wx4 HX
        rintro _hrm HGW
        have hu : ExSlot (Mut M KM) 1 c1.val wx4 := (GW_on (d := 153) rfl).1 (HGW 5 _ rfl (by omega))
        have hu2 : ExSlot (Mut M KM) 2 c2.val wx4 := (GW_on (d := 156) rfl).1 (HGW 8 _ rfl (by omega))
        clear HGW _hrm
        obtain ⟨z1, hz1, hok1, hro1⟩ := hu
        obtain ⟨z2, hz2, hok2, hro2⟩ := hu2
        rw [HKM.out] at HX hro1 hro2
        rw [hz1, hz2]
        clear hz1 hz2 c1 c2 HH1 HH4 HKM
        rw [show z1.val = .agg #[.int .i64 z1.kind, .int .i64 z1.op, .bool z1.nt, .int .i64 z1.v.k, .int .i64 z1.v.i, .string z1.v.s, .string z1.tab, .string z1.nm, .slice z1.A z1.n z1.c, .slice z1.B z1.m z1.d] from rfl]
        rw [show z2.val = .agg #[.int .i64 z2.kind, .int .i64 z2.op, .bool z2.nt, .int .i64 z2.v.k, .int .i64 z2.v.i, .string z2.v.s, .string z2.tab, .string z2.nm, .slice z2.A z2.n z2.c, .slice z2.B z2.m z2.d] from rfl]
        go_wp2_with fail
        refine (bin_any (Mut M _) _ HX.mutLt (9 + r2) z1 z2 2 (hro1.imp fun w2 h2 => h2.le (by omega)) hro2).mono ?_
        rintro e w8 ⟨g8, rfl, ry, b8⟩
        have hyok := hid (op_ok (d := 2) (kind := 5) (op := 9 + (r2 : Int)) (nt := false) (g := g8) (k := 2) (l := [z1, z2]) (i64_lit 5 (by decide)) (show I64 _ from ⟨by omega, by omega⟩) (by omega) (fun a ha => by
         simp only [List.mem_cons, List.not_mem_nil, or_false] at ha
         rcases ha with rfl | rfl
         ·exact hok1.le (by omega)
         ·exact hok2))
        have KB := ((HX.call b8).add ry)
        generalize opE 5 (9 + (r2 : Int)) false g8 2 [z1, z2] = z at *
        have FB := KB.facts
        simp only [factsL, cellsF, Nat.reduceAdd, zf, zl] at FB
        have KC := ((((((((((KB.store 2 rfl 1 (.int .i64 z.kind)).store 2 rfl 2 (.int .i64 z.op)).store 2 rfl 3 (.bool z.nt)).store 2 rfl 4 (.int .i64 z.v.k)).store 2 rfl 5 (.int .i64 z.v.i)).store 2 rfl 6 (.string z.v.s)).store 2 rfl 7 (.string z.tab)).store 2 rfl 8 (.string z.nm)).store 2 rfl 9 (.slice z.A z.n z.c)).store 2 rfl 10 (.slice z.B z.m z.d))
        simp only [zl] at KC
        rw [show z.val = .agg #[.int .i64 z.kind, .int .i64 z.op, .bool z.nt, .int .i64 z.v.k, .int .i64 z.v.i, .string z.v.s, .string z.tab, .string z.nm, .slice z.A z.n z.c, .slice z.B z.m z.d] from rfl]
        clear HX b8 ry hro1 hok1 hro2 hok2
        go_wp2_with fail
        go_meet
        exact ⟨z, hyok.out.le (by omega), (KC.add ((KC.ro 0 rfl).imp (S' := ExIn (n + 3) z) fun w2 h2 => h2.le (by omega))).pick [3, 0, 5, 6, 7, 8, 9, 10, 11, 12, 13, 14, 15, 16] (by decide) rfl⟩
      case rest =>
       obtain ⟨z, hz, K5⟩ := hcut
       clear K3 F3 HYO HY
       have F5 := K5.facts
       simp only [factsL, cellsF, Nat.reduceAdd, zf, zl] at F5
       go_wp2_with (at_builtin; go_must (refine wpList_appH K5 2 rfl Tryz.elSeG #[.string ynm, .int .i64 z.kind, .int .i64 z.op, .bool z.nt, .int .i64 z.v.k, .int .i64 z.v.i, .string z.v.s, .string z.tab, .string z.nm, .slice z.A z.n z.c, .slice z.B z.m z.d] rfl (.tmp 160) (.tmp 162) rfl rfl _ (by first | rfl | simp) rfl rfl (by intro u hu; simp at hu; rcases hu with rfl | rfl | rfl | rfl | rfl | rfl | rfl | rfl | rfl | rfl | rfl <;> rfl) (by omega) (by omega) ?_); intro gA capA wA hcA hmA KA; rw [show seCells outs ++ (#[.string ynm, .int .i64 z.kind, .int .i64 z.op, .bool z.nt, .int .i64 z.v.k, .int .i64 z.v.i, .string z.v.s, .string z.tab, .string z.nm, .slice z.A z.n z.c, .slice z.B z.m z.d] : Array Value).toList = seCells (outs ++ [⟨ynm, z⟩]) by simp [seCells, Se.cells, Ex.cells]] at KA; simp only [zl] at KA; have FA := KA.facts; simp only [factsL, cellsF, Nat.reduceAdd, zf, zl] at FA)
       have KB := KA.store 4 rfl 4 (.slice (some ⟨gA, 0, none⟩) (i + 1) capA)
       simp only [zl] at KB
       have KC := KB.add (S := fun w => ∀ s ∈ outs ++ [(⟨ynm, z⟩ : Se)], ExIn (n + 3) s.e w) (((KB.ro 3 rfl).and (KB.ro 1 rfl)).imp fun w2 h2 s hs => by
        rcases List.mem_append.1 hs with hs | hs
        ·exact h2.1 s hs
        ·simp only [List.mem_cons, List.not_mem_nil, or_false] at hs
         subst hs
         exact h2.2)
       go_roundw
       case rel =>
        refine ⟨i + 1, capA, _, outs ++ [⟨ynm, z⟩], by omega, by go_num, fun s hs => ?_, KC.pick [3, 0, 5, 6, 7, 8, 9, 10, 11, 12, 13, 14] (by decide) rfl⟩
        rcases List.mem_append.1 hs with hs | hs
        ·exact hgd s hs
        ·simp only [List.mem_cons, List.not_mem_nil, or_false] at hs
         subst hs
         exact hz
       case measure => simp [intOf]; omega
    ·go_wp2_with fail
     refine (bool_any T 4 _ (K1.tp_ 11 rfl) (by omega) (by omega)).mono ?_
     rintro e w7 ⟨b, rfl, t7, g7⟩
     have K4 := Hold.callT K1 11 rfl g7 t7
     clear K1 F g7 t7
     have F4 := K4.facts
     simp only [factsL, cellsF, Nat.reduceAdd, zf, zl] at F4
     go_upto_if 167 with (fail)
     go_cut [] (fun wx => ∃ wh : SlP Ex, ItOk (n + 2) wh ∧ Hold M (some T) w wx [.blk ga 99 #[.int .i64 2, .string snm, .slice none 0 0, .slice none 0 0, .slice O i cap, .slice wh.A wh.n wh.c, .string ⟨#[]⟩], .ro (ExlIn (n + 2) wh), .own 136 11 (.slice O i cap) i (seCells outs), .ro (fun w => ∀ s ∈ outs, ExIn (n + 3) s.e w), .blk gr 99 #[.int .i64 0, .string ⟨#[]⟩, .slice none 0 0, .slice none 0 0, .slice none 0 0, .slice none 0 0, .string ⟨#[]⟩], .tp T])
     case first =>
      cases b
      ·go_wp2_with fail
       refine (HE (Mut M _) T _ K4.mutLt (K4.tp_ 11 rfl) (K4.get 11 rfl).2 ⟨⟨A9, fn + 1, c9, fl2⟩, ⟨sA, sn, sc, sl⟩⟩ 2 depth ((K4.ro 4 rfl).less (mut_tpG (i := 11) rfl)) ((K4.ro 10 rfl).less (mut_tpG (i := 11) rfl)) hT HIN.out hd hd2).mono ?_
       rintro e w6 ⟨x, rfl, hx, rx, tY, gY⟩
       have K7 := ((Hold.callT K4 11 rfl gY tY).add rx).alloc_cst #[.int .i64 x.kind, .int .i64 x.op, .bool x.nt, .int .i64 x.v.k, .int .i64 x.v.i, .string x.v.s, .string x.tab, .string x.nm, .slice x.A x.n x.c, .slice x.B x.m x.d] 134
       rw [show x.val = .agg #[.int .i64 x.kind, .int .i64 x.op, .bool x.nt, .int .i64 x.v.k, .int .i64 x.v.i, .string x.v.s, .string x.tab, .string x.nm, .slice x.A x.n x.c, .slice x.B x.m x.d] from rfl]
       clear F4 K4 rx tY gY
       have F7 := K7.facts
       simp only [factsL, cellsF, Nat.reduceAdd, zf, zl] at F7
       have K8 := K7.store 4 rfl 5 (.slice (some ⟨w6.heap.size, 0, none⟩) 1 1)
       simp only [zl] at K8
       clear K7
       go_wp2_with fail
       go_meet
       exact ⟨⟨some ⟨w6.heap.size, 0, none⟩, 1, 1, [x]⟩, exl_one_ok hx, (K8.add (exl_one (K8.get 0 rfl) rfl (K8.ro 1 rfl))).pick [5, 0, 3, 4, 10, 14] (by decide) rfl⟩
      ·go_wp2_with fail
       go_meet
       exact ⟨SlP.nil, exl_nil_ok, (K4.add (S := ExlIn (n + 2) SlP.nil) (fun w2 _ _ => SlP.nil_in _ _ _ w2)).pick [3, 0, 1, 2, 8, 12] (by decide) rfl⟩
     case rest =>
      obtain ⟨⟨hA, hN, hC, hl⟩, hwh, K5⟩ := hcut
      clear K4 F4
      simp only at K5
      have F5 := K5.facts
      simp only [factsL, cellsF, Nat.reduceAdd, zf, zl] at F5
      have K7 := (((((((K5.store 4 rfl 0 (.int .i64 2)).store 4 rfl 1 (.string snm)).store 4 rfl 2 (.slice none 0 0)).store 4 rfl 3 (.slice none 0 0)).store 4 rfl 4 (.slice O i cap)).store 4 rfl 5 (.slice hA hN hC)).store 4 rfl 6 (.string ⟨#[]⟩))
      simp only [zl] at K7
      have F7 := K7.facts
      simp only [factsL, cellsF, Nat.reduceAdd, zf, zl] at F7
      have hcap := own_caps (K5.get 2 rfl)
      have hlen := (K5.get 2 rfl).1
      rw [show (seCells outs).length = outs.length * 11 from flat_len Se.cells 11 (fun _ => rfl) outs] at hlen
      have KZ := K7.sealRow 2 rfl
      simp only [zl] at KZ
      have hR : Ro _ _ (AcIn (n + 3) ⟨2, snm, SlP.nil, SlP.nil, ⟨O, i, cap, outs⟩, ⟨hA, hN, hC, hl⟩, ⟨#[]⟩⟩) := ((KZ.ro 1 rfl).and ((KZ.ro 2 rfl).and (KZ.ro 3 rfl))).imp fun w2 h2 => ⟨SlP.nil_in _ _ _ w2, SlP.nil_in _ _ _ w2, ⟨h2.2.1, h2.2.2⟩, h2.1.1, fun a ha => (h2.1.2 a ha).le (by omega)⟩
      have HR := hid (hR.less zm)
      have HT := hid (And.intro (KZ.tp_ 5 rfl) KZ.grow)
      have HGD := hid (show AcGd (n + 3) ⟨2, snm, SlP.nil, SlP.nil, ⟨O, i, cap, outs⟩, ⟨hA, hN, hC, hl⟩, ⟨#[]⟩⟩ from ⟨⟨by simp, by simp⟩, LsOk.nil _ _, LsOk.nil _ _, ⟨⟨hcap.1, hcap.2.1⟩, by show outs.length ≤ 8; omega, hgd⟩, ⟨hwh.1, hwh.2.1, fun a ha => (hwh.2.2 a ha).le (by omega)⟩⟩)
      clear K5 K7 KZ hR
      go_wp2_with fail
      refine bodyPost_ret (v := .agg #[.int .i64 2, .string snm, .slice none 0 0, .slice none 0 0, .slice O i cap, .slice hA hN hC, .string ⟨#[]⟩]) ?_ rfl ?_
      ·clear HT HR HGD
       simp [results, Tryz.results162, go_sem, F7]
      ·exact ⟨⟨2, snm, SlP.nil, SlP.nil, ⟨O, i, cap, outs⟩, ⟨hA, hN, hC, hl⟩, ⟨#[]⟩⟩, rfl, HGD.out, HR.out, HT.out.1, HT.out.2⟩
   ·go_wp2_with fail
    refine (bool_any T 4 _ (K1.tp_ 11 rfl) (by omega) (by omega)).mono ?_
    rintro e w7 ⟨b, rfl, t7, g7⟩
    have K4 := Hold.callT K1 11 rfl g7 t7
    clear K1 F g7 t7
    have F4 := K4.facts
    simp only [factsL, cellsF, Nat.reduceAdd, zf, zl] at F4
    go_upto_if 167 with (fail)
    go_cut [] (fun wx => ∃ wh : SlP Ex, ItOk (n + 2) wh ∧ Hold M (some T) w wx [.blk ga 99 #[.int .i64 2, .string snm, .slice none 0 0, .slice none 0 0, .slice O i cap, .slice wh.A wh.n wh.c, .string ⟨#[]⟩], .ro (ExlIn (n + 2) wh), .own 136 11 (.slice O i cap) i (seCells outs), .ro (fun w => ∀ s ∈ outs, ExIn (n + 3) s.e w), .blk gr 99 #[.int .i64 0, .string ⟨#[]⟩, .slice none 0 0, .slice none 0 0, .slice none 0 0, .slice none 0 0, .string ⟨#[]⟩], .tp T])
    case first =>
     cases b
     ·go_wp2_with fail
      refine (HE (Mut M _) T _ K4.mutLt (K4.tp_ 11 rfl) (K4.get 11 rfl).2 ⟨⟨A9, fn + 1, c9, fl2⟩, ⟨sA, sn, sc, sl⟩⟩ 2 depth ((K4.ro 4 rfl).less (mut_tpG (i := 11) rfl)) ((K4.ro 10 rfl).less (mut_tpG (i := 11) rfl)) hT HIN.out hd hd2).mono ?_
      rintro e w6 ⟨x, rfl, hx, rx, tY, gY⟩
      have K7 := ((Hold.callT K4 11 rfl gY tY).add rx).alloc_cst #[.int .i64 x.kind, .int .i64 x.op, .bool x.nt, .int .i64 x.v.k, .int .i64 x.v.i, .string x.v.s, .string x.tab, .string x.nm, .slice x.A x.n x.c, .slice x.B x.m x.d] 134
      rw [show x.val = .agg #[.int .i64 x.kind, .int .i64 x.op, .bool x.nt, .int .i64 x.v.k, .int .i64 x.v.i, .string x.v.s, .string x.tab, .string x.nm, .slice x.A x.n x.c, .slice x.B x.m x.d] from rfl]
      clear F4 K4 rx tY gY
      have F7 := K7.facts
      simp only [factsL, cellsF, Nat.reduceAdd, zf, zl] at F7
      have K8 := K7.store 4 rfl 5 (.slice (some ⟨w6.heap.size, 0, none⟩) 1 1)
      simp only [zl] at K8
      clear K7
      go_wp2_with fail
      go_meet
      exact ⟨⟨some ⟨w6.heap.size, 0, none⟩, 1, 1, [x]⟩, exl_one_ok hx, (K8.add (exl_one (K8.get 0 rfl) rfl (K8.ro 1 rfl))).pick [5, 0, 3, 4, 10, 14] (by decide) rfl⟩
     ·go_wp2_with fail
      go_meet
      exact ⟨SlP.nil, exl_nil_ok, (K4.add (S := ExlIn (n + 2) SlP.nil) (fun w2 _ _ => SlP.nil_in _ _ _ w2)).pick [3, 0, 1, 2, 8, 12] (by decide) rfl⟩
    case rest =>
     obtain ⟨⟨hA, hN, hC, hl⟩, hwh, K5⟩ := hcut
     clear K4 F4
     simp only at K5
     have F5 := K5.facts
     simp only [factsL, cellsF, Nat.reduceAdd, zf, zl] at F5
     have K7 := (((((((K5.store 4 rfl 0 (.int .i64 2)).store 4 rfl 1 (.string snm)).store 4 rfl 2 (.slice none 0 0)).store 4 rfl 3 (.slice none 0 0)).store 4 rfl 4 (.slice O i cap)).store 4 rfl 5 (.slice hA hN hC)).store 4 rfl 6 (.string ⟨#[]⟩))
     simp only [zl] at K7
     have F7 := K7.facts
     simp only [factsL, cellsF, Nat.reduceAdd, zf, zl] at F7
     have hcap := own_caps (K5.get 2 rfl)
     have hlen := (K5.get 2 rfl).1
     rw [show (seCells outs).length = outs.length * 11 from flat_len Se.cells 11 (fun _ => rfl) outs] at hlen
     have KZ := K7.sealRow 2 rfl
     simp only [zl] at KZ
     have hR : Ro _ _ (AcIn (n + 3) ⟨2, snm, SlP.nil, SlP.nil, ⟨O, i, cap, outs⟩, ⟨hA, hN, hC, hl⟩, ⟨#[]⟩⟩) := ((KZ.ro 1 rfl).and ((KZ.ro 2 rfl).and (KZ.ro 3 rfl))).imp fun w2 h2 => ⟨SlP.nil_in _ _ _ w2, SlP.nil_in _ _ _ w2, ⟨h2.2.1, h2.2.2⟩, h2.1.1, fun a ha => (h2.1.2 a ha).le (by omega)⟩
     have HR := hid (hR.less zm)
     have HT := hid (And.intro (KZ.tp_ 5 rfl) KZ.grow)
     have HGD := hid (show AcGd (n + 3) ⟨2, snm, SlP.nil, SlP.nil, ⟨O, i, cap, outs⟩, ⟨hA, hN, hC, hl⟩, ⟨#[]⟩⟩ from ⟨⟨by simp, by simp⟩, LsOk.nil _ _, LsOk.nil _ _, ⟨⟨hcap.1, hcap.2.1⟩, by show outs.length ≤ 8; omega, hgd⟩, ⟨hwh.1, hwh.2.1, fun a ha => (hwh.2.2 a ha).le (by omega)⟩⟩)
     clear K5 K7 KZ hR
     go_wp2_with fail
     refine bodyPost_ret (v := .agg #[.int .i64 2, .string snm, .slice none 0 0, .slice none 0 0, .slice O i cap, .slice hA hN hC, .string ⟨#[]⟩]) ?_ rfl ?_
     ·clear HT HR HGD
      simp [results, Tryz.results162, go_sem, F7]
     ·exact ⟨⟨2, snm, SlP.nil, SlP.nil, ⟨O, i, cap, outs⟩, ⟨hA, hN, hC, hl⟩, ⟨#[]⟩⟩, rfl, HGD.out, HR.out, HT.out.1, HT.out.2⟩
 ·go_wp2_with fail
  refine (bool_any T 4 _ (KA.tp_ 9 rfl) (by omega) (by omega)).mono ?_
  rintro e w7 ⟨b, rfl, t7, g7⟩
  have K4 := Hold.callT KA 9 rfl g7 t7
  clear KA F g7 t7
  have F4 := K4.facts
  simp only [factsL, cellsF, Nat.reduceAdd, zf, zl] at F4
  go_upto_if 167 with (fail)
  go_cut [] (fun wx => ∃ wh : SlP Ex, ItOk (n + 2) wh ∧ Hold M (some T) w wx [.blk ga 99 #[.int .i64 3, .string snm, .slice none 0 0, .slice none 0 0, .slice none 0 0, .slice wh.A wh.n wh.c, .string ⟨#[]⟩], .ro (ExlIn (n + 2) wh), .blk gr 99 #[.int .i64 0, .string ⟨#[]⟩, .slice none 0 0, .slice none 0 0, .slice none 0 0, .slice none 0 0, .string ⟨#[]⟩], .tp T])
  case first =>
   cases b
   ·go_wp2_with fail
    refine (HE (Mut M _) T _ K4.mutLt (K4.tp_ 9 rfl) (K4.get 9 rfl).2 ⟨⟨A9, fn + 1, c9, fl2⟩, ⟨sA, sn, sc, sl⟩⟩ 2 depth ((K4.ro 2 rfl).less (mut_tpG (i := 9) rfl)) ((K4.ro 8 rfl).less (mut_tpG (i := 9) rfl)) hT HIN.out hd hd2).mono ?_
    rintro e w6 ⟨x, rfl, hx, rx, tY, gY⟩
    have K7 := ((Hold.callT K4 9 rfl gY tY).add rx).alloc_cst #[.int .i64 x.kind, .int .i64 x.op, .bool x.nt, .int .i64 x.v.k, .int .i64 x.v.i, .string x.v.s, .string x.tab, .string x.nm, .slice x.A x.n x.c, .slice x.B x.m x.d] 134
    rw [show x.val = .agg #[.int .i64 x.kind, .int .i64 x.op, .bool x.nt, .int .i64 x.v.k, .int .i64 x.v.i, .string x.v.s, .string x.tab, .string x.nm, .slice x.A x.n x.c, .slice x.B x.m x.d] from rfl]
    clear F4 K4 rx tY gY
    have F7 := K7.facts
    simp only [factsL, cellsF, Nat.reduceAdd, zf, zl] at F7
    have K8 := K7.store 2 rfl 5 (.slice (some ⟨w6.heap.size, 0, none⟩) 1 1)
    simp only [zl] at K8
    clear K7
    go_wp2_with fail
    go_meet
    exact ⟨⟨some ⟨w6.heap.size, 0, none⟩, 1, 1, [x]⟩, exl_one_ok hx, (K8.add (exl_one (K8.get 0 rfl) rfl (K8.ro 1 rfl))).pick [3, 0, 8, 12] (by decide) rfl⟩
   ·go_wp2_with fail
    go_meet
    exact ⟨SlP.nil, exl_nil_ok, (K4.add (S := ExlIn (n + 2) SlP.nil) (fun w2 _ _ => SlP.nil_in _ _ _ w2)).pick [1, 0, 6, 10] (by decide) rfl⟩
  case rest =>
   obtain ⟨⟨hA, hN, hC, hl⟩, hwh, K5⟩ := hcut
   clear K4 F4
   simp only at K5
   have F5 := K5.facts
   simp only [factsL, cellsF, Nat.reduceAdd, zf, zl] at F5
   have K7 := (((((((K5.store 2 rfl 0 (.int .i64 3)).store 2 rfl 1 (.string snm)).store 2 rfl 2 (.slice none 0 0)).store 2 rfl 3 (.slice none 0 0)).store 2 rfl 4 (.slice none 0 0)).store 2 rfl 5 (.slice hA hN hC)).store 2 rfl 6 (.string ⟨#[]⟩))
   simp only [zl] at K7
   have F7 := K7.facts
   simp only [factsL, cellsF, Nat.reduceAdd, zf, zl] at F7
   have KZ := K7
   have hR : Ro _ _ (AcIn (n + 3) ⟨3, snm, SlP.nil, SlP.nil, SlP.nil, ⟨hA, hN, hC, hl⟩, ⟨#[]⟩⟩) := (KZ.ro 1 rfl).imp fun w2 h2 => ⟨SlP.nil_in _ _ _ w2, SlP.nil_in _ _ _ w2, SlP.nil_in _ _ _ w2, h2.1, fun a ha => (h2.2 a ha).le (by omega)⟩
   have HR := hid (hR.less zm)
   have HT := hid (And.intro (KZ.tp_ 3 rfl) KZ.grow)
   have HGD := hid (show AcGd (n + 3) ⟨3, snm, SlP.nil, SlP.nil, SlP.nil, ⟨hA, hN, hC, hl⟩, ⟨#[]⟩⟩ from ⟨⟨by simp, by simp⟩, LsOk.nil _ _, LsOk.nil _ _, LsOk.nil _ _, ⟨hwh.1, hwh.2.1, fun a ha => (hwh.2.2 a ha).le (by omega)⟩⟩)
   clear K5 K7 KZ hR
   go_wp2_with fail
   refine bodyPost_ret (v := .agg #[.int .i64 3, .string snm, .slice none 0 0, .slice none 0 0, .slice none 0 0, .slice hA hN hC, .string ⟨#[]⟩]) ?_ rfl ?_
   ·clear HT HR HGD
    simp [results, Tryz.results162, go_sem, F7]
   ·exact ⟨⟨3, snm, SlP.nil, SlP.nil, SlP.nil, ⟨hA, hN, hC, hl⟩, ⟨#[]⟩⟩, rfl, HGD.out, HR.out, HT.out.1, HT.out.2⟩
end Go.Proofs.YtdkebcfkchhlmaaGreatDoor

namespace Go.Proofs.YtdkebcfkchhlmaaGreatDoor
open Go.RowKit
set_option linter.unusedVariables false
set_option linter.unusedSimpArgs false
/-- a list of values in a slot -/
def ValsSlot (M : Nat → Prop) (n : Nat) (vs : List Value) (u : Value) (w : World) : Prop := ∃ g : Nat, u = .slice (some ⟨g, 0, none⟩) n n ∧ vs.length = n ∧ Ro w M (SlR 1 (some ⟨g, 0, none⟩) n vs)
theorem valsSlot_mono {M : Nat → Prop} {n : Nat} {vs : List Value} (u : Value) (w w' : World) (hr : RM M w w') (h : ValsSlot M n vs u w) : ValsSlot M n vs u w' := by
 obtain ⟨g, h1, h2, h3⟩ := h
 exact ⟨g, h1, h2, hr.ro h3⟩
/-- the place of a value in a slot -/
def CellZ (M : Nat → Prop) (Z : Value → Prop) (u : Value) (w : World) : Prop := ∃ (g o : Nat) (z : Value), u = .pointer (some ⟨g, o, none⟩) ∧ Z z ∧ Ro w M (fun w => w.cell? ⟨g, o, none⟩ = some z)
theorem cellZ_mono {M : Nat → Prop} {Z : Value → Prop} (u : Value) (w w' : World) (hr : RM M w w') (h : CellZ M Z u w) : CellZ M Z u w' := by
 obtain ⟨g, o, z, h1, h2, h3⟩ := h
 exact ⟨g, o, z, h1, h2, hr.ro h3⟩
def StrZ (u : Value) : Prop := ∃ s : ByteArray, u = .string s
def StrSlot (u : Value) (_ : World) : Prop := StrZ u
theorem strSlot_mono {M : Nat → Prop} (u : Value) (w w' : World) (hr : RM M w w') (h : StrSlot u w) : StrSlot u w' := h
theorem ValsSlot.cell {M : Nat → Prop} {n : Nat} {vs : List Value} {Z : Value → Prop} {g r : Nat} {w : World} (h : ValsSlot M n vs (.slice (some ⟨g, 0, none⟩) n n) w) (hZ : ∀ z ∈ vs, Z z) (hr : r < n) : CellZ M Z (.pointer (some ⟨g, r, none⟩)) w := by
 obtain ⟨g', e, hl, h3⟩ := h
 obtain rfl : g = g' := by injection e with e; injection e with e; injection e
 obtain ⟨z, hz⟩ : ∃ z, vs[r]? = some z := ⟨vs[r]'(by omega), List.getElem?_eq_getElem _⟩
 refine ⟨g, r, z, rfl, hZ z (List.mem_of_getElem? hz), h3.imp fun w2 h2 => ?_⟩
 obtain ⟨b, o, e, hb, hc⟩ := h2.2 (by omega)
 obtain ⟨rfl, rfl⟩ : g = b ∧ 0 = o := by injection e with e; injection e with e1 e2; exact ⟨e1, e2⟩
 have := hc r z hz
 simpa using this
end Go.Proofs.YtdkebcfkchhlmaaGreatDoor

/- DAppSaid: what Apply answers of a table and a difference. -/
import Derived.Test.YtjpgbhakkfgecaaDoorDAppSaidMD
import Derived.Test.YtjpgbhakkfgecaaDoorDAppSaidMF
import Derived.Test.YtjpgbhakkfgecaaDoorDAppSaidMG
import Derived.Test.YtjpgbhakkfgecaaDoorDAppSaidMH
import Derived.Test.YtjpgbhakkfgecaaDoorCards
import Derived.Test.YtjpgbhakkfgecaaDoorTie
import Derived.Test.YtjpgbhakkfgecaaDoorDAppSaidMA
namespace Go.Proofs.YtjpgbhakkfgecaaDoor
open Go.RowKit
set_option linter.unusedVariables false
set_option linter.unusedSimpArgs false

def SomeDlSl (M : Nat → Prop) (u : Value) (w : World) : Prop := ∃ d : Dl, DlAt w M u d ∧ (d.ins.length ≤ 2000 ∧ d.del.length ≤ 2000 ∧ d.upd.length ≤ 2000) ∧ (∀ r ∈ d.ins, r.2.length ≤ 1000) ∧ ∀ u ∈ d.upd, u.2.2.length ≤ 1000
theorem someDlSl_mono {M : Nat → Prop} (u : Value) (w w' : World) (hr : RM M w w') (h : SomeDlSl M u w) : SomeDlSl M u w' := by
  obtain ⟨d, h1, h2⟩ := h
  exact ⟨d, dlAt_mono hr h1, h2⟩
theorem dlAt_less {w : World} {M M' : Nat → Prop} {v : Value} {d : Dl} (h : DlAt w M v d) (hM : ∀ b, M' b → M b) : DlAt w M' v d := by
  obtain ⟨I, ni, ci, D, nd, cd, U, nu, cu, li, ld, lu, h1, h2, h3, h4, h5, h6, h7, h8⟩ := h
  exact ⟨I, ni, ci, D, nd, cd, U, nu, cu, li, ld, lu, h1, h2, h3, h4, h5.less hM, h6.less hM, h7.less hM, h8⟩
set_option maxHeartbeats 8000000 in
set_option maxRecDepth 100000 in
theorem daforms_walk (v0 v1 : Value) (tp : Tb) (dq : Dl) (A : Option Addr) (n c : Nat) (zs : List Int) (w : World) (hT0 : TbAt w None_ v0 tp) (hQ0 : DlAt w None_ v1 dq) (hs0 : tp.nm.size ≤ maxLen) (hcs0 : ∀ x ∈ tp.cs, x.name.size ≤ maxLen) (hde : dq.del.length ≤ 4398046511104) (hup : dq.upd.length ≤ 4398046511104) (hvi : ∀ r ∈ dq.ins, r.2.length ≤ 4398046511104) (hvu : ∀ u ∈ dq.upd, u.2.2.length ≤ 4398046511104)
    (hr : Rd w w.heap.size 1 A n (zs.map (Value.int .i64))) (hz : Ints zs) (hn : n ≤ c) (hc : c ≤ 9223372036854775807) (hw : Wds w) :
    Calls Tryd.prog 4 #[v0, v1, .slice A n c] w fun e w' => e = .returned (.bool true) ∧ Below w.heap.size w w' := by
  obtain ⟨A0, n0, c0, B0, m0, d0, l0, rfl, a01, a02, a03, a04, a05, a06, a07, a08⟩ := hT0
  obtain ⟨I0, ni0, ci0, D0, nd0, cd0, U0, nu0, cu0, li0, ld0, lu0, rfl, q01, q02, q03, s1, s2, s3, o01, o02, o03, e01, e02, e03⟩ := hQ0
  have hwl := hw.lt
  have HML := hid (show tp.rs.length = m0 by rw [← a08, List.length_map]; exact a06.now.len)
  have HNL := hid (show dq.ins.length = ni0 by rw [← e01, List.length_map]; exact s1.now.len)
  have HQ := hid (show ((n0 ≤ c0 ∧ c0 ≤ 9223372036854775807) ∧ (m0 ≤ d0 ∧ d0 ≤ 9223372036854775807) ∧ (∀ r ∈ l0, r.ok) ∧ l0.map Rw.row = tp.rs) from ⟨⟨a01, a02⟩, ⟨a03, a04⟩, a07, a08⟩)
  have HD0 := hid (And.intro q01 (And.intro q02 (And.intro q03 (And.intro o01 (And.intro o02 (And.intro o03 (And.intro e01 (And.intro e02 e03))))))))
  have K0 := ((((((Hold.begin_ w).add (s3.less (by simp [Mut]))).add (s2.less (by simp [Mut, Hp.foot]))).add (s1.less (by simp [Mut, Hp.foot]))).add (a06.less (by simp [Mut, Hp.foot]))).add (a05.less (by simp [Mut, Hp.foot]))).alloc_cst #[.string tp.nm, .slice A0 n0 c0, .int .i64 tp.nx, .slice B0 m0 d0] 27 |>.alloc_cst #[.string dq.nm, .slice I0 ni0 ci0, .slice D0 nd0 cd0, .slice U0 nu0 cu0] 41
  rw [World.size_alloc] at K0
  have F0 := K0.facts
  simp only [factsL, cellsF, Nat.reduceAdd, zf, zl] at F0
  clear a01 a02 a03 a04 a05 a06 a07 a08 q01 q02 q03 s1 s2 s3 o01 o02 o03 e01 e02 e03
  go_enter Tryd.func4, Tryd.ntmps4
  obtain ⟨g3, hg3⟩ : ∃ g3, g3 = w.heap.size := ⟨_, rfl⟩
  obtain ⟨g4, hg4⟩ : ∃ g4, g4 = g3 + 1 := ⟨_, rfl⟩
  by_cases hm30 : 30 < m0
  · have hb1 : decide ((m0 : Int) > 30) = true := by simp; omega
    go_wp2_with fail
    refine (known8 _).mono ?_
    rintro e w9 ⟨rfl, b9⟩
    have K9 := K0.call b9
    go_wp2_with fail
    go_ret
    exact ⟨by first | rfl | simp, K9.below⟩
  have hb1 : decide ((m0 : Int) > 30) = false := by simp; omega
  have hb1' : decide (30 < m0) = false := by simp; omega
  by_cases hi30 : 30 < ni0
  · have hb2 : decide ((ni0 : Int) > 30) = true := by simp; omega
    go_wp2_with fail
    refine (known8 _).mono ?_
    rintro e w9 ⟨rfl, b9⟩
    have K9 := K0.call b9
    go_wp2_with fail
    go_ret
    exact ⟨by first | rfl | simp, K9.below⟩
  have hb2 : decide ((ni0 : Int) > 30) = false := by simp; omega
  have hb2' : decide (30 < ni0) = false := by simp; omega
  have HBP := hid (show tp.nm.size ≤ maxLen ∧ (∀ x ∈ tp.cs, x.name.size ≤ maxLen) ∧ tp.rs.length ≤ 4398046511104 from ⟨hs0, hcs0, by rw [HML.out]; omega⟩)
  have HBQ := hid (show dq.ins.length ≤ 1000000 ∧ dq.del.length ≤ 4398046511104 ∧ dq.upd.length ≤ 4398046511104 ∧ (∀ r ∈ dq.ins, r.2.length ≤ 4398046511104) ∧ ∀ u ∈ dq.upd, u.2.2.length ≤ 4398046511104 from ⟨by rw [HNL.out]; omega, hde, hup, hvi, hvu⟩)
  clear hs0 hcs0 hde hup hvi hvu
  go_wp2_with fail
  rw [← hg3, ← hg4] at K0 ⊢
  clear F0 hb1 hb1' hb2 hb2' hm30 hi30
  generalize (w.alloc _).alloc _ = w1 at K0 ⊢
  have hr1 : Rd w1 w1.heap.size 1 A n (zs.map (Value.int .i64)) := (hr.keep fun p hp => World.cell?_of_block (w := w) (K0.below.block p.block hp)).more K0.grow.size
  have wd1 : Wds w1 := hw.below K0.below hwl
  have hle1 : w.heap.size ≤ w1.heap.size := K0.grow.size
  clear hr hw
  refine (new_any A n c zs _ hr1 hz hn hc).mono ?_
  rintro e w2 ⟨T, rfl, hT, t1, b1⟩
  have K1 := Hold.newTape K0 b1 t1 hT (by simp [Mut, None_, Hp.foot])
  have hT1 : 1 < T := by omega
  have wd0 : Wds w2 := wd1.below b1 (by omega)
  have K2 := K1.add (wd0.ro2 (show ¬ Mut None_ _ 1 from fun h => by simp [Mut, None_, Hp.foot] at h; omega))
  clear K1 K0 wd0 wd1 t1 b1 hr1 hT
  have HGX := hid (And.intro hg3 hg4)
  clear hg3 hg4
  go_wp2_with fail
  refine (tname_any (Mut None_ _) T _ K2.mutLt (K2.tp_ 1 rfl) (K2.get 1 rfl).2).mono ?_
  rintro e w3 ⟨s, rfl, hs, t2, g2⟩
  have K3 := Hold.callT K2 1 rfl g2 t2
  clear K2 t2 g2
  have HSO0 := hid (schOk_name hs)
  clear hs
  go_wp2_with fail
  refine (schema_any (Mut None_ _) _ K3.mutLt s).mono ?_
  rintro e w4 ⟨A2, n2, c2, rfl, hc1, hc2, r3, b3⟩
  have K4 := (K3.call b3).add r3
  clear K3 b3 r3
  go_wp2_with fail
  have hn2 : (schemaOf s).2.length = n2 := cols_n (K4.ro 0 rfl).now
  have hl2 := HSO0.out.len
  refine (tof_slot (Mut None_ _) T _ K4.mutLt (K4.tp_ 2 rfl) (K4.get 2 rfl).2 _ A2 n2 c2 _ 6 ((K4.ro 0 rfl).less (mut_tp (i := 2) rfl)) hc1 (by omega) HSO0.out ((K4.ro 1 rfl).less (mut_tp (i := 2) rfl)) hT1 (by omega)).mono ?_
  clear hn2 hl2
  rintro e w5 ⟨v, t, rfl, ⟨A3, n3, c3, B, m, d, l, rfl, h31, h32, hmd, hd2, r4c, r4, hlk, hlr⟩, htv, -, -, hrl, t4, g4'⟩
  dsimp only at r4c hlr ⊢
  have K5 := ((Hold.callT K4 2 rfl g4' t4).add r4).add (r4c.less (mut_none rfl))
  have HVT := hid htv
  have HT3 := hid (And.intro h31 (And.intro h32 (And.intro hmd (And.intro hd2 (And.intro hlk hlr)))))
  have HBA := hid (show t.nm.size ≤ maxLen ∧ (∀ x ∈ t.cs, x.name.size ≤ maxLen) ∧ t.rs.length ≤ 4398046511104 from ⟨htv.sch.nm, htv.sch.cs, by omega⟩)
  clear K4 t4 g4' hc1 hc2 r4 r4c hlk hlr htv hrl hmd hd2 h31 h32
  have K6 := K5.alloc_cst #[.string t.nm, .slice A3 n3 c3, .int .i64 t.nx, .slice B m d] 27
  clear K5
  obtain ⟨g8, hg8⟩ : ∃ g8, g8 = w5.heap.size := ⟨_, rfl⟩
  rw [← hg8] at K6
  have FA := K6.facts
  simp only [factsL, cellsF, Nat.reduceAdd, zf, zl] at FA
  go_wp2_with fail
  rw [← hg8]
  have HG8 := hid hg8
  clear hg8
  generalize World.alloc w5 _ = w5' at K6 FA ⊢
  have hT : TbAt w5' (Mut (Mut None_ _) [.tp T]) (.agg #[.string t.nm, .slice A3 n3 c3, .int .i64 t.nx, .slice B m d]) t := ⟨A3, n3, c3, B, m, d, l, rfl, HT3.out.1, HT3.out.2.1, HT3.out.2.2.1, HT3.out.2.2.2.1, (K6.ro 1 rfl).less (mut_tp (i := 5) rfl), (K6.ro 2 rfl).less (mut_tp (i := 5) rfl), HT3.out.2.2.2.2.1, HT3.out.2.2.2.2.2⟩
  refine (later_any (Mut None_ _) T _ K6.mutLt (K6.tp_ 5 rfl) (K6.get 5 rfl).2 _ t hT HVT.out ((K6.ro 4 rfl).less (mut_tp (i := 5) rfl)) hT1).mono ?_
  clear hT
  rintro e w6 ⟨v, u, rfl, ⟨A5, n5, c5, B5, m5, d5, l5, rfl, h51, h52, h53, h54, r5c, r5, h57, h58⟩, huv, hlt, t5, g5'⟩
  have K7 := (((Hold.callT K6 5 rfl g5' t5).add r5).add (r5c.less (mut_none rfl))).alloc_cst #[.string u.nm, .slice A5 n5 c5, .int .i64 u.nx, .slice B5 m5 d5] 27
  have HVU := hid huv
  have HLT := hid hlt
  have HT5 := hid (And.intro h51 (And.intro h52 (And.intro h53 (And.intro h54 (And.intro h57 h58)))))
  have HBB := hid (show u.nm.size ≤ maxLen ∧ (∀ x ∈ u.cs, x.name.size ≤ maxLen) ∧ u.rs.length ≤ 4398046511104 from ⟨huv.sch.nm, huv.sch.cs, by have := huv.rows; omega⟩)
  clear K6 FA t5 g5' r5c r5 h51 h52 h53 h54 h57 h58 huv hlt
  obtain ⟨g9, hg9⟩ : ∃ g9, g9 = w6.heap.size := ⟨_, rfl⟩
  rw [← hg9] at K7
  have FA := K7.facts
  simp only [factsL, cellsF, Nat.reduceAdd, zf, zl] at FA
  go_wp2_with fail
  rw [← hg9]
  have HG9 := hid hg9
  clear hg9 FA
  generalize World.alloc w6 _ = w7 at K7 ⊢
  have hTt : TbAt w7 (Mut None_ _) (.agg #[.string t.nm, .slice A3 n3 c3, .int .i64 t.nx, .slice B m d]) t := ⟨A3, n3, c3, B, m, d, l, rfl, HT3.out.1, HT3.out.2.1, HT3.out.2.2.1, HT3.out.2.2.2.1, K7.ro 4 rfl, K7.ro 5 rfl, HT3.out.2.2.2.2.1, HT3.out.2.2.2.2.2⟩
  have hTu : TbAt w7 (Mut None_ _) (.agg #[.string u.nm, .slice A5 n5 c5, .int .i64 u.nx, .slice B5 m5 d5]) u := ⟨A5, n5, c5, B5, m5, d5, l5, rfl, HT5.out.1, HT5.out.2.1, HT5.out.2.2.1, HT5.out.2.2.2.1, K7.ro 1 rfl, K7.ro 2 rfl, HT5.out.2.2.2.2.1, HT5.out.2.2.2.2.2⟩
  have hk := rbetw_any _ _ K7.mutLt _ _ t u hTt hTu HBA.out.1 HBA.out.2.1 HBA.out.2.2 HBB.out.1 HBB.out.2.1 HBB.out.2.2
  rw [betC_later HVT.out.val HVU.out.val HLT.out] at hk
  refine hk.mono ?_
  clear hk hTt hTu
  rintro e w8 ⟨v, rfl, ⟨I1, ni1, ci1, D1, nd1, cd1, U1, nu1, cu1, li1, ld1, lu1, rfl, q11, q12, q13, r1, r2, r3, o11, o12, o13, e11, e12, e13⟩, b1⟩
  dsimp only at e11 e12 e13 ⊢
  have K8 := (((K7.call b1).add r3).add (r2.less (mut_none rfl))).add ((r1.less (mut_none rfl)).less (mut_none rfl)) |>.alloc_cst #[.string (betD t u).nm, .slice I1 ni1 ci1, .slice D1 nd1 cd1, .slice U1 nu1 cu1] 41
  have HD1 := hid (And.intro q11 (And.intro q12 (And.intro q13 (And.intro o11 (And.intro o12 (And.intro o13 (And.intro e11 (And.intro e12 e13))))))))
  clear K7 b1 r1 r2 r3 q11 q12 q13 o11 o12 o13 e11 e12 e13
  have hbl := betD_len HVT.out HVU.out
  have HBD := hid (show (betD t u).ins.length ≤ 1000000 ∧ (betD t u).del.length ≤ 4398046511104 ∧ (betD t u).upd.length ≤ 4398046511104 ∧ (∀ r ∈ (betD t u).ins, r.2.length ≤ 4398046511104) ∧ ∀ x ∈ (betD t u).upd, x.2.2.length ≤ 4398046511104 from ⟨by omega, by omega, by omega, fun r hr => by have := hbl.2.2.2.1 r hr; omega, fun x hx => by have := hbl.2.2.2.2 x hx; omega⟩)
  have HSH := hid (show (betD t u).ins.length ≤ 200 ∧ (betD t u).del.length ≤ 200 ∧ (betD t u).upd.length ≤ 200 ∧ (∀ r ∈ (betD t u).ins, r.2.length ≤ 1000) ∧ (∀ r ∈ (betD t u).del, r.2.length ≤ 1000) ∧ ∀ x ∈ (betD t u).upd, x.2.2.length ≤ 1000 from ⟨by omega, by omega, by omega, fun r hr => by have := hbl.2.2.2.1 r hr; omega, fun r hr => by have := HVT.out.len r (List.mem_filter.1 hr).1; omega, fun x hx => by have := hbl.2.2.2.2 x hx; omega⟩)
  clear hbl
  have FA := K8.facts
  simp only [factsL, cellsF, Nat.reduceAdd, zf, zl] at FA
  go_wp2_with fail
  obtain ⟨ga, hga⟩ : ∃ g, g = w8.heap.size := ⟨_, rfl⟩
  rw [← hga] at K8 ⊢
  have HGA := hid hga
  clear hga FA
  generalize World.alloc w8 _ = w9 at K8 ⊢
  obtain ⟨KL, hKL, KN⟩ := K8.name
  have HF : Hid (∀ wv, Hold None_ none w wv KL → (wv.cell? ⟨g3, 0, none⟩ = some (.string tp.nm) ∧ wv.cell? ⟨g3, 1, none⟩ = some (.slice A0 n0 c0) ∧ wv.cell? ⟨g3, 2, none⟩ = some (.int .i64 tp.nx) ∧ wv.cell? ⟨g3, 3, none⟩ = some (.slice B0 m0 d0) ∧ g3 < wv.heap.size) ∧ (wv.cell? ⟨g4, 0, none⟩ = some (.string dq.nm) ∧ wv.cell? ⟨g4, 1, none⟩ = some (.slice I0 ni0 ci0) ∧ wv.cell? ⟨g4, 2, none⟩ = some (.slice D0 nd0 cd0) ∧ wv.cell? ⟨g4, 3, none⟩ = some (.slice U0 nu0 cu0) ∧ g4 < wv.heap.size) ∧ (wv.cell? ⟨g8, 0, none⟩ = some (.string t.nm) ∧ wv.cell? ⟨g8, 1, none⟩ = some (.slice A3 n3 c3) ∧ wv.cell? ⟨g8, 2, none⟩ = some (.int .i64 t.nx) ∧ wv.cell? ⟨g8, 3, none⟩ = some (.slice B m d) ∧ g8 < wv.heap.size) ∧ (wv.cell? ⟨g9, 0, none⟩ = some (.string u.nm) ∧ wv.cell? ⟨g9, 1, none⟩ = some (.slice A5 n5 c5) ∧ wv.cell? ⟨g9, 2, none⟩ = some (.int .i64 u.nx) ∧ wv.cell? ⟨g9, 3, none⟩ = some (.slice B5 m5 d5) ∧ g9 < wv.heap.size) ∧ (wv.cell? ⟨ga, 0, none⟩ = some (.string (betD t u).nm) ∧ wv.cell? ⟨ga, 1, none⟩ = some (.slice I1 ni1 ci1) ∧ wv.cell? ⟨ga, 2, none⟩ = some (.slice D1 nd1 cd1) ∧ wv.cell? ⟨ga, 3, none⟩ = some (.slice U1 nu1 cu1) ∧ ga < wv.heap.size)) := hid fun wv HC => by
    rw [hKL] at HC
    have y0 := HC.cst_ 14 rfl
    have y1 := HC.cst_ 13 rfl
    have y2 := HC.cst_ 7 rfl
    have y3 := HC.cst_ 4 rfl
    have y4 := HC.cst_ 0 rfl
    exact ⟨⟨cell_of_row _ _ 0 _ _ _ y0, cell_of_row _ _ 1 _ _ _ y0, cell_of_row _ _ 2 _ _ _ y0, cell_of_row _ _ 3 _ _ _ y0, Blk.lt y0⟩, ⟨cell_of_row _ _ 0 _ _ _ y1, cell_of_row _ _ 1 _ _ _ y1, cell_of_row _ _ 2 _ _ _ y1, cell_of_row _ _ 3 _ _ _ y1, Blk.lt y1⟩, ⟨cell_of_row _ _ 0 _ _ _ y2, cell_of_row _ _ 1 _ _ _ y2, cell_of_row _ _ 2 _ _ _ y2, cell_of_row _ _ 3 _ _ _ y2, Blk.lt y2⟩, ⟨cell_of_row _ _ 0 _ _ _ y3, cell_of_row _ _ 1 _ _ _ y3, cell_of_row _ _ 2 _ _ _ y3, cell_of_row _ _ 3 _ _ _ y3, Blk.lt y3⟩, ⟨cell_of_row _ _ 0 _ _ _ y4, cell_of_row _ _ 1 _ _ _ y4, cell_of_row _ _ 2 _ _ _ y4, cell_of_row _ _ 3 _ _ _ y4, Blk.lt y4⟩⟩
  have HX : Hid (∀ wv, Hold None_ none w wv KL → TbAt wv (Mut None_ KL) (.agg #[.string tp.nm, .slice A0 n0 c0, .int .i64 tp.nx, .slice B0 m0 d0]) tp ∧ DlAt wv (Mut None_ KL) (.agg #[.string dq.nm, .slice I0 ni0 ci0, .slice D0 nd0 cd0, .slice U0 nu0 cu0]) dq ∧ TbAt wv (Mut None_ KL) (.agg #[.string t.nm, .slice A3 n3 c3, .int .i64 t.nx, .slice B m d]) t ∧ TbAt wv (Mut None_ KL) (.agg #[.string u.nm, .slice A5 n5 c5, .int .i64 u.nx, .slice B5 m5 d5]) u ∧ DlAt wv (Mut None_ KL) (.agg #[.string (betD t u).nm, .slice I1 ni1 ci1, .slice D1 nd1 cd1, .slice U1 nu1 cu1]) (betD t u) ∧ Tp wv T ∧ (∀ b, (Mut None_ KL) b → T ≤ b) ∧ Ro wv (Mut None_ KL) Wds) := hid fun wv HC => by
    rw [hKL] at HC ⊢
    obtain ⟨⟨a01, a02⟩, ⟨a03, a04⟩, a07, a08⟩ := HQ.out
    obtain ⟨q01, q02, q03, o01, o02, o03, e01, e02, e03⟩ := HD0.out
    obtain ⟨q11, q12, q13, o11, o12, o13, e11, e12, e13⟩ := HD1.out
    obtain ⟨h31, h32, h33, h34, h37, h38⟩ := HT3.out
    obtain ⟨h51, h52, h53, h54, h57, h58⟩ := HT5.out
    exact ⟨⟨A0, n0, c0, B0, m0, d0, l0, rfl, a01, a02, a03, a04, HC.ro 15 rfl, HC.ro 16 rfl, a07, a08⟩, ⟨I0, ni0, ci0, D0, nd0, cd0, U0, nu0, cu0, li0, ld0, lu0, rfl, q01, q02, q03, HC.ro 17 rfl, HC.ro 18 rfl, HC.ro 19 rfl, o01, o02, o03, e01, e02, e03⟩, ⟨A3, n3, c3, B, m, d, l, rfl, h31, h32, h33, h34, HC.ro 8 rfl, HC.ro 9 rfl, h37, h38⟩, ⟨A5, n5, c5, B5, m5, d5, l5, rfl, h51, h52, h53, h54, HC.ro 5 rfl, HC.ro 6 rfl, h57, h58⟩, ⟨I1, ni1, ci1, D1, nd1, cd1, U1, nu1, cu1, li1, ld1, lu1, rfl, q11, q12, q13, HC.ro 1 rfl, HC.ro 2 rfl, HC.ro 3 rfl, o11, o12, o13, e11, e12, e13⟩, HC.tp_ 12 rfl, (HC.get 12 rfl).2, HC.ro 11 rfl⟩
  have HKL := hid hKL
  clear hKL K8
  refine wp_region_any (by kernel_rfl) ?_
  refine wpAny_hold 35 74 (KL) (spL [(41, IsV (.bool true)), (45, IsV (.bool true)), (50, IsV (.bool true)), (55, IsV (.bool true)), (61, SomeDlSl (Mut None_ KL)), (62, IsV (.bool true)), (67, SomeTabSl (Mut None_ KL)), (69, IsV (.bool true)), (72, IsV (.bool true))]) (by kernel_rfl) (by kernel_rfl) (by kernel_rfl) rfl ?_ (KN.drew) ?_
  · exact stays_cons isV_mono (stays_cons isV_mono (stays_cons isV_mono (stays_cons isV_mono (stays_cons someDlSl_mono (stays_cons isV_mono (stays_cons someTabSl_mono (stays_cons isV_mono (stays_cons isV_mono (stays_nil _)))))))))
  simp only [zd, Act.put, List.getElem_toArray, List.getElem_cons_zero, List.getElem_cons_succ, zl]
  refine dw_val rfl rfl rfl ?_; apply Exists.intro; refine ⟨fun wv HC => ?_, ?_⟩
  · obtain ⟨⟨f0, f1, f2, f3, f4⟩, ⟨f5, f6, f7, f8, f9⟩, ⟨f10, f11, f12, f13, f14⟩, ⟨f15, f16, f17, f18, f19⟩, ⟨f20, f21, f22, f23, f24⟩⟩ := HF.out _ HC; go_simp <;> rfl
  simp only [Act.put, zl]
  refine dw_val rfl rfl rfl ?_; apply Exists.intro; refine ⟨fun wv HC => ?_, ?_⟩
  · obtain ⟨⟨f0, f1, f2, f3, f4⟩, ⟨f5, f6, f7, f8, f9⟩, ⟨f10, f11, f12, f13, f14⟩, ⟨f15, f16, f17, f18, f19⟩, ⟨f20, f21, f22, f23, f24⟩⟩ := HF.out _ HC; go_simp <;> rfl
  simp only [Act.put, zl]
  refine dw_callR 41 (IsV (.bool true)) (f := 20) (args := #[.agg #[.string tp.nm, .slice A0 n0 c0, .int .i64 tp.nx, .slice B0 m0 d0], .agg #[.string dq.nm, .slice I0 ni0 ci0, .slice D0 nd0 cd0, .slice U0 nu0 cu0]]) rfl rfl rfl rfl (fun wv => ?_) (fun wv HC hrm hD => ?_) ?_
  · go_simp <;> rfl
  · obtain ⟨X0, X1, X2, X3, X4, X5, X6, X7⟩ := HX.out _ HC
    refine (applies8_any _ wv HC.mutLt _ _ _ _ X0 X1 HBP.out.1 HBP.out.2.1 HBP.out.2.2 HBQ.out.1 HBQ.out.2.1 HBQ.out.2.2.1 HBQ.out.2.2.2.1 HBQ.out.2.2.2.2).mono ?_
    rintro e w5 ⟨rfl, b5⟩
    exact ⟨_, rfl, rfl, HC.call b5, RM.below b5⟩
  rintro u_ wx HCx rfl
  clear HCx
  simp only [Act.put, zl]
  refine dw_val rfl rfl rfl ?_; apply Exists.intro; refine ⟨fun wv HC => ?_, ?_⟩
  ·  go_simp <;> rfl
  simp only [Act.put, zl]
  refine dw_val rfl rfl rfl ?_; apply Exists.intro; refine ⟨fun wv HC => ?_, ?_⟩
  · obtain ⟨⟨f0, f1, f2, f3, f4⟩, ⟨f5, f6, f7, f8, f9⟩, ⟨f10, f11, f12, f13, f14⟩, ⟨f15, f16, f17, f18, f19⟩, ⟨f20, f21, f22, f23, f24⟩⟩ := HF.out _ HC; go_simp <;> rfl
  simp only [Act.put, zl]
  refine dw_val rfl rfl rfl ?_; apply Exists.intro; refine ⟨fun wv HC => ?_, ?_⟩
  · obtain ⟨⟨f0, f1, f2, f3, f4⟩, ⟨f5, f6, f7, f8, f9⟩, ⟨f10, f11, f12, f13, f14⟩, ⟨f15, f16, f17, f18, f19⟩, ⟨f20, f21, f22, f23, f24⟩⟩ := HF.out _ HC; go_simp <;> rfl
  simp only [Act.put, zl]
  refine dw_callR 45 (IsV (.bool true)) (f := 20) (args := #[.agg #[.string t.nm, .slice A3 n3 c3, .int .i64 t.nx, .slice B m d], .agg #[.string (betD t u).nm, .slice I1 ni1 ci1, .slice D1 nd1 cd1, .slice U1 nu1 cu1]]) rfl rfl rfl rfl (fun wv => ?_) (fun wv HC hrm hD => ?_) ?_
  · go_simp <;> rfl
  · obtain ⟨X0, X1, X2, X3, X4, X5, X6, X7⟩ := HX.out _ HC
    refine (applies8_any _ wv HC.mutLt _ _ _ _ X2 X4 HBA.out.1 HBA.out.2.1 HBA.out.2.2 HBD.out.1 HBD.out.2.1 HBD.out.2.2.1 HBD.out.2.2.2.1 HBD.out.2.2.2.2).mono ?_
    rintro e w5 ⟨rfl, b5⟩
    exact ⟨_, rfl, rfl, HC.call b5, RM.below b5⟩
  rintro u_ wx HCx rfl
  clear HCx
  simp only [Act.put, zl]
  refine dw_val rfl rfl rfl ?_; apply Exists.intro; refine ⟨fun wv HC => ?_, ?_⟩
  ·  go_simp <;> rfl
  simp only [Act.put, zl]
  refine dw_val rfl rfl rfl ?_; apply Exists.intro; refine ⟨fun wv HC => ?_, ?_⟩
  ·  go_simp <;> rfl
  simp only [Act.put, zl]
  refine dw_val rfl rfl rfl ?_; apply Exists.intro; refine ⟨fun wv HC => ?_, ?_⟩
  · obtain ⟨⟨f0, f1, f2, f3, f4⟩, ⟨f5, f6, f7, f8, f9⟩, ⟨f10, f11, f12, f13, f14⟩, ⟨f15, f16, f17, f18, f19⟩, ⟨f20, f21, f22, f23, f24⟩⟩ := HF.out _ HC; go_simp <;> rfl
  simp only [Act.put, zl]
  refine dw_val rfl rfl rfl ?_; apply Exists.intro; refine ⟨fun wv HC => ?_, ?_⟩
  · obtain ⟨⟨f0, f1, f2, f3, f4⟩, ⟨f5, f6, f7, f8, f9⟩, ⟨f10, f11, f12, f13, f14⟩, ⟨f15, f16, f17, f18, f19⟩, ⟨f20, f21, f22, f23, f24⟩⟩ := HF.out _ HC; go_simp <;> rfl
  simp only [Act.put, zl]
  refine dw_callR 50 (IsV (.bool true)) (f := 20) (args := #[.agg #[.string u.nm, .slice A5 n5 c5, .int .i64 u.nx, .slice B5 m5 d5], .agg #[.string (betD t u).nm, .slice I1 ni1 ci1, .slice D1 nd1 cd1, .slice U1 nu1 cu1]]) rfl rfl rfl rfl (fun wv => ?_) (fun wv HC hrm hD => ?_) ?_
  · go_simp <;> rfl
  · obtain ⟨X0, X1, X2, X3, X4, X5, X6, X7⟩ := HX.out _ HC
    refine (applies8_any _ wv HC.mutLt _ _ _ _ X3 X4 HBB.out.1 HBB.out.2.1 HBB.out.2.2 HBD.out.1 HBD.out.2.1 HBD.out.2.2.1 HBD.out.2.2.2.1 HBD.out.2.2.2.2).mono ?_
    rintro e w5 ⟨rfl, b5⟩
    exact ⟨_, rfl, rfl, HC.call b5, RM.below b5⟩
  rintro u_ wx HCx rfl
  clear HCx
  simp only [Act.put, zl]
  refine dw_val rfl rfl rfl ?_; apply Exists.intro; refine ⟨fun wv HC => ?_, ?_⟩
  ·  go_simp <;> rfl
  simp only [Act.put, zl]
  refine dw_val rfl rfl rfl ?_; apply Exists.intro; refine ⟨fun wv HC => ?_, ?_⟩
  ·  go_simp <;> rfl
  simp only [Act.put, zl]
  refine dw_val rfl rfl rfl ?_; apply Exists.intro; refine ⟨fun wv HC => ?_, ?_⟩
  · obtain ⟨⟨f0, f1, f2, f3, f4⟩, ⟨f5, f6, f7, f8, f9⟩, ⟨f10, f11, f12, f13, f14⟩, ⟨f15, f16, f17, f18, f19⟩, ⟨f20, f21, f22, f23, f24⟩⟩ := HF.out _ HC; go_simp <;> rfl
  simp only [Act.put, zl]
  refine dw_val rfl rfl rfl ?_; apply Exists.intro; refine ⟨fun wv HC => ?_, ?_⟩
  · obtain ⟨⟨f0, f1, f2, f3, f4⟩, ⟨f5, f6, f7, f8, f9⟩, ⟨f10, f11, f12, f13, f14⟩, ⟨f15, f16, f17, f18, f19⟩, ⟨f20, f21, f22, f23, f24⟩⟩ := HF.out _ HC; go_simp <;> rfl
  simp only [Act.put, zl]
  refine dw_callR 55 (IsV (.bool true)) (f := 20) (args := #[.agg #[.string t.nm, .slice A3 n3 c3, .int .i64 t.nx, .slice B m d], .agg #[.string dq.nm, .slice I0 ni0 ci0, .slice D0 nd0 cd0, .slice U0 nu0 cu0]]) rfl rfl rfl rfl (fun wv => ?_) (fun wv HC hrm hD => ?_) ?_
  · go_simp <;> rfl
  · obtain ⟨X0, X1, X2, X3, X4, X5, X6, X7⟩ := HX.out _ HC
    refine (applies8_any _ wv HC.mutLt _ _ _ _ X2 X1 HBA.out.1 HBA.out.2.1 HBA.out.2.2 HBQ.out.1 HBQ.out.2.1 HBQ.out.2.2.1 HBQ.out.2.2.2.1 HBQ.out.2.2.2.2).mono ?_
    rintro e w5 ⟨rfl, b5⟩
    exact ⟨_, rfl, rfl, HC.call b5, RM.below b5⟩
  rintro u_ wx HCx rfl
  clear HCx
  simp only [Act.put, zl]
  refine dw_val rfl rfl rfl ?_; apply Exists.intro; refine ⟨fun wv HC => ?_, ?_⟩
  ·  go_simp <;> rfl
  simp only [Act.put, zl]
  refine dw_val rfl rfl rfl ?_; apply Exists.intro; refine ⟨fun wv HC => ?_, ?_⟩
  ·  go_simp <;> rfl
  simp only [Act.put, zl]
  refine dw_val rfl rfl rfl ?_; apply Exists.intro; refine ⟨fun wv HC => ?_, ?_⟩
  · obtain ⟨⟨f0, f1, f2, f3, f4⟩, ⟨f5, f6, f7, f8, f9⟩, ⟨f10, f11, f12, f13, f14⟩, ⟨f15, f16, f17, f18, f19⟩, ⟨f20, f21, f22, f23, f24⟩⟩ := HF.out _ HC; go_simp <;> rfl
  simp only [Act.put, zl]
  refine dw_val rfl rfl rfl ?_; apply Exists.intro; refine ⟨fun wv HC => ?_, ?_⟩
  ·  go_simp <;> rfl
  simp only [Act.put, zl]
  refine dw_val rfl rfl rfl ?_; apply Exists.intro; refine ⟨fun wv HC => ?_, ?_⟩
  · obtain ⟨⟨f0, f1, f2, f3, f4⟩, ⟨f5, f6, f7, f8, f9⟩, ⟨f10, f11, f12, f13, f14⟩, ⟨f15, f16, f17, f18, f19⟩, ⟨f20, f21, f22, f23, f24⟩⟩ := HF.out _ HC; go_simp <;> rfl
  simp only [Act.put, zl]
  refine dw_callR 61 (SomeDlSl (Mut None_ KL)) (f := 21) (args := #[.pointer (some ⟨T, 0, none⟩), .agg #[.string (betD t u).nm, .slice I1 ni1 ci1, .slice D1 nd1 cd1, .slice U1 nu1 cu1]]) rfl rfl rfl rfl (fun wv => ?_) (fun wv HC hrm hD => ?_) ?_
  · go_simp <;> rfl
  · obtain ⟨X0, X1, X2, X3, X4, X5, X6, X7⟩ := HX.out _ HC
    refine (dspoil_any (Mut None_ KL) T wv HC.mutLt X5 X6 _ _ (dlAt_less X4 (mut_tp (i := 12) (by rw [HKL.out]; rfl))) HSH.out.1 HSH.out.2.1 HSH.out.2.2.1 HSH.out.2.2.2.1 HSH.out.2.2.2.2.1 HSH.out.2.2.2.2.2).mono ?_
    rintro e w5 ⟨v5, d5', rfl, hc5, hb5, hb6, hb7, t5, g5'⟩
    exact ⟨_, rfl, ⟨d5', hc5, hb5, hb6, hb7⟩, Hold.callT HC 12 (by rw [HKL.out]; rfl) g5' t5, RM.grown g5' (.inr ⟨_, List.mem_of_getElem? (i := 12) (by rw [HKL.out]; rfl), rfl⟩)⟩
  rintro s61 wx HCx hs61
  clear HCx hs61
  simp only [Act.put, zl]
  refine dw_callR 62 (IsV (.bool true)) (f := 20) (args := #[.agg #[.string t.nm, .slice A3 n3 c3, .int .i64 t.nx, .slice B m d], s61]) rfl rfl rfl rfl (fun wv => ?_) (fun wv HC hrm hD => ?_) ?_
  · go_simp <;> rfl
  · obtain ⟨X0, X1, X2, X3, X4, X5, X6, X7⟩ := HX.out _ HC
    have hsl : SomeDlSl (Mut None_ KL) s61 wv := deps_at hD 22 rfl (by kernel_rfl) rfl rfl
    obtain ⟨d5, h5, hb5, hb6, hb7⟩ := hsl
    refine (applies8_any _ wv HC.mutLt _ _ _ _ X2 h5 HBA.out.1 HBA.out.2.1 HBA.out.2.2 (by omega) (by omega) (by omega) (fun r hr => by have := hb6 r hr; omega) (fun r hr => by have := hb7 r hr; omega)).mono ?_
    rintro e w5 ⟨rfl, b5⟩
    exact ⟨_, rfl, rfl, HC.call b5, RM.below b5⟩
  rintro u_ wx HCx rfl
  clear HCx
  simp only [Act.put, zl]
  refine dw_val rfl rfl rfl ?_; apply Exists.intro; refine ⟨fun wv HC => ?_, ?_⟩
  ·  go_simp <;> rfl
  simp only [Act.put, zl]
  refine dw_val rfl rfl rfl ?_; apply Exists.intro; refine ⟨fun wv HC => ?_, ?_⟩
  ·  go_simp <;> rfl
  simp only [Act.put, zl]
  refine dw_val rfl rfl rfl ?_; apply Exists.intro; refine ⟨fun wv HC => ?_, ?_⟩
  ·  go_simp <;> rfl
  simp only [Act.put, zl]
  refine dw_val rfl rfl rfl ?_; apply Exists.intro; refine ⟨fun wv HC => ?_, ?_⟩
  · obtain ⟨⟨f0, f1, f2, f3, f4⟩, ⟨f5, f6, f7, f8, f9⟩, ⟨f10, f11, f12, f13, f14⟩, ⟨f15, f16, f17, f18, f19⟩, ⟨f20, f21, f22, f23, f24⟩⟩ := HF.out _ HC; go_simp <;> rfl
  simp only [Act.put, zl]
  refine dw_callR 67 (SomeTabSl (Mut None_ KL)) (f := 18) (args := #[.pointer (some ⟨T, 0, none⟩), .agg #[.string t.nm, .slice A3 n3 c3, .int .i64 t.nx, .slice B m d]]) rfl rfl rfl rfl (fun wv => ?_) (fun wv HC hrm hD => ?_) ?_
  · go_simp <;> rfl
  · obtain ⟨X0, X1, X2, X3, X4, X5, X6, X7⟩ := HX.out _ HC
    refine (tspoil_slot (Mut None_ KL) T wv HC.mutLt X5 X6 _ _ (tbAt_less X2 (mut_tp (i := 12) (by rw [HKL.out]; rfl))) HVT.out (X7.less (mut_tp (i := 12) (by rw [HKL.out]; rfl))) hT1).mono ?_
    rintro e w5 ⟨v5, t5', rfl, hc5, hb5, t5, g5'⟩
    exact ⟨_, rfl, ⟨t5', hc5, hb5⟩, Hold.callT HC 12 (by rw [HKL.out]; rfl) g5' t5, RM.grown g5' (.inr ⟨_, List.mem_of_getElem? (i := 12) (by rw [HKL.out]; rfl), rfl⟩)⟩
  rintro s67 wx HCx hs67
  clear HCx hs67
  simp only [Act.put, zl]
  refine dw_val rfl rfl rfl ?_; apply Exists.intro; refine ⟨fun wv HC => ?_, ?_⟩
  · obtain ⟨⟨f0, f1, f2, f3, f4⟩, ⟨f5, f6, f7, f8, f9⟩, ⟨f10, f11, f12, f13, f14⟩, ⟨f15, f16, f17, f18, f19⟩, ⟨f20, f21, f22, f23, f24⟩⟩ := HF.out _ HC; go_simp <;> rfl
  simp only [Act.put, zl]
  refine dw_callR 69 (IsV (.bool true)) (f := 20) (args := #[s67, .agg #[.string (betD t u).nm, .slice I1 ni1 ci1, .slice D1 nd1 cd1, .slice U1 nu1 cu1]]) rfl rfl rfl rfl (fun wv => ?_) (fun wv HC hrm hD => ?_) ?_
  · go_simp <;> rfl
  · obtain ⟨X0, X1, X2, X3, X4, X5, X6, X7⟩ := HX.out _ HC
    have hsl : SomeTabSl (Mut None_ KL) s67 wv := deps_at hD 28 rfl (by kernel_rfl) rfl rfl
    obtain ⟨t5, h5, hb1, hb2, hb3, hb4, hb5⟩ := hsl
    refine (applies8_any _ wv HC.mutLt _ _ _ _ h5 X4 hb1 hb2 (by omega) HBD.out.1 HBD.out.2.1 HBD.out.2.2.1 HBD.out.2.2.2.1 HBD.out.2.2.2.2).mono ?_
    rintro e w5 ⟨rfl, b5⟩
    exact ⟨_, rfl, rfl, HC.call b5, RM.below b5⟩
  rintro u_ wx HCx rfl
  clear HCx
  simp only [Act.put, zl]
  refine dw_val rfl rfl rfl ?_; apply Exists.intro; refine ⟨fun wv HC => ?_, ?_⟩
  ·  go_simp <;> rfl
  simp only [Act.put, zl]
  refine dw_val rfl rfl rfl ?_; apply Exists.intro; refine ⟨fun wv HC => ?_, ?_⟩
  ·  go_simp <;> rfl
  simp only [Act.put, zl]
  refine dw_callR 72 (IsV (.bool true)) (f := 11) (args := #[]) rfl rfl rfl rfl (fun wv => ?_) (fun wv HC hrm hD => ?_) ?_
  · go_simp <;> rfl
  · refine (known8 _).mono ?_
    rintro e w5 ⟨rfl, b5⟩
    exact ⟨_, rfl, rfl, HC.call b5, RM.below b5⟩
  rintro u_ wx HCx rfl
  clear HCx
  simp only [Act.put, zl]
  refine dw_val rfl rfl rfl ?_; apply Exists.intro; refine ⟨fun wv HC => ?_, ?_⟩
  ·  go_simp <;> rfl
  simp only [Act.put, zl]
  refine rel_nil ?_
  rintro wx9 HX9
  rintro _hrm _HG
  clear _hrm _HG
  go_wp2_with fail
  go_ret
  exact ⟨by first | rfl | simp, HX9.below⟩
end Go.Proofs.YtjpgbhakkfgecaaDoor

namespace Go.Proofs.YtjpgbhakkfgecaaDoor
open Go.ChangeShapes Go.WideShapes Go.ChangeAt Go.RowKit
set_option linter.unusedVariables false
set_option linter.unusedSimpArgs false

namespace LawDeltaApplies
set_option maxRecDepth 100000 in
theorem contract (H : Type) (enc : TypeId × Value → H) (W : World) (base : Nat) (args : Array Value) (ds gs : List (DataW H)) (before : List MemPlace)
    (hval0 : ∀ (j : Nat) t v, Tryd.f4.params[j]? = some t → args[j]? = some v → Value.okWide Tryd.prog W .any base t v)
    (hsz0 : (DataW.weightsEach Tryd.prog (Tryd.f4.params.toList ++ Rows.deltaAppliesSpec.plain.varTypes Tryd.prog) (ds ++ gs)).all (· ≤ reachBytes) = true)
    (hW : DataW.Whole enc Tryd.prog Tryd.f4.params.toList Rows.deltaAppliesSpec.vars false W args.toList ds gs before) (hL : laidMetH Tryd.prog Rows.deltaAppliesRow.laid W) (hsh : W.ShapedOpen Tryd.prog) :
    Calls Tryd.prog 4 args W fun e W' => ∃ v, e = .returned v ∧ Rows.deltaAppliesSpec.post enc Tryd.prog Tryd.f4 false true false false W args v W' := by
  have hsz : (DataW.weightsEach Tryd.prog (Tryd.f4.params.toList ++ Rows.deltaAppliesSpec.plain.varTypes Tryd.prog) (ds ++ gs)).all (· ≤ reachBytes) = true := hsz0
  have hval : ∀ (j : Nat) t v, Tryd.f4.params[j]? = some t → args[j]? = some v → Value.okWide Tryd.prog W .any base t v := hval0
  have hW' := hW
  obtain ⟨p, q, hA0, hV, rfl, hfz, hnd⟩ := hW
  have hA : DataW.TrodAll enc Tryd.prog W 0 (fun _ => true) true Tryd.f4.params.toList args.toList ds p := hA0
  rw [Tryd.params4] at hA hval hsz
  obtain ⟨v0, vs0, d0, ds0, p0, q0, hargs, rfl, rfl, h0, r0⟩ := trodAll_cons hA
  obtain ⟨v1, vs1, d1, ds1, p1, q1, rfl, rfl, rfl, h1, r1⟩ := trodAll_cons r0
  obtain ⟨v2, vs2, d2, ds2, p2, q2, rfl, rfl, rfl, h2, r2⟩ := trodAll_cons r1
  obtain ⟨rfl, rfl, rfl⟩ := trodAll_nil r2
  obtain rfl : args = #[v0, v1, v2] := by cases args; simp_all
  obtain ⟨rfl, rfl⟩ := trodVars_none hV
  obtain ⟨tb0, ok0, rfl⟩ := opens_tb.agg Tryd.underlying27 (hval 0 27 v0 rfl rfl) h0 (sz_arg hsz (j := 0) rfl rfl)
  obtain ⟨tb1, ok1, rfl⟩ := opens_dl.agg Tryd.underlying41 (hval 1 41 v1 rfl rfl) h1 (sz_arg hsz (j := 1) rfl rfl)
  obtain ⟨A2, n2, c2, zs2, rfl, k2, z2, l2, m2, e2⟩ := open_i64s Tryd.underlying28 Tryd.underlying3 (by kernel_rfl) (hval 2 28 v2 rfl rfl) h2
  refine (daforms_walk _ _ _ _ A2 n2 c2 zs2 W (tbAt_arg ok0 fun _ _ h => h) (dlAt_arg ok1 fun _ _ h => h) ok0.nm (tbArg_cs ok0) (dlArg_nd ok1) (dlArg_nu ok1) (dlArg_ins ok1) (dlArg_upd ok1) k2 z2 l2 (by unfold maxLen at m2; omega) (wds_of_laid (rest := []) hL)).mono fun e W' ⟨he, hb⟩ => ?_
  exact ⟨_, he, law_post rfl laidOut (by kernel_rfl) (by kernel_rfl) Tryd.underlying4 rfl hW' hb⟩

theorem laid_met (os : Os) : laidMet Tryd.prog Rows.deltaAppliesRow.laid ((wordsWorld os).forCall (fun _ _ => 0) ⟨#[], #[.agg #[.string ⟨#[]⟩, .slice none 0 0, .int .i64 0, .slice none 0 0], .agg #[.string ⟨#[]⟩, .slice none 0 0, .slice none 0 0, .slice none 0 0], .slice none 0 0], []⟩).memory :=
  laidMet_of_run' 16 (by kernel_rfl) (by kernel_rfl)
theorem reads (os : Os) {H : Type} (enc : TypeId × Value → H) : ∃ places, DataW.whole enc Tryd.prog ((wordsWorld os).forCall (fun _ _ => 0) ⟨#[], #[.agg #[.string ⟨#[]⟩, .slice none 0 0, .int .i64 0, .slice none 0 0], .agg #[.string ⟨#[]⟩, .slice none 0 0, .slice none 0 0, .slice none 0 0], .slice none 0 0], []⟩).memory Tryd.f4.params.toList Rows.deltaAppliesSpec.vars false #[.agg #[.string ⟨#[]⟩, .slice none 0 0, .int .i64 0, .slice none 0 0], .agg #[.string ⟨#[]⟩, .slice none 0 0, .slice none 0 0, .slice none 0 0], .slice none 0 0].toList 8 = some ([.agg [.agg [.lit (.string []), .nil], .lit (.int .i64 0), .nil], .agg [.lit (.string []), .nil, .nil, .nil], .nil], [], places) :=
  ⟨[], by kernel_rfl⟩

set_option maxRecDepth 100000 in
theorem lifted (os : Os) (started : os.Started) (H : Type) (enc : TypeId × Value → H) (F : Stop.Interp) :
    ReturnsInHanded {} Tryd.checked os 4 .any ((OpenSpec.ofChange Rows.deltaAppliesSpec).preRow enc Tryd.prog Tryd.f4 Rows.deltaAppliesRow.domain false Rows.deltaAppliesRow.laid) (((OpenSpec.ofChange Rows.deltaAppliesSpec).at F).post enc Tryd.prog Tryd.f4 false true false false) := by
  obtain ⟨places, hx⟩ := reads os enc
  refine returnsInHanded_of_row (C := Tryd.checked) (s := OpenSpec.ofChange Rows.deltaAppliesSpec) own started (by kernel_rfl) Tryd.func4
    (witness_row_at (enc := enc) (C := Tryd.checked) false (wordsWorld os) #[.agg #[.string ⟨#[]⟩, .slice none 0 0, .int .i64 0, .slice none 0 0], .agg #[.string ⟨#[]⟩, .slice none 0 0, .slice none 0 0, .slice none 0 0], .slice none 0 0] rfl (by kernel_rfl) (by kernel_rfl) (by kernel_rfl)
      (OpenSpec.preRow_of_cond 8 hx (by kernel_rfl) (fun k hk => by cases hk) (by kernel_rfl) (laid_met os))) ?_
  intro W base args ds gs before hval hW _ _ hsz0 hL hsh _
  exact contract H enc W base args ds gs before hval hsz0 hW hL hsh

theorem said : Rows.DeltaAppliesSaid :=
  OpenClaim.holds_of_cond 4 Tryd.f4 rfl rfl rfl rfl rfl rfl rfl ⟨rfl, rfl, rfl, rfl, rfl⟩ rfl rfl rfl rfl rfl (by kernel_rfl) Tryd.func4 (by kernel_rfl)
    (of_decide_eq_true (by kernel_rfl)) (by unfold Func.isWrapper; first | (rw [if_pos (by decide +kernel)]; kernel_rfl) | (rw [if_neg (by decide +kernel)]; exact ⟨rfl, rfl⟩))
    (fun os started H enc _ F => by rw [OpenClaim.pre_eq_preRow]; exact lifted os started H enc F)

theorem plain (f : FuncId) (fn : Func) (hf : Tryd.pinned.checked.prog.funcNamed "triggerstore/triggerstorelaw8.DeltaApplies" = some f) (hfn : Tryd.pinned.checked.prog.funcs[f]? = some fn) :
    false = Tryd.pinned.checked.prog.looks [] ∧ ∀ (j : Nat) t, fn.params[j]? = some t → Tryd.pinned.checked.prog.wantsStandIn t = false := by
  obtain rfl : f = 4 := Option.some.inj ((show Tryd.prog.funcNamed "triggerstore/triggerstorelaw8.DeltaApplies" = some 4 by kernel_rfl).symm.trans hf) |>.symm
  obtain rfl : fn = Tryd.f4 := (Option.some.inj (Tryd.func4.symm.trans hfn)).symm
  refine ⟨by kernel_rfl, fun j t ht => ?_⟩
  rw [Tryd.params4] at ht
  have hm := Array.mem_of_getElem? ht
  simp only [List.mem_toArray, List.mem_cons, List.not_mem_nil, or_false] at hm
  rcases hm with rfl | rfl | rfl
  · exact (show Tryd.prog.wantsStandIn 27 = false by kernel_rfl)
  · exact (show Tryd.prog.wantsStandIn 41 = false by kernel_rfl)
  · exact (show Tryd.prog.wantsStandIn 28 = false by kernel_rfl)
end LawDeltaApplies

theorem deltaApplies_holds : Rows.DeltaAppliesCardSaid :=
  Claim7.holds_tied_plain_at .later [] _ _ _ _ LawDeltaApplies.said (fun _ h => by cases h) (by kernel_rfl) (fun _ h => by cases h) deltaApplies_row_tie rfl ⟨rfl, rfl⟩ (by kernel_rfl) rfl LawDeltaApplies.plain (by kernel_rfl)
#print axioms deltaApplies_holds
end Go.Proofs.YtjpgbhakkfgecaaDoor

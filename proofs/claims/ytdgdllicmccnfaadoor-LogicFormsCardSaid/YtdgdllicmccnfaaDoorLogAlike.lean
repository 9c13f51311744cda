/- law2.alike answers true where the program's logic and the reference's give the same. -/
import Derived.Test.YtdgdllicmccnfaaDoorHold
import Derived.Test.YtdgdllicmccnfaaDoorLogTv
namespace Go.Proofs.YtdgdllicmccnfaaDoor
open Go.RowKit
set_option linter.unusedVariables false
set_option linter.unusedSimpArgs false

theorem fifteen {w : World} {a b c d e : Nat} {t : TypeId} {x0 x1 x2 y0 y1 y2 z0 z1 z2 u0 u1 u2 v0 v1 v2 : Value} (ha : Blk w a t #[x0, x1, x2]) (hb : Blk w b t #[y0, y1, y2]) (hc : Blk w c t #[z0, z1, z2]) (hd : Blk w d t #[u0, u1, u2]) (he : Blk w e t #[v0, v1, v2]) :
    w.cell? ⟨a, 0, none⟩ = some x0 ∧ w.cell? ⟨a, 1, none⟩ = some x1 ∧ w.cell? ⟨a, 2, none⟩ = some x2 ∧ w.cell? ⟨b, 0, none⟩ = some y0 ∧ w.cell? ⟨b, 1, none⟩ = some y1 ∧ w.cell? ⟨b, 2, none⟩ = some y2 ∧ w.cell? ⟨c, 0, none⟩ = some z0 ∧ w.cell? ⟨c, 1, none⟩ = some z1 ∧ w.cell? ⟨c, 2, none⟩ = some z2 ∧
    w.cell? ⟨d, 0, none⟩ = some u0 ∧ w.cell? ⟨d, 1, none⟩ = some u1 ∧ w.cell? ⟨d, 2, none⟩ = some u2 ∧ w.cell? ⟨e, 0, none⟩ = some v0 ∧ w.cell? ⟨e, 1, none⟩ = some v1 ∧ w.cell? ⟨e, 2, none⟩ = some v2 :=
  ⟨ha.cell 0, ha.cell 1, ha.cell 2, hb.cell 0, hb.cell 1, hb.cell 2, hc.cell 0, hc.cell 1, hc.cell 2, hd.cell 0, hd.cell 1, hd.cell 2, he.cell 0, he.cell 1, he.cell 2⟩

set_option maxHeartbeats 8000000 in
theorem alike_core (ka ia kb ib kn in0 kc ic ke ie kq iq kl il : Int) (sa sb sn sc se sq sl : ByteArray) (jn jc je jq jl v t : Bool)
    (h1 : Gives 49 #[.agg #[.int .i64 ka, .int .i64 ia, .string sa]] (.tuple #[.agg #[.int .i64 kn, .int .i64 in0, .string sn], .bool jn]))
    (h2 : Gives 50 #[.agg #[.int .i64 ka, .int .i64 ia, .string sa]] (.tuple #[.agg #[.int .i64 kn, .int .i64 in0, .string sn], .bool jn]))
    (h3 : Gives 47 #[.agg #[.int .i64 ka, .int .i64 ia, .string sa], .agg #[.int .i64 kb, .int .i64 ib, .string sb]] (.tuple #[.agg #[.int .i64 kc, .int .i64 ic, .string sc], .bool jc]))
    (h4 : Gives 51 #[.agg #[.int .i64 ka, .int .i64 ia, .string sa], .agg #[.int .i64 kb, .int .i64 ib, .string sb]] (.tuple #[.agg #[.int .i64 kc, .int .i64 ic, .string sc], .bool jc]))
    (h5 : Gives 52 #[.agg #[.int .i64 ka, .int .i64 ia, .string sa], .agg #[.int .i64 kb, .int .i64 ib, .string sb]] (.tuple #[.agg #[.int .i64 ke, .int .i64 ie, .string se], .bool je]))
    (h6 : Gives 53 #[.agg #[.int .i64 ka, .int .i64 ia, .string sa], .agg #[.int .i64 kb, .int .i64 ib, .string sb]] (.tuple #[.agg #[.int .i64 ke, .int .i64 ie, .string se], .bool je]))
    (h7 : Gives 26 #[.agg #[.int .i64 ka, .int .i64 ia, .string sa], .agg #[.int .i64 kb, .int .i64 ib, .string sb]] (.tuple #[.agg #[.int .i64 kq, .int .i64 iq, .string sq], .bool jq]))
    (h8 : Gives 54 #[.agg #[.int .i64 ka, .int .i64 ia, .string sa], .agg #[.int .i64 kb, .int .i64 ib, .string sb]] (.tuple #[.agg #[.int .i64 kq, .int .i64 iq, .string sq], .bool jq]))
    (h9 : Gives 27 #[.agg #[.int .i64 ka, .int .i64 ia, .string sa], .agg #[.int .i64 kb, .int .i64 ib, .string sb]] (.tuple #[.agg #[.int .i64 kl, .int .i64 il, .string sl], .bool jl]))
    (h10 : Gives 55 #[.agg #[.int .i64 ka, .int .i64 ia, .string sa], .agg #[.int .i64 kb, .int .i64 ib, .string sb]] (.tuple #[.agg #[.int .i64 kl, .int .i64 il, .string sl], .bool jl]))
    (h11 : Gives 56 #[.agg #[.int .i64 ka, .int .i64 ia, .string sa]] (.bool v))
    (h12 : Gives 57 #[.agg #[.int .i64 ka, .int .i64 ia, .string sa]] (.bool v))
    (h13 : Gives 48 #[.agg #[.int .i64 ka, .int .i64 ia, .string sa]] (.bool t))
    (h14 : Gives 58 #[.agg #[.int .i64 ka, .int .i64 ia, .string sa]] (.bool t))
    : Gives 32 #[.agg #[.int .i64 ka, .int .i64 ia, .string sa], .agg #[.int .i64 kb, .int .i64 ib, .string sb]] (.bool true) := by
  intro w
  have H1 := hid h1
  have H2 := hid h2
  have H3 := hid h3
  have H4 := hid h4
  have H5 := hid h5
  have H6 := hid h6
  have H7 := hid h7
  have H8 := hid h8
  have H9 := hid h9
  have H10 := hid h10
  have H11 := hid h11
  have H12 := hid h12
  have H13 := hid h13
  have H14 := hid h14
  clear h1 h2 h3 h4 h5 h6 h7 h8 h9 h10 h11 h12 h13 h14
  have K0 := Hold.begin_ w
  go_enter Tryd.func32, Tryd.ntmps32
  go_wp2_with fail
  refine (H1.out _).mono ?_
  rintro e w1 ⟨rfl, b1⟩
  have K1 := Hold.call ((K0.alloc _ _).alloc _ _) b1
  clear b1
  try simp only [World.size_alloc] at K1
  have F1 := K1.facts
  simp only [World.size_alloc, factsL, cellsF, List.toList_toArray, List.set_cons_zero, List.set_cons_succ, List.setIfInBounds_toArray, and_true, true_and] at F1
  go_wp2_with fail
  refine (H2.out _).mono ?_
  rintro e w2 ⟨rfl, b2⟩
  have K2 := Hold.call (K1.alloc _ _) b2
  clear b2
  try simp only [World.size_alloc] at K2
  clear F1
  have F2 := K2.facts
  simp only [World.size_alloc, factsL, cellsF, List.toList_toArray, List.set_cons_zero, List.set_cons_succ, List.setIfInBounds_toArray, and_true, true_and] at F2
  go_wp2_with fail
  refine (H3.out _).mono ?_
  rintro e w3 ⟨rfl, b3⟩
  have K3 := Hold.call (K2.alloc _ _) b3
  clear b3
  try simp only [World.size_alloc] at K3
  clear F2
  have F3 := K3.facts
  simp only [World.size_alloc, factsL, cellsF, List.toList_toArray, List.set_cons_zero, List.set_cons_succ, List.setIfInBounds_toArray, and_true, true_and] at F3
  go_wp2_with fail
  refine (H4.out _).mono ?_
  rintro e w4 ⟨rfl, b4⟩
  have K4 := Hold.call (K3.alloc _ _) b4
  clear b4
  try simp only [World.size_alloc] at K4
  clear F3
  have F4 := K4.facts
  simp only [World.size_alloc, factsL, cellsF, List.toList_toArray, List.set_cons_zero, List.set_cons_succ, List.setIfInBounds_toArray, and_true, true_and] at F4
  go_wp2_with fail
  refine (H5.out _).mono ?_
  rintro e w5 ⟨rfl, b5⟩
  have K5 := Hold.call (K4.alloc _ _) b5
  clear b5
  try simp only [World.size_alloc] at K5
  clear F4
  have F5 := K5.facts
  simp only [World.size_alloc, factsL, cellsF, List.toList_toArray, List.set_cons_zero, List.set_cons_succ, List.setIfInBounds_toArray, and_true, true_and] at F5
  go_wp2_with fail
  refine (H6.out _).mono ?_
  rintro e w6 ⟨rfl, b6⟩
  have K6 := Hold.call (K5.alloc _ _) b6
  clear b6
  try simp only [World.size_alloc] at K6
  clear F5
  have F6 := K6.facts
  simp only [World.size_alloc, factsL, cellsF, List.toList_toArray, List.set_cons_zero, List.set_cons_succ, List.setIfInBounds_toArray, and_true, true_and] at F6
  go_wp2_with fail
  refine (H7.out _).mono ?_
  rintro e w7 ⟨rfl, b7⟩
  have K7 := Hold.call (K6.alloc _ _) b7
  clear b7
  try simp only [World.size_alloc] at K7
  clear F6
  have F7 := K7.facts
  simp only [World.size_alloc, factsL, cellsF, List.toList_toArray, List.set_cons_zero, List.set_cons_succ, List.setIfInBounds_toArray, and_true, true_and] at F7
  have N7 := K7.nes
  simp only [World.size_alloc, nesL, neF, List.set_cons_zero, List.set_cons_succ, and_true, true_and] at N7
  go_wp2_with fail
  refine (H8.out _).mono ?_
  rintro e w8 ⟨rfl, b8⟩
  have K8 := Hold.call (((K7.store 3 rfl 0 _).store 3 rfl 1 _).store 3 rfl 2 _) b8
  clear b8
  try simp only [World.size_alloc] at K8
  clear F7
  have F8 := K8.facts
  simp only [World.size_alloc, factsL, cellsF, List.toList_toArray, List.set_cons_zero, List.set_cons_succ, List.setIfInBounds_toArray, and_true, true_and] at F8
  go_wp2_with fail
  refine (H9.out _).mono ?_
  rintro e w9 ⟨rfl, b9⟩
  have K9 := Hold.call (((K8.store 2 rfl 0 _).store 2 rfl 1 _).store 2 rfl 2 _) b9
  clear b9
  try simp only [World.size_alloc] at K9
  clear F8
  have F9 := K9.facts
  simp only [World.size_alloc, factsL, cellsF, List.toList_toArray, List.set_cons_zero, List.set_cons_succ, List.setIfInBounds_toArray, and_true, true_and] at F9
  go_wp2_with fail
  refine (H10.out _).mono ?_
  rintro e w10 ⟨rfl, b10⟩
  have K10 := Hold.call (((K9.store 1 rfl 0 _).store 1 rfl 1 _).store 1 rfl 2 _) b10
  clear b10
  try simp only [World.size_alloc] at K10
  clear F9
  have F10 := K10.facts
  simp only [World.size_alloc, factsL, cellsF, List.toList_toArray, List.set_cons_zero, List.set_cons_succ, List.setIfInBounds_toArray, and_true, true_and] at F10
  have KR := ((K10.store 0 rfl 0 (.int .i64 kl)).store 0 rfl 1 (.int .i64 il)).store 0 rfl 2 (.string sl)
  have HS := hid (fifteen (KR.get 3 rfl) (KR.get 2 rfl) (KR.get 1 rfl) (KR.get 0 rfl) (KR.get 7 rfl))
  go_wp2_with fail
  go_region_held3 (fun w' => w'.cell? ⟨w3.heap.size, 0, none⟩ = some (.int .i64 kq) ∧ w'.cell? ⟨w3.heap.size, 1, none⟩ = some (.int .i64 iq) ∧ w'.cell? ⟨w3.heap.size, 2, none⟩ = some (.string sq) ∧ w'.cell? ⟨w4.heap.size, 0, none⟩ = some (.int .i64 kq) ∧ w'.cell? ⟨w4.heap.size, 1, none⟩ = some (.int .i64 iq) ∧ w'.cell? ⟨w4.heap.size, 2, none⟩ = some (.string sq) ∧ w'.cell? ⟨w5.heap.size, 0, none⟩ = some (.int .i64 kl) ∧ w'.cell? ⟨w5.heap.size, 1, none⟩ = some (.int .i64 il) ∧ w'.cell? ⟨w5.heap.size, 2, none⟩ = some (.string sl) ∧ w'.cell? ⟨w6.heap.size, 0, none⟩ = some (.int .i64 kl) ∧ w'.cell? ⟨w6.heap.size, 1, none⟩ = some (.int .i64 il) ∧ w'.cell? ⟨w6.heap.size, 2, none⟩ = some (.string sl) ∧ w'.cell? ⟨w.heap.size, 0, none⟩ = some (.int .i64 ka) ∧ w'.cell? ⟨w.heap.size, 1, none⟩ = some (.int .i64 ia) ∧ w'.cell? ⟨w.heap.size, 2, none⟩ = some (.string sa))
    (first | exact fifteen (KR.get 3 rfl) (KR.get 2 rfl) (KR.get 1 rfl) (KR.get 0 rfl) (KR.get 7 rfl) | exact fifteen (K11.get 3 rfl) (K11.get 2 rfl) (K11.get 1 rfl) (K11.get 0 rfl) (K11.get 7 rfl) | exact fifteen (K12.get 3 rfl) (K12.get 2 rfl) (K12.get 1 rfl) (K12.get 0 rfl) (K12.get 7 rfl) | exact fifteen (K13.get 3 rfl) (K13.get 2 rfl) (K13.get 1 rfl) (K13.get 0 rfl) (K13.get 7 rfl) | exact fifteen (K14.get 3 rfl) (K14.get 2 rfl) (K14.get 1 rfl) (K14.get 0 rfl) (K14.get 7 rfl))
    (first
      | (go_at_call 56; refine (H11.out _).mono ?_; rintro e w11 ⟨rfl, b11⟩; have K11 := Hold.call KR.drew b11)
      | (go_at_call 57; refine (H12.out _).mono ?_; rintro e w12 ⟨rfl, b12⟩; have K12 := Hold.call K11 b12)
      | (go_at_call 48; refine (H13.out _).mono ?_; rintro e w13 ⟨rfl, b13⟩; have K13 := Hold.call K12 b13)
      | (go_at_call 58; refine (H14.out _).mono ?_; rintro e w14 ⟨rfl, b14⟩; have K14 := Hold.call K13 b14))
  go_wp2_with fail
  go_ret
  exact ⟨by simp, K14.below⟩
end Go.Proofs.YtdgdllicmccnfaaDoor

/- LogicLaws answers true for every three numbers: order and grouping do not matter, And and Or are dual, and And distributes over Or. No condition. -/
import Derived.Test.YtdgdllicmccnfaaLawBase
import Derived.Test.YtdgdllicmccnfaaLogic2
import Derived.Test.YtdgdllicmccnfaaBoxes
import Derived.Test.YtdgdllicmccnfaaTape
namespace Go.Proofs.Ytdgdllicmccnfaa
open Go.ChangeShapes Go.WideShapes Go.ChangeAt Go.RowKit
set_option linter.unusedVariables false

set_option maxHeartbeats 4000000 in
theorem laws_core (ni nj nk : Int) (ka ia kb ib kc ic kab iab kbc ibc kx ix kna ina knb inb kor ior kboc iboc kleft ileft kac iac : Int) (sa sb sc sab sbc sx sna snb sor sboc sleft sac : ByteArray)
    (t0 : Gives 20 #[.int .i64 ni] (.agg #[.int .i64 ka, .int .i64 ia, .string sa]))
    (t1 : Gives 20 #[.int .i64 nj] (.agg #[.int .i64 kb, .int .i64 ib, .string sb]))
    (t2 : Gives 20 #[.int .i64 nk] (.agg #[.int .i64 kc, .int .i64 ic, .string sc]))
    (h10 : Gives 21 #[.agg #[.int .i64 ka, .int .i64 ia, .string sa], .agg #[.int .i64 kb, .int .i64 ib, .string sb]] (.tuple #[.agg #[.int .i64 kab, .int .i64 iab, .string sab], .bool true]))
    (h12 : Gives 21 #[.agg #[.int .i64 kb, .int .i64 ib, .string sb], .agg #[.int .i64 ka, .int .i64 ia, .string sa]] (.tuple #[.agg #[.int .i64 kab, .int .i64 iab, .string sab], .bool true]))
    (h14 : Gives 21 #[.agg #[.int .i64 kb, .int .i64 ib, .string sb], .agg #[.int .i64 kc, .int .i64 ic, .string sc]] (.tuple #[.agg #[.int .i64 kbc, .int .i64 ibc, .string sbc], .bool true]))
    (h16 : Gives 21 #[.agg #[.int .i64 kab, .int .i64 iab, .string sab], .agg #[.int .i64 kc, .int .i64 ic, .string sc]] (.tuple #[.agg #[.int .i64 kx, .int .i64 ix, .string sx], .bool true]))
    (h18 : Gives 21 #[.agg #[.int .i64 ka, .int .i64 ia, .string sa], .agg #[.int .i64 kbc, .int .i64 ibc, .string sbc]] (.tuple #[.agg #[.int .i64 kx, .int .i64 ix, .string sx], .bool true]))
    (h20 : Gives 22 #[.agg #[.int .i64 ka, .int .i64 ia, .string sa]] (.tuple #[.agg #[.int .i64 kna, .int .i64 ina, .string sna], .bool true]))
    (h22 : Gives 22 #[.agg #[.int .i64 kb, .int .i64 ib, .string sb]] (.tuple #[.agg #[.int .i64 knb, .int .i64 inb, .string snb], .bool true]))
    (h24 : Gives 23 #[.agg #[.int .i64 kna, .int .i64 ina, .string sna], .agg #[.int .i64 knb, .int .i64 inb, .string snb]] (.tuple #[.agg #[.int .i64 kor, .int .i64 ior, .string sor], .bool true]))
    (h26 : Gives 22 #[.agg #[.int .i64 kor, .int .i64 ior, .string sor]] (.tuple #[.agg #[.int .i64 kab, .int .i64 iab, .string sab], .bool true]))
    (h28 : Gives 23 #[.agg #[.int .i64 kb, .int .i64 ib, .string sb], .agg #[.int .i64 kc, .int .i64 ic, .string sc]] (.tuple #[.agg #[.int .i64 kboc, .int .i64 iboc, .string sboc], .bool true]))
    (h30 : Gives 21 #[.agg #[.int .i64 ka, .int .i64 ia, .string sa], .agg #[.int .i64 kboc, .int .i64 iboc, .string sboc]] (.tuple #[.agg #[.int .i64 kleft, .int .i64 ileft, .string sleft], .bool true]))
    (h32 : Gives 21 #[.agg #[.int .i64 ka, .int .i64 ia, .string sa], .agg #[.int .i64 kc, .int .i64 ic, .string sc]] (.tuple #[.agg #[.int .i64 kac, .int .i64 iac, .string sac], .bool true]))
    (h34 : Gives 23 #[.agg #[.int .i64 kab, .int .i64 iab, .string sab], .agg #[.int .i64 kac, .int .i64 iac, .string sac]] (.tuple #[.agg #[.int .i64 kleft, .int .i64 ileft, .string sleft], .bool true]))
    (h36 : Gives 22 #[.agg #[.int .i64 kna, .int .i64 ina, .string sna]] (.tuple #[.agg #[.int .i64 ka, .int .i64 ia, .string sa], .bool true])) (kn : Gives 24 #[] (.bool true)) (w : World) :
    Calls Try.prog 6 #[.int .i64 ni, .int .i64 nj, .int .i64 nk] w fun e w' => e = .returned (.bool true) ∧ Below w.heap.size w w' := by
  go_enter Try.func6, Try.ntmps6
  go_wp2_with fail
  refine (t0 _).mono ?_
  rintro e w1 ⟨rfl, b1⟩
  go_wp2_with fail
  refine (t1 _).mono ?_
  rintro e w2 ⟨rfl, b2⟩
  go_wp2_with fail
  refine (t2 _).mono ?_
  rintro e w3 ⟨rfl, b3⟩
  have a3 : Below w.heap.size w w3 := bnext (bnext b1 b2 (Nat.le_refl _)) b3 (Nat.le_refl _)
  clear b1 b2 b3
  go_wp2_with fail
  refine (h10 _).mono ?_
  rintro e w4 ⟨rfl, b4⟩
  obtain ⟨B7_4, B8_4, B9_4⟩ := Blk.new3a b4
  have a4 : Below w.heap.size w w4 := bnext (a3.trans ((ext3 _ _ _ _).mono a3.size)) b4 (Nat.le_refl _)
  clear b4 a3
  obtain ⟨x7_4, y7_4, z7_4, u7_4⟩ := B7_4.c3
  obtain ⟨x8_4, y8_4, z8_4, u8_4⟩ := B8_4.c3
  go_wp2_with fail
  refine (h12 _).mono ?_
  rintro e w5 ⟨rfl, b5⟩
  clear x7_4 y7_4 z7_4 u7_4 x8_4 y8_4 z8_4 u8_4
  have B7_5 := B7_4.over1 b5
  have B8_5 := B8_4.over1 b5
  have B9_5 := B9_4.over1 b5
  have B10_5 := Blk.new1 b5
  have a5 : Below w.heap.size w w5 := bnext (a4.trans ((ext1 _ _).mono a4.size)) b5 (Nat.le_refl _)
  clear a4 b5 B7_4 B8_4 B9_4
  obtain ⟨x8_5, y8_5, z8_5, u8_5⟩ := B8_5.c3
  obtain ⟨x9_5, y9_5, z9_5, u9_5⟩ := B9_5.c3
  go_wp2_with fail
  refine (h14 _).mono ?_
  rintro e w6 ⟨rfl, b6⟩
  clear x8_5 y8_5 z8_5 u8_5 x9_5 y9_5 z9_5 u9_5
  have B7_6 := B7_5.over1 b6
  have B8_6 := B8_5.over1 b6
  have B9_6 := B9_5.over1 b6
  have B10_6 := B10_5.over1 b6
  have B12_6 := Blk.new1 b6
  have a6 : Below w.heap.size w w6 := bnext (a5.trans ((ext1 _ _).mono a5.size)) b6 (Nat.le_refl _)
  clear a5 b6 B7_5 B8_5 B9_5 B10_5
  obtain ⟨x9_6, y9_6, z9_6, u9_6⟩ := B9_6.c3
  obtain ⟨x10_6, y10_6, z10_6, u10_6⟩ := B10_6.c3
  go_wp2_with fail
  refine (h16 _).mono ?_
  rintro e w7 ⟨rfl, b7⟩
  clear x9_6 y9_6 z9_6 u9_6 x10_6 y10_6 z10_6 u10_6
  have B7_7 := B7_6.over1 b7
  have B8_7 := B8_6.over1 b7
  have B9_7 := B9_6.over1 b7
  have B10_7 := B10_6.over1 b7
  have B12_7 := B12_6.over1 b7
  have B14_7 := Blk.new1 b7
  have a7 : Below w.heap.size w w7 := bnext (a6.trans ((ext1 _ _).mono a6.size)) b7 (Nat.le_refl _)
  clear a6 b7 B7_6 B8_6 B9_6 B10_6 B12_6
  obtain ⟨x7_7, y7_7, z7_7, u7_7⟩ := B7_7.c3
  obtain ⟨x14_7, y14_7, z14_7, u14_7⟩ := B14_7.c3
  go_wp2_with fail
  refine (h18 _).mono ?_
  rintro e w8 ⟨rfl, b8⟩
  clear x7_7 y7_7 z7_7 u7_7 x14_7 y14_7 z14_7 u14_7
  have B7_8 := B7_7.over1 b8
  have B8_8 := B8_7.over1 b8
  have B9_8 := B9_7.over1 b8
  have B10_8 := B10_7.over1 b8
  have B12_8 := B12_7.over1 b8
  have B14_8 := B14_7.over1 b8
  have B16_8 := Blk.new1 b8
  have a8 : Below w.heap.size w w8 := bnext (a7.trans ((ext1 _ _).mono a7.size)) b8 (Nat.le_refl _)
  clear a7 b8 B7_7 B8_7 B9_7 B10_7 B12_7 B14_7
  obtain ⟨x7_8, y7_8, z7_8, u7_8⟩ := B7_8.c3
  go_wp2_with fail
  refine (h20 _).mono ?_
  rintro e w9 ⟨rfl, b9⟩
  clear x7_8 y7_8 z7_8 u7_8
  have B7_9 := B7_8.over1 b9
  have B8_9 := B8_8.over1 b9
  have B9_9 := B9_8.over1 b9
  have B10_9 := B10_8.over1 b9
  have B12_9 := B12_8.over1 b9
  have B14_9 := B14_8.over1 b9
  have B16_9 := B16_8.over1 b9
  have B18_9 := Blk.new1 b9
  have a9 : Below w.heap.size w w9 := bnext (a8.trans ((ext1 _ _).mono a8.size)) b9 (Nat.le_refl _)
  clear a8 b9 B7_8 B8_8 B9_8 B10_8 B12_8 B14_8 B16_8
  obtain ⟨x8_9, y8_9, z8_9, u8_9⟩ := B8_9.c3
  go_wp2_with fail
  refine (h22 _).mono ?_
  rintro e w10 ⟨rfl, b10⟩
  clear x8_9 y8_9 z8_9 u8_9
  have B7_10 := B7_9.over1 b10
  have B8_10 := B8_9.over1 b10
  have B9_10 := B9_9.over1 b10
  have B10_10 := B10_9.over1 b10
  have B12_10 := B12_9.over1 b10
  have B14_10 := B14_9.over1 b10
  have B16_10 := B16_9.over1 b10
  have B18_10 := B18_9.over1 b10
  have B20_10 := Blk.new1 b10
  have a10 : Below w.heap.size w w10 := bnext (a9.trans ((ext1 _ _).mono a9.size)) b10 (Nat.le_refl _)
  clear a9 b10 B7_9 B8_9 B9_9 B10_9 B12_9 B14_9 B16_9 B18_9
  obtain ⟨x20_10, y20_10, z20_10, u20_10⟩ := B20_10.c3
  go_wp2_with fail
  refine (h24 _).mono ?_
  rintro e w11 ⟨rfl, b11⟩
  clear x20_10 y20_10 z20_10 u20_10
  have B7_11 := B7_10.over1 b11
  have B8_11 := B8_10.over1 b11
  have B9_11 := B9_10.over1 b11
  have B10_11 := B10_10.over1 b11
  have B12_11 := B12_10.over1 b11
  have B14_11 := B14_10.over1 b11
  have B16_11 := B16_10.over1 b11
  have B18_11 := B18_10.over1 b11
  have B20_11 := B20_10.over1 b11
  have B22_11 := Blk.new1 b11
  have a11 : Below w.heap.size w w11 := bnext (a10.trans ((ext1 _ _).mono a10.size)) b11 (Nat.le_refl _)
  clear a10 b11 B7_10 B8_10 B9_10 B10_10 B12_10 B14_10 B16_10 B18_10 B20_10
  go_wp2_with fail
  refine (h26 _).mono ?_
  rintro e w12 ⟨rfl, b12⟩
  have B7_12 := B7_11.over1 b12
  have B8_12 := B8_11.over1 b12
  have B9_12 := B9_11.over1 b12
  have B10_12 := B10_11.over1 b12
  have B12_12 := B12_11.over1 b12
  have B14_12 := B14_11.over1 b12
  have B16_12 := B16_11.over1 b12
  have B18_12 := B18_11.over1 b12
  have B20_12 := B20_11.over1 b12
  have B22_12 := B22_11.over1 b12
  have B24_12 := Blk.new1 b12
  have a12 : Below w.heap.size w w12 := bnext (a11.trans ((ext1 _ _).mono a11.size)) b12 (Nat.le_refl _)
  clear a11 b12 B7_11 B8_11 B9_11 B10_11 B12_11 B14_11 B16_11 B18_11 B20_11 B22_11
  obtain ⟨x8_12, y8_12, z8_12, u8_12⟩ := B8_12.c3
  obtain ⟨x9_12, y9_12, z9_12, u9_12⟩ := B9_12.c3
  go_wp2_with fail
  refine (h28 _).mono ?_
  rintro e w13 ⟨rfl, b13⟩
  clear x8_12 y8_12 z8_12 u8_12 x9_12 y9_12 z9_12 u9_12
  have B7_13 := B7_12.over1 b13
  have B8_13 := B8_12.over1 b13
  have B9_13 := B9_12.over1 b13
  have B10_13 := B10_12.over1 b13
  have B12_13 := B12_12.over1 b13
  have B14_13 := B14_12.over1 b13
  have B16_13 := B16_12.over1 b13
  have B18_13 := B18_12.over1 b13
  have B20_13 := B20_12.over1 b13
  have B22_13 := B22_12.over1 b13
  have B24_13 := B24_12.over1 b13
  have B26_13 := Blk.new1 b13
  have a13 : Below w.heap.size w w13 := bnext (a12.trans ((ext1 _ _).mono a12.size)) b13 (Nat.le_refl _)
  clear a12 b13 B7_12 B8_12 B9_12 B10_12 B12_12 B14_12 B16_12 B18_12 B20_12 B22_12 B24_12
  obtain ⟨x7_13, y7_13, z7_13, u7_13⟩ := B7_13.c3
  go_wp2_with fail
  refine (h30 _).mono ?_
  rintro e w14 ⟨rfl, b14⟩
  clear x7_13 y7_13 z7_13 u7_13
  have B7_14 := B7_13.over1 b14
  have B8_14 := B8_13.over1 b14
  have B9_14 := B9_13.over1 b14
  have B10_14 := B10_13.over1 b14
  have B12_14 := B12_13.over1 b14
  have B14_14 := B14_13.over1 b14
  have B16_14 := B16_13.over1 b14
  have B18_14 := B18_13.over1 b14
  have B20_14 := B20_13.over1 b14
  have B22_14 := B22_13.over1 b14
  have B24_14 := B24_13.over1 b14
  have B26_14 := B26_13.over1 b14
  have B28_14 := Blk.new1 b14
  have a14 : Below w.heap.size w w14 := bnext (a13.trans ((ext1 _ _).mono a13.size)) b14 (Nat.le_refl _)
  clear a13 b14 B7_13 B8_13 B9_13 B10_13 B12_13 B14_13 B16_13 B18_13 B20_13 B22_13 B24_13 B26_13
  obtain ⟨x7_14, y7_14, z7_14, u7_14⟩ := B7_14.c3
  obtain ⟨x9_14, y9_14, z9_14, u9_14⟩ := B9_14.c3
  go_wp2_with fail
  refine (h32 _).mono ?_
  rintro e w15 ⟨rfl, b15⟩
  clear x7_14 y7_14 z7_14 u7_14 x9_14 y9_14 z9_14 u9_14
  have B7_15 := B7_14.over1 b15
  have B8_15 := B8_14.over1 b15
  have B9_15 := B9_14.over1 b15
  have B10_15 := B10_14.over1 b15
  have B12_15 := B12_14.over1 b15
  have B14_15 := B14_14.over1 b15
  have B16_15 := B16_14.over1 b15
  have B18_15 := B18_14.over1 b15
  have B20_15 := B20_14.over1 b15
  have B22_15 := B22_14.over1 b15
  have B24_15 := B24_14.over1 b15
  have B26_15 := B26_14.over1 b15
  have B28_15 := B28_14.over1 b15
  have B30_15 := Blk.new1 b15
  have a15 : Below w.heap.size w w15 := bnext (a14.trans ((ext1 _ _).mono a14.size)) b15 (Nat.le_refl _)
  clear a14 b15 B7_14 B8_14 B9_14 B10_14 B12_14 B14_14 B16_14 B18_14 B20_14 B22_14 B24_14 B26_14 B28_14
  obtain ⟨x10_15, y10_15, z10_15, u10_15⟩ := B10_15.c3
  go_wp2_with fail
  refine (h34 _).mono ?_
  rintro e w16 ⟨rfl, b16⟩
  clear x10_15 y10_15 z10_15 u10_15
  have B7_16 := B7_15.over1 b16
  have B8_16 := B8_15.over1 b16
  have B9_16 := B9_15.over1 b16
  have B10_16 := B10_15.over1 b16
  have B12_16 := B12_15.over1 b16
  have B14_16 := B14_15.over1 b16
  have B16_16 := B16_15.over1 b16
  have B18_16 := B18_15.over1 b16
  have B20_16 := B20_15.over1 b16
  have B22_16 := B22_15.over1 b16
  have B24_16 := B24_15.over1 b16
  have B26_16 := B26_15.over1 b16
  have B28_16 := B28_15.over1 b16
  have B30_16 := B30_15.over1 b16
  have B32_16 := Blk.new1 b16
  have a16 : Below w.heap.size w w16 := bnext (a15.trans ((ext1 _ _).mono a15.size)) b16 (Nat.le_refl _)
  clear a15 b16 B7_15 B8_15 B9_15 B10_15 B12_15 B14_15 B16_15 B18_15 B20_15 B22_15 B24_15 B26_15 B28_15 B30_15
  obtain ⟨x20_16, y20_16, z20_16, u20_16⟩ := B20_16.c3
  go_wp2_with fail
  refine (h36 _).mono ?_
  rintro e w17 ⟨rfl, b17⟩
  clear x20_16 y20_16 z20_16 u20_16
  have B7_17 := B7_16.over1 b17
  have B8_17 := B8_16.over1 b17
  have B9_17 := B9_16.over1 b17
  have B10_17 := B10_16.over1 b17
  have B12_17 := B12_16.over1 b17
  have B14_17 := B14_16.over1 b17
  have B16_17 := B16_16.over1 b17
  have B18_17 := B18_16.over1 b17
  have B20_17 := B20_16.over1 b17
  have B22_17 := B22_16.over1 b17
  have B24_17 := B24_16.over1 b17
  have B26_17 := B26_16.over1 b17
  have B28_17 := B28_16.over1 b17
  have B30_17 := B30_16.over1 b17
  have B32_17 := B32_16.over1 b17
  have B34_17 := Blk.new1 b17
  have a17 : Below w.heap.size w w17 := bnext (a16.trans ((ext1 _ _).mono a16.size)) b17 (Nat.le_refl _)
  clear a16 b17 B7_16 B8_16 B9_16 B10_16 B12_16 B14_16 B16_16 B18_16 B20_16 B22_16 B24_16 B26_16 B28_16 B30_16 B32_16
  obtain ⟨x7_17, y7_17, z7_17, u7_17⟩ := B7_17.c3
  obtain ⟨x10_17, y10_17, z10_17, u10_17⟩ := B10_17.c3
  obtain ⟨x12_17, y12_17, z12_17, u12_17⟩ := B12_17.c3
  obtain ⟨x16_17, y16_17, z16_17, u16_17⟩ := B16_17.c3
  obtain ⟨x18_17, y18_17, z18_17, u18_17⟩ := B18_17.c3
  obtain ⟨x26_17, y26_17, z26_17, u26_17⟩ := B26_17.c3
  obtain ⟨x30_17, y30_17, z30_17, u30_17⟩ := B30_17.c3
  obtain ⟨x34_17, y34_17, z34_17, u34_17⟩ := B34_17.c3
  go_wp2_with fail
  refine (kn _).mono ?_
  rintro e w18 ⟨rfl, b18⟩
  clear x7_17 y7_17 z7_17 u7_17 x10_17 y10_17 z10_17 u10_17 x12_17 y12_17 z12_17 u12_17 x16_17 y16_17 z16_17 u16_17 x18_17 y18_17 z18_17 u18_17 x26_17 y26_17 z26_17 u26_17 x30_17 y30_17 z30_17 u30_17 x34_17 y34_17 z34_17 u34_17
  go_wp2
  go_ret
  exact ⟨rfl, bnext (a17.trans ((ext1 _ _).mono a17.size)) b18 (Nat.le_refl _)⟩
end Go.Proofs.Ytdgdllicmccnfaa

import Derived.Test.YtnmnkbnmollpmaaGreatDoorBdDscSaidMA
set_option linter.unusedVariables false
set_option linter.unusedSimpArgs false
set_option maxHeartbeats 64000000
set_option maxRecDepth 100000
namespace Go.Proofs.YtnmnkbnmollpmaaGreatDoor
section
open Go.RowKit
theorem YU (x:Option Bool) (w:World):Calls Tryz.prog 93 #[tv x] w fun e w' =>e=.returned (.bool true)∧Below w.heap.size w w' :=by
 rcases x with _|_|_
 ·have h:=Ju 0 0 ⟨#[]⟩ (by decide) w
  rwa [show lvB 0 0 ⟨#[]⟩=true from by kernel_rfl] at h
 ·have h:=Ju 2 0 ⟨#[]⟩ (by decide) w
  rwa [show lvB 2 0 ⟨#[]⟩=true from by kernel_rfl] at h
 ·have h:=Ju 2 1 ⟨#[]⟩ (by decide) w
  rwa [show lvB 2 1 ⟨#[]⟩=true from by kernel_rfl] at h
theorem Zke (k i:Int) (s:ByteArray):Gives 94 #[.agg #[.int .i64 k,.int .i64 i,.string s]] (.bool (GV k i s)):=by
 intro w
 cases h2:(k==2)<;>cases h1:(i==1)<;>cases he:s.toList.isEmpty
 all_goals
  have B0:=Blk.new w 30 #[.int .i64 k,.int .i64 i,.string s]
  go_enter Tryz.func94,Tryz.ntmps94
  go_wp2_with fail
  go_region_held3 (fun w' =>w'.cell? ⟨w.heap.size,0,none⟩=some (.int .i64 k)∧w'.cell? ⟨w.heap.size,1,none⟩=some (.int .i64 i)∧w'.cell? ⟨w.heap.size,2,none⟩=some (.string s))
   (first|exact cells3 B0|exact cells3 B1)
   (first|(go_at_call 140;refine (WY _ _).mono ?_;rintro e w4 ⟨rfl,b1⟩;have B1:Blk w4 w.heap.size 30 #[.int .i64 k,.int .i64 i,.string s]:=(b1.block _ B0.lt).trans B0))
  go_wp2_with fail
  go_ret
  exact ⟨by simp [GV,h2,h1,he],((Below.refl _ _).alloc (Nat.le_refl _) _).drew.trans (b1.mono (by simp))⟩
theorem ZjB:Gives 176 #[.agg #[.int .i64 0,.int .i64 0,.string ⟨#[]⟩],.agg #[.int .i64 0,.int .i64 0,.string ⟨#[]⟩]] (.tuple #[.agg #[.int .i64 0,.int .i64 0,.string ⟨#[]⟩],.bool true]):=by
 intro w
 have V1:=hid (YU none);have V2:=hid (YU none)
 simp only [tv] at V1 V2
 go_enter Tryz.func176,Tryz.ntmps176
 go_wp2_with fail
 refine (V1.out _).mono ?_
 rintro e w1 ⟨rfl,b1⟩
 obtain ⟨hc1,hf1⟩:=Wq b1
 have z12:=WG b1 (n:=w.heap.size+1+1) (by simp only [World.size_alloc];omega)
 have z11:w.heap.size+1<w1.heap.size:=by omega
 have z10:w.heap.size<w1.heap.size:=by omega
 go_wp2_with fail
 refine (V2.out _).mono ?_
 rintro e w2 ⟨rfl,b2⟩
 have A2:Blk w2 w.heap.size 30 #[.int .i64 0,.int .i64 0,.string ⟨#[]⟩]:=(Blk.Yb b1).1.over b2
 have B2:Blk w2 (w.heap.size+1) 30 #[.int .i64 0,.int .i64 0,.string ⟨#[]⟩]:=(Blk.Yb b1).2.1.over b2
 have R2:Blk w2 (w.heap.size+1+1) 30 #[.int .i64 0,.int .i64 0,.string ⟨#[]⟩]:=(Blk.Yb b1).2.2.over b2
 have a2:Below w.heap.size w w2:=Xx ((Wv _ _ _ _).trans (b1.mono (by simp only [World.size_alloc];omega))) b2 (Kg _)
 clear hc1 hf1 z12 z11 z10 b1 b2 V1 V2
 go_wp2_with fail
 go_region_held3 (fun w' =>w'.cell? ⟨w.heap.size,0,none⟩=some (.int .i64 0)∧w'.cell? ⟨w.heap.size,1,none⟩=some (.int .i64 0)∧w'.cell? ⟨w.heap.size,2,none⟩=some (.string ⟨#[]⟩)∧w'.cell? ⟨w.heap.size+1,0,none⟩=some (.int .i64 0)∧w'.cell? ⟨w.heap.size+1,1,none⟩=some (.int .i64 0)∧w'.cell? ⟨w.heap.size+1,2,none⟩=some (.string ⟨#[]⟩))
  (first|exact six A2 B2|exact six A3 B3|exact six A4 B4)
  (first
   | (go_at_call 140;((with_reducible refine (Xh _).mono ?_);rintro e w3 ⟨rfl,b3⟩;have A3:Blk w3 w.heap.size 30 #[.int .i64 0,.int .i64 0,.string ⟨#[]⟩]:=(b3.block _ A2.lt).trans A2;have B3:Blk w3 (w.heap.size+1) 30 #[.int .i64 0,.int .i64 0,.string ⟨#[]⟩]:=(b3.block _ B2.lt).trans B2;have R3:Blk w3 (w.heap.size+1+1) 30 #[.int .i64 0,.int .i64 0,.string ⟨#[]⟩]:=(b3.block _ R2.lt).trans R2))
   | (go_at_call 140;((with_reducible refine (Xh _).mono ?_);rintro e w4 ⟨rfl,b4⟩;have A4:Blk w4 w.heap.size 30 #[.int .i64 0,.int .i64 0,.string ⟨#[]⟩]:=(b4.block _ A3.lt).trans A3;have B4:Blk w4 (w.heap.size+1) 30 #[.int .i64 0,.int .i64 0,.string ⟨#[]⟩]:=(b4.block _ B3.lt).trans B3;have R4:Blk w4 (w.heap.size+1+1) 30 #[.int .i64 0,.int .i64 0,.string ⟨#[]⟩]:=(b4.block _ R3.lt).trans R3)))
 obtain ⟨c0,c1,c2,cl⟩:=A4.c3
 obtain ⟨d0,d1,d2,dl⟩:=B4.c3
 obtain ⟨r0,r1,r2,rl⟩:=R4.c3
 have f0:=R4.frozen 0;have f1:=R4.frozen 1;have f2:=R4.frozen 2
 have a3:Below w.heap.size w w3:=(a2.drew).trans (b3.mono a2.size)
 have a4:Below w.heap.size w w4:=a3.trans (b4.mono a3.size)
 go_wp2_with fail
 refine bodyPost_ret (v:=.tuple #[.agg #[.int .i64 0,.int .i64 0,.string ⟨#[]⟩],.bool true]) (by simp [results,Tryz.results176,go_sem,r0,r1,r2,rl]) rfl ⟨rfl,?_⟩
 exact WZ a4 (by omega) _ _ _
theorem ZjC:Gives 176 #[.agg #[.int .i64 0,.int .i64 0,.string ⟨#[]⟩],.agg #[.int .i64 2,.int .i64 0,.string ⟨#[]⟩]] (.tuple #[.agg #[.int .i64 2,.int .i64 0,.string ⟨#[]⟩],.bool true]):=by
 intro w
 have V1:=hid (YU none);have V2:=hid (YU (some false))
 simp only [tv] at V1 V2
 go_enter Tryz.func176,Tryz.ntmps176
 go_wp2_with fail
 refine (V1.out _).mono ?_
 rintro e w1 ⟨rfl,b1⟩
 obtain ⟨hc1,hf1⟩:=Wq b1
 have z12:=WG b1 (n:=w.heap.size+1+1) (by simp only [World.size_alloc];omega)
 have z11:w.heap.size+1<w1.heap.size:=by omega
 have z10:w.heap.size<w1.heap.size:=by omega
 go_wp2_with fail
 refine (V2.out _).mono ?_
 rintro e w2 ⟨rfl,b2⟩
 have A2:Blk w2 w.heap.size 30 #[.int .i64 0,.int .i64 0,.string ⟨#[]⟩]:=(Blk.Yb b1).1.over b2
 have B2:Blk w2 (w.heap.size+1) 30 #[.int .i64 2,.int .i64 0,.string ⟨#[]⟩]:=(Blk.Yb b1).2.1.over b2
 have R2:Blk w2 (w.heap.size+1+1) 30 #[.int .i64 0,.int .i64 0,.string ⟨#[]⟩]:=(Blk.Yb b1).2.2.over b2
 have a2:Below w.heap.size w w2:=Xx ((Wv _ _ _ _).trans (b1.mono (by simp only [World.size_alloc];omega))) b2 (Kg _)
 clear hc1 hf1 z12 z11 z10 b1 b2 V1 V2
 go_wp2_with fail
 go_region_held3 (fun w' =>w'.cell? ⟨w.heap.size,0,none⟩=some (.int .i64 0)∧w'.cell? ⟨w.heap.size,1,none⟩=some (.int .i64 0)∧w'.cell? ⟨w.heap.size,2,none⟩=some (.string ⟨#[]⟩)∧w'.cell? ⟨w.heap.size+1,0,none⟩=some (.int .i64 2)∧w'.cell? ⟨w.heap.size+1,1,none⟩=some (.int .i64 0)∧w'.cell? ⟨w.heap.size+1,2,none⟩=some (.string ⟨#[]⟩))
  (first|exact six A2 B2|exact six A3 B3|exact six A4 B4)
  (first
   | (go_at_call 140;((with_reducible refine (Xh _).mono ?_);rintro e w3 ⟨rfl,b3⟩;have A3:Blk w3 w.heap.size 30 #[.int .i64 0,.int .i64 0,.string ⟨#[]⟩]:=(b3.block _ A2.lt).trans A2;have B3:Blk w3 (w.heap.size+1) 30 #[.int .i64 2,.int .i64 0,.string ⟨#[]⟩]:=(b3.block _ B2.lt).trans B2;have R3:Blk w3 (w.heap.size+1+1) 30 #[.int .i64 0,.int .i64 0,.string ⟨#[]⟩]:=(b3.block _ R2.lt).trans R2))
   | (go_at_call 140;((with_reducible refine (Xh _).mono ?_);rintro e w4 ⟨rfl,b4⟩;have A4:Blk w4 w.heap.size 30 #[.int .i64 0,.int .i64 0,.string ⟨#[]⟩]:=(b4.block _ A3.lt).trans A3;have B4:Blk w4 (w.heap.size+1) 30 #[.int .i64 2,.int .i64 0,.string ⟨#[]⟩]:=(b4.block _ B3.lt).trans B3;have R4:Blk w4 (w.heap.size+1+1) 30 #[.int .i64 0,.int .i64 0,.string ⟨#[]⟩]:=(b4.block _ R3.lt).trans R3)))
 obtain ⟨c0,c1,c2,cl⟩:=A4.c3
 obtain ⟨d0,d1,d2,dl⟩:=B4.c3
 obtain ⟨r0,r1,r2,rl⟩:=R4.c3
 have f0:=R4.frozen 0;have f1:=R4.frozen 1;have f2:=R4.frozen 2
 have a3:Below w.heap.size w w3:=(a2.drew).trans (b3.mono a2.size)
 have a4:Below w.heap.size w w4:=a3.trans (b4.mono a3.size)
 go_wp2_with fail
 refine (WY _ _).mono ?_
 rintro e w5 ⟨rfl,b5⟩
 have R5:=R4.over b5
 obtain ⟨s0,s1,s2,sl⟩:=R5.c3
 have g0:=R5.frozen 0;have g1:=R5.frozen 1;have g2:=R5.frozen 2
 go_wp2_with fail
 refine bodyPost_ret (v:=.tuple #[.agg #[.int .i64 2,.int .i64 _,.string ⟨#[]⟩],.bool true]) (by simp [results,Tryz.results176,go_sem,s0,s1,s2,sl]) rfl ⟨rfl,?_⟩
 exact WZ (a4.trans (b5.mono a4.size)) (by omega) _ _ _
theorem ZjD:Gives 176 #[.agg #[.int .i64 0,.int .i64 0,.string ⟨#[]⟩],.agg #[.int .i64 2,.int .i64 1,.string ⟨#[]⟩]] (.tuple #[.agg #[.int .i64 0,.int .i64 0,.string ⟨#[]⟩],.bool true]):=by
 intro w
 have V1:=hid (YU none);have V2:=hid (YU (some true))
 simp only [tv] at V1 V2
 go_enter Tryz.func176,Tryz.ntmps176
 go_wp2_with fail
 refine (V1.out _).mono ?_
 rintro e w1 ⟨rfl,b1⟩
 obtain ⟨hc1,hf1⟩:=Wq b1
 have z12:=WG b1 (n:=w.heap.size+1+1) (by simp only [World.size_alloc];omega)
 have z11:w.heap.size+1<w1.heap.size:=by omega
 have z10:w.heap.size<w1.heap.size:=by omega
 go_wp2_with fail
 refine (V2.out _).mono ?_
 rintro e w2 ⟨rfl,b2⟩
 have A2:Blk w2 w.heap.size 30 #[.int .i64 0,.int .i64 0,.string ⟨#[]⟩]:=(Blk.Yb b1).1.over b2
 have B2:Blk w2 (w.heap.size+1) 30 #[.int .i64 2,.int .i64 1,.string ⟨#[]⟩]:=(Blk.Yb b1).2.1.over b2
 have R2:Blk w2 (w.heap.size+1+1) 30 #[.int .i64 0,.int .i64 0,.string ⟨#[]⟩]:=(Blk.Yb b1).2.2.over b2
 have a2:Below w.heap.size w w2:=Xx ((Wv _ _ _ _).trans (b1.mono (by simp only [World.size_alloc];omega))) b2 (Kg _)
 clear hc1 hf1 z12 z11 z10 b1 b2 V1 V2
 go_wp2_with fail
 go_region_held3 (fun w' =>w'.cell? ⟨w.heap.size,0,none⟩=some (.int .i64 0)∧w'.cell? ⟨w.heap.size,1,none⟩=some (.int .i64 0)∧w'.cell? ⟨w.heap.size,2,none⟩=some (.string ⟨#[]⟩)∧w'.cell? ⟨w.heap.size+1,0,none⟩=some (.int .i64 2)∧w'.cell? ⟨w.heap.size+1,1,none⟩=some (.int .i64 1)∧w'.cell? ⟨w.heap.size+1,2,none⟩=some (.string ⟨#[]⟩))
  (first|exact six A2 B2|exact six A3 B3|exact six A4 B4)
  (first
   | (go_at_call 140;((with_reducible refine (Xh _).mono ?_);rintro e w3 ⟨rfl,b3⟩;have A3:Blk w3 w.heap.size 30 #[.int .i64 0,.int .i64 0,.string ⟨#[]⟩]:=(b3.block _ A2.lt).trans A2;have B3:Blk w3 (w.heap.size+1) 30 #[.int .i64 2,.int .i64 1,.string ⟨#[]⟩]:=(b3.block _ B2.lt).trans B2;have R3:Blk w3 (w.heap.size+1+1) 30 #[.int .i64 0,.int .i64 0,.string ⟨#[]⟩]:=(b3.block _ R2.lt).trans R2))
   | (go_at_call 140;((with_reducible refine (Xh _).mono ?_);rintro e w4 ⟨rfl,b4⟩;have A4:Blk w4 w.heap.size 30 #[.int .i64 0,.int .i64 0,.string ⟨#[]⟩]:=(b4.block _ A3.lt).trans A3;have B4:Blk w4 (w.heap.size+1) 30 #[.int .i64 2,.int .i64 1,.string ⟨#[]⟩]:=(b4.block _ B3.lt).trans B3;have R4:Blk w4 (w.heap.size+1+1) 30 #[.int .i64 0,.int .i64 0,.string ⟨#[]⟩]:=(b4.block _ R3.lt).trans R3)))
 obtain ⟨c0,c1,c2,cl⟩:=A4.c3
 obtain ⟨d0,d1,d2,dl⟩:=B4.c3
 obtain ⟨r0,r1,r2,rl⟩:=R4.c3
 have f0:=R4.frozen 0;have f1:=R4.frozen 1;have f2:=R4.frozen 2
 have a3:Below w.heap.size w w3:=(a2.drew).trans (b3.mono a2.size)
 have a4:Below w.heap.size w w4:=a3.trans (b4.mono a3.size)
 go_wp2_with fail
 refine bodyPost_ret (v:=.tuple #[.agg #[.int .i64 0,.int .i64 0,.string ⟨#[]⟩],.bool true]) (by simp [results,Tryz.results176,go_sem,r0,r1,r2,rl]) rfl ⟨rfl,?_⟩
 exact WZ a4 (by omega) _ _ _
theorem ZjE:Gives 176 #[.agg #[.int .i64 2,.int .i64 0,.string ⟨#[]⟩],.agg #[.int .i64 0,.int .i64 0,.string ⟨#[]⟩]] (.tuple #[.agg #[.int .i64 2,.int .i64 0,.string ⟨#[]⟩],.bool true]):=by
 intro w
 have V1:=hid (YU (some false));have V2:=hid (YU none)
 simp only [tv] at V1 V2
 go_enter Tryz.func176,Tryz.ntmps176
 go_wp2_with fail
 refine (V1.out _).mono ?_
 rintro e w1 ⟨rfl,b1⟩
 obtain ⟨hc1,hf1⟩:=Wq b1
 have z12:=WG b1 (n:=w.heap.size+1+1) (by simp only [World.size_alloc];omega)
 have z11:w.heap.size+1<w1.heap.size:=by omega
 have z10:w.heap.size<w1.heap.size:=by omega
 go_wp2_with fail
 refine (V2.out _).mono ?_
 rintro e w2 ⟨rfl,b2⟩
 have A2:Blk w2 w.heap.size 30 #[.int .i64 2,.int .i64 0,.string ⟨#[]⟩]:=(Blk.Yb b1).1.over b2
 have B2:Blk w2 (w.heap.size+1) 30 #[.int .i64 0,.int .i64 0,.string ⟨#[]⟩]:=(Blk.Yb b1).2.1.over b2
 have R2:Blk w2 (w.heap.size+1+1) 30 #[.int .i64 0,.int .i64 0,.string ⟨#[]⟩]:=(Blk.Yb b1).2.2.over b2
 have a2:Below w.heap.size w w2:=Xx ((Wv _ _ _ _).trans (b1.mono (by simp only [World.size_alloc];omega))) b2 (Kg _)
 clear hc1 hf1 z12 z11 z10 b1 b2 V1 V2
 go_wp2_with fail
 obtain ⟨o0,o1,o2,ol⟩:=A2.c3
 go_region_with (first
   | (go_at_call 140;((with_reducible refine (Xh _).mono ?_);rintro e w3 ⟨rfl,b3⟩;have A3:Blk w3 w.heap.size 30 #[.int .i64 2,.int .i64 0,.string ⟨#[]⟩]:=(b3.block _ A2.lt).trans A2;have B3:Blk w3 (w.heap.size+1) 30 #[.int .i64 0,.int .i64 0,.string ⟨#[]⟩]:=(b3.block _ B2.lt).trans B2;have R3:Blk w3 (w.heap.size+1+1) 30 #[.int .i64 0,.int .i64 0,.string ⟨#[]⟩]:=(b3.block _ R2.lt).trans R2);obtain ⟨p0,p1,p2,pl⟩:=A3.c3))
 all_goals
  obtain ⟨c0,c1,c2,cl⟩:=A3.c3
  obtain ⟨d0,d1,d2,dl⟩:=B3.c3
  obtain ⟨r0,r1,r2,rl⟩:=R3.c3
  have f0:=R3.frozen 0;have f1:=R3.frozen 1;have f2:=R3.frozen 2
  have a3:Below w.heap.size w w3:=(a2.drew).trans (b3.mono a2.size)
  go_wp2_with fail
  refine (WY _ _).mono ?_
  rintro e w5 ⟨rfl,b5⟩
  have R5:=R3.over b5
  obtain ⟨s0,s1,s2,sl⟩:=R5.c3
  have g0:=R5.frozen 0;have g1:=R5.frozen 1;have g2:=R5.frozen 2
  go_wp2_with fail
  refine bodyPost_ret (v:=.tuple #[.agg #[.int .i64 2,.int .i64 _,.string ⟨#[]⟩],.bool true]) (by simp [results,Tryz.results176,go_sem,s0,s1,s2,sl]) rfl ⟨rfl,?_⟩
  exact WZ (a3.trans (b5.mono a3.size)) (by omega) _ _ _
theorem ZjF:Gives 176 #[.agg #[.int .i64 2,.int .i64 0,.string ⟨#[]⟩],.agg #[.int .i64 2,.int .i64 0,.string ⟨#[]⟩]] (.tuple #[.agg #[.int .i64 2,.int .i64 0,.string ⟨#[]⟩],.bool true]):=by
 intro w
 have V1:=hid (YU (some false));have V2:=hid (YU (some false))
 simp only [tv] at V1 V2
 go_enter Tryz.func176,Tryz.ntmps176
 go_wp2_with fail
 refine (V1.out _).mono ?_
 rintro e w1 ⟨rfl,b1⟩
 obtain ⟨hc1,hf1⟩:=Wq b1
 have z12:=WG b1 (n:=w.heap.size+1+1) (by simp only [World.size_alloc];omega)
 have z11:w.heap.size+1<w1.heap.size:=by omega
 have z10:w.heap.size<w1.heap.size:=by omega
 go_wp2_with fail
 refine (V2.out _).mono ?_
 rintro e w2 ⟨rfl,b2⟩
 have A2:Blk w2 w.heap.size 30 #[.int .i64 2,.int .i64 0,.string ⟨#[]⟩]:=(Blk.Yb b1).1.over b2
 have B2:Blk w2 (w.heap.size+1) 30 #[.int .i64 2,.int .i64 0,.string ⟨#[]⟩]:=(Blk.Yb b1).2.1.over b2
 have R2:Blk w2 (w.heap.size+1+1) 30 #[.int .i64 0,.int .i64 0,.string ⟨#[]⟩]:=(Blk.Yb b1).2.2.over b2
 have a2:Below w.heap.size w w2:=Xx ((Wv _ _ _ _).trans (b1.mono (by simp only [World.size_alloc];omega))) b2 (Kg _)
 clear hc1 hf1 z12 z11 z10 b1 b2 V1 V2
 go_wp2_with fail
 obtain ⟨o0,o1,o2,ol⟩:=A2.c3
 go_region_with (first
   | (go_at_call 140;((with_reducible refine (Xh _).mono ?_);rintro e w3 ⟨rfl,b3⟩;have A3:Blk w3 w.heap.size 30 #[.int .i64 2,.int .i64 0,.string ⟨#[]⟩]:=(b3.block _ A2.lt).trans A2;have B3:Blk w3 (w.heap.size+1) 30 #[.int .i64 2,.int .i64 0,.string ⟨#[]⟩]:=(b3.block _ B2.lt).trans B2;have R3:Blk w3 (w.heap.size+1+1) 30 #[.int .i64 0,.int .i64 0,.string ⟨#[]⟩]:=(b3.block _ R2.lt).trans R2);obtain ⟨p0,p1,p2,pl⟩:=A3.c3))
 all_goals
  obtain ⟨c0,c1,c2,cl⟩:=A3.c3
  obtain ⟨d0,d1,d2,dl⟩:=B3.c3
  obtain ⟨r0,r1,r2,rl⟩:=R3.c3
  have f0:=R3.frozen 0;have f1:=R3.frozen 1;have f2:=R3.frozen 2
  have a3:Below w.heap.size w w3:=(a2.drew).trans (b3.mono a2.size)
  go_wp2_with fail
  refine (WY _ _).mono ?_
  rintro e w5 ⟨rfl,b5⟩
  have R5:=R3.over b5
  obtain ⟨s0,s1,s2,sl⟩:=R5.c3
  have g0:=R5.frozen 0;have g1:=R5.frozen 1;have g2:=R5.frozen 2
  go_wp2_with fail
  refine bodyPost_ret (v:=.tuple #[.agg #[.int .i64 2,.int .i64 _,.string ⟨#[]⟩],.bool true]) (by simp [results,Tryz.results176,go_sem,s0,s1,s2,sl]) rfl ⟨rfl,?_⟩
  exact WZ (a3.trans (b5.mono a3.size)) (by omega) _ _ _
theorem ZjG:Gives 176 #[.agg #[.int .i64 2,.int .i64 0,.string ⟨#[]⟩],.agg #[.int .i64 2,.int .i64 1,.string ⟨#[]⟩]] (.tuple #[.agg #[.int .i64 2,.int .i64 0,.string ⟨#[]⟩],.bool true]):=by
 intro w
 have V1:=hid (YU (some false));have V2:=hid (YU (some true))
 simp only [tv] at V1 V2
 go_enter Tryz.func176,Tryz.ntmps176
 go_wp2_with fail
 refine (V1.out _).mono ?_
 rintro e w1 ⟨rfl,b1⟩
 obtain ⟨hc1,hf1⟩:=Wq b1
 have z12:=WG b1 (n:=w.heap.size+1+1) (by simp only [World.size_alloc];omega)
 have z11:w.heap.size+1<w1.heap.size:=by omega
 have z10:w.heap.size<w1.heap.size:=by omega
 go_wp2_with fail
 refine (V2.out _).mono ?_
 rintro e w2 ⟨rfl,b2⟩
 have A2:Blk w2 w.heap.size 30 #[.int .i64 2,.int .i64 0,.string ⟨#[]⟩]:=(Blk.Yb b1).1.over b2
 have B2:Blk w2 (w.heap.size+1) 30 #[.int .i64 2,.int .i64 1,.string ⟨#[]⟩]:=(Blk.Yb b1).2.1.over b2
 have R2:Blk w2 (w.heap.size+1+1) 30 #[.int .i64 0,.int .i64 0,.string ⟨#[]⟩]:=(Blk.Yb b1).2.2.over b2
 have a2:Below w.heap.size w w2:=Xx ((Wv _ _ _ _).trans (b1.mono (by simp only [World.size_alloc];omega))) b2 (Kg _)
 clear hc1 hf1 z12 z11 z10 b1 b2 V1 V2
 go_wp2_with fail
 obtain ⟨o0,o1,o2,ol⟩:=A2.c3
 go_region_with (first
   | (go_at_call 140;((with_reducible refine (Xh _).mono ?_);rintro e w3 ⟨rfl,b3⟩;have A3:Blk w3 w.heap.size 30 #[.int .i64 2,.int .i64 0,.string ⟨#[]⟩]:=(b3.block _ A2.lt).trans A2;have B3:Blk w3 (w.heap.size+1) 30 #[.int .i64 2,.int .i64 1,.string ⟨#[]⟩]:=(b3.block _ B2.lt).trans B2;have R3:Blk w3 (w.heap.size+1+1) 30 #[.int .i64 0,.int .i64 0,.string ⟨#[]⟩]:=(b3.block _ R2.lt).trans R2);obtain ⟨p0,p1,p2,pl⟩:=A3.c3))
 all_goals
  obtain ⟨c0,c1,c2,cl⟩:=A3.c3
  obtain ⟨d0,d1,d2,dl⟩:=B3.c3
  obtain ⟨r0,r1,r2,rl⟩:=R3.c3
  have f0:=R3.frozen 0;have f1:=R3.frozen 1;have f2:=R3.frozen 2
  have a3:Below w.heap.size w w3:=(a2.drew).trans (b3.mono a2.size)
  go_wp2_with fail
  refine (WY _ _).mono ?_
  rintro e w5 ⟨rfl,b5⟩
  have R5:=R3.over b5
  obtain ⟨s0,s1,s2,sl⟩:=R5.c3
  have g0:=R5.frozen 0;have g1:=R5.frozen 1;have g2:=R5.frozen 2
  go_wp2_with fail
  refine bodyPost_ret (v:=.tuple #[.agg #[.int .i64 2,.int .i64 _,.string ⟨#[]⟩],.bool true]) (by simp [results,Tryz.results176,go_sem,s0,s1,s2,sl]) rfl ⟨rfl,?_⟩
  exact WZ (a3.trans (b5.mono a3.size)) (by omega) _ _ _
theorem ZjH:Gives 176 #[.agg #[.int .i64 2,.int .i64 1,.string ⟨#[]⟩],.agg #[.int .i64 0,.int .i64 0,.string ⟨#[]⟩]] (.tuple #[.agg #[.int .i64 0,.int .i64 0,.string ⟨#[]⟩],.bool true]):=by
 intro w
 have V1:=hid (YU (some true));have V2:=hid (YU none)
 simp only [tv] at V1 V2
 go_enter Tryz.func176,Tryz.ntmps176
 go_wp2_with fail
 refine (V1.out _).mono ?_
 rintro e w1 ⟨rfl,b1⟩
 obtain ⟨hc1,hf1⟩:=Wq b1
 have z12:=WG b1 (n:=w.heap.size+1+1) (by simp only [World.size_alloc];omega)
 have z11:w.heap.size+1<w1.heap.size:=by omega
 have z10:w.heap.size<w1.heap.size:=by omega
 go_wp2_with fail
 refine (V2.out _).mono ?_
 rintro e w2 ⟨rfl,b2⟩
 have A2:Blk w2 w.heap.size 30 #[.int .i64 2,.int .i64 1,.string ⟨#[]⟩]:=(Blk.Yb b1).1.over b2
 have B2:Blk w2 (w.heap.size+1) 30 #[.int .i64 0,.int .i64 0,.string ⟨#[]⟩]:=(Blk.Yb b1).2.1.over b2
 have R2:Blk w2 (w.heap.size+1+1) 30 #[.int .i64 0,.int .i64 0,.string ⟨#[]⟩]:=(Blk.Yb b1).2.2.over b2
 have a2:Below w.heap.size w w2:=Xx ((Wv _ _ _ _).trans (b1.mono (by simp only [World.size_alloc];omega))) b2 (Kg _)
 clear hc1 hf1 z12 z11 z10 b1 b2 V1 V2
 go_wp2_with fail
 go_region_held3 (fun w' =>w'.cell? ⟨w.heap.size,0,none⟩=some (.int .i64 2)∧w'.cell? ⟨w.heap.size,1,none⟩=some (.int .i64 1)∧w'.cell? ⟨w.heap.size,2,none⟩=some (.string ⟨#[]⟩)∧w'.cell? ⟨w.heap.size+1,0,none⟩=some (.int .i64 0)∧w'.cell? ⟨w.heap.size+1,1,none⟩=some (.int .i64 0)∧w'.cell? ⟨w.heap.size+1,2,none⟩=some (.string ⟨#[]⟩))
  (first|exact six A2 B2|exact six A3 B3|exact six A4 B4)
  (first
   | (go_at_call 140;((with_reducible refine (Xh _).mono ?_);rintro e w3 ⟨rfl,b3⟩;have A3:Blk w3 w.heap.size 30 #[.int .i64 2,.int .i64 1,.string ⟨#[]⟩]:=(b3.block _ A2.lt).trans A2;have B3:Blk w3 (w.heap.size+1) 30 #[.int .i64 0,.int .i64 0,.string ⟨#[]⟩]:=(b3.block _ B2.lt).trans B2;have R3:Blk w3 (w.heap.size+1+1) 30 #[.int .i64 0,.int .i64 0,.string ⟨#[]⟩]:=(b3.block _ R2.lt).trans R2))
   | (go_at_call 140;((with_reducible refine (Xh _).mono ?_);rintro e w4 ⟨rfl,b4⟩;have A4:Blk w4 w.heap.size 30 #[.int .i64 2,.int .i64 1,.string ⟨#[]⟩]:=(b4.block _ A3.lt).trans A3;have B4:Blk w4 (w.heap.size+1) 30 #[.int .i64 0,.int .i64 0,.string ⟨#[]⟩]:=(b4.block _ B3.lt).trans B3;have R4:Blk w4 (w.heap.size+1+1) 30 #[.int .i64 0,.int .i64 0,.string ⟨#[]⟩]:=(b4.block _ R3.lt).trans R3)))
 obtain ⟨c0,c1,c2,cl⟩:=A4.c3
 obtain ⟨d0,d1,d2,dl⟩:=B4.c3
 obtain ⟨r0,r1,r2,rl⟩:=R4.c3
 have f0:=R4.frozen 0;have f1:=R4.frozen 1;have f2:=R4.frozen 2
 have a3:Below w.heap.size w w3:=(a2.drew).trans (b3.mono a2.size)
 have a4:Below w.heap.size w w4:=a3.trans (b4.mono a3.size)
 go_wp2_with fail
 refine bodyPost_ret (v:=.tuple #[.agg #[.int .i64 0,.int .i64 0,.string ⟨#[]⟩],.bool true]) (by simp [results,Tryz.results176,go_sem,r0,r1,r2,rl]) rfl ⟨rfl,?_⟩
 exact WZ a4 (by omega) _ _ _
theorem ZjI:Gives 176 #[.agg #[.int .i64 2,.int .i64 1,.string ⟨#[]⟩],.agg #[.int .i64 2,.int .i64 0,.string ⟨#[]⟩]] (.tuple #[.agg #[.int .i64 2,.int .i64 0,.string ⟨#[]⟩],.bool true]):=by
 intro w
 have V1:=hid (YU (some true));have V2:=hid (YU (some false))
 simp only [tv] at V1 V2
 go_enter Tryz.func176,Tryz.ntmps176
 go_wp2_with fail
 refine (V1.out _).mono ?_
 rintro e w1 ⟨rfl,b1⟩
 obtain ⟨hc1,hf1⟩:=Wq b1
 have z12:=WG b1 (n:=w.heap.size+1+1) (by simp only [World.size_alloc];omega)
 have z11:w.heap.size+1<w1.heap.size:=by omega
 have z10:w.heap.size<w1.heap.size:=by omega
 go_wp2_with fail
 refine (V2.out _).mono ?_
 rintro e w2 ⟨rfl,b2⟩
 have A2:Blk w2 w.heap.size 30 #[.int .i64 2,.int .i64 1,.string ⟨#[]⟩]:=(Blk.Yb b1).1.over b2
 have B2:Blk w2 (w.heap.size+1) 30 #[.int .i64 2,.int .i64 0,.string ⟨#[]⟩]:=(Blk.Yb b1).2.1.over b2
 have R2:Blk w2 (w.heap.size+1+1) 30 #[.int .i64 0,.int .i64 0,.string ⟨#[]⟩]:=(Blk.Yb b1).2.2.over b2
 have a2:Below w.heap.size w w2:=Xx ((Wv _ _ _ _).trans (b1.mono (by simp only [World.size_alloc];omega))) b2 (Kg _)
 clear hc1 hf1 z12 z11 z10 b1 b2 V1 V2
 go_wp2_with fail
 go_region_held3 (fun w' =>w'.cell? ⟨w.heap.size,0,none⟩=some (.int .i64 2)∧w'.cell? ⟨w.heap.size,1,none⟩=some (.int .i64 1)∧w'.cell? ⟨w.heap.size,2,none⟩=some (.string ⟨#[]⟩)∧w'.cell? ⟨w.heap.size+1,0,none⟩=some (.int .i64 2)∧w'.cell? ⟨w.heap.size+1,1,none⟩=some (.int .i64 0)∧w'.cell? ⟨w.heap.size+1,2,none⟩=some (.string ⟨#[]⟩))
  (first|exact six A2 B2|exact six A3 B3|exact six A4 B4)
  (first
   | (go_at_call 140;((with_reducible refine (Xh _).mono ?_);rintro e w3 ⟨rfl,b3⟩;have A3:Blk w3 w.heap.size 30 #[.int .i64 2,.int .i64 1,.string ⟨#[]⟩]:=(b3.block _ A2.lt).trans A2;have B3:Blk w3 (w.heap.size+1) 30 #[.int .i64 2,.int .i64 0,.string ⟨#[]⟩]:=(b3.block _ B2.lt).trans B2;have R3:Blk w3 (w.heap.size+1+1) 30 #[.int .i64 0,.int .i64 0,.string ⟨#[]⟩]:=(b3.block _ R2.lt).trans R2))
   | (go_at_call 140;((with_reducible refine (Xh _).mono ?_);rintro e w4 ⟨rfl,b4⟩;have A4:Blk w4 w.heap.size 30 #[.int .i64 2,.int .i64 1,.string ⟨#[]⟩]:=(b4.block _ A3.lt).trans A3;have B4:Blk w4 (w.heap.size+1) 30 #[.int .i64 2,.int .i64 0,.string ⟨#[]⟩]:=(b4.block _ B3.lt).trans B3;have R4:Blk w4 (w.heap.size+1+1) 30 #[.int .i64 0,.int .i64 0,.string ⟨#[]⟩]:=(b4.block _ R3.lt).trans R3)))
 obtain ⟨c0,c1,c2,cl⟩:=A4.c3
 obtain ⟨d0,d1,d2,dl⟩:=B4.c3
 obtain ⟨r0,r1,r2,rl⟩:=R4.c3
 have f0:=R4.frozen 0;have f1:=R4.frozen 1;have f2:=R4.frozen 2
 have a3:Below w.heap.size w w3:=(a2.drew).trans (b3.mono a2.size)
 have a4:Below w.heap.size w w4:=a3.trans (b4.mono a3.size)
 go_wp2_with fail
 refine (WY _ _).mono ?_
 rintro e w5 ⟨rfl,b5⟩
 have R5:=R4.over b5
 obtain ⟨s0,s1,s2,sl⟩:=R5.c3
 have g0:=R5.frozen 0;have g1:=R5.frozen 1;have g2:=R5.frozen 2
 go_wp2_with fail
 refine bodyPost_ret (v:=.tuple #[.agg #[.int .i64 2,.int .i64 _,.string ⟨#[]⟩],.bool true]) (by simp [results,Tryz.results176,go_sem,s0,s1,s2,sl]) rfl ⟨rfl,?_⟩
 exact WZ (a4.trans (b5.mono a4.size)) (by omega) _ _ _
theorem ZjJ:Gives 176 #[.agg #[.int .i64 2,.int .i64 1,.string ⟨#[]⟩],.agg #[.int .i64 2,.int .i64 1,.string ⟨#[]⟩]] (.tuple #[.agg #[.int .i64 2,.int .i64 1,.string ⟨#[]⟩],.bool true]):=by
 intro w
 have V1:=hid (YU (some true));have V2:=hid (YU (some true))
 simp only [tv] at V1 V2
 go_enter Tryz.func176,Tryz.ntmps176
 go_wp2_with fail
 refine (V1.out _).mono ?_
 rintro e w1 ⟨rfl,b1⟩
 obtain ⟨hc1,hf1⟩:=Wq b1
 have z12:=WG b1 (n:=w.heap.size+1+1) (by simp only [World.size_alloc];omega)
 have z11:w.heap.size+1<w1.heap.size:=by omega
 have z10:w.heap.size<w1.heap.size:=by omega
 go_wp2_with fail
 refine (V2.out _).mono ?_
 rintro e w2 ⟨rfl,b2⟩
 have A2:Blk w2 w.heap.size 30 #[.int .i64 2,.int .i64 1,.string ⟨#[]⟩]:=(Blk.Yb b1).1.over b2
 have B2:Blk w2 (w.heap.size+1) 30 #[.int .i64 2,.int .i64 1,.string ⟨#[]⟩]:=(Blk.Yb b1).2.1.over b2
 have R2:Blk w2 (w.heap.size+1+1) 30 #[.int .i64 0,.int .i64 0,.string ⟨#[]⟩]:=(Blk.Yb b1).2.2.over b2
 have a2:Below w.heap.size w w2:=Xx ((Wv _ _ _ _).trans (b1.mono (by simp only [World.size_alloc];omega))) b2 (Kg _)
 clear hc1 hf1 z12 z11 z10 b1 b2 V1 V2
 go_wp2_with fail
 go_region_held3 (fun w' =>w'.cell? ⟨w.heap.size,0,none⟩=some (.int .i64 2)∧w'.cell? ⟨w.heap.size,1,none⟩=some (.int .i64 1)∧w'.cell? ⟨w.heap.size,2,none⟩=some (.string ⟨#[]⟩)∧w'.cell? ⟨w.heap.size+1,0,none⟩=some (.int .i64 2)∧w'.cell? ⟨w.heap.size+1,1,none⟩=some (.int .i64 1)∧w'.cell? ⟨w.heap.size+1,2,none⟩=some (.string ⟨#[]⟩))
  (first|exact six A2 B2|exact six A3 B3|exact six A4 B4)
  (first
   | (go_at_call 140;((with_reducible refine (Xh _).mono ?_);rintro e w3 ⟨rfl,b3⟩;have A3:Blk w3 w.heap.size 30 #[.int .i64 2,.int .i64 1,.string ⟨#[]⟩]:=(b3.block _ A2.lt).trans A2;have B3:Blk w3 (w.heap.size+1) 30 #[.int .i64 2,.int .i64 1,.string ⟨#[]⟩]:=(b3.block _ B2.lt).trans B2;have R3:Blk w3 (w.heap.size+1+1) 30 #[.int .i64 0,.int .i64 0,.string ⟨#[]⟩]:=(b3.block _ R2.lt).trans R2))
   | (go_at_call 140;((with_reducible refine (Xh _).mono ?_);rintro e w4 ⟨rfl,b4⟩;have A4:Blk w4 w.heap.size 30 #[.int .i64 2,.int .i64 1,.string ⟨#[]⟩]:=(b4.block _ A3.lt).trans A3;have B4:Blk w4 (w.heap.size+1) 30 #[.int .i64 2,.int .i64 1,.string ⟨#[]⟩]:=(b4.block _ B3.lt).trans B3;have R4:Blk w4 (w.heap.size+1+1) 30 #[.int .i64 0,.int .i64 0,.string ⟨#[]⟩]:=(b4.block _ R3.lt).trans R3)))
 obtain ⟨c0,c1,c2,cl⟩:=A4.c3
 obtain ⟨d0,d1,d2,dl⟩:=B4.c3
 obtain ⟨r0,r1,r2,rl⟩:=R4.c3
 have f0:=R4.frozen 0;have f1:=R4.frozen 1;have f2:=R4.frozen 2
 have a3:Below w.heap.size w w3:=(a2.drew).trans (b3.mono a2.size)
 have a4:Below w.heap.size w w4:=a3.trans (b4.mono a3.size)
 go_wp2_with fail
 refine (WY _ _).mono ?_
 rintro e w5 ⟨rfl,b5⟩
 have R5:=R4.over b5
 obtain ⟨s0,s1,s2,sl⟩:=R5.c3
 have g0:=R5.frozen 0;have g1:=R5.frozen 1;have g2:=R5.frozen 2
 go_wp2_with fail
 refine bodyPost_ret (v:=.tuple #[.agg #[.int .i64 2,.int .i64 _,.string ⟨#[]⟩],.bool true]) (by simp [results,Tryz.results176,go_sem,s0,s1,s2,sl]) rfl ⟨rfl,?_⟩
 exact WZ (a4.trans (b5.mono a4.size)) (by omega) _ _ _
theorem ZjK (x y:Option Bool):Gives 176 #[tv x,tv y] (.tuple #[tv (ZeN x y),.bool true]):=by
 rcases x with _|_|_<;>rcases y with _|_|_
 ·exact ZjB
 ·exact ZjC
 ·exact ZjD
 ·exact ZjE
 ·exact ZjF
 ·exact ZjG
 ·exact ZjH
 ·exact ZjI
 ·exact ZjJ
end
end Go.Proofs.YtnmnkbnmollpmaaGreatDoor

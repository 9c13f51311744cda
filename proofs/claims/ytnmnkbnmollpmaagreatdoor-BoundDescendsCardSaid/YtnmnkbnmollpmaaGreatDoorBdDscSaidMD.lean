import Derived.Test.YtnmnkbnmollpmaaGreatDoorBdDscSaidMA
import Derived.Lib.Mul64
import Derived.Test.YtnmnkbnmollpmaaGreatDoorRows
set_option linter.unusedVariables false
set_option linter.unusedSimpArgs false
set_option maxHeartbeats 64000000
set_option maxRecDepth 100000
namespace Go.Proofs.YtnmnkbnmollpmaaGreatDoor
section
open Go.RowKit
def fit (x:Int):Bool:=decide (-9223372036854775808≤x∧x≤9223372036854775807)
def nv (x:Int):Int:=if fit x then x else 0
theorem Zbt {x:Int}:fit x=true↔-9223372036854775808≤x∧x≤9223372036854775807:=by simp [fit]
theorem Zb9 {x:Int} (h:fit x=true):nv x=x:=by simp [nv,h]
theorem ZiR {x:Int} (h:fit x=false):nv x=0:=by simp [nv,h]
theorem ZcG {a b:Int} {c d:Bool} (h:a=b) (k:c=d):Ending.returned (.tuple #[.int .i64 a,.bool c])=.returned (.tuple #[.int .i64 b,.bool d]):=by rw [h,k]
def hi (z:Int):Int:=z / 18446744073709551616
def lo (z:Int):Int:=z % 18446744073709551616
theorem Jf (z:Int):0≤lo z∧lo z<18446744073709551616:=by unfold lo;omega
def YQ (z:Int):Prop:=I64 (hi z)
theorem ZeH (x y c:Int) (hx:0≤x∧x<18446744073709551616) (hy:0≤y∧y<18446744073709551616) (hc:0≤c∧c≤1) (w:World):
  (callFunc 230 #[.int .u64 x,.int .u64 y,.int .u64 c]).run Tryz.prog w=
   .ok (.value (.tuple #[.int .u64 ((x+y+c) % 18446744073709551616),.int .u64 ((x+y+c) / 18446744073709551616)])) w:=by
 obtain ⟨x,rfl⟩:=Int.eq_ofNat_of_zero_le hx.1
 obtain ⟨y,rfl⟩:=Int.eq_ofNat_of_zero_le hy.1
 obtain ⟨c,rfl⟩:=Int.eq_ofNat_of_zero_le hc.1
 rw [run_callFunc_extern Tryz.func230 (by kernel_rfl) (by kernel_rfl) (by kernel_rfl) (e:=add64Entry) (by kernel_rfl),run_add64 x y c (by omega) (by omega) (by omega) (by omega)]
 simp only [Result.andThen]
theorem ZeI (x y:Int) (hx:0≤x∧x<18446744073709551616) (hy:0≤y∧y<18446744073709551616) (w:World):
  (callFunc 230 #[.int .u64 x,.int .u64 y,.int .u64 0]).run Tryz.prog w=
   .ok (.value (.tuple #[.int .u64 ((x+y) % 18446744073709551616),.int .u64 ((x+y) / 18446744073709551616)])) w:=by
 simpa using ZeH x y 0 hx hy (by omega) w
theorem ZmA (h:Int) (hh:I64 h):bits .xor .i64 (-1) h=-1 - h:=by
 show IntKind.i64.wrap ((BitVec.ofInt 64 (-1) ^^^ BitVec.ofInt 64 h).toNat:Int)=_
 have e:BitVec.ofInt 64 (-1)=BitVec.allOnes 64:=by decide
 unfold I64 at hh
 rw [e,BitVec.allOnes_xor,BitVec.toNat_not,BitVec.toNat_ofInt,Kn]
 omega
theorem ZmB (l:Int) (h0:0≤l∧l<18446744073709551616):bits .xor .u64 IntKind.u64.max l=18446744073709551615 - l:=by
 show IntKind.u64.wrap ((BitVec.ofInt 64 IntKind.u64.max ^^^ BitVec.ofInt 64 l).toNat:Int)=_
 have e:BitVec.ofInt 64 IntKind.u64.max=BitVec.allOnes 64:=by decide
 rw [e,BitVec.allOnes_xor,BitVec.toNat_not,BitVec.toNat_ofInt,IntKind.wrap_u64]
 omega
theorem Zcb (a:Int) (w:World) (ha:I64 a):
  Calls Tryz.prog 224 #[.int .i64 a] w fun e w' =>e=.returned (.agg #[.int .i64 (hi a),.int .u64 (lo a)])∧Below w.heap.size w w' :=by
 have e1:a / 9223372036854775808=hi a:=by unfold I64 at ha;unfold hi;omega
 have e2:IntKind.u64.wrap a=lo a:=by rw [IntKind.wrap_u64];rfl
 obtain ⟨ha0,ha1⟩:=ha
 go_enter Tryz.func224,Tryz.ntmps224
 go_wp2
 refine bodyPost_ret (v:=.agg #[.int .i64 (hi a),.int .u64 (lo a)]) (by simp [results,Tryz.results224,go_sem]) rfl ⟨rfl,(Below.refl _ _).alloc (Nat.le_refl _) _⟩
theorem ZiH (z:Int) (w:World) (hz:YQ z):
  Calls Tryz.prog 225 #[.agg #[.int .i64 (hi z),.int .u64 (lo z)]] w fun e w' =>e=.returned (.tuple #[.int .i64 (nv z),.bool (fit z)])∧Below w.heap.size w w' :=by
 have hl:=Jf z
 by_cases f:fit z=true
 ·have f' :=Zbt.1 f
  have e1:(wrap64 (lo z) / 9223372036854775808 !=hi z)=false:=by
   rw [bne_eq_false_iff_eq];unfold wrap64 lo hi;omega
  have e2:Hid (wrap64 (lo z)=nv z):=by
   unfold Hid;rw [Zb9 f];unfold wrap64 lo;omega
  clear f'
  have F:=hid f;clear f
  go_enter Tryz.func225,Tryz.ntmps225
  go_wp2
  go_ret2
  exact ⟨ZcG e2.out F.out.symm,(Below.refl _ _).alloc (Kg _) _⟩
 ·have g:fit z=false:=by simpa using f
  have e1:(wrap64 (lo z) / 9223372036854775808 !=hi z)=true:=by
   rw [bne_iff_ne];intro e;apply f;rw [Zbt];revert e;unfold wrap64 lo hi;omega
  have F:=hid g;clear g f
  go_enter Tryz.func225,Tryz.ntmps225
  go_wp2
  go_ret2
  exact ⟨ZcG (ZiR F.out).symm F.out.symm,(Below.refl _ _).alloc (Kg _) _⟩
theorem Zcn (x y:Int) (w:World) (hx:YQ x) (hy:YQ y) (hs:YQ (x+y)):
  Calls Tryz.prog 223 #[.agg #[.int .i64 (hi x),.int .u64 (lo x)],.agg #[.int .i64 (hi y),.int .u64 (lo y)]] w fun e w' =>e=.returned (.agg #[.int .i64 (hi (x+y)),.int .u64 (lo (x+y))])∧Below w.heap.size w w' :=by
 have lx:=Jf x
 have ly:=Jf y
 have eh:Hid (wrap64 (wrap64 (hi x+hi y)+(lo x+lo y) / 18446744073709551616)=hi (x+y)):=by
  unfold Hid wrap64;unfold YQ I64 at hx hy hs;unfold hi lo at *;omega
 have el:Hid ((lo x+lo y) % 18446744073709551616=lo (x+y)):=by
  unfold Hid lo;omega
 go_enter Tryz.func223,Tryz.ntmps223
 go_wp2_with (simp only [ZeI _ _ lx ly])
 refine bodyPost_ret (v:=.agg #[.int .i64 (wrap64 (wrap64 (hi x+hi y)+(lo x+lo y) / 18446744073709551616)),.int .u64 ((lo x+lo y) % 18446744073709551616)]) (by simp [results,Tryz.results223,go_sem]) rfl ⟨by rw [eh.out,el.out],?_⟩
 exact (((Below.refl _ _).alloc (Nat.le_refl _) _).alloc (by simp) _).alloc (by simp;omega) _
theorem Zjl (x:Int) (w:World) (hx:YQ (-x - 1)) (hs:YQ (-x)):
  Calls Tryz.prog 223 #[.agg #[.int .i64 (hi (-x - 1)),.int .u64 (lo (-x - 1))],.agg #[.int .i64 0,.int .u64 1]] w fun e w' =>e=.returned (.agg #[.int .i64 (hi (-x)),.int .u64 (lo (-x))])∧Below w.heap.size w w' :=by
 have h:=Zcn (-x - 1) 1 w hx (by unfold YQ I64 hi;omega) (by rw [show -x - 1+1=-x from by omega];exact hs)
 rw [show -x - 1+1=-x from by omega,show hi 1=0 from by decide,show lo 1=1 from by decide] at h
 exact h
theorem Ziv (x:Int) (w:World) (hx:YQ x) (hs:YQ (-x)):
  Calls Tryz.prog 226 #[.agg #[.int .i64 (hi x),.int .u64 (lo x)]] w fun e w' =>e=.returned (.agg #[.int .i64 (hi (-x)),.int .u64 (lo (-x))])∧Below w.heap.size w w' :=by
 have lx:=Jf x
 have e1:bits .xor .i64 (-1) (hi x)=hi (-x - 1):=by
  rw [ZmA _ hx];unfold hi;omega
 have e2:bits .xor .u64 IntKind.u64.max (lo x)=lo (-x - 1):=by
  rw [ZmB _ lx];unfold lo;omega
 have h3:YQ (-x - 1):=by unfold YQ I64 at *;unfold hi at *;omega
 have H3:=hid h3
 have Hs:=hid hs
 clear h3 hs
 go_enter Tryz.func226,Tryz.ntmps226
 go_wp2_with fail
 refine (Zjl x _ H3.out Hs.out).mono ?_
 rintro e w1 ⟨rfl,hb⟩
 obtain ⟨hc,hf⟩:=Wq hb
 have hz:w.heap.size+1<w1.heap.size:=by have:=hb.size;simp at this;omega
 go_wp2
 refine bodyPost_ret (v:=.agg #[.int .i64 (hi (-x)),.int .u64 (lo (-x))]) (by simp [results,Tryz.results226,go_sem,hc]) rfl ⟨rfl,?_⟩
 exact (((((Below.refl _ _).alloc (Nat.le_refl _) _).alloc (by simp) _).trans (hb.mono (by simp;omega))).setCell (by simp) _).setCell (by simp) _
theorem JQ {z:Int} (h:-170141183460469231731687303715884105728≤z∧z<170141183460469231731687303715884105728):YQ z:=by
 unfold YQ I64 hi;omega
theorem ZkG (a b:Int) (w:World) (ha:I64 a) (hb:I64 b):
  Calls Tryz.prog 204 #[.int .i64 a,.int .i64 b] w fun e w' =>e=.returned (.tuple #[.int .i64 (nv (a - b)),.bool (fit (a - b))])∧Below w.heap.size w w' :=by
 have wa:YQ a:=JQ (by unfold I64 at ha;omega)
 have wb:YQ b:=JQ (by unfold I64 at hb;omega)
 have wn:YQ (-b):=JQ (by unfold I64 at hb;omega)
 have ws:YQ (a+-b):=JQ (by unfold I64 at ha hb;omega)
 go_enter Tryz.func204,Tryz.ntmps204
 go_wp2_with fail
 refine (Zcb a _ ha).mono ?_
 rintro e w1 ⟨rfl,b1⟩
 go_wp2_with fail
 refine (Zcb b _ hb).mono ?_
 rintro e w2 ⟨rfl,b2⟩
 go_wp2_with fail
 refine (Ziv b _ wb wn).mono ?_
 rintro e w3 ⟨rfl,b3⟩
 go_wp2_with fail
 refine (Zcn a (-b) _ wa wn ws).mono ?_
 rintro e w4 ⟨rfl,b4⟩
 go_wp2_with fail
 refine (ZiH (a+-b) _ ws).mono ?_
 rintro e w5 ⟨rfl,b5⟩
 go_wp2
 go_ret2
 exact ⟨by rw [Int.sub_eq_add_neg];rfl,Xx (Xx (Xx (Xx b1 b2 (Kg _)) b3 (Kg _)) b4 (Kg _)) b5 (Kg _)⟩
end
section
open Go.RowKit Go.Lib
end
section
open Go.RowKit
end
section
open Go.ChangeShapes Go.WideShapes Go.ChangeAt Go.RowKit
theorem own:ownKnob Tryz.prog.godebug=none:=by kernel_rfl
theorem laidOut:laidOutB Tryz.prog=true:=by kernel_rfl
theorem ZbL {x:Int} (h:(Lit.int .i64 x).wf=true):I64 x:=by
 simp [Lit.wf,IntKind.min,IntKind.max,IntKind.signed,IntKind.bits] at h
 exact ⟨by omega,by omega⟩
end
end Go.Proofs.YtnmnkbnmollpmaaGreatDoor

import Derived.Test.YtnmnkbnmollpmaaGreatDoorBdDscSaidMM
import Derived.Test.YtnmnkbnmollpmaaGreatDoorBdDscSaidML
import Derived.Test.YtnmnkbnmollpmaaGreatDoorBdDscSaidMK
import Derived.Laws.CopyOwn
set_option linter.unusedVariables false
set_option linter.unusedSimpArgs false
set_option maxHeartbeats 64000000
set_option maxRecDepth 100000
namespace Go.Proofs.YtnmnkbnmollpmaaGreatDoor
section
open Go.RowKit
theorem Tryz.Za4:ElemT Tryz.prog 83 231 4 72 (.agg #[.string ⟨#[]⟩,.bool false,.slice none 0 0,.slice none 0 0]):=⟨Tryz.underlying83,by kernel_rfl,rfl,by omega⟩
theorem ZiY (l:List Fr):∀ u∈Qc l,u.oneCell' =true:=fun u hu=>by
 unfold Qc at hu
 rw [List.mem_flatMap] at hu
 obtain ⟨x,_,hx⟩:=hu
 simp only [Fr.cells,List.mem_cons,List.not_mem_nil,or_false] at hx
 rcases hx with rfl|rfl|rfl|rfl<;>rfl
theorem Zi2 (l:List ByteArray):∀ u∈l.flatMap Yg,u.oneCell' =true:=fun u hu=>by
 rw [List.mem_flatMap] at hu
 obtain ⟨x,_,hx⟩:=hu
 simp only [Yg,SlP.v,List.mem_cons,List.not_mem_nil,or_false] at hx
 rcases hx with rfl<;>rfl
theorem Zi0 (l:List Rk):∀ u∈l.flatMap Rk.cells,u.oneCell' =true:=fun u hu=>by
 rw [List.mem_flatMap] at hu
 obtain ⟨x,_,hx⟩:=hu
 simp only [Rk.cells,SlP.v,List.mem_cons,List.not_mem_nil,or_false] at hx
 rcases hx with rfl|rfl|rfl|rfl<;>rfl
theorem Tryz.ZgG:ElemT Tryz.prog 46 9 1 16 (.string ⟨#[]⟩):=⟨Tryz.underlying46,by kernel_rfl,rfl,by omega⟩
theorem Tryz.ZgB:ElemT Tryz.prog 28 27 4 48 (.agg #[.string ⟨#[]⟩,.string ⟨#[]⟩,.int .i64 0,.int .i64 0]):=⟨Tryz.underlying28,by kernel_rfl,rfl,by omega⟩
theorem Tryz.ZgH:ElemT Tryz.prog 61 48 11 200 (.agg #[.string ⟨#[]⟩,.string ⟨#[]⟩,.bool false,.int .i64 0,.slice none 0 0,.bool false,.slice none 0 0,.slice none 0 0,.slice none 0 0,.slice none 0 0,.slice none 0 0]):=⟨Tryz.underlying61,by kernel_rfl,rfl,by omega⟩
theorem Gs (M:Nat→Prop) (w:World) (hM:∀ b,M b→b<w.heap.size) (A:Option Addr) (n c:Nat) (l:List ByteArray) (hD:Ro w M (SlR 1 A n (l.flatMap Yg))) (hl:l.length=n) (hn:n≤1000):
  Calls Tryz.prog 182 #[.slice A n c] w fun e w' =>UN 1 (l.flatMap Yg) n w M e w' :=by
 have hq:∀ (w:World) (a:Option Addr) (n c:Nat),(binOp .eql 46 (.slice a n c) (.slice none 0 0)).run Tryz.prog w=.ok (.bool a.isNone) w:=fun w a n c=>Go.Lib.run_eql_slice_nil w _ _ a n c 0 0 Tryz.underlying46
 rcases A with _|a
 ·have h0:n=0:=by
   rcases Nat.eq_zero_or_pos n with h|h
   ·exact h
   ·obtain ⟨_,_,e,_⟩:=(show Rd w w.heap.size 1 none n (l.flatMap Yg) from hD.now).2 h;cases e
  subst h0
  obtain rfl:l=[]:=List.length_eq_zero_iff.1 hl
  go_enter Tryz.func182,Tryz.ntmps182
  go_wp2_with fail
  go_ret
  exact ⟨none,0,0,rfl,rfl,by omega,by omega,WW,Below.refl _ _⟩
 ·have K0:=(Hold.start M w hM).add (hD.less (by simp [Mut]))
  have K1:=K0.QN #[] 9 1 0 (by unfold maxLen;omega) rfl
  have hr:=hid (show SlR 1 (some a) n (l.flatMap Yg) _ from (K1.ro 1 rfl).now)
  have h1:=hid (Zi2 l)
  clear hl
  go_enter Tryz.func182,Tryz.ntmps182
  go_wp2_with (at_builtin;go_must (refine ZX K1 0 rfl Tryz.ZgG hr.out rfl (.tmp 5) (.tmp 6) rfl rfl rfl h1.out (by omega) (by omega) ?_);intro C' cap' w2 hc1 hm1 K2)
  have KS:=K2.Zq 0 rfl
  go_ret
  simp only [Nat.zero_add,List.nil_append,List.set_cons_zero] at KS hc1
  exact ⟨C',n,cap',by first|rfl|simp,rfl,hc1,hm1,KS.ZN 0 rfl,KS.below⟩
theorem Zfz (M:Nat→Prop) (w:World) (hM:∀ b,M b→b<w.heap.size) (A:Option Addr) (n c:Nat) (l:List Rk) (hD:Ro w M (SlR 4 A n (l.flatMap Rk.cells))) (hl:l.length=n) (hn:n≤1000):
  Calls Tryz.prog 183 #[.slice A n c] w fun e w' =>UN 4 (l.flatMap Rk.cells) n w M e w' :=by
 have hq:∀ (w:World) (a:Option Addr) (n c:Nat),(binOp .eql 28 (.slice a n c) (.slice none 0 0)).run Tryz.prog w=.ok (.bool a.isNone) w:=fun w a n c=>Go.Lib.run_eql_slice_nil w _ _ a n c 0 0 Tryz.underlying28
 rcases A with _|a
 ·have h0:n=0:=by
   rcases Nat.eq_zero_or_pos n with h|h
   ·exact h
   ·obtain ⟨_,_,e,_⟩:=(show Rd w w.heap.size 4 none n (l.flatMap Rk.cells) from hD.now).2 h;cases e
  subst h0
  obtain rfl:l=[]:=List.length_eq_zero_iff.1 hl
  go_enter Tryz.func183,Tryz.ntmps183
  go_wp2_with fail
  go_ret
  exact ⟨none,0,0,rfl,rfl,by omega,by omega,WW,Below.refl _ _⟩
 ·have K0:=(Hold.start M w hM).add (hD.less (by simp [Mut]))
  have K1:=K0.QN #[] 27 4 0 (by unfold maxLen;omega) rfl
  have hr:=hid (show SlR 4 (some a) n (l.flatMap Rk.cells) _ from (K1.ro 1 rfl).now)
  have h1:=hid (Zi0 l)
  clear hl
  go_enter Tryz.func183,Tryz.ntmps183
  go_wp2_with (at_builtin;go_must (refine ZX K1 0 rfl Tryz.ZgB hr.out rfl (.tmp 5) (.tmp 6) rfl rfl rfl h1.out (by omega) (by omega) ?_);intro C' cap' w2 hc1 hm1 K2)
  have KS:=K2.Zq 0 rfl
  go_ret
  simp only [Nat.zero_add,List.nil_append,List.set_cons_zero] at KS hc1
  exact ⟨C',n,cap',by first|rfl|simp,rfl,hc1,hm1,KS.ZN 0 rfl,KS.below⟩
def ZE:ByteArray:=⟨#[117]⟩
def Zr:ByteArray:=⟨#[110]⟩
def J9 (tabs:List (ByteArray × List Col)):Prop:=∃ x,tabs.find? (fun x=>decide (x.1=ZE))=some x∧WJ x.2 Zr=true
def QE (lo hi:Int) (t:Tg):Prop:=t.before=false∧t.rank.l=[⟨ZE,Zr,lo,hi⟩]∧∃ a,t.acts.l=[a]∧XH ZE Zr 1 lo hi a
theorem Zfr {d:Nat} {t:Tg} {ts:List Tg} {tabs:List (ByteArray × List Col)} {r:Rk} (hb:t.before=false) (hr:t.rank.l=[r]):YO d (t::ts) tabs 0=Vs d (t::ts) tabs t r:=by
 simp [YO,hb,hr]
theorem ZjL {d:Nat} {t:Tg} {ts:List Tg} {tabs:List (ByteArray × List Col)} {lo hi:Int} (h:J9 tabs):Vs d ts tabs t ⟨ZE,Zr,lo,hi⟩=((decide (lo≤hi)&&decide (hi - lo≤1048576))&&Wh d t ⟨ZE,Zr,lo,hi⟩&&XR ts ⟨ZE,Zr,lo,hi⟩):=by
 obtain ⟨x,h1,h2⟩:=h
 simp [Vs,h1,h2]
theorem Zf6 {d:Nat} {t:Tg} {lo hi:Int} (h:QE lo hi t) (h3:I64 lo) (h4:I64 hi):Wh (d+1) t ⟨ZE,Zr,lo,hi⟩=true:=by
 obtain ⟨_,_,a,ha,hl⟩:=h
 simp [Wh,ha,Zik d hl (by decide) h3 h4]
theorem Zf7 {t:Tg} {lo hi L H:Int} (h:QE lo hi t):Xu ⟨ZE,Zr,L,H⟩ t=true:=by
 obtain ⟨hb,_,a,ha,hl⟩:=h
 simp [Xu,hb,ha,Zij hl (by decide)]
theorem Zfs {d:Nat} {t:Tg} {lo hi:Int} {tabs:List (ByteArray × List Col)} (hT:J9 tabs) (h:QE lo hi t) (h3:I64 lo) (h4:I64 hi) (h5:lo≤hi) (h6:hi - lo≤1048576):YO (d+1) [t] tabs 0=true:=by
 rw [Zfr h.1 h.2.1,ZjL hT,Zf6 h h3 h4]
 simp [XR,Zf7 h,h5,h6]
end
end Go.Proofs.YtnmnkbnmollpmaaGreatDoor

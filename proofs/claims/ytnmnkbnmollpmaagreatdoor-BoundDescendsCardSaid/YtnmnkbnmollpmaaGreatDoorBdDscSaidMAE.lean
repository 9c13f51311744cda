import Derived.Test.YtnmnkbnmollpmaaGreatDoorBdDscSaidMZ
import Derived.Test.YtnmnkbnmollpmaaGreatDoorBdDscSaidMAC
set_option linter.unusedVariables false
set_option linter.unusedSimpArgs false
set_option maxHeartbeats 64000000
set_option maxRecDepth 100000
namespace Go.Proofs.YtnmnkbnmollpmaaGreatDoor
section
open Go.RowKit
def ZdO (w:World) (M:Nat→Prop) (n:Nat) (l:List Te) (e:Ending) (w' :World):Prop:=∃ (C:Option Addr) (c:Nat),e=.returned (.slice C n c)∧Ro w' M (TesIn C n l)∧Below w.heap.size w w'
theorem Zcr (M:Nat→Prop) (w:World) (hM:∀ b,M b→b<w.heap.size) (A:Option Addr) (n c:Nat) (l:List Te) (B:Option Addr) (m d:Nat) (k:List Te) (hD:Ro w M (TesIn A n l)) (hE:Ro w M (TesIn B m k)) (hn:n≤1000) (hm:m≤1000):Calls Tryz.prog 22 #[.slice A n c,.slice B m d] w fun e w' =>ZdO w M (n+m) (l++k) e w' :=by
 have K0:=(((Hold.start M w hM).add (hE.less (by simp [Mut]))).add (hD.less (by simp [Mut,Hp.foot]))).nil 69 4
 have HA:=hid (show SlR 4 A n (ZC l) _ from (K0.ro 1 rfl).now.1)
 clear hD hE
 go_enter Tryz.func22,Tryz.ntmps22
 go_wp2_with (at_builtin;first|(refine ZX K0 0 rfl Tryz.Un HA.out rfl (.const (.slice none 0 0)) (.tmp 5) rfl rfl rfl (Zck l) (by omega) (by omega) ?_;intro C1 cap1 wA hcA hmA KB;simp only [Nat.zero_add] at hcA ⊢;simp only [Nat.zero_add,List.nil_append,List.set_cons_zero,List.set_cons_succ] at KB;(have HB:=hid (show SlR 4 B m (ZC k) _ from (KB.ro 2 rfl).now.1)))|(refine ZX KB 0 rfl Tryz.Un HB.out rfl (.tmp 6) (.tmp 7) rfl rfl rfl (Zck k) (by omega) (by omega) ?_;intro C2 cap2 wB hcB hmB KE;simp only [zl] at KE))
 have KZ:=KE.Zq 0 rfl
 simp only [zl] at KZ
 have hR:Ro _ _ (TesIn C2 (n+m) (l++k)):=((KZ.ro 0 rfl).and ((KZ.ro 1 rfl).and (KZ.ro 2 rfl))).imp fun w2 h2=>⟨by
   have h3:=h2.1
   rw [show ZC l++ZC k=ZC (l++k) by simp [ZC]] at h3
   exact h3,fun x hx=>by
   rcases Kk.1 hx with hx|hx
   ·exact h2.2.1.2 x hx
   ·exact h2.2.2.2 x hx⟩
 have HR:=hid (hR.less zm)
 have HZ:=hid KZ.below
 clear KZ KE hR KB K0
 go_ret
 exact ⟨_,_,rfl,HR.out,HZ.out⟩
end
end Go.Proofs.YtnmnkbnmollpmaaGreatDoor

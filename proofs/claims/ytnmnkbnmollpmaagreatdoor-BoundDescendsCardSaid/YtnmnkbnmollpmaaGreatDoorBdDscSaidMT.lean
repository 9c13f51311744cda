import Derived.Test.YtnmnkbnmollpmaaGreatDoorBdDscSaidMP
import Derived.Test.YtnmnkbnmollpmaaGreatDoorBdDscSaidMN
import Derived.Test.YtnmnkbnmollpmaaGreatDoorBdDscSaidMO
set_option linter.unusedVariables false
set_option linter.unusedSimpArgs false
set_option maxHeartbeats 64000000
set_option maxRecDepth 100000
namespace Go.Proofs.YtnmnkbnmollpmaaGreatDoor
section
open Go.RowKit
theorem ZkC (w:World) (nm:ByteArray) (A:Option Addr) (n c:Nat) (cs:List Col) (nm2:ByteArray) (B:Option Addr) (m d:Nat) (ds:List Col) (hD:ColsIn A n cs w) (hE:ColsIn B m ds w) (hn:n≤4398046511104):
  Calls Tryz.prog 58 #[.agg #[.string nm,.slice A n c],.agg #[.string nm2,.slice B m d]] w fun e w' =>e=.returned (.bool (decide (nm=nm2∧cs=ds)))∧Below w.heap.size w w' :=by
 have HL:=hid (show cs.length=n from Ul hD)
 have HK:=hid (show ds.length=m from Ul hE)
 have K0:=((((Hold.start Zc w (fun b hb=>hb.elim)).add (Rd.ro hE (Nat.le_refl _) (by simp [Mut,Zc]):Ro w _ (ColsIn B m ds))).add (Rd.ro hD (Nat.le_refl _) (by simp [Mut,Zc,Hp.foot]):Ro w _ (ColsIn A n cs))).Za #[.string nm,.slice A n c] 66).Za #[.string nm2,.slice B m d] 66
 rw [KP] at K0
 have F0:=K0.facts
 simp only [zg] at F0
 clear hD hE
 by_cases hi:nm=nm2
 ·subst hi
  have h1:(nm.toList==nm.toList)=true:=by simp
  have h1' :(nm.toList !=nm.toList)=false:=by simp
  by_cases hnm:n=m
  ·subst hnm
   have hb:((n:Int) !=(n:Int))=false:=by simp
   go_enter Tryz.func58,Tryz.ntmps58
   go_wp2_with fail
   obtain ⟨g2,hg2⟩:∃ g,g=w.heap.size:=⟨_,rfl⟩
   obtain ⟨g3,hg3⟩:∃ g,g=g2+1:=⟨_,rfl⟩
   rw [←hg2,←hg3] at K0 ⊢
   clear F0
   generalize (w.alloc _).alloc _=w1 at K0 ⊢
   have HG:=hid hg2
   clear hg2 hg3
   go_loopw [23] (fun iv wr=>∃ (k:Nat),k≤n∧iv=.int .i64 k∧Hid (cs.take k=ds.take k)∧Hold Zc none w wr [.cst g3 66 #[.string nm,.slice B n d],.cst g2 66 #[.string nm,.slice A n c],.ro (ColsIn A n cs),.ro (ColsIn B n ds)]) (fun iv _=>n - (intOf iv).toNat)
   case atStart=>exact ⟨0,by omega,rfl,hid (by simp),K0⟩
   case round=>
    clear K0
    obtain ⟨k,hk,rfl,HTK,H⟩:=hrel
    have F:=H.facts
    simp only [zg] at F
    by_cases hlt:k<n
    ·have hd:decide ((k:Int)<(n:Int))=true:=by simp;omega
     have i0:(0:Int)≤(k:Int):=by omega
     have i1:(k:Int)<(n:Int):=by omega
     obtain ⟨x,hx⟩:=Zl HL.out hlt
     obtain ⟨y,hy⟩:=Zl HK.out hlt
     obtain ⟨g,o,rfl,hbx,x0,x1,x2,x3⟩:=(RdC.ZW (H.ro 2 rfl).now).at_ hx
     obtain ⟨g',o',rfl,hby,y0,y1,y2,y3⟩:=(RdC.ZW (H.ro 3 rfl).now).at_ hy
     have HX:=hid hx;have HY:=hid hy;clear hx hy
     by_cases h0:x.name=y.name
     ·have e0:(x.name.toList==y.name.toList)=true:=by simp [h0]
      by_cases h1:x.ty=y.ty
      ·have e1:(x.ty==y.ty)=true:=by simp [h1]
       by_cases h2:x.nn=y.nn
       ·have e2:(x.nn==y.nn)=true:=by simp [h2]
        by_cases h3:x.key=y.key
        ·have e3:(x.key==y.key)=true:=by simp [h3]
         have HXY:=hid (show x=y by cases x;cases y;simp_all)
         clear h0 h1 h2 h3
         go_wp2_with fail
         go_quiet (fail)
         have HZ:=H.drewN nq
         go_wp2_with fail
         go_roundw
         case rel=>exact ⟨k+1,by omega,by go_num,hid (Zdq HX.out HY.out HTK.out HXY.out),HZ⟩
         case measure=>simp [intOf];omega
        ·have e3:(x.key==y.key)=false:=by simpa using h3
         have HN:=hid (show decide (nm=nm∧cs=ds)=false from by rw [decide_eq_false_iff_not];rintro ⟨_,h⟩;exact Qy HX.out HY.out (by intro h;exact h3 (by rw [h])) h)
         clear h0 h1 h2 h3
         go_wp2_with fail
         go_quiet (fail)
         have HZ:=H.drewN nq
         go_wp2_with fail
         go_ret
         exact ⟨by rw [HN.out]<;>rfl,HZ.below⟩
       ·have e2:(x.nn==y.nn)=false:=by simpa using h2
        have HN:=hid (show decide (nm=nm∧cs=ds)=false from by rw [decide_eq_false_iff_not];rintro ⟨_,h⟩;exact Qy HX.out HY.out (by intro h;exact h2 (by rw [h])) h)
        clear h0 h1 h2
        go_wp2_with fail
        go_quiet (fail)
        have HZ:=H.drewN nq
        go_wp2_with fail
        go_ret
        exact ⟨by rw [HN.out]<;>rfl,HZ.below⟩
      ·have e1:(x.ty==y.ty)=false:=by simpa using h1
       have HN:=hid (show decide (nm=nm∧cs=ds)=false from by rw [decide_eq_false_iff_not];rintro ⟨_,h⟩;exact Qy HX.out HY.out (by intro h;exact h1 (by rw [h])) h)
       clear h0 h1
       go_wp2_with fail
       go_quiet (fail)
       have HZ:=H.drewN nq
       go_wp2_with fail
       go_ret
       exact ⟨by rw [HN.out]<;>rfl,HZ.below⟩
     ·have e0:(x.name.toList==y.name.toList)=false:=by rw [beq_eq_false_iff_ne];exact fun h=>h0 (Yc h)
      have HN:=hid (show decide (nm=nm∧cs=ds)=false from by rw [decide_eq_false_iff_not];rintro ⟨_,h⟩;exact Qy HX.out HY.out (by intro h;exact h0 (by rw [h])) h)
      clear h0
      go_wp2_with fail
      go_quiet (fail)
      have HZ:=H.drewN nq
      go_wp2_with fail
      go_ret
      exact ⟨by rw [HN.out]<;>rfl,HZ.below⟩
    ·obtain rfl:n=k:=by omega
     have hd:decide ((n:Int)<(n:Int))=false:=by simp
     have HE:=hid (show cs=ds from by
      have h:=HTK.out
      rw [Kh (by rw [HL.out];exact Kg _),Kh (by rw [HK.out];exact Kg _)] at h
      simp [h])
     go_wp2_with fail
     go_ret
     exact ⟨congrArg (fun b=>Ending.returned (Value.bool b)) (a₁:=true) (by simp [HE.out]),H.below⟩
  ·have hb:((n:Int) !=(m:Int))=true:=by simp;omega
   have HB:=hid (show ¬cs=ds from by rintro rfl;have:=HL.out;have:=HK.out;omega)
   go_enter Tryz.func58,Tryz.ntmps58
   go_wp2_with fail
   go_ret
   exact ⟨congrArg (fun b=>Ending.returned (Value.bool b)) (a₁:=false) (by simp [HB.out]),K0.below⟩
 ·have h1:(nm.toList==nm2.toList)=false:=by rw [beq_eq_false_iff_ne];exact fun h=>hi (Yc h)
  have h1' :(nm.toList !=nm2.toList)=true:=by rw [bne_iff_ne];exact fun h=>hi (Yc h)
  have HB:=hid (show decide (nm=nm2∧cs=ds)=false by simp [hi])
  clear hi
  go_enter Tryz.func58,Tryz.ntmps58
  go_wp2_with fail
  go_ret
  exact ⟨by rw [HB.out]<;>rfl,K0.below⟩
end
end Go.Proofs.YtnmnkbnmollpmaaGreatDoor

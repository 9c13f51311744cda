import Derived.Test.YtnmnkbnmollpmaaGreatDoorBdDscSaidMO
import Derived.Test.YtnmnkbnmollpmaaGreatDoorBdDscSaidMN
import Derived.Test.YtnmnkbnmollpmaaGreatDoorBdDscSaidMQ
set_option linter.unusedVariables false
set_option linter.unusedSimpArgs false
set_option maxHeartbeats 64000000
set_option maxRecDepth 100000
namespace Go.Proofs.YtnmnkbnmollpmaaGreatDoor
section
open Go.RowKit
structure TgFit (d:Nat) (t:Tg):Prop where
 n:t.acts.n≤4611686018427387904
 s:(ZQ t.acts.l).length≤549755813888
 w:tgW d t≤4398046511104
 a:∀ a∈t.acts.l,a.sets.n≤1000000∧a.wh.n≤9223372036854775807
 r:t.rank.n≤9223372036854775807
def Zen (w:World) (M:Nat→Prop) (t:Tg) (e:Ending) (w' :World):Prop:=∃ (B C:Option Addr) (m c k c2:Nat) (xs:List ByteArray),e=.returned (.tuple #[.slice B m c,.slice C k c2])∧k≤549755813888∧Ro w' M (StrsIn C k xs)∧(∀ s,s∈xs↔(t.before=true∧t.each=true∧s∈YE t))∧Below w.heap.size w w'
theorem ZcK (M:Nat→Prop) (w:World) (hM:∀ b,M b→b<w.heap.size) (t:Tg) (d:Nat) (ha:Ro w M (TgIn d t)) (h:TgFit d t):Calls Tryz.prog 116 #[t.val] w fun e w' =>Zen w M t e w' :=by
 by_cases hb:t.before=true∧t.each=true
 ·refine (Zkn M w hM t d ha (by have:=h.n;omega) h.s h.w hb.1 hb.2).mono ?_
  rintro e w' ⟨B,C,m,c,k,c2,xs,h1,h2,h3,h4,h5⟩
  exact ⟨B,C,m,c,k,c2,xs,h1,h2,h3,fun s=>by rw [h4];simp [hb.1,hb.2],h5⟩
 ·refine (Zkm w t hb).mono ?_
  rintro e w' ⟨h1,h2⟩
  exact ⟨none,none,0,0,0,0,[],h1,by omega,fun _ _ _=>ZG 1 _,fun s=>⟨fun hh=>(nomatch hh),fun hh=>absurd ⟨hh.1,hh.2.1⟩ hb⟩,h2⟩
theorem Zj6 (M:Nat→Prop) (w:World) (hM:∀ b,M b→b<w.heap.size) (A:Option Addr) (n c:Nat) (l:List Tg) (r:Rk) (d:Nat) (ht:Ro w M (TgsIn (d+1) A n l)) (hn:n≤4611686018427387904) (hok:∀ t∈l,TgFit (d+1) t):Calls Tryz.prog 73 #[.slice A n c,r.val] w fun e w' =>e=.returned (.bool (XR l r))∧Below w.heap.size w w' :=by
 have hres:=fun (M:Nat→Prop) (w:World) (hM:∀ b,M b→b<w.heap.size) (A:Option Addr) (n c:Nat) (l:List Ac) (b:Nat) (t:TypeId) (hD:Ro w M (AcsIn (d+1) A n l)) (hB:Ro w M (fun w=>w.heap[b]? =some (.cells #[.string r.tab,.string r.col,.int .i64 r.lo,.int .i64 r.hi] t (0,0)))) (hn:n≤4611686018427387904) (hok:∀ a∈l,a.sets.n≤1000000)=>Zj4 M w hM A n c l r d b t hD hB hn hok
 obtain ⟨rtab,rcol,rlo,rhi⟩:=r
 simp only [Rk.val] at hres ⊢
 have HRES:=hid hres
 have HL:=hid ht.now.len
 have HOK:=hid hok
 have K0:=((Hold.start M w hM).add (ht.less (by simp [Mut]))).Za #[.string rtab,.string rcol,.int .i64 rlo,.int .i64 rhi] 27
 have F0:=K0.facts
 simp only [zg] at F0
 clear ht hok hres
 go_enter Tryz.func73,Tryz.ntmps73
 go_wp2_with fail
 clear F0
 go_loopw [11] (fun i wr=>∃ k:Nat,k≤n∧i=.int .i64 k∧Hid (XR l ⟨rtab,rcol,rlo,rhi⟩=(l.drop k).all (Xu ⟨rtab,rcol,rlo,rhi⟩))∧Hold M none w wr [.cst w.heap.size 27 #[.string rtab,.string rcol,.int .i64 rlo,.int .i64 rhi],.ro (TgsIn (d+1) A n l)]) (fun i _=>n - (intOf i).toNat)
 case atStart=>exact ⟨0,by omega,rfl,hid rfl,K0⟩
 case round=>
  clear K0
  obtain ⟨k,hk,rfl,HF,H⟩:=hrel
  by_cases hlt:k<n
  ·obtain ⟨⟨tname,ttab,tbef,tev,⟨cA,cn,cc,cl⟩,teach,⟨pA,pn,pc,pl⟩,⟨fA,fn,fc,fl⟩,⟨kA,kn,kc,kl⟩,⟨oA,on,oc,ol⟩,⟨uA,un,uc,ul⟩⟩,hc⟩:=Ya HL.out hlt
   obtain ⟨b,o,rfl,hb,hcl,-⟩:=(H.ro 1 rfl).now.at_ hc
   have c0:=hcl 0 _ (by omega) rfl
   have c1:=hcl 1 _ (by omega) rfl
   have c2:=hcl 2 _ (by omega) rfl
   have c3:=hcl 3 _ (by omega) rfl
   have c4:=hcl 4 _ (by omega) rfl
   have c5:=hcl 5 _ (by omega) rfl
   have c6:=hcl 6 _ (by omega) rfl
   have c7:=hcl 7 _ (by omega) rfl
   have c8:=hcl 8 _ (by omega) rfl
   have c9:=hcl 9 _ (by omega) rfl
   have c10:=hcl 10 _ (by omega) rfl
   simp only [Nat.add_zero] at c0
   clear hcl
   simp only [SlP.v] at c4 c6 c7 c8 c9 c10
   have HC:=hid hc;clear hc
   have HO:=HOK.out _ (Ka HC.out)
   have K1:=(H.add (S:=TgIn (d+1) ⟨tname,ttab,tbef,tev,⟨cA,cn,cc,cl⟩,teach,⟨pA,pn,pc,pl⟩,⟨fA,fn,fc,fl⟩,⟨kA,kn,kc,kl⟩,⟨oA,on,oc,ol⟩,⟨uA,un,uc,ul⟩⟩) ((H.ro 1 rfl).imp fun w2 h2=>h2.2 _ (Ka HC.out))).Za #[.string tname,.string ttab,.bool tbef,.int .i64 tev,.slice cA cn cc,.bool teach,.slice pA pn pc,.slice fA fn fc,.slice kA kn kc,.slice oA on oc,.slice uA un uc] 48
   have F1:=K1.facts
   simp only [zg] at F1
   cases hbf:tbef
   ·subst hbf
    have hce:=HRES.out _ _ K1.Zb uA un uc ul w.heap.size 27 ((K1.ro 1 rfl).imp fun w2 h2=>h2.parts.2) (K1.get 2 rfl) HO.n (fun a ha=>(HO.a a ha).1)
    cases hz:ul.all (Xo ⟨rtab,rcol,rlo,rhi⟩)
    ·rw [hz] at hce
     have HZ:=hid (show Xu ⟨rtab,rcol,rlo,rhi⟩ ⟨tname,ttab,false,tev,⟨cA,cn,cc,cl⟩,teach,⟨pA,pn,pc,pl⟩,⟨fA,fn,fc,fl⟩,⟨kA,kn,kc,kl⟩,⟨oA,on,oc,ol⟩,⟨uA,un,uc,ul⟩⟩=false by simp only [Xu];exact hz)
     clear hz
     go_wp2_with fail
     refine hce.mono ?_
     rintro e w1 ⟨rfl,b1⟩
     have K2:=K1.call b1
     go_wp2_with fail
     go_ret
     exact ⟨by rw [show XR l ⟨rtab,rcol,rlo,rhi⟩=false from QM HC.out HZ.out]<;>rfl,K2.below⟩
    ·rw [hz] at hce
     have HZ:=hid (show Xu ⟨rtab,rcol,rlo,rhi⟩ ⟨tname,ttab,false,tev,⟨cA,cn,cc,cl⟩,teach,⟨pA,pn,pc,pl⟩,⟨fA,fn,fc,fl⟩,⟨kA,kn,kc,kl⟩,⟨oA,on,oc,ol⟩,⟨uA,un,uc,ul⟩⟩=true by simp only [Xu];exact hz)
     clear hz
     go_wp2_with fail
     refine hce.mono ?_
     rintro e w1 ⟨rfl,b1⟩
     have K2:=K1.call b1
     go_wp2_with fail
     go_roundw
     case rel=>exact ⟨k+1,by omega,by go_num,hid (VJ HC.out HZ.out HF.out),K2.drop (Ke _ (Ke _ (KR _)))⟩
     case measure=>simp [intOf];omega
   ·subst hbf
    have hce:=ZcK _ _ K1.Zb ⟨tname,ttab,true,tev,⟨cA,cn,cc,cl⟩,teach,⟨pA,pn,pc,pl⟩,⟨fA,fn,fc,fl⟩,⟨kA,kn,kc,kl⟩,⟨oA,on,oc,ol⟩,⟨uA,un,uc,ul⟩⟩ (d+1) (K1.ro 1 rfl) HO
    simp only [Tg.val] at hce
    have HT:=hid (show ∀ xs:List ByteArray,(∀ s,s∈xs↔((⟨tname,ttab,true,tev,⟨cA,cn,cc,cl⟩,teach,⟨pA,pn,pc,pl⟩,⟨fA,fn,fc,fl⟩,⟨kA,kn,kc,kl⟩,⟨oA,on,oc,ol⟩,⟨uA,un,uc,ul⟩⟩:Tg).before=true∧(⟨tname,ttab,true,tev,⟨cA,cn,cc,cl⟩,teach,⟨pA,pn,pc,pl⟩,⟨fA,fn,fc,fl⟩,⟨kA,kn,kc,kl⟩,⟨oA,on,oc,ol⟩,⟨uA,un,uc,ul⟩⟩:Tg).each=true∧s∈YE ⟨tname,ttab,true,tev,⟨cA,cn,cc,cl⟩,teach,⟨pA,pn,pc,pl⟩,⟨fA,fn,fc,fl⟩,⟨kA,kn,kc,kl⟩,⟨oA,on,oc,ol⟩,⟨uA,un,uc,ul⟩⟩))→Xu ⟨rtab,rcol,rlo,rhi⟩ ⟨tname,ttab,true,tev,⟨cA,cn,cc,cl⟩,teach,⟨pA,pn,pc,pl⟩,⟨fA,fn,fc,fl⟩,⟨kA,kn,kc,kl⟩,⟨oA,on,oc,ol⟩,⟨uA,un,uc,ul⟩⟩=!(decide (ttab=rtab)&&decide (tev=2)&&YG xs rcol) by
     intro xs hxs
     have h1:YG xs rcol=(teach&&(YE ⟨tname,ttab,true,tev,⟨cA,cn,cc,cl⟩,teach,⟨pA,pn,pc,pl⟩,⟨fA,fn,fc,fl⟩,⟨kA,kn,kc,kl⟩,⟨oA,on,oc,ol⟩,⟨uA,un,uc,ul⟩⟩).any fun c=>decide (c=rcol)):=by
      rw [ZaR,Bool.eq_iff_iff]
      simp only [Bool.and_eq_true,List.any_eq_true,decide_eq_true_eq]
      constructor
      ·rintro ⟨q,hq,rfl⟩
       have:=(hxs q).1 hq
       exact ⟨this.2.1,q,this.2.2,rfl⟩
      ·rintro ⟨h1,q,hq,rfl⟩
       exact ⟨q,(hxs q).2 ⟨rfl,h1,hq⟩,rfl⟩
     rw [h1]
     simp only [Xu,if_true,Bool.and_assoc])
    go_wp2_with fail
    refine hce.mono ?_
    rintro e w1 ⟨B2,C2,m2,c2',k2,c3',xs,rfl,hk2,rS,hxs,b1⟩
    have hr:=HT.out xs (by simpa using hxs)
    have K2:=(K1.call b1).add rS
    have HK2:=hid hk2
    clear hce K1 F1 b1 rS hxs HT hk2 c0 c1 c2 c3 c4 c5 c6 c7 c8 c9 c10
    have F2:=K2.facts
    simp only [zg] at F2
    by_cases h1:ttab=rtab
    ·subst h1
     by_cases h2:tev=2
     ·subst h2
      have hcs:=JB w1 C2 k2 c3' xs rcol (K2.ro 0 rfl).now (by have:=HK2.out;omega)
      cases hz:YG xs rcol
      ·rw [hz] at hr hcs
       have HZ:=hid (show Xu ⟨ttab,rcol,rlo,rhi⟩ _=true by rw [hr];simp)
       clear hr hz
       go_wp2_with fail
       refine hcs.mono ?_
       rintro e w2 ⟨rfl,rfl⟩
       go_wp2_with fail
       go_roundw
       case rel=>exact ⟨k+1,by omega,by go_num,hid (VJ HC.out HZ.out HF.out),K2.drop (Ke _ (Ke _ (Ke _ (KR _))))⟩
       case measure=>simp [intOf];omega
      ·rw [hz] at hr hcs
       have HZ:=hid (show Xu ⟨ttab,rcol,rlo,rhi⟩ _=false by rw [hr];simp)
       clear hr hz
       go_wp2_with fail
       refine hcs.mono ?_
       rintro e w2 ⟨rfl,rfl⟩
       go_wp2_with fail
       go_ret
       exact ⟨by rw [show XR l ⟨ttab,rcol,rlo,rhi⟩=false from QM HC.out HZ.out]<;>rfl,K2.below⟩
     ·have HZ:=hid (show Xu ⟨ttab,rcol,rlo,rhi⟩ _=true by rw [hr];simp [h2])
      clear hr
      go_wp2_with fail
      all_goals first
       | (exfalso;omega)
       | skip
      go_roundw
      case rel=>exact ⟨k+1,by omega,by go_num,hid (VJ HC.out HZ.out HF.out),K2.drop (Ke _ (Ke _ (Ke _ (KR _))))⟩
      case measure=>simp [intOf];omega
    ·have h1b:¬ttab.toList=rtab.toList:=fun h=>h1 (Yc h)
     have h1c:(ttab.toList==rtab.toList)=false:=by simpa using h1b
     have HZ:=hid (show Xu ⟨rtab,rcol,rlo,rhi⟩ _=true by rw [hr];simp [h1])
     clear hr
     go_wp2_with fail
     all_goals first
      | (exfalso;contradiction)
      | skip
     go_roundw
     case rel=>exact ⟨k+1,by omega,by go_num,hid (VJ HC.out HZ.out HF.out),K2.drop (Ke _ (Ke _ (Ke _ (KR _))))⟩
     case measure=>simp [intOf];omega
  ·have hks:k=n:=by omega
   go_wp2_with fail
   go_ret
   exact ⟨by rw [HF.out,List.drop_eq_nil_of_le (by rw [HL.out];omega)]<;>rfl,H.below⟩
end
end Go.Proofs.YtnmnkbnmollpmaaGreatDoor

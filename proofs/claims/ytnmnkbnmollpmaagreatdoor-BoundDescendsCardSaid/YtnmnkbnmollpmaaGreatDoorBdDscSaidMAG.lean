import Derived.Test.YtnmnkbnmollpmaaGreatDoorBdDscSaidMAC
import Derived.Test.YtnmnkbnmollpmaaGreatDoorBdDscSaidMAB
set_option linter.unusedVariables false
set_option linter.unusedSimpArgs false
set_option maxHeartbeats 64000000
set_option maxRecDepth 100000
namespace Go.Proofs.YtnmnkbnmollpmaaGreatDoor
section
open Go.RowKit
def El.de (x:El):De:=⟨x.nm,x.I,x.ni,x.ci,x.li,x.D,x.nd,x.cd,x.ld,x.U,x.nu,x.cu,x.lu⟩
theorem Zf4 {A:Option Addr} {n:Nat} {l:List El} {w:World} (h:ElsIn A n l w):DesIn A n (l.map El.de) w:=by
 refine ⟨?_,fun x hx=>?_⟩
 ·rw [show Um (l.map El.de)=XK l from by unfold Um XK;rw [List.flatMap_map];rfl]
  exact h.1
 ·obtain ⟨y,hy,rfl⟩:=Kt.1 hx
  exact h.2 y hy
end
section
open Go.RowKit
theorem ZcU {t:Tg} (hb:t.before=false) (hev:t.event=2) (he:t.each=false) (hc:Vh [t] t t=true):∀ (k:Nat) (f:ByteArray→Option Int) (tot c:Int),f t.tab=some c→1≤c∧c≤100→0≤tot→tot+k≤17592186044416→Xv [t] k [1] f tot=tot+k
 | 0,f,tot,c,_,_,_,_=>by simp [Xv]
 | k+1,f,tot,c,hf,hcb,h0,h1=>by
  have hca:XW [t] t [t] [1]=true:=by simp [XW,hc]
  have hn:We [t] [1] f t=1:=by
   unfold We
   rw [hb,hev,he,hca,hf]
   simp only [if_true,if_false,Bool.false_eq_true,Option.getD_some]
   rw [Lf (by decide)]
   omega
  have hin:=Qe (s:=t.tab) (ts:=[t]) (fl:=[1]) (n:=0) (by simp) (by omega)
  have hm:Vx [t] [1] f t.tab=some (min (c+Xf t.tab [t] [1] 0) 100):=by
   unfold Vx
   rw [hf]
   rfl
  have ih:=ZcU hb hev he hc k (Vx [t] [1] f) (tot+1) _ hm (by omega) (by omega) (by omega)
  unfold Xv
  rw [if_neg (by simp)]
  have hs:VZ [t] [1] f=[1]:=by
   unfold VZ
   rw [List.map_cons,List.map_nil,hn]
  rw [hs]
  have hmin:min (tot+[1].sum) 17592186044416=tot+1:=by
   simp only [List.sum_cons,List.sum_nil]
   omega
  rw [hmin,ih]
  omega
section
variable {lo hi:Int} {a:Ac} {gk ga:Nat}
theorem Zgq (h:XH ZE Zr 1 lo hi a):Vh [ZA gk ga Zr lo hi a] (ZA gk ga Zr lo hi a) (ZA gk ga Zr lo hi a)=true:=by
 have h1:a.kind=2:=h.1
 have h2:a.tab=ZE:=h.2.1
 have h3:ZE=(⟨#[117]⟩:ByteArray):=rfl
 simp [Vh,ZA,Vf,h1,h2,h3,SlP.nil]
theorem ZcA {p q u:Te} (h:StOk [p.tb,q.tb,u.tb]) (hl:XH ZE Zr 1 lo hi a) (hb:0≤lo∧lo≤hi∧hi≤100) (hm:u.m≤100):YD (4+1) [ZA gk ga Zr lo hi a] [p,q,u]=(u.m:Int) * (hi - lo+1)+1:=by
 obtain ⟨h1,h2⟩:=Zl0 (d:=4) (t:=ZA gk ga Zr lo hi a) h ⟨rfl,rfl,a,rfl,hl⟩ hb hm
 have ho:Y9 (4+1) [ZA gk ga Zr lo hi a] (ZY [p,q,u]) 1=0:=by
  unfold Y9 Y9
  simp only [List.getElem?_cons_zero]
  rw [show ((0:Nat):Int)=0 from rfl,h1]
  rfl
 have h5:(u.m:Int) * (hi - lo+1)≤100 * 101:=Int.mul_le_mul (by omega) (by omega) (by omega) (by omega)
 have h6:0≤(u.m:Int) * (hi - lo+1):=Int.mul_nonneg (by omega) (by omega)
 unfold YD
 simp only [List.length_cons,List.length_nil,Nat.zero_add]
 rw [h2,ho]
 generalize (u.m:Int) * (hi - lo+1)=z at *
 rw [Lf (by omega)]
 omega
theorem Zhd {p q u:Te} (h:StOk [p.tb,q.tb,u.tb]) (hl:XH ZE Zr 1 lo hi a) (hb:0≤lo∧lo≤hi∧hi≤100) (hm:1≤u.m∧u.m≤50) {d:De} (hd:d.nm=ZE) (hu:d.lu≠[]):hi - lo+2≤XM 5 [ZA gk ga Zr lo hi a] [p,q,u] [d]:=by
 have hr:YD 5 [ZA gk ga Zr lo hi a] [p,q,u]=(u.m:Int) * (hi - lo+1)+1:=ZcA h hl hb (by omega)
 have h0:=h.at_ 0 p.tb rfl
 have h1:=h.at_ 1 q.tb rfl
 have h2:=h.at_ 2 u.tb rfl
 have n0:p.nm=nm3 0:=h0.1
 have n1:q.nm=nm3 1:=h1.1
 have n2:u.nm=nm3 2:=h2.1
 have h5:(u.m:Int) * (hi - lo+1)≤50 * 101:=Int.mul_le_mul (by omega) (by omega) (by omega) (by omega)
 have h6:(1:Int) * (hi - lo+1)≤(u.m:Int) * (hi - lo+1):=Int.mul_le_mul_of_nonneg_right (by omega) (by omega)
 have hit:(Ye [p,q,u] [d] (ZA gk ga Zr lo hi a)).length=1:=by
  have e1:[d].find? (YS (ZA gk ga Zr lo hi a).tab)=some d:=by
   rw [List.find?_cons_of_pos]
   show (d.nm.toList==(⟨#[117]⟩:ByteArray).toList)=true
   rw [hd]
   decide+kernel
  have e2:[p,q,u].find? (YB (ZA gk ga Zr lo hi a).tab)=some u:=by
   have k0:YB (ZA gk ga Zr lo hi a).tab p=false:=by
    show (p.nm.toList==(⟨#[117]⟩:ByteArray).toList)=false
    rw [n0];decide+kernel
   have k1:YB (ZA gk ga Zr lo hi a).tab q=false:=by
    show (q.nm.toList==(⟨#[117]⟩:ByteArray).toList)=false
    rw [n1];decide+kernel
   have k2:YB (ZA gk ga Zr lo hi a).tab u=true:=by
    show (u.nm.toList==(⟨#[117]⟩:ByteArray).toList)=true
    rw [n2];decide+kernel
   rw [List.find?_cons_of_neg (by simp [k0]),List.find?_cons_of_neg (by simp [k1]),List.find?_cons_of_pos k2]
  unfold Ye
  rw [e1,e2]
  simp only [ZA,Bool.false_eq_true,if_false]
  have e3:(d.lu.map Pr.upd).filter (Xp [] u.cs)=d.lu.map Pr.upd:=by
   rw [List.filter_eq_self]
   intro x _
   simp [Xp]
  have e4:Yn 2 [] u.cs (d.li.map Rw.row) (d.ld.map Rw.row) (d.lu.map Pr.upd)=([],[],d.lu.map Pr.upd):=by
   unfold Yn
   rw [Lf (by decide),Lf (by decide),Lg rfl,e3]
  have e5:0<d.lu.length:=List.length_pos_iff.2 hu
  show (Vn (ZA gk ga Zr lo hi a) (Yn 2 [] u.cs (d.li.map Rw.row) (d.ld.map Rw.row) (d.lu.map Pr.upd))).length=1
  rw [e4]
  unfold Vn
  rw [if_neg (by simp [ZA])]
  have e6:0<WI ([]:List Row).length ([]:List Row).length (d.lu.map Pr.upd).length (ZA gk ga Zr lo hi a).event:=by
   show 0<WI 0 0 (d.lu.map Pr.upd).length 2
   simp only [WI,List.length_map]
   rw [Lf (by decide),Lg trivial]
   omega
  rw [Lg e6]
  rfl
 have hf:Xa [p,q,u] (ZA gk ga Zr lo hi a).tab=some (u.m:Int):=by
  have k0:¬p.nm=(ZA gk ga Zr lo hi a).tab:=by rw [n0];show ¬nm3 0=ZE;decide+kernel
  have k1:¬q.nm=(ZA gk ga Zr lo hi a).tab:=by rw [n1];show ¬nm3 1=ZE;decide+kernel
  have k2:u.nm=(ZA gk ga Zr lo hi a).tab:=by rw [n2];show nm3 2=ZE;decide+kernel
  unfold Xa
  rw [List.find?_cons_of_neg (by simp [k0]),List.find?_cons_of_neg (by simp [k1]),List.find?_cons_of_pos (by simp [k2])]
  rfl
 obtain ⟨z,hz⟩:∃ z,z=(u.m:Int) * (hi - lo+1):=⟨_,rfl⟩
 rw [←hz] at hr h5 h6
 unfold XM
 rw [hr,Lf (by omega),List.map_cons,List.map_nil,hit]
 have hrun:=ZcU (t:=ZA gk ga Zr lo hi a) rfl rfl rfl (Zgq hl) (z+1).toNat (Xa [p,q,u]) 0 _ hf (by omega) (by omega) (by omega)
 rw [show (([((1:Nat):Int)]:List Int))=[1] from rfl,hrun]
 omega
end
end
end Go.Proofs.YtnmnkbnmollpmaaGreatDoor

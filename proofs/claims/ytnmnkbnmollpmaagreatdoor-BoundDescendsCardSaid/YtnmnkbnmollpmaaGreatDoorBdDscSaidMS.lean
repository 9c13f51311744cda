import Derived.Test.YtnmnkbnmollpmaaGreatDoorBdDscSaidMO
import Derived.Test.YtnmnkbnmollpmaaGreatDoorBdDscSaidMM
set_option linter.unusedVariables false
set_option linter.unusedSimpArgs false
set_option maxHeartbeats 64000000
set_option maxRecDepth 100000
namespace Go.Proofs.YtnmnkbnmollpmaaGreatDoor
section
open Go.RowKit
def XN (dels:List Int) (us:List Upd) (rs:List Row):List Row:=(rs.filter fun r=>!dels.contains r.1).map fun r=>(r.1,(YJ us r.1).getD r.2)
theorem Zbl:∀ {us:List Upd},(us.map (·.1)).Pairwise (·<·)→∀ (id:Int) (v:List Vl),QC us id v=(YJ us id).getD v
 | [],_,_,_=>rfl
 | u::us,h,id,v=>by
  obtain ⟨h1,h2⟩:=List.pairwise_cons.1 h
  rw [JR]
  by_cases hu:u.1=id
  ·rw [Lg hu,JS fun x hx=>by
    have h3:u.1<x.1:=h1 x.1 (Ko (f:=fun x:Upd=>x.1) hx)
    omega]
   have:=Zbj (us:=u::us) (k:=0) rfl hu
   rw [List.drop_zero] at this
   rw [this];rfl
  ·rw [Lf hu,Zbl h2]
   have:=Zbk (us:=u::us) (k:=0) rfl hu
   rw [List.drop_zero] at this
   rw [this];rfl
theorem Zhq {dels:List Int} {us:List Upd} {rs:List Row} {j:Nat} {r:Row} (hr:rs[j]? =some r) (h:dels.contains r.1=true):XN dels us (rs.take (j+1))=XN dels us (rs.take j):=by
 unfold XN
 rw [Kq,hr,Option.toList_some,KY,Km]
 simp only [List.filter_cons,h,Bool.not_true,Bool.false_eq_true,if_false,List.filter_nil,List.map_nil,List.append_nil]
theorem ZbC {dels:List Int} {us:List Upd} {rs:List Row} {j:Nat} {r:Row} (hr:rs[j]? =some r) (h:dels.contains r.1=false):XN dels us (rs.take (j+1))=XN dels us (rs.take j)++[(r.1,(YJ us r.1).getD r.2)]:=by
 unfold XN
 rw [Kq,hr,Option.toList_some,KY,Km]
 simp only [List.filter_cons,h,Bool.not_false,if_true,List.filter_nil,List.map_cons,List.map_nil]
theorem Zhp {nm:ByteArray} {cs:List Col} {nx:Int} {rs:List Row} {ins:List (List Vl)} {dels:List Int} {us:List Upd} (h:ZR nm cs nx rs ins dels us=true):XN dels us rs=goR dels rs us:=by
 obtain ⟨h1,h2,h3,h4⟩:=Gq h
 obtain ⟨_,_,_,_,h5,_⟩:=XU h1
 rw [Uo rs us (VT h5).1 h3 h4]
 unfold XN keepR
 exact List.map_congr_left fun x hx=>by rw [Zbl h3]
def UR (M:Nat→Prop) (nm:ByteArray) (cs:List Col) (nx:Int) (u:Value) (w:World):Prop:=∃ (A:Option Addr) (n c:Nat) (B:Option Addr) (m d:Nat),u=.agg #[.string nm,.slice A n c,.int .i64 nx,.slice B m d]∧n≤c∧c≤9223372036854775807∧Ro w M (ColsIn A n cs)
theorem ZlP {M:Nat→Prop} {nm:ByteArray} {cs:List Col} {nx:Int} (u:Value) (w w' :World) (hr:RM M w w') (h:UR M nm cs nx u w):UR M nm cs nx u w' :=by
 obtain ⟨A,n,c,B,m,d,e,h1,h2,h3⟩:=h
 exact ⟨A,n,c,B,m,d,e,h1,h2,hr.ro h3⟩
theorem Ro.ZfF {w:World} {M:Nat→Prop} {A:Option Addr} {n:Nat} {cs:List Col} (h:Ro w M (ColsIn A n cs)) {g:Nat} {t:TypeId} (hg:w.heap[g]? =some (.cells #[.string ⟨#[]⟩,.slice none 0 0,.int .i64 0,.slice none 0 0] t (0,0))):Ro w (fun b=>M b∨b=g) (ColsIn A n cs):=by
 have h0:Rd w w.heap.size 4 A n (Zf cs):=h.now
 rcases Nat.eq_zero_or_pos n with hn|hn
 ·exact fun w2 _ _=>⟨h0.1,fun k=>absurd k (by omega)⟩
 ·obtain ⟨b,o,hA,hb,hc⟩:=h0.2 hn
  obtain ⟨c,hc0⟩:=X4 (l:=cs) (k:=0) (RdC.len h0) hn
  have hbg:b≠g:=by
   rintro rfl
   obtain ⟨b',o',e,_,c0,c1,_⟩:=RdC.at_ (show RdC w w.heap.size A n cs from h0) hc0
   obtain ⟨rfl,rfl⟩:b=b' ∧o=o' :=by rw [hA] at e;injection e with e;injection e with a1 a2;exact ⟨a1,a2⟩
   rw [Li w b _ _ t (0,0) hg] at c0 c1
   rcases o with _|_|_|_|o<;>simp at c0 c1
  intro w2 h1 h2
  have hgl:g<w.heap.size:=(List.getElem?_eq_some_iff.1 (by simpa using hg:w.heap.toList[g]? =_)).1
  have h3:=h { w2 with heap:=w2.heap.setIfInBounds g (.cells #[.string ⟨#[]⟩,.slice none 0 0,.int .i64 0,.slice none 0 0] t (0,0)) } (by simpa using h1) (fun x hx hm=>by
   show (w2.heap.setIfInBounds g _)[x]? =_
   by_cases hxg:x=g
   ·subst hxg
    rw [Array.getElem?_setIfInBounds_self_of_lt (by omega),hg]
   ·rw [Array.getElem?_setIfInBounds_ne (by omega)]
    exact h2 x hx (fun k=>k.elim hm hxg))
  obtain ⟨hl,h4⟩:=(show Rd _ _ 4 A n (Zf cs) from h3)
  obtain ⟨b',o',e,_,hc'⟩:=h4 hn
  obtain ⟨rfl,rfl⟩:b=b' ∧o=o' :=by rw [hA] at e;injection e with e;injection e with a1 a2;exact ⟨a1,a2⟩
  refine ⟨hl,fun _=>⟨b,o,hA,by omega,fun j u hu=>?_⟩⟩
  rw [←hc' j u hu]
  refine World.cell?_of_block ?_
  show _=(w2.heap.setIfInBounds g _)[b]?
  rw [Array.getElem?_setIfInBounds_ne (by omega)]
theorem ZhE {nm:ByteArray} {cs:List Col} {nx:Int} {rs:List Row} {ins:List (List Vl)} {dels:List Int} {us:List Upd} (h:ZR nm cs nx rs ins dels us=true):((goR dels rs us).length:Int)=rs.length - dels.length:=by
 obtain ⟨h1,⟨h2a,h2b⟩,h3,h4⟩:=Gq h
 obtain ⟨_,_,_,_,h5,_⟩:=XU h1
 have hasc:=(VT h5).1
 rw [Uo rs us hasc h3 h4]
 have h2:(keepR dels us rs).length=(rs.filter fun r=>!dels.contains r.1).length:=by simp [keepR]
 have hnd:(rs.map (·.1)).Nodup:=hasc.imp fun h=>by omega
 have hdn:dels.Nodup:=h2a.imp fun h=>by omega
 have hp:((rs.map (·.1)).filter fun id=>dels.contains id).Perm dels:=(List.perm_ext_iff_of_nodup (hnd.sublist List.filter_sublist) hdn).2 fun a=>by
  simp only [List.mem_filter,List.contains_iff_mem]
  exact ⟨fun k=>k.2,fun k=>⟨h2b a k,k⟩⟩
 have h3:(rs.filter fun r=>dels.contains r.1).length=dels.length:=by
  rw [←hp.length_eq,List.filter_map,Kj];rfl
 have h4:(rs.filter fun r=>dels.contains r.1).length+(rs.filter fun r=>!dels.contains r.1).length=rs.length:=by
  have:∀ l:List Row,(l.filter fun r=>dels.contains r.1).length+(l.filter fun r=>!dels.contains r.1).length=l.length:=by
   intro l
   induction l with
   | nil=>rfl
   | cons x l ih=>cases hx:dels.contains x.1<;>simp only [List.filter_cons,hx,if_true,if_false,Bool.not_true,Bool.not_false,List.length_cons,Bool.false_eq_true]<;>omega
  exact this rs
 rw [h2]
 omega
theorem Zg9 {us:List Pr} {id:Int} {v:List Vl} (h:YJ (us.map Pr.upd) id=some v):∃ u∈us,v=u.new:=by
 unfold YJ at h
 obtain ⟨x,hx,rfl⟩:=Option.map_eq_some_iff.1 h
 obtain ⟨u,hu,rfl⟩:=Kt.1 (List.mem_of_find?_eq_some hx)
 exact ⟨u,hu,rfl⟩
theorem ZjM (M:Nat→Prop) (w:World) (hM:∀ b,M b→b<w.heap.size) (nm:ByteArray) (A:Option Addr) (n c:Nat) (cs:List Col) (nx:Int) (B:Option Addr) (m d:Nat) (l:List Rw) (I:Option Addr) (ni ci:Nat) (ins:List Sl) (D:Option Addr) (nd cd:Nat) (dels:List Int) (U:Option Addr) (nu cu:Nat) (us:List Pr)
  (hC:Ro w M (SlR 4 A n (Zf cs))) (hE:Ro w M (RwsIn B m l)) (hI:Ro w M (SlsIn I ni ins)) (hD:Ro w M (IsIn D nd dels)) (hU:Ro w M (PrsIn U nu us)) (hn:n≤9223372036854775807) (hm:m≤4611686018427387904) (hok:∀ r∈l,r.ok) (hrn:∀ r∈l,r.n≤4398046511104) (hpn:∀ p∈us,p.on≤9223372036854775807) (hs:nm.size≤maxLen) (hcs:∀ x∈cs,x.name.size≤maxLen)
  (hni:ni≤1000000000000000) (hnd:nd≤1000000000000000) (hnu:nu≤4398046511104) (hoi:∀ s∈ins,s.ok) (hou:∀ u∈us,u.ok):
  Calls Tryz.prog 28 #[.agg #[.string nm,.slice A n c,.int .i64 nx,.slice B m d],.agg #[.slice I ni ci,.slice D nd cd,.slice U nu cu]] w fun e w' =>ZdR w M (YY nm cs nx (l.map Rw.row) (ins.map Sl.vs) dels (us.map Pr.upd)) e w' :=by
 have HUL:=hid hU.now.len
 have HIL:=hid hI.now.len
 have HRL:=hid hE.now.len
 have HDL:=hid hD.now.len
 have HCL:=hid (show cs.length=n from (RdC.ZW hC.now).len)
 have HEN:=hid hE.now
 have HUN:=hid hU.now
 have HIN:=hid hI.now
 have K0:=((((((((Hold.start M w hM).add (hU.less (by simp [Mut]))).add (hD.less (by simp [Mut,Hp.foot]))).add (hI.less (by simp [Mut,Hp.foot]))).add (hE.less (by simp [Mut,Hp.foot]))).add (hC.less (by simp [Mut,Hp.foot]))).Za #[.string nm,.slice A n c,.int .i64 nx,.slice B m d] 69).Za #[.slice I ni ci,.slice D nd cd,.slice U nu cu] 87).alloc #[.string ⟨#[]⟩,.slice none 0 0,.int .i64 0,.slice none 0 0] 69
 simp only [World.size_alloc] at K0
 have F0:=K0.facts
 simp only [zg] at F0
 clear hC hI hD hU hE
 go_enter Tryz.func28,Tryz.ntmps28
 go_wp2_with fail
 refine (Zkj _ _ K0.Zb nm A n c cs nx B m d l I ni ci ins D nd cd dels U nu cu us (K0.ro 3 rfl) (K0.ro 4 rfl) (K0.ro 5 rfl) (K0.ro 6 rfl) (K0.ro 7 rfl) hn hm hok hrn hpn hs hcs (by omega) (by omega) hnu).mono ?_
 rintro e w1 ⟨rfl,b1⟩
 have K1:=K0.call b1
 clear K0 b1 F0
 have F1:=K1.facts
 simp only [zg] at F1
 cases hcb:ZR nm cs nx (l.map Rw.row) (ins.map Sl.vs) dels (us.map Pr.upd)
 ·have HN:=hid (show YY nm cs nx (l.map Rw.row) (ins.map Sl.vs) dels (us.map Pr.upd)=(17,WB) by unfold YY;rw [hcb];rfl)
  clear hcb
  have KN:=(((K1.store 0 rfl 0 (.string ⟨#[]⟩)).store 0 rfl 1 (.slice none 0 0)).store 0 rfl 2 (.int .i64 0)).store 0 rfl 3 (.slice none 0 0)
  go_wp2_with fail
  exact bodyPost_ret (v:=.tuple #[.agg #[.string ⟨#[]⟩,.slice none 0 0,.int .i64 0,.slice none 0 0],.int .i64 (17)]) (by simp [results,Tryz.results28,go_sem,F1]) rfl ⟨_,by rw [HN.out],by rw [HN.out];exact UC,KN.below⟩
 have htb:Zh nm cs nx (l.map Rw.row)=true:=(Gq hcb).1
 have hshort:=hid (zt HEN.out htb)
 obtain ⟨hm100,hnx1,hnx2⟩:=Qx htb
 rw [Kj,HRL.out] at hm100
 have hn6:n≤6:=by have:=Uz htb;have:=HCL.out;omega
 have HCB:=hid hcb
 have HOK:=hid hok
 have HOI:=hid hoi
 have HOU:=hid hou
 have HRN:=hid hrn
 clear hcb htb hok hoi hou hrn hpn hcs
 go_wp2_with fail
 clear F1
 go_loopw [28] (fun iv wr=>∃ (j:Nat),j≤nu∧iv=.int .i64 j∧Hid (Yt cs (us.map Pr.new)=Yt cs ((us.map Pr.new).drop j))∧Hold M none w wr [.blk (w.heap.size+1+1) 69 #[.string ⟨#[]⟩,.slice none 0 0,.int .i64 0,.slice none 0 0],.cst (w.heap.size+1) 87 #[.slice I ni ci,.slice D nd cd,.slice U nu cu],.cst w.heap.size 69 #[.string nm,.slice A n c,.int .i64 nx,.slice B m d],.ro (SlR 4 A n (Zf cs)),.ro (RwsIn B m l),.ro (SlsIn I ni ins),.ro (IsIn D nd dels),.ro (PrsIn U nu us)]) (fun iv _=>nu - (intOf iv).toNat)
 case atStart=>exact ⟨0,by omega,rfl,hid rfl,K1⟩
 case round=>
  clear K1
  obtain ⟨j,hj,rfl,HS,H⟩:=hrel
  by_cases hlt:j<nu
  ·have hdd:decide ((j:Int)<(nu:Int))=true:=by simp;omega
   have j0:(0:Int)≤(j:Int):=by omega
   obtain ⟨u,hu⟩:=Zl HUL.out hlt
   obtain ⟨b,o,rfl,hb,c0,c1,c2,_⟩:=(H.ro 7 rfl).now.at_ hu
   have HX:=hid (show (us.map Pr.new)[j]? =some u.new by simp [hu])
   have HUM:=hid (Ka hu)
   have huok:=HOU.out u HUM.out
   have K1:=H.Za #[.int .i64 u.id,.slice u.oA u.on u.oc,.slice u.nA u.nn u.nc] 136
   clear hu
   have F1:=K1.facts
   simp only [zg] at F1
   have hVR:Ro _ (Mut M _) (VlsIn u.nA u.nn u.new):=(K1.ro 8 rfl).imp fun w2 h2=>(h2.2 u HUM.out).2
   go_wp2_with fail
   refine (Jy _ _ K1.Zb nm A n c cs u.nA u.nn u.nc u.new (K1.ro 4 rfl) hVR hn (KI huok.nc huok.nc2) huok.new).mono ?_
   rintro e w3 ⟨rfl,b3⟩
   have K3:=(K1.call b3).drop (Kb _ _)
   clear K1 F1 b3 hVR H
   have F3:=K3.facts
   simp only [zg] at F3
   by_cases hz:Zt cs u.new=0
   ·have HN:=hid (show Yt cs (us.map Pr.new)=Yt cs ((us.map Pr.new).drop (j+1)) by rw [HS.out];exact Zbr HX.out hz)
    rw [hz]
    clear hz
    go_wp2_with fail
    go_roundw
    case rel=>exact ⟨j+1,by omega,by go_num,HN,K3⟩
    case measure=>simp [intOf];omega
   ·have hz2:(Zt cs u.new !=0)=true:=by simp [hz]
    have HF2:=hid (show XB cs (us.map Pr.new) (ins.map Sl.vs)=Zt cs u.new by unfold XB;rw [HS.out,Zbp HX.out hz,Lf hz])
    have HN:=hid (show YY nm cs nx (l.map Rw.row) (ins.map Sl.vs) dels (us.map Pr.upd)=(Zt cs u.new,WB) by
     have hmm:(us.map Pr.upd).map (·.2.2)=us.map Pr.new:=by rw [List.map_map];rfl
     unfold YY;rw [HCB.out,hmm,HF2.out,if_neg (by simp),if_pos hz])
    clear hz
    have KN:=(((K3.store 0 rfl 0 (.string ⟨#[]⟩)).store 0 rfl 1 (.slice none 0 0)).store 0 rfl 2 (.int .i64 0)).store 0 rfl 3 (.slice none 0 0)
    go_wp2_with fail
    exact bodyPost_ret (v:=.tuple #[.agg #[.string ⟨#[]⟩,.slice none 0 0,.int .i64 0,.slice none 0 0],.int .i64 (Zt cs u.new)]) (by simp [results,Tryz.results28,go_sem,F3]) rfl ⟨_,by rw [HN.out],by rw [HN.out];exact UC,KN.below⟩
  ·obtain rfl:j=nu:=by omega
   have hdd:decide ((j:Int)<(j:Int))=false:=by simp
   have HF:=hid (show XB cs (us.map Pr.new) (ins.map Sl.vs)=Yt cs (ins.map Sl.vs) by unfold XB;rw [HS.out,Zbq (by rw [Kj,HUL.out];exact Kg _),Lg rfl])
   have F5:=H.facts
   simp only [zg] at F5
   go_wp2_with fail
   clear F5
   go_loopw [45] (fun iv wr=>∃ (k:Nat),k≤ni∧iv=.int .i64 k∧Hid (Yt cs (ins.map Sl.vs)=Yt cs ((ins.map Sl.vs).drop k))∧Hold M none w wr [.blk (w.heap.size+1+1) 69 #[.string ⟨#[]⟩,.slice none 0 0,.int .i64 0,.slice none 0 0],.cst (w.heap.size+1) 87 #[.slice I ni ci,.slice D nd cd,.slice U j cu],.cst w.heap.size 69 #[.string nm,.slice A n c,.int .i64 nx,.slice B m d],.ro (SlR 4 A n (Zf cs)),.ro (RwsIn B m l),.ro (SlsIn I ni ins),.ro (IsIn D nd dels),.ro (PrsIn U j us)]) (fun iv _=>ni - (intOf iv).toNat)
   case atStart=>exact ⟨0,by omega,rfl,hid rfl,H⟩
   case round=>
    clear H
    obtain ⟨k,hk,rfl,HS2,H⟩:=hrel
    by_cases hlt2:k<ni
    ·have hdd2:decide ((k:Int)<(ni:Int))=true:=by simp;omega
     have k0:(0:Int)≤(k:Int):=by omega
     obtain ⟨s,hx⟩:=Zl HIL.out hlt2
     obtain ⟨b,o,rfl,hb,c0,_⟩:=(H.ro 5 rfl).now.at_ hx
     have HX:=hid (show (ins.map Sl.vs)[k]? =some s.vs by simp [hx])
     have HSM:=hid (Ka hx)
     have hsok:=HOI.out s HSM.out
     clear hx
     have F1:=H.facts
     simp only [zg] at F1
     have hVR:Ro _ (Mut M _) (VlsIn s.A s.n s.vs):=(H.ro 5 rfl).imp fun w2 h2=>h2.2 s HSM.out
     go_wp2_with fail
     refine (Jy _ _ H.Zb nm A n c cs s.A s.n s.c s.vs (H.ro 3 rfl) hVR hn (KI hsok.nc hsok.c) hsok.vs).mono ?_
     rintro e w3 ⟨rfl,b3⟩
     have K3:=H.call b3
     clear F1 b3 hVR H
     have F3:=K3.facts
     simp only [zg] at F3
     by_cases hz:Zt cs s.vs=0
     ·have HN:=hid (show Yt cs (ins.map Sl.vs)=Yt cs ((ins.map Sl.vs).drop (k+1)) by rw [HS2.out];exact Zbr HX.out hz)
      rw [hz]
      clear hz
      go_wp2_with fail
      go_roundw
      case rel=>exact ⟨k+1,by omega,by go_num,HN,K3⟩
      case measure=>simp [intOf];omega
     ·have hz2:(Zt cs s.vs !=0)=true:=by simp [hz]
      have HF2:=hid (show XB cs (us.map Pr.new) (ins.map Sl.vs)=Zt cs s.vs by rw [HF.out,HS2.out,Zbp HX.out hz])
      have HN:=hid (show YY nm cs nx (l.map Rw.row) (ins.map Sl.vs) dels (us.map Pr.upd)=(Zt cs s.vs,WB) by
       have hmm:(us.map Pr.upd).map (·.2.2)=us.map Pr.new:=by rw [List.map_map];rfl
       unfold YY;rw [HCB.out,hmm,HF2.out,if_neg (by simp),if_pos hz])
      clear hz
      have KN:=(((K3.store 0 rfl 0 (.string ⟨#[]⟩)).store 0 rfl 1 (.slice none 0 0)).store 0 rfl 2 (.int .i64 0)).store 0 rfl 3 (.slice none 0 0)
      go_wp2_with fail
      exact bodyPost_ret (v:=.tuple #[.agg #[.string ⟨#[]⟩,.slice none 0 0,.int .i64 0,.slice none 0 0],.int .i64 (Zt cs s.vs)]) (by simp [results,Tryz.results28,go_sem,F3]) rfl ⟨_,by rw [HN.out],by rw [HN.out];exact UC,KN.below⟩
    ·obtain rfl:k=ni:=by omega
     have hdd2:decide ((k:Int)<(k:Int))=false:=by simp
     have HFZ:=hid (show XB cs ((us.map Pr.upd).map (·.2.2)) (ins.map Sl.vs)=0 by
      have hmm:(us.map Pr.upd).map (·.2.2)=us.map Pr.new:=by rw [List.map_map];rfl
      rw [hmm,HF.out,HS2.out]
      exact Zbq (by rw [Kj,HIL.out];exact Kg _))
     clear HS HS2 HF
     have F1:=H.facts
     simp only [zg] at F1
     go_wp2_with fail
     obtain ⟨KL,hKL,KN⟩:=H.name
     have HFF:Hid (∀ wv,Hold M none w wv KL→wv.cell? ⟨w.heap.size,0,none⟩=some (.string nm)∧wv.cell? ⟨w.heap.size,1,none⟩=some (.slice A n c)∧wv.cell? ⟨w.heap.size,2,none⟩=some (.int .i64 nx)∧wv.cell? ⟨w.heap.size,3,none⟩=some (.slice B m d)∧w.heap.size<wv.heap.size):=hid fun wv HC=>by
      rw [hKL] at HC
      have y0:=HC.Zg 2 rfl
      exact ⟨Li _ _ 0 _ _ _ y0,Li _ _ 1 _ _ _ y0,Li _ _ 2 _ _ _ y0,Li _ _ 3 _ _ _ y0,Blk.lt y0⟩
     have HRX:Hid (∀ wv,Hold M none w wv KL→Ro wv (Mut M KL) (ColsIn A n cs)∧Ro wv (Mut M KL) (RwsIn B m l)):=hid fun wv HC=>by
      rw [hKL] at HC ⊢
      exact ⟨HC.ro 3 rfl,HC.ro 4 rfl⟩
     have HKL:=hid hKL
     clear hKL H F1
     obtain ⟨Ha,hHa⟩:∃ Ha,Ha=wr.drew.heap.size:=⟨_,rfl⟩
     have HHa:=hid hHa
     clear hHa
     refine Lj (by kernel_rfl) ?_
     refine Zn 7 143 (KL) (spL [(59,UR (Mut M KL) nm cs nx),(12,Yp (Mut M KL) Ha 69 #[.string ⟨#[]⟩,.slice none 0 0,.int .i64 0,.slice none 0 0])]) (by kernel_rfl) (by kernel_rfl) (by kernel_rfl) rfl ?_ (KN.drew) ?_
     ·exact Zd ZlP (Zd VS (Zm _))
     simp only [zd,zp,List.getElem_toArray,List.getElem_cons_zero,List.getElem_cons_succ]
     refine' dv rfl rfl rfl (fun wv HC=>?_) ?_;rotate_left
     ·obtain ⟨f0,f1,f2,f3,f4⟩:=HFF.out _ HC;go_simp<;>rfl
     simp only [zp]
     refine Zi 59 (UR (Mut M KL) nm cs nx) (f:=47) (args:=#[.agg #[.string nm,.slice A n c,.int .i64 nx,.slice B m d]]) rfl rfl rfl rfl (fun wv=>?_) (fun wv HC hrm hD=>?_) ?_
     ·go_simp<;>rfl
     ·refine (ZkJ _ wv HC.Zb nm A n c cs nx B m d l (HRX.out _ HC).1 (HRX.out _ HC).2 (by omega) (by omega) HRN.out).mono ?_
      rintro e w5 ⟨A5,n5,c5,B5,m5,d5,rfl,h51,h52,h53,b5⟩
      exact ⟨_,rfl,⟨A5,n5,c5,B5,m5,d5,rfl,h51,h52,h53⟩,HC.call b5,RM.below b5⟩
     rintro x_ wx HCx ⟨A5,n5,c5,B5,m5,d5,rfl,h51,h52,h53⟩
     simp only [zp]
     have hn5:n5=n:=by have h7:=(RdC.ZW h53.now).len;have:=HCL.out;omega
     clear HCx h53
     refine Wu rfl rfl rfl ⟨.agg #[.string nm,.slice A5 n5 c5],fun wv HC=>?_,?_⟩
     ·go_simp<;>first|rfl|kernel_rfl
     simp only [zp]
     refine' dv rfl rfl rfl (fun wv HC=>?_) ?_;rotate_left
     · go_simp<;>rfl
     simp only [zp]
     refine' dv rfl rfl rfl (fun wv HC=>?_) ?_;rotate_left
     ·obtain ⟨f0,f1,f2,f3,f4⟩:=HFF.out _ HC;go_simp<;>rfl
     simp only [zp]
     refine Wu rfl rfl rfl ⟨.agg #[.string nm,.slice A5 n5 c5,.int .i64 nx,.slice none 0 0],fun wv HC=>?_,?_⟩
     ·go_simp<;>first|rfl|kernel_rfl
     simp only [zp]
     refine Z8 #[.string ⟨#[]⟩,.slice none 0 0,.int .i64 0,.slice none 0 0] 69 12 (Yp (Mut M KL) Ha 69 #[.string ⟨#[]⟩,.slice none 0 0,.int .i64 0,.slice none 0 0]) (fun g=>.pointer (some ⟨g,0,none⟩)) rfl rfl rfl rfl (fun wv=>?_) (fun wv HC hrm hD hro=>?_) ?_
     ·go_simp<;>rfl
     ·exact ⟨_,rfl,by have:=hrm.1;rw [HHa.out];exact this,hro _ HC.Zb⟩
     rintro g7 wg HCg hsl
     simp only [zp]
     clear hsl HCg
     refine Zk ?_
     rintro wx1 HX
     rintro _hrm HGW
     have htc:UR (Mut M KL) nm cs nx (.agg #[.string nm,.slice A5 n5 c5,.int .i64 nx,.slice B5 m5 d5]) wx1:=(Zo (d:=59) rfl).1 (HGW 1 _ rfl (by omega))
     have hns:Yp (Mut M KL) Ha 69 #[.string ⟨#[]⟩,.slice none 0 0,.int .i64 0,.slice none 0 0] (.pointer (some ⟨g7,0,none⟩)) wx1:=(Zo (d:=12) rfl).1 (HGW 6 _ rfl (by omega))
     clear HGW
     obtain ⟨gq,hgq,hgH,hgB⟩:=hns
     obtain rfl:g7=gq:=by injection hgq with hgq;injection hgq with hgq;injection hgq
     clear hgq
     rw [HHa.out] at hgH
     have HB:=Hold.VI KN.drew HX _hrm hgH hgB.now
     obtain ⟨A6,n6,c6,B6,m6,d6,e6,-,-,r6⟩:=htc
     obtain ⟨rfl,rfl,rfl⟩:A5=A6∧n5=n6∧c5=c6:=by
      injection e6 with e6
      simp only [Array.mk.injEq,List.cons.injEq,Value.slice.injEq,and_true,true_and] at e6
      exact e6.1
     have r7:Ro wx1 (Mut M (.blk g7 69 #[.string ⟨#[]⟩,.slice none 0 0,.int .i64 0,.slice none 0 0]::KL)) (ColsIn A5 n5 cs):=(r6.ZfF hgB.now).less fun b hb=>(ZL.1 hb).elim (fun hf=>.inr (by have hf:some g7=some b:=hf;injection hf with hf;exact hf.symm)) .inl
     have K0:=HB.add r7
     rw [HKL.out] at K0
     have FB:=K0.facts
     simp only [zg] at FB
     have HN5:=hid hn5
     clear hgB hgH HX _hrm HHa KN HFF HRX HKL HB e6 r6 r7 hn5
     have K1:=(((K0.store 1 rfl 0 (.string nm)).store 1 rfl 1 (.slice A5 n5 c5)).store 1 rfl 2 (.int .i64 nx)).store 1 rfl 3 (.slice none 0 0)
     simp only [zl] at K1
     have K2:=(K1.add (Vu _ _)).nil 72 2
     have F2:=K2.facts
     simp only [zg] at F2
     clear K0 K1
     go_wp2_with fail
     generalize (((wx1.setCell _ _).setCell _ _).setCell _ _).setCell _ _=w2 at K2 ⊢
     clear FB F2
     go_loopw [67] (fun iv wr=>∃ (i q cap:Nat) (O:Option Addr) (outs:List Rw),i≤m∧iv=.int .i64 i∧q≤i∧(∀ r∈outs,r.ok)∧Hid (outs.map Rw.row=XN dels (us.map Pr.upd) ((l.map Rw.row).take i))∧Hold M none w wr [.own 72 2 (.slice O q cap) q (Zp outs),.ro (Yl outs),.ro (ColsIn A5 n5 cs),.blk g7 69 #[.string nm,.slice A5 n5 c5,.int .i64 nx,.slice O q cap],.blk (w.heap.size+1+1) 69 #[.string ⟨#[]⟩,.slice none 0 0,.int .i64 0,.slice none 0 0],.cst (w.heap.size+1) 87 #[.slice I k ci,.slice D nd cd,.slice U j cu],.cst w.heap.size 69 #[.string nm,.slice A n c,.int .i64 nx,.slice B m d],.ro (SlR 4 A n (Zf cs)),.ro (RwsIn B m l),.ro (SlsIn I k ins),.ro (IsIn D nd dels),.ro (PrsIn U j us)]) (fun iv _=>m - (intOf iv).toNat)
     case atStart=>exact ⟨0,0,0,none,[],by omega,rfl,by omega,(fun r hr=>nomatch hr),hid rfl,K2⟩
     case round=>
      clear K2
      obtain ⟨i,q,cap,O,outs,hi,rfl,hq,hoo,HG,H⟩:=hrel
      by_cases hlt3:i<m
      ·have hd3:decide ((i:Int)<(m:Int))=true:=by simp;omega
       have i0:(0:Int)≤(i:Int):=by omega
       obtain ⟨r,hr⟩:=Zl HRL.out hlt3
       obtain ⟨b,o,rfl,hb,c0,c1,_⟩:=(H.ro 8 rfl).now.at_ hr
       have HX:=hid (show (l.map Rw.row)[i]? =some (r.id,r.vs) by simp [hr,Rw.row])
       have HRM:=hid (Ka hr)
       have hrok:=HOK.out r HRM.out
       have hrn:=HRN.out r HRM.out
       have K1:=H.Za #[.int .i64 r.id,.slice r.A r.n r.c] 72
       clear hr H
       obtain ⟨gr,hgr⟩:∃ gr,gr=wr.heap.size:=⟨_,rfl⟩
       rw [←hgr] at K1
       have F1:=K1.facts
       simp only [zg] at F1
       go_wp2_with fail
       rw [←hgr]
       have HGR:=hid hgr
       clear hgr c0 c1
       refine (Zkc _ D nd cd dels r.id (K1.ro 11 rfl).now (by omega)).mono ?_
       rintro e w7 ⟨rfl,rfl⟩
       cases hct:dels.contains r.id
       ·have HCT:=hid hct
        clear hct
        go_wp2_with fail
        obtain ⟨fo,hfo⟩:∃ fo,fo=YJ (us.map Pr.upd) r.id:=⟨_,rfl⟩
        have hk:=ZkO _ _ K1.Zb U j cu us r.id (K1.ro 12 rfl) (by omega) HOU.out
        rw [←hfo] at hk
        have HFO:=hid hfo
        clear hfo
        refine hk.mono ?_
        clear hk
        rintro e w8 ⟨Af,nf,cf,rfl,hf0,hf1,hf2,hfr,b8⟩
        have K3:=K1.call b8
        clear K1 F1 b8
        cases fo with
        | none=>
         simp only [Option.isSome_none]
         have hxr:Ro _ (Mut M _) (VlsIn r.A r.n r.vs):=(K3.ro 9 rfl).imp fun w2 h2=>h2.2 r HRM.out
         have K4:=K3.add hxr
         have F4:=K4.facts
         simp only [zg] at F4
         clear K3 hfr hf0 hf1 hf2 hxr
         go_wp2_with fail
         clear F4
         obtain ⟨KL,hKL,KN⟩:=K4.name
         have HF:Hid (∀ wv,Hold M none w wv KL→wv.cell? ⟨gr,0,none⟩=some (.int .i64 r.id)∧wv.cell? ⟨g7,3,none⟩=some (.slice O q cap)∧gr<wv.heap.size∧g7<wv.heap.size):=hid fun wv HC=>by
          rw [hKL] at HC
          have y0:=HC.Zg 1 rfl
          have y1:=HC.Ym 5 rfl
          exact ⟨Li _ _ 0 _ _ _ y0,Li _ _ 3 _ _ _ y1,Blk.lt y0,Blk.lt y1⟩
         have HRX:Hid (∀ wv,Hold M none w wv KL→Ro wv (Mut M KL) (VlsIn r.A r.n r.vs)):=hid fun wv HC=>by
          rw [hKL] at HC ⊢
          exact HC.ro 0 rfl
         have HKL:=hid hKL
         clear hKL K4
         go_wp2_with fail
         refine Lj (by kernel_rfl) ?_
         refine Zn 8 143 (KL) (spL [(93,Zx (Mut M KL) r.vs),(94,Z0 (Mut M KL) r.id r.vs),(95,ZZ (Mut M KL) r.id r.vs)]) (by kernel_rfl) (by kernel_rfl) (by kernel_rfl) rfl ?_ (KN.drew) ?_
         ·exact Zd XG (Zd WX (Zd WV (Zm _)))
         simp only [zd,zp,List.getElem_toArray,List.getElem_cons_zero,List.getElem_cons_succ]
         iterate 2
          refine' dv rfl rfl rfl (fun wv HC=>?_) ?_;rotate_left
          · go_simp<;>rfl
          simp only [zp]
          refine' dv rfl rfl rfl (fun wv HC=>?_) ?_;rotate_left
          ·obtain ⟨f0,f1,f2,f3⟩:=HF.out _ HC;go_simp<;>rfl
          simp only [zp]
         refine' dv rfl rfl rfl (fun wv HC=>?_) ?_;rotate_left
         · go_simp<;>rfl
         simp only [zp]
         refine Zi 93 (Zx (Mut M KL) r.vs) (f:=51) (args:=#[.slice r.A r.n r.c]) rfl rfl rfl rfl (fun wv=>?_) (fun wv HC hrm hD=>?_) ?_
         ·go_simp<;>rfl
         ·refine (Xe _ wv HC.Zb r.A r.n r.c r.vs (HRX.out _ HC) hrn).mono ?_
          rintro e w5 ⟨A5,n5,c5,rfl,h50,h51,h52,h53,b5⟩
          exact ⟨_,rfl,⟨A5,n5,c5,rfl,h50,h51,h52,h53⟩,HC.call b5,RM.below b5⟩
         rintro x_ wx HCx ⟨A5,n5,c5,rfl,h50,h51,h52,h53⟩
         simp only [zp]
         have H50:=hid h50
         clear HCx h53 h50
         refine YI 94 (Z0 (Mut M KL) r.id r.vs) rfl rfl rfl rfl (.agg #[.int .i64 r.id,.slice A5 n5 c5]) (fun wv HC=>?_) (fun wv HC hD=>?_) ?_
         ·go_simp<;>rfl
         ·have hsl:Zx (Mut M KL) r.vs (.slice A5 n5 c5) wv:=ZI hD 5 rfl (by kernel_rfl) rfl rfl
          obtain ⟨A6,n6,c6,e6,h1,h2,h3,h4⟩:=hsl
          exact ⟨A6,n6,c6,by rw [e6],h1,h2,h3,h4⟩
         simp only [zp]
         refine Z8 #[.int .i64 r.id,.slice A5 n5 c5] 72 95 (ZZ (Mut M KL) r.id r.vs) (fun g=>.slice (some ⟨g,0,none⟩) 1 1) rfl rfl rfl rfl (fun wv=>?_) (fun wv HC _hrm hD hro=>?_) ?_
         ·go_simp<;>rfl
         ·have hsl:Z0 (Mut M KL) r.id r.vs (.agg #[.int .i64 r.id,.slice A5 n5 c5]) wv:=ZI hD 6 rfl (by kernel_rfl) rfl rfl
          obtain ⟨A6,n6,c6,e6,h1,h2,h3,h4⟩:=hsl
          obtain ⟨rfl,rfl,rfl⟩:A5=A6∧n5=n6∧c5=c6:=by
           injection e6 with e6
           simp at e6
           exact e6
          exact ⟨_,A5,n5,c5,rfl,h1,h2,h3,h4.step (by simp) (fun b hb _=>Below.heap_alloc wv _ b hb) (fun _ _ h=>h),ZO (hro _ HC.Zb) rfl⟩
         rintro g2 wg HCg hsl
         simp only [zp]
         clear hsl HCg
         refine Zk ?_
         rintro wx2 HX
         rintro _hrm HGW
         have hb2:ZZ (Mut M KL) r.id r.vs (.slice (some ⟨g2,0,none⟩) 1 1) wx2:=(Zo (d:=95) rfl).1 (HGW 7 _ rfl (by omega))
         clear HGW _hrm
         obtain ⟨g3,A6,n6,c6,e6,k0_,k1_,k2_,k3_,k4_⟩:=hb2
         obtain rfl:g2=g3:=by injection e6 with e6;injection e6 with e6;injection e6
         clear e6
         rw [HKL.out] at HX k3_
         have k5:=hid k4_.now
         have HK0:=hid k0_
         clear k4_ k0_ HF HRX KN
         have HRS:=hid (show Zp outs++[.int .i64 r.id,.slice A6 n6 c6]=Zp (outs++[⟨r.id,A6,n6,c6,r.vs⟩]) from Wy _ _ _ _ _ _)
         have KA:=HX.add k3_
         clear HX k3_
         have FKA:=KA.facts
         simp only [zg] at FKA
         go_wp2_with (at_builtin;go_must (refine ZX KA 3 rfl Tryz.Xy k5.out rfl (.tmp 89) (.tmp 95) rfl rfl rfl (by intro z hz;simp at hz;rcases hz with rfl|rfl<;>rfl) (by omega) (by omega) ?_);intro C' cap' w6 hc6 hm6 KB;rw [HRS.out] at KB;simp only [zl] at KB;(have F3:=KB.facts);simp only [zg] at F3)
         have KC:=KB.store 6 rfl 3 (.slice C' (q+1) cap')
         have KE:=(KC.ZT 4 rfl (XF (r:=⟨r.id,A6,n6,c6,r.vs⟩) (KC.ro 4 rfl) (KC.ro 0 rfl))).drop (Ke _ (Ke _ (Kb _ _)))
         simp only [Zu,List.set_cons_zero,List.set_cons_succ,List.setIfInBounds_toArray] at KE
         have HGN:=hid (show List.map Rw.row (outs++[⟨r.id,A6,n6,c6,r.vs⟩])=XN dels (us.map Pr.upd) ((l.map Rw.row).take (i+1)) by
          rw [Km,HG.out,ZbC HX.out HCT.out]
          show _=_++[(r.id,(YJ (us.map Pr.upd) r.id).getD r.vs)]
          rw [←HFO.out];rfl)
         go_roundw
         case rel=>exact ⟨i+1,q+1,cap',C',_,by omega,by go_num,by omega,by intro x hx;rcases Kk.1 hx with hx|hx;(exact hoo x hx);(simp at hx;subst hx;exact ⟨hrok.id,k1_,k2_,hrok.vs⟩),HGN,KE⟩
         case measure=>simp [intOf];omega
        | some v=>
         simp only [Option.isSome_some,Option.getD_some] at hfr hf0 ⊢
         obtain ⟨u,hu,rfl⟩:=Zg9 HFO.out.symm
         have huo:=HOU.out u hu
         have hv6:nf≤6:=by
          have h1:=WN ((Zbx HFZ.out).1 u.new (Kt.2 ⟨u.upd,Ko hu,rfl⟩))
          have:=HCL.out
          omega
         have K4:=K3.add hfr
         have F4:=K4.facts
         simp only [zg] at F4
         clear K3 hfr hf0 hf1 hf2 hu
         go_wp2_with fail
         clear F4
         obtain ⟨KL,hKL,KN⟩:=K4.name
         have HF:Hid (∀ wv,Hold M none w wv KL→wv.cell? ⟨gr,0,none⟩=some (.int .i64 r.id)∧wv.cell? ⟨g7,3,none⟩=some (.slice O q cap)∧gr<wv.heap.size∧g7<wv.heap.size):=hid fun wv HC=>by
          rw [hKL] at HC
          have y0:=HC.Zg 1 rfl
          have y1:=HC.Ym 5 rfl
          exact ⟨Li _ _ 0 _ _ _ y0,Li _ _ 3 _ _ _ y1,Blk.lt y0,Blk.lt y1⟩
         have HRX:Hid (∀ wv,Hold M none w wv KL→Ro wv (Mut M KL) (VlsIn Af nf u.new)):=hid fun wv HC=>by
          rw [hKL] at HC ⊢
          exact HC.ro 0 rfl
         have HKL:=hid hKL
         clear hKL K4
         go_wp2_with fail
         refine Lj (by kernel_rfl) ?_
         refine Zn 8 143 (KL) (spL [(93,Zx (Mut M KL) u.new),(94,Z0 (Mut M KL) r.id u.new),(95,ZZ (Mut M KL) r.id u.new)]) (by kernel_rfl) (by kernel_rfl) (by kernel_rfl) rfl ?_ (KN.drew) ?_
         ·exact Zd XG (Zd WX (Zd WV (Zm _)))
         simp only [zd,zp,List.getElem_toArray,List.getElem_cons_zero,List.getElem_cons_succ]
         iterate 2
          refine' dv rfl rfl rfl (fun wv HC=>?_) ?_;rotate_left
          · go_simp<;>rfl
          simp only [zp]
          refine' dv rfl rfl rfl (fun wv HC=>?_) ?_;rotate_left
          ·obtain ⟨f0,f1,f2,f3⟩:=HF.out _ HC;go_simp<;>rfl
          simp only [zp]
         refine' dv rfl rfl rfl (fun wv HC=>?_) ?_;rotate_left
         · go_simp<;>rfl
         simp only [zp]
         refine Zi 93 (Zx (Mut M KL) u.new) (f:=51) (args:=#[.slice Af nf cf]) rfl rfl rfl rfl (fun wv=>?_) (fun wv HC hrm hD=>?_) ?_
         ·go_simp<;>rfl
         ·refine (Xe _ wv HC.Zb Af nf cf u.new (HRX.out _ HC) (by omega)).mono ?_
          rintro e w5 ⟨A5,n5,c5,rfl,h50,h51,h52,h53,b5⟩
          exact ⟨_,rfl,⟨A5,n5,c5,rfl,h50,h51,h52,h53⟩,HC.call b5,RM.below b5⟩
         rintro x_ wx HCx ⟨A5,n5,c5,rfl,h50,h51,h52,h53⟩
         simp only [zp]
         have H50:=hid h50
         clear HCx h53 h50
         refine YI 94 (Z0 (Mut M KL) r.id u.new) rfl rfl rfl rfl (.agg #[.int .i64 r.id,.slice A5 n5 c5]) (fun wv HC=>?_) (fun wv HC hD=>?_) ?_
         ·go_simp<;>rfl
         ·have hsl:Zx (Mut M KL) u.new (.slice A5 n5 c5) wv:=ZI hD 5 rfl (by kernel_rfl) rfl rfl
          obtain ⟨A6,n6,c6,e6,h1,h2,h3,h4⟩:=hsl
          exact ⟨A6,n6,c6,by rw [e6],h1,h2,h3,h4⟩
         simp only [zp]
         refine Z8 #[.int .i64 r.id,.slice A5 n5 c5] 72 95 (ZZ (Mut M KL) r.id u.new) (fun g=>.slice (some ⟨g,0,none⟩) 1 1) rfl rfl rfl rfl (fun wv=>?_) (fun wv HC _hrm hD hro=>?_) ?_
         ·go_simp<;>rfl
         ·have hsl:Z0 (Mut M KL) r.id u.new (.agg #[.int .i64 r.id,.slice A5 n5 c5]) wv:=ZI hD 6 rfl (by kernel_rfl) rfl rfl
          obtain ⟨A6,n6,c6,e6,h1,h2,h3,h4⟩:=hsl
          obtain ⟨rfl,rfl,rfl⟩:A5=A6∧n5=n6∧c5=c6:=by
           injection e6 with e6
           simp at e6
           exact e6
          exact ⟨_,A5,n5,c5,rfl,h1,h2,h3,h4.step (by simp) (fun b hb _=>Below.heap_alloc wv _ b hb) (fun _ _ h=>h),ZO (hro _ HC.Zb) rfl⟩
         rintro g2 wg HCg hsl
         simp only [zp]
         clear hsl HCg
         refine Zk ?_
         rintro wx2 HX
         rintro _hrm HGW
         have hb2:ZZ (Mut M KL) r.id u.new (.slice (some ⟨g2,0,none⟩) 1 1) wx2:=(Zo (d:=95) rfl).1 (HGW 7 _ rfl (by omega))
         clear HGW _hrm
         obtain ⟨g3,A6,n6,c6,e6,k0_,k1_,k2_,k3_,k4_⟩:=hb2
         obtain rfl:g2=g3:=by injection e6 with e6;injection e6 with e6;injection e6
         clear e6
         rw [HKL.out] at HX k3_
         have k5:=hid k4_.now
         have HK0:=hid k0_
         clear k4_ k0_ HF HRX KN
         have HRS:=hid (show Zp outs++[.int .i64 r.id,.slice A6 n6 c6]=Zp (outs++[⟨r.id,A6,n6,c6,u.new⟩]) from Wy _ _ _ _ _ _)
         have KA:=HX.add k3_
         clear HX k3_
         have FKA:=KA.facts
         simp only [zg] at FKA
         go_wp2_with (at_builtin;go_must (refine ZX KA 3 rfl Tryz.Xy k5.out rfl (.tmp 89) (.tmp 95) rfl rfl rfl (by intro z hz;simp at hz;rcases hz with rfl|rfl<;>rfl) (by omega) (by omega) ?_);intro C' cap' w6 hc6 hm6 KB;rw [HRS.out] at KB;simp only [zl] at KB;(have F3:=KB.facts);simp only [zg] at F3)
         have KC:=KB.store 6 rfl 3 (.slice C' (q+1) cap')
         have KE:=(KC.ZT 4 rfl (XF (r:=⟨r.id,A6,n6,c6,u.new⟩) (KC.ro 4 rfl) (KC.ro 0 rfl))).drop (Ke _ (Ke _ (Kb _ _)))
         simp only [Zu,List.set_cons_zero,List.set_cons_succ,List.setIfInBounds_toArray] at KE
         have HGN:=hid (show List.map Rw.row (outs++[⟨r.id,A6,n6,c6,u.new⟩])=XN dels (us.map Pr.upd) ((l.map Rw.row).take (i+1)) by
          rw [Km,HG.out,ZbC HX.out HCT.out]
          show _=_++[(r.id,(YJ (us.map Pr.upd) r.id).getD r.vs)]
          rw [←HFO.out];rfl)
         go_roundw
         case rel=>exact ⟨i+1,q+1,cap',C',_,by omega,by go_num,by omega,by intro x hx;rcases Kk.1 hx with hx|hx;(exact hoo x hx);(simp at hx;subst hx;exact ⟨hrok.id,k1_,k2_,huo.new⟩),HGN,KE⟩
         case measure=>simp [intOf];omega
       ·have HN:=hid (show outs.map Rw.row=XN dels (us.map Pr.upd) ((l.map Rw.row).take (i+1)) by rw [HG.out,Zhq HX.out hct])
        go_wp2_with fail
        go_roundw
        case rel=>exact ⟨i+1,q,cap,O,outs,by omega,by go_num,by omega,hoo,HN,K1.drop (Kb _ _)⟩
        case measure=>simp [intOf];omega
      ·obtain rfl:i=m:=by omega
       have hd3:decide ((i:Int)<(i:Int))=false:=by simp
       have HGF:=hid (show outs.map Rw.row=goR dels (l.map Rw.row) (us.map Pr.upd) by rw [HG.out,Kh (by rw [Kj,HRL.out];exact Kg _),Zhp HCB.out])
       have hql:(q:Int)=(i:Int) - (nd:Int):=by
        have KS:=H.Zq 0 rfl
        simp only [List.set_cons_zero] at KS
        have h1:=(show Ro _ _ (RwsIn O q outs) from (KS.ro 0 rfl).and (KS.ro 1 rfl)).now.len
        have h2:=ZhE HCB.out
        rw [←HGF.out,Kj,Kj,HRL.out,HDL.out,h1] at h2
        exact h2
       have hw1:IntKind.i64.wrap ((q:Int)+(k:Int))=(q:Int)+(k:Int):=by rw [Kn];omega
       have hw2:IntKind.i64.wrap (2147483648 - nx)=2147483648 - nx:=by rw [Kn];omega
       have F1:=H.facts
       simp only [zg] at F1
       by_cases hbig:(q:Int)+(k:Int) > 100∨(k:Int) > 2147483648 - nx
       ·have HN:=hid (show YY nm cs nx (l.map Rw.row) (ins.map Sl.vs) dels (us.map Pr.upd)=(10,WB) by unfold YY;rw [HCB.out,HFZ.out,if_neg (by simp),if_neg (by simp),if_pos (by simp only [List.length_map];rw [HRL.out,HIL.out,HDL.out];omega)])
        by_cases hb1:(q:Int)+(k:Int) > 100
        ·have hdb1:decide ((q:Int)+(k:Int) > 100)=true:=by simp;omega
         clear hbig hb1 hql
         have KN:=(((H.store 4 rfl 0 (.string ⟨#[]⟩)).store 4 rfl 1 (.slice none 0 0)).store 4 rfl 2 (.int .i64 0)).store 4 rfl 3 (.slice none 0 0)
         go_wp2_with fail
         exact bodyPost_ret (v:=.tuple #[.agg #[.string ⟨#[]⟩,.slice none 0 0,.int .i64 0,.slice none 0 0],.int .i64 (10)]) (by simp [results,Tryz.results28,go_sem,F1]) rfl ⟨_,by rw [HN.out],by rw [HN.out];exact UC,KN.below⟩
        ·have hdb1:decide ((q:Int)+(k:Int) > 100)=false:=by simp;omega
         have hdb2:decide ((k:Int) > 2147483648 - nx)=true:=by simp;omega
         clear hbig hb1 hql
         have KN:=(((H.store 4 rfl 0 (.string ⟨#[]⟩)).store 4 rfl 1 (.slice none 0 0)).store 4 rfl 2 (.int .i64 0)).store 4 rfl 3 (.slice none 0 0)
         go_wp2_with fail
         exact bodyPost_ret (v:=.tuple #[.agg #[.string ⟨#[]⟩,.slice none 0 0,.int .i64 0,.slice none 0 0],.int .i64 (10)]) (by simp [results,Tryz.results28,go_sem,F1]) rfl ⟨_,by rw [HN.out],by rw [HN.out];exact UC,KN.below⟩
       ·have hdb1:decide ((q:Int)+(k:Int) > 100)=false:=by simp;omega
        have hdb2:decide ((k:Int) > 2147483648 - nx)=false:=by simp;omega
        have HBIG:=hid (show ¬((i:Int) - (nd:Int)+(k:Int) > 100∨(k:Int) > 2147483648 - nx) by omega)
        have hknx:(k:Int)≤2147483648 - nx:=by omega
        clear hbig hql
        go_wp2_with fail
        clear F1 hw1 hw2 hdb1 hdb2
        go_loopw [120] (fun iv wr=>∃ (kk q cap:Nat) (O:Option Addr) (outs:List Rw),kk≤k∧iv=.int .i64 kk∧q≤i+kk∧(∀ r∈outs,r.ok)∧Hid (outs.map Rw.row=goR dels (l.map Rw.row) (us.map Pr.upd)++Vk nx ((ins.map Sl.vs).take kk))∧Hold M none w wr [.own 72 2 (.slice O q cap) q (Zp outs),.ro (Yl outs),.ro (ColsIn A5 n5 cs),.blk g7 69 #[.string nm,.slice A5 n5 c5,.int .i64 (nx+(kk:Int)),.slice O q cap],.blk (w.heap.size+1+1) 69 #[.string ⟨#[]⟩,.slice none 0 0,.int .i64 0,.slice none 0 0],.cst (w.heap.size+1) 87 #[.slice I k ci,.slice D nd cd,.slice U j cu],.cst w.heap.size 69 #[.string nm,.slice A n c,.int .i64 nx,.slice B i d],.ro (SlR 4 A n (Zf cs)),.ro (RwsIn B i l),.ro (SlsIn I k ins),.ro (IsIn D nd dels),.ro (PrsIn U j us)]) (fun iv _=>k - (intOf iv).toNat)
        case atStart=>exact ⟨0,q,cap,O,outs,by omega,rfl,by omega,hoo,hid (by rw [HGF.out];simp [Vk]),by rw [show nx+((0:Nat):Int)=nx by simp];exact H⟩
        case round=>
         clear H HG HGF hoo hq hd3
         obtain ⟨kk,q,cap,O,outs,hkk,rfl,hq,hoo,HG2,H⟩:=hrel
         by_cases hlt4:kk<k
         ·have hd4:decide ((kk:Int)<(k:Int))=true:=by simp;omega
          have k0:(0:Int)≤(kk:Int):=by omega
          obtain ⟨s,hx⟩:=Zl HIL.out hlt4
          obtain ⟨bi,oi,rfl,hb,c0,_⟩:=(H.ro 9 rfl).now.at_ hx
          have HXI:=hid (show (ins.map Sl.vs)[kk]? =some s.vs by simp [hx])
          have HSM:=hid (Ka hx)
          have hsok:=HOI.out s HSM.out
          have hs6:s.n≤6:=by
           have h1:=WN ((Zbx HFZ.out).2 s.vs (Ko HSM.out))
           have h2:=(HIN.out.2 s HSM.out).len
           have:=HCL.out
           omega
          have hvr:Ro _ (Mut M _) (VlsIn s.A s.n s.vs):=(H.ro 9 rfl).imp fun w2 h2=>h2.2 s HSM.out
          have K4:=H.add hvr
          have F4:=K4.facts
          simp only [zg] at F4
          have hwk:IntKind.i64.wrap (nx+(kk:Int)+1)=nx+(kk:Int)+1:=by rw [Kn];omega
          clear hx H hvr
          go_wp2_with fail
          clear F4 c0
          obtain ⟨KL,hKL,KN⟩:=K4.name
          have HF:Hid (∀ wv,Hold M none w wv KL→wv.cell? ⟨g7,2,none⟩=some (.int .i64 (nx+(kk:Int)))∧wv.cell? ⟨g7,3,none⟩=some (.slice O q cap)∧g7<wv.heap.size):=hid fun wv HC=>by
           rw [hKL] at HC
           have y1:=HC.Ym 4 rfl
           exact ⟨Li _ _ 2 _ _ _ y1,Li _ _ 3 _ _ _ y1,Blk.lt y1⟩
          have HRX:Hid (∀ wv,Hold M none w wv KL→Ro wv (Mut M KL) (VlsIn s.A s.n s.vs)):=hid fun wv HC=>by
           rw [hKL] at HC ⊢
           exact HC.ro 0 rfl
          have HKL:=hid hKL
          clear hKL K4
          go_wp2_with fail
          refine Lj (by kernel_rfl) ?_
          refine Zn 8 143 (KL) (spL [(129,Zx (Mut M KL) s.vs),(130,Z0 (Mut M KL) (nx+(kk:Int)) s.vs),(131,ZZ (Mut M KL) (nx+(kk:Int)) s.vs)]) (by kernel_rfl) (by kernel_rfl) (by kernel_rfl) rfl ?_ (KN.drew) ?_
          ·exact Zd XG (Zd WX (Zd WV (Zm _)))
          simp only [zd,zp,List.getElem_toArray,List.getElem_cons_zero,List.getElem_cons_succ]
          iterate 2
           refine' dv rfl rfl rfl (fun wv HC=>?_) ?_;rotate_left
           · go_simp<;>rfl
           simp only [zp]
           refine' dv rfl rfl rfl (fun wv HC=>?_) ?_;rotate_left
           ·obtain ⟨f0,f1,f2⟩:=HF.out _ HC;go_simp<;>rfl
           simp only [zp]
          refine' dv rfl rfl rfl (fun wv HC=>?_) ?_;rotate_left
          · go_simp<;>rfl
          simp only [zp]
          refine Zi 129 (Zx (Mut M KL) s.vs) (f:=51) (args:=#[.slice s.A s.n s.c]) rfl rfl rfl rfl (fun wv=>?_) (fun wv HC hrm hD=>?_) ?_
          ·go_simp<;>rfl
          ·refine (Xe _ wv HC.Zb s.A s.n s.c s.vs (HRX.out _ HC) (by omega)).mono ?_
           rintro e w5 ⟨A5,n5,c5,rfl,h50,h51,h52,h53,b5⟩
           exact ⟨_,rfl,⟨A5,n5,c5,rfl,h50,h51,h52,h53⟩,HC.call b5,RM.below b5⟩
          rintro x_ wx HCx ⟨A5,n5,c5,rfl,h50,h51,h52,h53⟩
          simp only [zp]
          have H50:=hid h50
          clear HCx h53 h50
          refine YI 130 (Z0 (Mut M KL) (nx+(kk:Int)) s.vs) rfl rfl rfl rfl (.agg #[.int .i64 (nx+(kk:Int)),.slice A5 n5 c5]) (fun wv HC=>?_) (fun wv HC hD=>?_) ?_
          ·go_simp<;>rfl
          ·have hsl:Zx (Mut M KL) s.vs (.slice A5 n5 c5) wv:=ZI hD 5 rfl (by kernel_rfl) rfl rfl
           obtain ⟨A6,n6,c6,e6,h1,h2,h3,h4⟩:=hsl
           exact ⟨A6,n6,c6,by rw [e6],h1,h2,h3,h4⟩
          simp only [zp]
          refine Z8 #[.int .i64 (nx+(kk:Int)),.slice A5 n5 c5] 72 131 (ZZ (Mut M KL) (nx+(kk:Int)) s.vs) (fun g=>.slice (some ⟨g,0,none⟩) 1 1) rfl rfl rfl rfl (fun wv=>?_) (fun wv HC _hrm hD hro=>?_) ?_
          ·go_simp<;>rfl
          ·have hsl:Z0 (Mut M KL) (nx+(kk:Int)) s.vs (.agg #[.int .i64 (nx+(kk:Int)),.slice A5 n5 c5]) wv:=ZI hD 6 rfl (by kernel_rfl) rfl rfl
           obtain ⟨A6,n6,c6,e6,h1,h2,h3,h4⟩:=hsl
           obtain ⟨rfl,rfl,rfl⟩:A5=A6∧n5=n6∧c5=c6:=by
            injection e6 with e6
            simp at e6
            exact e6
           exact ⟨_,A5,n5,c5,rfl,h1,h2,h3,h4.step (by simp) (fun b hb _=>Below.heap_alloc wv _ b hb) (fun _ _ h=>h),ZO (hro _ HC.Zb) rfl⟩
          rintro g2 wg HCg hsl
          simp only [zp]
          clear hsl HCg
          refine Zk ?_
          rintro wx2 HX
          rintro _hrm HGW
          have hb2:ZZ (Mut M KL) (nx+(kk:Int)) s.vs (.slice (some ⟨g2,0,none⟩) 1 1) wx2:=(Zo (d:=131) rfl).1 (HGW 7 _ rfl (by omega))
          clear HGW _hrm
          obtain ⟨g3,A6,n6,c6,e6,k0_,k1_,k2_,k3_,k4_⟩:=hb2
          obtain rfl:g2=g3:=by injection e6 with e6;injection e6 with e6;injection e6
          clear e6
          rw [HKL.out] at HX k3_
          have k5:=hid k4_.now
          have HK0:=hid k0_
          clear k4_ k0_ HF HRX KN
          have HRS:=hid (show Zp outs++[.int .i64 (nx+(kk:Int)),.slice A6 n6 c6]=Zp (outs++[⟨(nx+(kk:Int)),A6,n6,c6,s.vs⟩]) from Wy _ _ _ _ _ _)
          have KA:=HX.add k3_
          clear HX k3_
          have FKA:=KA.facts
          simp only [zg] at FKA
          go_wp2_with (at_builtin;go_must (refine ZX KA 2 rfl Tryz.Xy k5.out rfl (.tmp 125) (.tmp 131) rfl rfl rfl (by intro z hz;simp at hz;rcases hz with rfl|rfl<;>rfl) (by omega) (by omega) ?_);intro C' cap' w6 hc6 hm6 KB;rw [HRS.out] at KB;simp only [zl] at KB;(have F3:=KB.facts);simp only [zg] at F3)
          have KC:=(KB.store 5 rfl 3 (.slice C' (q+1) cap')).store 5 rfl 2 (.int .i64 (nx+(kk:Int)+1))
          have KE:=(KC.ZT 3 rfl (XF (r:=⟨nx+(kk:Int),A6,n6,c6,s.vs⟩) (KC.ro 3 rfl) (KC.ro 0 rfl))).drop (Ke _ (Kb _ _))
          simp only [Zu,List.set_cons_zero,List.set_cons_succ,List.setIfInBounds_toArray] at KE
          have HGN:=hid (show List.map Rw.row (outs++[⟨nx+(kk:Int),A6,n6,c6,s.vs⟩])=goR dels (l.map Rw.row) (us.map Pr.upd)++Vk nx ((ins.map Sl.vs).take (kk+1)) by
           rw [Km,HG2.out,ZhS HXI.out,List.append_assoc];rfl)
          go_roundw
          case rel=>exact ⟨kk+1,q+1,cap',C',_,by omega,by go_num,by omega,by intro x hx;rcases Kk.1 hx with hx|hx;(exact hoo x hx);(simp at hx;subst hx;exact ⟨⟨by show _≤nx+(kk:Int);omega,by show nx+(kk:Int)≤_;omega⟩,k1_,k2_,hsok.vs⟩),HGN,by rw [show nx+((kk+1:Nat):Int)=nx+(kk:Int)+1 by omega];exact KE⟩
          case measure=>simp [intOf];omega
         ·obtain rfl:kk=k:=by omega
          have hd4:decide ((kk:Int)<(kk:Int))=false:=by simp
          have HOR:=hid (show outs.map Rw.row=Ql nx (l.map Rw.row) (ins.map Sl.vs) dels (us.map Pr.upd) by rw [HG2.out,Kh (by rw [Kj,HIL.out];exact Kg _)];rfl)
          have hcq:=ZM (H.get 0 rfl)
          have KS:=H.Zq 0 rfl
          simp only [List.set_cons_zero] at KS
          clear H
          have F2:=KS.facts
          simp only [zg] at F2
          go_wp2_with fail
          have hRW:Ro _ (Mut M _) (RwsIn O q outs):=(KS.ro 0 rfl).and (KS.ro 1 rfl)
          refine (ZcB _ _ KS.Zb nm A5 n5 c5 cs (nx+(kk:Int)) O q cap outs (KS.ro 2 rfl) hRW (by have:=HN5.out;omega) (by omega) hoo).mono ?_
          rintro e w8 ⟨rfl,b8⟩
          have K8:=KS.call b8
          clear KS b8 F2 hRW
          have F8:=K8.facts
          simp only [zg] at F8
          cases hdb:YH cs (outs.map Rw.row)
          ·have HN:=hid (show YY nm cs nx (l.map Rw.row) (ins.map Sl.vs) dels (us.map Pr.upd)=(0,⟨nm,cs,nx+(kk:Int),outs.map Rw.row⟩) by
            unfold YY;rw [HCB.out,HFZ.out,if_neg (by simp),if_neg (by simp),if_neg (by simp only [List.length_map];rw [HRL.out,HIL.out,HDL.out];exact HBIG.out),←HOR.out,Lf (by rw [hdb];simp),List.length_map,HIL.out])
           clear hdb
           have KN:=(((K8.store 4 rfl 0 (.string nm)).store 4 rfl 1 (.slice A5 n5 c5)).store 4 rfl 2 (.int .i64 (nx+(kk:Int)))).store 4 rfl 3 (.slice O q cap)
           go_wp2_with fail
           exact bodyPost_ret (v:=.tuple #[.agg #[.string nm,.slice A5 n5 c5,.int .i64 (nx+(kk:Int)),.slice O q cap],.int .i64 0]) (by simp [results,Tryz.results28,go_sem,F8]) rfl ⟨_,by rw [HN.out],by rw [HN.out];exact ⟨A5,n5,c5,O,q,cap,outs,rfl,h51,h52,hcq.1,hcq.2.1,KN.ZN 2 rfl,(KN.ZN 0 rfl).and (KN.ZN 1 rfl),hoo,rfl⟩,KN.below⟩
          ·have HN:=hid (show YY nm cs nx (l.map Rw.row) (ins.map Sl.vs) dels (us.map Pr.upd)=(9,WB) by
            unfold YY;rw [HCB.out,HFZ.out,if_neg (by simp),if_neg (by simp),if_neg (by simp only [List.length_map];rw [HRL.out,HIL.out,HDL.out];exact HBIG.out),←HOR.out,Lg hdb])
           clear hdb
           have KN:=(((K8.store 4 rfl 0 (.string ⟨#[]⟩)).store 4 rfl 1 (.slice none 0 0)).store 4 rfl 2 (.int .i64 0)).store 4 rfl 3 (.slice none 0 0)
           go_wp2_with fail
           exact bodyPost_ret (v:=.tuple #[.agg #[.string ⟨#[]⟩,.slice none 0 0,.int .i64 0,.slice none 0 0],.int .i64 (9)]) (by simp [results,Tryz.results28,go_sem,F8]) rfl ⟨_,by rw [HN.out],by rw [HN.out];exact UC,KN.below⟩
end
end Go.Proofs.YtnmnkbnmollpmaaGreatDoor

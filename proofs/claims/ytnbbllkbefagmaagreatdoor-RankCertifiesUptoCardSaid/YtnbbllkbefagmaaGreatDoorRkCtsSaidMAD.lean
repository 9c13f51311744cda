import Derived.Test.YtnbbllkbefagmaaGreatDoorRkCtsSaidMAC
import Derived.Deep.RegionHeld3
import Derived.Test.YtnbbllkbefagmaaGreatDoorRkCtsSaidMQ
import Derived.Test.YtnbbllkbefagmaaGreatDoorRkCtsSaidMG
namespace Go.Proofs.YtnbbllkbefagmaaGreatDoor
open Go.RowKit
set_option linter.unusedVariables false
set_option linter.unusedSimpArgs false
theorem thirteen {w:World} {g h:Nat} {t u:TypeId} {a0 a1 a2 a3 a4 a5 a6 a7 a8 a9 a10 x y z q:Value} (h1:Blk w g t #[a0,a1,a2,a3,a4,a5,a6,a7,a8,a9,a10]) (h2:Blk w h u #[x,y,z,q]):w.cell? ⟨g,0,none⟩=some a0∧w.cell? ⟨g,1,none⟩=some a1∧w.cell? ⟨g,2,none⟩=some a2∧w.cell? ⟨g,3,none⟩=some a3∧w.cell? ⟨g,4,none⟩=some a4∧w.cell? ⟨g,5,none⟩=some a5∧w.cell? ⟨g,6,none⟩=some a6∧w.cell? ⟨g,7,none⟩=some a7∧w.cell? ⟨g,8,none⟩=some a8∧w.cell? ⟨g,9,none⟩=some a9∧w.cell? ⟨g,10,none⟩=some a10∧w.cell? ⟨h,0,none⟩=some x∧w.cell? ⟨h,1,none⟩=some y:=
 ⟨h1.cell 0,h1.cell 1,h1.cell 2,h1.cell 3,h1.cell 4,h1.cell 5,h1.cell 6,h1.cell 7,h1.cell 8,h1.cell 9,h1.cell 10,h2.cell 0,h2.cell 1⟩
theorem Zce {r:Rk} {a:Ac}:Ya r a=if a.tab=r.tab∧a.kind≤3 then (if a.kind=1 then false else if a.kind=2∧(a.sets.l.any fun s=>decide (s.col=r.col))=true then (ZT a r.col).2 else true) else true:=by
 have e:(ZT a r.col).2=(YN a r.col).isSome:=by unfold ZT;cases YN a r.col<;>rfl
 unfold Ya
 rw [e]
 by_cases h:a.tab=r.tab
 ·by_cases h1:a.kind=1
  ·simp [h,h1]
  ·by_cases h2:a.kind=2
   ·have e2:((Xy a).any fun c=>decide (c=r.col))=a.sets.l.any fun s=>decide (s.col=r.col):=by
     unfold Xy;rw [if_pos h2,List.any_map];rfl
    rw [e2]
    simp [h,h2]
   ·simp [h,h1,h2]
 ·simp [h]
theorem ZdJ (l:List ByteArray) (c:ByteArray):Yj l c=l.any fun x=>decide (x=c):=Qw l c
set_option maxRecDepth 100000 in
set_option maxHeartbeats 16000000 in
theorem Zg3 (M:Nat→Prop) (w:World) (hM:∀ b,M b→b<w.heap.size) (A:Option Addr) (n c:Nat) (l:List Tg) (r:Rk) (d:Nat) (ht:Ro w M (TgsIn (d+1) A n l)) (hn:n≤4611686018427387904) (hok:∀ t∈l,TgFit (d+1) t):Calls Tryz.prog 87 #[.slice A n c,r.val] w fun e w' =>e=.returned (.bool (YG l r))∧Below w.heap.size w w' :=by
 obtain ⟨rtab,rcol,rlo,rhi⟩:=r
 have HO:=hid (show YG l ⟨rtab,rcol,rlo,rhi⟩=l.all (ZW ⟨rtab,rcol,rlo,rhi⟩) from rfl)
 generalize YG l ⟨rtab,rcol,rlo,rhi⟩=P at *
 have HL:=hid ht.now.len
 have HOK:=hid hok
 have K0:=((Hold.start M w hM).add (ht.less (by simp [Mut]))).Za #[.string rtab,.string rcol,.int .i64 rlo,.int .i64 rhi] 85
 obtain ⟨g3,hg3⟩:∃ g,g=w.heap.size:=⟨_,rfl⟩
 rw [←hg3] at K0
 clear ht hok
 simp only [Rk.val]
 go_enter Tryz.func87,Tryz.ntmps87
 go_upto_region 1 with fail
 rw [←hg3]
 have HG3:=hid hg3
 clear hg3
 generalize World.alloc _ _=w1 at K0 ⊢
 go_wp2_with fail
 go_loopw [13] (fun i wr=>∃ k:Nat,k≤n∧i=.int .i64 k∧Hid (P=(l.drop k).all (ZW ⟨rtab,rcol,rlo,rhi⟩))∧Hold M none w wr [.cst g3 85 #[.string rtab,.string rcol,.int .i64 rlo,.int .i64 rhi],.ro (TgsIn (d+1) A n l)]) (fun i _=>n - (intOf i).toNat)
 case atStart=>exact ⟨0,by omega,rfl,hid HO.out,K0⟩
 case round=>
  clear K0
  obtain ⟨k,hk,rfl,HP,H⟩:=hrel
  by_cases hlt:k<n
  ·have k0:(0:Int)≤(k:Int):=by omega
   have k1:(k:Int)<(n:Int):=by omega
   obtain ⟨⟨tn,tt,tb,te,⟨oA,on,oc,ol⟩,tch,⟨pA,pn,pc,pl⟩,⟨qA,qn,qc,ql⟩,⟨rA,rn,rc,rl⟩,⟨kA,kn,kc,kl⟩,⟨uA,un,uc,ul⟩⟩,hx⟩:=Z4 HL.out hlt
   obtain ⟨b,o,rfl,hb,hc,-⟩:=(H.ro 1 rfl).now.at_ hx
   have x0:=hc 0 _ (by omega) rfl
   have x1:=hc 1 _ (by omega) rfl
   have x2:=hc 2 _ (by omega) rfl
   have x3:=hc 3 _ (by omega) rfl
   have x4:=hc 4 _ (by omega) rfl
   have x5:=hc 5 _ (by omega) rfl
   have x6:=hc 6 _ (by omega) rfl
   have x7:=hc 7 _ (by omega) rfl
   have x8:=hc 8 _ (by omega) rfl
   have x9:=hc 9 _ (by omega) rfl
   have x10:=hc 10 _ (by omega) rfl
   simp only [Nat.add_zero,SlP.v] at x0 x1 x2 x3 x4 x5 x6 x7 x8 x9 x10
   clear hc
   have hmx:=List.mem_of_getElem? hx
   have HX:=hid hx
   have HFT:=hid (HOK.out _ hmx)
   have K1:=(H.add (S:=AcsIn (d+1) uA un ul) ((H.ro 1 rfl).imp fun w2 h2=>(h2.2 _ hmx).parts.2)).Za #[.string tn,.string tt,.bool tb,.int .i64 te,.slice oA on oc,.bool tch,.slice pA pn pc,.slice qA qn qc,.slice rA rn rc,.slice kA kn kc,.slice uA un uc] 40
   clear H hx hmx
   obtain ⟨g6,hg6⟩:∃ g,g=wr.heap.size:=⟨_,rfl⟩
   rw [←hg6] at K1
   go_upto_region 4 with fail
   rw [←hg6]
   have HG6:=hid hg6
   clear hg6 x0 x1 x2 x3 x4 x5 x6 x7 x8 x9 x10
   generalize World.alloc _ _=w4 at K1 ⊢
   have F1:=K1.facts
   simp only [zg] at F1
   cases tb
   ·have HRT:=hid (show ZW ⟨rtab,rcol,rlo,rhi⟩ ⟨tn,tt,false,te,⟨oA,on,oc,ol⟩,tch,⟨pA,pn,pc,pl⟩,⟨qA,qn,qc,ql⟩,⟨rA,rn,rc,rl⟩,⟨kA,kn,kc,kl⟩,⟨uA,un,uc,ul⟩⟩=ul.all (Ya ⟨rtab,rcol,rlo,rhi⟩) from rfl)
    have HAL:=hid (K1.ro 1 rfl).now.len
    have HFA:=hid HFT.out.a
    have hun:=HFT.out.n
    dsimp only at hun HFA
    have K2:=K1.pick [1,2,3] (by decide) rfl
    simp only [List.filterMap_cons,List.filterMap_nil,List.getElem?_cons_zero,List.getElem?_cons_succ] at K2
    clear K1
    go_wp2_with fail
    clear F1
    go_loopw [43] (fun i wr=>∃ j:Nat,j≤un∧i=.int .i64 j∧Hid (ZW ⟨rtab,rcol,rlo,rhi⟩ ⟨tn,tt,false,te,⟨oA,on,oc,ol⟩,tch,⟨pA,pn,pc,pl⟩,⟨qA,qn,qc,ql⟩,⟨rA,rn,rc,rl⟩,⟨kA,kn,kc,kl⟩,⟨uA,un,uc,ul⟩⟩=(ul.drop j).all (Ya ⟨rtab,rcol,rlo,rhi⟩))∧Hold M none w wr [.ro (AcsIn (d+1) uA un ul),.cst g3 85 #[.string rtab,.string rcol,.int .i64 rlo,.int .i64 rhi],.ro (TgsIn (d+1) (some ⟨b,o,none⟩) n l)]) (fun i _=>un - (intOf i).toNat)
    case atStart=>exact ⟨0,by omega,rfl,hid HRT.out,K2⟩
    case round=>
     clear K2
     obtain ⟨j,hj,rfl,HQ,H⟩:=hrel
     by_cases hlj:j<un
     ·have j0:(0:Int)≤(j:Int):=by omega
      have j1:(j:Int)<(un:Int):=by omega
      obtain ⟨⟨ak,atab,⟨arA,arn,arc,arl⟩,⟨aqA,aqn,aqc,aql⟩,⟨asA,asn,asc,asl⟩,⟨awA,awn,awc,awl⟩,atext⟩,hy⟩:=Z4 HAL.out hlj
      obtain ⟨b',o',rfl,hb',hc,-⟩:=(H.ro 0 rfl).now.at_ hy
      have y0:=hc 0 _ (by omega) rfl
      have y1:=hc 1 _ (by omega) rfl
      have y2:=hc 2 _ (by omega) rfl
      have y3:=hc 3 _ (by omega) rfl
      have y4:=hc 4 _ (by omega) rfl
      have y5:=hc 5 _ (by omega) rfl
      have y6:=hc 6 _ (by omega) rfl
      simp only [Nat.add_zero,SlP.v] at y0 y1 y2 y3 y4 y5 y6
      clear hc
      have hmy:=List.mem_of_getElem? hy
      have HY:=hid hy
      have hsn:=(HFA.out _ hmy).1
      dsimp only at hsn
      have K3:=(H.add (S:=AcIn (d+1) ⟨ak,atab,⟨arA,arn,arc,arl⟩,⟨aqA,aqn,aqc,aql⟩,⟨asA,asn,asc,asl⟩,⟨awA,awn,awc,awl⟩,atext⟩) ((H.ro 0 rfl).imp fun w2 h2=>h2.2 _ hmy)).Za #[.int .i64 ak,.string atab,.slice arA arn arc,.slice aqA aqn aqc,.slice asA asn asc,.slice awA awn awc,.string atext] 97
      clear H hy hmy
      obtain ⟨g8,hg8⟩:∃ g,g=wr.heap.size:=⟨_,rfl⟩
      rw [←hg8] at K3
      go_upto_region 10 with fail
      rw [←hg8]
      have HG8:=hid hg8
      clear hg8 y0 y1 y2 y3 y4 y5 y6
      generalize World.alloc _ _=w5 at K3 ⊢
      have F3:=K3.facts
      simp only [zg] at F3
      have hhr:=Zce (r:=⟨rtab,rcol,rlo,rhi⟩) (a:=⟨ak,atab,⟨arA,arn,arc,arl⟩,⟨aqA,aqn,aqc,aql⟩,⟨asA,asn,asc,asl⟩,⟨awA,awn,awc,awl⟩,atext⟩)
      have hls:=ZfB (Mut M _) w5 K3.Zc ⟨ak,atab,⟨arA,arn,arc,arl⟩,⟨aqA,aqn,aqc,aql⟩,⟨asA,asn,asc,asl⟩,⟨awA,awn,awc,awl⟩,atext⟩ rcol (d+1) (K3.ro 1 rfl) hsn
      have hlw:=fun (M2:Nat→Prop) (w2:World) (h2:∀ b,M2 b→b<w2.heap.size) (hr:Ro w2 M2 (AcIn (d+1) ⟨ak,atab,⟨arA,arn,arc,arl⟩,⟨aqA,aqn,aqc,aql⟩,⟨asA,asn,asc,asl⟩,⟨awA,awn,awc,awl⟩,atext⟩))=>Zak M2 w2 h2 ⟨ak,atab,⟨arA,arn,arc,arl⟩,⟨aqA,aqn,aqc,aql⟩,⟨asA,asn,asc,asl⟩,⟨awA,awn,awc,awl⟩,atext⟩ rcol d hr (by dsimp only;omega)
      simp only at hhr hls
      generalize ZT ⟨ak,atab,⟨arA,arn,arc,arl⟩,⟨aqA,aqn,aqc,aql⟩,⟨asA,asn,asc,asl⟩,⟨awA,awn,awc,awl⟩,atext⟩ rcol=LW at hhr hlw
      generalize (asl.any fun s=>decide (s.col=rcol))=SB at hhr hls
      have HHR:=hid hhr
      have HLS:=hid hls
      have HLW:=hid hlw
      clear hls hlw hhr
      obtain ⟨l1,l2⟩:=LW
      simp only [Ac.val] at HLS HLW
      by_cases htab:atab=rtab
      ·have e0:(atab.toList==rtab.toList)=true:=by simp [htab]
       have e1:(atab.toList !=rtab.toList)=false:=by simp [htab]
       by_cases h3:3<ak
       ·have HM:=hid (Xf HQ.out HY.out (show Ya ⟨rtab,rcol,rlo,rhi⟩ ⟨ak,atab,⟨arA,arn,arc,arl⟩,⟨aqA,aqn,aqc,aql⟩,⟨asA,asn,asc,asl⟩,⟨awA,awn,awc,awl⟩,atext⟩=true from by rw [HHR.out];simp;omega))
        have d3:decide (3<ak)=true:=decide_eq_true h3
        clear htab
        go_wp2_with fail
        go_roundw
        case rel=>exact ⟨j+1,by omega,by go_num,HM,K3.drop ((List.sublist_cons_self _ _).cons _)⟩
        case measure=>simp [intOf];omega
       ·have d3:decide (3<ak)=false:=decide_eq_false h3
        by_cases h1:ak=1
        ·have HH:=hid (Vp HP.out HX.out (Vp HQ.out HY.out (show Ya ⟨rtab,rcol,rlo,rhi⟩ ⟨ak,atab,⟨arA,arn,arc,arl⟩,⟨aqA,aqn,aqc,aql⟩,⟨asA,asn,asc,asl⟩,⟨awA,awn,awc,awl⟩,atext⟩=false from by rw [HHR.out];simp [htab,h1])))
         have b1:(ak==1)=true:=by simp [h1]
         clear htab h1
         go_wp2_with fail
         go_ret
         exact ⟨by rw [HH.out]<;>rfl,K3.below⟩
        ·have b1:(ak==1)=false:=by simp [h1]
         by_cases h2:ak=2
         ·have b2:(ak==2)=true:=by simp [h2]
          cases SB
          ·have HM:=hid (Xf HQ.out HY.out (show Ya ⟨rtab,rcol,rlo,rhi⟩ ⟨ak,atab,⟨arA,arn,arc,arl⟩,⟨aqA,aqn,aqc,aql⟩,⟨asA,asn,asc,asl⟩,⟨awA,awn,awc,awl⟩,atext⟩=true from by rw [HHR.out];simp [htab,h2]))
           clear htab h1 h2
           go_wp2_with (go_at_call 148;go_must (refine HLS.out.mono ?_);rintro e w6 ⟨rfl,b6⟩;have K5:=K3.call b6;have F5:=K5.facts;simp only [zg] at F5)
           go_roundw
           case rel=>exact ⟨j+1,by omega,by go_num,HM,K5.drop ((List.sublist_cons_self _ _).cons _)⟩
           case measure=>simp [intOf];omega
          ·cases l2
           ·have HH:=hid (Vp HP.out HX.out (Vp HQ.out HY.out (show Ya ⟨rtab,rcol,rlo,rhi⟩ ⟨ak,atab,⟨arA,arn,arc,arl⟩,⟨aqA,aqn,aqc,aql⟩,⟨asA,asn,asc,asl⟩,⟨awA,awn,awc,awl⟩,atext⟩=false from by rw [HHR.out];simp [htab,h2])))
            clear htab h1 h2
            go_wp2_with (go_at_call 148;go_must (refine HLS.out.mono ?_);rintro e w6 ⟨rfl,b6⟩;have K5:=K3.call b6;have F5:=K5.facts;simp only [zg] at F5)
            go_wp2_with fail
            refine (HLW.out _ _ K5.Zc (K5.ro 1 rfl)).mono ?_
            rintro e w7 ⟨rfl,b7⟩
            have K6:=K5.call b7
            go_wp2_with fail
            go_ret
            exact ⟨by rw [HH.out]<;>rfl,K6.below⟩
           ·have HM:=hid (Xf HQ.out HY.out (show Ya ⟨rtab,rcol,rlo,rhi⟩ ⟨ak,atab,⟨arA,arn,arc,arl⟩,⟨aqA,aqn,aqc,aql⟩,⟨asA,asn,asc,asl⟩,⟨awA,awn,awc,awl⟩,atext⟩=true from by rw [HHR.out];simp [htab,h2]))
            clear htab h1 h2
            go_wp2_with (go_at_call 148;go_must (refine HLS.out.mono ?_);rintro e w6 ⟨rfl,b6⟩;have K5:=K3.call b6;have F5:=K5.facts;simp only [zg] at F5)
            go_wp2_with fail
            refine (HLW.out _ _ K5.Zc (K5.ro 1 rfl)).mono ?_
            rintro e w7 ⟨rfl,b7⟩
            have K6:=K5.call b7
            go_wp2_with fail
            go_roundw
            case rel=>exact ⟨j+1,by omega,by go_num,HM,K6.drop ((List.sublist_cons_self _ _).cons _)⟩
            case measure=>simp [intOf];omega
         ·have b2:(ak==2)=false:=by simp [h2]
          have HM:=hid (Xf HQ.out HY.out (show Ya ⟨rtab,rcol,rlo,rhi⟩ ⟨ak,atab,⟨arA,arn,arc,arl⟩,⟨aqA,aqn,aqc,aql⟩,⟨asA,asn,asc,asl⟩,⟨awA,awn,awc,awl⟩,atext⟩=true from by rw [HHR.out];simp [h1,h2]))
          clear htab h1 h2
          go_wp2_with fail
          go_roundw
          case rel=>exact ⟨j+1,by omega,by go_num,HM,K3.drop ((List.sublist_cons_self _ _).cons _)⟩
          case measure=>simp [intOf];omega
      ·have e0:(atab.toList==rtab.toList)=false:=by rw [beq_eq_false_iff_ne];exact fun h=>htab (Yr h)
       have e1:(atab.toList !=rtab.toList)=true:=by rw [bne_iff_ne];exact fun h=>htab (Yr h)
       have HM:=hid (Xf HQ.out HY.out (show Ya ⟨rtab,rcol,rlo,rhi⟩ ⟨ak,atab,⟨arA,arn,arc,arl⟩,⟨aqA,aqn,aqc,aql⟩,⟨asA,asn,asc,asl⟩,⟨awA,awn,awc,awl⟩,atext⟩=true from by rw [HHR.out];simp [htab]))
       clear htab
       go_wp2_with fail
       go_roundw
       case rel=>exact ⟨j+1,by omega,by go_num,HM,K3.drop ((List.sublist_cons_self _ _).cons _)⟩
       case measure=>simp [intOf];omega
     ·obtain rfl:un=j:=by omega
      have HN:=hid (Xf HP.out HX.out (show ZW ⟨rtab,rcol,rlo,rhi⟩ ⟨tn,tt,false,te,⟨oA,on,oc,ol⟩,tch,⟨pA,pn,pc,pl⟩,⟨qA,qn,qc,ql⟩,⟨rA,rn,rc,rl⟩,⟨kA,kn,kc,kl⟩,⟨uA,un,uc,ul⟩⟩=true from by rw [HQ.out,List.drop_eq_nil_of_le (by rw [HAL.out];exact Nat.le_refl _)];rfl))
      have KR:=H.drop (List.sublist_cons_self _ _)
      go_wp2_with fail
      go_roundw
      case rel=>exact ⟨k+1,by omega,by go_num,HN,KR⟩
      case measure=>simp [intOf];omega
   ·by_cases hch:tch=true
    ·by_cases htab:tt=rtab
     ·have e0:(tt.toList==rtab.toList)=true:=by simp [htab]
      by_cases hev:te=2
      ·have e2:(te==2)=true:=by simp [hev]
       have HRT:=hid (show ZW ⟨rtab,rcol,rlo,rhi⟩ ⟨tn,tt,true,te,⟨oA,on,oc,ol⟩,tch,⟨pA,pn,pc,pl⟩,⟨qA,qn,qc,ql⟩,⟨rA,rn,rc,rl⟩,⟨kA,kn,kc,kl⟩,⟨uA,un,uc,ul⟩⟩=!(Yj (YX ⟨tn,tt,true,te,⟨oA,on,oc,ol⟩,tch,⟨pA,pn,pc,pl⟩,⟨qA,qn,qc,ql⟩,⟨rA,rn,rc,rl⟩,⟨kA,kn,kc,kl⟩,⟨uA,un,uc,ul⟩⟩) rcol) from by rw [ZdJ];simp [ZW,htab,hev,hch])
       clear htab hev
       subst hch
       have hc1:=Zda _ _ K1.drew.Zc ⟨tn,tt,true,te,⟨oA,on,oc,ol⟩,true,⟨pA,pn,pc,pl⟩,⟨qA,qn,qc,ql⟩,⟨rA,rn,rc,rl⟩,⟨kA,kn,kc,kl⟩,⟨uA,un,uc,ul⟩⟩ (d+1) (K1.drew.ro 1 rfl) HFT.out
       have hlen:=hid (show (YX ⟨tn,tt,true,te,⟨oA,on,oc,ol⟩,true,⟨pA,pn,pc,pl⟩,⟨qA,qn,qc,ql⟩,⟨rA,rn,rc,rl⟩,⟨kA,kn,kc,kl⟩,⟨uA,un,uc,ul⟩⟩).length≤549755813888 from by rw [←JK,List.length_map];exact HFT.out.s)
       generalize YX ⟨tn,tt,true,te,⟨oA,on,oc,ol⟩,true,⟨pA,pn,pc,pl⟩,⟨qA,qn,qc,ql⟩,⟨rA,rn,rc,rl⟩,⟨kA,kn,kc,kl⟩,⟨uA,un,uc,ul⟩⟩=SC at *
       simp only [Tg.val] at hc1
       go_wp2_with fail
       go_region_held3 (fun w' =>w'.cell? ⟨g6,0,none⟩=some (.string tn)∧w'.cell? ⟨g6,1,none⟩=some (.string tt)∧w'.cell? ⟨g6,2,none⟩=some (.bool true)∧w'.cell? ⟨g6,3,none⟩=some (.int .i64 te)∧w'.cell? ⟨g6,4,none⟩=some (.slice oA on oc)∧w'.cell? ⟨g6,5,none⟩=some (.bool true)∧w'.cell? ⟨g6,6,none⟩=some (.slice pA pn pc)∧w'.cell? ⟨g6,7,none⟩=some (.slice qA qn qc)∧w'.cell? ⟨g6,8,none⟩=some (.slice rA rn rc)∧w'.cell? ⟨g6,9,none⟩=some (.slice kA kn kc)∧w'.cell? ⟨g6,10,none⟩=some (.slice uA un uc)∧w'.cell? ⟨g3,0,none⟩=some (.string rtab)∧w'.cell? ⟨g3,1,none⟩=some (.string rcol))
        (first|exact thirteen (K1.drew.ZB 0 rfl) (K1.drew.ZB 2 rfl)|exact thirteen (K2.ZB 1 rfl) (K2.ZB 3 rfl))
        (first
         | (go_at_call 147;((with_reducible refine hc1.mono ?_);rintro e w5 ⟨A1,n1,c1,rfl,hl1,ho1,b1⟩;have HL1:=hid hl1;clear hl1;have K2:=(K1.drew.JO b1 ho1).ZC 0 rfl;simp only [List.set_cons_zero] at K2;have hc2:=Zf3 w5 A1 n1 c1 SC rcol (K2.ro 0 rfl).now (by have:=hlen.out;have:=HL1.out;omega)))
         | (go_at_call 146;((with_reducible refine hc2.mono ?_);rintro e w6 ⟨rfl,rfl⟩)))
       clear F1 hc1 hc2 K1 ho1
       have KR:=K2.pick [3,4] (by decide) rfl
       simp only [List.filterMap_cons,List.filterMap_nil,List.getElem?_cons_zero,List.getElem?_cons_succ] at KR
       cases hcs:Yj SC rcol
       ·have HN:=hid (Xf HP.out HX.out (HRT.out.trans (by rw [hcs];rfl)))
        clear hcs
        go_wp2_with fail
        go_roundw
        case rel=>exact ⟨k+1,by omega,by go_num,HN,KR⟩
        case measure=>simp [intOf];omega
       ·have HH:=hid (Vp HP.out HX.out (HRT.out.trans (by rw [hcs];rfl)))
        clear hcs
        go_wp2_with fail
        go_ret
        exact ⟨by rw [HH.out]<;>rfl,K2.below⟩
      ·have e2:(te==2)=false:=by simp [hev]
       have HN:=hid (Xf HP.out HX.out (show ZW ⟨rtab,rcol,rlo,rhi⟩ ⟨tn,tt,true,te,⟨oA,on,oc,ol⟩,tch,⟨pA,pn,pc,pl⟩,⟨qA,qn,qc,ql⟩,⟨rA,rn,rc,rl⟩,⟨kA,kn,kc,kl⟩,⟨uA,un,uc,ul⟩⟩=true from by simp [ZW,hev]))
       have hB:=fun q=>K1.drewN q
       have HB:=hid hB
       clear hB K1
       clear hev htab
       subst hch
       go_wp2_with fail
       go_quiet (fail)
       have KR:=(HB.out nq).pick [2,3] (by decide) rfl
       simp only [List.filterMap_cons,List.filterMap_nil,List.getElem?_cons_zero,List.getElem?_cons_succ] at KR
       go_wp2_with fail
       go_roundw
       case rel=>exact ⟨k+1,by omega,by go_num,HN,KR⟩
       case measure=>simp [intOf];omega
     ·have e0:(tt.toList==rtab.toList)=false:=by rw [beq_eq_false_iff_ne];exact fun h=>htab (Yr h)
      have HN:=hid (Xf HP.out HX.out (show ZW ⟨rtab,rcol,rlo,rhi⟩ ⟨tn,tt,true,te,⟨oA,on,oc,ol⟩,tch,⟨pA,pn,pc,pl⟩,⟨qA,qn,qc,ql⟩,⟨rA,rn,rc,rl⟩,⟨kA,kn,kc,kl⟩,⟨uA,un,uc,ul⟩⟩=true from by simp [ZW,htab]))
      have hB:=fun q=>K1.drewN q
      have HB:=hid hB
      clear hB K1
      clear htab
      subst hch
      go_wp2_with fail
      go_quiet (fail)
      have KR:=(HB.out nq).pick [2,3] (by decide) rfl
      simp only [List.filterMap_cons,List.filterMap_nil,List.getElem?_cons_zero,List.getElem?_cons_succ] at KR
      go_wp2_with fail
      go_roundw
      case rel=>exact ⟨k+1,by omega,by go_num,HN,KR⟩
      case measure=>simp [intOf];omega
    ·have HN:=hid (Xf HP.out HX.out (show ZW ⟨rtab,rcol,rlo,rhi⟩ ⟨tn,tt,true,te,⟨oA,on,oc,ol⟩,tch,⟨pA,pn,pc,pl⟩,⟨qA,qn,qc,ql⟩,⟨rA,rn,rc,rl⟩,⟨kA,kn,kc,kl⟩,⟨uA,un,uc,ul⟩⟩=true from by simp [ZW,hch]))
     have hB:=fun q=>K1.drewN q
     have HB:=hid hB
     clear hB K1
     obtain rfl:tch=false:=by simpa using hch
     clear hch
     go_wp2_with fail
     go_quiet (fail)
     have KR:=(HB.out nq).pick [2,3] (by decide) rfl
     simp only [List.filterMap_cons,List.filterMap_nil,List.getElem?_cons_zero,List.getElem?_cons_succ] at KR
     go_wp2_with fail
     go_roundw
     case rel=>exact ⟨k+1,by omega,by go_num,HN,KR⟩
     case measure=>simp [intOf];omega
  ·obtain rfl:n=k:=by omega
   have HH:=hid (show P=true from by rw [HP.out,List.drop_eq_nil_of_le (by rw [HL.out];exact Nat.le_refl _)];rfl)
   go_wp2_with fail
   go_ret
   exact ⟨by rw [HH.out]<;>rfl,H.below⟩
theorem JJ {d k:Nat} {l:List Tg} {tabs:List (ByteArray × List Col)} {t:Tg} {r:Rk} {rs:List Rk} (ht:l[k]? =some t) (hb:t.before=false) (hr:t.rank.l=r::rs):Yn d l tabs k=((Wx tabs r&&YO d t r)&&YG l r):=by
 unfold Yn
 rw [if_pos (by omega),show ((k:Int)).toNat=k by simp,ht]
 simp only
 rw [hb,if_neg (by decide),hr]
 rfl
set_option maxRecDepth 100000 in
set_option maxHeartbeats 16000000 in
theorem zP (M:Nat→Prop) (w:World) (hM:∀ b,M b→b<w.heap.size) (A:Option Addr) (n c:Nat) (l:List Tg) (B:Option Addr) (m e:Nat) (tes:List Te) (i:Int) (d:Nat) (ht:Ro w M (TgsIn (d+1) A n l)) (hD:Ro w M (TesIn B m tes)) (hn:n≤4611686018427387904) (hm:m≤1000) (hok:∀ t∈l,TgFit (d+1) t) (hcol:∀ x∈tes,x.n≤1000) (hI:∀ t∈l,∀ r∈t.rank.l,QN r):Calls Tryz.prog 36 #[.slice A n c,.slice B m e,.int .i64 i] w fun e w' =>e=.returned (.bool (Yn (d+1) l (ZM tes) i))∧Below w.heap.size w w' :=by
 have HL:=hid ht.now.len
 have K0:=((Hold.start M w hM).add (hD.less (by simp [Mut]))).add (ht.less (by simp [Mut,Hp.foot]))
 clear ht hD
 by_cases hneg:i<0
 ·have HH:=hid (Wt (d:=d+1) (l:=l) (tabs:=ZM tes) (.inl hneg))
  have d0:decide (i<0)=true:=decide_eq_true hneg
  go_enter Tryz.func36,Tryz.ntmps36
  go_wp2_with fail
  go_ret
  exact ⟨by rw [HH.out]<;>rfl,K0.below⟩
 ·obtain ⟨k,rfl⟩:∃ k:Nat,i=k:=⟨i.toNat,by omega⟩
  have k0:(0:Int)≤(k:Int):=by omega
  clear hneg
  by_cases hkn:n≤k
  ·have HH:=hid (Wt (d:=d+1) (l:=l) (tabs:=ZM tes) (.inr ⟨k,rfl,.inl (by rw [HL.out];exact hkn)⟩))
   have d0:decide ((k:Int)<0)=false:=by simp
   have d1:decide ((n:Int)≤(k:Int))=true:=by simp;omega
   go_enter Tryz.func36,Tryz.ntmps36
   go_wp2_with fail
   go_ret
   exact ⟨by rw [HH.out]<;>rfl,K0.below⟩
  ·have d0:decide ((k:Int)<0)=false:=by simp
   have d1:decide ((n:Int)≤(k:Int))=false:=by simp;omega
   have k1:(k:Int)<(n:Int):=by omega
   obtain ⟨⟨tn,tt,tb,te,⟨oA,on,oc,ol⟩,tch,⟨pA,pn,pc,pl⟩,⟨qA,qn,qc,ql⟩,⟨rA,rn,rc,rl⟩,⟨kA,kn,kc,kl⟩,⟨uA,un,uc,ul⟩⟩,hx⟩:=Z4 HL.out (show k<n by omega)
   obtain ⟨b,o,rfl,hb,hc,-⟩:=(K0.ro 0 rfl).now.at_ hx
   have x0:=hc 0 _ (by omega) rfl
   have x1:=hc 1 _ (by omega) rfl
   have x2:=hc 2 _ (by omega) rfl
   have x3:=hc 3 _ (by omega) rfl
   have x4:=hc 4 _ (by omega) rfl
   have x5:=hc 5 _ (by omega) rfl
   have x6:=hc 6 _ (by omega) rfl
   have x7:=hc 7 _ (by omega) rfl
   have x8:=hc 8 _ (by omega) rfl
   have x9:=hc 9 _ (by omega) rfl
   have x10:=hc 10 _ (by omega) rfl
   simp only [Nat.add_zero,SlP.v] at x0 x1 x2 x3 x4 x5 x6 x7 x8 x9 x10
   clear hc
   have hmx:=List.mem_of_getElem? hx
   have HFT:=hid (hok _ hmx)
   have HRI:=hid (hI _ hmx)
   have HX:=hid hx
   have HOK:=hid hok
   have K1:=(K0.add (S:=TgIn (d+1) ⟨tn,tt,tb,te,⟨oA,on,oc,ol⟩,tch,⟨pA,pn,pc,pl⟩,⟨qA,qn,qc,ql⟩,⟨rA,rn,rc,rl⟩,⟨kA,kn,kc,kl⟩,⟨uA,un,uc,ul⟩⟩) ((K0.ro 0 rfl).imp fun w2 h2=>h2.2 _ hmx)).Za #[.string tn,.string tt,.bool tb,.int .i64 te,.slice oA on oc,.bool tch,.slice pA pn pc,.slice qA qn qc,.slice rA rn rc,.slice kA kn kc,.slice uA un uc] 40
   have hrl:rl.length=rn:=(K1.ro 1 rfl).now.ranks.len
   clear K0 hx hmx hok hI
   have F1:=K1.facts
   simp only [zg] at F1
   cases tb
   ·obtain _|⟨⟨rtab,rcol,rlo,rhi⟩,rs⟩:=rl
    ·obtain rfl:rn=0:=hrl.symm
     have HH:=hid (Wt (d:=d+1) (l:=l) (tabs:=ZM tes) (.inr ⟨k,rfl,.inr ⟨_,HX.out,.inr rfl⟩⟩))
     go_enter Tryz.func36,Tryz.ntmps36
     go_wp2_with fail
     go_ret
     exact ⟨by rw [HH.out]<;>rfl,K1.below⟩
    ·have r0n:((rn:Int)==0)=false:=by simp at hrl;simp;omega
     have r1n:0<rn:=by simp at hrl;omega
     have HCB:=hid (JJ (d:=d+1) (tabs:=ZM tes) HX.out rfl rfl)
     obtain ⟨b2,o2,rfl,hb2,hcr,-⟩:=(K1.ro 1 rfl).now.ranks.at_ (k:=0) (x:=⟨rtab,rcol,rlo,rhi⟩) rfl
     have z0:=hcr 0 _ (by omega) rfl
     have z1:=hcr 1 _ (by omega) rfl
     have z2:=hcr 2 _ (by omega) rfl
     have z3:=hcr 3 _ (by omega) rfl
     simp only [Nat.zero_mul,Nat.add_zero] at z0 z1 z2 z3
     have K2:=K1.Za #[.string rtab,.string rcol,.int .i64 rlo,.int .i64 rhi] 85
     simp only [World.size_alloc] at K2
     clear hcr hrl
     have F2:=K2.facts
     simp only [zg] at F2
     have hp:=ZdS _ _ K2.Zc ⟨rtab,rcol,rlo,rhi⟩ B m e tes (K2.ro 4 rfl) hm hcol (HRI.out ⟨rtab,rcol,rlo,rhi⟩ (List.mem_cons_self ..))
     have hlo:=fun (M2:Nat→Prop) (w2:World) (h2:∀ b,M2 b→b<w2.heap.size) (hr:Ro w2 M2 (TgIn (d+1) ⟨tn,tt,false,te,⟨oA,on,oc,ol⟩,tch,⟨pA,pn,pc,pl⟩,⟨qA,qn,qc,ql⟩,⟨some ⟨b2,o2,none⟩,rn,rc,⟨rtab,rcol,rlo,rhi⟩::rs⟩,⟨kA,kn,kc,kl⟩,⟨uA,un,uc,ul⟩⟩))=>Zdy M2 w2 h2 ⟨tn,tt,false,te,⟨oA,on,oc,ol⟩,tch,⟨pA,pn,pc,pl⟩,⟨qA,qn,qc,ql⟩,⟨some ⟨b2,o2,none⟩,rn,rc,⟨rtab,rcol,rlo,rhi⟩::rs⟩,⟨kA,kn,kc,kl⟩,⟨uA,un,uc,ul⟩⟩ ⟨rtab,rcol,rlo,rhi⟩ d (hr.imp fun w3 h3=>h3.parts.2) HFT.out
     have hke:=fun (M2:Nat→Prop) (w2:World) (h2:∀ b,M2 b→b<w2.heap.size) (hr:Ro w2 M2 (TgsIn (d+1) (some ⟨b,o,none⟩) n l))=>Zg3 M2 w2 h2 (some ⟨b,o,none⟩) n c l ⟨rtab,rcol,rlo,rhi⟩ d hr hn HOK.out
     generalize Yn (d+1) l (ZM tes) k=CB at *
     generalize Wx (ZM tes) ⟨rtab,rcol,rlo,rhi⟩=PB at hp HCB
     generalize YO (d+1) ⟨tn,tt,false,te,⟨oA,on,oc,ol⟩,tch,⟨pA,pn,pc,pl⟩,⟨qA,qn,qc,ql⟩,⟨some ⟨b2,o2,none⟩,rn,rc,⟨rtab,rcol,rlo,rhi⟩::rs⟩,⟨kA,kn,kc,kl⟩,⟨uA,un,uc,ul⟩⟩ ⟨rtab,rcol,rlo,rhi⟩=OB at hlo HCB
     generalize YG l ⟨rtab,rcol,rlo,rhi⟩=RB at hke HCB
     simp only [Tg.val,Rk.val] at hp hlo hke
     have HLO:=hid hlo
     have HKE:=hid hke
     clear hlo hke
     go_enter Tryz.func36,Tryz.ntmps36
     go_wp2_with fail
     refine hp.mono ?_
     rintro e w3 ⟨rfl,b3⟩
     have K3:=K2.call b3
     clear x0 x1 x2 x3 x4 x5 x6 x7 x8 x9 x10 z0 z1 z2 z3 hb hb2 hp F1 F2 K1 K2 b3
     have F3:=K3.facts
     simp only [zg] at F3
     cases PB
     ·have HH:=hid (show CB=false from by rw [HCB.out];rfl)
      go_wp2_with fail
      go_ret
      exact ⟨by rw [HH.out]<;>rfl,K3.below⟩
     ·go_wp2_with fail
      refine (HLO.out _ _ K3.Zc (K3.ro 2 rfl)).mono ?_
      rintro e w4 ⟨rfl,b4⟩
      have K4:=K3.call b4
      clear K3 F3 b4
      have F4:=K4.facts
      simp only [zg] at F4
      cases OB
      ·have HH:=hid (show CB=false from by rw [HCB.out];rfl)
       go_wp2_with fail
       go_ret
       exact ⟨by rw [HH.out]<;>rfl,K4.below⟩
      ·have HH:=hid (show CB=RB from by rw [HCB.out];rfl)
       go_wp2_with fail
       refine (HKE.out _ _ K4.Zc (K4.ro 3 rfl)).mono ?_
       rintro e w5 ⟨rfl,b5⟩
       have K5:=K4.call b5
       clear K4 F4 b5
       go_wp2_with fail
       go_ret
       exact ⟨by rw [HH.out]<;>rfl,K5.below⟩
   ·have HH:=hid (Wt (d:=d+1) (l:=l) (tabs:=ZM tes) (.inr ⟨k,rfl,.inr ⟨_,HX.out,.inl rfl⟩⟩))
    go_enter Tryz.func36,Tryz.ntmps36
    go_wp2_with fail
    go_ret
    exact ⟨by rw [HH.out]<;>rfl,K1.below⟩
end Go.Proofs.YtnbbllkbefagmaaGreatDoor
namespace Go.Proofs.YtnbbllkbefagmaaGreatDoor
open Go.RowKit Go.Maps
set_option linter.unusedVariables false
set_option linter.unusedSimpArgs false
theorem ZcS {P : Program} {k : TypeId} {f0 f1 f2 f3 : Field} (hu : P.underlying k = some (.struct #[f0, f1, f2, f3])) (hk : P.keyType k = true) (hc : P.cellsOf k = 4) (hs : 0 < P.types.size) (n0 : (f0.name != "_") = true) (n1 : (f1.name != "_") = true) (n2 : (f2.name != "_") = true) (n3 : (f3.name != "_") = true)
  (o0:f0.offset=0) (o1:f1.offset=1) (o2:f2.offset=2) (o3:f3.offset=3) (u0:P.underlying f0.type=some .string) (u1:P.underlying f1.type=some .string) (u2:P.underlying f2.type=some (.int .i64)) (u3:P.underlying f3.type=some (.int .i64)) (c0:P.cellsOf f0.type=1) (c1:P.cellsOf f1.type=1) (c2:P.cellsOf f2.type=1) (c3:P.cellsOf f3.type=1)
  {r s:ByteArray} {a b:Int} (hr:r.size≤maxLen) (hl:s.size≤maxLen) (wa:(Lit.int .i64 a).wf=true) (wb:(Lit.int .i64 b).wf=true):∃ kl,keyOf P k (.agg #[.string r,.string s,.int .i64 a,.int .i64 b])=some kl:=by
 obtain ⟨m,hm⟩:∃ m,P.types.size=m+1:=⟨P.types.size - 1,by omega⟩
 simp [keyOf,hu,hk,Value.formed,hc,hm,Program.keyLits,Value.cells,n0,n1,n2,n3,o0,o1,o2,o3,u0,u1,u2,u3,c0,c1,c2,c3,wa,wb,hr,hl]
theorem Tryz.Zhn:Keyed Tryz.prog 85:=Keyed.of_law (deep_law_laid Tryz.Zhl (m:=8) (by omega) (of_decide_eq_true (by kernel_rfl)) (by kernel_rfl) (by kernel_rfl))
theorem Zfd (x:Rk) (h:Y8 x):∃ kl,keyOf Tryz.prog 85 x.val=some kl:=
 ZcS Tryz.underlying85 (by kernel_rfl) (by kernel_rfl) (of_decide_eq_true (by kernel_rfl)) (by rfl) (by rfl) (by rfl) (by rfl) rfl rfl rfl rfl Tryz.underlying9 Tryz.underlying9 Tryz.underlying2 Tryz.underlying2 (by kernel_rfl) (by kernel_rfl) (by kernel_rfl) (by kernel_rfl) h.2.1 h.2.2 (wf_i64 h.1.1) (wf_i64 h.1.2)
def Ut:KeyFam Tryz.prog 85 Rk where
 val:=Rk.val
 ok:=Y8
 key:=Zfd
 inj:=fun x y h=>by
  cases x;cases y
  simp [Rk.val] at h
  obtain ⟨rfl,rfl,rfl,rfl⟩:=h
  rfl
theorem Tryz.VF:SetT Tryz.prog 163 85 4:=⟨Tryz.underlying163,Tryz.underlying4,fun w=>by kernel_rfl,Tryz.Zhn⟩
section
variable {P:Program} {t k e:TypeId} {κ:Type} {F:KeyFam P k κ} {b n:Nat} {S:κ→Prop} {M:Nat→Prop} {row:Option Nat} {w0 w:World} {L:List Hp}
theorem Zbb (K:Hold M row w0 w L) (i:Nat) (hi:L[i]? =some (.ob b (MSet e F b n S))) (T:SetT P t k e) {ops:Array Oper} {rest:List Oper} {o:Oper} {a:Act} {Q:Exit→Act→World→Prop}
  (hw:Region.wanted o (yielded ops a.tmps)=true) (m x:Operand) (hop:o.op=Op.lookup t m x false) (hm:a.eval m=.map (some b)) (y:κ) (hx:a.eval x=F.val y) (hy:F.ok y)
  (h:∀ c:Bool,(c=true↔S y)→wpList P ops Q rest (a.put o.dst (.bool c)) w):wpList P ops Q (o::rest) a w:=by
 obtain ⟨c,hrun,hc⟩:=(K.ob_ i hi).look T hy
 unfold wpList
 rw [if_pos hw]
 refine Or.inl ?_
 unfold Oper.wp
 simp [execOp,hop,hm,hx,hrun,Result.andThen]
 exact h c hc
end
set_option maxHeartbeats 2000000 in
set_option maxRecDepth 100000 in
theorem ZeZ (M:Nat→Prop) (w:World) (hM:∀ b,M b→b<w.heap.size) (A:Option Addr) (n c:Nat) (l:List Te) (f:FuncId) (cv:Value) (s:ByteArray) (S:World→Prop) (hcf:∀ args w,Sem.run Tryz.prog (callFunc f args) w=.ok (.enter f args) w) (hf:∀ (w2:World) (x:Te),S w2→Calls Tryz.prog f #[.agg #[.string x.nm,.slice x.A x.n x.c,.int .i64 x.nx,.slice x.B x.m x.d],cv] w2 fun e w' =>e=.returned (.bool (x.nm.toList==s.toList))∧Below w2.heap.size w2 w') (hB:Ro w M S) (hD:Ro w M (TesIn A n l)) (hn:n≤4611686018427387904):
  Calls Tryz.prog 88 #[.slice A n c,.func (.func f) #[] #[cv]] w fun e w' =>e=.returned (.int .i64 (YF (l.map Te.tb) s))∧Below w.heap.size w w' :=by
 have HL:=hid hD.now.len
 have HCF:=hid hcf
 have HF:=hid hf
 clear hcf hf
 have K0:=(((Hold.start M w hM).add (hB.less (by simp [Mut]))).add (hD.less (by simp [Mut,Hp.foot])))
 go_enter Tryz.func88,Tryz.ntmps88
 go_wp2_with fail
 go_loopw [8] (fun iv wr=>∃ (k:Nat),k≤n∧iv=.int .i64 k∧Hid (YF (l.map Te.tb) s=ZN (fun t=>t.nm.toList==s.toList) k ((l.map Te.tb).drop k))∧Hold M none w wr [.ro (TesIn A n l),.ro S]) (fun iv _=>n - (intOf iv).toNat)
 case atStart=>exact ⟨0,by omega,rfl,hid rfl,K0⟩
 case round=>
  clear K0
  obtain ⟨k,hk,rfl,HC,H⟩:=hrel
  by_cases hlt:k<n
  ·have hd:decide ((k:Int)<(n:Int))=true:=by simp;omega
   have i0:(0:Int)≤(k:Int):=by omega
   have i1:(k:Int)<(n:Int):=by omega
   obtain ⟨x,hx⟩:=Z4 HL.out hlt
   obtain ⟨g,o,rfl,hb,c0,c1,c2,c3,-⟩:=(H.ro 0 rfl).now.at_ hx
   have HX:=hid (JI hx)
   clear hx
   go_wp2_with fail
   rw [HCF.out]
   refine (HF.out wr x (H.ro 1 rfl).now).mono ?_
   rintro e w1 ⟨rfl,b1⟩
   have K1:=H.call b1
   clear H b1
   cases hz:(x.nm.toList==s.toList)
   ·have HN:=hid (Uk HC.out HX.out hz)
    clear hz
    go_wp2_with fail
    go_roundw
    case rel=>exact ⟨k+1,by omega,by go_num,HN,K1⟩
    case measure=>simp [intOf];omega
   ·have HN:=hid (show YF (l.map Te.tb) s=(k:Int) from VL HC.out HX.out hz)
    clear hz
    go_wp2_with fail
    go_ret
    exact ⟨by rw [HN.out]<;>rfl,K1.below⟩
  ·obtain rfl:n=k:=by omega
   have hd:decide ((n:Int)<(n:Int))=false:=by simp
   have HN:=hid (show YF (l.map Te.tb) s=-1 from VD HC.out (by rw [List.length_map,HL.out];exact Nat.le_refl _))
   go_wp2_with fail
   go_ret
   exact ⟨by rw [HN.out]<;>rfl,H.below⟩
theorem Zdj {m:Nat} {D:Int} (hm:m≤1000000) (h0:0≤D) (h1:D≤1048576):wrap64 (min (IntKind.u64.wrap (min (m:Int) 17592186044416 * (min D 17592186044416+1))) 17592186044416)=(m:Int) * (D+1):=by
 have hmm:(m:Int) * (D+1)≤1000000 * 1048577:=Int.mul_le_mul (by omega) (by omega) (by omega) (by omega)
 have hm0:0≤(m:Int) * (D+1):=Int.mul_nonneg (by omega) (by omega)
 rw [Int.min_eq_left (show (m:Int)≤17592186044416 by omega),Int.min_eq_left (show D≤17592186044416 by omega)]
 generalize (m:Int) * (D+1)=p at *
 have hu:IntKind.u64.wrap p=p:=by
  have e:IntKind.u64.wrap p=p % 18446744073709551616:=by simp [IntKind.wrap,IntKind.bits,IntKind.signed]
  rw [e];omega
 rw [hu,Int.min_eq_left (by omega)]
 unfold wrap64
 omega
theorem ZgU {D:Int} (h0:0≤D) (h1:D≤1048576):1000000≤(17592186044416:Int) / (D+1):=by
 exact Int.le_ediv_of_mul_le (by omega) (by omega)
set_option maxHeartbeats 4000000 in
set_option maxRecDepth 100000 in
theorem Zgx (w:World) (r:Rk) (nm:ByteArray) (A:Option Addr) (n c:Nat) (nx:Int) (B:Option Addr) (m d:Nat) (hI:I64 r.lo∧I64 r.hi) (h1:r.lo≤r.hi) (h2:r.hi - r.lo≤1048576) (hm:m≤1000000):Calls Tryz.prog 41 #[r.val,.agg #[.string nm,.slice A n c,.int .i64 nx,.slice B m d]] w fun e w' =>e=.returned (.int .i64 ((m:Int) * (r.hi - r.lo+1)))∧Below w.heap.size w w' :=by
 obtain ⟨rtab,rcol,rlo,rhi⟩:=r
 simp only at hI h1 h2 ⊢
 have K0:=((Hold.YD w).Za #[.string rtab,.string rcol,.int .i64 rlo,.int .i64 rhi] 85).Za #[.string nm,.slice A n c,.int .i64 nx,.slice B m d] 67
 simp only [World.size_alloc] at K0
 have F0:=K0.facts
 simp only [zg] at F0
 have HB:=hid K0.below
 have hB:=fun q=>(K0.drewN q).below
 have HBQ:=hid hB
 clear K0 hB
 have hu:=U0 h1 hI.1 hI.2
 have d0:decide (rhi<rlo)=false:=by simp;omega
 simp only [Rk.val]
 by_cases h0:m=0
 ·subst h0
  go_enter Tryz.func41,Tryz.ntmps41
  go_wp2_with fail
  go_ret
  exact ⟨by first|rfl|simp,HB.out⟩
 ·have m0:((m:Int)==0)=false:=by simp;omega
  obtain ⟨D,hD⟩:∃ D:Int,rhi - rlo=D:=⟨_,rfl⟩
  rw [hD] at hu h2 ⊢
  have hD0:0≤D:=by omega
  have hmm:(m:Int) * (D+1)≤1000000 * 1048577:=Int.mul_le_mul (by omega) (by omega) (by omega) (by omega)
  have hm0:0≤(m:Int) * (D+1):=Int.mul_nonneg (by omega) (by omega)
  clear hD h0
  go_enter Tryz.func41,Tryz.ntmps41
  go_wp2_with fail
  go_ret
  exact ⟨by rw [←Zdj hm hD0 h2]<;>rfl,HB.out⟩
set_option maxHeartbeats 4000000 in
set_option maxRecDepth 100000 in
theorem ZeK (w:World) (r:Rk) (nm:ByteArray) (A:Option Addr) (n c:Nat) (nx:Int) (B:Option Addr) (m d:Nat) (hI:I64 r.lo∧I64 r.hi) (h1:r.lo≤r.hi) (h2:r.hi - r.lo≤1048576) (hm:m≤1000000):Calls Tryz.prog 90 #[r.val,.agg #[.string nm,.slice A n c,.int .i64 nx,.slice B m d]] w fun e w' =>e=.returned (.int .i64 ((m:Int) * (r.hi - r.lo+1)))∧Below w.heap.size w w' :=by
 obtain ⟨rtab,rcol,rlo,rhi⟩:=r
 simp only at hI h1 h2 ⊢
 have K0:=((Hold.YD w).Za #[.string rtab,.string rcol,.int .i64 rlo,.int .i64 rhi] 85).Za #[.string nm,.slice A n c,.int .i64 nx,.slice B m d] 67
 simp only [World.size_alloc] at K0
 have F0:=K0.facts
 simp only [zg] at F0
 have HB:=hid K0.below
 have hB:=fun q=>(K0.drewN q).below
 have HBQ:=hid hB
 clear K0 hB
 have hu:=U0 h1 hI.1 hI.2
 have d0:decide (rhi<rlo)=false:=by simp;omega
 simp only [Rk.val]
 by_cases h0:m=0
 ·subst h0
  go_enter Tryz.func90,Tryz.ntmps90
  go_wp2_with fail
  go_ret
  exact ⟨by first|rfl|simp,HB.out⟩
 ·have m0:((m:Int)==0)=false:=by simp;omega
  obtain ⟨D,hD⟩:∃ D:Int,rhi - rlo=D:=⟨_,rfl⟩
  rw [hD] at hu h2 ⊢
  have hD0:0≤D:=by omega
  have hmm:(m:Int) * (D+1)≤1000000 * 1048577:=Int.mul_le_mul (by omega) (by omega) (by omega) (by omega)
  have hm0:0≤(m:Int) * (D+1):=Int.mul_nonneg (by omega) (by omega)
  clear hD h0
  go_enter Tryz.func90,Tryz.ntmps90
  have d4:decide ((17592186044416:Int)≤D)=false:=by simp;omega
  have hz:(D+1==0)=false:=by simp;omega
  have hq:=ZgU hD0 h2
  have d7:decide ((17592186044416:Int) / (D+1)<(m:Int))=false:=by rw [decide_eq_false_iff_not];omega
  have hw:IntKind.i64.wrap (D+1)=D+1:=IntWalk.i64_in _ (by omega)
  go_wp2_with fail
  go_quiet (fail)
  go_wp2_with fail
  go_ret
  exact ⟨by first|rfl|simp,HBQ.out _⟩
end Go.Proofs.YtnbbllkbefagmaaGreatDoor
namespace Go.Proofs.YtnbbllkbefagmaaGreatDoor
open Go.RowKit Go.Maps
set_option linter.unusedVariables false
set_option linter.unusedSimpArgs false
def UR (tes:List Te) (r:Rk):Int:=match tes[(YF (tes.map Te.tb) r.tab).toNat]? with|some x=>(x.m:Int) * (r.hi - r.lo+1)|none=>0
open Classical in
noncomputable def Uu (d:Nat) (ts:List Tg) (tes:List Te) (k:Nat) (s:Int × List Rk):Int × List Rk:=
 match ts[k]? with
 | some t=>(match t.rank.l with
  | r::_=>if Yn d ts (ZM tes) k=true∧r ∉ s.2 then (min (s.1+UR tes r) 17592186044416,r::s.2) else s
  | []=>s)
 | none=>s
noncomputable def YL (d:Nat) (ts:List Tg) (tes:List Te):Nat→Int × List Rk
 | 0=>(0,[])
 | k+1=>Uu d ts tes k (YL d ts tes k)
section
variable {d k:Nat} {ts:List Tg} {tes:List Te} {s:Int} {q:List Rk}
theorem Zbg (h:YL d ts tes k=(s,q)) (hc:Yn d ts (ZM tes) k=false):YL d ts tes (k+1)=(s,q):=by
 rw [YL,h,Uu]
 split
 ·split
  ·rw [if_neg (by simp [hc])]
  ·rfl
 ·rfl
theorem Za0 {t:Tg} {r:Rk} {rs:List Rk} (h:YL d ts tes k=(s,q)) (hx:ts[k]? =some t) (hr:t.rank.l=r::rs) (hin:r∈q):YL d ts tes (k+1)=(s,q):=by
 rw [YL,h,Uu,hx]
 simp only
 rw [hr]
 simp only
 rw [if_neg (by simp [hin])]
theorem Zbi {t:Tg} {r:Rk} {rs:List Rk} (h:YL d ts tes k=(s,q)) (hc:Yn d ts (ZM tes) k=true) (hx:ts[k]? =some t) (hr:t.rank.l=r::rs) (hin:r ∉ q):YL d ts tes (k+1)=(min (s+UR tes r) 17592186044416,r::q):=by
 rw [YL,h,Uu,hx]
 simp only
 rw [hr]
 simp only
 rw [if_pos ⟨hc,hin⟩]
theorem Gz {tabs:List (ByteArray × List Col)} (h:Yn d ts tabs k=true):∃ t r rs,ts[k]? =some t∧t.before=false∧t.rank.l=r::rs∧Wx tabs r=true:=by
 cases ht:ts[k]? with
 | none=>rw [Wt (.inr ⟨k,rfl,.inl (by simpa using ht)⟩)] at h;cases h
 | some t=>
  cases hb:t.before with
  | true=>rw [Wt (.inr ⟨k,rfl,.inr ⟨t,ht,.inl hb⟩⟩)] at h;cases h
  | false=>
   cases hr:t.rank.l with
   | nil=>rw [Wt (.inr ⟨k,rfl,.inr ⟨t,ht,.inr hr⟩⟩)] at h;cases h
   | cons r rs=>
    rw [JJ ht hb hr] at h
    simp only [Bool.and_eq_true] at h
    exact ⟨t,r,rs,rfl,hb,hr,h.1.1⟩
theorem Zbk {r:Rk} (h:Wx (ZM tes) r=true):(∃ (j:Nat) (x:Te),tes[j]? =some x∧YF (tes.map Te.tb) r.tab=(j:Int)∧UR tes r=(x.m:Int) * (r.hi - r.lo+1))∧r.lo≤r.hi∧r.hi - r.lo≤1048576:=by
 unfold Wx at h
 simp only [Bool.and_eq_true,decide_eq_true_eq] at h
 refine ⟨?_,h.2.1,h.2.2⟩
 rcases Zbf tes r.tab with ⟨hf,-⟩|⟨j,x,hx,-,hs⟩
 ·rw [hf] at h;exact absurd h.1 (by simp)
 ·exact ⟨j,x,hx,hs,by unfold UR;rw [hs,Int.toNat_natCast,hx]⟩
end
theorem GJ (M:Nat→Prop) (w:World) (hM:∀ b,M b→b<w.heap.size) (A:Option Addr) (n c:Nat) (l:List Tg) (B:Option Addr) (m e:Nat) (tes:List Te) (i:Int) (d:Nat) (ht:Ro w M (TgsIn (d+1) A n l)) (hD:Ro w M (TesIn B m tes)) (hn:n≤4611686018427387904) (hm:m≤1000) (hok:∀ t∈l,TgFit (d+1) t) (hcol:∀ x∈tes,x.n≤1000) (hI:∀ t∈l,∀ r∈t.rank.l,QN r):Calls Tryz.prog 35 #[.slice A n c,.slice B m e,.int .i64 i] w fun e w' =>e=.returned (.bool (Yn (d+1) l (ZM tes) i))∧Below w.heap.size w w' :=by
 by_cases hb:JH l i
 ·rw [Wt hb]
  exact Zf6 M w hM A n c l B m e tes i d ht hn hb
 ·have h0:0≤i:=by
   rcases Int.lt_or_le i 0 with h|h
   ·exact absurd (.inl h) hb
   ·exact h
  obtain ⟨k,rfl⟩:∃ k:Nat,i=k:=⟨i.toNat,by omega⟩
  cases hx:l[k]? with
  | none=>exact absurd (.inr ⟨k,rfl,.inl (by simpa using hx)⟩) hb
  | some t=>
   cases hbf:t.before with
   | true=>exact absurd (.inr ⟨k,rfl,.inr ⟨t,hx,.inl hbf⟩⟩) hb
   | false=>
    cases hr:t.rank.l with
    | nil=>exact absurd (.inr ⟨k,rfl,.inr ⟨t,hx,.inr hr⟩⟩) hb
    | cons r rs=>
     have e1:Yn (d+1) l (ZM tes) k=Ws (d+1) l (ZM tes) t r:=by rw [JJ hx hbf hr];rfl
     rw [e1]
     exact ZaO M w hM A n c l B m e tes k t r rs d ht hD hn (Nat.le_trans hm (by decide)) hok (fun x hx=>Nat.le_trans (hcol x hx) (by decide)) hx hbf hr (hI t (List.mem_of_getElem? hx) r (by rw [hr];exact List.mem_cons_self ..))
set_option maxHeartbeats 4000000 in
theorem ZdX (w:World) (g:Nat) (rtab rcol:ByteArray) (lo hi:Int) (x:Te) (hx:w.heap[g]? =some (.cells #[.string rtab,.string rcol,.int .i64 lo,.int .i64 hi] 85 (0,0))):Calls Tryz.prog 89 #[.agg #[.string x.nm,.slice x.A x.n x.c,.int .i64 x.nx,.slice x.B x.m x.d],.pointer (some ⟨g,0,none⟩)] w fun e w' =>e=.returned (.bool (x.nm.toList==rtab.toList))∧Below w.heap.size w w' :=by
 obtain ⟨xnm,xA,xn,xc,xcs,xnx,xB,xm,xd,xrs⟩:=x
 simp only
 have hlt:g<w.heap.size:=by
  rcases Nat.lt_or_ge g w.heap.size with h|h
  ·exact h
  ·rw [Array.getElem?_eq_none h] at hx;cases hx
 have K0:=((Hold.YD w).add (S:=fun w' =>w'.heap[g]? =some (.cells #[.string rtab,.string rcol,.int .i64 lo,.int .i64 hi] 85 (0,0))) (fun w2 h1 h2=>(h2 g hlt (by simp [Mut,Zb])).trans hx)).Za #[.string xnm,.slice xA xn xc,.int .i64 xnx,.slice xB xm xd] 67
 have s1:=cell_of_row _ _ 0 _ _ _ (K0.ro 1 rfl).now
 have F0:=K0.facts
 simp only [zg] at F0
 have HB:=hid K0.below
 clear K0 hx hlt
 go_enter Tryz.func89,Tryz.ntmps89
 go_wp2_with fail
 go_ret
 exact ⟨by first|rfl|simp,HB.out⟩
end Go.Proofs.YtnbbllkbefagmaaGreatDoor
namespace Go.Proofs.YtnbbllkbefagmaaGreatDoor
open Go.RowKit Go.Maps
set_option linter.unusedVariables false
set_option linter.unusedSimpArgs false
theorem J8 (v:Rk) (seen:List Rk):(fun z=>z=v∨z∈seen)=(fun z=>z∈v::seen):=by funext z;simp
theorem zY {w:World} {b o g:Nat} {c0 c1 c2 c3:Value} {t:TypeId} {a0 a1 a2 a3:Value} (h:Blk w g t #[a0,a1,a2,a3]) (h0:w.cell? ⟨b,o,none⟩=some c0) (h1:w.cell? ⟨b,o+1,none⟩=some c1) (h2:w.cell? ⟨b,o+2,none⟩=some c2) (h3:w.cell? ⟨b,o+3,none⟩=some c3):w.cell? ⟨g,0,none⟩=some a0∧w.cell? ⟨g,1,none⟩=some a1∧w.cell? ⟨g,2,none⟩=some a2∧w.cell? ⟨g,3,none⟩=some a3∧w.cell? ⟨b,o,none⟩=some c0∧w.cell? ⟨b,o+1,none⟩=some c1∧w.cell? ⟨b,o+2,none⟩=some c2∧w.cell? ⟨b,o+3,none⟩=some c3:=⟨h.cell 0,h.cell 1,h.cell 2,h.cell 3,h0,h1,h2,h3⟩
theorem ZaV {m:Nat} {D:Int} (hm:m≤1000000) (h0:0≤D) (h1:D≤1048576):0≤(m:Int) * (D+1)∧(m:Int) * (D+1)≤1000000 * 1048577:=
 ⟨Int.mul_nonneg (by omega) (by omega),Int.mul_le_mul (by omega) (by omega) (by omega) (by omega)⟩
set_option maxHeartbeats 16000000 in
set_option maxRecDepth 100000 in
theorem zC (M:Nat→Prop) (w:World) (hM:∀ b,M b→b<w.heap.size) (A:Option Addr) (n c:Nat) (l:List Tg) (B:Option Addr) (m e:Nat) (tes:List Te) (d:Nat) (ht:Ro w M (TgsIn (d+1) A n l)) (hD:Ro w M (TesIn B m tes)) (hn:n≤1000000) (hm:m≤1000) (hok:∀ t∈l,TgFit (d+1) t) (hcol:∀ x∈tes,x.n≤1000) (hrows:∀ x∈tes,x.m≤1000000) (hI:∀ t∈l,∀ r∈t.rank.l,Y8 r):Calls Tryz.prog 37 #[.slice A n c,.slice B m e] w fun e w' =>e=.returned (.int .i64 (YL (d+1) l tes n).1)∧Below w.heap.size w w' :=by
 have HL:=hid ht.now.len
 have HCE:=hid (fun (M2:Nat→Prop) (w2:World) (h2:∀ b,M2 b→b<w2.heap.size) (hr:Ro w2 M2 (TgsIn (d+1) A n l)) (hD:Ro w2 M2 (TesIn B m tes)) (j:Int)=>GJ M2 w2 h2 A n c l B m e tes j d hr hD (by omega) hm hok hcol (fun t h r hr=>(hI t h r hr).1))
 have HI:=hid hI
 have HRW:=hid hrows
 have HM:=hid hm
 have K0:=((Hold.start M w hM).add (hD.less (by simp [Mut]))).add (ht.less (by simp [Mut,Hp.foot]))
 have KM:=Hold.ZbA K0 4 Ut
 rw [show (fun _:Rk=>False)=(fun z=>z∈([]:List Rk)) by funext z;simp] at KM
 have hmm:=@run_makeMap Tryz.prog
 clear ht hD hok hcol hrows hI K0 hm
 obtain ⟨gm,hgm⟩:∃ gm,gm=w.heap.size:=⟨_,rfl⟩
 rw [←hgm] at KM
 have HGM:=hid hgm
 go_enter Tryz.func37,Tryz.ntmps37
 go_wp2
 go_step3
 go_wp2
 rw [←hgm]
 clear hgm
 go_step3
 go_wp2
 go_loopw [5,13] (fun tv iv wr=>∃ (j q:Nat) (s:Int) (seen:List Rk),j≤n∧iv=.int .i64 j∧tv=.int .i64 s∧q≤j∧Hid (0≤s∧s≤17592186044416∧YL (d+1) l tes j=(s,seen))∧Hold M none w wr [.ob gm (MSet 4 Ut gm q (fun z=>z∈seen)),.ro (TgsIn (d+1) A n l),.ro (TesIn B m tes)]) (fun _ iv _=>n - (intOf iv).toNat)
 case atStart=>exact ⟨0,0,0,[],by omega,rfl,rfl,by omega,hid ⟨by decide,by decide,rfl⟩,KM⟩
 case round=>
  clear KM
  obtain ⟨j,q,s,seen,hj,rfl,rfl,hq,HS,H⟩:=hrel
  by_cases hlt:j<n
  ·have hdd:decide ((j:Int)<(n:Int))=true:=by simp;omega
   have j0:(0:Int)≤(j:Int):=by omega
   have j1:(j:Int)<(n:Int):=by omega
   go_wp2_with fail
   refine (HCE.out _ _ H.Zc (H.ro 1 rfl) (H.ro 2 rfl) j).mono ?_
   rintro e w1 ⟨rfl,b1⟩
   have K1:=H.call b1
   clear H b1
   cases hc:Yn (d+1) l (ZM tes) j
   ·have HN:=hid (Zbg HS.out.2.2 hc)
    clear hc
    go_wp2_with fail
    go_roundw
    case rel=>exact ⟨j+1,q,s,seen,by omega,by go_num,rfl,by omega,hid ⟨HS.out.1,HS.out.2.1,HN.out⟩,K1⟩
    case measure=>simp [intOf];omega
   ·obtain ⟨⟨tn,tt,tb,te,⟨oA,on,oc,ol⟩,tch,⟨pA,pn,pc,pl⟩,⟨qA,qn,qc,ql⟩,⟨rA,rn,rc,rl⟩,⟨kA,kn,kc,kl⟩,⟨uA,un,uc,ul⟩⟩,⟨rtab,rcol,rlo,rhi⟩,rs,hx,hb,hr,hp⟩:=Gz hc
    obtain ⟨⟨k,⟨xnm,xA,xn,xc,xcs,xnx,xB,xm,xd,xrs⟩,hxk,hfs,hms⟩,hlo,hhi⟩:=Zbk hp
    simp only at hr hlo hhi hms hfs hb
    subst hr
    subst hb
    have hmx:=List.mem_of_getElem? hx
    have hrk:=HI.out _ hmx ⟨rtab,rcol,rlo,rhi⟩ (List.mem_cons_self ..)
    have hxm:=HRW.out _ (List.mem_of_getElem? hxk)
    simp only at hxm
    have HRK:=hid hrk
    have HXM:=hid hxm
    have HHL:=hid (And.intro hlo hhi)
    have HC:=hid hc
    have HX:=hid hx
    have HMS:=hid hms
    have hrl:=((K1.ro 1 rfl).now.2 _ hmx).ranks.len
    have hrn:0<rn:=by simp at hrl;omega
    have HXK:=hid hxk
    have hkm:k<m:=by rw [←(K1.ro 2 rfl).now.len];exact (List.getElem?_eq_some_iff.1 hxk).1
    obtain ⟨b,o,rfl,hbs,hcl,-⟩:=(K1.ro 1 rfl).now.at_ hx
    have x8:=hcl 8 _ (by omega) rfl
    obtain ⟨b2,o2,rfl,hb2,hcr,-⟩:=((K1.ro 1 rfl).now.2 _ hmx).ranks.at_ (k:=0) (x:=⟨rtab,rcol,rlo,rhi⟩) rfl
    have z0:=hcr 0 _ (by omega) rfl
    have z1:=hcr 1 _ (by omega) rfl
    have z2:=hcr 2 _ (by omega) rfl
    have z3:=hcr 3 _ (by omega) rfl
    simp only [Nat.zero_mul,Nat.add_zero,SlP.v] at x8 z0 z1 z2 z3
    have K2:=K1.Za #[.string rtab,.string rcol,.int .i64 rlo,.int .i64 rhi] 85
    have htx:=ZeZ _ _ K2.Zc B m e tes 89 (.pointer (some ⟨w1.heap.size,0,none⟩)) rtab _ (fun _ _=>rfl) (fun w2 x hS=>ZdX w2 w1.heap.size rtab rcol rlo rhi x hS) (K2.get 0 rfl) (K2.ro 3 rfl) (Nat.le_trans HM.out (by decide))
    rw [hfs] at htx
    clear hcl hcr hrl hmx hrk hxm hlo hhi hc hx hms hxk hfs hp
    go_wp2_with fail
    refine htx.mono ?_
    rintro e w3 ⟨rfl,b3⟩
    have K3:=K2.call b3
    clear K1 K2 htx b3 x8 z0 z1 z2 z3 hb2 hbs
    have hk0:decide ((k:Int)<0)=false:=by simp
    have F3:=K3.facts
    simp only [zg] at F3
    by_cases hin:(⟨rtab,rcol,rlo,rhi⟩:Rk)∈seen
    ·have HN:=hid (Za0 HS.out.2.2 HX.out rfl hin)
     have HIN:=hid hin;clear hin
     go_wp2_with (at_lookup;go_must (refine Zaa K3 1 rfl Tryz.VF rfl (.tmp 31) (.tmp 32) rfl rfl ⟨rtab,rcol,rlo,rhi⟩ rfl HRK.out ?_);intro cb hcb;obtain rfl:cb=true:=hcb.2 HIN.out;clear hcb)
     go_roundw
     case rel=>exact ⟨j+1,q,s,seen,by omega,by go_num,rfl,by omega,hid ⟨HS.out.1,HS.out.2.1,HN.out⟩,K3.drop (List.sublist_cons_self _ _)⟩
     case measure=>simp [intOf];omega
    ·have HN:=hid (Zbi HS.out.2.2 HC.out HX.out rfl hin)
     have HIN:=hid hin;clear hin
     go_wp2_with (first
      | (at_lookup;go_must (refine Zaa K3 1 rfl Tryz.VF rfl (.tmp 31) (.tmp 32) rfl rfl ⟨rtab,rcol,rlo,rhi⟩ rfl HRK.out ?_);intro cb hcb;obtain rfl:cb=false:=(by cases cb;rfl;exact absurd (hcb.1 rfl) HIN.out);clear hcb)
      | (at_mapUpdate;go_must (refine ZaW K3 1 rfl Tryz.VF rfl (.tmp 38) (.tmp 39) _ rfl rfl ⟨rtab,rcol,rlo,rhi⟩ rfl rfl HRK.out (by unfold maxLen;omega) ?_);intro w5 K5;rw [J8] at K5))
     have hlh:=HHL.out
     have hv:=ZaV HXM.out (D:=rhi - rlo) (by omega) (by omega)
     have hce:=fun w2=>Zgx w2 ⟨rtab,rcol,rlo,rhi⟩ xnm xA xn xc xnx xB xm xd HRK.out.1 hlh.1 hlh.2 HXM.out
     have hms:=HMS.out
     simp only [Rk.val] at hce
     generalize (xm:Int) * (rhi - rlo+1)=V at hv hce hms
     rw [hms] at HN
     have hs0:=HS.out.1
     have hs1:=HS.out.2.1
     have hw:IntKind.i64.wrap (s+V)=s+V:=IntWalk.i64_in _ (by omega)
     have HMI:=hid (show 0≤min (s+V) 17592186044416∧min (s+V) 17592186044416≤17592186044416 by omega)
     have HCEM:=hid hce
     clear hlh hce hms hv hs0 hs1 HMS
     obtain ⟨gB,oB,rfl,hgB,y0,y1,y2,y3,-⟩:=(K5.drew.ro 3 rfl).now.at_ HXK.out
     have k0:(0:Int)≤(k:Int):=by omega
     have k1:(k:Int)<(m:Int):=by omega
     simp only at y0 y1 y2 y3
     have h8:=zY (K5.drew.ZB 0 rfl) y0 y1 y2 y3
     go_region_held3 (fun w' =>w'.cell? ⟨w1.heap.size,0,none⟩=some (.string rtab)∧w'.cell? ⟨w1.heap.size,1,none⟩=some (.string rcol)∧w'.cell? ⟨w1.heap.size,2,none⟩=some (.int .i64 rlo)∧w'.cell? ⟨w1.heap.size,3,none⟩=some (.int .i64 rhi)∧w'.cell? ⟨gB,oB+k * 4,none⟩=some (.string xnm)∧w'.cell? ⟨gB,oB+k * 4+1,none⟩=some (.slice xA xn xc)∧w'.cell? ⟨gB,oB+k * 4+2,none⟩=some (.int .i64 xnx)∧w'.cell? ⟨gB,oB+k * 4+3,none⟩=some (.slice xB xm xd))
      (first|exact h8|(obtain ⟨gB',oB',hB',hgB',y0',y1',y2',y3',-⟩:=(K6.ro 3 rfl).now.at_ HXK.out;obtain ⟨rfl,rfl⟩:gB=gB' ∧oB=oB' :=(by injection hB' with hB';injection hB' with h1 h2;exact ⟨h1,h2⟩);exact zY (K6.ZB 0 rfl) y0' y1' y2' y3'))
      (first|(go_at_call 41;((with_reducible refine (HCEM.out _).mono ?_);rintro e w6 ⟨rfl,b6⟩;have K6:=K5.drew.call b6)))
     go_wp2_with fail
     go_roundw
     case rel=>exact ⟨j+1,q+1,min (s+V) 17592186044416,⟨rtab,rcol,rlo,rhi⟩::seen,by omega,by go_num,rfl,by omega,hid ⟨HMI.out.1,HMI.out.2,HN.out⟩,K6.drop (List.sublist_cons_self _ _)⟩
     case measure=>simp [intOf];omega
  ·obtain rfl:n=j:=by omega
   have hdd:decide ((n:Int)<(n:Int))=false:=by simp
   have HN:=HS.out.2.2
   go_wp2_with fail
   rw [Exit.noGoto_ret]
   go_ret
   exact ⟨by rw [HN]<;>rfl,H.below⟩
end Go.Proofs.YtnbbllkbefagmaaGreatDoor

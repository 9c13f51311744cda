import Derived.Test.YtnbbllkbefagmaaGreatDoorRkCtsSaidMAD
import Derived.Test.YtnbbllkbefagmaaGreatDoorRows
import Derived.Test.YtnbbllkbefagmaaGreatDoorRkCtsSaidMC
import Derived.Test.YtnbbllkbefagmaaGreatDoorRkCtsSaidMAA
import Derived.Deep.Slices
import Derived.Deep.Fields
import Derived.ChangeSame
import Derived.Lib.SmallJoins
import Derived.Test.YtnbbllkbefagmaaGreatDoorRkCtsSaidMAC
import Derived.Test.YtnbbllkbefagmaaGreatDoorRkCtsSaidME
namespace Go.Proofs.YtnbbllkbefagmaaGreatDoor
open Go.RowKit Go.Maps
set_option linter.unusedVariables false
set_option linter.unusedSimpArgs false
theorem Zas {w:World} {b o b2 o2 g:Nat} {c0 c1 c2 c3 r0 r1 r2 r3:Value} {t:TypeId} {a0 a1 a2 a3 a4 a5 a6 a7 a8 a9 a10:Value} (h:Blk w g t #[a0,a1,a2,a3,a4,a5,a6,a7,a8,a9,a10]) (hr:w.cell? ⟨b2,o2,none⟩=some r0∧w.cell? ⟨b2,o2+1,none⟩=some r1∧w.cell? ⟨b2,o2+2,none⟩=some r2∧w.cell? ⟨b2,o2+3,none⟩=some r3) (h0:w.cell? ⟨b,o,none⟩=some c0) (h1:w.cell? ⟨b,o+1,none⟩=some c1) (h2:w.cell? ⟨b,o+2,none⟩=some c2) (h3:w.cell? ⟨b,o+3,none⟩=some c3):w.cell? ⟨g,8,none⟩=some a8∧w.cell? ⟨b2,o2,none⟩=some r0∧w.cell? ⟨b2,o2+1,none⟩=some r1∧w.cell? ⟨b2,o2+2,none⟩=some r2∧w.cell? ⟨b2,o2+3,none⟩=some r3∧w.cell? ⟨b,o,none⟩=some c0∧w.cell? ⟨b,o+1,none⟩=some c1∧w.cell? ⟨b,o+2,none⟩=some c2∧w.cell? ⟨b,o+3,none⟩=some c3:=⟨h.cell 8,hr.1,hr.2.1,hr.2.2.1,hr.2.2.2,h0,h1,h2,h3⟩
theorem UM {d b o:Nat} {t:Tg} {w:World} {r:Rk} {rs:List Rk} (h:TgIn d t w) (hA:t.rank.A=some ⟨b,o,none⟩) (hr:t.rank.l=r::rs):w.cell? ⟨b,o,none⟩=some (.string r.tab)∧w.cell? ⟨b,o+1,none⟩=some (.string r.col)∧w.cell? ⟨b,o+2,none⟩=some (.int .i64 r.lo)∧w.cell? ⟨b,o+3,none⟩=some (.int .i64 r.hi):=by
 obtain ⟨b3,o3,hA3,hb3,hcr,-⟩:=h.ranks.at_ (k:=0) (x:=r) (by rw [hr];rfl)
 rw [hA] at hA3
 obtain ⟨rfl,rfl⟩:b=b3∧o=o3:=by injection hA3 with hA3;injection hA3 with h1 h2;exact ⟨h1,h2⟩
 exact ⟨hcr 0 _ (by omega) rfl,hcr 1 _ (by omega) rfl,hcr 2 _ (by omega) rfl,hcr 3 _ (by omega) rfl⟩
set_option maxHeartbeats 16000000 in
set_option maxRecDepth 100000 in
theorem zX (M:Nat→Prop) (w:World) (hM:∀ b,M b→b<w.heap.size) (A:Option Addr) (n c:Nat) (l:List Tg) (B:Option Addr) (m e:Nat) (tes:List Te) (d:Nat) (ht:Ro w M (TgsIn (d+1) A n l)) (hD:Ro w M (TesIn B m tes)) (hn:n≤1000000) (hm:m≤1000) (hok:∀ t∈l,TgFit (d+1) t) (hcol:∀ x∈tes,x.n≤1000) (hrows:∀ x∈tes,x.m≤1000000) (hI:∀ t∈l,∀ r∈t.rank.l,Y8 r):Calls Tryz.prog 38 #[.slice A n c,.slice B m e] w fun e w' =>e=.returned (.int .i64 (YL (d+1) l tes n).1)∧Below w.heap.size w w' :=by
 have HL:=hid ht.now.len
 have HCE:=hid (fun (M2:Nat→Prop) (w2:World) (h2:∀ b,M2 b→b<w2.heap.size) (hr:Ro w2 M2 (TgsIn (d+1) A n l)) (hD:Ro w2 M2 (TesIn B m tes)) (j:Int)=>zP M2 w2 h2 A n c l B m e tes j d hr hD (by omega) hm hok hcol (fun t h r hr=>(hI t h r hr).1))
 have HI:=hid hI
 have HRW:=hid hrows
 have HM:=hid hm
 have K0:=((Hold.start M w hM).add (hD.less (by simp [Mut]))).add (ht.less (by simp [Mut,Hp.foot]))
 have KM:=Hold.ZbA K0 4 Ut
 rw [show (fun _:Rk=>False)=(fun z=>z∈([]:List Rk)) by funext z;simp] at KM
 have hmm:=@run_makeMap Tryz.prog
 clear ht hD hok hcol hrows hI K0 hm
 obtain ⟨gm,hgm⟩:∃ gm,gm=w.heap.size:=⟨_,rfl⟩
 rw [←hgm] at KM
 have HGM:=hid hgm
 go_enter Tryz.func38,Tryz.ntmps38
 go_wp2_with fail
 rw [←hgm]
 clear hgm
 go_loopw [6,13] (fun tv iv wr=>∃ (j q:Nat) (s:Int) (seen:List Rk),j≤n∧iv=.int .i64 j∧tv=.int .i64 s∧q≤j∧Hid (0≤s∧s≤17592186044416∧YL (d+1) l tes j=(s,seen))∧Hold M none w wr [.ob gm (MSet 4 Ut gm q (fun z=>z∈seen)),.ro (TgsIn (d+1) A n l),.ro (TesIn B m tes)]) (fun _ iv _=>n - (intOf iv).toNat)
 case atStart=>exact ⟨0,0,0,[],by omega,rfl,rfl,by omega,hid ⟨by decide,by decide,rfl⟩,KM⟩
 case round=>
  clear KM
  obtain ⟨j,q,s,seen,hj,rfl,rfl,hq,HS,H⟩:=hrel
  by_cases hlt:j<n
  ·have hdd:decide ((j:Int)<(n:Int))=true:=by simp;omega
   have j0:(0:Int)≤(j:Int):=by omega
   have j1:(j:Int)<(n:Int):=by omega
   obtain ⟨⟨tn,tt,tb,te,⟨oA,on,oc,ol⟩,tch,⟨pA,pn,pc,pl⟩,⟨qA,qn,qc,ql⟩,⟨rA,rn,rc,rl⟩,⟨kA,kn,kc,kl⟩,⟨uA,un,uc,ul⟩⟩,hx⟩:=Z4 HL.out hlt
   have hmx:=List.mem_of_getElem? hx
   have HX:=hid hx
   obtain ⟨b,o,rfl,hbs,hcl,-⟩:=(H.ro 1 rfl).now.at_ hx
   have x0:=hcl 0 _ (by omega) rfl
   have x1:=hcl 1 _ (by omega) rfl
   have x2:=hcl 2 _ (by omega) rfl
   have x3:=hcl 3 _ (by omega) rfl
   have x4:=hcl 4 _ (by omega) rfl
   have x5:=hcl 5 _ (by omega) rfl
   have x6:=hcl 6 _ (by omega) rfl
   have x7:=hcl 7 _ (by omega) rfl
   have x8:=hcl 8 _ (by omega) rfl
   have x9:=hcl 9 _ (by omega) rfl
   have x10:=hcl 10 _ (by omega) rfl
   simp only [Nat.add_zero,SlP.v] at x0 x1 x2 x3 x4 x5 x6 x7 x8 x9 x10
   have hrl:=((H.ro 1 rfl).now.2 _ hmx).ranks.len
   have hra:=fun x (h:rl[0]? =some x)=>((H.ro 1 rfl).now.2 _ hmx).ranks.at_ (k:=0) (x:=x) h
   have HIX:=hid (HI.out _ hmx)
   have K1:=H.Za #[.string tn,.string tt,.bool tb,.int .i64 te,.slice oA on oc,.bool tch,.slice pA pn pc,.slice qA qn qc,.slice rA rn rc,.slice kA kn kc,.slice uA un uc] 40
   clear hcl hmx hx
   obtain ⟨g5,hg5⟩:∃ g,g=wr.heap.size:=⟨_,rfl⟩
   rw [←hg5] at K1
   go_upto_region 6 with fail
   rw [←hg5]
   have HG5:=hid hg5
   clear hg5 x0 x1 x2 x3 x4 x5 x6 x7 x8 x9 x10
   generalize World.alloc _ _=w4 at K1 ⊢
   have F1:=K1.facts
   simp only [zg] at F1
   cases hc:Yn (d+1) l (ZM tes) j
   ·have HN:=hid (Zbg HS.out.2.2 hc)
    have hce:=HCE.out _ _ K1.Zc (K1.ro 2 rfl) (K1.ro 3 rfl) j
    rw [hc] at hce
    clear hc
    go_wp2_with fail
    refine hce.mono ?_
    rintro e w5 ⟨rfl,b5⟩
    have K2:=K1.call b5
    go_wp2_with fail
    go_roundw
    case rel=>exact ⟨j+1,q,s,seen,by omega,by go_num,rfl,by omega,hid ⟨HS.out.1,HS.out.2.1,HN.out⟩,K2.drop (List.sublist_cons_self _ _)⟩
    case measure=>simp [intOf];omega
   ·obtain ⟨t2,⟨rtab,rcol,rlo,rhi⟩,rs,hx2,hb,hr,hp⟩:=Gz hc
    rw [HX.out] at hx2
    injection hx2 with hx2
    subst hx2
    simp only at hr hb
    subst hr
    subst hb
    obtain ⟨⟨k,⟨xnm,xA,xn,xc,xcs,xnx,xB,xm,xd,xrs⟩,hxk,hfs,hms⟩,hlo,hhi⟩:=Zbk hp
    simp only at hlo hhi hms hfs
    have hxm:=HRW.out _ (List.mem_of_getElem? hxk)
    simp only at hxm
    have HRK:=hid (HIX.out ⟨rtab,rcol,rlo,rhi⟩ (List.mem_cons_self ..))
    have HXM:=hid hxm
    have HHL:=hid (And.intro hlo hhi)
    have HC:=hid hc
    have HMS:=hid hms
    have hrn:0<rn:=by simp at hrl;omega
    have HXK:=hid hxk
    have hkm:k<m:=by rw [←(K1.ro 3 rfl).now.len];exact (List.getElem?_eq_some_iff.1 hxk).1
    obtain ⟨b2,o2,rfl,hb2,hcr,-⟩:=hra ⟨rtab,rcol,rlo,rhi⟩ rfl
    have hce:=HCE.out _ _ K1.Zc (K1.ro 2 rfl) (K1.ro 3 rfl) j
    rw [hc] at hce
    have HFS:=hid hfs
    clear hcr hra hb2 hrl hxm hlo hhi hc hms hxk hfs hp
    go_wp2_with fail
    refine hce.mono ?_
    rintro e w5 ⟨rfl,b5⟩
    have K2:=K1.call b5
    clear K1 hce b5 F1
    have F2:=K2.facts
    simp only [zg] at F2
    obtain ⟨z0,z1,z2,z3⟩:=UM ((K2.ro 2 rfl).now.2 _ (List.mem_of_getElem? HX.out)) rfl rfl
    simp only at z0 z1 z2 z3
    by_cases hin:(⟨rtab,rcol,rlo,rhi⟩:Rk)∈seen
    ·have HN:=hid (Za0 HS.out.2.2 HX.out rfl hin)
     have HIN:=hid hin;clear hin
     go_wp2_with (at_lookup;go_must (refine Zbb K2 1 rfl Tryz.VF rfl (.tmp 24) (.tmp 28) rfl rfl ⟨rtab,rcol,rlo,rhi⟩ rfl HRK.out ?_);intro cb hcb;obtain rfl:cb=true:=hcb.2 HIN.out;clear hcb)
     go_roundw
     case rel=>exact ⟨j+1,q,s,seen,by omega,by go_num,rfl,by omega,hid ⟨HS.out.1,HS.out.2.1,HN.out⟩,K2.drop (List.sublist_cons_self _ _)⟩
     case measure=>simp [intOf];omega
    ·have HN:=hid (Zbi HS.out.2.2 HC.out HX.out rfl hin)
     have HIN:=hid hin;clear hin
     have hk0:decide ((k:Int)≥0)=true:=by simp
     go_wp2_with (first
      | (at_lookup;go_must (refine Zbb K2 1 rfl Tryz.VF rfl (.tmp 24) (.tmp 28) rfl rfl ⟨rtab,rcol,rlo,rhi⟩ rfl HRK.out ?_);intro cb hcb;obtain rfl:cb=false:=(by cases cb;rfl;exact absurd (hcb.1 rfl) HIN.out);clear hcb)
      | (at_mapUpdate;go_must (refine ZaW K2 1 rfl Tryz.VF rfl (.tmp 31) (.tmp 35) _ rfl rfl ⟨rtab,rcol,rlo,rhi⟩ rfl rfl HRK.out (by unfold maxLen;omega) ?_);intro w6 K5;rw [J8] at K5;clear z0 z1 z2 z3 F2;obtain ⟨y0,y1,y2,y3⟩:=UM ((K5.ro 2 rfl).now.2 _ (List.mem_of_getElem? HX.out)) rfl rfl;simp only at y0 y1 y2 y3;have F5:=K5.facts;simp only [zg] at F5))
     have hfi:=ZdO _ _ K5.Zc B m e tes rtab (K5.ro 3 rfl) (Nat.le_trans HM.out (by decide))
     rw [HFS.out] at hfi
     refine hfi.mono ?_
     rintro e w7 ⟨rfl,b7⟩
     have K7:=K5.call b7
     clear K5 hfi b7 F5 y0 y1 y2 y3
     have hlh:=HHL.out
     have hv:=ZaV HXM.out (D:=rhi - rlo) (by omega) (by omega)
     have hcm:=fun w2=>ZeK w2 ⟨rtab,rcol,rlo,rhi⟩ xnm xA xn xc xnx xB xm xd HRK.out.1 hlh.1 hlh.2 HXM.out
     have hms:=HMS.out
     simp only [Rk.val] at hcm
     generalize (xm:Int) * (rhi - rlo+1)=V at hv hcm hms
     rw [hms] at HN
     have hs0:=HS.out.1
     have hs1:=HS.out.2.1
     have hw:IntKind.i64.wrap (s+V)=s+V:=IntWalk.i64_in _ (by omega)
     have HMI:=hid (show 0≤min 17592186044416 (s+V)∧min 17592186044416 (s+V)≤17592186044416 by omega)
     rw [show min (s+V) 17592186044416=min 17592186044416 (s+V) by omega] at HN
     have HCEM:=hid hcm
     clear hlh hcm hms hv hs0 hs1 HMS
     obtain ⟨gB,oB,rfl,hgB,y0,y1,y2,y3,-⟩:=(K7.drew.ro 3 rfl).now.at_ HXK.out
     have k0:(0:Int)≤(k:Int):=by omega
     have k1:(k:Int)<(m:Int):=by omega
     simp only at y0 y1 y2 y3
     have h9:=Zas (K7.drew.ZB 0 rfl) (UM ((K7.drew.ro 2 rfl).now.2 _ (List.mem_of_getElem? HX.out)) rfl rfl) y0 y1 y2 y3
     simp only at h9
     go_wp2_with fail
     go_region_held3 (fun w' =>w'.cell? ⟨g5,8,none⟩=some (.slice (some ⟨b2,o2,none⟩) rn rc)∧w'.cell? ⟨b2,o2,none⟩=some (.string rtab)∧w'.cell? ⟨b2,o2+1,none⟩=some (.string rcol)∧w'.cell? ⟨b2,o2+2,none⟩=some (.int .i64 rlo)∧w'.cell? ⟨b2,o2+3,none⟩=some (.int .i64 rhi)∧w'.cell? ⟨gB,oB+k * 4,none⟩=some (.string xnm)∧w'.cell? ⟨gB,oB+k * 4+1,none⟩=some (.slice xA xn xc)∧w'.cell? ⟨gB,oB+k * 4+2,none⟩=some (.int .i64 xnx)∧w'.cell? ⟨gB,oB+k * 4+3,none⟩=some (.slice xB xm xd))
      (first|exact h9|(obtain ⟨gB',oB',hB',hgB',y0',y1',y2',y3',-⟩:=(K8.ro 3 rfl).now.at_ HXK.out;obtain ⟨rfl,rfl⟩:gB=gB' ∧oB=oB' :=(by injection hB' with hB';injection hB' with h1 h2;exact ⟨h1,h2⟩);exact Zas (K8.ZB 0 rfl) (UM ((K8.ro 2 rfl).now.2 _ (List.mem_of_getElem? HX.out)) rfl rfl) y0' y1' y2' y3'))
      (first|(go_at_call 90;((with_reducible refine (HCEM.out _).mono ?_);rintro e w8 ⟨rfl,b8⟩;have K8:=K7.drew.call b8)))
     go_wp2_with fail
     go_roundw
     case rel=>exact ⟨j+1,q+1,min 17592186044416 (s+V),⟨rtab,rcol,rlo,rhi⟩::seen,by omega,by go_num,rfl,by omega,hid ⟨HMI.out.1,HMI.out.2,HN.out⟩,K8.drop (List.sublist_cons_self _ _)⟩
     case measure=>simp [intOf];omega
  ·obtain rfl:n=j:=by omega
   have hdd:decide ((n:Int)<(n:Int))=false:=by simp
   have HN:=HS.out.2.2
   go_wp2_with fail
   go_ret
   exact ⟨by rw [HN]<;>rfl,H.below⟩
end Go.Proofs.YtnbbllkbefagmaaGreatDoor
namespace Go.Proofs.YtnbbllkbefagmaaGreatDoor
open Go.Joins Go.ChangeShapes Go.WideShapes Go.ChangeAt Go.RowKit Go.Deep
set_option linter.unusedVariables false
set_option linter.unusedSimpArgs false
section
variable {H:Type} {enc:TypeId × Value→H} {W:World} {N:Nat}
theorem UI (d:DataW H):1≤Rows.uptoBulk d:=by
 unfold Rows.uptoBulk
 split<;>omega
theorem UH {d:DataW H}:∀ {l:List (DataW H)},d∈l→Rows.uptoBulk d≤Rows.uptoBulkAll l
 | x::l,h=>by
  simp only [Rows.uptoBulkAll]
  rcases List.mem_cons.1 h with rfl|h
  ·omega
  ·have:=UH h;omega
theorem zt {α:Type} {F:Nat→α} {D:Nat→DataW H} {wt:α→Nat}:∀ {l:List Nat},(∀ i∈l,wt (F i)≤Rows.uptoBulk (D i))→((l.map F).map wt).sum≤Rows.uptoBulkAll (l.map D)
 | [],_=>Nat.zero_le _
 | i::l,h=>by
  have h1:=h i (List.mem_cons_self ..)
  have h2:=zt (l:=l) fun j hj=>h j (List.mem_cons_of_mem _ hj)
  simp only [List.map_cons,List.sum_cons,Rows.uptoBulkAll]
  omega
def OpB (enc:TypeId × Value→H) (W:World) (N:Nat) (t:TypeId) {α:Type} (k:Nat) (cel:α→List Value) (Ok:α→Prop) (wt:α→Nat):Prop:=
 (∀ a,(cel a).length=k)∧∀ fuel cs (x:DataW H × List MemPlace),DataW.trod enc Tryz.prog W 0 (fun _=>true) true fuel t cs=some x→Rows.uptoBulk x.1≤N→∃ a,Ok a∧wt a≤Rows.uptoBulk x.1∧cs=cel a
theorem WA {t:TypeId} (u:Tryz.prog.underlying t=some (.int .i64)):OpB enc W N t 1 (fun z:Int=>[.int .i64 z]) I64 (fun _=>1):=⟨fun _=>rfl,fun fuel cs x h _=>by
 obtain ⟨k,e,_,w⟩:=DataW.trod_int u h
 exact ⟨k,J6 w,UI _,e⟩⟩
theorem Xd {t:TypeId} (u:Tryz.prog.underlying t=some .string):OpB enc W N t 1 (fun s:ByteArray=>[.string s]) (fun s=>s.size≤maxLen) (fun _=>1):=⟨fun _=>rfl,fun fuel cs x h _=>by
 obtain ⟨s,e,_,w⟩:=DataW.trod_string u h
 exact ⟨s,w,UI _,e⟩⟩
theorem Uo {t:TypeId} (u:Tryz.prog.underlying t=some .bool):OpB enc W N t 1 (fun b:Bool=>[.bool b]) (fun _=>True) (fun _=>1):=⟨fun _=>rfl,fun fuel cs x h _=>by
 obtain ⟨b,e,_⟩:=DataW.trod_bool u h
 exact ⟨b,trivial,UI _,e⟩⟩
structure SlG {α:Type} (W:World) (k:Nat) (cel:α→List Value) (Ok:α→Prop) (s:SlP α):Prop where
 rd:SlR k s.A s.n (s.l.flatMap cel) W
 ok:∀ z∈s.l,Ok z
 len:s.l.length=s.n
theorem Wz {α:Type} (dflt:α) {t e:TypeId} {k:Nat} {cel:α→List Value} {Ok:α→Prop} {wt:α→Nat} (ht:Tryz.prog.underlying t=some (.slice e)) (hC:Tryz.prog.cellsOf e=k) (hk:0<k) (he:OpB enc W N e k cel Ok wt):
  OpB enc W N t 1 (fun s:SlP α=>[s.v]) (SlG W k cel Ok) (fun s=>(s.l.map wt).sum+1):=⟨fun _=>rfl,fun fuel cs x h hz=>by
 obtain ⟨hcl,hop⟩:=he
 rcases open_slice ht h with ⟨rfl,rfl⟩|⟨a,len,cap,m,n,D,Pl,rfl,_,hl,hm,hmm,hx,hi⟩
 ·exact ⟨⟨none,0,0,[]⟩,⟨ZR _ _,(fun _ h=>(nomatch h)),rfl⟩,by simp [Rows.uptoBulk],rfl⟩
 ·simp only [if_true] at hmm
  subst hmm
  subst hx
  simp only [Rows.uptoBulk] at hz ⊢
  have hmem:∀ i,i<m→Rows.uptoBulk (D i)≤N:=fun i hi' =>by
   rcases Nat.lt_or_ge i len with h1|h1
   ·have:=UH (List.mem_map.2 ⟨i,List.mem_range.2 h1,rfl⟩:D i∈(List.range len).map D);omega
   ·have:=UH (List.mem_map.2 ⟨i - len,List.mem_range.2 (by omega),by rw [show len+(i - len)=i by omega]⟩:D i∈(List.range (m - len)).map fun j=>D (len+j));omega
  have hcol:∀ i,i<m→∃ z:α,(Ok z∧wt z≤Rows.uptoBulk (D i))∧∀ j,j<k→W.cell? (a.add (i * k+j))=(cel z)[j]? :=by
   intro i hi'
   obtain ⟨cs',hc,ht'⟩:=hi i hi'
   rw [hC] at hc
   obtain ⟨_,hcl',hat⟩:=World.cells?_some hc
   obtain ⟨z,hz1,hz2,rfl⟩:=hop _ _ _ ht' (hmem i hi')
   refine ⟨z,⟨hz1,hz2⟩,fun j hj=>?_⟩
   rw [←Go.Deep.add_add]
   exact hat j hj
  obtain ⟨F,hF⟩:∃ F:Nat→α,∀ i,i<m→(Ok (F i)∧wt (F i)≤Rows.uptoBulk (D i))∧∀ j,j<k→W.cell? (a.add (i * k+j))=(cel (F i))[j]? :=by
   refine ⟨fun i=>if h:i<m then Classical.choose (hcol i h) else dflt,fun i hi=>?_⟩
   simp only [hi,dif_pos]
   exact Classical.choose_spec (hcol i hi)
  refine ⟨⟨some a,len,m,(List.range len).map F⟩,⟨⟨by rw [Yu cel k hcl];simp,fun hn=>?_⟩,fun z hz=>?_,by simp⟩,?_,rfl⟩
  ·obtain ⟨b,off,spot⟩:=a
   have h0:∃ u,W.cell? ((⟨b,off,spot⟩:Addr).add (0 * k+0))=some u:=by
    rw [(hF 0 (Nat.lt_of_lt_of_le hn hl)).2 0 hk]
    exact ⟨_,List.getElem?_eq_getElem (by rw [hcl];exact hk)⟩
   obtain ⟨u0,hu0⟩:=h0
   have hspot:spot=none:=by simpa [Addr.add] using World.cell?_spot hu0
   subst hspot
   refine ⟨b,off,rfl,World.block_lt_of_cell? W ⟨b,off,none⟩ (by simpa [Addr.add] using hu0),fun j u hu=>?_⟩
   obtain ⟨z,hz,hzu⟩:=ZgP cel k hk hcl _ j u hu
   have hj:j / k<len:=by have:=(List.getElem?_eq_some_iff.1 hz).1;simpa using this
   simp only [List.getElem?_map,List.getElem?_range hj,Option.map_some,Option.some.injEq] at hz
   subst hz
   rw [←Go.WideShapes.add_plain]
   have hjd:j=j / k * k+j % k:=by rw [Nat.mul_comm];exact (Nat.div_add_mod j k).symm
   rw [hjd,(hF (j / k) (Nat.lt_of_lt_of_le hj hl)).2 (j % k) (Nat.mod_lt _ hk)]
   exact hzu
  ·simp only [List.mem_map,List.mem_range] at hz
   obtain ⟨i,hi',rfl⟩:=hz
   exact (hF i (Nat.lt_of_lt_of_le hi' hl)).1.1
  ·have:=zt (wt:=wt) (F:=F) (D:=D) (l:=List.range len) fun i hi=>(hF i (Nat.lt_of_lt_of_le (List.mem_range.1 hi) hl)).1.2
   simp only at this ⊢
   omega⟩
theorem opf {fs:Array Field} {cs:List Value} {xs:List (DataW H × List MemPlace)} {n:Nat} (hf:∀ (i:Nat) (f:Field),fs[i]? =some f→DataW.trod enc Tryz.prog W 0 (fun _=>true) true n f.type ((cs.drop f.offset).take (Tryz.prog.cellsOf f.type))=xs[i]?) (i:Nat) {f:Field} (hi:fs[i]? =some f) {t:TypeId} (hft:f.type=t) {k o:Nat} (ho:f.offset=o) {piece:List Value} (hp:(cs.drop o).take k=piece) {y:DataW H × List MemPlace} (hy:xs[i]? =some y) (hc:Tryz.prog.cellsOf t=k) (hb:Rows.uptoBulk y.1≤N)
  {α:Type} {cel:α→List Value} {Ok:α→Prop} {wt:α→Nat} (he:OpB enc W N t k cel Ok wt):∃ a,Ok a∧wt a≤Rows.uptoBulk y.1∧piece=cel a:=by
 have h1:=hf i f hi
 rw [hft,ho,hc,hp,hy] at h1
 exact he.2 _ _ _ h1 hb
theorem l2 {α:Type}:∀ {l:List α},l.length=2→∃ a0 a1,l=[a0,a1]
 | [a0,a1],_=>⟨a0,a1,rfl⟩
theorem l3 {α:Type}:∀ {l:List α},l.length=3→∃ a0 a1 a2,l=[a0,a1,a2]
 | [a0,a1,a2],_=>⟨a0,a1,a2,rfl⟩
theorem l4 {α:Type}:∀ {l:List α},l.length=4→∃ a0 a1 a2 a3,l=[a0,a1,a2,a3]
 | [a0,a1,a2,a3],_=>⟨a0,a1,a2,a3,rfl⟩
theorem l7 {α:Type}:∀ {l:List α},l.length=7→∃ a0 a1 a2 a3 a4 a5 a6,l=[a0,a1,a2,a3,a4,a5,a6]
 | [a0,a1,a2,a3,a4,a5,a6],_=>⟨a0,a1,a2,a3,a4,a5,a6,rfl⟩
theorem l8 {α:Type}:∀ {l:List α},l.length=8→∃ a0 a1 a2 a3 a4 a5 a6 a7,l=[a0,a1,a2,a3,a4,a5,a6,a7]
 | [a0,a1,a2,a3,a4,a5,a6,a7],_=>⟨a0,a1,a2,a3,a4,a5,a6,a7,rfl⟩
theorem l10 {α:Type}:∀ {l:List α},l.length=10→∃ a0 a1 a2 a3 a4 a5 a6 a7 a8 a9,l=[a0,a1,a2,a3,a4,a5,a6,a7,a8,a9]
 | [a0,a1,a2,a3,a4,a5,a6,a7,a8,a9],_=>⟨a0,a1,a2,a3,a4,a5,a6,a7,a8,a9,rfl⟩
theorem l11 {α:Type}:∀ {l:List α},l.length=11→∃ a0 a1 a2 a3 a4 a5 a6 a7 a8 a9 a10,l=[a0,a1,a2,a3,a4,a5,a6,a7,a8,a9,a10]
 | [a0,a1,a2,a3,a4,a5,a6,a7,a8,a9,a10],_=>⟨a0,a1,a2,a3,a4,a5,a6,a7,a8,a9,a10,rfl⟩
theorem Zes:OpB enc W N 122 3 Vl.cells (fun _=>True) (fun _=>1):=⟨fun _=>rfl,fun fuel cs x h hz=>by
 obtain ⟨xs,n,-,rfl,hl,hxl,hf⟩:=DataW.trod_struct Tryz.underlying122 h
 obtain ⟨y0,y1,y2,rfl⟩:=l3 hxl
 obtain ⟨c0,c1,c2,rfl⟩:=l3 (hl.trans (show Tryz.prog.cellsOf 122=3 by kernel_rfl))
 simp only [List.map_cons,List.map_nil,Rows.uptoBulk,Rows.uptoBulkAll] at hz ⊢
 obtain ⟨v0,o0,b0,e0⟩:=opf (N:=N) hf 0 rfl (t:=3) rfl rfl (piece:=[c0]) rfl rfl (by kernel_rfl) (by omega) (WA Tryz.underlying3)
 obtain ⟨v1,o1,b1,e1⟩:=opf (N:=N) hf 1 rfl (t:=2) rfl rfl (piece:=[c1]) rfl rfl (by kernel_rfl) (by omega) (WA Tryz.underlying2)
 obtain ⟨v2,o2,b2,e2⟩:=opf (N:=N) hf 2 rfl (t:=9) rfl rfl (piece:=[c2]) rfl rfl (by kernel_rfl) (by omega) (Xd Tryz.underlying9)
 clear hf h hl hxl
 simp only [Vl.cells,Ex.cells,Qu.cells,Se.cells,Rk.cells,Ac.cells,SlP.v,List.cons.injEq,and_true] at e0 e1 e2
 obtain rfl:=e0;obtain rfl:=e1;obtain rfl:=e2
 exact ⟨⟨v0,v1,v2⟩,trivial,by omega,rfl⟩⟩
theorem Zga:OpB enc W N 85 4 Rk.cells Y8 (fun _=>1):=⟨fun _=>rfl,fun fuel cs x h hz=>by
 obtain ⟨xs,n,-,rfl,hl,hxl,hf⟩:=DataW.trod_struct Tryz.underlying85 h
 obtain ⟨y0,y1,y2,y3,rfl⟩:=l4 hxl
 obtain ⟨c0,c1,c2,c3,rfl⟩:=l4 (hl.trans (show Tryz.prog.cellsOf 85=4 by kernel_rfl))
 simp only [List.map_cons,List.map_nil,Rows.uptoBulk,Rows.uptoBulkAll] at hz ⊢
 obtain ⟨v0,o0,b0,e0⟩:=opf (N:=N) hf 0 rfl (t:=9) rfl rfl (piece:=[c0]) rfl rfl (by kernel_rfl) (by omega) (Xd Tryz.underlying9)
 obtain ⟨v1,o1,b1,e1⟩:=opf (N:=N) hf 1 rfl (t:=9) rfl rfl (piece:=[c1]) rfl rfl (by kernel_rfl) (by omega) (Xd Tryz.underlying9)
 obtain ⟨v2,o2,b2,e2⟩:=opf (N:=N) hf 2 rfl (t:=2) rfl rfl (piece:=[c2]) rfl rfl (by kernel_rfl) (by omega) (WA Tryz.underlying2)
 obtain ⟨v3,o3,b3,e3⟩:=opf (N:=N) hf 3 rfl (t:=2) rfl rfl (piece:=[c3]) rfl rfl (by kernel_rfl) (by omega) (WA Tryz.underlying2)
 clear hf h hl hxl
 simp only [Vl.cells,Ex.cells,Qu.cells,Se.cells,Rk.cells,Ac.cells,SlP.v,List.cons.injEq,and_true] at e0 e1 e2 e3
 obtain rfl:=e0;obtain rfl:=e1;obtain rfl:=e2;obtain rfl:=e3
 exact ⟨⟨v0,v1,v2,v3⟩,⟨⟨o2,o3⟩,o0,o1⟩,by omega,rfl⟩⟩
theorem Vg {t:TypeId} (ht:Tryz.prog.underlying t=some (.slice 126)) {Ok:Ex→Prop} {wt:Ex→Nat} (h:OpB enc W N 126 10 Ex.cells Ok wt):OpB enc W N t 1 (fun s:SlP Ex=>[s.v]) (SlG W 10 Ex.cells Ok) (fun s=>(s.l.map wt).sum+1):=
 Wz ⟨0,0,false,⟨0,0,⟨#[]⟩⟩,⟨#[]⟩,⟨#[]⟩,none,0,0,[],none,0,0,[]⟩ ht (by kernel_rfl) (by omega) h
theorem Zfl {d:Nat} (h0:OpB enc W N 126 10 Ex.cells (fun e=>ExIn d e W) (exW d)):OpB enc W N 273 4 Qu.cells (fun q=>QuIn d q W) (quW d):=⟨fun _=>rfl,fun fuel cs x h hz=>by
 obtain ⟨xs,n,-,rfl,hl,hxl,hf⟩:=DataW.trod_struct Tryz.underlying273 h
 obtain ⟨y0,y1,y2,y3,rfl⟩:=l4 hxl
 obtain ⟨c0,c1,c2,c3,rfl⟩:=l4 (hl.trans (show Tryz.prog.cellsOf 273=4 by kernel_rfl))
 simp only [List.map_cons,List.map_nil,Rows.uptoBulk,Rows.uptoBulkAll] at hz ⊢
 obtain ⟨v0,o0,b0,e0⟩:=opf (N:=N) hf 0 rfl (t:=4) rfl rfl (piece:=[c0]) rfl rfl (by kernel_rfl) (by omega) (Uo Tryz.underlying4)
 obtain ⟨v1,o1,b1,e1⟩:=opf (N:=N) hf 1 rfl (t:=37) rfl rfl (piece:=[c1]) rfl rfl (by kernel_rfl) (by omega) (Vg Tryz.underlying37 h0)
 obtain ⟨v2,o2,b2,e2⟩:=opf (N:=N) hf 2 rfl (t:=9) rfl rfl (piece:=[c2]) rfl rfl (by kernel_rfl) (by omega) (Xd Tryz.underlying9)
 obtain ⟨v3,o3,b3,e3⟩:=opf (N:=N) hf 3 rfl (t:=37) rfl rfl (piece:=[c3]) rfl rfl (by kernel_rfl) (by omega) (Vg Tryz.underlying37 h0)
 clear hf h hl hxl
 simp only [Vl.cells,Ex.cells,Qu.cells,Se.cells,Rk.cells,Ac.cells,SlP.v,List.cons.injEq,and_true] at e0 e1 e2 e3
 obtain rfl:=e0;obtain rfl:=e1;obtain rfl:=e2;obtain rfl:=e3
 refine ⟨⟨v0,v1.A,v1.n,v1.c,v1.l,v2,v3.A,v3.n,v3.c,v3.l⟩,⟨⟨o1.rd,o1.ok⟩,o3.rd,o3.ok⟩,?_,rfl⟩
 simp only [quW,ZA]
 omega⟩
theorem Ga {d:Nat} (h0:OpB enc W N 126 10 Ex.cells (fun e=>ExIn d e W) (exW d)):OpB enc W N 94 1 (fun s:SlP Qu=>[s.v]) (SlG W 4 Qu.cells (fun q=>QuIn d q W)) (fun s=>(s.l.map (quW d)).sum+1):=
 Wz ⟨false,none,0,0,[],⟨#[]⟩,none,0,0,[]⟩ Tryz.underlying94 (by kernel_rfl) (by omega) (Zfl h0)
theorem ZdC (h0:OpB enc W N 126 10 Ex.cells (fun e=>ExIn N e W) (exW N)):OpB enc W (N+1) 126 10 Ex.cells (fun e=>ExIn (N+1) e W) (exW (N+1)):=⟨fun _=>rfl,fun fuel cs x h hz=>by
 obtain ⟨xs,n,-,rfl,hl,hxl,hf⟩:=DataW.trod_struct Tryz.underlying126 h
 obtain ⟨y0,y1,y2,y3,y4,y5,y6,y7,rfl⟩:=l8 hxl
 obtain ⟨c0,c1,c2,c3,c4,c5,c6,c7,c8,c9,rfl⟩:=l10 (hl.trans (show Tryz.prog.cellsOf 126=10 by kernel_rfl))
 simp only [List.map_cons,List.map_nil,Rows.uptoBulk,Rows.uptoBulkAll] at hz ⊢
 obtain ⟨v0,o0,b0,e0⟩:=opf (N:=N) hf 0 rfl (t:=3) rfl rfl (piece:=[c0]) rfl rfl (by kernel_rfl) (by omega) (WA Tryz.underlying3)
 obtain ⟨v1,o1,b1,e1⟩:=opf (N:=N) hf 1 rfl (t:=3) rfl rfl (piece:=[c1]) rfl rfl (by kernel_rfl) (by omega) (WA Tryz.underlying3)
 obtain ⟨v2,o2,b2,e2⟩:=opf (N:=N) hf 2 rfl (t:=4) rfl rfl (piece:=[c2]) rfl rfl (by kernel_rfl) (by omega) (Uo Tryz.underlying4)
 obtain ⟨v3,o3,b3,e3⟩:=opf (N:=N) hf 3 rfl (t:=122) rfl rfl (piece:=[c3,c4,c5]) rfl rfl (by kernel_rfl) (by omega) (Zes)
 obtain ⟨v4,o4,b4,e4⟩:=opf (N:=N) hf 4 rfl (t:=9) rfl rfl (piece:=[c6]) rfl rfl (by kernel_rfl) (by omega) (Xd Tryz.underlying9)
 obtain ⟨v5,o5,b5,e5⟩:=opf (N:=N) hf 5 rfl (t:=9) rfl rfl (piece:=[c7]) rfl rfl (by kernel_rfl) (by omega) (Xd Tryz.underlying9)
 obtain ⟨v6,o6,b6,e6⟩:=opf (N:=N) hf 6 rfl (t:=37) rfl rfl (piece:=[c8]) rfl rfl (by kernel_rfl) (by omega) (Vg Tryz.underlying37 h0)
 obtain ⟨v7,o7,b7,e7⟩:=opf (N:=N) hf 7 rfl (t:=94) rfl rfl (piece:=[c9]) rfl rfl (by kernel_rfl) (by omega) (Ga h0)
 clear hf h hl hxl
 simp only [Vl.cells,Ex.cells,Qu.cells,Se.cells,Rk.cells,Ac.cells,SlP.v,List.cons.injEq,and_true] at e0 e1 e2 e3 e4 e5 e6 e7
 obtain rfl:=e0;obtain rfl:=e1;obtain rfl:=e2;obtain ⟨rfl,rfl,rfl⟩:=e3;obtain rfl:=e4;obtain rfl:=e5;obtain rfl:=e6;obtain rfl:=e7
 refine ⟨⟨v0,v1,v2,v3,v4,v5,v6.A,v6.n,v6.c,v6.l,v7.A,v7.n,v7.c,v7.l⟩,ExIn.succ.2 ⟨⟨o6.rd,o6.ok⟩,o7.rd,o7.ok⟩,?_,rfl⟩
 simp only [VH,ZA,Yt]
 omega⟩
theorem Vz:∀ N:Nat,OpB enc W N 126 10 Ex.cells (fun e=>ExIn N e W) (exW N)
 | 0=>⟨fun _=>rfl,fun fuel cs x h hz=>absurd (UI x.1) (by omega)⟩
 | N+1=>ZdC (Vz N)
theorem Zg5:OpB enc W N 128 11 Se.cells (fun s=>ZY N s W) (fun s=>1+exW N s.e):=⟨fun _=>rfl,fun fuel cs x h hz=>by
 obtain ⟨xs,n,-,rfl,hl,hxl,hf⟩:=DataW.trod_struct Tryz.underlying128 h
 obtain ⟨y0,y1,rfl⟩:=l2 hxl
 obtain ⟨c0,c1,c2,c3,c4,c5,c6,c7,c8,c9,c10,rfl⟩:=l11 (hl.trans (show Tryz.prog.cellsOf 128=11 by kernel_rfl))
 simp only [List.map_cons,List.map_nil,Rows.uptoBulk,Rows.uptoBulkAll] at hz ⊢
 obtain ⟨v0,o0,b0,e0⟩:=opf (N:=N) hf 0 rfl (t:=9) rfl rfl (piece:=[c0]) rfl rfl (by kernel_rfl) (by omega) (Xd Tryz.underlying9)
 obtain ⟨v1,o1,b1,e1⟩:=opf (N:=N) hf 1 rfl (t:=126) rfl rfl (piece:=[c1,c2,c3,c4,c5,c6,c7,c8,c9,c10]) rfl rfl (by kernel_rfl) (by omega) (Vz N)
 clear hf h hl hxl
 simp only [Vl.cells,Ex.cells,Qu.cells,Se.cells,Rk.cells,Ac.cells,SlP.v,Zt,List.cons.injEq,and_true] at e0 e1
 obtain rfl:=e0
 obtain ⟨rfl,rfl,rfl,rfl,rfl,rfl,rfl,rfl,rfl,rfl⟩:=e1
 exact ⟨⟨v0,v1⟩,o1,by simp only;omega,rfl⟩⟩
theorem ZfL:OpB enc W N 95 1 (fun s:SlP Se=>[s.v]) (SlG W 11 Se.cells (fun s=>ZY N s W)) (fun s=>YT N s.l+1):=
 Wz ⟨⟨#[]⟩,⟨0,0,false,⟨0,0,⟨#[]⟩⟩,⟨#[]⟩,⟨#[]⟩,none,0,0,[],none,0,0,[]⟩⟩ Tryz.underlying95 (by kernel_rfl) (by omega) Zg5
theorem Zdv:OpB enc W N 93 1 (fun s:SlP (SlP Ex)=>[s.v]) (SlG W 1 (fun r=>[r.v]) (SlG W 10 Ex.cells (fun e=>ExIn N e W))) (fun s=>(s.l.map fun r=>(r.l.map (exW N)).sum+1).sum+1):=
 Wz SlP.nil Tryz.underlying93 (by kernel_rfl) (by omega) (Vg Tryz.underlying37 (Vz N))
theorem Zc0 (d:Nat) (l:List (SlP Ex)):(l.map fun r=>(r.l.map (exW d)).sum+1).sum=rrW d l:=by
 unfold rrW ZA
 congr 2
 funext r
 omega
def AcG (N:Nat) (W:World) (a:Ac):Prop:=AcIn N a W∧a.sets.l.length=a.sets.n∧a.wh.l.length=a.wh.n
theorem ZgK:OpB enc W N 97 7 Ac.cells (AcG N W) (acW N):=⟨fun _=>rfl,fun fuel cs x h hz=>by
 obtain ⟨xs,n,-,rfl,hl,hxl,hf⟩:=DataW.trod_struct Tryz.underlying97 h
 obtain ⟨y0,y1,y2,y3,y4,y5,y6,rfl⟩:=l7 hxl
 obtain ⟨c0,c1,c2,c3,c4,c5,c6,rfl⟩:=l7 (hl.trans (show Tryz.prog.cellsOf 97=7 by kernel_rfl))
 simp only [List.map_cons,List.map_nil,Rows.uptoBulk,Rows.uptoBulkAll] at hz ⊢
 obtain ⟨v0,o0,b0,e0⟩:=opf (N:=N) hf 0 rfl (t:=3) rfl rfl (piece:=[c0]) rfl rfl (by kernel_rfl) (by omega) (WA Tryz.underlying3)
 obtain ⟨v1,o1,b1,e1⟩:=opf (N:=N) hf 1 rfl (t:=9) rfl rfl (piece:=[c1]) rfl rfl (by kernel_rfl) (by omega) (Xd Tryz.underlying9)
 obtain ⟨v2,o2,b2,e2⟩:=opf (N:=N) hf 2 rfl (t:=93) rfl rfl (piece:=[c2]) rfl rfl (by kernel_rfl) (by omega) (Zdv)
 obtain ⟨v3,o3,b3,e3⟩:=opf (N:=N) hf 3 rfl (t:=94) rfl rfl (piece:=[c3]) rfl rfl (by kernel_rfl) (by omega) (Ga (Vz N))
 obtain ⟨v4,o4,b4,e4⟩:=opf (N:=N) hf 4 rfl (t:=95) rfl rfl (piece:=[c4]) rfl rfl (by kernel_rfl) (by omega) (ZfL)
 obtain ⟨v5,o5,b5,e5⟩:=opf (N:=N) hf 5 rfl (t:=37) rfl rfl (piece:=[c5]) rfl rfl (by kernel_rfl) (by omega) (Vg Tryz.underlying37 (Vz N))
 obtain ⟨v6,o6,b6,e6⟩:=opf (N:=N) hf 6 rfl (t:=9) rfl rfl (piece:=[c6]) rfl rfl (by kernel_rfl) (by omega) (Xd Tryz.underlying9)
 clear hf h hl hxl
 simp only [Vl.cells,Ex.cells,Qu.cells,Se.cells,Rk.cells,Ac.cells,SlP.v,Zt,List.cons.injEq,and_true] at e0 e1 e2 e3 e4 e5 e6
 obtain rfl:=e0;obtain rfl:=e1;obtain rfl:=e2;obtain rfl:=e3;obtain rfl:=e4;obtain rfl:=e5;obtain rfl:=e6
 rw [Zc0] at b2
 refine ⟨⟨v0,v1,v2,v3,v4,v5,v6⟩,⟨⟨⟨o2.rd,fun r hr=>⟨(o2.ok r hr).rd,(o2.ok r hr).ok⟩⟩,⟨o3.rd,o3.ok⟩,⟨o4.rd,o4.ok⟩,⟨o5.rd,o5.ok⟩⟩,o4.len,o5.len⟩,?_,rfl⟩
 simp only [acW,Yt,ZA]
 omega⟩
theorem Zha:OpB enc W N 38 1 (fun s:SlP Ac=>[s.v]) (SlG W 7 Ac.cells (AcG N W)) (fun s=>Xl N s.l+1):=
 Wz ⟨0,⟨#[]⟩,SlP.nil,SlP.nil,SlP.nil,SlP.nil,⟨#[]⟩⟩ Tryz.underlying38 (by kernel_rfl) (by omega) ZgK
theorem Zcg:OpB enc W N 36 1 (fun s:SlP Rk=>[s.v]) (SlG W 4 Rk.cells Y8) (fun s=>(s.l.map fun _=>1).sum+1):=
 Wz ⟨⟨#[]⟩,⟨#[]⟩,0,0⟩ Tryz.underlying36 (by kernel_rfl) (by omega) Zga
theorem Jm:OpB enc W N 35 1 (fun s:SlP ByteArray=>[s.v]) (SlG W 1 Zt (fun s=>s.size≤maxLen)) (fun s=>(s.l.map fun _=>1).sum+1):=
 Wz ⟨#[]⟩ Tryz.underlying35 (by kernel_rfl) (by omega) (Xd Tryz.underlying9)
theorem zQ {α:Type} {f:α→Nat} {x:α}:∀ {l:List α},x∈l→f x≤(l.map f).sum
 | y::l,h=>by
  simp only [List.map_cons,List.sum_cons]
  rcases List.mem_cons.1 h with rfl|h
  ·omega
  ·have:=zQ (f:=f) h;omega
theorem ZaE {α:Type} {f:α→Nat} (h:∀ x,2≤f x):∀ l:List α,2 * l.length≤(l.map f).sum
 | []=>Nat.le_refl _
 | x::l=>by
  have:=ZaE h l
  have:=h x
  simp only [List.map_cons,List.sum_cons,List.length_cons]
  omega
theorem Gv (d:Nat):∀ l:List Ac,(Zu l).length≤Xl d l
 | []=>Nat.zero_le _
 | a::l=>by
  have h1:=Gv d l
  have h2:=XV (f:=fun s:Se=>1+exW d s.e) (fun _=>by omega) a.sets.l
  simp only [Zu,List.flatMap_cons,List.length_append,Xl,List.map_cons,List.sum_cons] at h1 ⊢
  have h3:(if a.kind=5 then a.sets.l else []).length≤a.sets.l.length:=by split<;>simp
  have h4:acW d a=1+rrW d a.rows.l+YT d a.sets.l+Yt d a.qs.l+ZA d a.wh.l:=rfl
  unfold YT at h4
  omega
def TgG (N:Nat) (W:World) (t:Tg):Prop:=TgIn N t W∧(N≤1048576→TgFit N t)∧∀ r∈t.rank.l,Y8 r
theorem ZbH:OpB enc W N 40 11 Tg.cells (TgG N W) (fun _=>1):=⟨fun _=>rfl,fun fuel cs x h hz=>by
 obtain ⟨xs,n,-,rfl,hl,hxl,hf⟩:=DataW.trod_struct Tryz.underlying40 h
 obtain ⟨y0,y1,y2,y3,y4,y5,y6,y7,y8,y9,y10,rfl⟩:=l11 hxl
 obtain ⟨c0,c1,c2,c3,c4,c5,c6,c7,c8,c9,c10,rfl⟩:=l11 (hl.trans (show Tryz.prog.cellsOf 40=11 by kernel_rfl))
 simp only [List.map_cons,List.map_nil,Rows.uptoBulk,Rows.uptoBulkAll] at hz ⊢
 obtain ⟨v0,o0,b0,e0⟩:=opf (N:=N) hf 0 rfl (t:=9) rfl rfl (piece:=[c0]) rfl rfl (by kernel_rfl) (by omega) (Xd Tryz.underlying9)
 obtain ⟨v1,o1,b1,e1⟩:=opf (N:=N) hf 1 rfl (t:=9) rfl rfl (piece:=[c1]) rfl rfl (by kernel_rfl) (by omega) (Xd Tryz.underlying9)
 obtain ⟨v2,o2,b2,e2⟩:=opf (N:=N) hf 2 rfl (t:=4) rfl rfl (piece:=[c2]) rfl rfl (by kernel_rfl) (by omega) (Uo Tryz.underlying4)
 obtain ⟨v3,o3,b3,e3⟩:=opf (N:=N) hf 3 rfl (t:=3) rfl rfl (piece:=[c3]) rfl rfl (by kernel_rfl) (by omega) (WA Tryz.underlying3)
 obtain ⟨v4,o4,b4,e4⟩:=opf (N:=N) hf 4 rfl (t:=35) rfl rfl (piece:=[c4]) rfl rfl (by kernel_rfl) (by omega) (Jm)
 obtain ⟨v5,o5,b5,e5⟩:=opf (N:=N) hf 5 rfl (t:=4) rfl rfl (piece:=[c5]) rfl rfl (by kernel_rfl) (by omega) (Uo Tryz.underlying4)
 obtain ⟨v6,o6,b6,e6⟩:=opf (N:=N) hf 6 rfl (t:=35) rfl rfl (piece:=[c6]) rfl rfl (by kernel_rfl) (by omega) (Jm)
 obtain ⟨v7,o7,b7,e7⟩:=opf (N:=N) hf 7 rfl (t:=35) rfl rfl (piece:=[c7]) rfl rfl (by kernel_rfl) (by omega) (Jm)
 obtain ⟨v8,o8,b8,e8⟩:=opf (N:=N) hf 8 rfl (t:=36) rfl rfl (piece:=[c8]) rfl rfl (by kernel_rfl) (by omega) (Zcg)
 obtain ⟨v9,o9,b9,e9⟩:=opf (N:=N) hf 9 rfl (t:=37) rfl rfl (piece:=[c9]) rfl rfl (by kernel_rfl) (by omega) (Vg Tryz.underlying37 (Vz N))
 obtain ⟨v10,o10,b10,e10⟩:=opf (N:=N) hf 10 rfl (t:=38) rfl rfl (piece:=[c10]) rfl rfl (by kernel_rfl) (by omega) (Zha)
 clear hf h hl hxl
 simp only [Vl.cells,Ex.cells,Qu.cells,Se.cells,Rk.cells,Ac.cells,SlP.v,Zt,List.cons.injEq,and_true] at e0 e1 e2 e3 e4 e5 e6 e7 e8 e9 e10
 obtain rfl:=e0;obtain rfl:=e1;obtain rfl:=e2;obtain rfl:=e3;obtain rfl:=e4;obtain rfl:=e5;obtain rfl:=e6;obtain rfl:=e7;obtain rfl:=e8;obtain rfl:=e9;obtain rfl:=e10
 refine ⟨⟨v0,v1,v2,v3,v4,v5,v6,v7,v8,v9,v10⟩,⟨⟨⟨o4.rd,fun _ _=>trivial⟩,⟨o6.rd,fun _ _=>trivial⟩,⟨o7.rd,fun _ _=>trivial⟩,⟨o8.rd,fun _ _=>trivial⟩,⟨o9.rd,o9.ok⟩,o10.rd,fun a ha=>(o10.ok a ha).1⟩,fun hN=>?_,o8.ok⟩,by omega,rfl⟩
 have q1:=XV (f:=acW N) (fun a=>by unfold acW;omega) v10.l
 have q2:=Gv N v10.l
 have q3:=XV (f:=fun _:Rk=>1) (fun _=>Nat.le_refl _) v8.l
 have q4:=o10.len
 have q5:=o8.len
 have q6:Xl N v10.l=(v10.l.map (acW N)).sum:=rfl
 have q7:ZA N v9.l=(v9.l.map (exW N)).sum:=rfl
 refine ⟨by simp only;omega,by simp only;omega,by simp only [tgW];omega,fun a ha=>?_,by simp only;omega⟩
 simp only at ha
 have r1:=zQ (f:=acW N) ha
 have r2:=ZaE (f:=fun s:Se=>1+exW N s.e) (fun s=>by have:=QL N s.e;omega) a.sets.l
 have r3:=XV (f:=exW N) (QL N) a.wh.l
 have r4:acW N a=1+rrW N a.rows.l+(a.sets.l.map fun s:Se=>1+exW N s.e).sum+Yt N a.qs.l+(a.wh.l.map (exW N)).sum:=rfl
 have r5:=(o10.ok a ha).2
 omega⟩
theorem Zd8:OpB enc W N 25 1 (fun s:SlP Tg=>[s.v]) (SlG W 11 Tg.cells (TgG N W)) (fun s=>(s.l.map fun _=>1).sum+1):=
 Wz ⟨⟨#[]⟩,⟨#[]⟩,false,0,SlP.nil,false,SlP.nil,SlP.nil,SlP.nil,SlP.nil,SlP.nil⟩ Tryz.underlying25 (by kernel_rfl) (by omega) ZbH
theorem SlP.In.keep {α:Type} {s:SlP α} {k:Nat} {cel:α→List Value} {P:α→World→Prop} (h:s.In k cel P W) (hp:∀ x,P x W→Ro W Zb (P x)):Ro W Zb (s.In k cel P):=
 (Rd.ro h.1 (Nat.le_refl _) (fun _ _ h=>h.elim):Ro W Zb (SlR k s.A s.n (s.l.flatMap cel))).and fun w2 h1 h2 x hx=>hp x (h.2 x hx) w2 h1 h2
theorem XY:∀ {d:Nat} {e:Ex},ExIn d e W→Ro W Zb (ExIn d e)
 | 0,_,h=>h.elim
 | d+1,e,⟨h1,h2,h3,h4⟩=>fun w2 g1 g2=>⟨(Rd.ro h1 (Nat.le_refl _) (fun _ _ h=>h.elim):Ro W Zb (SlR 10 e.A e.n (Zl e.args))) w2 g1 g2,fun a ha=>XY (h2 a ha) w2 g1 g2,(Rd.ro h3 (Nat.le_refl _) (fun _ _ h=>h.elim):Ro W Zb (SlR 4 e.B e.m (YU e.sub))) w2 g1 g2,
  fun q hq=>⟨⟨(Rd.ro (h4 q hq).1.1 (Nat.le_refl _) (fun _ _ h=>h.elim):Ro W Zb (SlR 10 q.A q.n (Zl q.items))) w2 g1 g2,fun a ha=>XY ((h4 q hq).1.2 a ha) w2 g1 g2⟩,(Rd.ro (h4 q hq).2.1 (Nat.le_refl _) (fun _ _ h=>h.elim):Ro W Zb (SlR 10 q.B q.m (Zl q.wh))) w2 g1 g2,fun a ha=>XY ((h4 q hq).2.2 a ha) w2 g1 g2⟩⟩
theorem ZdD {d:Nat} {q:Qu} (h:QuIn d q W):Ro W Zb (QuIn d q):=fun w2 g1 g2=>
 ⟨⟨(Rd.ro h.1.1 (Nat.le_refl _) (fun _ _ h=>h.elim):Ro W Zb (SlR 10 q.A q.n (Zl q.items))) w2 g1 g2,fun a ha=>XY (h.1.2 a ha) w2 g1 g2⟩,(Rd.ro h.2.1 (Nat.le_refl _) (fun _ _ h=>h.elim):Ro W Zb (SlR 10 q.B q.m (Zl q.wh))) w2 g1 g2,fun a ha=>XY (h.2.2 a ha) w2 g1 g2⟩
theorem Zgk {d:Nat} {a:Ac} (h:AcIn d a W):Ro W Zb (AcIn d a):=fun w2 g1 g2=>
 ⟨h.1.keep (fun r hr=>SlP.In.keep hr (fun _=>XY)) w2 g1 g2,h.2.1.keep (fun _=>ZdD) w2 g1 g2,h.2.2.1.keep (fun _=>XY) w2 g1 g2,h.2.2.2.keep (fun _=>XY) w2 g1 g2⟩
theorem ZdI {d:Nat} {t:Tg} (h:TgIn d t W):Ro W Zb (TgIn d t):=fun w2 g1 g2=>
 ⟨h.1.keep (fun _ _ _ _ _=>trivial) w2 g1 g2,h.2.1.keep (fun _ _ _ _ _=>trivial) w2 g1 g2,h.2.2.1.keep (fun _ _ _ _ _=>trivial) w2 g1 g2,h.2.2.2.1.keep (fun _ _ _ _ _=>trivial) w2 g1 g2,h.2.2.2.2.1.keep (fun _=>XY) w2 g1 g2,h.2.2.2.2.2.keep (fun _=>Zgk) w2 g1 g2⟩
structure RawTgs (d:Nat) (W:World) (s:SlP Tg):Prop where
 ins:Ro W Zb (TgsIn d s.A s.n s.l)
 fit:∀ t∈s.l,TgFit d t
 rk:∀ t∈s.l,∀ r∈t.rank.l,Y8 r
set_option maxRecDepth 100000 in
theorem OpB.slice {α:Type} {t e:TypeId} {k:Nat} {cel:α→List Value} {Ok:α→Prop} {wt:SlP α→Nat} (he:OpB enc W N t 1 (fun s:SlP α=>[s.v]) (SlG W k cel Ok) wt) (hs:Tryz.prog.underlying t=some (.slice e)) {r:Reach} {b0:Nat} {v:Value} {x:DataW H} {p:List MemPlace} (hok:Value.okWide Tryz.prog W r b0 t v) (h:DataW.Trod enc Tryz.prog W 0 (fun _=>true) true t v x p) (hz:Rows.uptoBulk x≤N):∃ s:SlP α,SlG W k cel Ok s∧v=.slice s.A s.n s.c:=by
 obtain ⟨A,n,c,rfl⟩:=okWide_slice hs hok
 obtain ⟨fuel,hf⟩:=h
 obtain ⟨a,h1,-,h2⟩:=he.2 _ _ _ hf hz
 refine ⟨a,h1,?_⟩
 have h3:[Value.slice A n c]=[.slice a.A a.n a.c]:=by simpa [Value.cells,SlP.v] using h2
 injection h3
theorem Ze5 {m:Nat} (hm:m≤1048576) {s:SlP Tg} (h1:SlG W 11 Tg.cells (TgG m W) s):RawTgs m W s:=
 ⟨fun w2 g1 g2=>⟨(Rd.ro h1.rd (Nat.le_refl _) (fun _ _ h=>h.elim):Ro W Zb (SlR 11 s.A s.n (s.l.flatMap Tg.cells))) w2 g1 g2,fun t ht=>ZdI (h1.ok t ht).1 w2 g1 g2⟩,fun t ht=>(h1.ok t ht).2.1 hm,fun t ht=>(h1.ok t ht).2.2⟩
set_option maxRecDepth 100000 in
theorem ZgS {v:Value} {r:Reach} {b0:Nat} {x:DataW H} {p:List MemPlace} (hok:Value.okWide Tryz.prog W r b0 25 v) (h:DataW.Trod enc Tryz.prog W 0 (fun _=>true) true 25 v x p) {m:Nat} (hm:m≤1048576) (hb:Rows.uptoBulk x≤m):∃ (s:SlP Tg),RawTgs m W s∧v=.slice s.A s.n s.c:=by
 obtain ⟨s,h1,h2⟩:=(Zd8 (enc:=enc) (W:=W) (N:=m)).slice Tryz.underlying25 hok h hb
 exact ⟨s,Ze5 hm h1,h2⟩
end
end Go.Proofs.YtnbbllkbefagmaaGreatDoor
namespace Go.Proofs.YtnbbllkbefagmaaGreatDoor
open Go.RowKit
set_option linter.unusedVariables false
set_option linter.unusedSimpArgs false
def Yh:ByteArray:=⟨#[117]⟩
def Xi:ByteArray:=⟨#[110]⟩
def XK (tabs:List (ByteArray × List Col)):Prop:=∃ x,tabs.find? (fun x=>decide (x.1=Yh))=some x∧Xn x.2 Xi=true
def Vq (lo hi:Int) (t:Tg):Prop:=t.before=false∧t.rank.l=[⟨Yh,Xi,lo,hi⟩]∧∃ a,t.acts.l=[a]∧Y9 Yh Xi 1 lo hi a
theorem Q9 {d:Nat} {t:Tg} {ts:List Tg} {tabs:List (ByteArray × List Col)} {r:Rk} (hb:t.before=false) (hr:t.rank.l=[r]):Yn d (t::ts) tabs 0=Ws d (t::ts) tabs t r:=by
 simp [Yn,hb,hr]
theorem GH {d:Nat} {t:Tg} {ts:List Tg} {tabs:List (ByteArray × List Col)} {lo hi:Int} (h:XK tabs):Ws d ts tabs t ⟨Yh,Xi,lo,hi⟩=((decide (lo≤hi)&&decide (hi - lo≤1048576))&&YO d t ⟨Yh,Xi,lo,hi⟩&&YG ts ⟨Yh,Xi,lo,hi⟩):=by
 obtain ⟨x,h1,h2⟩:=h
 simp [Ws,h1,h2]
theorem Za6 {d:Nat} {t:Tg} {lo hi:Int} (h:Vq lo hi t) (h3:I64 lo) (h4:I64 hi):YO (d+1) t ⟨Yh,Xi,lo,hi⟩=true:=by
 obtain ⟨_,_,a,ha,hl⟩:=h
 simp [YO,ha,ZfV d hl (by decide) h3 h4]
theorem zK {t:Tg} {lo hi L H:Int} (h:Vq lo hi t):ZW ⟨Yh,Xi,L,H⟩ t=true:=by
 obtain ⟨hb,_,a,ha,hl⟩:=h
 simp [ZW,hb,ha,Zfq hl (by decide)]
theorem ZbX {d:Nat} {t:Tg} {lo hi:Int} {tabs:List (ByteArray × List Col)} (hT:XK tabs) (h:Vq lo hi t) (h3:I64 lo) (h4:I64 hi) (h5:lo≤hi) (h6:hi - lo≤1048576):Yn (d+1) [t] tabs 0=true:=by
 rw [Q9 h.1 h.2.1,GH hT,Za6 h h3 h4]
 simp [YG,zK h,h5,h6]
theorem ZbI {d:Nat} {t o:Tg} {lo hi:Int} {tabs:List (ByteArray × List Col)} (hT:XK tabs) (h:Vq lo hi t) (h3:I64 lo) (h4:I64 hi) (h5:lo≤hi) (h6:hi - lo≤1048576):Yn (d+1) [t,o] tabs 0=ZW ⟨Yh,Xi,lo,hi⟩ o:=by
 rw [Q9 h.1 h.2.1,GH hT,Za6 h h3 h4]
 simp [YG,zK h,h5,h6]
theorem Zc2 {d:Nat} {t o:Tg} {lo hi:Int} {tabs:List (ByteArray × List Col)} (hT:XK tabs) (h:Vq lo hi t) (h3:I64 lo) (h4:I64 hi) (h5:lo≤hi) (h6:hi - lo≤1048576) {a:Ac} (hb:o.before=false) (ha:o.acts.l=[a]) (h1:a.kind=1) (h2:a.tab=Yh):Yn (d+1) [t,o] tabs 0=false:=by
 rw [ZbI hT h h3 h4 h5 h6]
 simp [ZW,hb,ha,Ya,h1,h2]
structure AcSm (a:Ac):Prop where
 r:a.rows.l=[]
 q:a.qs.l=[]
 s:a.sets.n≤1
 h:a.wh.n≤1
def ZbS (w:World) (M:Nat→Prop) (col:ByteArray) (k lo hi:Int) (e:Ending) (w' :World):Prop:=∃ a:Ac,e=.returned a.val∧Y9 Yh col k lo hi a∧AcSm a∧Ro w' M (AcIn 3 a)∧Below w.heap.size w w'
set_option maxRecDepth 100000 in
set_option maxHeartbeats 4000000 in
theorem Gw (M:Nat→Prop) (w:World) (hM:∀ b,M b→b<w.heap.size) (col:ByteArray) (k lo hi:Int) (hk:-4611686018427387904≤k) (h1:-4611686018427387904≤lo) (h2:-4611686018427387904≤hi):Calls Tryz.prog 81 #[.string col,.int .i64 k,.int .i64 lo,.int .i64 hi] w fun e w' =>ZbS w M col k lo hi e w' :=by
 have K0:=(Hold.start M w hM).alloc #[.int .i64 0,.string ⟨#[]⟩,.slice none 0 0,.slice none 0 0,.slice none 0 0,.slice none 0 0,.string ⟨#[]⟩] 97
 obtain ⟨g,hg⟩:∃ g,g=w.heap.size:=⟨_,rfl⟩
 rw [←hg] at K0
 go_enter Tryz.func81,Tryz.ntmps81
 go_wp2_with fail
 rw [←hg]
 have HG:=hid hg
 clear hg
 refine (Xr _ ⟨#[]⟩ col).mono ?_
 rintro e w1 ⟨rfl,b1⟩
 have K1:=K0.call b1
 clear K0 b1
 go_wp2_with fail
 refine (XG _ _ K1.Zc k hk).mono ?_
 rintro e w2 ⟨kE,rfl,hkE,rk,b2⟩
 have K2:=(K1.call b2).add rk
 have HKE:=hid hkE
 clear K1 b2 rk hkE
 go_wp2_with fail
 refine (Xj _ _ K2.Zc 10 (Zk ⟨#[]⟩ col) kE 2 (fun w2 _ _=>(Xc _ _ _).more) (K2.ro 0 rfl)).mono ?_
 rintro e w3 ⟨gb,rfl,rb,b3⟩
 have K3:=(K2.call b3).add rb
 clear K2 b3 rb
 rw [show (opE 5 10 false gb 2 [Zk ⟨#[]⟩ col,kE]).val=.agg #[.int .i64 5,.int .i64 10,.bool false,.int .i64 0,.int .i64 0,.string ⟨#[]⟩,.string ⟨#[]⟩,.string ⟨#[]⟩,.slice (some ⟨gb,0,none⟩) 2 2,.slice none 0 0] from rfl]
 have K4:=K3.Za #[.string col,.int .i64 5,.int .i64 10,.bool false,.int .i64 0,.int .i64 0,.string ⟨#[]⟩,.string ⟨#[]⟩,.string ⟨#[]⟩,.slice (some ⟨gb,0,none⟩) 2 2,.slice none 0 0] 128
 obtain ⟨gs,hgs⟩:∃ gs,gs=w3.heap.size:=⟨_,rfl⟩
 rw [←hgs] at K4
 clear K3
 go_wp2_with fail
 rw [←hgs]
 have HGS:=hid hgs
 clear hgs
 refine (JD _ _ K4.Zc col lo hi h1 h2).mono ?_
 rintro e w4 ⟨gt,x,y,rfl,hx,hy,rt,b4⟩
 have K5:=((K4.call b4).add rt).Za #[.int .i64 7,.int .i64 0,.bool false,.int .i64 0,.int .i64 0,.string ⟨#[]⟩,.string ⟨#[]⟩,.string ⟨#[]⟩,.slice (some ⟨gt,0,none⟩) 3 3,.slice none 0 0] 126
 have HXY:=hid (And.intro hx hy)
 clear K4 b4 rt hx hy
 rw [show (opE 7 0 false gt 3 [Zk ⟨#[]⟩ col,x,y]).val=.agg #[.int .i64 7,.int .i64 0,.bool false,.int .i64 0,.int .i64 0,.string ⟨#[]⟩,.string ⟨#[]⟩,.string ⟨#[]⟩,.slice (some ⟨gt,0,none⟩) 3 3,.slice none 0 0] from rfl]
 obtain ⟨gw,hgw⟩:∃ gw,gw=w4.heap.size:=⟨_,rfl⟩
 rw [←hgw] at K5
 have F5:=K5.facts
 simp only [zg] at F5
 have K6:=((((((K5.store 5 rfl 0 (.int .i64 2)).store 5 rfl 1 (.string ⟨#[117]⟩)).store 5 rfl 2 (.slice none 0 0)).store 5 rfl 3 (.slice none 0 0)).store 5 rfl 4 (.slice (some ⟨gs,0,none⟩) 1 1)).store 5 rfl 5 (.slice (some ⟨gw,0,none⟩) 1 1)).store 5 rfl 6 (.string ⟨#[]⟩)
 simp only [zl] at K6
 have F6:=K6.facts
 simp only [zg] at F6
 have hS:Ro _ _ (SesIn 3 (some ⟨gs,0,none⟩) 1 [⟨col,opE 5 10 false gb 2 [Zk ⟨#[]⟩ col,kE]⟩]):=(show Ro _ _ (SlR 11 (some ⟨gs,0,none⟩) 1 [.string col,.int .i64 5,.int .i64 10,.bool false,.int .i64 0,.int .i64 0,.string ⟨#[]⟩,.string ⟨#[]⟩,.string ⟨#[]⟩,.slice (some ⟨gb,0,none⟩) 2 2,.slice none 0 0]) from ZJ (K6.get 2 rfl) rfl).and ((K6.ro 3 rfl).imp fun w2 h2 s hs=>by
  simp only [List.mem_cons,List.not_mem_nil,or_false] at hs
  subst hs
  exact h2)
 have hW:Ro _ _ (ExsIn 3 (some ⟨gw,0,none⟩) 1 [opE 7 0 false gt 3 [Zk ⟨#[]⟩ col,x,y]]):=XC (l:=[opE 7 0 false gt 3 [Zk ⟨#[]⟩ col,x,y]]) (K6.get 0 rfl) rfl (fun z hz=>by
  simp only [List.mem_cons,List.not_mem_nil,or_false] at hz
  subst hz
  exact K6.ro 1 rfl)
 have hA:Ro _ M (AcIn 3 ⟨2,⟨#[117]⟩,SlP.nil,SlP.nil,⟨some ⟨gs,0,none⟩,1,1,[⟨col,opE 5 10 false gb 2 [Zk ⟨#[]⟩ col,kE]⟩]⟩,⟨some ⟨gw,0,none⟩,1,1,[opE 7 0 false gt 3 [Zk ⟨#[]⟩ col,x,y]]⟩,⟨#[]⟩⟩):=((hS.and hW).imp fun w2 h2=>⟨SlP.Zi _ _ _ _,SlP.Zi _ _ _ _,h2.1,h2.2⟩).less (fun b hb=>.inl hb)
 have HA:=hid hA
 have HB:=hid K6.below
 clear hS hW hA K5 K6
 go_wp2_with fail
 rw [←hgw]
 refine bodyPost_ret (v:=.agg #[.int .i64 2,.string ⟨#[117]⟩,.slice none 0 0,.slice none 0 0,.slice (some ⟨gs,0,none⟩) 1 1,.slice (some ⟨gw,0,none⟩) 1 1,.string ⟨#[]⟩]) ?_ rfl ?_
 ·clear HA HB
  simp [results,Tryz.results81,go_sem,F6]
 ·refine ⟨⟨2,⟨#[117]⟩,SlP.nil,SlP.nil,⟨some ⟨gs,0,none⟩,1,1,[⟨col,opE 5 10 false gb 2 [Zk ⟨#[]⟩ col,kE]⟩]⟩,⟨some ⟨gw,0,none⟩,1,1,[opE 7 0 false gt 3 [Zk ⟨#[]⟩ col,x,y]]⟩,⟨#[]⟩⟩,rfl,⟨rfl,rfl,gb,gt,kE,x,y,rfl,rfl,HKE.out,HXY.out.1,HXY.out.2⟩,⟨rfl,rfl,Nat.le_refl _,Nat.le_refl _⟩,HA.out,HB.out⟩
def Yc (gr ga:Nat) (col:ByteArray) (lo hi:Int) (a:Ac):Tg:=⟨⟨#[97]⟩,⟨#[117]⟩,false,2,SlP.nil,false,SlP.nil,SlP.nil,⟨some ⟨gr,0,none⟩,1,1,[⟨Yh,col,lo,hi⟩]⟩,SlP.nil,⟨some ⟨ga,0,none⟩,1,1,[a]⟩⟩
def Zeo (w:World) (M:Nat→Prop) (col:ByteArray) (k lo hi:Int) (e:Ending) (w' :World):Prop:=∃ (gr ga:Nat) (a:Ac),e=.returned (Yc gr ga col lo hi a).val∧Y9 Yh col k lo hi a∧AcSm a∧Ro w' M (TgIn 3 (Yc gr ga col lo hi a))∧Below w.heap.size w w'
theorem Q3 {x:Ex} {n:Int} (h:Xv x n) (d:Nat):exW d x≤2:=by
 rcases h with ⟨_,rfl⟩|⟨_,g,rfl⟩
 ·rcases d with _|d<;>simp [exW,Zz]
 ·rcases d with _|_|d<;>simp [exW,opE,Zz]
theorem Zfr {u c:ByteArray} {k lo hi:Int} {a:Ac} (h:Y9 u c k lo hi a) (hs:AcSm a) (d:Nat):acW d a≤20:=by
 obtain ⟨_,_,g1,g2,kE,x,y,h1,h2,hk,hx,hy⟩:=h
 have e1:=fun d=>Q3 hk d
 have e2:=fun d=>Q3 hx d
 have e3:=fun d=>Q3 hy d
 have e4:∀ d,exW d (Zk ⟨#[]⟩ c)=1:=fun d=>by rcases d with _|d<;>simp [exW,Zk]
 rcases d with _|d
 ·simp [acW,rrW,YT,Yt,ZA,hs.r,hs.q,h1,h2,exW]
 ·have b1:exW (d+1) (opE 5 10 false g1 2 [Zk ⟨#[]⟩ c,kE])≤4:=by
   have:=e1 d;have:=e4 d
   simp only [VH,opE,ZA,Yt,List.map_cons,List.map_nil,List.sum_cons,List.sum_nil];omega
  have b2:exW (d+1) (opE 7 0 false g2 3 [Zk ⟨#[]⟩ c,x,y])≤6:=by
   have:=e2 d;have:=e3 d;have:=e4 d
   simp only [VH,opE,ZA,Yt,List.map_cons,List.map_nil,List.sum_cons,List.sum_nil];omega
  simp only [acW,rrW,YT,Yt,ZA,hs.r,hs.q,h1,h2,List.map_cons,List.map_nil,List.sum_cons,List.sum_nil]
  omega
theorem Zc9 {l:List Ac} (h:∀ a∈l,a.kind≠5):Zu l=[]:=by
 unfold Zu
 rw [List.flatMap_eq_nil_iff]
 intro a ha
 rw [if_neg (h a ha)]
theorem zL {d:Nat} {t:Tg} (hn:t.acts.n≤100) (hr:t.rank.n≤100) (hc:t.cond.l=[]) (hw:Xl d t.acts.l≤1000) (hs:(Zu t.acts.l).length≤1000) (ha:∀ a∈t.acts.l,a.sets.n≤1∧a.wh.n≤1):TgFit d t:=
 ⟨by omega,by omega,by unfold tgW;rw [hc];show 0+_≤_;omega,fun a h=>⟨by have:=(ha a h).1;omega,by have:=(ha a h).2;omega⟩,by omega⟩
set_option maxRecDepth 100000 in
set_option maxHeartbeats 8000000 in
theorem ZbC (M:Nat→Prop) (w:World) (hM:∀ b,M b→b<w.heap.size) (col:ByteArray) (k lo hi:Int) (hk:-4611686018427387904≤k) (h1:-4611686018427387904≤lo) (h2:-4611686018427387904≤hi):Calls Tryz.prog 30 #[.string col,.int .i64 k,.int .i64 lo,.int .i64 hi] w fun e w' =>Zeo w M col k lo hi e w' :=by
 have K0:=((Hold.start M w hM).alloc #[.string ⟨#[]⟩,.string ⟨#[]⟩,.bool false,.int .i64 0,.slice none 0 0,.bool false,.slice none 0 0,.slice none 0 0,.slice none 0 0,.slice none 0 0,.slice none 0 0] 40)
 obtain ⟨g,hg⟩:∃ g,g=w.heap.size:=⟨_,rfl⟩
 rw [←hg] at K0
 have K1:=K0.Za #[.string ⟨#[117]⟩,.string col,.int .i64 lo,.int .i64 hi] 85
 rw [World.size_alloc,←hg] at K1
 obtain ⟨gr,hgr⟩:∃ gr,gr=g+1:=⟨_,rfl⟩
 rw [←hgr] at K1
 clear K0
 go_enter Tryz.func30,Tryz.ntmps30
 go_wp2_with fail
 rw [←hg]
 try rw [←hgr]
 have HG:=hid hg
 have HGR:=hid hgr
 clear hg hgr
 refine (Gw _ _ K1.Zc col k lo hi hk h1 h2).mono ?_
 rintro e w1 ⟨⟨ak,atab,⟨arA,arn,arc,arl⟩,⟨aqA,aqn,aqc,aql⟩,⟨asA,asn,asc,asl⟩,⟨awA,awn,awc,awl⟩,atext⟩,rfl,hl,hsm,ra,b1⟩
 have K5:=((K1.call b1).add ra).Za #[.int .i64 ak,.string atab,.slice arA arn arc,.slice aqA aqn aqc,.slice asA asn asc,.slice awA awn awc,.string atext] 97
 have HL:=hid hl
 have HS:=hid hsm
 clear K1 b1 ra hl hsm
 rw [show (⟨ak,atab,⟨arA,arn,arc,arl⟩,⟨aqA,aqn,aqc,aql⟩,⟨asA,asn,asc,asl⟩,⟨awA,awn,awc,awl⟩,atext⟩:Ac).val=.agg #[.int .i64 ak,.string atab,.slice arA arn arc,.slice aqA aqn aqc,.slice asA asn asc,.slice awA awn awc,.string atext] from rfl]
 obtain ⟨ga,hga⟩:∃ ga,ga=w1.heap.size:=⟨_,rfl⟩
 rw [←hga] at K5
 have F5:=K5.facts
 simp only [zg] at F5
 have K6:=(((((((((((K5.store 3 rfl 0 (.string ⟨#[97]⟩)).store 3 rfl 1 (.string ⟨#[117]⟩)).store 3 rfl 2 (.bool false)).store 3 rfl 3 (.int .i64 2)).store 3 rfl 4 (.slice none 0 0)).store 3 rfl 5 (.bool false)).store 3 rfl 6 (.slice none 0 0)).store 3 rfl 7 (.slice none 0 0)).store 3 rfl 8 (.slice (some ⟨gr,0,none⟩) 1 1)).store 3 rfl 9 (.slice none 0 0)).store 3 rfl 10 (.slice (some ⟨ga,0,none⟩) 1 1))
 simp only [zl] at K6
 have F6:=K6.facts
 simp only [zg] at F6
 have hR:Ro _ _ (RksIn (some ⟨gr,0,none⟩) 1 [⟨Yh,col,lo,hi⟩]):=(show Ro _ _ (SlR 4 (some ⟨gr,0,none⟩) 1 [.string ⟨#[117]⟩,.string col,.int .i64 lo,.int .i64 hi]) from ZJ (K6.get 2 rfl) rfl).imp fun w2 h2=>⟨h2,fun _ _=>trivial⟩
 have hA:Ro _ _ (AcsIn 3 (some ⟨ga,0,none⟩) 1 [⟨ak,atab,⟨arA,arn,arc,arl⟩,⟨aqA,aqn,aqc,aql⟩,⟨asA,asn,asc,asl⟩,⟨awA,awn,awc,awl⟩,atext⟩]):=(show Ro _ _ (SlR 7 (some ⟨ga,0,none⟩) 1 [.int .i64 ak,.string atab,.slice arA arn arc,.slice aqA aqn aqc,.slice asA asn asc,.slice awA awn awc,.string atext]) from ZJ (K6.get 0 rfl) rfl).and ((K6.ro 1 rfl).imp fun w2 h2 s hs=>by
  simp only [List.mem_cons,List.not_mem_nil,or_false] at hs
  subst hs
  exact h2)
 have hT:Ro _ M (TgIn 3 (Yc gr ga col lo hi ⟨ak,atab,⟨arA,arn,arc,arl⟩,⟨aqA,aqn,aqc,aql⟩,⟨asA,asn,asc,asl⟩,⟨awA,awn,awc,awl⟩,atext⟩)):=((hR.and hA).imp fun w2 h2=>⟨SlP.Zi _ _ _ _,SlP.Zi _ _ _ _,SlP.Zi _ _ _ _,h2.1,SlP.Zi _ _ _ _,h2.2⟩).less (fun b hb=>.inl hb)
 have HA:=hid hT
 have HB:=hid K6.below
 clear hR hA hT K5 K6
 go_wp2_with fail
 rw [←hga]
 refine bodyPost_ret (v:=.agg #[.string ⟨#[97]⟩,.string ⟨#[117]⟩,.bool false,.int .i64 2,.slice none 0 0,.bool false,.slice none 0 0,.slice none 0 0,.slice (some ⟨gr,0,none⟩) 1 1,.slice none 0 0,.slice (some ⟨ga,0,none⟩) 1 1]) ?_ rfl ?_
 ·clear HA HB HL HS
  simp [results,Tryz.results30,go_sem,F6]
 ·exact ⟨gr,ga,⟨ak,atab,⟨arA,arn,arc,arl⟩,⟨aqA,aqn,aqc,aql⟩,⟨asA,asn,asc,asl⟩,⟨awA,awn,awc,awl⟩,atext⟩,rfl,HL.out,HS.out,HA.out,HB.out⟩
def rkA (col:ByteArray) (lo hi:Int):Array Value:=#[.string ⟨#[117]⟩,.string col,.int .i64 lo,.int .i64 hi]
def Zdq (w:World) (M:Nat→Prop) (col:ByteArray) (k lo hi:Int) (e:Ending) (w' :World):Prop:=∃ (gr ga:Nat) (a:Ac),e=.returned (Yc gr ga col lo hi a).val∧Y9 Yh col k lo hi a∧AcSm a∧Ro w' (fun b=>M b∨b=gr) (AcsIn 3 (some ⟨ga,0,none⟩) 1 [a])∧w.heap.size≤gr∧Blk w' gr 85 (rkA col lo hi)∧Below w.heap.size w w'
set_option maxRecDepth 100000 in
set_option maxHeartbeats 8000000 in
theorem Zeg (M:Nat→Prop) (w:World) (hM:∀ b,M b→b<w.heap.size) (col:ByteArray) (k lo hi:Int) (hk:-4611686018427387904≤k) (h1:-4611686018427387904≤lo) (h2:-4611686018427387904≤hi):Calls Tryz.prog 30 #[.string col,.int .i64 k,.int .i64 lo,.int .i64 hi] w fun e w' =>Zdq w M col k lo hi e w' :=by
 have K0:=((Hold.start M w hM).alloc #[.string ⟨#[]⟩,.string ⟨#[]⟩,.bool false,.int .i64 0,.slice none 0 0,.bool false,.slice none 0 0,.slice none 0 0,.slice none 0 0,.slice none 0 0,.slice none 0 0] 40)
 obtain ⟨g,hg⟩:∃ g,g=w.heap.size:=⟨_,rfl⟩
 rw [←hg] at K0
 have K1:=K0.alloc #[.string ⟨#[117]⟩,.string col,.int .i64 lo,.int .i64 hi] 85
 rw [World.size_alloc,←hg] at K1
 obtain ⟨gr,hgr⟩:∃ gr,gr=g+1:=⟨_,rfl⟩
 rw [←hgr] at K1
 clear K0
 go_enter Tryz.func30,Tryz.ntmps30
 go_wp2_with fail
 rw [←hg]
 try rw [←hgr]
 have HG:=hid hg
 have HGR:=hid hgr
 clear hg hgr
 refine (Gw _ _ K1.Zc col k lo hi hk h1 h2).mono ?_
 rintro e w1 ⟨⟨ak,atab,⟨arA,arn,arc,arl⟩,⟨aqA,aqn,aqc,aql⟩,⟨asA,asn,asc,asl⟩,⟨awA,awn,awc,awl⟩,atext⟩,rfl,hl,hsm,ra,b1⟩
 have K5:=((K1.call b1).add ra).Za #[.int .i64 ak,.string atab,.slice arA arn arc,.slice aqA aqn aqc,.slice asA asn asc,.slice awA awn awc,.string atext] 97
 have HL:=hid hl
 have HS:=hid hsm
 clear K1 b1 ra hl hsm
 rw [show (⟨ak,atab,⟨arA,arn,arc,arl⟩,⟨aqA,aqn,aqc,aql⟩,⟨asA,asn,asc,asl⟩,⟨awA,awn,awc,awl⟩,atext⟩:Ac).val=.agg #[.int .i64 ak,.string atab,.slice arA arn arc,.slice aqA aqn aqc,.slice asA asn asc,.slice awA awn awc,.string atext] from rfl]
 obtain ⟨ga,hga⟩:∃ ga,ga=w1.heap.size:=⟨_,rfl⟩
 rw [←hga] at K5
 have F5:=K5.facts
 simp only [zg] at F5
 have K6:=(((((((((((K5.store 3 rfl 0 (.string ⟨#[97]⟩)).store 3 rfl 1 (.string ⟨#[117]⟩)).store 3 rfl 2 (.bool false)).store 3 rfl 3 (.int .i64 2)).store 3 rfl 4 (.slice none 0 0)).store 3 rfl 5 (.bool false)).store 3 rfl 6 (.slice none 0 0)).store 3 rfl 7 (.slice none 0 0)).store 3 rfl 8 (.slice (some ⟨gr,0,none⟩) 1 1)).store 3 rfl 9 (.slice none 0 0)).store 3 rfl 10 (.slice (some ⟨ga,0,none⟩) 1 1))
 simp only [zl] at K6
 have F6:=K6.facts
 simp only [zg] at F6
 have hA:Ro _ _ (AcsIn 3 (some ⟨ga,0,none⟩) 1 [⟨ak,atab,⟨arA,arn,arc,arl⟩,⟨aqA,aqn,aqc,aql⟩,⟨asA,asn,asc,asl⟩,⟨awA,awn,awc,awl⟩,atext⟩]):=(show Ro _ _ (SlR 7 (some ⟨ga,0,none⟩) 1 [.int .i64 ak,.string atab,.slice arA arn arc,.slice aqA aqn aqc,.slice asA asn asc,.slice awA awn awc,.string atext]) from ZJ (K6.get 0 rfl) rfl).and ((K6.ro 1 rfl).imp fun w2 h2 s hs=>by
  simp only [List.mem_cons,List.not_mem_nil,or_false] at hs
  subst hs
  exact h2)
 have HA:=hid (hA.less (M' :=fun b=>M b∨b=gr) (fun b hb=>hb.elim .inl fun h=>.inr ⟨_,List.mem_of_getElem? (i:=2) rfl,by rw [h];rfl⟩))
 have HO:=hid (K6.get 2 rfl)
 have HB:=hid K6.below
 clear hA K5 K6
 go_wp2_with fail
 rw [←hga]
 refine bodyPost_ret (v:=.agg #[.string ⟨#[97]⟩,.string ⟨#[117]⟩,.bool false,.int .i64 2,.slice none 0 0,.bool false,.slice none 0 0,.slice none 0 0,.slice (some ⟨gr,0,none⟩) 1 1,.slice none 0 0,.slice (some ⟨ga,0,none⟩) 1 1]) ?_ rfl ?_
 ·clear HA HB HL HS HO
  simp [results,Tryz.results30,go_sem,F6]
 ·exact ⟨gr,ga,⟨ak,atab,⟨arA,arn,arc,arl⟩,⟨aqA,aqn,aqc,aql⟩,⟨asA,asn,asc,asl⟩,⟨awA,awn,awc,awl⟩,atext⟩,rfl,HL.out,HS.out,HA.out,by rw [HGR.out,HG.out];exact Nat.le_succ _,HO.out,HB.out⟩
end Go.Proofs.YtnbbllkbefagmaaGreatDoor

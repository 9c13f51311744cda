/- SUndSaid: rolling back to any earlier state gives exactly this state, and the log that it had. No further conditions. -/
import Derived.Test.YtedogodccblfeaaGreatDoorSUndSaidMF
import Derived.Test.YtedogodccblfeaaGreatDoorSUndSaidMG
import Derived.Test.YtedogodccblfeaaGreatDoorSUndSaidMB
import Derived.Laws.EntriesVeiled
import Derived.Test.YtedogodccblfeaaGreatDoorSUndSaidME
import Derived.Test.YtedogodccblfeaaGreatDoorCards
import Derived.Test.YtedogodccblfeaaGreatDoorTie
import Derived.Test.YtedogodccblfeaaGreatDoorSUndSaidMA
namespace Go.Proofs.YtedogodccblfeaaGreatDoor
open Go.RowKit
set_option linter.unusedVariables false
set_option linter.unusedSimpArgs false

theorem ro_blkN {w : World} {g : Nat} {t : TypeId} {cs : Array Value} (h : w.heap[g]? = some (.cells cs t (0, 0))) : Ro w None_ (fun w => w.heap[g]? = some (.cells cs t (0, 0))) := fun w2 h1 h2 => (h2 g (Blk.lt (t := t) (cs := cs) h) (fun hm => hm.elim)).trans h
def UndoRet (w : World) (M : Nat → Prop) (t : Tb) (e : Ending) (w' : World) : Prop := ∃ x : Te, e = .returned (.tuple #[x.val, .bool true]) ∧ x.tb = t ∧ x.ok ∧ Ro w' M (TeIn x) ∧ Below w.heap.size w w'
set_option maxHeartbeats 16000000 in
set_option maxRecDepth 100000 in
theorem sundoT_any (M : Nat → Prop) (w : World) (hM : ∀ b, M b → b < w.heap.size) (x : Te) (u : Ue) (N K : Nat) (rs : List Row) (hN : N ≤ 1000000) (hx : x.ok) (hxm : x.m ≤ 1000000) (hg : u.good N K) (rx : Ro w M (TeIn x)) (ru : Ro w M (UeIn u)) (hok : UndOk x.l u.li u.ld u.lu rs) :
    Calls Tryz.prog 66 #[.agg #[.string x.nm, .slice x.A x.n x.c, .int .i64 x.nx, .slice x.B x.m x.d], .agg #[.string u.nm, .int .i64 u.nx, .slice u.I u.ni u.ci, .slice u.D u.nd u.cd, .slice u.U u.nu u.cu]] w fun e w' => UndoRet w M ⟨x.nm, x.cs, u.nx, rs⟩ e w' := by
  obtain ⟨xnm, xA, xn, xc, cs, xnx, xB, xm, xd, l⟩ := x
  obtain ⟨unm, unx, uI, uni, uci, uD, und, ucd, uU, unu, ucu, li, ld, lu⟩ := u
  dsimp only at hok hxm ⊢
  have HOK := hid hok
  have HG := hid hg
  have HX := hid hx
  have hni : uni ≤ 1000000 := Nat.le_trans hg.i hN
  have hnd : und ≤ 1000000 := Nat.le_trans hg.d hN
  have hnu : unu ≤ 1000000 := Nat.le_trans hg.u hN
  have hcd := hg.cd
  have hcu := hg.cu
  have hci := hg.ci
  have hxd := hx.md
  have hxd2 := hx.d
  dsimp only at hcd hcu hci hxd hxd2
  have HLI := hid (show li.length = uni from ru.now.1.len)
  have HLD := hid (show ld.length = und from ru.now.2.1.len)
  have HLU := hid (show lu.length = unu from ru.now.2.2.len)
  have HLL := hid (show l.length = xm from rx.now.2.len)
  have K0 := (((((Hold.start M w hM).add (show Ro w _ (ColsIn xA xn cs) from (rx.imp fun w h => h.1).less (by simp [Mut]))).add (show Ro w _ (RwsIn xB xm l) from (rx.imp fun w h => h.2).less (by simp [Mut, Hp.foot]))).add (show Ro w _ (IsIn uI uni li) from (ru.imp fun w h => h.1).less (by simp [Mut, Hp.foot]))).add (show Ro w _ (RwsIn uD und ld) from (ru.imp fun w h => h.2.1).less (by simp [Mut, Hp.foot]))).add (show Ro w _ (RwsIn uU unu lu) from (ru.imp fun w h => h.2.2).less (by simp [Mut, Hp.foot]))
  clear rx ru hok hg hx hN
  obtain ⟨gt, hgt⟩ : ∃ g, g = w.heap.size := ⟨_, rfl⟩
  obtain ⟨gu, hgu⟩ : ∃ g, g = gt + 1 := ⟨_, rfl⟩
  obtain ⟨gz, hgz⟩ : ∃ g, g = gu + 1 := ⟨_, rfl⟩
  obtain ⟨gf, hgf⟩ : ∃ g, g = gz + 1 := ⟨_, rfl⟩
  have K1 := (((K0.alloc #[.string xnm, .slice xA xn xc, .int .i64 xnx, .slice xB xm xd] 58).alloc_cst #[.string unm, .int .i64 unx, .slice uI uni uci, .slice uD und ucd, .slice uU unu ucu] 129).alloc #[.string ⟨#[]⟩, .slice none 0 0, .int .i64 0, .slice none 0 0] 58).alloc_cst #[hasV w.heap.size] 141
  simp only [World.size_alloc] at K1
  rw [← hgt, ← hgu, ← hgz, ← hgf] at K1
  clear K0
  have F1 := K1.facts
  simp only [World.size_alloc, World.size_drew, factsL, cellsF, Nat.reduceAdd, List.toList_toArray, List.set_cons_zero, List.set_cons_succ, List.setIfInBounds_toArray, and_true, true_and] at F1
  rw [hgf, hgz, hgu, hgt] at F1
  go_enter Tryz.func66, Tryz.ntmps66
  go_wp2_with fail
  rw [← hgt, ← hgu, ← hgz, ← hgf] at F1 ⊢
  have HGS := hid (And.intro hgt (And.intro hgu (And.intro hgz hgf)))
  clear hgt hgu hgz hgf
  refine (snums_any _ _ K1.mutLt ⟨unm, unx, uI, uni, uci, uD, und, ucd, uU, unu, ucu, li, ld, lu⟩ 1000000 K (by omega) ⟨hni, hnd, hnu, HG.out.ci, HG.out.cd, HG.out.cu, HG.out.li, HG.out.ld, HG.out.lu⟩ ((K1.ro 6 rfl).and ((K1.ro 5 rfl).and (K1.ro 4 rfl))) HOK.out.nd).mono ?_
  rintro e w1 ⟨A7, n7, c7, B8, n8, c8, rfl, h7, h8, r7, r8, b1⟩
  have K2 := ((K1.call b1).add r7).add (r8.less (by simp [Mut, Hp.foot]))
  have hn7 : n7 ≤ 3000000 := by rw [h7, List.length_append, List.length_map, HLI.out, HLU.out]; omega
  have hn8 : n8 ≤ 3000000 := by rw [h8, List.length_map, HLD.out]; omega
  clear K1 F1 r7 r8 b1 h7 h8
  have F2 := K2.facts
  simp only [World.size_alloc, World.size_drew, factsL, cellsF, Nat.reduceAdd, List.toList_toArray, List.set_cons_zero, List.set_cons_succ, List.setIfInBounds_toArray, and_true, true_and] at F2
  go_wp2_with fail
  refine (unever_any _ B8 n8 c8 (ld.map Rw.id) ⟨xnm, xA, xn, xc, cs, xnx, xB, xm, xd, l⟩ gt (ro_blkN (K2.blk_ 5 rfl)) ((K2.ro 9 rfl).less (fun b hb => hb.elim)) (by show xm ≤ _; omega) ((K2.ro 0 rfl).less (fun b hb => hb.elim)) (by omega) HOK.out.out).mono ?_
  rintro e w2 ⟨rfl, b2⟩
  have K3 := K2.call b2
  clear K2 F2 b2
  have F3 := K3.facts
  simp only [World.size_alloc, World.size_drew, factsL, cellsF, Nat.reduceAdd, List.toList_toArray, List.set_cons_zero, List.set_cons_succ, List.setIfInBounds_toArray, and_true, true_and] at F3
  go_wp2_with fail
  refine (uall_any _ A7 n7 c7 (li ++ lu.map Rw.id) ⟨xnm, xA, xn, xc, cs, xnx, xB, xm, xd, l⟩ gt gf 141 ((K3.get 2 rfl : Ro _ _ _).less (fun b hb => hb.elim)) (ro_blkN (K3.blk_ 5 rfl)) ((K3.ro 9 rfl).less (fun b hb => hb.elim)) (by show xm ≤ _; omega) ((K3.ro 1 rfl).less (fun b hb => hb.elim)) (by omega) HOK.out.inn).mono ?_
  rintro e w3 ⟨rfl, b3⟩
  have K4 := ((K3.call b3).drop (.cons _ (.cons _ (List.sublist_cons_self _ _)))).nil 119 2
  clear K3 F3 b3
  have F4 := K4.facts
  simp only [World.size_alloc, World.size_drew, factsL, cellsF, Nat.reduceAdd, List.toList_toArray, List.set_cons_zero, List.set_cons_succ, List.setIfInBounds_toArray, and_true, true_and] at F4
  go_wp2_with fail
  clear F4
  go_loopw [10, 37] (fun ov iv wr => ∃ (k q cap : Nat) (O : Option Addr), k ≤ xm ∧ q ≤ k ∧ iv = .int .i64 k ∧ ov = .slice O q cap ∧ Hold M none w wr [.own 119 2 (.slice O q cap) q (rwCells (leftW li lu (l.take k))), .blk gz 58 #[.string ⟨#[]⟩, .slice none 0 0, .int .i64 0, .slice none 0 0], .cst gu 129 #[.string unm, .int .i64 unx, .slice uI uni uci, .slice uD und ucd, .slice uU unu ucu], .blk gt 58 #[.string xnm, .slice xA xn xc, .int .i64 xnx, .slice xB xm xd], .ro (RwsIn uU unu lu), .ro (RwsIn uD und ld), .ro (IsIn uI uni li), .ro (RwsIn xB xm l), .ro (ColsIn xA xn cs)]) (fun _ iv _ => xm - (intOf iv).toNat)
  case atStart => exact ⟨0, 0, 0, none, by omega, by omega, rfl, rfl, K4⟩
  case round =>
    clear K4
    obtain ⟨k, q, cap, O, hk, hq, rfl, rfl, H⟩ := hrel
    by_cases hlt : k < xm
    · have hd : decide ((k : Int) < (xm : Int)) = true := by simp; omega
      have i0 : (0 : Int) ≤ (k : Int) := by omega
      have i1 : (k : Int) < (xm : Int) := by omega
      obtain ⟨r, hr⟩ := get_of HLL.out hlt
      obtain ⟨b, o, rfl, hb, c0, c1, -⟩ := (H.ro 7 rfl).now.at_ hr
      have HR := hid hr
      clear hr
      obtain ⟨gr, hgr⟩ : ∃ g, g = wr.heap.size := ⟨_, rfl⟩
      have K1 := H.alloc #[.int .i64 r.id, .slice r.A r.n r.c] 119
      rw [← hgr] at K1
      have FA := K1.facts
      simp only [World.size_alloc, World.size_drew, factsL, cellsF, Nat.reduceAdd, List.toList_toArray, List.set_cons_zero, List.set_cons_succ, List.setIfInBounds_toArray, and_true, true_and] at FA
      rw [hgr] at FA
      clear H
      go_wp2_with fail
      rw [← hgr] at FA ⊢
      have HGR := hid hgr
      clear hgr c0 c1
      refine (kcont_any _ uI uni uci li r.id (K1.ro 7 rfl).now (by omega)).mono ?_
      rintro e w4 ⟨rfl, rfl⟩
      cases hc : li.contains r.id
      · have HC := hid hc
        clear hc
        go_wp2_with fail
        refine (uturnI_any _ uU unu ucu lu gr r.id r.A r.n r.c 119 (ro_blkN (K1.blk_ 0 rfl)) ((K1.ro 5 rfl).less (fun b hb => hb.elim)) (by omega)).mono ?_
        rintro e w5 ⟨⟨ri, rfl, hri⟩, b5⟩
        have K5 := K1.call b5
        clear K1 FA b5
        have FB := K5.facts
        simp only [World.size_alloc, World.size_drew, factsL, cellsF, Nat.reduceAdd, List.toList_toArray, List.set_cons_zero, List.set_cons_succ, List.setIfInBounds_toArray, and_true, true_and] at FB
        rcases hri with ⟨kk, z, hz, hze, hzl, rfl⟩ | ⟨rfl, hno⟩
        · have h0 : decide ((kk : Int) ≥ 0) = true := by simp
          have hkk : kk < unu := by rw [← HLU.out]; exact (List.getElem?_eq_some_iff.1 hz).1
          have j0 : (0 : Int) ≤ (kk : Int) := by omega
          have j1 : (kk : Int) < (unu : Int) := by omega
          obtain ⟨b6, o6, rfl, hb6, d0, d1, -⟩ := (K5.ro 5 rfl).now.at_ hz
          have HT := hid (show rwCells (leftW li lu (l.take k)) ++ (#[Value.int .i64 z.id, .slice z.A z.n z.c]).toList = rwCells (leftW li lu (l.take (k + 1))) by
            rw [leftW_take HR.out, HC.out, if_neg (by simp), pickW_some hz hze hzl]; simp [rwCells, Rw.cells])
          clear hz hze hzl
          have K6 := (K5.store 0 rfl 0 (.int .i64 z.id)).store 0 rfl 1 (.slice z.A z.n z.c)
          simp only [List.set_cons_zero, List.set_cons_succ, List.setIfInBounds_toArray] at K6
          have N5 := K5.nes
          simp only [World.size_alloc, nesL, neF, List.set_cons_zero, List.set_cons_succ, and_true, true_and] at N5
          go_wp2_with (at_builtin; go_must (refine wpList_appH K6 1 rfl Tryz.elRw #[.int .i64 z.id, .slice z.A z.n z.c] rfl (.tmp 57) (.tmp 59) rfl rfl _ (by first | rfl | simp) rfl rfl (by intro u hu; simp at hu; rcases hu with rfl | rfl <;> rfl) (by omega) (by omega) ?_); intro g9 cap9 w9 hc9 hm9 KB; rw [HT.out] at KB; simp only [List.set_cons_zero, List.set_cons_succ] at KB)
          go_roundw
          case rel => exact ⟨k + 1, q + 1, cap9, _, by omega, by omega, by go_num, by first | rfl | trivial, KB.drop (List.sublist_cons_self _ _)⟩
          case measure => simp [intOf]; omega
        · have h0 : decide ((-1 : Int) ≥ 0) = false := by decide
          have HT := hid (show rwCells (leftW li lu (l.take k)) ++ (#[Value.int .i64 r.id, .slice r.A r.n r.c]).toList = rwCells (leftW li lu (l.take (k + 1))) by
            rw [leftW_take HR.out, HC.out, if_neg (by simp), pickW_none hno]; simp [rwCells, Rw.cells])
          clear hno
          go_wp2_with (at_builtin; go_must (refine wpList_appH K5 1 rfl Tryz.elRw #[.int .i64 r.id, .slice r.A r.n r.c] rfl (.tmp 57) (.tmp 59) rfl rfl _ (by first | rfl | simp) rfl rfl (by intro u hu; simp at hu; rcases hu with rfl | rfl <;> rfl) (by omega) (by omega) ?_); intro g9 cap9 w9 hc9 hm9 KB; rw [HT.out] at KB; simp only [List.set_cons_zero, List.set_cons_succ] at KB)
          go_roundw
          case rel => exact ⟨k + 1, q + 1, cap9, _, by omega, by omega, by go_num, by first | rfl | trivial, KB.drop (List.sublist_cons_self _ _)⟩
          case measure => simp [intOf]; omega
      · have HT := hid (show leftW li lu (l.take k) = leftW li lu (l.take (k + 1)) by rw [leftW_take HR.out, hc, if_pos rfl]; simp)
        clear hc
        go_wp2_with fail
        go_roundw
        case rel => exact ⟨k + 1, q, cap, O, by omega, by omega, by go_num, by first | rfl | trivial, by rw [← HT.out]; exact K1.drop (List.sublist_cons_self _ _)⟩
        case measure => simp [intOf]; omega
    · obtain rfl : xm = k := by omega
      have hd : decide ((xm : Int) < (xm : Int)) = false := by simp
      rw [List.take_of_length_le (by rw [HLL.out]; exact Nat.le_refl _)] at H
      have hqd := hid (show q + und = (leftW li lu l ++ ld).length by
        have := (H.get 0 rfl).1
        rw [rwCells_len] at this
        rw [List.length_append, HLD.out]; omega)
      have hq19 : q + und ≤ 19 := by rw [hqd.out]; exact HOK.out.len
      have F6 := H.facts
      simp only [World.size_alloc, World.size_drew, factsL, cellsF, Nat.reduceAdd, List.toList_toArray, List.set_cons_zero, List.set_cons_succ, List.setIfInBounds_toArray, and_true, true_and] at F6
      have hrd := hid (show SlR 2 uD und (rwCells ld) wr from (H.ro 5 rfl).now.1)
      have e9 : rwCells (leftW li lu l) ++ rwCells ld = rwCells (leftW li lu l ++ ld) := by simp [rwCells]
      have HE9 := hid e9
      clear e9
      go_wp2_with (at_builtin; go_must (refine wpList_appAllH H 0 rfl Tryz.elRw hrd.out rfl (.tmp 62) (.tmp 64) rfl rfl rfl (one_rws _) (by omega) (by omega) ?_); intro C' cap' w6 hc6 hm6 KB; rw [HE9.out] at KB; simp only [List.set_cons_zero, List.set_cons_succ] at KB; (have FB := KB.facts); simp only [World.size_alloc, World.size_drew, factsL, cellsF, Nat.reduceAdd, List.toList_toArray, List.set_cons_zero, List.set_cons_succ, List.setIfInBounds_toArray, and_true, true_and] at FB)
      have KC := KB.store 3 rfl 3 (.slice C' (q + und) cap')
      simp only [List.set_cons_zero, List.set_cons_succ, List.setIfInBounds_toArray] at KC
      refine (sortrw_any KC 0 rfl hq19).mono ?_
      rintro e w7 ⟨rfl, lo, hp, hs, K7⟩
      simp only [List.set_cons_zero] at K7
      have HP := hid (And.intro hp (HOK.out.fin lo hp hs))
      clear KB KC FB F6 H hp hs hrd
      have hcap := own_caps (K7.get 0 rfl)
      have K8 := K7.sealRow 0 rfl
      simp only [List.set_cons_zero] at K8
      have F := K8.facts
      simp only [World.size_alloc, World.size_drew, factsL, cellsF, Nat.reduceAdd, List.toList_toArray, List.set_cons_zero, List.set_cons_succ, List.setIfInBounds_toArray, and_true, true_and] at F
      have NE := K8.nes
      simp only [World.size_alloc, nesL, neF, List.set_cons_zero, List.set_cons_succ, and_true, true_and] at NE
      have KN := ((((K8.store 3 rfl 2 (.int .i64 unx)).store 1 rfl 0 (.string xnm)).store 1 rfl 1 (.slice xA xn xc)).store 1 rfl 2 (.int .i64 unx)).store 1 rfl 3 (.slice C' (q + und) cap')
      have hmem : ∀ r ∈ lo, r ∈ l ∨ r ∈ lu ∨ r ∈ ld := fun r hr => by
        rcases List.mem_append.1 (HP.out.1.mem_iff.1 hr) with h | h
        · rcases leftW_mem h with h | h
          · exact .inl h
          · exact .inr (.inl h)
        · exact .inr (.inr h)
      have HME := hid hmem
      clear hmem
      have rV := ((KN.roOut 4 rfl).and ((KN.roOut 5 rfl).and (KN.roOut 7 rfl))).imp (S' := ValsIn lo) fun w2 h2 r hr => by
        rcases HME.out r hr with h | h | h
        · exact h2.2.2.2 r h
        · exact h2.1.2 r h
        · exact h2.2.1.2 r h
      have r0 := (KN.roOut 8 rfl).and ((KN.roOut 0 rfl).and rV)
      go_wp2_with fail
      exact bodyPost_ret (v := .tuple #[.agg #[.string xnm, .slice xA xn xc, .int .i64 unx, .slice C' (q + und) cap'], .bool true]) (by simp [results, Tryz.results66, go_sem, F, NE]) rfl
        ⟨⟨xnm, xA, xn, xc, cs, unx, C', q + und, cap', lo⟩, rfl, by simp only [Te.tb, HP.out.2], ⟨HX.out.nc, HX.out.c, hcap.1, hcap.2.1, fun r hr => by
          rcases HME.out r hr with h | h | h
          · exact HX.out.l r h
          · exact (HG.out.lu r h).1
          · exact (HG.out.ld r h).1⟩, r0, KN.below⟩
end Go.Proofs.YtedogodccblfeaaGreatDoor

namespace Go.Proofs.YtedogodccblfeaaGreatDoor
open Go.RowKit
set_option linter.unusedVariables false
set_option linter.unusedSimpArgs false

/-- the answer of undo in a slot -/
def UndSl (M : Nat → Prop) (t : Tb) (u : Value) (w : World) : Prop := ∃ y : Te, u = .tuple #[y.val, .bool true] ∧ y.tb = t ∧ y.ok ∧ Ro w M (TeIn y)
theorem undSl_mono {M : Nat → Prop} {t : Tb} (u : Value) (w w' : World) (hr : RM M w w') (h : UndSl M t u w) : UndSl M t u w' := by
  obtain ⟨y, h1, h2, h3, h4⟩ := h
  exact ⟨y, h1, h2, h3, hr.ro h4⟩
def TesSl (M : Nat → Prop) (ts : List Tb) (u : Value) (w : World) : Prop := ∃ (A : Option Addr) (n c : Nat) (l : List Te), u = .slice A n c ∧ n ≤ c ∧ c ≤ 9223372036854775807 ∧ l.map Te.tb = ts ∧ (∀ x ∈ l, x.ok) ∧ Ro w M (TesIn A n l)
theorem tesSl_mono {M : Nat → Prop} {ts : List Tb} (u : Value) (w w' : World) (hr : RM M w w') (h : TesSl M ts u w) : TesSl M ts u w' := by
  obtain ⟨A, n, c, l, h1, h2, h3, h4, h5, h6⟩ := h
  exact ⟨A, n, c, l, h1, h2, h3, h4, h5, hr.ro h6⟩
def UesSl (M : Nat → Prop) (N K : Nat) (us : List Ud) (u : Value) (w : World) : Prop := ∃ (A : Option Addr) (n c : Nat) (l : List Ue), u = .slice A n c ∧ n ≤ c ∧ c ≤ 9223372036854775807 ∧ l.map Ue.ud = us ∧ (∀ x ∈ l, x.good N K) ∧ Ro w M (UesIn A n l)
theorem uesSl_mono {M : Nat → Prop} {N K : Nat} {us : List Ud} (u : Value) (w w' : World) (hr : RM M w w') (h : UesSl M N K us u w) : UesSl M N K us u w' := by
  obtain ⟨A, n, c, l, h1, h2, h3, h4, h5, h6⟩ := h
  exact ⟨A, n, c, l, h1, h2, h3, h4, h5, hr.ro h6⟩
/-- what Rollback hands back -/
def RollRet (w : World) (M : Nat → Prop) (N K : Nat) (ts : List Tb) (us : List Ud) (e : Ending) (w' : World) : Prop := ∃ (A : Option Addr) (n c : Nat) (l : List Te) (B : Option Addr) (m d : Nat) (g : List Ue), e = .returned (.tuple #[.slice A n c, .slice B m d, .bool true]) ∧
  (n ≤ c ∧ c ≤ 9223372036854775807 ∧ l.map Te.tb = ts ∧ (∀ x ∈ l, x.ok) ∧ Ro w' M (TesIn A n l)) ∧ (m ≤ d ∧ d ≤ 9223372036854775807 ∧ g.map Ue.ud = us ∧ (∀ x ∈ g, x.good N K) ∧ Ro w' M (UesIn B m g)) ∧ Below w.heap.size w w'
set_option maxHeartbeats 16000000 in
set_option maxRecDepth 100000 in
theorem srollA (M : Nat → Prop) (w : World) (hM : ∀ b, M b → b < w.heap.size) (A : Option Addr) (n c : Nat) (l : List Te) (lb lo m d : Nat) (lg : List Ue) (to N K : Nat) (S0 : List Tb) (hn0 : 0 < n) (hn : n ≤ 1000) (hto : to ≤ m) (hm : m ≤ 1000000) (hN : N ≤ 1000000) (hK : K ≤ 4398046511104)
    (hl : Ro w M (TesIn A n l)) (hmd : m ≤ d) (hdm : d ≤ 9223372036854775807) (hlg : Ro w M (UesIn (some ⟨lb, lo, none⟩) m lg)) (hok : ∀ x ∈ l, x.ok ∧ VTab x.tb) (hg : ∀ u ∈ lg, u.good N K) (hv1 : storB (l.map Te.tb) = true) (hv2 : storB S0 = true) (hb : BackR ((lg.drop to).reverse.map Ue.ud) (l.map Te.tb) S0) :
    Calls Tryz.prog 20 #[.slice A n c, .slice (some ⟨lb, lo, none⟩) m d, .int .i64 to] w fun e w' => RollRet w M N K S0 ((lg.take to).map Ue.ud) e w' := by
  have HNK := hid hN
  have HLG := hid (And.intro hg hK)
  have HV2 := hid hv2
  have HOK := hid hok
  have HLL := hid hl.now.len
  have HLM := hid (show lg.length = m from hlg.now.len)
  have K0 := ((Hold.start M w hM).add (hlg.less (by simp [Mut]))).add (hl.less (by simp [Mut, Hp.foot]))
  have HBK := hid hb
  have g1 : decide ((to : Int) < 0) = false := by rw [decide_eq_false_iff_not]; omega
  have g2 : decide ((to : Int) > (m : Int)) = false := by rw [decide_eq_false_iff_not]; omega
  have g3 : ¬ m < to := by omega
  clear hl hlg hok hg hv2 hb
  go_enter Tryz.func20, Tryz.ntmps20
  go_wp2_with fail
  refine (stvalid_any _ _ K0.mutLt A n c l (K0.ro 0 rfl) (fun x hx => ⟨(HOK.out x hx).1, (HOK.out x hx).2.tbm⟩) (by omega)).mono ?_
  rw [hv1]
  rintro e w1 ⟨rfl, b1⟩
  have K1 := K0.call b1
  clear K0 b1 hv1
  go_wp2_with fail
  have HLI := hid (show ∀ x ∈ l, TeLim x from fun x hx => by
    obtain ⟨a, b, c⟩ := VTab.lim (HOK.out x hx).1 ((K1.ro 0 rfl).now.2 x hx) (HOK.out x hx).2
    exact ⟨by omega, by omega, fun r hr => ⟨(c r hr).1, by have := (c r hr).2; omega⟩⟩)
  refine (copiesO_any _ _ K1.mutLt A n c l HLI.out (K1.ro 0 rfl) (by omega)).mono ?_
  rintro e w2 ⟨A9, n9, c9, l9, rfl, hl9, hk9, ho9, hr9, b2⟩
  have hn9 : n9 = n := by
    have a := ho9.1; rw [teCells_len] at a
    have b := congrArg List.length hl9; rw [List.length_map, List.length_map, HLL.out] at b
    omega
  obtain rfl : n = n9 := hn9.symm
  rcases own_addr ho9 with ⟨-, h0, -⟩ | ⟨g, rfl, -⟩
  · omega
  have K2 := ((K1.callOwn b2 ho9).add (hr9.less (by intro b hb; rcases mut_cons.1 hb with h | h; exact .inr ⟨_, List.mem_singleton_self _, h⟩; exact .inl h))).drop (.cons_cons _ (.cons_cons _ (List.sublist_cons_self _ _)))
  have HO9 := hid (show BackR (((lg.drop to).take (m - to)).reverse.map Ue.ud) (l9.map Te.tb) S0 ∧ (∀ x ∈ l9, x.ok ∧ VTab x.tb) ∧ l9.length = n from by
    refine ⟨?_, fun x hx => ⟨hk9 x hx, ?_⟩, ?_⟩
    · rw [hl9, List.take_of_length_le (by rw [List.length_drop, HLM.out]; exact Nat.le_refl _)]; exact HBK.out
    · have h1 : x.tb ∈ l9.map Te.tb := List.mem_map_of_mem hx
      rw [hl9] at h1
      obtain ⟨z, hz, e⟩ := List.mem_map.1 h1
      rw [← e]; exact (HOK.out z hz).2
    · have b := congrArg List.length hl9; rw [List.length_map, List.length_map, HLL.out] at b; exact b)
  have s0 : IntKind.i64.wrap ((m : Int) - 1) = (((to + (m - to) : Nat) : Int) - 1) := by rw [IntKind.wrap_i64]; omega
  clear K1 hn9 hl9 hk9 ho9 hr9 b2 HLI
  go_wp2_with fail
  go_loopw [10] (fun iv wr => ∃ (r : Nat) (outs : List Te), to + r ≤ m ∧ iv = .int .i64 (((to + r : Nat) : Int) - 1) ∧ Hid (BackR (((lg.drop to).take r).reverse.map Ue.ud) (outs.map Te.tb) S0 ∧ (∀ x ∈ outs, x.ok ∧ VTab x.tb) ∧ outs.length = n) ∧ Hold M none w wr [.ro (TeVals outs), .own 58 4 (.slice (some ⟨g, 0, none⟩) n c9) n (teCells outs), .ro (UesIn (some ⟨lb, lo, none⟩) m lg)]) (fun iv _ => (intOf iv + 1).toNat - to)
  case atStart => exact ⟨m - to, l9, by omega, by first | rfl | exact congrArg _ s0 | (congr 1; omega), HO9, K2⟩
  case round =>
    clear K2 HO9 s0 HBK
    obtain ⟨r, outs, hr, rfl, HS, H⟩ := hrel
    rcases r with _ | r
    · skip
      have hd : decide ((to : Int) - 1 ≥ (to : Int)) = false := by rw [decide_eq_false_iff_not]; omega
      have hd5 : ¬ ((to : Int) ≤ (to : Int) - 1) := by omega
      rw [show (((to + 0 : Nat) : Int) - 1) = (to : Int) - 1 from rfl]
      have HS0 := hid (show outs.map Te.tb = S0 from HS.out.1)
      have HSO := hid HS.out.2
      have hcap := own_caps (H.get 1 rfl)
      have KS := H.sealRow 1 rfl
      simp only [List.set_cons_zero, List.set_cons_succ] at KS
      have KT := (KS.add ((KS.ro 1 rfl).and (KS.ro 0 rfl) : Ro wr _ (TesIn (some ⟨g, 0, none⟩) n outs))).drop (.cons_cons _ (.cons _ (List.sublist_cons_self _ _)))
      clear H KS HS
      go_wp2_with fail
      refine (stvalid_any _ _ KT.mutLt (some ⟨g, 0, none⟩) n c9 outs (KT.ro 0 rfl) (fun x hx => ⟨(HSO.out.1 x hx).1, (HSO.out.1 x hx).2.tbm⟩) (by omega)).mono ?_
      rw [HS0.out, HV2.out]
      rintro e w3 ⟨rfl, b3⟩
      have K5 := KT.call b3
      clear KT b3
      have HLI := hid (show ∀ x ∈ outs, TeLim x from fun x hx => by
        obtain ⟨a, b, c⟩ := VTab.lim (HSO.out.1 x hx).1 ((K5.ro 0 rfl).now.2 x hx) (HSO.out.1 x hx).2
        exact ⟨by omega, by omega, fun r hr => ⟨(c r hr).1, by have := (c r hr).2; omega⟩⟩)
      have j0 : (0 : Int) ≤ (to : Int) := by omega
      have j1 : (to : Int) ≤ (d : Int) := by omega
      go_wp2_with fail
      refine wp_region_any (by kernel_rfl) ?_
      refine wpAny_holdC 6 73 ([.ro (TesIn (some ⟨g, 0, none⟩) n outs), .ro (UesIn (some ⟨lb, lo, none⟩) m lg)]) (spL [(68, TesSl (Mut M [.ro (TesIn (some ⟨g, 0, none⟩) n outs), .ro (UesIn (some ⟨lb, lo, none⟩) m lg)]) S0), (72, UesSl (Mut M [.ro (TesIn (some ⟨g, 0, none⟩) n outs), .ro (UesIn (some ⟨lb, lo, none⟩) m lg)]) N K ((lg.take to).map Ue.ud))]) (by kernel_rfl) (by kernel_rfl) (by kernel_rfl) rfl ?_ (K5.drew) ?_
      · exact stays_cons tesSl_mono (stays_cons uesSl_mono (stays_nil _))
      simp only [List.take_succ_cons, List.take_zero, List.drop_succ_cons, List.drop_zero, Act.put, List.getElem_toArray, List.getElem_cons_zero, List.getElem_cons_succ, List.setIfInBounds_toArray, List.set_cons_succ, List.set_cons_zero]
      repeat (first | (refine dw_skip rfl rfl rfl ?_; simp only [Act.put, List.setIfInBounds_toArray, List.set_cons_succ, List.set_cons_zero]) | (refine dw_val rfl rfl rfl ?_; apply Exists.intro; refine ⟨fun wv HC => ?_, ?_⟩; (focus ( go_simp <;> rfl; done)); simp only [Act.put, List.setIfInBounds_toArray, List.set_cons_succ, List.set_cons_zero]))
      refine dw_callR 68 (TesSl (Mut M [.ro (TesIn (some ⟨g, 0, none⟩) n outs), .ro (UesIn (some ⟨lb, lo, none⟩) m lg)]) S0) (f := 65) (args := #[.slice (some ⟨g, 0, none⟩) n c9]) rfl rfl rfl rfl (fun wv => ?_) (fun wv HC hrm hD => ?_) ?_
      · go_simp <;> rfl
      · refine (copies_any _ wv HC.mutLt (some ⟨g, 0, none⟩) n c9 outs HLI.out (HC.ro 0 rfl) (by omega)).mono ?_
        rintro e w5 ⟨A5, n5, c5, l5, rfl, h1, h2, h3, h4, r5, b5⟩
        exact ⟨_, rfl, ⟨A5, n5, c5, l5, rfl, h1, h2, h3.trans HS0.out, h4, r5⟩, HC.call b5, RM.below b5⟩
      rintro u_ wx HCx ⟨A5, n5, c5, l5, rfl, -, -, -, -, -⟩
      clear HCx
      simp only [Act.put, List.setIfInBounds_toArray, List.set_cons_succ, List.set_cons_zero]
      repeat (first | (refine dw_skip rfl rfl rfl ?_; simp only [Act.put, List.setIfInBounds_toArray, List.set_cons_succ, List.set_cons_zero]) | (refine dw_val rfl rfl rfl ?_; apply Exists.intro; refine ⟨fun wv HC => ?_, ?_⟩; (focus ( go_simp <;> rfl; done)); simp only [Act.put, List.setIfInBounds_toArray, List.set_cons_succ, List.set_cons_zero]))
      refine dw_callR 72 (UesSl (Mut M [.ro (TesIn (some ⟨g, 0, none⟩) n outs), .ro (UesIn (some ⟨lb, lo, none⟩) m lg)]) N K ((lg.take to).map Ue.ud)) (f := 67) (args := #[.slice (some ⟨lb, lo, none⟩) to d]) rfl rfl rfl rfl (fun wv => ?_) (fun wv HC hrm hD => ?_) ?_
      · go_simp <;> rfl
      · refine (scopylog_any _ wv HC.mutLt (some ⟨lb, lo, none⟩) to d N K HNK.out HLG.out.2 (lg.take to) (fun x hx => HLG.out.1 x (List.mem_of_mem_take hx)) ((HC.ro 1 rfl).imp fun w2 h2 => uesIn_take h2 (by omega)) (by omega)).mono ?_
        intro e w5 h
        obtain ⟨A5, n5, c5, l5, rfl, h1, h2, h3, h4, r5, b5⟩ := h.ret HC.mutLt
        exact ⟨_, rfl, ⟨A5, n5, c5, l5, rfl, h1, h2, h3, h4, r5⟩, HC.call b5, RM.below b5⟩
      rintro u_ wx HCx ⟨A6, n6, c6, l6, rfl, -, -, -, -, -⟩
      clear HCx
      simp only [Act.put, List.setIfInBounds_toArray, List.set_cons_succ, List.set_cons_zero]
      refine rel_nil ?_
      rintro wx HX _hrm HG
      simp only [List.length_cons, List.length_nil, Nat.reduceAdd, Nat.reduceSub]
      have hu1 : TesSl (Mut M [.ro (TesIn (some ⟨g, 0, none⟩) n outs), .ro (UesIn (some ⟨lb, lo, none⟩) m lg)]) S0 (.slice A5 n5 c5) wx := (GW_on (d := 68) rfl).1 (HG 1 _ rfl (by omega))
      have hu2 : UesSl (Mut M [.ro (TesIn (some ⟨g, 0, none⟩) n outs), .ro (UesIn (some ⟨lb, lo, none⟩) m lg)]) N K ((lg.take to).map Ue.ud) (.slice A6 n6 c6) wx := (GW_on (d := 72) rfl).1 (HG 5 _ rfl (by omega))
      clear HG _hrm
      obtain ⟨A7, n7, c7, l7, e7, p1, p2, p3, p4, r7⟩ := hu1
      obtain ⟨A8, n8, c8, l8, e8, t1, t2, t3, t4, r8⟩ := hu2
      injection e7 with q1 q2 q3
      injection e8 with q4 q5 q6
      subst q1 q2 q3 q4 q5 q6
      refine wpAny_take (i := 6) (v := .slice A5 n5 c5) rfl (by kernel_rfl) (by kernel_rfl) (by kernel_rfl) (fun _ _ _ h => h) (Or.inl ⟨by rfl, fun w => ?_⟩) ?_
      · go_simp
      simp only [Act.put, List.getElem_toArray, List.getElem_cons_zero, List.getElem_cons_succ, List.setIfInBounds_toArray, List.set_cons_succ, List.set_cons_zero]
      refine wpAny_take (i := 7) (v := .slice A6 n6 c6) rfl (by kernel_rfl) (by kernel_rfl) (by kernel_rfl) (fun _ _ _ h => h) (Or.inl ⟨by rfl, fun w => ?_⟩) ?_
      · go_simp
      simp only [Act.put, List.getElem_toArray, List.getElem_cons_zero, List.getElem_cons_succ, List.setIfInBounds_toArray, List.set_cons_succ, List.set_cons_zero]
      refine wpAny_take (i := 8) (v := .bool true) rfl (by kernel_rfl) (by kernel_rfl) (by kernel_rfl) (fun _ _ _ h => h) (Or.inl ⟨by rfl, fun w => ?_⟩) ?_
      · go_simp
      simp only [Act.put, List.getElem_toArray, List.getElem_cons_zero, List.getElem_cons_succ, List.setIfInBounds_toArray, List.set_cons_succ, List.set_cons_zero]
      refine wpAny_done (by kernel_rfl) ?_ _
      have HB := HX.below
      have ra := r7.less (M' := M) fun b hb => .inl hb
      have rb := r8.less (M' := M) fun b hb => .inl hb
      go_wp2_with fail
      (try simp only [Exit.inBlock, Exit.then])
      refine bodyPost_ret (results_tmp3 rfl _ _ _) rfl ?_
      exact ⟨A5, n5, c5, l7, A6, n6, c6, l8, rfl, ⟨p1, p2, p3, p4, ra⟩, ⟨t1, t2, t3, t4, rb⟩, HB⟩
    · rw [show (((to + (r + 1) : Nat) : Int) - 1) = ((to + r : Nat) : Int) by omega]
      obtain ⟨p, hp⟩ : ∃ p, p = to + r := ⟨_, rfl⟩
      rw [← hp]
      have hd : decide ((p : Int) ≥ (to : Int)) = true := by rw [decide_eq_true_iff]; omega
      have hd3 : to ≤ p := by omega
      have hd4 : p < m := by omega
      have i0 : (0 : Int) ≤ (p : Int) := by omega
      have i1 : (p : Int) < (m : Int) := by omega
      obtain ⟨u, hu⟩ := get_of HLM.out (show p < m by omega)
      have HU := hid hu
      have hb := HS.out.1
      rw [back_next (hp ▸ hu)] at hb
      obtain ⟨k, a, b', hk, hf, hst, hbk⟩ := hb
      obtain ⟨x, hx, rfl⟩ : ∃ x, outs[k]? = some x ∧ x.tb = b' := by
        rw [List.getElem?_map] at hk
        cases h : outs[k]? with
        | none => rw [h] at hk; cases hk
        | some x => rw [h] at hk; exact ⟨x, rfl, by simpa using hk⟩
      have HXK := hid hx
      have HXO := hid (HS.out.2.1 x (List.mem_of_getElem? hx))
      have HBK := hid hbk
      have HST := hid hst
      have HO := hid HS.out.2
      have hkn : k < n := by rw [← HS.out.2.2]; exact (List.getElem?_eq_some_iff.1 hx).1
      have HXM := hid (show x.m ≤ 1000000 from by
        have := (VTab.lim HXO.out.1 ((H.ro 0 rfl).now x (List.mem_of_getElem? hx)) HXO.out.2).2.1; omega)
      have HTA := hid (show (⟨x.nm, x.cs, u.nx, a.rs⟩ : Tb) = a from by
        have h1 := hst.later.1
        have h2 := hst.later.2.1
        have h3 : u.nx = a.nx := congrArg Ud.nx hst.rec_
        cases a
        simp only [Te.tb] at h1 h2 h3 ⊢
        rw [h1, h2, h3])
      obtain ⟨lb2, lo2, hA2, hb2, d0, -⟩ := (H.ro 2 rfl).now.at_ hu
      injection hA2 with hA2
      injection hA2 with e1 e2
      subst e1 e2
      clear hu hx hbk hst hk HS
      have hr9 : to + r ≤ m := by omega
      clear hr
      have HP := hid hp
      clear hp
      go_wp2_with fail
      refine (stfind_any None_ _ (fun b hb => hb.elim) (some ⟨g, 0, none⟩) n c9 outs u.nm (show Ro wr None_ (TesIn (some ⟨g, 0, none⟩) n outs) from fun w2 a b => ⟨Rd.of_own (own_RM (M := None_) (fun b hb => hb.elim) ⟨a, b⟩ (H.get 1 rfl)), ((H.ro 0 rfl).less (fun b hb => hb.elim)) w2 a b⟩) (by omega)).mono ?_
      rw [show findS (outs.map Te.tb) u.nm = (k : Int) from hf]
      rintro e w1 ⟨rfl, b1⟩
      have K1 := H.call b1
      have hk0 : decide ((k : Int) < 0) = false := by rw [decide_eq_false_iff_not]; omega
      have k0 : (0 : Int) ≤ (k : Int) := by omega
      have k1 : (k : Int) < (n : Int) := by omega
      clear H b1 hf d0
      go_wp2_with fail
      obtain ⟨KL, hKL, KN⟩ := K1.name
      have HF : Hid (∀ wv, Hold M none w wv KL → wv.cell? ⟨g, k * 4, none⟩ = some (.string x.nm) ∧ wv.cell? ⟨g, k * 4 + 1, none⟩ = some (.slice x.A x.n x.c) ∧ wv.cell? ⟨g, k * 4 + 2, none⟩ = some (.int .i64 x.nx) ∧ wv.cell? ⟨g, k * 4 + 3, none⟩ = some (.slice x.B x.m x.d) ∧ g < wv.heap.size ∧
          wv.cell? ⟨lb, lo + p * 5, none⟩ = some (.string u.nm) ∧ wv.cell? ⟨lb, lo + p * 5 + 1, none⟩ = some (.int .i64 u.nx) ∧ wv.cell? ⟨lb, lo + p * 5 + 2, none⟩ = some (.slice u.I u.ni u.ci) ∧ wv.cell? ⟨lb, lo + p * 5 + 3, none⟩ = some (.slice u.D u.nd u.cd) ∧ wv.cell? ⟨lb, lo + p * 5 + 4, none⟩ = some (.slice u.U u.nu u.cu) ∧ lb < wv.heap.size) := hid fun wv HC => by
        rw [hKL] at HC
        have ho := HC.get 1 rfl
        obtain ⟨b1, o1, e, hb, d0, d1, d2, d3, d4, -⟩ := (HC.ro 2 rfl).now.at_ HU.out
        injection e with e
        injection e with e1 e2
        subst e1 e2
        exact ⟨(ho.cellAt _ (by omega)).trans (flat_get Te.cells 4 (fun _ => rfl) outs k 0 x (by omega) HXK.out), (ho.cellAt _ (by omega)).trans (flat_get Te.cells 4 (fun _ => rfl) outs k 1 x (by omega) HXK.out), (ho.cellAt _ (by omega)).trans (flat_get Te.cells 4 (fun _ => rfl) outs k 2 x (by omega) HXK.out), (ho.cellAt _ (by omega)).trans (flat_get Te.cells 4 (fun _ => rfl) outs k 3 x (by omega) HXK.out), (ho.lt g rfl).2, d0, d1, d2, d3, d4, hb⟩
      have HX : Hid (∀ wv, Hold M none w wv KL → Ro wv (Mut M KL) (TeIn x) ∧ Ro wv (Mut M KL) (UeIn u)) := hid fun wv HC => by
        rw [hKL] at HC ⊢
        exact ⟨(HC.ro 0 rfl).imp fun w2 h2 => h2 x (List.mem_of_getElem? HXK.out), (HC.ro 2 rfl).imp fun w2 h2 => h2.2 u (List.mem_of_getElem? HU.out)⟩
      have HKL := hid hKL
      clear hKL K1
      obtain ⟨Hb, hHb⟩ : ∃ Hb, Hb = w1.drew.heap.size := ⟨_, rfl⟩
      have HHb := hid hHb
      clear hHb
      refine wp_region_any (by kernel_rfl) ?_
      refine wpAny_holdE [11] 13 73 (KL) (spL [(55, UndSl (Mut M KL) a), (46, UndSl (Mut M KL) a), (12, NewSlot (Mut M KL) Hb 58 #[.string ⟨#[]⟩, .slice none 0 0, .int .i64 0, .slice none 0 0])]) (by kernel_rfl) (fun _ d _ _ _ h => by cases d <;> exact h) (by kernel_rfl) (by kernel_rfl) rfl ?_ (KN.drew) ?_
      · exact stays_cons undSl_mono (stays_cons undSl_mono (stays_cons newSlot_mono (stays_nil _)))
      simp only [List.take_succ_cons, List.take_zero, List.drop_succ_cons, List.drop_zero, Act.put, List.getElem_toArray, List.getElem_cons_zero, List.getElem_cons_succ, List.setIfInBounds_toArray, List.set_cons_succ, List.set_cons_zero]
      repeat (first | (refine dw_skip rfl rfl rfl ?_; simp only [Act.put, List.setIfInBounds_toArray, List.set_cons_succ, List.set_cons_zero]) | (refine dw_val rfl rfl rfl ?_; apply Exists.intro; refine ⟨fun wv HC => ?_, ?_⟩; (focus (obtain ⟨f0, f1, f2, f3, f4, d0, d1, d2, d3, d4, d5⟩ := HF.out _ HC; go_simp <;> rfl; done)); simp only [Act.put, List.setIfInBounds_toArray, List.set_cons_succ, List.set_cons_zero]))
      refine dw_callR 55 (UndSl (Mut M KL) a) (f := 66) (args := #[.agg #[.string x.nm, .slice x.A x.n x.c, .int .i64 x.nx, .slice x.B x.m x.d], .agg #[.string u.nm, .int .i64 u.nx, .slice u.I u.ni u.ci, .slice u.D u.nd u.cd, .slice u.U u.nu u.cu]]) rfl rfl rfl rfl (fun wv => ?_) (fun wv HC hrm hD => ?_) ?_
      · go_simp <;> rfl
      · refine (sundoT_any _ wv HC.mutLt x u N K a.rs HNK.out HXO.out.1 HXM.out (HLG.out.1 u (List.mem_of_getElem? HU.out)) (HX.out _ HC).1 (HX.out _ HC).2 (undOk_of HST.out)).mono ?_
        rintro e w5 ⟨y, rfl, hy, hyo, ry, b5⟩
        exact ⟨_, rfl, ⟨y, rfl, hy.trans HTA.out, hyo, ry⟩, HC.call b5, RM.below b5⟩
      rintro u_ wx HCx ⟨y, rfl, -, -, -⟩
      clear HCx
      simp only [Act.put, List.setIfInBounds_toArray, List.set_cons_succ, List.set_cons_zero]
      have hyv : y.val = .agg #[.string y.nm, .slice y.A y.n y.c, .int .i64 y.nx, .slice y.B y.m y.d] := rfl
      rw [hyv]
      clear hyv
      refine dw_valC 46 (UndSl (Mut M KL) a) rfl rfl rfl rfl (.tuple #[.agg #[.string y.nm, .slice y.A y.n y.c, .int .i64 y.nx, .slice y.B y.m y.d], .bool true]) (fun wv HC => ?_) (fun wv HC hD => ?_) ?_
      · go_simp <;> rfl
      · exact deps_at hD 8 rfl (by kernel_rfl) rfl rfl
      simp only [Act.put, List.setIfInBounds_toArray, List.set_cons_succ, List.set_cons_zero]
      refine dw_val rfl rfl rfl ?_; apply Exists.intro; refine ⟨fun wv HC => ?_, ?_⟩
      ·  go_simp <;> rfl
      simp only [Act.put, List.setIfInBounds_toArray, List.set_cons_succ, List.set_cons_zero]
      refine dw_val rfl rfl rfl ?_; apply Exists.intro; refine ⟨fun wv HC => ?_, ?_⟩
      ·  go_simp <;> rfl
      simp only [Act.put, List.setIfInBounds_toArray, List.set_cons_succ, List.set_cons_zero]
      refine dw_new #[.string ⟨#[]⟩, .slice none 0 0, .int .i64 0, .slice none 0 0] 58 12 (NewSlot (Mut M KL) Hb 58 #[.string ⟨#[]⟩, .slice none 0 0, .int .i64 0, .slice none 0 0]) (fun g => .pointer (some ⟨g, 0, none⟩)) rfl rfl rfl rfl (fun wv => ?_) (fun wv HC hrm hD hro => ?_) ?_
      · go_simp <;> rfl
      · exact ⟨_, rfl, by have := hrm.1; rw [HHb.out]; exact this, hro _ HC.mutLt⟩
      rintro gb wg HCg hsl
      simp only [Act.put, List.setIfInBounds_toArray, List.set_cons_succ, List.set_cons_zero]
      clear hsl HCg
      refine rel_nil ?_
      rintro wxb HY
      rintro _hrm HGW
      have hap : UndSl (Mut M KL) a (.tuple #[.agg #[.string y.nm, .slice y.A y.n y.c, .int .i64 y.nx, .slice y.B y.m y.d], .bool true]) wxb := (GW_on (d := 46) rfl).1 (HGW 9 _ rfl (by omega))
      have hns : NewSlot (Mut M KL) Hb 58 #[.string ⟨#[]⟩, .slice none 0 0, .int .i64 0, .slice none 0 0] (.pointer (some ⟨gb, 0, none⟩)) wxb := (GW_on (d := 12) rfl).1 (HGW 12 _ rfl (by omega))
      clear HGW
      obtain ⟨g7, hg7, hgH, hgB⟩ := hns
      obtain rfl : gb = g7 := by injection hg7 with hg7; injection hg7 with hg7; injection hg7
      clear hg7
      rw [HHb.out] at hgH
      have HB := Hold.addFreshBlk KN.drew HY _hrm hgH hgB.now
      obtain ⟨y2, e2, hy, hyo, ry⟩ := hap
      have ev : Value.agg #[.string y.nm, .slice y.A y.n y.c, .int .i64 y.nx, .slice y.B y.m y.d] = .agg #[.string y2.nm, .slice y2.A y2.n y2.c, .int .i64 y2.nx, .slice y2.B y2.m y2.d] := by
        have h := e2
        simp only [Te.val, Value.tuple.injEq, Array.mk.injEq, List.cons.injEq, and_true] at h
        exact h
      rw [ev]
      have rY : Ro wxb (Mut M (.blk gb 58 #[.string ⟨#[]⟩, .slice none 0 0, .int .i64 0, .slice none 0 0] :: KL)) (TeIn y2) := (te_apart ry (by rw [hy]; exact HST.out.va) hgB.now).less fun b hb => (mut_cons.1 hb).elim (fun hf => Or.inl (by have hf : some gb = some b := hf; injection hf with hf; exact hf.symm)) Or.inr
      have K3 := HB.add rY
      rw [HKL.out] at K3
      have HY2 := hid (And.intro hy hyo)
      clear ev e2 hy hyo ry hgB hgH HY _hrm HHb KN HF HX HKL HB rY
      have FB := K3.facts
      simp only [World.size_alloc, World.size_drew, factsL, cellsF, Nat.reduceAdd, List.toList_toArray, List.set_cons_zero, List.set_cons_succ, List.setIfInBounds_toArray, and_true, true_and] at FB
      have K4 := (((K3.store 1 rfl 0 (.string y2.nm)).store 1 rfl 1 (.slice y2.A y2.n y2.c)).store 1 rfl 2 (.int .i64 y2.nx)).store 1 rfl 3 (.slice y2.B y2.m y2.d)
      simp only [List.set_cons_zero, List.set_cons_succ, List.setIfInBounds_toArray] at K4
      obtain ⟨V9, hV9⟩ : ∃ v, v = Value.slice (some ⟨g, 0, none⟩) n c9 := ⟨_, rfl⟩
      rw [← hV9]
      have HV9 := hid hV9
      clear hV9
      go_wp2_with fail
      rw [HV9.out]
      clear HV9 FB
      generalize World.setCell _ _ _ = w12 at K4 ⊢
      have FC := K4.facts
      simp only [World.size_alloc, World.size_drew, factsL, cellsF, Nat.reduceAdd, List.toList_toArray, List.set_cons_zero, List.set_cons_succ, List.setIfInBounds_toArray, and_true, true_and] at FC
      have ho := K4.get 3 rfl
      have q0 : _ = some (Value.string x.nm) := (ho.cellAt (k * 4) (by omega)).trans (flat_get Te.cells 4 (fun _ => rfl) outs k 0 x (by omega) HXK.out)
      have q1 : _ = some (Value.slice x.A x.n x.c) := (ho.cellAt (k * 4 + 1) (by omega)).trans (flat_get Te.cells 4 (fun _ => rfl) outs k 1 x (by omega) HXK.out)
      have q2 : _ = some (Value.int .i64 x.nx) := (ho.cellAt (k * 4 + 2) (by omega)).trans (flat_get Te.cells 4 (fun _ => rfl) outs k 2 x (by omega) HXK.out)
      have q3 : _ = some (Value.slice x.B x.m x.d) := (ho.cellAt (k * 4 + 3) (by omega)).trans (flat_get Te.cells 4 (fun _ => rfl) outs k 3 x (by omega) HXK.out)
      have z0 := ho.frozenAt (k * 4)
      have z1 := ho.frozenAt (k * 4 + 1)
      have z2 := ho.frozenAt (k * 4 + 2)
      have z3 := ho.frozenAt (k * 4 + 3)
      have gl := (ho.lt g rfl).2
      have gne := K4.apart_ 1 3 rfl rfl (by omega) rfl rfl
      clear ho
      have KA1 := K4.put_ 3 rfl (k * 4) (.string y2.nm)
      have KA2 := KA1.put_ 3 rfl (k * 4 + 1) (.slice y2.A y2.n y2.c)
      have KA3 := KA2.put_ 3 rfl (k * 4 + 2) (.int .i64 y2.nx)
      have K5 := KA3.put_ 3 rfl (k * 4 + 3) (.slice y2.B y2.m y2.d)
      simp only [List.set_cons_zero, List.set_cons_succ, List.setIfInBounds_toArray] at KA1
      simp only [List.set_cons_zero, List.set_cons_succ, List.setIfInBounds_toArray] at KA2
      simp only [List.set_cons_zero, List.set_cons_succ, List.setIfInBounds_toArray] at KA3
      simp only [List.set_cons_zero, List.set_cons_succ, List.setIfInBounds_toArray] at K5
      have e1 : _ = some (Value.slice x.A x.n x.c) := ((KA1.get 3 rfl).cellAt (k * 4 + 1) (by omega)).trans ((List.getElem?_set_ne (by omega)).trans (flat_get Te.cells 4 (fun _ => rfl) outs k 1 x (by omega) HXK.out))
      have e2 : _ = some (Value.int .i64 x.nx) := ((KA2.get 3 rfl).cellAt (k * 4 + 2) (by omega)).trans ((List.getElem?_set_ne (by omega)).trans ((List.getElem?_set_ne (by omega)).trans (flat_get Te.cells 4 (fun _ => rfl) outs k 2 x (by omega) HXK.out)))
      have e3 : _ = some (Value.slice x.B x.m x.d) := ((KA3.get 3 rfl).cellAt (k * 4 + 3) (by omega)).trans ((List.getElem?_set_ne (by omega)).trans ((List.getElem?_set_ne (by omega)).trans ((List.getElem?_set_ne (by omega)).trans (flat_get Te.cells 4 (fun _ => rfl) outs k 3 x (by omega) HXK.out))))
      have y1 := (KA1.get 3 rfl).frozenAt (k * 4 + 1)
      have y2_ := (KA2.get 3 rfl).frozenAt (k * 4 + 2)
      have y3 := (KA3.get 3 rfl).frozenAt (k * 4 + 3)
      clear KA1 KA2 KA3
      rw [teCells_set y2 HXK.out] at K5
      have K6 := (K5.swapRo 2 rfl (teVals_set (k := k) (K5.ro 2 rfl) (K5.ro 0 rfl))).drop (.cons _ (List.sublist_cons_self _ _))
      simp only [List.set_cons_zero, List.set_cons_succ, List.setIfInBounds_toArray] at K6
      go_wp2_with fail
      iterate 4 (try simp only [Result.andThen_ok, e1, y1, e2, y2_, e3, y3, Bool.false_eq_true, if_false])
      go_wp2_with fail
      go_roundw
      case rel => exact ⟨r, outs.set k y2, by omega, by (rw [← HP.out] <;> first | rfl | go_num), hid ⟨by rw [List.map_set, HY2.out.1]; exact HBK.out, fun z hz => by
        rcases List.mem_or_eq_of_mem_set hz with hz | rfl
        · exact HO.out.1 z hz
        · exact ⟨HY2.out.2, by rw [HY2.out.1]; exact HST.out.va⟩, by rw [List.length_set]; exact HO.out.2⟩, K6⟩
      case measure => (have hp3 := HP.out; simp [intOf]; omega)
end Go.Proofs.YtedogodccblfeaaGreatDoor

namespace Go.Proofs.YtedogodccblfeaaGreatDoor
open Go.RowKit
set_option linter.unusedVariables false
set_option linter.unusedSimpArgs false

set_option maxHeartbeats 16000000 in
set_option maxRecDepth 100000 in
theorem srollN (M : Nat → Prop) (w : World) (hM : ∀ b, M b → b < w.heap.size) (A : Option Addr) (n c : Nat) (l : List Te) (N K : Nat) (hn0 : 0 < n) (hn : n ≤ 1000) (hN : N ≤ 1000000) (hK : K ≤ 4398046511104)
    (hl : Ro w M (TesIn A n l)) (hok : ∀ x ∈ l, x.ok ∧ VTab x.tb) (hv1 : storB (l.map Te.tb) = true) :
    Calls Tryz.prog 20 #[.slice A n c, .slice none 0 0, .int .i64 0] w fun e w' => RollRet w M N K (l.map Te.tb) (([] : List Ue).map Ue.ud) e w' := by
  have HNK := hid hN
  have HKK := hid hK
  have HV2 := hid hv1
  have HOK := hid hok
  have HLL := hid hl.now.len
  have K0 := (Hold.start M w hM).add (hl.less (by simp [Mut]))
  clear hl hok
  obtain ⟨S0, hS0⟩ : ∃ S0, S0 = l.map Te.tb := ⟨_, rfl⟩
  rw [← hS0] at hv1 ⊢
  have HSL := hid hS0
  go_enter Tryz.func20, Tryz.ntmps20
  go_wp2_with fail
  refine (stvalid_any _ _ K0.mutLt A n c l (K0.ro 0 rfl) (fun x hx => ⟨(HOK.out x hx).1, (HOK.out x hx).2.tbm⟩) (by omega)).mono ?_
  rw [← hS0, hv1]
  rintro e w1 ⟨rfl, b1⟩
  have K1 := K0.call b1
  clear K0 b1 hv1 hS0
  go_wp2_with fail
  have HLI := hid (show ∀ x ∈ l, TeLim x from fun x hx => by
    obtain ⟨a, b, c⟩ := VTab.lim (HOK.out x hx).1 ((K1.ro 0 rfl).now.2 x hx) (HOK.out x hx).2
    exact ⟨by omega, by omega, fun r hr => ⟨(c r hr).1, by have := (c r hr).2; omega⟩⟩)
  refine (copiesO_any _ _ K1.mutLt A n c l HLI.out (K1.ro 0 rfl) (by omega)).mono ?_
  rintro e w2 ⟨A9, n9, c9, l9, rfl, hl9, hk9, ho9, hr9, b2⟩
  have hn9 : n9 = n := by
    have a := ho9.1; rw [teCells_len] at a
    have b := congrArg List.length hl9; rw [List.length_map, List.length_map, HLL.out] at b
    omega
  obtain rfl : n = n9 := hn9.symm
  rcases own_addr ho9 with ⟨-, h0, -⟩ | ⟨g, rfl, -⟩
  · omega
  have hcap := own_caps ho9
  have K2 := ((K1.callOwn b2 ho9).add (hr9.less (by intro b hb; rcases mut_cons.1 hb with h | h; exact .inr ⟨_, List.mem_singleton_self _, h⟩; exact .inl h))).drop (.cons_cons _ (.cons_cons _ (.cons _ (List.Sublist.refl _))))
  have HS0 := hid (show l9.map Te.tb = S0 from hl9.trans HSL.out.symm)
  have HSO := hid (show (∀ x ∈ l9, x.ok ∧ VTab x.tb) from fun x hx => ⟨hk9 x hx, by
    have h1 : x.tb ∈ l9.map Te.tb := List.mem_map_of_mem hx
    rw [hl9] at h1
    obtain ⟨z, hz, e⟩ := List.mem_map.1 h1
    rw [← e]; exact (HOK.out z hz).2⟩)
  have KS := K2.sealRow 1 rfl
  simp only [List.set_cons_zero, List.set_cons_succ] at KS
  have KT := (KS.add ((KS.ro 1 rfl).and (KS.ro 0 rfl) : Ro w2 _ (TesIn (some ⟨g, 0, none⟩) n l9))).drop (.cons_cons _ (.cons _ (.cons _ (List.Sublist.refl _))))
  clear K1 K2 KS hn9 hl9 hk9 ho9 hr9 b2 HLI
  go_wp2_with fail
  go_loopw [10] (fun iv wr => iv = .int .i64 (-1) ∧ Hold M none w wr [.ro (TesIn (some ⟨g, 0, none⟩) n l9)]) (fun _ _ => 0)
  case atStart => exact ⟨by first | rfl | simp, KT⟩
  case round =>
    clear KT
    obtain ⟨rfl, H⟩ := hrel
    have hd : decide ((-1 : Int) ≥ 0) = false := by decide
    go_wp2_with fail
    refine (stvalid_any _ _ H.mutLt (some ⟨g, 0, none⟩) n c9 l9 (H.ro 0 rfl) (fun x hx => ⟨(HSO.out x hx).1, (HSO.out x hx).2.tbm⟩) (by omega)).mono ?_
    rw [HS0.out, HSL.out, HV2.out]
    rintro e w3 ⟨rfl, b3⟩
    have K5 := H.call b3
    clear H b3
    have HLI := hid (show ∀ x ∈ l9, TeLim x from fun x hx => by
      obtain ⟨a, b, c⟩ := VTab.lim (HSO.out x hx).1 ((K5.ro 0 rfl).now.2 x hx) (HSO.out x hx).2
      exact ⟨by omega, by omega, fun r hr => ⟨(c r hr).1, by have := (c r hr).2; omega⟩⟩)
    go_wp2_with fail
    refine wp_region_any (by kernel_rfl) ?_
    refine wpAny_holdC 6 73 ([.ro (TesIn (some ⟨g, 0, none⟩) n l9)]) (spL [(68, TesSl (Mut M [.ro (TesIn (some ⟨g, 0, none⟩) n l9)]) S0), (72, UesSl (Mut M [.ro (TesIn (some ⟨g, 0, none⟩) n l9)]) N K (([] : List Ue).map Ue.ud))]) (by kernel_rfl) (by kernel_rfl) (by kernel_rfl) rfl ?_ (K5.drew) ?_
    · exact stays_cons tesSl_mono (stays_cons uesSl_mono (stays_nil _))
    simp only [List.take_succ_cons, List.take_zero, List.drop_succ_cons, List.drop_zero, Act.put, List.getElem_toArray, List.getElem_cons_zero, List.getElem_cons_succ, List.setIfInBounds_toArray, List.set_cons_succ, List.set_cons_zero]
    repeat (first | (refine dw_skip rfl rfl rfl ?_; simp only [Act.put, List.setIfInBounds_toArray, List.set_cons_succ, List.set_cons_zero]) | (refine dw_val rfl rfl rfl ?_; apply Exists.intro; refine ⟨fun wv HC => ?_, ?_⟩; (focus ( go_simp <;> rfl; done)); simp only [Act.put, List.setIfInBounds_toArray, List.set_cons_succ, List.set_cons_zero]))
    refine dw_callR 68 (TesSl (Mut M [.ro (TesIn (some ⟨g, 0, none⟩) n l9)]) S0) (f := 65) (args := #[.slice (some ⟨g, 0, none⟩) n c9]) rfl rfl rfl rfl (fun wv => ?_) (fun wv HC hrm hD => ?_) ?_
    · go_simp <;> rfl
    · refine (copies_any _ wv HC.mutLt (some ⟨g, 0, none⟩) n c9 l9 HLI.out (HC.ro 0 rfl) (by omega)).mono ?_
      rintro e w5 ⟨A5, n5, c5, l5, rfl, h1, h2, h3, h4, r5, b5⟩
      exact ⟨_, rfl, ⟨A5, n5, c5, l5, rfl, h1, h2, h3.trans HS0.out, h4, r5⟩, HC.call b5, RM.below b5⟩
    rintro u_ wx HCx ⟨A5, n5, c5, l5, rfl, -, -, -, -, -⟩
    clear HCx
    simp only [Act.put, List.setIfInBounds_toArray, List.set_cons_succ, List.set_cons_zero]
    repeat (first | (refine dw_skip rfl rfl rfl ?_; simp only [Act.put, List.setIfInBounds_toArray, List.set_cons_succ, List.set_cons_zero]) | (refine dw_val rfl rfl rfl ?_; apply Exists.intro; refine ⟨fun wv HC => ?_, ?_⟩; (focus ( go_simp <;> rfl; done)); simp only [Act.put, List.setIfInBounds_toArray, List.set_cons_succ, List.set_cons_zero]))
    refine dw_callR 72 (UesSl (Mut M [.ro (TesIn (some ⟨g, 0, none⟩) n l9)]) N K (([] : List Ue).map Ue.ud)) (f := 67) (args := #[.slice none 0 0]) rfl rfl rfl rfl (fun wv => ?_) (fun wv HC hrm hD => ?_) ?_
    · go_simp <;> rfl
    · refine (scopylog_any _ wv HC.mutLt none 0 0 N K HNK.out HKK.out [] (fun x hx => nomatch hx) (fun w2 _ _ => ⟨⟨by simp [ueCells], fun h => absurd h (by omega)⟩, fun x hx => nomatch hx⟩) (by omega)).mono ?_
      intro e w5 h
      obtain ⟨A5, n5, c5, l5, rfl, h1, h2, h3, h4, r5, b5⟩ := h.ret HC.mutLt
      exact ⟨_, rfl, ⟨A5, n5, c5, l5, rfl, h1, h2, h3, h4, r5⟩, HC.call b5, RM.below b5⟩
    rintro u_ wx HCx ⟨A6, n6, c6, l6, rfl, -, -, -, -, -⟩
    clear HCx
    simp only [Act.put, List.setIfInBounds_toArray, List.set_cons_succ, List.set_cons_zero]
    refine rel_nil ?_
    rintro wx HX _hrm HG
    simp only [List.length_cons, List.length_nil, Nat.reduceAdd, Nat.reduceSub]
    have hu1 : TesSl (Mut M [.ro (TesIn (some ⟨g, 0, none⟩) n l9)]) S0 (.slice A5 n5 c5) wx := (GW_on (d := 68) rfl).1 (HG 1 _ rfl (by omega))
    have hu2 : UesSl (Mut M [.ro (TesIn (some ⟨g, 0, none⟩) n l9)]) N K (([] : List Ue).map Ue.ud) (.slice A6 n6 c6) wx := (GW_on (d := 72) rfl).1 (HG 5 _ rfl (by omega))
    clear HG _hrm
    obtain ⟨A7, n7, c7, l7, e7, p1, p2, p3, p4, r7⟩ := hu1
    obtain ⟨A8, n8, c8, l8, e8, t1, t2, t3, t4, r8⟩ := hu2
    injection e7 with q1 q2 q3
    injection e8 with q4 q5 q6
    subst q1 q2 q3 q4 q5 q6
    refine wpAny_take (i := 6) (v := .slice A5 n5 c5) rfl (by kernel_rfl) (by kernel_rfl) (by kernel_rfl) (fun _ _ _ h => h) (Or.inl ⟨by rfl, fun w => ?_⟩) ?_
    · go_simp
    simp only [Act.put, List.getElem_toArray, List.getElem_cons_zero, List.getElem_cons_succ, List.setIfInBounds_toArray, List.set_cons_succ, List.set_cons_zero]
    refine wpAny_take (i := 7) (v := .slice A6 n6 c6) rfl (by kernel_rfl) (by kernel_rfl) (by kernel_rfl) (fun _ _ _ h => h) (Or.inl ⟨by rfl, fun w => ?_⟩) ?_
    · go_simp
    simp only [Act.put, List.getElem_toArray, List.getElem_cons_zero, List.getElem_cons_succ, List.setIfInBounds_toArray, List.set_cons_succ, List.set_cons_zero]
    refine wpAny_take (i := 8) (v := .bool true) rfl (by kernel_rfl) (by kernel_rfl) (by kernel_rfl) (fun _ _ _ h => h) (Or.inl ⟨by rfl, fun w => ?_⟩) ?_
    · go_simp
    simp only [Act.put, List.getElem_toArray, List.getElem_cons_zero, List.getElem_cons_succ, List.setIfInBounds_toArray, List.set_cons_succ, List.set_cons_zero]
    refine wpAny_done (by kernel_rfl) ?_ _
    have HB := HX.below
    have ra := r7.less (M' := M) fun b hb => .inl hb
    have rb := r8.less (M' := M) fun b hb => .inl hb
    go_wp2_with fail
    (try simp only [Exit.inBlock, Exit.then])
    refine bodyPost_ret (results_tmp3 rfl _ _ _) rfl ?_
    exact ⟨A5, n5, c5, l7, A6, n6, c6, l8, rfl, ⟨p1, p2, p3, p4, ra⟩, ⟨t1, t2, t3, t4, rb⟩, HB⟩
end Go.Proofs.YtedogodccblfeaaGreatDoor

namespace Go.Proofs.YtedogodccblfeaaGreatDoor
open Go.RowKit
set_option linter.unusedVariables false
set_option linter.unusedSimpArgs false

end Go.Proofs.YtedogodccblfeaaGreatDoor

namespace Go.Proofs.YtedogodccblfeaaGreatDoor
open Go.RowKit
set_option linter.unusedVariables false
set_option linter.unusedSimpArgs false

def k9a : Tb := ⟨nmLog, logCols, 1, []⟩
def k9b : Tb := ⟨nmLog, logCols, 2, [(1, [vNil, vNil])]⟩
def k9d : Dl := ⟨nmLog, [(1, [vNil, vNil])], [], []⟩
theorem k9_bet : betweenC k9a k9b = (true, k9d) := by kernel_rfl
theorem k9_stoa : storB [k9a] = true := by kernel_rfl
theorem k9_stob : storB [k9b] = true := by kernel_rfl
theorem k9_taba : tabB k9a.nm k9a.cs k9a.nx k9a.rs = true := by kernel_rfl
theorem k9_tabb : tabB k9b.nm k9b.cs k9b.nx k9b.rs = true := by kernel_rfl
theorem k9_rec : udOf k9a.nx k9d = recD k9a k9b := by kernel_rfl
theorem k9_later : LaterOk k9a k9b := ⟨rfl, rfl, by decide, fun r hr => by
  simp [k9b] at hr; subst hr; exact .inr (by decide)⟩
theorem k9_sch : schOkB nmLog logCols = true := by decide +kernel
theorem k9_va : VTab k9a := ⟨schOk_of k9_sch, k9_taba⟩
theorem k9_vb : VTab k9b := ⟨schOk_of k9_sch, k9_tabb⟩
theorem k9_step : StepU (udOf k9a.nx k9d) k9a k9b := ⟨k9_rec, k9_va, k9_vb, k9_later, by decide⟩
theorem k9_find : findT [k9b] nmLog = ((0 : Nat) : Int) := by kernel_rfl
theorem k9_back : BackR [udOf k9a.nx k9d] [k9b] [k9a] := ⟨0, k9a, k9b, rfl, k9_find, k9_step, rfl⟩
end Go.Proofs.YtedogodccblfeaaGreatDoor

namespace Go.Proofs.YtedogodccblfeaaGreatDoor
open Go.RowKit
set_option linter.unusedVariables false
set_option linter.unusedSimpArgs false

theorem teIn_of {w : World} {M : Nat → Prop} {A : Option Addr} {n : Nat} {cs : List Col} {B : Option Addr} {m : Nat} {l : List Rw} (nm : ByteArray) (c : Nat) (nx : Int) (d : Nat) (h : Ro w M (ColsIn A n cs)) (k : Ro w M (RwsIn B m l)) : Ro w M (TeIn ⟨nm, A, n, c, cs, nx, B, m, d, l⟩) := h.and k
theorem k9_findS (lc : List Col) : findS [⟨nmLog, lc, 1, []⟩] ⟨#[108, 111, 103]⟩ = 0 := by
  have e : nmLog = ⟨#[108, 111, 103]⟩ := by rfl
  rw [e]; unfold findS findB; rw [findFrom, if_pos (by simp)]; rfl
set_option maxHeartbeats 8000000 in
set_option maxRecDepth 100000 in
theorem known9 : Gives 23 #[] (.bool true) := by
  intro w
  have K0 := Hold.begin_ w
  go_enter Tryz.func23, Tryz.ntmps23
  go_wp2_with fail
  refine (schema_log _ _ K0.mutLt).mono ?_
  rintro e w1 ⟨A, n, c, rfl, h1, h2, r1, b1⟩
  have K1 := (K0.call b1).add r1
  clear K0 r1 b1
  have HBT := hid k9_bet
  have HST := hid k9_step
  have HBK := hid k9_back
  have HSA := hid k9_stoa
  have HSB := hid k9_stob
  have HVA := hid k9_va
  have HVB := hid k9_vb
  unfold k9a k9b at *
  generalize hU : nmLog = nl at *
  generalize hC : logCols = lc at *
  have HU := hid hU
  have HC := hid hC
  clear hU hC
  have hn2 : lc.length = n := cols_n (K1.ro 0 rfl).now
  have K2 := ((((K1.alloc_cst #[.string nl, .slice A n c] 49).alloc_cst #[.string nl, .slice A n c, .int .i64 1, .slice none 0 0] 58).alloc_cst #[.int .i64 0, .int .i64 0, .string ⟨#[]⟩, .int .i64 0, .int .i64 0, .string ⟨#[]⟩] 117).alloc_cst #[.int .i64 1, .slice (some ⟨w1.heap.size + 1 + 1, 0, none⟩) 2 2] 119).alloc_cst #[.string nl, .slice A n c, .int .i64 2, .slice (some ⟨w1.heap.size + 1 + 1 + 1, 0, none⟩) 1 1] 58
  simp only [World.size_alloc] at K2
  have F2 := K2.facts
  simp only [World.size_alloc, World.size_drew, factsL, cellsF, Nat.reduceAdd, List.toList_toArray, List.set_cons_zero, List.set_cons_succ, List.setIfInBounds_toArray, and_true, true_and] at F2
  go_wp2_with fail
  obtain ⟨g0, hg0⟩ : ∃ g, g = w1.heap.size := ⟨_, rfl⟩
  rw [← hg0] at K2 ⊢
  have HG0 := hid hg0
  clear hg0
  have q1 : Ro _ _ (VlsIn (some ⟨g0 + 1 + 1, 0, none⟩) 2 [vNil, vNil]) := ro_block (t := 117) (cs := #[.int .i64 0, .int .i64 0, .string ⟨#[]⟩, .int .i64 0, .int .i64 0, .string ⟨#[]⟩]) (K2.get 2 rfl) rfl
  have q2 : Ro _ _ (SlR 2 (some ⟨g0 + 1 + 1 + 1, 0, none⟩) 1 (rwCells [⟨1, some ⟨g0 + 1 + 1, 0, none⟩, 2, 2, [vNil, vNil]⟩])) := ro_block (t := 119) (cs := #[.int .i64 1, .slice (some ⟨g0 + 1 + 1, 0, none⟩) 2 2]) (K2.get 1 rfl) rfl
  have q3 : Ro _ _ (RwsIn (some ⟨g0 + 1 + 1 + 1, 0, none⟩) 1 [⟨1, some ⟨g0 + 1 + 1, 0, none⟩, 2, 2, [vNil, vNil]⟩]) := q2.and (fun w2 h1 h2 r hr => by
    simp only [List.mem_cons, List.not_mem_nil, or_false] at hr
    subst hr
    exact q1 w2 h1 h2)
  have tb : Ro _ _ (TeIn ⟨nl, A, n, c, lc, 2, some ⟨g0 + 1 + 1 + 1, 0, none⟩, 1, 1, [⟨1, some ⟨g0 + 1 + 1, 0, none⟩, 2, 2, [vNil, vNil]⟩]⟩) := teIn_of nl c 2 1 (K2.ro 5 rfl) q3
  have ta : Ro _ _ (TeIn ⟨nl, A, n, c, lc, 1, none, 0, 0, []⟩) := teIn_of nl c 1 0 (K2.ro 5 rfl) (fun _ _ _ => ⟨Rd.none_, fun r hr => nomatch hr⟩)
  have oa : Te.ok ⟨nl, A, n, c, lc, 1, none, 0, 0, []⟩ := ⟨h1, by show c ≤ _; omega, Nat.le_refl _, by show (0 : Nat) ≤ _; omega, fun r hr => nomatch hr⟩
  have ob : Te.ok ⟨nl, A, n, c, lc, 2, some ⟨g0 + 1 + 1 + 1, 0, none⟩, 1, 1, [⟨1, some ⟨g0 + 1 + 1, 0, none⟩, 2, 2, [vNil, vNil]⟩]⟩ := ⟨h1, by show c ≤ _; omega, Nat.le_refl _, by show (1 : Nat) ≤ _; omega, fun r hr => by
    simp only [List.mem_cons, List.not_mem_nil, or_false] at hr
    subst hr
    exact ⟨by show I64 1; unfold I64; omega, by simp, by simp, fun v hv => by
      simp only [List.mem_cons, List.not_mem_nil, or_false] at hv
      rcases hv with rfl | rfl <;> exact vNil_ok⟩⟩
  have HOA := hid oa
  have HOB := hid ob
  have K3 := (K2.add tb).add (ta.less (by simp [Mut, Hp.foot]))
  refine (record_any _ _ K3.mutLt none 0 0 10 10 [] ⟨nl, A, n, c, lc, 1, none, 0, 0, []⟩ ⟨nl, A, n, c, lc, 2, some ⟨g0 + 1 + 1 + 1, 0, none⟩, 1, 1, [⟨1, some ⟨g0 + 1 + 1, 0, none⟩, 2, 2, [vNil, vNil]⟩]⟩ k9d oa ob (K3.ro 0 rfl) (K3.ro 1 rfl) HVA.out.tbm HVB.out.tbm (fun _ _ _ => ⟨Rd.none_, fun r hr => nomatch hr⟩) (fun u hu => nomatch hu) (by omega) (by omega) (by omega) HBT.out (by decide) (by decide) (by decide) (by decide) (by decide) (by decide)).mono ?_
  rintro e w2 ⟨A5, n5, c5, l5, rfl, h3, h4, h5, h6, r5, b2⟩
  have K4 := (K3.call b2).add r5
  have HL5 := hid h5
  have HG5 := hid h6
  have hn5 : n5 = 1 := by have a := r5.now.len; have b := congrArg List.length h5; rw [List.length_map] at b; simp at b; omega
  subst hn5
  have hx5 : ∃ u, l5[0]? = some u := get_of r5.now.len (by omega)
  obtain ⟨u5, hu5⟩ := hx5
  obtain ⟨b5, o5, rfl, -⟩ := r5.now.at_ hu5
  clear K2 K3 q1 q2 q3 tb ta oa ob F2 h5 h6 r5 b2 hu5
  have F4 := K4.facts
  simp only [World.size_alloc, World.size_drew, factsL, cellsF, Nat.reduceAdd, List.toList_toArray, List.set_cons_zero, List.set_cons_succ, List.setIfInBounds_toArray, and_true, true_and] at F4
  go_wp2_with fail
  have K5 := K4.alloc_cst #[.string nl, .slice A n c, .int .i64 2, .slice (some ⟨g0 + 1 + 1 + 1, 0, none⟩) 1 1] 58
  have rb : Ro _ _ (TesIn (some ⟨w2.heap.size, 0, none⟩) [(⟨nl, A, n, c, lc, 2, some ⟨g0 + 1 + 1 + 1, 0, none⟩, 1, 1, [⟨1, some ⟨g0 + 1 + 1, 0, none⟩, 2, 2, [vNil, vNil]⟩]⟩ : Te)].length _) := tes_block (K5.get 0 rfl) rfl (fun x hx => by simp only [List.mem_singleton] at hx; subst hx; exact K5.ro 3 rfl)
  refine (srollA _ _ K5.mutLt (some ⟨w2.heap.size, 0, none⟩) 1 1 [⟨nl, A, n, c, lc, 2, some ⟨g0 + 1 + 1 + 1, 0, none⟩, 1, 1, [⟨1, some ⟨g0 + 1 + 1, 0, none⟩, 2, 2, [vNil, vNil]⟩]⟩] b5 o5 1 c5 l5 0 10 10 [⟨nl, lc, 1, []⟩] (by omega) (by omega) (by omega) (by omega) (by omega) (by omega) rb h3 h4 (K5.ro 1 rfl) (fun x hx => by simp only [List.mem_singleton] at hx; subst hx; exact ⟨HOB.out, HVB.out⟩) HG5.out HSB.out HSA.out (by rw [List.drop_zero, List.map_reverse, HL5.out]; exact HBK.out)).mono ?_
  rintro e w3 ⟨A6, n6, c6, l6, B6, m6, d6, g6, rfl, ⟨p1, p2, p3, p4, p5⟩, ⟨q1, q2, q3, q4, q5⟩, b3⟩
  have K6 := (K5.call b3).add p5
  have HL6 := hid p3
  have HO6 := hid p4
  have hm6 : m6 = 0 := by have a := q5.now.len; have b := congrArg List.length q3; simp only [List.length_map, List.length_take, Nat.zero_min] at b; omega
  subst hm6
  clear K4 K5 rb p3 p4 p5 q3 q4 q5 b3 F4
  have F6 := K6.facts
  simp only [World.size_alloc, World.size_drew, factsL, cellsF, Nat.reduceAdd, List.toList_toArray, List.set_cons_zero, List.set_cons_succ, List.setIfInBounds_toArray, and_true, true_and] at F6
  go_wp2_with fail
  have K7 := K6.alloc_cst #[.string nl, .slice A n c, .int .i64 1, .slice none 0 0] 58
  have ra : Ro _ _ (TesIn (some ⟨w3.heap.size, 0, none⟩) [(⟨nl, A, n, c, lc, 1, none, 0, 0, []⟩ : Te)].length _) := tes_block (K7.get 0 rfl) rfl (fun x hx => by simp only [List.mem_singleton] at hx; subst hx; exact K7.ro 4 rfl)
  have hn6 : n6 = 1 := by have a := (K7.ro 1 rfl).now.len; have b := congrArg List.length HL6.out; rw [List.length_map] at b; simp at b; omega
  subst hn6
  have hv6 : ∀ x ∈ l6, VTab x.tb := fun x hx => by
    have h := List.mem_map_of_mem (f := Te.tb) hx
    rw [HL6.out, List.mem_singleton] at h
    rw [h]; exact HVA.out
  have hl6 : ∀ r ∈ l6, r.n ≤ 4398046511104 ∧ r.m ≤ 4398046511104 ∧ ∀ q ∈ r.l, q.n ≤ 4398046511104 := fun r hr => by
    obtain ⟨a, b, c⟩ := VTab.lim (HO6.out r hr) ((K7.ro 1 rfl).now.2 r hr) (hv6 r hr)
    exact ⟨by omega, by omega, fun q hq => by have := (c q hq).2; omega⟩
  refine (sameTables_any _ _ K7.mutLt A6 1 c6 l6 (some ⟨w3.heap.size, 0, none⟩) 1 1 [⟨nl, A, n, c, lc, 1, none, 0, 0, []⟩] (K7.ro 1 rfl) ra (by omega) hl6 (fun r hr => by simp only [List.mem_singleton] at hr; subst hr; exact ⟨by show n ≤ _; omega, by show (0 : Nat) ≤ _; omega, fun q hq => nomatch hq⟩)).mono ?_
  rw [show decide (l6.map Te.tb = [(⟨nl, A, n, c, lc, 1, none, 0, 0, []⟩ : Te)].map Te.tb) = true from by rw [HL6.out]; simp [Te.tb]]
  rintro e w4 ⟨rfl, b4⟩
  have K8 := K7.call b4
  have HF := hid (show findS (l6.map Te.tb) ⟨#[108, 111, 103]⟩ = 0 from by rw [HL6.out, ← HU.out]; exact k9_findS lc)
  clear K6 K7 ra hv6 hl6 b4 F6
  go_wp2_with fail
  refine (stfind_any _ _ K8.mutLt A6 1 c6 l6 ⟨#[108, 111, 103]⟩ (K8.ro 1 rfl) (by omega)).mono ?_
  rw [HF.out]
  rintro e w5 ⟨rfl, b5_⟩
  have K9 := K8.call b5_
  clear K8 b5_
  go_wp2_with fail
  go_ret
  exact ⟨rfl, K9.below⟩
end Go.Proofs.YtedogodccblfeaaGreatDoor

namespace Go.Proofs.YtedogodccblfeaaGreatDoor
open Go.RowKit
set_option linter.unusedVariables false
set_option linter.unusedSimpArgs false

/-- a store in memory, and a log -/
structure Sv where
  A : Option Addr
  c : Nat
  l : List Te
structure Lv where
  B : Option Addr
  m : Nat
  d : Nat
  g : List Ue
def Sv.val (s : Sv) : Value := .slice s.A 3 s.c
def Lv.val (g : Lv) : Value := .slice g.B g.m g.d
def Sv.tb (s : Sv) : List Tb := s.l.map Te.tb
def Lv.ud (g : Lv) : List Ud := g.g.map Ue.ud
def SvIn (s : Sv) (w : World) : Prop := TesIn s.A 3 s.l w
def LvIn (g : Lv) (w : World) : Prop := UesIn g.B g.m g.g w
def SvsIn (ss : List Sv) (w : World) : Prop := ∀ s ∈ ss, SvIn s w
def LvsIn (gs : List Lv) (w : World) : Prop := ∀ g ∈ gs, LvIn g w
structure Sv.ok (s : Sv) : Prop where
  c3 : 3 ≤ s.c
  c : s.c ≤ 9223372036854775807
  l : ∀ x ∈ s.l, x.ok
structure Lv.ok (g : Lv) : Prop where
  md : g.m ≤ g.d
  d : g.d ≤ 9223372036854775807
  gd : ∀ u ∈ g.g, u.good 25 4
  at_ : LogAt g.B g.m g.d
structure Hst (i : Nat) (ss : List Sv) (gs : List Lv) : Prop where
  h : Hist i (ss.map Sv.tb) (gs.map Lv.ud)
  s : ∀ s ∈ ss, s.ok
  g : ∀ g ∈ gs, g.ok
theorem Hst.lenS {i : Nat} {ss : List Sv} {gs : List Lv} (h : Hst i ss gs) : ss.length = i + 1 := by simpa using h.h.lenS
theorem Hst.lenU {i : Nat} {ss : List Sv} {gs : List Lv} (h : Hst i ss gs) : gs.length = i + 1 := by simpa using h.h.lenU
theorem sv_at {ss : List Sv} {i : Nat} {s : Sv} (h : ss[i]? = some s) : (ss.map Sv.tb)[i]? = some s.tb := by rw [List.getElem?_map, h]; rfl
theorem lv_at {gs : List Lv} {i : Nat} {g : Lv} (h : gs[i]? = some g) : (gs.map Lv.ud)[i]? = some g.ud := by rw [List.getElem?_map, h]; rfl
theorem sv_val {ss : List Sv} {i : Nat} {s : Sv} (h : ss[i]? = some s) : (ss.map Sv.val)[i]? = some (.slice s.A 3 s.c) := by rw [List.getElem?_map, h]; rfl
theorem lv_val {gs : List Lv} {i : Nat} {g : Lv} (h : gs[i]? = some g) : (gs.map Lv.val)[i]? = some (.slice g.B g.m g.d) := by rw [List.getElem?_map, h]; rfl
theorem Hst.next {i : Nat} {ss : List Sv} {gs : List Lv} {s s' : Sv} {g g' : Lv} (h : Hst i ss gs) (hs : ss[i]? = some s) (hg : gs[i]? = some g) (hd : StepD s.tb g.ud s'.tb g'.ud) (h1 : s'.ok) (h2 : g'.ok) : Hst (i + 1) (ss ++ [s']) (gs ++ [g']) := by
  refine ⟨?_, fun x hx => ?_, fun x hx => ?_⟩
  · rw [List.map_append, List.map_append]
    exact h.h.next (sv_at hs) (lv_at hg) hd
  · rcases List.mem_append.1 hx with hx | hx
    · exact h.s x hx
    · simp at hx; subst hx; exact h1
  · rcases List.mem_append.1 hx with hx | hx
    · exact h.g x hx
    · simp at hx; subst hx; exact h2
theorem svs_snoc {M : Nat → Prop} {w : World} {ss : List Sv} {s : Sv} (h : Ro w M (SvsIn ss)) (k : Ro w M (SvIn s)) : Ro w M (SvsIn (ss ++ [s])) := fun w2 h1 h2 x hx => by
  rcases List.mem_append.1 hx with hx | hx
  · exact h w2 h1 h2 x hx
  · simp at hx; subst hx; exact k w2 h1 h2
theorem lvs_snoc {M : Nat → Prop} {w : World} {gs : List Lv} {g : Lv} (h : Ro w M (LvsIn gs)) (k : Ro w M (LvIn g)) : Ro w M (LvsIn (gs ++ [g])) := fun w2 h1 h2 x hx => by
  rcases List.mem_append.1 hx with hx | hx
  · exact h w2 h1 h2 x hx
  · simp at hx; subst hx; exact k w2 h1 h2
theorem StOk.each {S : List Tb} (h : StOk S) : ∀ t ∈ S, VTab t := fun t ht => by
  obtain ⟨j, hj⟩ := List.getElem?_of_mem ht
  exact (h.at_ j t hj).2.2
def StepSl (M : Nat → Prop) (S : List Tb) (U : List Ud) (u : Value) (w : World) : Prop := ∃ (s : Sv) (g : Lv), u = .tuple #[.slice s.A 3 s.c, .slice g.B g.m g.d, .bool true] ∧ s.ok ∧ g.ok ∧ StepD S U s.tb g.ud ∧ Ro w M (SvIn s) ∧ Ro w M (LvIn g)
theorem stepSl_mono {M : Nat → Prop} {S : List Tb} {U : List Ud} (u : Value) (w w' : World) (hr : RM M w w') (h : StepSl M S U u w) : StepSl M S U u w' := by
  obtain ⟨s, g, h1, h2, h3, h4, h5, h6⟩ := h
  exact ⟨s, g, h1, h2, h3, h4, hr.ro h5, hr.ro h6⟩
def RollSl (M : Nat → Prop) (ts : List Tb) (us : List Ud) (u : Value) (w : World) : Prop := ∃ (A : Option Addr) (n c : Nat) (l : List Te) (B : Option Addr) (m d : Nat) (g : List Ue), u = .tuple #[.slice A n c, .slice B m d, .bool true] ∧
  (n ≤ c ∧ c ≤ 9223372036854775807 ∧ l.map Te.tb = ts ∧ (∀ x ∈ l, x.ok) ∧ Ro w M (TesIn A n l)) ∧ (m ≤ d ∧ d ≤ 9223372036854775807 ∧ g.map Ue.ud = us ∧ (∀ x ∈ g, x.good 25 4) ∧ Ro w M (UesIn B m g))
theorem rollSl_mono {M : Nat → Prop} {ts : List Tb} {us : List Ud} (u : Value) (w w' : World) (hr : RM M w w') (h : RollSl M ts us u w) : RollSl M ts us u w' := by
  obtain ⟨A, n, c, l, B, m, d, g, h1, ⟨a1, a2, a3, a4, a5⟩, ⟨b1, b2, b3, b4, b5⟩⟩ := h
  exact ⟨A, n, c, l, B, m, d, g, h1, ⟨a1, a2, a3, a4, hr.ro a5⟩, ⟨b1, b2, b3, b4, hr.ro b5⟩⟩
theorem sroll_both (M : Nat → Prop) (w : World) (hM : ∀ b, M b → b < w.heap.size) (A : Option Addr) (c : Nat) (l : List Te) (B : Option Addr) (m d : Nat) (lg : List Ue) (to : Nat) (S0 : List Tb) (hto : to ≤ m) (hm : m ≤ 1000)
    (hl : Ro w M (TesIn A 3 l)) (hmd : m ≤ d) (hdm : d ≤ 9223372036854775807) (hlg : Ro w M (UesIn B m lg)) (hok : ∀ x ∈ l, x.ok ∧ VTab x.tb) (hg : ∀ u ∈ lg, u.good 25 4) (hv1 : storB (l.map Te.tb) = true) (hv2 : storB S0 = true) (hb : BackR ((lg.drop to).reverse.map Ue.ud) (l.map Te.tb) S0) (hB : LogAt B m d) :
    Calls Tryz.prog 20 #[.slice A 3 c, .slice B m d, .int .i64 to] w fun e w' => RollRet w M 25 4 S0 ((lg.take to).map Ue.ud) e w' := by
  rcases hB with ⟨rfl, rfl, rfl⟩ | ⟨lb, lo, rfl⟩
  · obtain rfl : to = 0 := by omega
    have hn : lg = [] := List.eq_nil_of_length_eq_zero hlg.now.len
    subst hn
    have e : l.map Te.tb = S0 := hb
    subst e
    exact srollN M w hM A 3 c l 25 4 (by omega) (by omega) (by omega) (by omega) hl hok hv1
  · exact srollA M w hM A 3 c l lb lo m d lg to 25 4 S0 (by omega) (by omega) hto (by omega) (by omega) (by omega) hl hmd hdm hlg hok hg hv1 hv2 hb
theorem Tryz.elTes : ElemT Tryz.prog 61 29 1 24 (.slice none 0 0) := ⟨Tryz.underlying61, by kernel_rfl, rfl, by omega⟩
theorem Tryz.elUes : ElemT Tryz.prog 62 63 1 24 (.slice none 0 0) := ⟨Tryz.underlying62, by kernel_rfl, rfl, by omega⟩
set_option maxHeartbeats 16000000 in
set_option maxRecDepth 100000 in
theorem sundoes_walk (A : Option Addr) (n c : Nat) (zs : List Int) (to : Int) (w : World) (hr : Rd w w.heap.size 1 A n (zs.map (Value.int .i64))) (hz : Ints zs) (hn : n ≤ c) (hc : c ≤ 9223372036854775807) (hto : I64 to) (hw : Wds w) :
    Calls Tryz.prog 5 #[.slice A n c, .int .i64 to] w fun e w' => e = .returned (.bool true) ∧ Below w.heap.size w w' := by
  have hwl := hw.lt
  have HTO := hid hto
  have K0 := Hold.begin_ w
  go_enter Tryz.func5, Tryz.ntmps5
  go_wp2_with fail
  refine (new_any A n c zs _ hr hz hn hc).mono ?_
  rintro e w1 ⟨T, rfl, hT, t1, b1⟩
  have K1 := Hold.newTape K0 b1 t1 hT (by simp [Mut, None_, Hp.foot])
  have wd0 : Wds w1 := hw.below b1 hwl
  have hT1 : 2 < T := by omega
  have K2 := K1.add (wd0.ro2 (show ¬ Mut None_ [.tp T] 2 by simp [Mut, None_, Hp.foot]; omega))
  clear K1 K0 wd0 t1 b1 hw hr hwl hT hto
  go_wp2_with fail
  refine (tstore_any (Mut None_ _) T _ K2.mutLt (K2.tp_ 1 rfl) (K2.get 1 rfl).2 4 (by omega) ((K2.ro 0 rfl).less (mut_tp (i := 1) rfl)) hT1).mono ?_
  rintro e w2 ⟨A0, c0, l0, rfl, hc1, hc2, hS, r0, t2, g2⟩
  have K3 := (Hold.callT K2 1 rfl g2 t2).add r0
  have HS := hid hS
  clear K2 t2 g2 r0 hS
  have K4 := (K3.alloc_own #[.slice A0 3 c0] 29 1 1 (by unfold maxLen; omega) rfl).alloc_own #[.slice none 0 0] 63 1 1 (by unfold maxLen; omega) rfl
  simp only [World.size_alloc] at K4
  have HH : Hid (Hst 0 [⟨A0, c0, l0⟩] [⟨none, 0, 0, []⟩]) := hid ⟨Hist.zero HS.out.st (fun t ht => by
      obtain ⟨x, hx, rfl⟩ := List.mem_map.1 ht
      exact (HS.out.ok x hx).2.2), fun s hs => by
        simp at hs; subst hs; exact ⟨hc1, hc2, fun x hx => (HS.out.ok x hx).1⟩, fun g hg => by
        simp at hg; subst hg; exact ⟨Nat.le_refl _, Nat.zero_le _, fun u hu => (nomatch hu), .inl ⟨rfl, rfl, rfl⟩⟩⟩
  have K5 := (K4.add (S := SvsIn [⟨A0, c0, l0⟩]) ((K4.ro 2 rfl).imp fun w2 h2 s hs => by simp at hs; subst hs; exact h2)).add (S := LvsIn [⟨none, 0, 0, []⟩]) (fun w2 _ _ g hg => by
    simp at hg; subst hg
    exact ⟨⟨rfl, fun h => absurd h (Nat.lt_irrefl 0)⟩, fun x hx => (nomatch hx)⟩)
  clear K3 K4 HS
  have K6 := K5.drop (L' := [_, _, _, _, .ro Wds, .tp T]) (.cons_cons _ (.cons_cons _ (.cons_cons _ (.cons_cons _ (.cons _ (List.Sublist.refl _))))))
  clear K5
  go_wp2_with fail
  go_loopw [4, 6, 7, 8] (fun r4 sv lv iv wr => ∃ (i g6 c6 g7 c7 : Nat) (ss : List Sv) (gs : List Lv), i ≤ 6 ∧ r4 = .bool false ∧ sv = .slice (some ⟨g6, 0, none⟩) (i + 1) c6 ∧ lv = .slice (some ⟨g7, 0, none⟩) (i + 1) c7 ∧ iv = .int .i64 i ∧ Hid (Hst i ss gs) ∧ Hold None_ none w wr [.ro (LvsIn gs), .ro (SvsIn ss), .own 63 1 (.slice (some ⟨g7, 0, none⟩) (i + 1) c7) (i + 1) (gs.map Lv.val), .own 29 1 (.slice (some ⟨g6, 0, none⟩) (i + 1) c6) (i + 1) (ss.map Sv.val), .ro Wds, .tp T]) (fun _ _ _ iv _ => 6 - (intOf iv).toNat)
  case atStart => exact ⟨0, _, 1, _, 1, _, _, by omega, rfl, rfl, rfl, rfl, HH, K6⟩
  case round =>
    clear K6 HH hc1 hc2
    obtain ⟨i, g6, c6, g7, c7, ss, gs, hi, rfl, rfl, rfl, rfl, HS, H⟩ := hrel
    by_cases hlt : i < 6
    · have hd : decide ((i : Int) < 6) = true := by simp; omega
      have i0 : (0 : Int) ≤ (i : Int) := by omega
      have i1 : (i : Int) < (i : Int) + 1 := by omega
      obtain ⟨s, hs⟩ := get_of HS.out.lenS (show i < i + 1 by omega)
      obtain ⟨g, hg⟩ := get_of HS.out.lenU (show i < i + 1 by omega)
      have HSI := hid hs
      have HGI := hid hg
      clear hs hg
      go_wp2_with fail
      obtain ⟨KL, hKL, KN⟩ := H.name
      have HF : Hid (∀ wv, Hold None_ none w wv KL → wv.cell? ⟨g6, i, none⟩ = some (.slice s.A 3 s.c) ∧ wv.cell? ⟨g7, i, none⟩ = some (.slice g.B g.m g.d) ∧ g6 < wv.heap.size ∧ g7 < wv.heap.size) := hid fun wv HC => by
        rw [hKL] at HC
        have h6 := HC.get 3 rfl
        have h7 := HC.get 2 rfl
        exact ⟨(h6.cellAt _ (by omega)).trans (sv_val HSI.out), (h7.cellAt _ (by omega)).trans (lv_val HGI.out), (h6.lt g6 rfl).2, (h7.lt g7 rfl).2⟩
      have HX : Hid (∀ wv, Hold None_ none w wv KL → Ro wv (Mut None_ KL) (SvIn s) ∧ Ro wv (Mut None_ KL) (LvIn g) ∧ Tp wv T ∧ (∀ b, Mut None_ KL b → T ≤ b) ∧ Ro wv (Mut None_ KL) Wds) := hid fun wv HC => by
        rw [hKL] at HC ⊢
        exact ⟨(HC.ro 1 rfl).imp fun w2 h2 => h2 s (List.mem_of_getElem? HSI.out), (HC.ro 0 rfl).imp fun w2 h2 => h2 g (List.mem_of_getElem? HGI.out), HC.tp_ 5 rfl, (HC.get 5 rfl).2, HC.ro 4 rfl⟩
      have HTP := hid (show KL[5]? = some (.tp T) by rw [hKL]; rfl)
      have HKL := hid hKL
      clear hKL H
      refine wp_region_any (by kernel_rfl) ?_
      refine wpAny_hold 17 88 (KL) (spL [(36, StepSl (Mut None_ KL) s.tb g.ud)]) (by kernel_rfl) (by kernel_rfl) (by kernel_rfl) rfl ?_ (KN.drew) ?_
      · exact stays_cons stepSl_mono (stays_nil _)
      simp only [List.take_succ_cons, List.take_zero, List.drop_succ_cons, List.drop_zero, Act.put, List.getElem_toArray, List.getElem_cons_zero, List.getElem_cons_succ, List.setIfInBounds_toArray, List.set_cons_succ, List.set_cons_zero]
      repeat (first | (refine dw_skip rfl rfl rfl ?_; simp only [Act.put, List.setIfInBounds_toArray, List.set_cons_succ, List.set_cons_zero]) | (refine dw_val rfl rfl rfl ?_; apply Exists.intro; refine ⟨fun wv HC => ?_, ?_⟩; (focus (obtain ⟨f0, f1, f2, f3⟩ := HF.out _ HC; go_simp <;> rfl; done)); simp only [Act.put, List.setIfInBounds_toArray, List.set_cons_succ, List.set_cons_zero]))
      refine dw_callR 36 (StepSl (Mut None_ KL) s.tb g.ud) (f := 18) (args := #[.pointer (some ⟨T, 0, none⟩), .slice s.A 3 s.c, .slice g.B g.m g.d]) rfl rfl rfl rfl (fun wv => ?_) (fun wv HC hrm hD => ?_) ?_
      · go_simp <;> rfl
      · have hst := HS.out.h.st i s.tb (sv_at HSI.out)
        have hlg := HS.out.h.lg i g.ud (lv_at HGI.out)
        have hso := HS.out.s s (List.mem_of_getElem? HSI.out)
        have hgo := HS.out.g g (List.mem_of_getElem? HGI.out)
        obtain ⟨x1, x2, x3, x4, x5⟩ := HX.out _ HC
        have hml : g.g.length = g.m := x2.now.len
        have hml2 : g.ud.length = g.g.length := List.length_map ..
        refine (sstep_any (Mut None_ KL) T wv HC.mutLt x3 x4 s.A s.c s.l g.B g.m g.d g.g 25 4 (by omega) (by omega) (by omega) (by omega) hso.c3 hso.c hgo.md hgo.d (by omega) hgo.at_ (x1.less (mut_tp (i := 5) HTP.out)) (x2.less (mut_tp (i := 5) HTP.out)) (fun x hx => ⟨hso.l x hx, by
          have := hst.2 x.tb (List.mem_map_of_mem hx)
          omega⟩) hst.1 hgo.gd (x5.less (mut_tp (i := 5) HTP.out)) hT1).mono ?_
        rintro e w5 ⟨A5, c5, l5, B5, m5, d5, g5, rfl, ⟨p1, p2, p3, p4⟩, ⟨q1, q2, q3, q4, q5⟩, hD5, t5, gr5⟩
        exact ⟨_, rfl, ⟨⟨A5, c5, l5⟩, ⟨B5, m5, d5, g5⟩, rfl, ⟨p1, p2, p3⟩, ⟨q1, q2, q3, q4⟩, hD5, p4, q5⟩, Hold.callT HC 5 HTP.out gr5 t5, RM.grown gr5 (.inr ⟨_, List.mem_of_getElem? (i := 5) HTP.out, rfl⟩)⟩
      rintro u_ wx HCx ⟨⟨A5, c5, l5⟩, ⟨B5, m5, d5, g5⟩, rfl, -, -, -, -, -⟩
      dsimp only
      clear HCx l5 g5
      simp only [Act.put, List.setIfInBounds_toArray, List.set_cons_succ, List.set_cons_zero]
      repeat (first | (refine dw_skip rfl rfl rfl ?_; simp only [Act.put, List.setIfInBounds_toArray, List.set_cons_succ, List.set_cons_zero]) | (refine dw_val rfl rfl rfl ?_; apply Exists.intro; refine ⟨fun wv HC => ?_, ?_⟩; (focus ( go_simp <;> rfl; done)); simp only [Act.put, List.setIfInBounds_toArray, List.set_cons_succ, List.set_cons_zero]))
      refine rel_nil ?_
      rintro wy HY
      rintro _hrm HGW
      have hsl : StepSl (Mut None_ KL) s.tb g.ud (.tuple #[.slice A5 3 c5, .slice B5 m5 d5, .bool true]) wy := (GW_on (d := 36) rfl).1 (HGW 9 _ rfl (by omega))
      clear HGW _hrm KN HF HX
      obtain ⟨s', g', e9, ho1, ho2, hD, rS, rG⟩ := hsl
      obtain ⟨⟨rfl, rfl⟩, rfl, rfl, rfl⟩ : (A5 = s'.A ∧ c5 = s'.c) ∧ B5 = g'.B ∧ m5 = g'.m ∧ d5 = g'.d := by
        injection e9 with e9
        simp only [Array.mk.injEq, List.cons.injEq, Value.slice.injEq, and_true, true_and] at e9
        exact e9
      clear e9
      have HS2 := hid (HS.out.next HSI.out HGI.out hD ho1 ho2)
      clear ho1 ho2 hD
      have K8 := (HY.add rG).add (rS.less (mut_none rfl))
      rw [HKL.out] at K8
      clear HY HKL rS rG HTP HSI HGI
      clear KL
      have e6 : ss.map Sv.val ++ (#[Value.slice s'.A 3 s'.c]).toList = (ss ++ [s']).map Sv.val := by simp [Sv.val]
      have e7 : gs.map Lv.val ++ (#[Value.slice g'.B g'.m g'.d]).toList = (gs ++ [g']).map Lv.val := by simp [Lv.val]
      have HE6 := hid e6
      have HE7 := hid e7
      clear e6 e7
      go_wp2_with (at_builtin; go_must (refine wpList_appH K8 5 rfl Tryz.elTes #[.slice s'.A 3 s'.c] rfl (.tmp 42) (.tmp 44) rfl rfl _ (by first | rfl | simp) rfl rfl (by intro u hu; simp at hu; rcases hu with rfl; rfl) (by omega) (by omega) ?_); intro g8 cap8 w8 hc8 hm8 KB; rw [HE6.out] at KB; simp only [List.set_cons_zero, List.set_cons_succ] at KB; go_wp2_with (at_builtin; go_must (refine wpList_appH KB 4 rfl Tryz.elUes #[.slice g'.B g'.m g'.d] rfl (.tmp 46) (.tmp 48) rfl rfl _ (by first | rfl | simp) rfl rfl (by intro u hu; simp at hu; rcases hu with rfl; rfl) (by omega) (by omega) ?_); intro g9 cap9 w9 hc9 hm9 KD; rw [HE7.out] at KD; simp only [List.set_cons_zero, List.set_cons_succ] at KD))
      have KE0 := KD.swapRo 2 rfl (lvs_snoc (KD.ro 2 rfl) (KD.ro 1 rfl))
      have KE := KE0.swapRo 3 rfl (svs_snoc (KE0.ro 3 rfl) (KE0.ro 0 rfl))
      simp only [List.set_cons_zero, List.set_cons_succ, List.setIfInBounds_toArray] at KE
      have KF := KE.drop (.cons _ (.cons _ (List.Sublist.refl _)))
      go_roundw
      case rel => exact ⟨i + 1, g8, cap8, g9, cap9, ss ++ [s'], gs ++ [g'], by omega, rfl, rfl, rfl, by first | rfl | go_num, HS2, KF⟩
      case measure => simp [intOf] <;> omega
    · obtain rfl : i = 6 := by omega
      have hd : decide (((6 : Nat) : Int) < 6) = false := by decide
      go_wp2_with fail
      refine (wmod_any to 7 _ HTO.out (by omega) (by omega)).mono ?_
      rintro e w5 ⟨rfl, rfl⟩
      have m0 : 0 ≤ to % 7 := Int.emod_nonneg _ (by omega)
      have m1 : to % 7 < 7 := Int.emod_lt_of_pos _ (by omega)
      obtain ⟨k, hk⟩ := Int.eq_ofNat_of_zero_le m0
      rw [hk]
      have hk7 : k < 7 := by omega
      clear hk m0 m1
      obtain ⟨s6, h6⟩ := get_of HS.out.lenS (show 6 < 6 + 1 by omega)
      obtain ⟨q6, hq6⟩ := get_of HS.out.lenU (show 6 < 6 + 1 by omega)
      obtain ⟨s, hs⟩ := get_of HS.out.lenS (show k < 6 + 1 by omega)
      obtain ⟨g, hg⟩ := get_of HS.out.lenU (show k < 6 + 1 by omega)
      have HS6 := hid h6
      have HQ6 := hid hq6
      have HSI := hid hs
      have HGI := hid hg
      clear h6 hq6 hs hg
      have i0 : (0 : Int) ≤ (k : Int) := by omega
      have i1 : (k : Int) < 7 := by omega
      have i2 : (k : Int) < 6 + 1 := by omega
      go_wp2_with fail
      obtain ⟨KL, hKL, KN⟩ := H.name
      have HF : Hid (∀ wv, Hold None_ none w wv KL → wv.cell? ⟨g6, 6, none⟩ = some (.slice s6.A 3 s6.c) ∧ wv.cell? ⟨g7, 6, none⟩ = some (.slice q6.B q6.m q6.d) ∧ wv.cell? ⟨g6, k, none⟩ = some (.slice s.A 3 s.c) ∧ wv.cell? ⟨g7, k, none⟩ = some (.slice g.B g.m g.d) ∧ g6 < wv.heap.size ∧ g7 < wv.heap.size) := hid fun wv HC => by
        rw [hKL] at HC
        have h6 := HC.get 3 rfl
        have h7 := HC.get 2 rfl
        exact ⟨(h6.cellAt _ (by omega)).trans (sv_val HS6.out), (h7.cellAt _ (by omega)).trans (lv_val HQ6.out), (h6.cellAt _ (by omega)).trans (sv_val HSI.out), (h7.cellAt _ (by omega)).trans (lv_val HGI.out), (h6.lt g6 rfl).2, (h7.lt g7 rfl).2⟩
      have HX : Hid (∀ wv, Hold None_ none w wv KL → Ro wv (Mut None_ KL) (SvIn s6) ∧ Ro wv (Mut None_ KL) (LvIn q6) ∧ Ro wv (Mut None_ KL) (SvIn s) ∧ Ro wv (Mut None_ KL) (LvIn g)) := hid fun wv HC => by
        rw [hKL] at HC ⊢
        exact ⟨(HC.ro 1 rfl).imp fun w2 h2 => h2 s6 (List.mem_of_getElem? HS6.out), (HC.ro 0 rfl).imp fun w2 h2 => h2 q6 (List.mem_of_getElem? HQ6.out), (HC.ro 1 rfl).imp fun w2 h2 => h2 s (List.mem_of_getElem? HSI.out), (HC.ro 0 rfl).imp fun w2 h2 => h2 g (List.mem_of_getElem? HGI.out)⟩
      clear hKL H
      have HOS : Hid (s6.ok ∧ q6.ok ∧ s.ok ∧ g.ok) := hid ⟨HS.out.s s6 (List.mem_of_getElem? HS6.out), HS.out.g q6 (List.mem_of_getElem? HQ6.out), HS.out.s s (List.mem_of_getElem? HSI.out), HS.out.g g (List.mem_of_getElem? HGI.out)⟩
      have HST : Hid (StOk s6.tb ∧ StOk s.tb ∧ q6.ud.length ≤ 6) := hid ⟨(HS.out.h.st 6 s6.tb (sv_at HS6.out)).1, (HS.out.h.st k s.tb (sv_at HSI.out)).1, HS.out.h.lg 6 q6.ud (lv_at HQ6.out)⟩
      have HBK := hid (HS.out.h.back s6.tb q6.ud (sv_at HS6.out) (lv_at HQ6.out) k s.tb g.ud (sv_at HSI.out) (lv_at HGI.out))
      refine wp_region_any (by kernel_rfl) ?_
      refine wpAny_hold 19 88 (KL) (spL [(64, RollSl (Mut None_ KL) s.tb g.ud)]) (by kernel_rfl) (by kernel_rfl) (by kernel_rfl) rfl ?_ (KN.drew) ?_
      · exact stays_cons rollSl_mono (stays_nil _)
      simp only [List.take_succ_cons, List.take_zero, List.drop_succ_cons, List.drop_zero, Act.put, List.getElem_toArray, List.getElem_cons_zero, List.getElem_cons_succ, List.setIfInBounds_toArray, List.set_cons_succ, List.set_cons_zero]
      repeat (first | (refine dw_skip rfl rfl rfl ?_; simp only [Act.put, List.setIfInBounds_toArray, List.set_cons_succ, List.set_cons_zero]) | (refine dw_val rfl rfl rfl ?_; apply Exists.intro; refine ⟨fun wv HC => ?_, ?_⟩; (focus (obtain ⟨f0, f1, f2, f3, f4, f5⟩ := HF.out _ HC; go_simp <;> rfl; done)); simp only [Act.put, List.setIfInBounds_toArray, List.set_cons_succ, List.set_cons_zero]))
      refine dw_callR 64 (RollSl (Mut None_ KL) s.tb g.ud) (f := 20) (args := #[.slice s6.A 3 s6.c, .slice q6.B q6.m q6.d, .int .i64 g.m]) rfl rfl rfl rfl (fun wv => ?_) (fun wv HC hrm hD => ?_) ?_
      · go_simp <;> rfl
      · obtain ⟨x1, x2, x3, x4⟩ := HX.out _ HC
        have l1 : g.ud.length = g.m := (List.length_map ..).trans x4.now.len
        have l2 : q6.ud.length = q6.m := (List.length_map ..).trans x2.now.len
        have l3 : g.m ≤ q6.m := by have := congrArg List.length HBK.out.1; rw [List.length_take] at this; omega
        have l4 := HST.out.2.2
        have hb := HBK.out.2
        rw [l1] at hb
        have hu := HBK.out.1
        rw [l1] at hu
        have hu2 : (q6.g.take g.m).map Ue.ud = g.ud := by rw [List.map_take]; exact hu
        have hk := sroll_both _ wv HC.mutLt s6.A s6.c s6.l q6.B q6.m q6.d q6.g g.m s.tb l3 (by omega) x1 HOS.out.2.1.md HOS.out.2.1.d x2 (fun x hx => ⟨HOS.out.1.l x hx, HST.out.1.each _ (List.mem_map_of_mem hx)⟩) HOS.out.2.1.gd HST.out.1.stor HST.out.2.1.stor (by rw [List.map_reverse, List.map_drop]; exact hb) HOS.out.2.1.at_
        rw [hu2] at hk
        refine hk.mono ?_
        rintro e w5 ⟨A5, n5, c5, l5, B5, m5, d5, g5, rfl, a, b, b5⟩
        exact ⟨_, rfl, ⟨A5, n5, c5, l5, B5, m5, d5, g5, rfl, a, b⟩, HC.call b5, RM.below b5⟩
      rintro u_ wx HCx ⟨A5, n5, c5, l5, B5, m5, d5, g5, rfl, -, -⟩
      clear HCx l5 g5
      simp only [Act.put, List.setIfInBounds_toArray, List.set_cons_succ, List.set_cons_zero]
      repeat (first | (refine dw_skip rfl rfl rfl ?_; simp only [Act.put, List.setIfInBounds_toArray, List.set_cons_succ, List.set_cons_zero]) | (refine dw_val rfl rfl rfl ?_; apply Exists.intro; refine ⟨fun wv HC => ?_, ?_⟩; (focus ( go_simp <;> rfl; done)); simp only [Act.put, List.setIfInBounds_toArray, List.set_cons_succ, List.set_cons_zero]))
      refine rel_nil ?_
      rintro wy HY
      rintro _hrm HGW
      have hsl : RollSl (Mut None_ KL) s.tb g.ud (.tuple #[.slice A5 n5 c5, .slice B5 m5 d5, .bool true]) wy := (GW_on (d := 64) rfl).1 (HGW 11 _ rfl (by omega))
      clear HGW _hrm KN
      obtain ⟨A6, n6, c6_, l6, B6, m6, d6, g6_, e9, ⟨p1, p2, p3, p4, p5⟩, ⟨q1, q2, q3, q4, q5⟩⟩ := hsl
      obtain ⟨⟨rfl, rfl, rfl⟩, rfl, rfl, rfl⟩ : (A5 = A6 ∧ n5 = n6 ∧ c5 = c6_) ∧ B5 = B6 ∧ m5 = m6 ∧ d5 = d6 := by
        injection e9 with e9
        simp only [Array.mk.injEq, List.cons.injEq, Value.slice.injEq, and_true, true_and] at e9
        exact e9
      clear e9
      have hn3 : n5 = 3 := by
        have a := p5.now.len
        have b := congrArg List.length p3
        have c := HST.out.2.1.len
        rw [List.length_map] at b
        omega
      have hlm : Hid ((∀ r ∈ l6, r.n ≤ 4398046511104 ∧ r.m ≤ 4398046511104 ∧ ∀ q ∈ r.l, q.n ≤ 4398046511104) ∧ ∀ r ∈ s.l, r.n ≤ 4398046511104 ∧ r.m ≤ 4398046511104 ∧ ∀ q ∈ r.l, q.n ≤ 4398046511104) := by
        refine hid ⟨fun x hx => ?_, fun x hx => ?_⟩
        · obtain ⟨a, b, c⟩ := VTab.lim (p4 x hx) (p5.now.2 x hx) (HST.out.2.1.each _ (by rw [← p3]; exact List.mem_map_of_mem hx))
          exact ⟨by omega, by omega, fun r hr => by have := (c r hr).2; omega⟩
        · obtain ⟨a, b, c⟩ := VTab.lim (HOS.out.2.2.1.l x hx) ((HX.out _ HY).2.2.1.now.2 x hx) (HST.out.2.1.each _ (List.mem_map_of_mem hx))
          exact ⟨by omega, by omega, fun r hr => by have := (c r hr).2; omega⟩
      have HM := hid (And.intro hn3 (And.intro p3 (And.intro q3 q4)))
      have KA := (HY.add q5).add (p5.less (mut_none rfl))
      have HEQ : Hid (decide (l6.map Te.tb = s.l.map Te.tb) = true) := hid (by rw [decide_eq_true_iff]; exact p3)
      obtain ⟨f0, f1, f2, f3, f4, f5⟩ := HF.out _ HY
      clear p1 p2 p3 p4 p5 q1 q2 q3 q4 q5 hn3 HY
      go_wp2_with fail
      refine (sameTables_any _ _ KA.mutLt A5 n5 c5 l6 s.A 3 s.c s.l (KA.ro 0 rfl) (((HX.out _ (KA.drop (.cons _ (.cons _ (List.Sublist.refl _))))).2.2.1.less (mut_none rfl)).less (mut_none rfl)) (by have := HM.out.1; omega) hlm.out.1 hlm.out.2).mono ?_
      rw [HEQ.out]
      rintro e w6 ⟨rfl, b6⟩
      have KB := KA.call b6
      clear KA b6 f0 f1 f2 f3 f4 f5
      obtain ⟨f0, f1, f2, f3, f4, f5⟩ := HF.out _ (KB.drop (.cons _ (.cons _ (List.Sublist.refl _))))
      go_wp2_with fail
      have hm5 : m5 ≤ 1000000 := by
        have a := (KB.ro 1 rfl).now.len
        have b := congrArg List.length HM.out.2.2.1
        have c := congrArg List.length HBK.out.1
        have d := HST.out.2.2
        rw [List.length_map] at b
        rw [List.length_take] at c
        omega
      refine (sameLog_any _ _ KB.mutLt B5 m5 d5 g6_ g.B g.m g.d g.g 25 4 (by omega) (by omega) (KB.ro 1 rfl) (((HX.out _ (KB.drop (.cons _ (.cons _ (List.Sublist.refl _))))).2.2.2.less (mut_none rfl)).less (mut_none rfl)) hm5 HM.out.2.2.2 HM.out.2.2.1).mono ?_
      rintro e w7 ⟨rfl, b7⟩
      have KC := KB.call b7
      clear KB b7 f0 f1 f2 f3 f4 f5 hm5
      go_wp2_with fail
      refine (known9 _).mono ?_
      rintro e w8 ⟨rfl, b8⟩
      have HB := hid (KC.call b8).below
      clear KC b8
      go_wp2_with fail
      (try simp only [Exit.inBlock, Exit.then])
      first | (go_ret; exact ⟨rfl, HB.out⟩) | (refine bodyPost_ret (results_tmp1 rfl _) rfl ?_; exact ⟨rfl, HB.out⟩)
end Go.Proofs.YtedogodccblfeaaGreatDoor

namespace Go.Proofs.YtedogodccblfeaaGreatDoor
open Go.ChangeShapes Go.WideShapes Go.ChangeAt Go.RowKit
set_option linter.unusedVariables false
set_option linter.unusedSimpArgs false

namespace LawStoreUndoes
set_option maxRecDepth 100000 in
theorem contract (H : Type) (enc : TypeId × Value → H) (W : World) (base : Nat) (args : Array Value) (ds gs : List (DataW H)) (before : List MemPlace)
    (hval0 : ∀ (j : Nat) t v, Tryz.f5.params[j]? = some t → args[j]? = some v → Value.okWide Tryz.prog W .any base t v)
    (hsz0 : (DataW.weightsEach Tryz.prog (Tryz.f5.params.toList ++ Rows.storeUndoesSpec.plain.varTypes Tryz.prog) (ds ++ gs)).all (· ≤ reachBytes) = true)
    (hW : DataW.Whole enc Tryz.prog Tryz.f5.params.toList Rows.storeUndoesSpec.vars false W args.toList ds gs before) (hL : laidMetH Tryz.prog Rows.storeUndoesRow.laid W) (hsh : W.ShapedOpen Tryz.prog) :
    Calls Tryz.prog 5 args W fun e W' => ∃ v, e = .returned v ∧ Rows.storeUndoesSpec.post enc Tryz.prog Tryz.f5 false true false false W args v W' := by
  have hsz : (DataW.weightsEach Tryz.prog (Tryz.f5.params.toList ++ Rows.storeUndoesSpec.plain.varTypes Tryz.prog) (ds ++ gs)).all (· ≤ reachBytes) = true := hsz0
  have hval : ∀ (j : Nat) t v, Tryz.f5.params[j]? = some t → args[j]? = some v → Value.okWide Tryz.prog W .any base t v := hval0
  have hW' := hW
  obtain ⟨p, q, hA0, hV, rfl, hfz, hnd⟩ := hW
  have hA : DataW.TrodAll enc Tryz.prog W 0 (fun _ => true) true Tryz.f5.params.toList args.toList ds p := hA0
  rw [Tryz.params5] at hA hval hsz
  obtain ⟨v0, vs0, d0, ds0, p0, q0, hargs, rfl, rfl, h0, r0⟩ := trodAll_cons hA
  obtain ⟨v1, vs1, d1, ds1, p1, q1, rfl, rfl, rfl, h1, r1⟩ := trodAll_cons r0
  obtain ⟨rfl, rfl, rfl⟩ := trodAll_nil r1
  obtain rfl : args = #[v0, v1] := by cases args; simp_all
  obtain ⟨rfl, rfl⟩ := trodVars_none hV
  obtain ⟨A0, n0, c0, zs0, rfl, k0, z0, l0, m0, e0⟩ := open_i64s Tryz.underlying22 Tryz.underlying3 (by kernel_rfl) (hval 0 22 v0 rfl rfl) h0
  obtain ⟨a1, rfl, rfl, rfl, w1⟩ := open_int Tryz.underlying3 (hval 1 3 v1 rfl rfl) h1
  refine (sundoes_walk A0 n0 c0 zs0 a1 W k0 z0 l0 (by unfold maxLen at m0; omega) (i64_of_wf w1) (wds_of_laid (rest := []) hL)).mono fun e W' ⟨he, hb⟩ => ?_
  exact ⟨_, he, law_post rfl laidOut (by kernel_rfl) (by kernel_rfl) Tryz.underlying4 rfl hW' hb⟩

theorem laid_met (os : Os) : laidMet Tryz.prog Rows.storeUndoesRow.laid ((wordsWorld os).forCall (fun _ _ => 0) ⟨#[], #[.slice none 0 0, .int .i64 0], []⟩).memory :=
  laidMet_of_run' 16 (by kernel_rfl) (by kernel_rfl)
theorem reads (os : Os) {H : Type} (enc : TypeId × Value → H) : ∃ places, DataW.whole enc Tryz.prog ((wordsWorld os).forCall (fun _ _ => 0) ⟨#[], #[.slice none 0 0, .int .i64 0], []⟩).memory Tryz.f5.params.toList Rows.storeUndoesSpec.vars false #[.slice none 0 0, .int .i64 0].toList 8 = some ([.nil, .lit (.int .i64 0)], [], places) :=
  ⟨[], by kernel_rfl⟩

set_option maxRecDepth 100000 in
theorem lifted (os : Os) (started : os.Started) (H : Type) (enc : TypeId × Value → H) (F : Stop.Interp) :
    ReturnsInHanded {} Tryz.checked os 5 .any ((OpenSpec.ofChange Rows.storeUndoesSpec).preRow enc Tryz.prog Tryz.f5 Rows.storeUndoesRow.domain false Rows.storeUndoesRow.laid) (((OpenSpec.ofChange Rows.storeUndoesSpec).at F).post enc Tryz.prog Tryz.f5 false true false false) := by
  obtain ⟨places, hx⟩ := reads os enc
  refine returnsInHanded_of_row (C := Tryz.checked) (s := OpenSpec.ofChange Rows.storeUndoesSpec) own started (by kernel_rfl) Tryz.func5
    (witness_row_at (enc := enc) (C := Tryz.checked) false (wordsWorld os) #[.slice none 0 0, .int .i64 0] rfl (by kernel_rfl) (by kernel_rfl) (by kernel_rfl)
      (OpenSpec.preRow_of_cond 8 hx (by kernel_rfl) (fun k hk => by cases hk) (by kernel_rfl) (laid_met os))) ?_
  intro W base args ds gs before hval hW _ _ hsz0 hL hsh _
  exact contract H enc W base args ds gs before hval hsz0 hW hL hsh

theorem said : Rows.StoreUndoesSaid :=
  OpenClaim.holds_of_cond 5 Tryz.f5 rfl rfl rfl rfl rfl rfl rfl ⟨rfl, rfl, rfl, rfl, rfl⟩ rfl rfl rfl rfl rfl (by kernel_rfl) Tryz.func5 (by kernel_rfl)
    (of_decide_eq_true (by kernel_rfl)) (by unfold Func.isWrapper; first | (rw [if_pos (by decide +kernel)]; kernel_rfl) | (rw [if_neg (by decide +kernel)]; exact ⟨rfl, rfl⟩))
    (fun os started H enc _ F => by rw [OpenClaim.pre_eq_preRow]; exact lifted os started H enc F)

theorem plain (f : FuncId) (fn : Func) (hf : Tryz.pinned.checked.prog.funcNamed "triggerstore/triggerstorelaw9.StoreUndoes" = some f) (hfn : Tryz.pinned.checked.prog.funcs[f]? = some fn) :
    false = Tryz.pinned.checked.prog.looks [] ∧ ∀ (j : Nat) t, fn.params[j]? = some t → Tryz.pinned.checked.prog.wantsStandIn t = false := by
  obtain rfl : f = 5 := Option.some.inj ((show Tryz.prog.funcNamed "triggerstore/triggerstorelaw9.StoreUndoes" = some 5 by kernel_rfl).symm.trans hf) |>.symm
  obtain rfl : fn = Tryz.f5 := (Option.some.inj (Tryz.func5.symm.trans hfn)).symm
  refine ⟨by kernel_rfl, fun j t ht => ?_⟩
  rw [Tryz.params5] at ht
  have hm := Array.mem_of_getElem? ht
  simp only [List.mem_toArray, List.mem_cons, List.not_mem_nil, or_false] at hm
  rcases hm with rfl | rfl
  · exact (show Tryz.prog.wantsStandIn 22 = false by kernel_rfl)
  · exact (show Tryz.prog.wantsStandIn 3 = false by kernel_rfl)
end LawStoreUndoes

theorem storeUndoes_holds : Rows.StoreUndoesCardSaid :=
  Claim7.holds_tied_plain_at .later [] _ _ _ _ LawStoreUndoes.said (fun _ h => by cases h) (by kernel_rfl) (fun _ h => by cases h) storeUndoes_row_tie rfl ⟨rfl, rfl⟩ (by kernel_rfl) rfl LawStoreUndoes.plain (by kernel_rfl)
#print axioms storeUndoes_holds
end Go.Proofs.YtedogodccblfeaaGreatDoor

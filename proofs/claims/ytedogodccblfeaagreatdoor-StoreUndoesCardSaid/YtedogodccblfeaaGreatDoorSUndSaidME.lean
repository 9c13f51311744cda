/- BackPl: logs that lead back from one store to another, step by step. No program in sight. -/
import Derived.Test.YtedogodccblfeaaGreatDoorSUndSaidMD
import Derived.Test.YtedogodccblfeaaGreatDoorSUndSaidMC
import Derived.Test.YtedogodccblfeaaGreatDoorSUndSaidMB
import Derived.Test.YtedogodccblfeaaGreatDoorSUndSaidMA
import Derived.Orders
namespace Go.Proofs.YtedogodccblfeaaGreatDoor
open Go.RowKit
set_option linter.unusedVariables false
set_option linter.unusedSimpArgs false

/-- the rows that stay, as the reference finds them -/
def fndR (dels : List Int) (us : List Upd) (rs : List Row) : List Row := (rs.filter fun r => !dels.contains r.1).map fun r => (r.1, (findU us r.1).getD r.2)
theorem findU_wantR : ∀ {us : List Upd}, (us.map (·.1)).Pairwise (· < ·) → ∀ (id : Int) (v : List Vl), wantR us id v = (findU us id).getD v
  | [], _, _, _ => rfl
  | u :: us, h, id, v => by
    obtain ⟨h1, h2⟩ := List.pairwise_cons.1 h
    rw [wantR_cons]
    by_cases hu : u.1 = id
    · rw [if_pos hu, wantR_none fun x hx => by
        have h3 : u.1 < x.1 := h1 x.1 (List.mem_map_of_mem (f := fun x : Upd => x.1) hx)
        omega]
      have := findU_hit (us := u :: us) (k := 0) rfl hu
      rw [List.drop_zero] at this
      rw [this]; rfl
    · rw [if_neg hu, findU_wantR h2]
      have := findU_miss (us := u :: us) (k := 0) rfl hu
      rw [List.drop_zero] at this
      rw [this]; rfl
theorem fndR_skip {dels : List Int} {us : List Upd} {rs : List Row} {j : Nat} {r : Row} (hr : rs[j]? = some r) (h : dels.contains r.1 = true) : fndR dels us (rs.take (j + 1)) = fndR dels us (rs.take j) := by
  unfold fndR
  rw [List.take_add_one, hr, Option.toList_some, List.filter_append, List.map_append]
  simp only [List.filter_cons, h, Bool.not_true, Bool.false_eq_true, if_false, List.filter_nil, List.map_nil, List.append_nil]
theorem fndR_keep {dels : List Int} {us : List Upd} {rs : List Row} {j : Nat} {r : Row} (hr : rs[j]? = some r) (h : dels.contains r.1 = false) : fndR dels us (rs.take (j + 1)) = fndR dels us (rs.take j) ++ [(r.1, (findU us r.1).getD r.2)] := by
  unfold fndR
  rw [List.take_add_one, hr, Option.toList_some, List.filter_append, List.map_append]
  simp only [List.filter_cons, h, Bool.not_false, if_true, List.filter_nil, List.map_cons, List.map_nil]
theorem fndR_eq {nm : ByteArray} {cs : List Col} {nx : Int} {rs : List Row} {ins : List (List Vl)} {dels : List Int} {us : List Upd} (h : chgB nm cs nx rs ins dels us = true) : fndR dels us rs = goR dels rs us := by
  obtain ⟨h1, h2, h3, h4⟩ := chgB_ok h
  obtain ⟨_, _, _, _, h5, _⟩ := tabB_ok h1
  rw [goR_eq rs us (okR_asc h5).1 h3 h4]
  unfold fndR keepR
  exact List.map_congr_left fun x hx => by rw [findU_wantR h3]
def TcSlot (M : Nat → Prop) (nm : ByteArray) (cs : List Col) (nx : Int) (u : Value) (w : World) : Prop := ∃ (A : Option Addr) (n c : Nat) (B : Option Addr) (m d : Nat), u = .agg #[.string nm, .slice A n c, .int .i64 nx, .slice B m d] ∧ n ≤ c ∧ c ≤ 9223372036854775807 ∧ Ro w M (ColsIn A n cs)
theorem tcSlot_mono {M : Nat → Prop} {nm : ByteArray} {cs : List Col} {nx : Int} (u : Value) (w w' : World) (hr : RM M w w') (h : TcSlot M nm cs nx u w) : TcSlot M nm cs nx u w' := by
  obtain ⟨A, n, c, B, m, d, e, h1, h2, h3⟩ := h
  exact ⟨A, n, c, B, m, d, e, h1, h2, hr.ro h3⟩
/-- columns that are known lie in no fresh table -/
theorem Ro.colsOff {w : World} {M : Nat → Prop} {A : Option Addr} {n : Nat} {cs : List Col} (h : Ro w M (ColsIn A n cs)) {g : Nat} {t : TypeId} (hg : w.heap[g]? = some (.cells #[.string ⟨#[]⟩, .slice none 0 0, .int .i64 0, .slice none 0 0] t (0, 0))) : Ro w (fun b => M b ∨ b = g) (ColsIn A n cs) := by
  have h0 : Rd w w.heap.size 4 A n (colCells cs) := h.now
  rcases Nat.eq_zero_or_pos n with hn | hn
  · exact fun w2 _ _ => ⟨h0.1, fun k => absurd k (by omega)⟩
  · obtain ⟨b, o, hA, hb, hc⟩ := h0.2 hn
    obtain ⟨c, hc0⟩ := get_col (l := cs) (k := 0) (RdC.len h0) hn
    have hbg : b ≠ g := by
      rintro rfl
      obtain ⟨b', o', e, _, c0, c1, _⟩ := RdC.at_ (show RdC w w.heap.size A n cs from h0) hc0
      obtain ⟨rfl, rfl⟩ : b = b' ∧ o = o' := by rw [hA] at e; injection e with e; injection e with a1 a2; exact ⟨a1, a2⟩
      rw [cell_of_row w b _ _ t (0, 0) hg] at c0 c1
      rcases o with _ | _ | _ | _ | o <;> simp at c0 c1
    intro w2 h1 h2
    have hgl : g < w.heap.size := (List.getElem?_eq_some_iff.1 (by simpa using hg : w.heap.toList[g]? = _)).1
    have h3 := h { w2 with heap := w2.heap.setIfInBounds g (.cells #[.string ⟨#[]⟩, .slice none 0 0, .int .i64 0, .slice none 0 0] t (0, 0)) } (by simpa using h1) (fun x hx hm => by
      show (w2.heap.setIfInBounds g _)[x]? = _
      by_cases hxg : x = g
      · subst hxg
        rw [Array.getElem?_setIfInBounds_self_of_lt (by omega), hg]
      · rw [Array.getElem?_setIfInBounds_ne (by omega)]
        exact h2 x hx (fun k => k.elim hm hxg))
    obtain ⟨hl, h4⟩ := (show Rd _ _ 4 A n (colCells cs) from h3)
    obtain ⟨b', o', e, _, hc'⟩ := h4 hn
    obtain ⟨rfl, rfl⟩ : b = b' ∧ o = o' := by rw [hA] at e; injection e with e; injection e with a1 a2; exact ⟨a1, a2⟩
    refine ⟨hl, fun _ => ⟨b, o, hA, by omega, fun j u hu => ?_⟩⟩
    rw [← hc' j u hu]
    refine World.cell?_of_block ?_
    show _ = (w2.heap.setIfInBounds g _)[b]?
    rw [Array.getElem?_setIfInBounds_ne (by omega)]
theorem goR_len2 {nm : ByteArray} {cs : List Col} {nx : Int} {rs : List Row} {ins : List (List Vl)} {dels : List Int} {us : List Upd} (h : chgB nm cs nx rs ins dels us = true) : ((goR dels rs us).length : Int) = rs.length - dels.length := by
  obtain ⟨h1, ⟨h2a, h2b⟩, h3, h4⟩ := chgB_ok h
  obtain ⟨_, _, _, _, h5, _⟩ := tabB_ok h1
  have hasc := (okR_asc h5).1
  rw [goR_eq rs us hasc h3 h4]
  have h2 : (keepR dels us rs).length = (rs.filter fun r => !dels.contains r.1).length := by simp [keepR]
  have hnd : (rs.map (·.1)).Nodup := hasc.imp fun h => by omega
  have hdn : dels.Nodup := h2a.imp fun h => by omega
  have hp : ((rs.map (·.1)).filter fun id => dels.contains id).Perm dels := (List.perm_ext_iff_of_nodup (hnd.sublist List.filter_sublist) hdn).2 fun a => by
    simp only [List.mem_filter, List.contains_iff_mem]
    exact ⟨fun k => k.2, fun k => ⟨h2b a k, k⟩⟩
  have h3 : (rs.filter fun r => dels.contains r.1).length = dels.length := by
    rw [← hp.length_eq, List.filter_map, List.length_map]; rfl
  have h4 : (rs.filter fun r => dels.contains r.1).length + (rs.filter fun r => !dels.contains r.1).length = rs.length := by
    have : ∀ l : List Row, (l.filter fun r => dels.contains r.1).length + (l.filter fun r => !dels.contains r.1).length = l.length := by
      intro l
      induction l with
      | nil => rfl
      | cons x l ih => cases hx : dels.contains x.1 <;> simp only [List.filter_cons, hx, if_true, if_false, Bool.not_true, Bool.not_false, List.length_cons, Bool.false_eq_true] <;> omega
    exact this rs
  rw [h2]
  omega
theorem findU_mem {us : List Pr} {id : Int} {v : List Vl} (h : findU (us.map Pr.upd) id = some v) : ∃ u ∈ us, v = u.new := by
  unfold findU at h
  obtain ⟨x, hx, rfl⟩ := Option.map_eq_some_iff.1 h
  obtain ⟨u, hu, rfl⟩ := List.mem_map.1 (List.mem_of_find?_eq_some hx)
  exact ⟨u, hu, rfl⟩
set_option maxHeartbeats 4000000 in
set_option maxRecDepth 100000 in
theorem rapply_any (M : Nat → Prop) (w : World) (hM : ∀ b, M b → b < w.heap.size) (nm : ByteArray) (A : Option Addr) (n c : Nat) (cs : List Col) (nx : Int) (B : Option Addr) (m d : Nat) (l : List Rw) (I : Option Addr) (ni ci : Nat) (ins : List Sl) (D : Option Addr) (nd cd : Nat) (dels : List Int) (U : Option Addr) (nu cu : Nat) (us : List Pr)
    (hC : Ro w M (SlR 4 A n (colCells cs))) (hE : Ro w M (RwsIn B m l)) (hI : Ro w M (SlsIn I ni ins)) (hD : Ro w M (IsIn D nd dels)) (hU : Ro w M (PrsIn U nu us)) (hn : n ≤ 9223372036854775807) (hm : m ≤ 4611686018427387904) (hok : ∀ r ∈ l, r.ok) (hrn : ∀ r ∈ l, r.n ≤ 4398046511104) (hpn : ∀ p ∈ us, p.on ≤ 9223372036854775807) (hs : nm.size ≤ maxLen) (hcs : ∀ x ∈ cs, x.name.size ≤ maxLen)
    (hni : ni ≤ 1000000000000000) (hnd : nd ≤ 1000000000000000) (hnu : nu ≤ 4398046511104) (hoi : ∀ s ∈ ins, s.ok) (hou : ∀ u ∈ us, u.ok) :
    Calls Tryz.prog 24 #[.agg #[.string nm, .slice A n c, .int .i64 nx, .slice B m d], .agg #[.slice I ni ci, .slice D nd cd, .slice U nu cu]] w fun e w' => ApplyRet w M (applyC nm cs nx (l.map Rw.row) (ins.map Sl.vs) dels (us.map Pr.upd)) e w' := by
  have HUL := hid hU.now.len
  have HIL := hid hI.now.len
  have HRL := hid hE.now.len
  have HDL := hid hD.now.len
  have HCL := hid (show cs.length = n from (RdC.of_sl hC.now).len)
  have HEN := hid hE.now
  have HUN := hid hU.now
  have HIN := hid hI.now
  have K0 := ((((((((Hold.start M w hM).add (hU.less (by simp [Mut]))).add (hD.less (by simp [Mut, Hp.foot]))).add (hI.less (by simp [Mut, Hp.foot]))).add (hE.less (by simp [Mut, Hp.foot]))).add (hC.less (by simp [Mut, Hp.foot]))).alloc_cst #[.string nm, .slice A n c, .int .i64 nx, .slice B m d] 58).alloc_cst #[.slice I ni ci, .slice D nd cd, .slice U nu cu] 76).alloc #[.string ⟨#[]⟩, .slice none 0 0, .int .i64 0, .slice none 0 0] 58
  simp only [World.size_alloc] at K0
  have F0 := K0.facts
  simp only [World.size_alloc, World.size_drew, factsL, cellsF, Nat.reduceAdd, List.toList_toArray, List.set_cons_zero, List.set_cons_succ, List.setIfInBounds_toArray, and_true, true_and] at F0
  clear hC hI hD hU hE
  go_enter Tryz.func24, Tryz.ntmps24
  go_wp2_with fail
  refine (rkvalid_any _ _ K0.mutLt nm A n c cs nx B m d l I ni ci ins D nd cd dels U nu cu us (K0.ro 3 rfl) (K0.ro 4 rfl) (K0.ro 5 rfl) (K0.ro 6 rfl) (K0.ro 7 rfl) hn hm hok hrn hpn hs hcs (by omega) (by omega) hnu).mono ?_
  rintro e w1 ⟨rfl, b1⟩
  have K1 := K0.call b1
  clear K0 b1 F0
  have F1 := K1.facts
  simp only [World.size_alloc, World.size_drew, factsL, cellsF, Nat.reduceAdd, List.toList_toArray, List.set_cons_zero, List.set_cons_succ, List.setIfInBounds_toArray, and_true, true_and] at F1
  cases hcb : chgB nm cs nx (l.map Rw.row) (ins.map Sl.vs) dels (us.map Pr.upd)
  · have HN := hid (show applyC nm cs nx (l.map Rw.row) (ins.map Sl.vs) dels (us.map Pr.upd) = (17, zeroT) by unfold applyC; rw [hcb]; rfl)
    clear hcb
    have KN := (((K1.store 0 rfl 0 (.string ⟨#[]⟩)).store 0 rfl 1 (.slice none 0 0)).store 0 rfl 2 (.int .i64 0)).store 0 rfl 3 (.slice none 0 0)
    go_wp2_with fail
    exact bodyPost_ret (v := .tuple #[.agg #[.string ⟨#[]⟩, .slice none 0 0, .int .i64 0, .slice none 0 0], .int .i64 (17)]) (by simp [results, Tryz.results24, go_sem, F1]) rfl ⟨_, by rw [HN.out], by rw [HN.out]; exact tbAt_zero, KN.below⟩
  have htb : tabB nm cs nx (l.map Rw.row) = true := (chgB_ok hcb).1
  have hshort := hid (rw_short HEN.out htb)
  obtain ⟨hm100, hnx1, hnx2⟩ := tabB_rows htb
  rw [List.length_map, HRL.out] at hm100
  have hn6 : n ≤ 6 := by have := tabB_cols htb; have := HCL.out; omega
  have HCB := hid hcb
  have HOK := hid hok
  have HOI := hid hoi
  have HOU := hid hou
  have HRN := hid hrn
  clear hcb htb hok hoi hou hrn hpn hcs
  go_wp2_with fail
  clear F1
  go_loopw [28] (fun iv wr => ∃ (j : Nat), j ≤ nu ∧ iv = .int .i64 j ∧ Hid (firstE cs (us.map Pr.new) = firstE cs ((us.map Pr.new).drop j)) ∧ Hold M none w wr [.blk (w.heap.size + 1 + 1) 58 #[.string ⟨#[]⟩, .slice none 0 0, .int .i64 0, .slice none 0 0], .cst (w.heap.size + 1) 76 #[.slice I ni ci, .slice D nd cd, .slice U nu cu], .cst w.heap.size 58 #[.string nm, .slice A n c, .int .i64 nx, .slice B m d], .ro (SlR 4 A n (colCells cs)), .ro (RwsIn B m l), .ro (SlsIn I ni ins), .ro (IsIn D nd dels), .ro (PrsIn U nu us)]) (fun iv _ => nu - (intOf iv).toNat)
  case atStart => exact ⟨0, by omega, rfl, hid rfl, K1⟩
  case round =>
    clear K1
    obtain ⟨j, hj, rfl, HS, H⟩ := hrel
    by_cases hlt : j < nu
    · have hdd : decide ((j : Int) < (nu : Int)) = true := by simp; omega
      have j0 : (0 : Int) ≤ (j : Int) := by omega
      obtain ⟨u, hu⟩ := get_of HUL.out hlt
      obtain ⟨b, o, rfl, hb, c0, c1, c2, _⟩ := (H.ro 7 rfl).now.at_ hu
      have HX := hid (show (us.map Pr.new)[j]? = some u.new by simp [hu])
      have HUM := hid (List.mem_of_getElem? hu)
      have huok := HOU.out u HUM.out
      have K1 := H.alloc_cst #[.int .i64 u.id, .slice u.oA u.on u.oc, .slice u.nA u.nn u.nc] 110
      clear hu
      have F1 := K1.facts
      simp only [World.size_alloc, World.size_drew, factsL, cellsF, Nat.reduceAdd, List.toList_toArray, List.set_cons_zero, List.set_cons_succ, List.setIfInBounds_toArray, and_true, true_and] at F1
      have hVR : Ro _ (Mut M _) (VlsIn u.nA u.nn u.new) := (K1.ro 8 rfl).imp fun w2 h2 => (h2.2 u HUM.out).2
      go_wp2_with fail
      refine (rtfits_any _ _ K1.mutLt nm A n c cs u.nA u.nn u.nc u.new (K1.ro 4 rfl) hVR hn (Nat.le_trans huok.nc huok.nc2) huok.new).mono ?_
      rintro e w3 ⟨rfl, b3⟩
      have K3 := (K1.call b3).drop (List.sublist_cons_self _ _)
      clear K1 F1 b3 hVR H
      have F3 := K3.facts
      simp only [World.size_alloc, World.size_drew, factsL, cellsF, Nat.reduceAdd, List.toList_toArray, List.set_cons_zero, List.set_cons_succ, List.setIfInBounds_toArray, and_true, true_and] at F3
      by_cases hz : fitsT cs u.new = 0
      · have HN := hid (show firstE cs (us.map Pr.new) = firstE cs ((us.map Pr.new).drop (j + 1)) by rw [HS.out]; exact firstE_good HX.out hz)
        rw [hz]
        clear hz
        go_wp2_with fail
        go_roundw
        case rel => exact ⟨j + 1, by omega, by go_num, HN, K3⟩
        case measure => simp [intOf]; omega
      · have hz2 : (fitsT cs u.new != 0) = true := by simp [hz]
        have HF2 := hid (show fitsC cs (us.map Pr.new) (ins.map Sl.vs) = fitsT cs u.new by unfold fitsC; rw [HS.out, firstE_bad HX.out hz, if_neg hz])
        have HN := hid (show applyC nm cs nx (l.map Rw.row) (ins.map Sl.vs) dels (us.map Pr.upd) = (fitsT cs u.new, zeroT) by
          have hmm : (us.map Pr.upd).map (·.2.2) = us.map Pr.new := by rw [List.map_map]; rfl
          unfold applyC; rw [HCB.out, hmm, HF2.out, if_neg (by simp), if_pos hz])
        clear hz
        have KN := (((K3.store 0 rfl 0 (.string ⟨#[]⟩)).store 0 rfl 1 (.slice none 0 0)).store 0 rfl 2 (.int .i64 0)).store 0 rfl 3 (.slice none 0 0)
        go_wp2_with fail
        exact bodyPost_ret (v := .tuple #[.agg #[.string ⟨#[]⟩, .slice none 0 0, .int .i64 0, .slice none 0 0], .int .i64 (fitsT cs u.new)]) (by simp [results, Tryz.results24, go_sem, F3]) rfl ⟨_, by rw [HN.out], by rw [HN.out]; exact tbAt_zero, KN.below⟩
    · obtain rfl : j = nu := by omega
      have hdd : decide ((j : Int) < (j : Int)) = false := by simp
      have HF := hid (show fitsC cs (us.map Pr.new) (ins.map Sl.vs) = firstE cs (ins.map Sl.vs) by unfold fitsC; rw [HS.out, firstE_end (by rw [List.length_map, HUL.out]; exact Nat.le_refl _), if_pos rfl])
      have F5 := H.facts
      simp only [World.size_alloc, World.size_drew, factsL, cellsF, Nat.reduceAdd, List.toList_toArray, List.set_cons_zero, List.set_cons_succ, List.setIfInBounds_toArray, and_true, true_and] at F5
      go_wp2_with fail
      clear F5
      go_loopw [45] (fun iv wr => ∃ (k : Nat), k ≤ ni ∧ iv = .int .i64 k ∧ Hid (firstE cs (ins.map Sl.vs) = firstE cs ((ins.map Sl.vs).drop k)) ∧ Hold M none w wr [.blk (w.heap.size + 1 + 1) 58 #[.string ⟨#[]⟩, .slice none 0 0, .int .i64 0, .slice none 0 0], .cst (w.heap.size + 1) 76 #[.slice I ni ci, .slice D nd cd, .slice U j cu], .cst w.heap.size 58 #[.string nm, .slice A n c, .int .i64 nx, .slice B m d], .ro (SlR 4 A n (colCells cs)), .ro (RwsIn B m l), .ro (SlsIn I ni ins), .ro (IsIn D nd dels), .ro (PrsIn U j us)]) (fun iv _ => ni - (intOf iv).toNat)
      case atStart => exact ⟨0, by omega, rfl, hid rfl, H⟩
      case round =>
        clear H
        obtain ⟨k, hk, rfl, HS2, H⟩ := hrel
        by_cases hlt2 : k < ni
        · have hdd2 : decide ((k : Int) < (ni : Int)) = true := by simp; omega
          have k0 : (0 : Int) ≤ (k : Int) := by omega
          obtain ⟨s, hx⟩ := get_of HIL.out hlt2
          obtain ⟨b, o, rfl, hb, c0, _⟩ := (H.ro 5 rfl).now.at_ hx
          have HX := hid (show (ins.map Sl.vs)[k]? = some s.vs by simp [hx])
          have HSM := hid (List.mem_of_getElem? hx)
          have hsok := HOI.out s HSM.out
          clear hx
          have F1 := H.facts
          simp only [World.size_alloc, World.size_drew, factsL, cellsF, Nat.reduceAdd, List.toList_toArray, List.set_cons_zero, List.set_cons_succ, List.setIfInBounds_toArray, and_true, true_and] at F1
          have hVR : Ro _ (Mut M _) (VlsIn s.A s.n s.vs) := (H.ro 5 rfl).imp fun w2 h2 => h2.2 s HSM.out
          go_wp2_with fail
          refine (rtfits_any _ _ H.mutLt nm A n c cs s.A s.n s.c s.vs (H.ro 3 rfl) hVR hn (Nat.le_trans hsok.nc hsok.c) hsok.vs).mono ?_
          rintro e w3 ⟨rfl, b3⟩
          have K3 := H.call b3
          clear F1 b3 hVR H
          have F3 := K3.facts
          simp only [World.size_alloc, World.size_drew, factsL, cellsF, Nat.reduceAdd, List.toList_toArray, List.set_cons_zero, List.set_cons_succ, List.setIfInBounds_toArray, and_true, true_and] at F3
          by_cases hz : fitsT cs s.vs = 0
          · have HN := hid (show firstE cs (ins.map Sl.vs) = firstE cs ((ins.map Sl.vs).drop (k + 1)) by rw [HS2.out]; exact firstE_good HX.out hz)
            rw [hz]
            clear hz
            go_wp2_with fail
            go_roundw
            case rel => exact ⟨k + 1, by omega, by go_num, HN, K3⟩
            case measure => simp [intOf]; omega
          · have hz2 : (fitsT cs s.vs != 0) = true := by simp [hz]
            have HF2 := hid (show fitsC cs (us.map Pr.new) (ins.map Sl.vs) = fitsT cs s.vs by rw [HF.out, HS2.out, firstE_bad HX.out hz])
            have HN := hid (show applyC nm cs nx (l.map Rw.row) (ins.map Sl.vs) dels (us.map Pr.upd) = (fitsT cs s.vs, zeroT) by
              have hmm : (us.map Pr.upd).map (·.2.2) = us.map Pr.new := by rw [List.map_map]; rfl
              unfold applyC; rw [HCB.out, hmm, HF2.out, if_neg (by simp), if_pos hz])
            clear hz
            have KN := (((K3.store 0 rfl 0 (.string ⟨#[]⟩)).store 0 rfl 1 (.slice none 0 0)).store 0 rfl 2 (.int .i64 0)).store 0 rfl 3 (.slice none 0 0)
            go_wp2_with fail
            exact bodyPost_ret (v := .tuple #[.agg #[.string ⟨#[]⟩, .slice none 0 0, .int .i64 0, .slice none 0 0], .int .i64 (fitsT cs s.vs)]) (by simp [results, Tryz.results24, go_sem, F3]) rfl ⟨_, by rw [HN.out], by rw [HN.out]; exact tbAt_zero, KN.below⟩
        · obtain rfl : k = ni := by omega
          have hdd2 : decide ((k : Int) < (k : Int)) = false := by simp
          have HFZ := hid (show fitsC cs ((us.map Pr.upd).map (·.2.2)) (ins.map Sl.vs) = 0 by
            have hmm : (us.map Pr.upd).map (·.2.2) = us.map Pr.new := by rw [List.map_map]; rfl
            rw [hmm, HF.out, HS2.out]
            exact firstE_end (by rw [List.length_map, HIL.out]; exact Nat.le_refl _))
          clear HS HS2 HF
          have F1 := H.facts
          simp only [World.size_alloc, World.size_drew, factsL, cellsF, Nat.reduceAdd, List.toList_toArray, List.set_cons_zero, List.set_cons_succ, List.setIfInBounds_toArray, and_true, true_and] at F1
          go_wp2_with fail
          obtain ⟨KL, hKL, KN⟩ := H.name
          have HFF : Hid (∀ wv, Hold M none w wv KL → wv.cell? ⟨w.heap.size, 0, none⟩ = some (.string nm) ∧ wv.cell? ⟨w.heap.size, 1, none⟩ = some (.slice A n c) ∧ wv.cell? ⟨w.heap.size, 2, none⟩ = some (.int .i64 nx) ∧ wv.cell? ⟨w.heap.size, 3, none⟩ = some (.slice B m d) ∧ w.heap.size < wv.heap.size) := hid fun wv HC => by
            rw [hKL] at HC
            have y0 := HC.cst_ 2 rfl
            exact ⟨cell_of_row _ _ 0 _ _ _ y0, cell_of_row _ _ 1 _ _ _ y0, cell_of_row _ _ 2 _ _ _ y0, cell_of_row _ _ 3 _ _ _ y0, Blk.lt y0⟩
          have HRX : Hid (∀ wv, Hold M none w wv KL → Ro wv (Mut M KL) (ColsIn A n cs) ∧ Ro wv (Mut M KL) (RwsIn B m l)) := hid fun wv HC => by
            rw [hKL] at HC ⊢
            exact ⟨HC.ro 3 rfl, HC.ro 4 rfl⟩
          have HKL := hid hKL
          clear hKL H F1
          obtain ⟨Ha, hHa⟩ : ∃ Ha, Ha = wr.drew.heap.size := ⟨_, rfl⟩
          have HHa := hid hHa
          clear hHa
          refine wp_region_any (by kernel_rfl) ?_
          refine wpAny_hold 7 143 (KL) (spL [(59, TcSlot (Mut M KL) nm cs nx), (12, NewSlot (Mut M KL) Ha 58 #[.string ⟨#[]⟩, .slice none 0 0, .int .i64 0, .slice none 0 0])]) (by kernel_rfl) (by kernel_rfl) (by kernel_rfl) rfl ?_ (KN.drew) ?_
          · exact stays_cons tcSlot_mono (stays_cons newSlot_mono (stays_nil _))
          simp only [List.take_succ_cons, List.take_zero, List.drop_succ_cons, List.drop_zero, Act.put, List.getElem_toArray, List.getElem_cons_zero, List.getElem_cons_succ, List.setIfInBounds_toArray, List.set_cons_succ, List.set_cons_zero]
          refine dw_val rfl rfl rfl ?_; apply Exists.intro; refine ⟨fun wv HC => ?_, ?_⟩
          · obtain ⟨f0, f1, f2, f3, f4⟩ := HFF.out _ HC; go_simp <;> rfl
          simp only [Act.put, List.setIfInBounds_toArray, List.set_cons_succ, List.set_cons_zero]
          refine dw_callR 59 (TcSlot (Mut M KL) nm cs nx) (f := 74) (args := #[.agg #[.string nm, .slice A n c, .int .i64 nx, .slice B m d]]) rfl rfl rfl rfl (fun wv => ?_) (fun wv HC hrm hD => ?_) ?_
          · go_simp <;> rfl
          · refine (rtcopy_any _ wv HC.mutLt nm A n c cs nx B m d l (HRX.out _ HC).1 (HRX.out _ HC).2 (by omega) (by omega) HRN.out).mono ?_
            rintro e w5 ⟨A5, n5, c5, B5, m5, d5, rfl, h51, h52, h53, b5⟩
            exact ⟨_, rfl, ⟨A5, n5, c5, B5, m5, d5, rfl, h51, h52, h53⟩, HC.call b5, RM.below b5⟩
          rintro x_ wx HCx ⟨A5, n5, c5, B5, m5, d5, rfl, h51, h52, h53⟩
          simp only [Act.put, List.setIfInBounds_toArray, List.set_cons_succ, List.set_cons_zero]
          have hn5 : n5 = n := by have h7 := (RdC.of_sl h53.now).len; have := HCL.out; omega
          clear HCx h53
          refine dw_val rfl rfl rfl ⟨.agg #[.string nm, .slice A5 n5 c5], fun wv HC => ?_, ?_⟩
          · go_simp <;> first | rfl | kernel_rfl
          simp only [Act.put, List.setIfInBounds_toArray, List.set_cons_succ, List.set_cons_zero]
          refine dw_val rfl rfl rfl ?_; apply Exists.intro; refine ⟨fun wv HC => ?_, ?_⟩
          ·  go_simp <;> rfl
          simp only [Act.put, List.setIfInBounds_toArray, List.set_cons_succ, List.set_cons_zero]
          refine dw_val rfl rfl rfl ?_; apply Exists.intro; refine ⟨fun wv HC => ?_, ?_⟩
          · obtain ⟨f0, f1, f2, f3, f4⟩ := HFF.out _ HC; go_simp <;> rfl
          simp only [Act.put, List.setIfInBounds_toArray, List.set_cons_succ, List.set_cons_zero]
          refine dw_val rfl rfl rfl ⟨.agg #[.string nm, .slice A5 n5 c5, .int .i64 nx, .slice none 0 0], fun wv HC => ?_, ?_⟩
          · go_simp <;> first | rfl | kernel_rfl
          simp only [Act.put, List.setIfInBounds_toArray, List.set_cons_succ, List.set_cons_zero]
          refine dw_new #[.string ⟨#[]⟩, .slice none 0 0, .int .i64 0, .slice none 0 0] 58 12 (NewSlot (Mut M KL) Ha 58 #[.string ⟨#[]⟩, .slice none 0 0, .int .i64 0, .slice none 0 0]) (fun g => .pointer (some ⟨g, 0, none⟩)) rfl rfl rfl rfl (fun wv => ?_) (fun wv HC hrm hD hro => ?_) ?_
          · go_simp <;> rfl
          · exact ⟨_, rfl, by have := hrm.1; rw [HHa.out]; exact this, hro _ HC.mutLt⟩
          rintro g7 wg HCg hsl
          simp only [Act.put, List.setIfInBounds_toArray, List.set_cons_succ, List.set_cons_zero]
          clear hsl HCg
          refine rel_nil ?_
          rintro wx1 HX
          rintro _hrm HGW
          have htc : TcSlot (Mut M KL) nm cs nx (.agg #[.string nm, .slice A5 n5 c5, .int .i64 nx, .slice B5 m5 d5]) wx1 := (GW_on (d := 59) rfl).1 (HGW 1 _ rfl (by omega))
          have hns : NewSlot (Mut M KL) Ha 58 #[.string ⟨#[]⟩, .slice none 0 0, .int .i64 0, .slice none 0 0] (.pointer (some ⟨g7, 0, none⟩)) wx1 := (GW_on (d := 12) rfl).1 (HGW 6 _ rfl (by omega))
          clear HGW
          obtain ⟨gq, hgq, hgH, hgB⟩ := hns
          obtain rfl : g7 = gq := by injection hgq with hgq; injection hgq with hgq; injection hgq
          clear hgq
          rw [HHa.out] at hgH
          have HB := Hold.addFreshBlk KN.drew HX _hrm hgH hgB.now
          obtain ⟨A6, n6, c6, B6, m6, d6, e6, -, -, r6⟩ := htc
          obtain ⟨rfl, rfl, rfl⟩ : A5 = A6 ∧ n5 = n6 ∧ c5 = c6 := by
            injection e6 with e6
            simp only [Array.mk.injEq, List.cons.injEq, Value.slice.injEq, and_true, true_and] at e6
            exact e6.1
          have r7 : Ro wx1 (Mut M (.blk g7 58 #[.string ⟨#[]⟩, .slice none 0 0, .int .i64 0, .slice none 0 0] :: KL)) (ColsIn A5 n5 cs) := (r6.colsOff hgB.now).less fun b hb => (mut_cons.1 hb).elim (fun hf => .inr (by have hf : some g7 = some b := hf; injection hf with hf; exact hf.symm)) .inl
          have K0 := HB.add r7
          rw [HKL.out] at K0
          have FB := K0.facts
          simp only [World.size_alloc, World.size_drew, factsL, cellsF, Nat.reduceAdd, List.toList_toArray, List.set_cons_zero, List.set_cons_succ, List.setIfInBounds_toArray, and_true, true_and] at FB
          have HN5 := hid hn5
          clear hgB hgH HX _hrm HHa KN HFF HRX HKL HB e6 r6 r7 hn5
          have K1 := (((K0.store 1 rfl 0 (.string nm)).store 1 rfl 1 (.slice A5 n5 c5)).store 1 rfl 2 (.int .i64 nx)).store 1 rfl 3 (.slice none 0 0)
          simp only [List.set_cons_zero, List.set_cons_succ, List.setIfInBounds_toArray] at K1
          have K2 := (K1.add (ro_vals_nil _ _)).nil 119 2
          have F2 := K2.facts
          simp only [World.size_alloc, World.size_drew, factsL, cellsF, Nat.reduceAdd, List.toList_toArray, List.set_cons_zero, List.set_cons_succ, List.setIfInBounds_toArray, and_true, true_and] at F2
          clear K0 K1
          go_wp2_with fail
          generalize (((wx1.setCell _ _).setCell _ _).setCell _ _).setCell _ _ = w2 at K2 ⊢
          clear FB F2
          go_loopw [67] (fun iv wr => ∃ (i q cap : Nat) (O : Option Addr) (outs : List Rw), i ≤ m ∧ iv = .int .i64 i ∧ q ≤ i ∧ (∀ r ∈ outs, r.ok) ∧ Hid (outs.map Rw.row = fndR dels (us.map Pr.upd) ((l.map Rw.row).take i)) ∧ Hold M none w wr [.own 119 2 (.slice O q cap) q (rwCells outs), .ro (ValsIn outs), .ro (ColsIn A5 n5 cs), .blk g7 58 #[.string nm, .slice A5 n5 c5, .int .i64 nx, .slice O q cap], .blk (w.heap.size + 1 + 1) 58 #[.string ⟨#[]⟩, .slice none 0 0, .int .i64 0, .slice none 0 0], .cst (w.heap.size + 1) 76 #[.slice I k ci, .slice D nd cd, .slice U j cu], .cst w.heap.size 58 #[.string nm, .slice A n c, .int .i64 nx, .slice B m d], .ro (SlR 4 A n (colCells cs)), .ro (RwsIn B m l), .ro (SlsIn I k ins), .ro (IsIn D nd dels), .ro (PrsIn U j us)]) (fun iv _ => m - (intOf iv).toNat)
          case atStart => exact ⟨0, 0, 0, none, [], by omega, rfl, by omega, (fun r hr => nomatch hr), hid rfl, K2⟩
          case round =>
            clear K2
            obtain ⟨i, q, cap, O, outs, hi, rfl, hq, hoo, HG, H⟩ := hrel
            by_cases hlt3 : i < m
            · have hd3 : decide ((i : Int) < (m : Int)) = true := by simp; omega
              have i0 : (0 : Int) ≤ (i : Int) := by omega
              obtain ⟨r, hr⟩ := get_of HRL.out hlt3
              obtain ⟨b, o, rfl, hb, c0, c1, _⟩ := (H.ro 8 rfl).now.at_ hr
              have HX := hid (show (l.map Rw.row)[i]? = some (r.id, r.vs) by simp [hr, Rw.row])
              have HRM := hid (List.mem_of_getElem? hr)
              have hrok := HOK.out r HRM.out
              have hrn := HRN.out r HRM.out
              have K1 := H.alloc_cst #[.int .i64 r.id, .slice r.A r.n r.c] 119
              clear hr H
              obtain ⟨gr, hgr⟩ : ∃ gr, gr = wr.heap.size := ⟨_, rfl⟩
              rw [← hgr] at K1
              have F1 := K1.facts
              simp only [World.size_alloc, World.size_drew, factsL, cellsF, Nat.reduceAdd, List.toList_toArray, List.set_cons_zero, List.set_cons_succ, List.setIfInBounds_toArray, and_true, true_and] at F1
              go_wp2_with fail
              rw [← hgr]
              have HGR := hid hgr
              clear hgr c0 c1
              refine (rhas_any _ D nd cd dels r.id (K1.ro 11 rfl).now (by omega)).mono ?_
              rintro e w7 ⟨rfl, rfl⟩
              cases hct : dels.contains r.id
              · have HCT := hid hct
                clear hct
                go_wp2_with fail
                obtain ⟨fo, hfo⟩ : ∃ fo, fo = findU (us.map Pr.upd) r.id := ⟨_, rfl⟩
                have hk := rufind_any _ _ K1.mutLt U j cu us r.id (K1.ro 12 rfl) (by omega) HOU.out
                rw [← hfo] at hk
                have HFO := hid hfo
                clear hfo
                refine hk.mono ?_
                clear hk
                rintro e w8 ⟨Af, nf, cf, rfl, hf0, hf1, hf2, hfr, b8⟩
                have K3 := K1.call b8
                clear K1 F1 b8
                cases fo with
                | none =>
                  simp only [Option.isSome_none]
                  have hxr : Ro _ (Mut M _) (VlsIn r.A r.n r.vs) := (K3.ro 9 rfl).imp fun w2 h2 => h2.2 r HRM.out
                  have K4 := K3.add hxr
                  have F4 := K4.facts
                  simp only [World.size_alloc, World.size_drew, factsL, cellsF, Nat.reduceAdd, List.toList_toArray, List.set_cons_zero, List.set_cons_succ, List.setIfInBounds_toArray, and_true, true_and] at F4
                  clear K3 hfr hf0 hf1 hf2 hxr
                  go_wp2_with fail
                  clear F4
                  obtain ⟨KL, hKL, KN⟩ := K4.name
                  have HF : Hid (∀ wv, Hold M none w wv KL → wv.cell? ⟨gr, 0, none⟩ = some (.int .i64 r.id) ∧ wv.cell? ⟨g7, 3, none⟩ = some (.slice O q cap) ∧ gr < wv.heap.size ∧ g7 < wv.heap.size) := hid fun wv HC => by
                    rw [hKL] at HC
                    have y0 := HC.cst_ 1 rfl
                    have y1 := HC.blk_ 5 rfl
                    exact ⟨cell_of_row _ _ 0 _ _ _ y0, cell_of_row _ _ 3 _ _ _ y1, Blk.lt y0, Blk.lt y1⟩
                  have HRX : Hid (∀ wv, Hold M none w wv KL → Ro wv (Mut M KL) (VlsIn r.A r.n r.vs)) := hid fun wv HC => by
                    rw [hKL] at HC ⊢
                    exact HC.ro 0 rfl
                  have HKL := hid hKL
                  clear hKL K4
                  go_wp2_with fail
                  refine wp_region_any (by kernel_rfl) ?_
                  refine wpAny_hold 8 143 (KL) (spL [(93, VlsSlot (Mut M KL) r.vs), (94, RowSlot (Mut M KL) r.id r.vs), (95, RBoxSlot (Mut M KL) r.id r.vs)]) (by kernel_rfl) (by kernel_rfl) (by kernel_rfl) rfl ?_ (KN.drew) ?_
                  · exact stays_cons vlsSlot_mono (stays_cons rowSlot_mono (stays_cons rboxSlot_mono (stays_nil _)))
                  simp only [List.take_succ_cons, List.take_zero, List.drop_succ_cons, List.drop_zero, Act.put, List.getElem_toArray, List.getElem_cons_zero, List.getElem_cons_succ, List.setIfInBounds_toArray, List.set_cons_succ, List.set_cons_zero]
                  refine dw_val rfl rfl rfl ?_; apply Exists.intro; refine ⟨fun wv HC => ?_, ?_⟩
                  ·  go_simp <;> rfl
                  simp only [Act.put, List.setIfInBounds_toArray, List.set_cons_succ, List.set_cons_zero]
                  refine dw_val rfl rfl rfl ?_; apply Exists.intro; refine ⟨fun wv HC => ?_, ?_⟩
                  · obtain ⟨f0, f1, f2, f3⟩ := HF.out _ HC; go_simp <;> rfl
                  simp only [Act.put, List.setIfInBounds_toArray, List.set_cons_succ, List.set_cons_zero]
                  refine dw_val rfl rfl rfl ?_; apply Exists.intro; refine ⟨fun wv HC => ?_, ?_⟩
                  ·  go_simp <;> rfl
                  simp only [Act.put, List.setIfInBounds_toArray, List.set_cons_succ, List.set_cons_zero]
                  refine dw_val rfl rfl rfl ?_; apply Exists.intro; refine ⟨fun wv HC => ?_, ?_⟩
                  · obtain ⟨f0, f1, f2, f3⟩ := HF.out _ HC; go_simp <;> rfl
                  simp only [Act.put, List.setIfInBounds_toArray, List.set_cons_succ, List.set_cons_zero]
                  refine dw_val rfl rfl rfl ?_; apply Exists.intro; refine ⟨fun wv HC => ?_, ?_⟩
                  ·  go_simp <;> rfl
                  simp only [Act.put, List.setIfInBounds_toArray, List.set_cons_succ, List.set_cons_zero]
                  refine dw_callR 93 (VlsSlot (Mut M KL) r.vs) (f := 56) (args := #[.slice r.A r.n r.c]) rfl rfl rfl rfl (fun wv => ?_) (fun wv HC hrm hD => ?_) ?_
                  · go_simp <;> rfl
                  · refine (copyVls_any _ wv HC.mutLt r.A r.n r.c r.vs (HRX.out _ HC) hrn).mono ?_
                    rintro e w5 ⟨A5, n5, c5, rfl, h50, h51, h52, h53, b5⟩
                    exact ⟨_, rfl, ⟨A5, n5, c5, rfl, h50, h51, h52, h53⟩, HC.call b5, RM.below b5⟩
                  rintro x_ wx HCx ⟨A5, n5, c5, rfl, h50, h51, h52, h53⟩
                  simp only [Act.put, List.setIfInBounds_toArray, List.set_cons_succ, List.set_cons_zero]
                  have H50 := hid h50
                  clear HCx h53 h50
                  refine dw_valC 94 (RowSlot (Mut M KL) r.id r.vs) rfl rfl rfl rfl (.agg #[.int .i64 r.id, .slice A5 n5 c5]) (fun wv HC => ?_) (fun wv HC hD => ?_) ?_
                  · go_simp <;> rfl
                  · have hsl : VlsSlot (Mut M KL) r.vs (.slice A5 n5 c5) wv := deps_at hD 5 rfl (by kernel_rfl) rfl rfl
                    obtain ⟨A6, n6, c6, e6, h1, h2, h3, h4⟩ := hsl
                    exact ⟨A6, n6, c6, by rw [e6], h1, h2, h3, h4⟩
                  simp only [Act.put, List.setIfInBounds_toArray, List.set_cons_succ, List.set_cons_zero]
                  refine dw_new #[.int .i64 r.id, .slice A5 n5 c5] 119 95 (RBoxSlot (Mut M KL) r.id r.vs) (fun g => .slice (some ⟨g, 0, none⟩) 1 1) rfl rfl rfl rfl (fun wv => ?_) (fun wv HC _hrm hD hro => ?_) ?_
                  · go_simp <;> rfl
                  · have hsl : RowSlot (Mut M KL) r.id r.vs (.agg #[.int .i64 r.id, .slice A5 n5 c5]) wv := deps_at hD 6 rfl (by kernel_rfl) rfl rfl
                    obtain ⟨A6, n6, c6, e6, h1, h2, h3, h4⟩ := hsl
                    obtain ⟨rfl, rfl, rfl⟩ : A5 = A6 ∧ n5 = n6 ∧ c5 = c6 := by
                      injection e6 with e6
                      simp at e6
                      exact e6
                    exact ⟨_, A5, n5, c5, rfl, h1, h2, h3, h4.step (by simp) (fun b hb _ => Below.heap_alloc wv _ b hb) (fun _ _ h => h), ro_block (hro _ HC.mutLt) rfl⟩
                  rintro g2 wg HCg hsl
                  simp only [Act.put, List.setIfInBounds_toArray, List.set_cons_succ, List.set_cons_zero]
                  clear hsl HCg
                  refine rel_nil ?_
                  rintro wx2 HX
                  rintro _hrm HGW
                  have hb2 : RBoxSlot (Mut M KL) r.id r.vs (.slice (some ⟨g2, 0, none⟩) 1 1) wx2 := (GW_on (d := 95) rfl).1 (HGW 7 _ rfl (by omega))
                  clear HGW _hrm
                  obtain ⟨g3, A6, n6, c6, e6, k0_, k1_, k2_, k3_, k4_⟩ := hb2
                  obtain rfl : g2 = g3 := by injection e6 with e6; injection e6 with e6; injection e6
                  clear e6
                  rw [HKL.out] at HX k3_
                  have k5 := hid k4_.now
                  have HK0 := hid k0_
                  clear k4_ k0_ HF HRX KN
                  have HRS := hid (show rwCells outs ++ [.int .i64 r.id, .slice A6 n6 c6] = rwCells (outs ++ [⟨r.id, A6, n6, c6, r.vs⟩]) from rwCells_snoc1 _ _ _ _ _ _)
                  have KA := HX.add k3_
                  clear HX k3_
                  have FKA := KA.facts
                  simp only [World.size_alloc, World.size_drew, factsL, cellsF, Nat.reduceAdd, List.toList_toArray, List.set_cons_zero, List.set_cons_succ, List.setIfInBounds_toArray, and_true, true_and] at FKA
                  go_wp2_with (at_builtin; go_must (refine wpList_appAllH KA 3 rfl Tryz.elRw k5.out rfl (.tmp 89) (.tmp 95) rfl rfl rfl (by intro z hz; simp at hz; rcases hz with rfl | rfl <;> rfl) (by omega) (by omega) ?_); intro C' cap' w6 hc6 hm6 KB; rw [HRS.out] at KB; simp only [List.set_cons_zero, List.set_cons_succ] at KB; (have F3 := KB.facts); simp only [World.size_alloc, World.size_drew, factsL, cellsF, Nat.reduceAdd, List.toList_toArray, List.set_cons_zero, List.set_cons_succ, List.setIfInBounds_toArray, and_true, true_and] at F3)
                  have KC := KB.store 6 rfl 3 (.slice C' (q + 1) cap')
                  have KE := (KC.swapRo 4 rfl (vals_snoc (r := ⟨r.id, A6, n6, c6, r.vs⟩) (KC.ro 4 rfl) (KC.ro 0 rfl))).drop (List.Sublist.cons _ (List.Sublist.cons _ (List.sublist_cons_self _ _)))
                  simp only [cellsF, List.set_cons_zero, List.set_cons_succ, List.setIfInBounds_toArray] at KE
                  have HGN := hid (show List.map Rw.row (outs ++ [⟨r.id, A6, n6, c6, r.vs⟩]) = fndR dels (us.map Pr.upd) ((l.map Rw.row).take (i + 1)) by
                    rw [List.map_append, HG.out, fndR_keep HX.out HCT.out]
                    show _ = _ ++ [(r.id, (findU (us.map Pr.upd) r.id).getD r.vs)]
                    rw [← HFO.out]; rfl)
                  go_roundw
                  case rel => exact ⟨i + 1, q + 1, cap', C', _, by omega, by go_num, by omega, by intro x hx; rcases List.mem_append.1 hx with hx | hx; (exact hoo x hx); (simp at hx; subst hx; exact ⟨hrok.id, k1_, k2_, hrok.vs⟩), HGN, KE⟩
                  case measure => simp [intOf]; omega
                | some v =>
                  simp only [Option.isSome_some, Option.getD_some] at hfr hf0 ⊢
                  obtain ⟨u, hu, rfl⟩ := findU_mem HFO.out.symm
                  have huo := HOU.out u hu
                  have hv6 : nf ≤ 6 := by
                    have h1 := fitsT_len ((fitsC_all HFZ.out).1 u.new (List.mem_map.2 ⟨u.upd, List.mem_map_of_mem hu, rfl⟩))
                    have := HCL.out
                    omega
                  have K4 := K3.add hfr
                  have F4 := K4.facts
                  simp only [World.size_alloc, World.size_drew, factsL, cellsF, Nat.reduceAdd, List.toList_toArray, List.set_cons_zero, List.set_cons_succ, List.setIfInBounds_toArray, and_true, true_and] at F4
                  clear K3 hfr hf0 hf1 hf2 hu
                  go_wp2_with fail
                  clear F4
                  obtain ⟨KL, hKL, KN⟩ := K4.name
                  have HF : Hid (∀ wv, Hold M none w wv KL → wv.cell? ⟨gr, 0, none⟩ = some (.int .i64 r.id) ∧ wv.cell? ⟨g7, 3, none⟩ = some (.slice O q cap) ∧ gr < wv.heap.size ∧ g7 < wv.heap.size) := hid fun wv HC => by
                    rw [hKL] at HC
                    have y0 := HC.cst_ 1 rfl
                    have y1 := HC.blk_ 5 rfl
                    exact ⟨cell_of_row _ _ 0 _ _ _ y0, cell_of_row _ _ 3 _ _ _ y1, Blk.lt y0, Blk.lt y1⟩
                  have HRX : Hid (∀ wv, Hold M none w wv KL → Ro wv (Mut M KL) (VlsIn Af nf u.new)) := hid fun wv HC => by
                    rw [hKL] at HC ⊢
                    exact HC.ro 0 rfl
                  have HKL := hid hKL
                  clear hKL K4
                  go_wp2_with fail
                  refine wp_region_any (by kernel_rfl) ?_
                  refine wpAny_hold 8 143 (KL) (spL [(93, VlsSlot (Mut M KL) u.new), (94, RowSlot (Mut M KL) r.id u.new), (95, RBoxSlot (Mut M KL) r.id u.new)]) (by kernel_rfl) (by kernel_rfl) (by kernel_rfl) rfl ?_ (KN.drew) ?_
                  · exact stays_cons vlsSlot_mono (stays_cons rowSlot_mono (stays_cons rboxSlot_mono (stays_nil _)))
                  simp only [List.take_succ_cons, List.take_zero, List.drop_succ_cons, List.drop_zero, Act.put, List.getElem_toArray, List.getElem_cons_zero, List.getElem_cons_succ, List.setIfInBounds_toArray, List.set_cons_succ, List.set_cons_zero]
                  refine dw_val rfl rfl rfl ?_; apply Exists.intro; refine ⟨fun wv HC => ?_, ?_⟩
                  ·  go_simp <;> rfl
                  simp only [Act.put, List.setIfInBounds_toArray, List.set_cons_succ, List.set_cons_zero]
                  refine dw_val rfl rfl rfl ?_; apply Exists.intro; refine ⟨fun wv HC => ?_, ?_⟩
                  · obtain ⟨f0, f1, f2, f3⟩ := HF.out _ HC; go_simp <;> rfl
                  simp only [Act.put, List.setIfInBounds_toArray, List.set_cons_succ, List.set_cons_zero]
                  refine dw_val rfl rfl rfl ?_; apply Exists.intro; refine ⟨fun wv HC => ?_, ?_⟩
                  ·  go_simp <;> rfl
                  simp only [Act.put, List.setIfInBounds_toArray, List.set_cons_succ, List.set_cons_zero]
                  refine dw_val rfl rfl rfl ?_; apply Exists.intro; refine ⟨fun wv HC => ?_, ?_⟩
                  · obtain ⟨f0, f1, f2, f3⟩ := HF.out _ HC; go_simp <;> rfl
                  simp only [Act.put, List.setIfInBounds_toArray, List.set_cons_succ, List.set_cons_zero]
                  refine dw_val rfl rfl rfl ?_; apply Exists.intro; refine ⟨fun wv HC => ?_, ?_⟩
                  ·  go_simp <;> rfl
                  simp only [Act.put, List.setIfInBounds_toArray, List.set_cons_succ, List.set_cons_zero]
                  refine dw_callR 93 (VlsSlot (Mut M KL) u.new) (f := 56) (args := #[.slice Af nf cf]) rfl rfl rfl rfl (fun wv => ?_) (fun wv HC hrm hD => ?_) ?_
                  · go_simp <;> rfl
                  · refine (copyVls_any _ wv HC.mutLt Af nf cf u.new (HRX.out _ HC) (by omega)).mono ?_
                    rintro e w5 ⟨A5, n5, c5, rfl, h50, h51, h52, h53, b5⟩
                    exact ⟨_, rfl, ⟨A5, n5, c5, rfl, h50, h51, h52, h53⟩, HC.call b5, RM.below b5⟩
                  rintro x_ wx HCx ⟨A5, n5, c5, rfl, h50, h51, h52, h53⟩
                  simp only [Act.put, List.setIfInBounds_toArray, List.set_cons_succ, List.set_cons_zero]
                  have H50 := hid h50
                  clear HCx h53 h50
                  refine dw_valC 94 (RowSlot (Mut M KL) r.id u.new) rfl rfl rfl rfl (.agg #[.int .i64 r.id, .slice A5 n5 c5]) (fun wv HC => ?_) (fun wv HC hD => ?_) ?_
                  · go_simp <;> rfl
                  · have hsl : VlsSlot (Mut M KL) u.new (.slice A5 n5 c5) wv := deps_at hD 5 rfl (by kernel_rfl) rfl rfl
                    obtain ⟨A6, n6, c6, e6, h1, h2, h3, h4⟩ := hsl
                    exact ⟨A6, n6, c6, by rw [e6], h1, h2, h3, h4⟩
                  simp only [Act.put, List.setIfInBounds_toArray, List.set_cons_succ, List.set_cons_zero]
                  refine dw_new #[.int .i64 r.id, .slice A5 n5 c5] 119 95 (RBoxSlot (Mut M KL) r.id u.new) (fun g => .slice (some ⟨g, 0, none⟩) 1 1) rfl rfl rfl rfl (fun wv => ?_) (fun wv HC _hrm hD hro => ?_) ?_
                  · go_simp <;> rfl
                  · have hsl : RowSlot (Mut M KL) r.id u.new (.agg #[.int .i64 r.id, .slice A5 n5 c5]) wv := deps_at hD 6 rfl (by kernel_rfl) rfl rfl
                    obtain ⟨A6, n6, c6, e6, h1, h2, h3, h4⟩ := hsl
                    obtain ⟨rfl, rfl, rfl⟩ : A5 = A6 ∧ n5 = n6 ∧ c5 = c6 := by
                      injection e6 with e6
                      simp at e6
                      exact e6
                    exact ⟨_, A5, n5, c5, rfl, h1, h2, h3, h4.step (by simp) (fun b hb _ => Below.heap_alloc wv _ b hb) (fun _ _ h => h), ro_block (hro _ HC.mutLt) rfl⟩
                  rintro g2 wg HCg hsl
                  simp only [Act.put, List.setIfInBounds_toArray, List.set_cons_succ, List.set_cons_zero]
                  clear hsl HCg
                  refine rel_nil ?_
                  rintro wx2 HX
                  rintro _hrm HGW
                  have hb2 : RBoxSlot (Mut M KL) r.id u.new (.slice (some ⟨g2, 0, none⟩) 1 1) wx2 := (GW_on (d := 95) rfl).1 (HGW 7 _ rfl (by omega))
                  clear HGW _hrm
                  obtain ⟨g3, A6, n6, c6, e6, k0_, k1_, k2_, k3_, k4_⟩ := hb2
                  obtain rfl : g2 = g3 := by injection e6 with e6; injection e6 with e6; injection e6
                  clear e6
                  rw [HKL.out] at HX k3_
                  have k5 := hid k4_.now
                  have HK0 := hid k0_
                  clear k4_ k0_ HF HRX KN
                  have HRS := hid (show rwCells outs ++ [.int .i64 r.id, .slice A6 n6 c6] = rwCells (outs ++ [⟨r.id, A6, n6, c6, u.new⟩]) from rwCells_snoc1 _ _ _ _ _ _)
                  have KA := HX.add k3_
                  clear HX k3_
                  have FKA := KA.facts
                  simp only [World.size_alloc, World.size_drew, factsL, cellsF, Nat.reduceAdd, List.toList_toArray, List.set_cons_zero, List.set_cons_succ, List.setIfInBounds_toArray, and_true, true_and] at FKA
                  go_wp2_with (at_builtin; go_must (refine wpList_appAllH KA 3 rfl Tryz.elRw k5.out rfl (.tmp 89) (.tmp 95) rfl rfl rfl (by intro z hz; simp at hz; rcases hz with rfl | rfl <;> rfl) (by omega) (by omega) ?_); intro C' cap' w6 hc6 hm6 KB; rw [HRS.out] at KB; simp only [List.set_cons_zero, List.set_cons_succ] at KB; (have F3 := KB.facts); simp only [World.size_alloc, World.size_drew, factsL, cellsF, Nat.reduceAdd, List.toList_toArray, List.set_cons_zero, List.set_cons_succ, List.setIfInBounds_toArray, and_true, true_and] at F3)
                  have KC := KB.store 6 rfl 3 (.slice C' (q + 1) cap')
                  have KE := (KC.swapRo 4 rfl (vals_snoc (r := ⟨r.id, A6, n6, c6, u.new⟩) (KC.ro 4 rfl) (KC.ro 0 rfl))).drop (List.Sublist.cons _ (List.Sublist.cons _ (List.sublist_cons_self _ _)))
                  simp only [cellsF, List.set_cons_zero, List.set_cons_succ, List.setIfInBounds_toArray] at KE
                  have HGN := hid (show List.map Rw.row (outs ++ [⟨r.id, A6, n6, c6, u.new⟩]) = fndR dels (us.map Pr.upd) ((l.map Rw.row).take (i + 1)) by
                    rw [List.map_append, HG.out, fndR_keep HX.out HCT.out]
                    show _ = _ ++ [(r.id, (findU (us.map Pr.upd) r.id).getD r.vs)]
                    rw [← HFO.out]; rfl)
                  go_roundw
                  case rel => exact ⟨i + 1, q + 1, cap', C', _, by omega, by go_num, by omega, by intro x hx; rcases List.mem_append.1 hx with hx | hx; (exact hoo x hx); (simp at hx; subst hx; exact ⟨hrok.id, k1_, k2_, huo.new⟩), HGN, KE⟩
                  case measure => simp [intOf]; omega
              · have HN := hid (show outs.map Rw.row = fndR dels (us.map Pr.upd) ((l.map Rw.row).take (i + 1)) by rw [HG.out, fndR_skip HX.out hct])
                go_wp2_with fail
                go_roundw
                case rel => exact ⟨i + 1, q, cap, O, outs, by omega, by go_num, by omega, hoo, HN, K1.drop (List.sublist_cons_self _ _)⟩
                case measure => simp [intOf]; omega
            · obtain rfl : i = m := by omega
              have hd3 : decide ((i : Int) < (i : Int)) = false := by simp
              have HGF := hid (show outs.map Rw.row = goR dels (l.map Rw.row) (us.map Pr.upd) by rw [HG.out, List.take_of_length_le (by rw [List.length_map, HRL.out]; exact Nat.le_refl _), fndR_eq HCB.out])
              have hql : (q : Int) = (i : Int) - (nd : Int) := by
                have KS := H.sealRow 0 rfl
                simp only [List.set_cons_zero] at KS
                have h1 := (show Ro _ _ (RwsIn O q outs) from (KS.ro 0 rfl).and (KS.ro 1 rfl)).now.len
                have h2 := goR_len2 HCB.out
                rw [← HGF.out, List.length_map, List.length_map, HRL.out, HDL.out, h1] at h2
                exact h2
              have hw1 : IntKind.i64.wrap ((q : Int) + (k : Int)) = (q : Int) + (k : Int) := by rw [IntKind.wrap_i64]; omega
              have hw2 : IntKind.i64.wrap (2147483648 - nx) = 2147483648 - nx := by rw [IntKind.wrap_i64]; omega
              have F1 := H.facts
              simp only [World.size_alloc, World.size_drew, factsL, cellsF, Nat.reduceAdd, List.toList_toArray, List.set_cons_zero, List.set_cons_succ, List.setIfInBounds_toArray, and_true, true_and] at F1
              by_cases hbig : (q : Int) + (k : Int) > 100 ∨ (k : Int) > 2147483648 - nx
              · have HN := hid (show applyC nm cs nx (l.map Rw.row) (ins.map Sl.vs) dels (us.map Pr.upd) = (10, zeroT) by unfold applyC; rw [HCB.out, HFZ.out, if_neg (by simp), if_neg (by simp), if_pos (by simp only [List.length_map]; rw [HRL.out, HIL.out, HDL.out]; omega)])
                by_cases hb1 : (q : Int) + (k : Int) > 100
                · have hdb1 : decide ((q : Int) + (k : Int) > 100) = true := by simp; omega
                  clear hbig hb1 hql
                  have KN := (((H.store 4 rfl 0 (.string ⟨#[]⟩)).store 4 rfl 1 (.slice none 0 0)).store 4 rfl 2 (.int .i64 0)).store 4 rfl 3 (.slice none 0 0)
                  go_wp2_with fail
                  exact bodyPost_ret (v := .tuple #[.agg #[.string ⟨#[]⟩, .slice none 0 0, .int .i64 0, .slice none 0 0], .int .i64 (10)]) (by simp [results, Tryz.results24, go_sem, F1]) rfl ⟨_, by rw [HN.out], by rw [HN.out]; exact tbAt_zero, KN.below⟩
                · have hdb1 : decide ((q : Int) + (k : Int) > 100) = false := by simp; omega
                  have hdb2 : decide ((k : Int) > 2147483648 - nx) = true := by simp; omega
                  clear hbig hb1 hql
                  have KN := (((H.store 4 rfl 0 (.string ⟨#[]⟩)).store 4 rfl 1 (.slice none 0 0)).store 4 rfl 2 (.int .i64 0)).store 4 rfl 3 (.slice none 0 0)
                  go_wp2_with fail
                  exact bodyPost_ret (v := .tuple #[.agg #[.string ⟨#[]⟩, .slice none 0 0, .int .i64 0, .slice none 0 0], .int .i64 (10)]) (by simp [results, Tryz.results24, go_sem, F1]) rfl ⟨_, by rw [HN.out], by rw [HN.out]; exact tbAt_zero, KN.below⟩
              · have hdb1 : decide ((q : Int) + (k : Int) > 100) = false := by simp; omega
                have hdb2 : decide ((k : Int) > 2147483648 - nx) = false := by simp; omega
                have HBIG := hid (show ¬ ((i : Int) - (nd : Int) + (k : Int) > 100 ∨ (k : Int) > 2147483648 - nx) by omega)
                have hknx : (k : Int) ≤ 2147483648 - nx := by omega
                clear hbig hql
                go_wp2_with fail
                clear F1 hw1 hw2 hdb1 hdb2
                go_loopw [120] (fun iv wr => ∃ (kk q cap : Nat) (O : Option Addr) (outs : List Rw), kk ≤ k ∧ iv = .int .i64 kk ∧ q ≤ i + kk ∧ (∀ r ∈ outs, r.ok) ∧ Hid (outs.map Rw.row = goR dels (l.map Rw.row) (us.map Pr.upd) ++ insR nx ((ins.map Sl.vs).take kk)) ∧ Hold M none w wr [.own 119 2 (.slice O q cap) q (rwCells outs), .ro (ValsIn outs), .ro (ColsIn A5 n5 cs), .blk g7 58 #[.string nm, .slice A5 n5 c5, .int .i64 (nx + (kk : Int)), .slice O q cap], .blk (w.heap.size + 1 + 1) 58 #[.string ⟨#[]⟩, .slice none 0 0, .int .i64 0, .slice none 0 0], .cst (w.heap.size + 1) 76 #[.slice I k ci, .slice D nd cd, .slice U j cu], .cst w.heap.size 58 #[.string nm, .slice A n c, .int .i64 nx, .slice B i d], .ro (SlR 4 A n (colCells cs)), .ro (RwsIn B i l), .ro (SlsIn I k ins), .ro (IsIn D nd dels), .ro (PrsIn U j us)]) (fun iv _ => k - (intOf iv).toNat)
                case atStart => exact ⟨0, q, cap, O, outs, by omega, rfl, by omega, hoo, hid (by rw [HGF.out]; simp [insR]), by rw [show nx + ((0 : Nat) : Int) = nx by simp]; exact H⟩
                case round =>
                  clear H HG HGF hoo hq hd3
                  obtain ⟨kk, q, cap, O, outs, hkk, rfl, hq, hoo, HG2, H⟩ := hrel
                  by_cases hlt4 : kk < k
                  · have hd4 : decide ((kk : Int) < (k : Int)) = true := by simp; omega
                    have k0 : (0 : Int) ≤ (kk : Int) := by omega
                    obtain ⟨s, hx⟩ := get_of HIL.out hlt4
                    obtain ⟨bi, oi, rfl, hb, c0, _⟩ := (H.ro 9 rfl).now.at_ hx
                    have HXI := hid (show (ins.map Sl.vs)[kk]? = some s.vs by simp [hx])
                    have HSM := hid (List.mem_of_getElem? hx)
                    have hsok := HOI.out s HSM.out
                    have hs6 : s.n ≤ 6 := by
                      have h1 := fitsT_len ((fitsC_all HFZ.out).2 s.vs (List.mem_map_of_mem HSM.out))
                      have h2 := (HIN.out.2 s HSM.out).len
                      have := HCL.out
                      omega
                    have hvr : Ro _ (Mut M _) (VlsIn s.A s.n s.vs) := (H.ro 9 rfl).imp fun w2 h2 => h2.2 s HSM.out
                    have K4 := H.add hvr
                    have F4 := K4.facts
                    simp only [World.size_alloc, World.size_drew, factsL, cellsF, Nat.reduceAdd, List.toList_toArray, List.set_cons_zero, List.set_cons_succ, List.setIfInBounds_toArray, and_true, true_and] at F4
                    have hwk : IntKind.i64.wrap (nx + (kk : Int) + 1) = nx + (kk : Int) + 1 := by rw [IntKind.wrap_i64]; omega
                    clear hx H hvr
                    go_wp2_with fail
                    clear F4 c0
                    obtain ⟨KL, hKL, KN⟩ := K4.name
                    have HF : Hid (∀ wv, Hold M none w wv KL → wv.cell? ⟨g7, 2, none⟩ = some (.int .i64 (nx + (kk : Int))) ∧ wv.cell? ⟨g7, 3, none⟩ = some (.slice O q cap) ∧ g7 < wv.heap.size) := hid fun wv HC => by
                      rw [hKL] at HC
                      have y1 := HC.blk_ 4 rfl
                      exact ⟨cell_of_row _ _ 2 _ _ _ y1, cell_of_row _ _ 3 _ _ _ y1, Blk.lt y1⟩
                    have HRX : Hid (∀ wv, Hold M none w wv KL → Ro wv (Mut M KL) (VlsIn s.A s.n s.vs)) := hid fun wv HC => by
                      rw [hKL] at HC ⊢
                      exact HC.ro 0 rfl
                    have HKL := hid hKL
                    clear hKL K4
                    go_wp2_with fail
                    refine wp_region_any (by kernel_rfl) ?_
                    refine wpAny_hold 8 143 (KL) (spL [(129, VlsSlot (Mut M KL) s.vs), (130, RowSlot (Mut M KL) (nx + (kk : Int)) s.vs), (131, RBoxSlot (Mut M KL) (nx + (kk : Int)) s.vs)]) (by kernel_rfl) (by kernel_rfl) (by kernel_rfl) rfl ?_ (KN.drew) ?_
                    · exact stays_cons vlsSlot_mono (stays_cons rowSlot_mono (stays_cons rboxSlot_mono (stays_nil _)))
                    simp only [List.take_succ_cons, List.take_zero, List.drop_succ_cons, List.drop_zero, Act.put, List.getElem_toArray, List.getElem_cons_zero, List.getElem_cons_succ, List.setIfInBounds_toArray, List.set_cons_succ, List.set_cons_zero]
                    refine dw_val rfl rfl rfl ?_; apply Exists.intro; refine ⟨fun wv HC => ?_, ?_⟩
                    ·  go_simp <;> rfl
                    simp only [Act.put, List.setIfInBounds_toArray, List.set_cons_succ, List.set_cons_zero]
                    refine dw_val rfl rfl rfl ?_; apply Exists.intro; refine ⟨fun wv HC => ?_, ?_⟩
                    · obtain ⟨f0, f1, f2⟩ := HF.out _ HC; go_simp <;> rfl
                    simp only [Act.put, List.setIfInBounds_toArray, List.set_cons_succ, List.set_cons_zero]
                    refine dw_val rfl rfl rfl ?_; apply Exists.intro; refine ⟨fun wv HC => ?_, ?_⟩
                    ·  go_simp <;> rfl
                    simp only [Act.put, List.setIfInBounds_toArray, List.set_cons_succ, List.set_cons_zero]
                    refine dw_val rfl rfl rfl ?_; apply Exists.intro; refine ⟨fun wv HC => ?_, ?_⟩
                    · obtain ⟨f0, f1, f2⟩ := HF.out _ HC; go_simp <;> rfl
                    simp only [Act.put, List.setIfInBounds_toArray, List.set_cons_succ, List.set_cons_zero]
                    refine dw_val rfl rfl rfl ?_; apply Exists.intro; refine ⟨fun wv HC => ?_, ?_⟩
                    ·  go_simp <;> rfl
                    simp only [Act.put, List.setIfInBounds_toArray, List.set_cons_succ, List.set_cons_zero]
                    refine dw_callR 129 (VlsSlot (Mut M KL) s.vs) (f := 56) (args := #[.slice s.A s.n s.c]) rfl rfl rfl rfl (fun wv => ?_) (fun wv HC hrm hD => ?_) ?_
                    · go_simp <;> rfl
                    · refine (copyVls_any _ wv HC.mutLt s.A s.n s.c s.vs (HRX.out _ HC) (by omega)).mono ?_
                      rintro e w5 ⟨A5, n5, c5, rfl, h50, h51, h52, h53, b5⟩
                      exact ⟨_, rfl, ⟨A5, n5, c5, rfl, h50, h51, h52, h53⟩, HC.call b5, RM.below b5⟩
                    rintro x_ wx HCx ⟨A5, n5, c5, rfl, h50, h51, h52, h53⟩
                    simp only [Act.put, List.setIfInBounds_toArray, List.set_cons_succ, List.set_cons_zero]
                    have H50 := hid h50
                    clear HCx h53 h50
                    refine dw_valC 130 (RowSlot (Mut M KL) (nx + (kk : Int)) s.vs) rfl rfl rfl rfl (.agg #[.int .i64 (nx + (kk : Int)), .slice A5 n5 c5]) (fun wv HC => ?_) (fun wv HC hD => ?_) ?_
                    · go_simp <;> rfl
                    · have hsl : VlsSlot (Mut M KL) s.vs (.slice A5 n5 c5) wv := deps_at hD 5 rfl (by kernel_rfl) rfl rfl
                      obtain ⟨A6, n6, c6, e6, h1, h2, h3, h4⟩ := hsl
                      exact ⟨A6, n6, c6, by rw [e6], h1, h2, h3, h4⟩
                    simp only [Act.put, List.setIfInBounds_toArray, List.set_cons_succ, List.set_cons_zero]
                    refine dw_new #[.int .i64 (nx + (kk : Int)), .slice A5 n5 c5] 119 131 (RBoxSlot (Mut M KL) (nx + (kk : Int)) s.vs) (fun g => .slice (some ⟨g, 0, none⟩) 1 1) rfl rfl rfl rfl (fun wv => ?_) (fun wv HC _hrm hD hro => ?_) ?_
                    · go_simp <;> rfl
                    · have hsl : RowSlot (Mut M KL) (nx + (kk : Int)) s.vs (.agg #[.int .i64 (nx + (kk : Int)), .slice A5 n5 c5]) wv := deps_at hD 6 rfl (by kernel_rfl) rfl rfl
                      obtain ⟨A6, n6, c6, e6, h1, h2, h3, h4⟩ := hsl
                      obtain ⟨rfl, rfl, rfl⟩ : A5 = A6 ∧ n5 = n6 ∧ c5 = c6 := by
                        injection e6 with e6
                        simp at e6
                        exact e6
                      exact ⟨_, A5, n5, c5, rfl, h1, h2, h3, h4.step (by simp) (fun b hb _ => Below.heap_alloc wv _ b hb) (fun _ _ h => h), ro_block (hro _ HC.mutLt) rfl⟩
                    rintro g2 wg HCg hsl
                    simp only [Act.put, List.setIfInBounds_toArray, List.set_cons_succ, List.set_cons_zero]
                    clear hsl HCg
                    refine rel_nil ?_
                    rintro wx2 HX
                    rintro _hrm HGW
                    have hb2 : RBoxSlot (Mut M KL) (nx + (kk : Int)) s.vs (.slice (some ⟨g2, 0, none⟩) 1 1) wx2 := (GW_on (d := 131) rfl).1 (HGW 7 _ rfl (by omega))
                    clear HGW _hrm
                    obtain ⟨g3, A6, n6, c6, e6, k0_, k1_, k2_, k3_, k4_⟩ := hb2
                    obtain rfl : g2 = g3 := by injection e6 with e6; injection e6 with e6; injection e6
                    clear e6
                    rw [HKL.out] at HX k3_
                    have k5 := hid k4_.now
                    have HK0 := hid k0_
                    clear k4_ k0_ HF HRX KN
                    have HRS := hid (show rwCells outs ++ [.int .i64 (nx + (kk : Int)), .slice A6 n6 c6] = rwCells (outs ++ [⟨(nx + (kk : Int)), A6, n6, c6, s.vs⟩]) from rwCells_snoc1 _ _ _ _ _ _)
                    have KA := HX.add k3_
                    clear HX k3_
                    have FKA := KA.facts
                    simp only [World.size_alloc, World.size_drew, factsL, cellsF, Nat.reduceAdd, List.toList_toArray, List.set_cons_zero, List.set_cons_succ, List.setIfInBounds_toArray, and_true, true_and] at FKA
                    go_wp2_with (at_builtin; go_must (refine wpList_appAllH KA 2 rfl Tryz.elRw k5.out rfl (.tmp 125) (.tmp 131) rfl rfl rfl (by intro z hz; simp at hz; rcases hz with rfl | rfl <;> rfl) (by omega) (by omega) ?_); intro C' cap' w6 hc6 hm6 KB; rw [HRS.out] at KB; simp only [List.set_cons_zero, List.set_cons_succ] at KB; (have F3 := KB.facts); simp only [World.size_alloc, World.size_drew, factsL, cellsF, Nat.reduceAdd, List.toList_toArray, List.set_cons_zero, List.set_cons_succ, List.setIfInBounds_toArray, and_true, true_and] at F3)
                    have KC := (KB.store 5 rfl 3 (.slice C' (q + 1) cap')).store 5 rfl 2 (.int .i64 (nx + (kk : Int) + 1))
                    have KE := (KC.swapRo 3 rfl (vals_snoc (r := ⟨nx + (kk : Int), A6, n6, c6, s.vs⟩) (KC.ro 3 rfl) (KC.ro 0 rfl))).drop (List.Sublist.cons _ (List.sublist_cons_self _ _))
                    simp only [cellsF, List.set_cons_zero, List.set_cons_succ, List.setIfInBounds_toArray] at KE
                    have HGN := hid (show List.map Rw.row (outs ++ [⟨nx + (kk : Int), A6, n6, c6, s.vs⟩]) = goR dels (l.map Rw.row) (us.map Pr.upd) ++ insR nx ((ins.map Sl.vs).take (kk + 1)) by
                      rw [List.map_append, HG2.out, insR_snoc HXI.out, List.append_assoc]; rfl)
                    go_roundw
                    case rel => exact ⟨kk + 1, q + 1, cap', C', _, by omega, by go_num, by omega, by intro x hx; rcases List.mem_append.1 hx with hx | hx; (exact hoo x hx); (simp at hx; subst hx; exact ⟨⟨by show _ ≤ nx + (kk : Int); omega, by show nx + (kk : Int) ≤ _; omega⟩, k1_, k2_, hsok.vs⟩), HGN, by rw [show nx + ((kk + 1 : Nat) : Int) = nx + (kk : Int) + 1 by omega]; exact KE⟩
                    case measure => simp [intOf]; omega
                  · obtain rfl : kk = k := by omega
                    have hd4 : decide ((kk : Int) < (kk : Int)) = false := by simp
                    have HOR := hid (show outs.map Rw.row = outR nx (l.map Rw.row) (ins.map Sl.vs) dels (us.map Pr.upd) by rw [HG2.out, List.take_of_length_le (by rw [List.length_map, HIL.out]; exact Nat.le_refl _)]; rfl)
                    have hcq := own_caps (H.get 0 rfl)
                    have KS := H.sealRow 0 rfl
                    simp only [List.set_cons_zero] at KS
                    clear H
                    have F2 := KS.facts
                    simp only [World.size_alloc, World.size_drew, factsL, cellsF, Nat.reduceAdd, List.toList_toArray, List.set_cons_zero, List.set_cons_succ, List.setIfInBounds_toArray, and_true, true_and] at F2
                    go_wp2_with fail
                    have hRW : Ro _ (Mut M _) (RwsIn O q outs) := (KS.ro 0 rfl).and (KS.ro 1 rfl)
                    refine (rdup_any _ _ KS.mutLt nm A5 n5 c5 cs (nx + (kk : Int)) O q cap outs (KS.ro 2 rfl) hRW (by have := HN5.out; omega) (by omega) hoo).mono ?_
                    rintro e w8 ⟨rfl, b8⟩
                    have K8 := KS.call b8
                    clear KS b8 F2 hRW
                    have F8 := K8.facts
                    simp only [World.size_alloc, World.size_drew, factsL, cellsF, Nat.reduceAdd, List.toList_toArray, List.set_cons_zero, List.set_cons_succ, List.setIfInBounds_toArray, and_true, true_and] at F8
                    cases hdb : dupB cs (outs.map Rw.row)
                    · have HN := hid (show applyC nm cs nx (l.map Rw.row) (ins.map Sl.vs) dels (us.map Pr.upd) = (0, ⟨nm, cs, nx + (kk : Int), outs.map Rw.row⟩) by
                        unfold applyC; rw [HCB.out, HFZ.out, if_neg (by simp), if_neg (by simp), if_neg (by simp only [List.length_map]; rw [HRL.out, HIL.out, HDL.out]; exact HBIG.out), ← HOR.out, if_neg (by rw [hdb]; simp), List.length_map, HIL.out])
                      clear hdb
                      have KN := (((K8.store 4 rfl 0 (.string nm)).store 4 rfl 1 (.slice A5 n5 c5)).store 4 rfl 2 (.int .i64 (nx + (kk : Int)))).store 4 rfl 3 (.slice O q cap)
                      go_wp2_with fail
                      exact bodyPost_ret (v := .tuple #[.agg #[.string nm, .slice A5 n5 c5, .int .i64 (nx + (kk : Int)), .slice O q cap], .int .i64 0]) (by simp [results, Tryz.results24, go_sem, F8]) rfl ⟨_, by rw [HN.out], by rw [HN.out]; exact ⟨A5, n5, c5, O, q, cap, outs, rfl, h51, h52, hcq.1, hcq.2.1, KN.roOut 2 rfl, (KN.roOut 0 rfl).and (KN.roOut 1 rfl), hoo, rfl⟩, KN.below⟩
                    · have HN := hid (show applyC nm cs nx (l.map Rw.row) (ins.map Sl.vs) dels (us.map Pr.upd) = (9, zeroT) by
                        unfold applyC; rw [HCB.out, HFZ.out, if_neg (by simp), if_neg (by simp), if_neg (by simp only [List.length_map]; rw [HRL.out, HIL.out, HDL.out]; exact HBIG.out), ← HOR.out, if_pos hdb])
                      clear hdb
                      have KN := (((K8.store 4 rfl 0 (.string ⟨#[]⟩)).store 4 rfl 1 (.slice none 0 0)).store 4 rfl 2 (.int .i64 0)).store 4 rfl 3 (.slice none 0 0)
                      go_wp2_with fail
                      exact bodyPost_ret (v := .tuple #[.agg #[.string ⟨#[]⟩, .slice none 0 0, .int .i64 0, .slice none 0 0], .int .i64 (9)]) (by simp [results, Tryz.results24, go_sem, F8]) rfl ⟨_, by rw [HN.out], by rw [HN.out]; exact tbAt_zero, KN.below⟩
end Go.Proofs.YtedogodccblfeaaGreatDoor

namespace Go.Proofs.YtedogodccblfeaaGreatDoor
open Go.RowKit
set_option linter.unusedVariables false
set_option linter.unusedSimpArgs false

end Go.Proofs.YtedogodccblfeaaGreatDoor

namespace Go.Proofs.YtedogodccblfeaaGreatDoor
open Go.RowKit
set_option linter.unusedVariables false
set_option linter.unusedSimpArgs false

end Go.Proofs.YtedogodccblfeaaGreatDoor

namespace Go.Proofs.YtedogodccblfeaaGreatDoor
open Go Go.RowKit
set_option linter.unusedVariables false
set_option linter.unusedSectionVars false
set_option linter.unusedSimpArgs false

section
variable {P : Program} {ops : Array Oper} {C : World → Prop} {G : Option Tmp → Value → World → Prop} {R : World → World → Prop} {n N : Nat} {F : Act → Prop}

/-- an operation that reads its slots alone -/
def plainOp (o : Oper) : Bool := match o.op with
  | .move _ => true
  | .extract _ _ => true
  | _ => false
theorem plain_run {o : Oper} (h : plainOp o = true) {a : Act} {w : World} {C : World → Prop} {G : Option Tmp → Value → World → Prop} {R : World → World → Prop} (hg : goodUpon P C G R o.dst w ((execOp a.eval o).run P w)) :
    ∃ v, (∀ w', (execOp a.eval o).run P w' = .ok (.value v) w') ∧ G o.dst v w ∧ C w ∧ R w w := by
  unfold plainOp at h
  split at h
  · rename_i x hx
    have e : ∀ w', (execOp a.eval o).run P w' = .ok (.value (a.eval x)) w' := fun w' => by
      unfold execOp; simp only [hx, Sem.run_pure]
    rw [e w] at hg
    exact ⟨_, e, hg⟩
  · rename_i t ix hx
    have e : ∀ w', (execOp a.eval o).run P w' = ((Instr.extract (a.eval t) ix).run P w').andThen fun u => (pure (.value u) : Sem Next).run P := fun w' => by
      unfold execOp; simp only [hx, Sem.run_bind]
    by_cases hv : ∃ vs v, a.eval t = .tuple vs ∧ vs[ix]? = some v
    · obtain ⟨vs, v, h1, h2⟩ := hv
      have e2 : ∀ w', (execOp a.eval o).run P w' = .ok (.value v) w' := fun w' => by
        rw [e w', h1]; unfold Instr.extract; simp only [h2, Sem.run_pure, Result.andThen_ok]
      rw [e2 w] at hg
      exact ⟨_, e2, hg⟩
    · exfalso
      have hh : ∃ x w2, (Instr.extract (a.eval t) ix).run P w = .halt x w2 := by
        unfold Instr.extract
        split
        · rename_i vs hvs
          split
          · rename_i v hvv; exact absurd ⟨vs, v, hvs, hvv⟩ hv
          · exact ⟨_, _, rfl⟩
        · exact ⟨_, _, rfl⟩
      obtain ⟨x, w2, hh⟩ := hh
      rw [e w, hh] at hg
      exact hg
  · cases h
/-- the exempt ones: they read their slots alone, and are apart from all that does not wait for them -/
def waitS (ops : Array Oper) (i : Nat) : Array Bool := ((List.range ops.size).map fun j => Region.waitsFor .any ops i j).toArray
def exB (ops : Array Oper) (E : List Nat) (n : Nat) : Bool := E.all fun i => decide (i < n) && (match ops[i]? with | some o => plainOp o | none => false) && Region.free .any ops (waitS ops i) i
def sinkE (ops : Array Oper) (S0 : Array Bool) (E : List Nat) (n : Nat) : Bool := (List.range n).all fun i => E.contains i || S0.getD i false || (List.range (n + 1)).any fun j => decide (i < j) && !E.contains j && Region.waitsFor .any ops j i
theorem free_mono {i : Nat} {oi : Oper} (hi : ops[i]? = some oi) (h : Region.free .any ops (waitS ops i) i = true) (S : Array Bool) (hS : S.size = ops.size) (hw : ∀ e ∈ oi.after, Region.binds .any e = true → S.getD e.on false = true) : Region.free .any ops S i = true := by
  simp only [Region.free, hi, List.all_eq_true, List.mem_range] at h ⊢
  intro j hj
  have h1 := h j hj
  simp only [Bool.or_eq_true] at h1 ⊢
  rcases h1 with (h1 | h1) | h1
  · exact .inl (.inl h1)
  · have h2 : Region.waitsFor .any ops i j = true := by simpa [waitS, hj] using h1
    obtain ⟨o', ho', e, he, hb, hon⟩ := Region.waitsFor_spec h2
    obtain rfl : oi = o' := Option.some.inj (hi.symm.trans ho')
    have h3 := hw e he hb
    rw [hon] at h3
    have hl : j < S.size := by omega
    exact .inl (.inr (by simpa [hl] using h3))
  · exact .inr h1
theorem tail_waitsE {S0 listed : Array Bool} {E : List Nat} (hs : sinkE ops S0 E n = true) (hc : laterB ops n = true) (hn : n < ops.size) (inv : HeadInv .any ops n listed) (h0 : ∀ j, S0.getD j false = true → listed.getD j false = true) :
    ∀ (d i : Nat), n - i = d → i < n → E.contains i = false → listed.getD i true = false → ∀ t, n ≤ t → t ∉ Region.ready .any ops listed := by
  intro d
  induction d using Nat.strongRecOn with
  | _ d ih =>
    intro i hd hi hE hun t ht hr
    obtain ⟨_, ot, hot, hall⟩ := mem_ready.1 hr
    have htlt : t < ops.size := (Array.getElem?_eq_some_iff.1 hot).1
    by_cases htn : t = n
    · subst htn
      have h1 := List.all_eq_true.1 hs i (List.mem_range.2 hi)
      have hnot : S0.getD i false = false := by
        cases hS : S0.getD i false with
        | false => rfl
        | true => have := h0 i hS; rw [getD_both hun] at this; cases this
      rw [hE, hnot, Bool.false_or, Bool.false_or] at h1
      obtain ⟨j, hj, hj2⟩ := List.any_eq_true.1 h1
      simp only [Bool.and_eq_true, decide_eq_true_eq, Bool.not_eq_true'] at hj2
      obtain ⟨oj, hoj, e, he, hb, hon⟩ := Region.waitsFor_spec hj2.2
      have hjle : j ≤ t := by have := List.mem_range.1 hj; omega
      by_cases hjt : j = t
      · subst hjt
        have : oj = ot := Option.some.inj (hoj.symm.trans hot)
        subst this
        have h2 := hall e he hb
        rw [hon, getD_both hun] at h2
        cases h2
      · cases hl : listed.getD j false with
        | true =>
          have h2 := inv.closed j oj hoj hl e he hb
          rw [hon, getD_both hun] at h2
          cases h2
        | false =>
          have hjs : j < listed.size := by rw [inv.size]; omega
          exact ih (t - j) (by omega) j rfl (by omega) hj2.1.2 (getD_in hjs hl) t (Nat.le_refl _) hr
    · have h1 := List.all_eq_true.1 hc t (List.mem_range.2 htlt)
      simp only [Bool.or_eq_true, decide_eq_true_eq] at h1
      rcases h1 with h1 | h1
      · omega
      · obtain ⟨j, hj, hj2⟩ := List.any_eq_true.1 h1
        simp only [Bool.and_eq_true, decide_eq_true_eq] at hj2
        obtain ⟨o', ho', e, he, hb, hon⟩ := Region.waitsFor_spec hj2.2
        have : o' = ot := Option.some.inj (ho'.symm.trans hot)
        subst this
        have h2 := hall e he hb
        rw [hon, getD_both (inv.tail j hj2.1 (List.mem_range.1 hj))] at h2
        cases h2
theorem wpAny_of_wkE (sh : Shape ops n N) (hmono : ∀ d u w w', R w w' → G d u w → G d u w') (hR : ∀ w, C w → R w w) (hu : ∀ w, C w → G none undef w) {g : Nat} {Q : Exit → Act → World → Prop} (S0 : Array Bool) (E : List Nat)
    (hE : ∀ i, E.contains i = true → i < n ∧ ∃ oi, ops[i]? = some oi ∧ plainOp oi = true ∧ ∀ S : Array Bool, S.size = ops.size → (∀ e ∈ oi.after, Region.binds .any e = true → S.getD e.on false = true) → Region.free .any ops S i = true) (hno : Region.noSelect ops = true) (hQ : ∀ c d v a w, Q (.panic c) (a.put d v) w → Q (.panic c) a w)
    (htail : ∀ S, HeadInv .any ops n S → (∀ j, S0.getD j false = true → S.getD j false = true) → (∃ i, i < n ∧ E.contains i = false ∧ S.getD i true = false) → ∀ t, n ≤ t → t ∉ Region.ready .any ops S)
    (hend : ∀ S a w, HeadInv .any ops n S → (∀ j, j < n → S.getD j false = true) → C w → (∀ j oj, ops[j]? = some oj → j < n → G oj.dst (slot a oj.dst) w) → F a → wpAny P .any ops Q g S a w) :
    ∀ (f : Nat) (S : Array Bool) (a : Act) (w : World), HeadInv .any ops n S → (∀ j, S0.getD j false = true → S.getD j false = true) → unl n S = f → a.tmps.size = N → Inv ops C G S a w → Wk P ops C G R S F n 0 a → wpAny P .any ops Q (f + g) S a w
  | 0, S, a, w, hd, h0s, hf, hN, hI, h => by
    have hall := unl_zero hf (by rw [hd.size]; exact sh.le)
    rw [Nat.zero_add]
    exact hend S a w hd hall hI.1 (fun j oj hj hjn => hI.2 j oj hj (hall j hjn)) (Wk.done sh hmono n 0 a w (by omega) hall hI.1 (fun j oj hj hs => hI.2 j oj hj (hs.resolve_right (by omega))) h)
  | f + 1, S, a, w, hd, h0s, hf, hN, hI, h => by
    obtain ⟨k0, hk0, hun0⟩ := unl_pos hf
    obtain ⟨k, ⟨hk, hun⟩, hmin⟩ := least (p := fun j => j < n ∧ S.getD j true = false) k0 ⟨hk0, hun0⟩
    have hrk : k ∈ Region.ready .any ops S := by
      have hks : k < ops.size := by have := sh.le; omega
      refine mem_ready.2 ⟨hun, ops[k], Array.getElem?_eq_getElem hks, fun e he hb => ?_⟩
      have hlt := sh.back k _ (Array.getElem?_eq_getElem hks) hk e he hb
      cases hS : S.getD e.on false with
      | true => rfl
      | false => exact absurd ⟨by omega, getD_in (by rw [hd.size]; have := sh.le; omega) hS⟩ (hmin e.on hlt)
    rw [show f + 1 + g = (f + g) + 1 by omega]
    have hstep : ∀ i, i < n → i ∈ Region.ready .any ops S → ∃ oi, ops[i]? = some oi ∧ StepOk P ops C G R oi a ∧ Deps ops G oi a w ∧ ∀ u w', May P ops C G oi a u → C w' → R w w' → G oi.dst u w' → wpAny P .any ops Q (f + g) (S.setIfInBounds i true) (a.put oi.dst u) w' := fun i hin hi => by
      obtain ⟨huni, oi, hoi, hall⟩ := mem_ready.1 hi
      have hunf : S.getD i false = false := getD_both huni
      have hst := Wk.ready sh hmono hR hu hoi hin hunf hall n 0 a w (by omega) (by omega) hN hI.1 (fun j oj hj hs => hI.2 j oj hj (hs.resolve_right (by omega))) h
      have hD : Deps ops G oi a w := fun e he hb oe hoe => hI.2 e.on oe hoe (hall e he hb)
      refine ⟨oi, hoi, hst, hD, fun u w' hm hC' hR' hG' => ?_⟩
      refine wpAny_of_wkE sh hmono hR hu S0 E hE hno hQ htail hend f _ _ w' (hd.set hi hin) (fun j hj => getD_set_true (h0s j hj)) ?_ (by rw [size_put]; exact hN) ⟨hC', fun j oj hj hs => ?_⟩ (Wk.front sh hmono hoi hin (by rw [hd.size]) hunf hall n 0 a (by omega) (by omega) hN hm h)
      · have := unl_set hin huni; omega
      · by_cases hji : j = i
        · subst hji
          obtain rfl : oi = oj := Option.some.inj (hoi.symm.trans hj)
          exact slots_new sh hmono hN hj hG' (fun _ => hu w' hC')
        · rw [slots_keep sh hmono (S := S) hoi hj hji]
          rw [getD_set_ne false (Ne.symm hji)] at hs
          exact hmono _ _ _ _ hR' (hI.2 j oj hj hs)
    cases hkE : E.contains k with
    | true =>
      obtain ⟨_, ok, hok, hpl, hfr⟩ := hE k hkE
      obtain ⟨oi, hoi, hst, hD, hnext⟩ := hstep k hk hrk
      obtain ⟨_, o3, ho3, hall⟩ := mem_ready.1 hrk
      obtain rfl : oi = o3 := Option.some.inj (hoi.symm.trans ho3)
      obtain rfl : ok = oi := Option.some.inj (hok.symm.trans hoi)
      by_cases hw : Region.wanted ok (yielded ops a.tmps) = true
      · unfold StepOk at hst
        simp only [hw, if_true] at hst
        have hg := hst w hI.1 hD
        unfold Good at hg
        obtain ⟨v, hv, hG, hC, hRR⟩ := plain_run hpl hg
        refine wpAny_take hok hno (hfr S hd.size hall) (by simpa using hrk) (fun c a w => hQ c _ _ a w) (.inl ⟨hw, hv⟩) (hnext v w ?_ hC hRR hG)
        unfold May
        rw [if_pos hw]
        exact ⟨w, hI.1, hD, by rw [hv w]; rfl⟩
      · unfold StepOk at hst
        rw [if_neg hw] at hst
        refine wpAny_take hok hno (hfr S hd.size hall) (by simpa using hrk) (fun c a w => hQ c _ _ a w) (.inr ⟨by simpa using hw, rfl⟩) (hnext undef w ?_ hI.1 (hR w hI.1) (hst w hI.1))
        unfold May
        rw [if_neg hw]
    | false =>
    refine ⟨fun h0 => (by rw [h0] at hrk; cases hrk), fun i hi => ?_⟩
    have hin : i < n := by
      rcases Nat.lt_or_ge i n with h' | h'
      · exact h'
      · exact absurd hi (htail S hd h0s ⟨k, hk, hkE, hun⟩ i h')
    obtain ⟨oi, hoi, hst, hD, hnext⟩ := hstep i hin hi
    unfold wpOp
    simp only [hoi]
    split
    · rename_i hw
      refine .inl (good_wp hI.1 hD hw ?_ hnext)
      unfold StepOk at hst
      simp only [hw, if_true] at hst
      exact hst w hI.1 hD
    · rename_i hw
      unfold StepOk at hst
      rw [if_neg hw] at hst
      exact hnext undef w (by unfold May; rw [if_neg hw]) hI.1 (hR w hI.1) (hst w hI.1)
def relE (ops : Array Oper) (S0 : Array Bool) (E : List Nat) (n N : Nat) : Bool :=
  Region.noSelect ops && dstsB ops N && decide (n ≤ ops.size) && backB ops n && asideB ops n && (decide (n = ops.size) || (decide (n < ops.size) && sinkE ops S0 E n && laterB ops n)) && closedB ops S0 n && exB ops E n && Region.seqB .any ops (ops.size - n) n (headList n ops.size)
theorem relE_shape {S0 : Array Bool} {E : List Nat} {n N : Nat} (h : relE ops S0 E n N = true) : Shape ops n N := by
  simp only [relE, Bool.and_eq_true, decide_eq_true_eq] at h
  obtain ⟨⟨⟨⟨⟨⟨⟨⟨hsel, hd⟩, hn⟩, hb⟩, ha⟩, _⟩, _⟩, _⟩, _⟩ := h
  refine ⟨hd, hn, fun k o hk hkn e he hbd => ?_, fun k i ok oi hki hin hk hi hno => ?_, Region.noSelect_spec hsel⟩
  · have h1 := List.all_eq_true.1 hb k (List.mem_range.2 hkn)
    simp only [hk] at h1
    have h2 := Array.all_eq_true'.1 h1 e he
    simp only [hbd, Bool.not_true, Bool.false_or, decide_eq_true_eq] at h2
    exact h2
  · have h1 := List.all_eq_true.1 (List.all_eq_true.1 ha i (List.mem_range.2 hin)) k (List.mem_range.2 hki)
    simp only [hk, hi, Bool.or_eq_true] at h1
    refine h1.resolve_left fun h2 => ?_
    obtain ⟨e, he, hb2⟩ := Array.any_eq_true'.1 h2
    simp only [Bool.and_eq_true, beq_iff_eq] at hb2
    exact hno e he hb2.1 hb2.2
/-- A region that draws its order, the operations of S0 done, E exempt: the first n operations in any order; then the others. -/
theorem wpAny_relE {Q : Exit → Act → World → Prop} {a : Act} {w : World} {l : List Oper} (S0 : Array Bool) (E : List Nat) (n N : Nat) (C : World → Prop) (G : Option Tmp → Value → World → Prop) (R : World → World → Prop) {fuel : Nat}
    (hB : relE l.toArray S0 E n N = true) (hQ : ∀ c d v a w, Q (.panic c) (a.put d v) w → Q (.panic c) a w) (hf : fuel = unl n S0 + (l.length - n)) (hN : a.tmps.size = N) (hmono : ∀ d u w w', R w w' → G d u w → G d u w') (hR : ∀ w, C w → R w w) (hu : ∀ w, C w → G none undef w) (hC : C w)
    (h0 : ∀ j oj, l[j]? = some oj → S0.getD j false = true → G oj.dst (slot a oj.dst) w)
    (h : wpRel P l.toArray C G R S0 (fun a' => ∀ w', C w' → (∀ j oj, l[j]? = some oj → j < n → G oj.dst (slot a' oj.dst) w') → wpList P l.toArray Q (l.drop n) a' w') 0 (l.take n) a) : wpAny P .any l.toArray Q fuel S0 a w := by
  have sh := relE_shape hB
  have hB' := hB
  simp only [relE, Bool.and_eq_true, Bool.or_eq_true, decide_eq_true_eq] at hB'
  obtain ⟨⟨⟨⟨⟨⟨⟨⟨hsel, hd⟩, hn⟩, hb⟩, ha⟩, hsc⟩, hcl⟩, hex⟩, hseq⟩ := hB'
  have hnl : n ≤ l.length := by simpa using hn
  have htl : (l.take n).length = n := by simp; omega
  have hw := wk_of_rel sh (l.take n) 0 a (fun j hj => by
    have hj' : j < n := by rw [htl] at hj; exact hj
    simp [hj']) (by simpa using htl) hN h
  rw [htl] at hw
  have := wpAny_of_wkE (Q := Q) (g := l.length - n) sh hmono hR hu S0 E (fun i hi => ?_) hsel hQ (fun S hI h0s hex t ht hr => ?_) (fun S a' w' hI hall hC' hg hF => ?_) _ S0 a w
    (closedB_head hcl) (fun _ h => h) rfl hN ⟨hC, fun j oj hj hs => h0 j oj (by simpa using hj) hs⟩ hw
  · rw [hf]; exact this
  · have h1 := List.all_eq_true.1 hex i (List.contains_iff_mem.1 hi)
    simp only [Bool.and_eq_true, decide_eq_true_eq] at h1
    obtain ⟨⟨h1, h2⟩, h3⟩ := h1
    have hil : i < l.toArray.size := by have : l.toArray.size = l.length := by simp
                                        omega
    have hio := Array.getElem?_eq_getElem hil
    rw [hio] at h2
    exact ⟨h1, _, hio, h2, fun S hS hw => free_mono hio h3 S hS hw⟩
  · obtain ⟨i, hi, hE, hun⟩ := hex
    rcases hsc with hsc | ⟨⟨hlt, hs⟩, hc⟩
    · have := (mem_ready.1 hr).2
      obtain ⟨o, ho, _⟩ := this
      have := (Array.getElem?_eq_some_iff.1 ho).1
      omega
    · exact tail_waitsE hs hc hlt hI h0s _ i rfl hi hE hun t ht hr
  · have hSeq := headList_eq hI.size hn hall hI.tail
    rw [show l.toArray.size = l.length from by simp] at hSeq
    rw [hSeq]
    have hdl : (l.drop n).length = l.length - n := by simp
    have := wpAny_of_seq (md := .any) (Q' := Q) (ops := l.toArray) (l.drop n) n (headList n l.length) a' w' (fun j => by simp [List.getElem?_drop]) (by rw [hdl]; simpa using hseq) (hF w' hC' fun j oj hj hjn => hg j oj (by simpa using hj) hjn)
    rwa [hdl] at this
end
section
variable {P : Program} {M : Nat → Prop} {row : Option Nat} {w0 w1 : World} {L : List Hp} {sp : SpW} {F : Act → Prop} {S0 : Array Bool}
theorem wpAny_holdE {Q : Exit → Act → World → Prop} {a : Act} {w : World} {l : List Oper} (E : List Nat) (n N : Nat) (L : List Hp) (sp : SpW) {fuel : Nat}
    (hB : relE l.toArray S0 E n N = true) (hQ : ∀ c d v a w, Q (.panic c) (a.put d v) w → Q (.panic c) a w) (hO : offW l.toArray S0 sp = true) (hf : fuel = unl n S0 + (l.length - n)) (hN : a.tmps.size = N) (hs : Stays (Mut M L) sp) (hC : Hold M row w0 w L)
    (h : wpRel P l.toArray (HC M row w0 w L) (GW sp) (RM (Mut M L)) S0 (fun a' => ∀ w', Hold M row w0 w' L → RM (Mut M L) w w' → (∀ j oj, l[j]? = some oj → j < n → GW sp oj.dst (slot a' oj.dst) w') → wpList P l.toArray Q (l.drop n) a' w') 0 (l.take n) a) : wpAny P .any l.toArray Q fuel S0 a w := by
  refine wpAny_relE S0 E n N (HC M row w0 w L) (GW sp) (RM (Mut M L)) hB hQ hf hN (fun d u w w' hr hg => ?_) (fun w _ => RM.refl _ w) (fun _ _ => trivial) ⟨hC, RM.refl _ _⟩ (fun j oj hj hs => offW_h hO (by simpa using hj) hs) (wpRel_mono (fun a' hF w' hC' hg => hF w' hC'.1 hC'.2 hg) _ _ _ h)
  unfold GW at hg ⊢
  cases hd : d.bind sp with
  | none => trivial
  | some V =>
    rw [hd] at hg
    obtain ⟨t, rfl, ht⟩ := Option.bind_eq_some_iff.1 hd
    exact hs t V ht u w w' hr hg
end
end Go.Proofs.YtedogodccblfeaaGreatDoor

namespace Go.Proofs.YtedogodccblfeaaGreatDoor
open Go.RowKit
set_option linter.unusedVariables false
set_option linter.unusedSimpArgs false

end Go.Proofs.YtedogodccblfeaaGreatDoor

namespace Go.Proofs.YtedogodccblfeaaGreatDoor
open Go.RowKit
set_option linter.unusedVariables false
set_option linter.unusedSimpArgs false

theorem wantR_prop {P : List Vl → Prop} : ∀ {us : List Upd} {id : Int} {v : List Vl}, P v → (∀ u ∈ us, P u.2.2) → P (wantR us id v)
  | [], _, _, h, _ => h
  | u :: us, id, v, h, k => by
    rw [wantR_cons]
    refine wantR_prop ?_ fun x hx => k x (List.mem_cons_of_mem _ hx)
    split
    · exact k u (List.mem_cons_self ..)
    · exact h
theorem ApOk.rfits {nm : ByteArray} {cs : List Col} {nx : Int} {rs : List Row} {ins : List (List Vl)} {dels : List Int} {us : List Upd} {T : Tb} (h : ApOk nm cs nx rs ins dels us T) : ∀ r ∈ T.rs, fitsT cs r.2 = 0 := fun r hr => by
  rw [h.tb] at hr
  have hr : r ∈ keepR dels us rs ++ insR nx ins := hr
  rcases List.mem_append.1 hr with hr | hr
  · obtain ⟨y, hy, rfl⟩ := List.mem_map.1 hr
    exact wantR_prop (P := fun v => fitsT cs v = 0) (okR_fits (tabB_ok h.tab).2.2.2.2.1 y (List.mem_filter.1 hy).1) h.fits.1
  · unfold insR at hr
    obtain ⟨p, hp, rfl⟩ := List.mem_map.1 hr
    exact h.fits.2 _ (List.fst_mem_of_mem_zipIdx hp)
end Go.Proofs.YtedogodccblfeaaGreatDoor

namespace Go.Proofs.YtedogodccblfeaaGreatDoor
open Go.RowKit
set_option linter.unusedVariables false
set_option linter.unusedSimpArgs false

theorem okR_of {cs : List Col} {nx : Int} : ∀ {rs : List Row} {lst : Int}, (rs.map (·.1)).Pairwise (· < ·) → (∀ r ∈ rs, lst < r.1 ∧ r.1 < nx ∧ fitsT cs r.2 = 0) → okR cs nx lst rs = true
  | [], _, _, _ => rfl
  | r :: rs, lst, h, k => by
    obtain ⟨h1, h2⟩ := List.pairwise_cons.1 h
    obtain ⟨k1, k2, k3⟩ := k r (List.mem_cons_self ..)
    rw [okR]
    simp only [k1, k2, k3, decide_true, Bool.true_and]
    exact okR_of h2 fun x hx => ⟨h1 x.1 (List.mem_map_of_mem (f := fun x : Row => x.1) hx), (k x (List.mem_cons_of_mem _ hx)).2⟩
theorem zipK_asc {α : Type} {nx : Int} : ∀ (l : List α) (k : Nat), (((l.zipIdx k).map fun p => (nx + (p.2 : Int), p.1)).map (·.1)).Pairwise (· < ·) ∧ ∀ r ∈ (l.zipIdx k).map fun p => (nx + (p.2 : Int), p.1), nx + (k : Int) ≤ r.1 ∧ r.1 < nx + (k : Int) + l.length
  | [], k => ⟨List.Pairwise.nil, fun _ h => nomatch h⟩
  | x :: l, k => by
    obtain ⟨h1, h2⟩ := zipK_asc (nx := nx) l (k + 1)
    rw [List.zipIdx_cons, List.map_cons, List.map_cons]
    refine ⟨List.pairwise_cons.2 ⟨fun a ha => ?_, h1⟩, fun r hr => ?_⟩
    · obtain ⟨r, hr, rfl⟩ := List.mem_map.1 ha
      have h3 := (h2 r hr).1
      show nx + (k : Int) < r.1
      omega
    · rcases List.mem_cons.1 hr with rfl | hr
      · simp only [List.length_cons]
        refine ⟨Int.le_refl _, ?_⟩
        show nx + (k : Int) < _
        omega
      · have h3 := h2 r hr
        simp only [List.length_cons]
        omega
theorem ApOk.tab2 {nm : ByteArray} {cs : List Col} {nx : Int} {rs : List Row} {ins : List (List Vl)} {dels : List Int} {us : List Upd} {T : Tb} (h : ApOk nm cs nx rs ins dels us T) : tabB T.nm T.cs T.nx T.rs = true := by
  have hl := h.len
  have hf := h.rfits
  obtain ⟨h1, h2, h3, h4, h5, h6⟩ := tabB_ok h.tab
  have hlim := h.lim
  have hnl := h.nlim
  have hd := h.dup
  have ha := h.asc2
  obtain ⟨z1, z2⟩ := zipK_asc (nx := nx) ins 0
  have hT := h.tb
  subst hT
  have hlow : ∀ r ∈ keepR dels us rs, 0 < r.1 ∧ r.1 < nx := fun r hr => by
    obtain ⟨y, hy, rfl⟩ := List.mem_map.1 hr
    exact h.low y (List.mem_filter.1 hy).1
  have hins : ∀ r ∈ insR nx ins, nx ≤ r.1 ∧ r.1 < nx + ins.length := fun r hr => by
    have h8 := z2 r hr
    omega
  unfold tabB
  simp only [Bool.and_eq_true, decide_eq_true_eq, Bool.not_eq_true']
  refine ⟨⟨⟨⟨⟨h1, ?_⟩, ?_⟩, ?_⟩, okR_of ?_ fun r hr => ?_⟩, hd⟩
  · have hl2 : ((keepR dels us rs ++ insR nx ins).length : Int) = rs.length - dels.length + ins.length := hl
    show (keepR dels us rs ++ insR nx ins).length ≤ 100
    omega
  · show 1 ≤ nx + (ins.length : Int)
    omega
  · show nx + (ins.length : Int) ≤ 2147483648
    omega
  · show ((keepR dels us rs ++ insR nx ins).map (·.1)).Pairwise (· < ·)
    rw [List.map_append, List.pairwise_append]
    refine ⟨ha, z1, fun a ha' b hb => ?_⟩
    obtain ⟨x, hx, rfl⟩ := List.mem_map.1 ha'
    obtain ⟨y, hy, rfl⟩ := List.mem_map.1 hb
    have h8 := (hlow x hx).2
    have h9 := (hins y hy).1
    omega
  · refine ⟨?_, ?_, hf r hr⟩
    · rcases List.mem_append.1 hr with hr | hr
      · exact (hlow r hr).1
      · have := (hins r hr).1; omega
    · show r.1 < nx + (ins.length : Int)
      rcases List.mem_append.1 hr with hr | hr
      · have := (hlow r hr).2; omega
      · exact (hins r hr).2
end Go.Proofs.YtedogodccblfeaaGreatDoor

namespace Go.Proofs.YtedogodccblfeaaGreatDoor
open Go.RowKit
set_option linter.unusedVariables false
set_option linter.unusedSimpArgs false

end Go.Proofs.YtedogodccblfeaaGreatDoor

namespace Go.Proofs.YtedogodccblfeaaGreatDoor
open Go.RowKit
set_option linter.unusedVariables false
set_option linter.unusedSimpArgs false

/-- A difference: the table's name, the rows that came, those that left, the updates. -/
structure Dl where
  nm : ByteArray
  ins : List Row
  del : List Row
  upd : List Upd
deriving DecidableEq
def zeroD : Dl := ⟨⟨#[]⟩, [], [], []⟩
/-- the rows of l that rs does not have -/
def offR (rs l : List Row) : List Row := l.filter fun r => (getR rs r.1).isNone
/-- the rows of l that rs has with other values -/
def turnR (rs l : List Row) : List Upd := l.filterMap fun r => match getR rs r.1 with
  | some o => if o = r.2 then none else some (r.1, o, r.2)
  | none => none
def betB (a b : Tb) : Bool := tabB a.nm a.cs a.nx a.rs && tabB b.nm b.cs b.nx b.rs && decide (a.nm = b.nm ∧ a.cs = b.cs) && decide (a.nx ≤ b.nx) && b.rs.all fun r => (getR a.rs r.1).isSome || decide (a.nx ≤ r.1)
def betweenC (a b : Tb) : Bool × Dl := if betB a b then (true, ⟨a.nm, offR a.rs b.rs, offR b.rs a.rs, turnR a.rs b.rs⟩) else (false, zeroD)

theorem offR_hit {rs l : List Row} {j : Nat} {r : Row} (hr : l[j]? = some r) (h : getR rs r.1 = none) : offR rs (l.take (j + 1)) = offR rs (l.take j) ++ [r] := by
  unfold offR
  rw [List.take_add_one, hr, Option.toList_some, List.filter_append]
  simp [List.filter_cons, h]
theorem offR_miss {rs l : List Row} {j : Nat} {r : Row} {v : List Vl} (hr : l[j]? = some r) (h : getR rs r.1 = some v) : offR rs (l.take (j + 1)) = offR rs (l.take j) := by
  unfold offR
  rw [List.take_add_one, hr, Option.toList_some, List.filter_append]
  simp [List.filter_cons, h]
theorem turnR_none {rs l : List Row} {j : Nat} {r : Row} (hr : l[j]? = some r) (h : getR rs r.1 = none) : turnR rs (l.take (j + 1)) = turnR rs (l.take j) := by
  unfold turnR
  rw [List.take_add_one, hr, Option.toList_some, List.filterMap_append]
  simp [h]
theorem turnR_same {rs l : List Row} {j : Nat} {r : Row} (hr : l[j]? = some r) (h : getR rs r.1 = some r.2) : turnR rs (l.take (j + 1)) = turnR rs (l.take j) := by
  unfold turnR
  rw [List.take_add_one, hr, Option.toList_some, List.filterMap_append]
  simp [h]
theorem turnR_turn {rs l : List Row} {j : Nat} {r : Row} {o : List Vl} (hr : l[j]? = some r) (h : getR rs r.1 = some o) (hne : o ≠ r.2) : turnR rs (l.take (j + 1)) = turnR rs (l.take j) ++ [(r.1, o, r.2)] := by
  unfold turnR
  rw [List.take_add_one, hr, Option.toList_some, List.filterMap_append]
  simp [h, hne]
theorem getR_of_mem : ∀ {rs : List Row} {r : Row}, (rs.map (·.1)).Pairwise (· < ·) → r ∈ rs → getR rs r.1 = some r.2
  | x :: rs, r, ha, hr => by
    rw [List.map_cons, List.pairwise_cons] at ha
    rcases List.mem_cons.1 hr with rfl | hr
    · simp [getR]
    · have h1 := ha.1 r.1 (List.mem_map_of_mem hr)
      have h2 := getR_of_mem ha.2 hr
      unfold getR at h2 ⊢
      rw [List.find?_cons, show (x.1 == r.1) = false by rw [beq_eq_false_iff_ne]; omega]
      exact h2
theorem getR_out {rs : List Row} {id : Int} {v : List Vl} (h : getR rs id = some v) : (id, v) ∈ rs := by
  unfold getR at h
  obtain ⟨x, hx, rfl⟩ := Option.map_eq_some_iff.1 h
  have h1 := List.mem_of_find?_eq_some hx
  have h2 := List.find?_some hx
  simp only [beq_iff_eq] at h2
  subst h2
  exact h1
/-- the merge's state: the rows of a ahead of p lie below all rows of b from j on, the others above all rows of b ahead of j -/
structure Mg (a b : List Row) (j p : Nat) : Prop where
  aasc : (a.map (·.1)).Pairwise (· < ·)
  basc : (b.map (·.1)).Pairwise (· < ·)
  low : ∀ x ∈ a.take p, ∀ y ∈ b.drop j, x.1 < y.1
  up : ∀ x ∈ a.drop p, ∀ y ∈ b.take j, y.1 < x.1
theorem asc_at {l : List Row} (h : (l.map (·.1)).Pairwise (· < ·)) {i j : Nat} {x y : Row} (hx : l[i]? = some x) (hy : l[j]? = some y) (hij : i < j) : x.1 < y.1 := by
  rw [List.pairwise_iff_getElem] at h
  obtain ⟨hi, rfl⟩ := List.getElem?_eq_some_iff.1 hx
  obtain ⟨hj, rfl⟩ := List.getElem?_eq_some_iff.1 hy
  have := h i j (by simpa using hi) (by simpa using hj) hij
  simpa using this
theorem mem_drop_at {α : Type} {l : List α} {k : Nat} {x : α} (h : x ∈ l.drop k) : ∃ i, k ≤ i ∧ l[i]? = some x := by
  obtain ⟨i, hi⟩ := List.getElem?_of_mem h
  rw [List.getElem?_drop] at hi
  exact ⟨k + i, by omega, hi⟩
theorem mem_take_at {α : Type} {l : List α} {k : Nat} {x : α} (h : x ∈ l.take k) : ∃ i, i < k ∧ l[i]? = some x := by
  obtain ⟨i, hi⟩ := List.getElem?_of_mem h
  rw [List.getElem?_take] at hi
  split at hi
  · exact ⟨i, by assumption, hi⟩
  · cases hi
theorem mem_of_drop_at {α : Type} {l : List α} {k i : Nat} {x : α} (hk : k ≤ i) (h : l[i]? = some x) : x ∈ l.drop k := List.mem_of_getElem? (i := i - k) (by rw [List.getElem?_drop, show k + (i - k) = i by omega]; exact h)
theorem mem_of_take_at {α : Type} {l : List α} {k i : Nat} {x : α} (hk : i < k) (h : l[i]? = some x) : x ∈ l.take k := List.mem_of_getElem? (i := i) (by rw [List.getElem?_take, if_pos hk]; exact h)
theorem Mg.zero {a b : List Row} (ha : (a.map (·.1)).Pairwise (· < ·)) (hb : (b.map (·.1)).Pairwise (· < ·)) : Mg a b 0 0 := ⟨ha, hb, fun x hx => by simp at hx, fun x _ y hy => by simp at hy⟩
/-- a row of a that b lacks -/
theorem Mg.left {a b : List Row} {j p : Nat} (h : Mg a b j p) {x r : Row} (hx : a[p]? = some x) (hr : b[j]? = some r) (hlt : x.1 < r.1) : Mg a b j (p + 1) ∧ getR b x.1 = none := by
  refine ⟨⟨h.aasc, h.basc, fun z hz y hy => ?_, fun z hz y hy => ?_⟩, getR_none fun y hy e => ?_⟩
  · obtain ⟨i, hi, hzi⟩ := mem_take_at hz
    rcases Nat.lt_or_ge i p with hip | hip
    · exact h.low z (mem_of_take_at hip hzi) y hy
    · obtain rfl : i = p := by omega
      rw [hx] at hzi; injection hzi with hzi; subst hzi
      obtain ⟨k, hk, hyk⟩ := mem_drop_at hy
      rcases Nat.eq_or_lt_of_le hk with e | e
      · subst e; rw [hr] at hyk; injection hyk with hyk; subst hyk; exact hlt
      · have := asc_at h.basc hr hyk e; omega
  · obtain ⟨i, hi, hzi⟩ := mem_drop_at hz
    exact h.up z (mem_of_drop_at (by omega) hzi) y hy
  · obtain ⟨k, hk⟩ := List.getElem?_of_mem hy
    rcases Nat.lt_or_ge k j with hkj | hkj
    · have := h.up x (mem_of_drop_at (Nat.le_refl _) hx) y (mem_of_take_at hkj hk); omega
    · rcases Nat.eq_or_lt_of_le hkj with e2 | e2
      · subst e2; rw [hr] at hk; injection hk with hk; subst hk; omega
      · have := asc_at h.basc hr hk e2; omega
/-- a row of both -/
theorem Mg.both {a b : List Row} {j p : Nat} (h : Mg a b j p) {x r : Row} (hx : a[p]? = some x) (hr : b[j]? = some r) (he : x.1 = r.1) : Mg a b (j + 1) (p + 1) ∧ getR b x.1 = some r.2 ∧ getR a r.1 = some x.2 := by
  refine ⟨⟨h.aasc, h.basc, fun z hz y hy => ?_, fun z hz y hy => ?_⟩, ?_, ?_⟩
  · obtain ⟨i, hi, hzi⟩ := mem_take_at hz
    obtain ⟨k, hk, hyk⟩ := mem_drop_at hy
    have h1 := asc_at h.basc hr hyk (by omega)
    rcases Nat.lt_or_ge i p with hip | hip
    · have := asc_at h.aasc hzi hx hip; omega
    · obtain rfl : i = p := by omega
      rw [hx] at hzi; injection hzi with hzi; subst hzi; omega
  · obtain ⟨i, hi, hzi⟩ := mem_drop_at hz
    obtain ⟨k, hk, hyk⟩ := mem_take_at hy
    have h1 := asc_at h.aasc hx hzi (by omega)
    rcases Nat.lt_or_ge k j with hkj | hkj
    · have := asc_at h.basc hyk hr hkj; omega
    · obtain rfl : k = j := by omega
      rw [hr] at hyk; injection hyk with hyk; subst hyk; omega
  · rw [he]; exact getR_of_mem h.basc (List.mem_of_getElem? hr)
  · rw [← he]; exact getR_of_mem h.aasc (List.mem_of_getElem? hx)
/-- a row of b that a lacks -/
theorem Mg.right {a b : List Row} {j p : Nat} (h : Mg a b j p) {r : Row} (hr : b[j]? = some r) (hp : ∀ x, a[p]? = some x → r.1 < x.1) : Mg a b (j + 1) p ∧ getR a r.1 = none := by
  have hup : ∀ i z, p ≤ i → a[i]? = some z → r.1 < z.1 := fun i z hi hz => by
    rcases Nat.eq_or_lt_of_le hi with e | e
    · subst e; exact hp z hz
    · have hl : p < a.length := by have := (List.getElem?_eq_some_iff.1 hz).1; omega
      have h1 := hp _ (List.getElem?_eq_getElem hl)
      have h2 := asc_at h.aasc (List.getElem?_eq_getElem hl) hz e
      omega
  refine ⟨⟨h.aasc, h.basc, fun z hz y hy => ?_, fun z hz y hy => ?_⟩, getR_none fun y hy e => ?_⟩
  · obtain ⟨k, hk, hyk⟩ := mem_drop_at hy
    exact h.low z hz y (mem_of_drop_at (by omega) hyk)
  · obtain ⟨i, hi, hzi⟩ := mem_drop_at hz
    obtain ⟨k, hk, hyk⟩ := mem_take_at hy
    have h1 := hup i z hi hzi
    rcases Nat.lt_or_ge k j with hkj | hkj
    · have := asc_at h.basc hyk hr hkj; omega
    · obtain rfl : k = j := by omega
      rw [hr] at hyk; injection hyk with hyk; subst hyk; omega
  · obtain ⟨i, hi⟩ := List.getElem?_of_mem hy
    rcases Nat.lt_or_ge i p with hip | hip
    · have := h.low y (mem_of_take_at hip hi) r (mem_of_drop_at (Nat.le_refl _) hr); omega
    · have := hup i y hip hi; omega
/-- what is left of a, b lacks -/
theorem Mg.last {a b : List Row} {j p : Nat} (h : Mg a b j p) (hj : b.length ≤ j) {i : Nat} {x : Row} (hi : p ≤ i) (hx : a[i]? = some x) : getR b x.1 = none := getR_none fun y hy e => by
  obtain ⟨k, hk⟩ := List.getElem?_of_mem hy
  have := (List.getElem?_eq_some_iff.1 hk).1
  have := h.up x (mem_of_drop_at hi hx) y (mem_of_take_at (by omega) hk)
  omega
/-- the state of the merge: j rows of b and p rows of a are done -/
structure BSt (a b : Tb) (j p : Nat) (li ld : List Rw) (lu : List Pr) : Prop where
  va : tabB a.nm a.cs a.nx a.rs = true
  vb : tabB b.nm b.cs b.nx b.rs = true
  eq : a.nm = b.nm ∧ a.cs = b.cs
  nx : a.nx ≤ b.nx
  mg : Mg a.rs b.rs j p
  ins : li.map Rw.row = offR a.rs (b.rs.take j)
  del : ld.map Rw.row = offR b.rs (a.rs.take p)
  upd : lu.map Pr.upd = turnR a.rs (b.rs.take j)
  new : ∀ r ∈ b.rs.take j, (getR a.rs r.1).isSome = true ∨ a.nx ≤ r.1
  ok1 : ∀ r ∈ li, r.ok
  ok2 : ∀ r ∈ ld, r.ok
  ok3 : ∀ p ∈ lu, p.ok
theorem tabB_asc {t : Tb} (h : tabB t.nm t.cs t.nx t.rs = true) : (t.rs.map (·.1)).Pairwise (· < ·) := (okR_asc (tabB_ok h).2.2.2.2.1).1
theorem BSt.zero {a b : Tb} (va : tabB a.nm a.cs a.nx a.rs = true) (vb : tabB b.nm b.cs b.nx b.rs = true) (eq : a.nm = b.nm ∧ a.cs = b.cs) (nx : a.nx ≤ b.nx) : BSt a b 0 0 [] [] [] :=
  ⟨va, vb, eq, nx, Mg.zero (tabB_asc va) (tabB_asc vb), rfl, rfl, rfl, fun r hr => by simp at hr, fun r hr => (nomatch hr), fun r hr => (nomatch hr), fun r hr => (nomatch hr)⟩
theorem okSnoc {α : Type} {P : α → Prop} {l : List α} {x : α} (h : ∀ r ∈ l, P r) (k : P x) : ∀ r ∈ l ++ [x], P r := fun r hr => by
  rcases List.mem_append.1 hr with hr | hr
  · exact h r hr
  · simp at hr; subst hr; exact k
theorem all_take {P : Row → Prop} {l : List Row} {j : Nat} {r : Row} (h : ∀ x ∈ l.take j, P x) (hr : l[j]? = some r) (k : P r) : ∀ x ∈ l.take (j + 1), P x := by
  rw [List.take_add_one, hr, Option.toList_some]
  exact okSnoc h k
section
variable {a b : Tb} {j p : Nat} {li ld : List Rw} {lu : List Pr}
theorem BSt.left (h : BSt a b j p li ld lu) {x r : Row} (hx : a.rs[p]? = some x) (hr : b.rs[j]? = some r) (hlt : x.1 < r.1) {y : Rw} (hy : y.row = x) (hk : y.ok) : BSt a b j (p + 1) li (ld ++ [y]) lu := by
  obtain ⟨h1, h2⟩ := h.mg.left hx hr hlt
  exact ⟨h.va, h.vb, h.eq, h.nx, h1, h.ins, by rw [List.map_append, h.del, offR_hit hx h2, ← hy]; rfl, h.upd, h.new, h.ok1, okSnoc h.ok2 hk, h.ok3⟩
theorem BSt.same (h : BSt a b j p li ld lu) {x r : Row} (hx : a.rs[p]? = some x) (hr : b.rs[j]? = some r) (he : x.1 = r.1) (hv : x.2 = r.2) : BSt a b (j + 1) (p + 1) li ld lu := by
  obtain ⟨h1, h2, h3⟩ := h.mg.both hx hr he
  exact ⟨h.va, h.vb, h.eq, h.nx, h1, by rw [h.ins, offR_miss hr h3], by rw [h.del, offR_miss hx h2], by rw [h.upd, turnR_same hr (by rw [h3, hv])], all_take h.new hr (.inl (by rw [h3]; rfl)), h.ok1, h.ok2, h.ok3⟩
theorem BSt.turn (h : BSt a b j p li ld lu) {x r : Row} (hx : a.rs[p]? = some x) (hr : b.rs[j]? = some r) (he : x.1 = r.1) (hv : x.2 ≠ r.2) {q : Pr} (hq : q.upd = (r.1, x.2, r.2)) (hk : q.ok) : BSt a b (j + 1) (p + 1) li ld (lu ++ [q]) := by
  obtain ⟨h1, h2, h3⟩ := h.mg.both hx hr he
  exact ⟨h.va, h.vb, h.eq, h.nx, h1, by rw [h.ins, offR_miss hr h3], by rw [h.del, offR_miss hx h2], by rw [List.map_append, h.upd, turnR_turn hr h3 hv, ← hq]; rfl, all_take h.new hr (.inl (by rw [h3]; rfl)), h.ok1, h.ok2, okSnoc h.ok3 hk⟩
theorem BSt.right (h : BSt a b j p li ld lu) {r : Row} (hr : b.rs[j]? = some r) (hp : ∀ x, a.rs[p]? = some x → r.1 < x.1) (hn : a.nx ≤ r.1) {y : Rw} (hy : y.row = r) (hk : y.ok) : BSt a b (j + 1) p (li ++ [y]) ld lu := by
  obtain ⟨h1, h2⟩ := h.mg.right hr hp
  exact ⟨h.va, h.vb, h.eq, h.nx, h1, by rw [List.map_append, h.ins, offR_hit hr h2, ← hy]; rfl, h.del, by rw [h.upd, turnR_none hr h2], all_take h.new hr (.inr hn), okSnoc h.ok1 hk, h.ok2, h.ok3⟩
theorem BSt.bad (h : BSt a b j p li ld lu) {r : Row} (hr : b.rs[j]? = some r) (hp : ∀ x, a.rs[p]? = some x → r.1 < x.1) (hn : r.1 < a.nx) : betweenC a b = (false, zeroD) := by
  obtain ⟨h1, h2⟩ := h.mg.right hr hp
  have : betB a b = false := by
    unfold betB
    have h3 : (b.rs.all fun r => (getR a.rs r.1).isSome || decide (a.nx ≤ r.1)) = false := by
      rw [List.all_eq_false]
      exact ⟨r, List.mem_of_getElem? hr, by rw [h2]; simp; omega⟩
    rw [h3, Bool.and_false]
  unfold betweenC
  rw [this]; rfl
theorem BSt.tail (h : BSt a b j p li ld lu) (hj : b.rs.length ≤ j) {x : Row} (hx : a.rs[p]? = some x) {y : Rw} (hy : y.row = x) (hk : y.ok) : BSt a b j (p + 1) li (ld ++ [y]) lu := by
  have h2 := h.mg.last hj (Nat.le_refl _) hx
  refine ⟨h.va, h.vb, h.eq, h.nx, ⟨h.mg.aasc, h.mg.basc, fun z _ y hy => ?_, fun z hz y hy => ?_⟩, h.ins, by rw [List.map_append, h.del, offR_hit hx h2, ← hy]; rfl, h.upd, h.new, h.ok1, okSnoc h.ok2 hk, h.ok3⟩
  · rw [List.drop_of_length_le hj] at hy; cases hy
  · obtain ⟨i, hi, hzi⟩ := mem_drop_at hz
    exact h.mg.up z (mem_of_drop_at (by omega) hzi) y hy
theorem BSt.fin (h : BSt a b j p li ld lu) (hj : b.rs.length ≤ j) (hp : a.rs.length ≤ p) : betweenC a b = (true, ⟨a.nm, li.map Rw.row, ld.map Rw.row, lu.map Pr.upd⟩) := by
  have h1 := h.ins
  have h2 := h.del
  have h3 := h.upd
  have h4 := h.new
  rw [List.take_of_length_le hj] at h1 h3 h4
  rw [List.take_of_length_le hp] at h2
  have : betB a b = true := by
    unfold betB
    rw [h.va, h.vb, decide_eq_true h.eq, decide_eq_true h.nx]
    simp only [Bool.and_self, Bool.true_and, List.all_eq_true, Bool.or_eq_true, decide_eq_true_eq]
    exact h4
  unfold betweenC
  rw [this, if_pos rfl, h1, h2, h3]
end
/-- the state of the reference's loops: j rows of b, then p rows of a are done -/
structure RSt (a b : Tb) (j p : Nat) (li ld : List Rw) (lu : List Pr) : Prop where
  va : tabB a.nm a.cs a.nx a.rs = true
  vb : tabB b.nm b.cs b.nx b.rs = true
  eq : a.nm = b.nm ∧ a.cs = b.cs
  nx : a.nx ≤ b.nx
  ins : li.map Rw.row = offR a.rs (b.rs.take j)
  del : ld.map Rw.row = offR b.rs (a.rs.take p)
  upd : lu.map Pr.upd = turnR a.rs (b.rs.take j)
  new : ∀ r ∈ b.rs.take j, (getR a.rs r.1).isSome = true ∨ a.nx ≤ r.1
  ok1 : ∀ r ∈ li, r.ok
  ok2 : ∀ r ∈ ld, r.ok
  ok3 : ∀ p ∈ lu, p.ok
theorem RSt.zero {a b : Tb} (va : tabB a.nm a.cs a.nx a.rs = true) (vb : tabB b.nm b.cs b.nx b.rs = true) (eq : a.nm = b.nm ∧ a.cs = b.cs) (nx : a.nx ≤ b.nx) : RSt a b 0 0 [] [] [] :=
  ⟨va, vb, eq, nx, rfl, rfl, rfl, fun r hr => by simp at hr, fun r hr => (nomatch hr), fun r hr => (nomatch hr), fun r hr => (nomatch hr)⟩
section
variable {a b : Tb} {j p : Nat} {li ld : List Rw} {lu : List Pr}
theorem RSt.ins_ (h : RSt a b j p li ld lu) {r : Row} (hr : b.rs[j]? = some r) (h2 : getR a.rs r.1 = none) (hn : a.nx ≤ r.1) {y : Rw} (hy : y.row = r) (hk : y.ok) : RSt a b (j + 1) p (li ++ [y]) ld lu :=
  ⟨h.va, h.vb, h.eq, h.nx, by rw [List.map_append, h.ins, offR_hit hr h2, ← hy]; rfl, h.del, by rw [h.upd, turnR_none hr h2], all_take h.new hr (.inr hn), okSnoc h.ok1 hk, h.ok2, h.ok3⟩
theorem RSt.same (h : RSt a b j p li ld lu) {r : Row} {o : List Vl} (hr : b.rs[j]? = some r) (h2 : getR a.rs r.1 = some o) (ho : o = r.2) : RSt a b (j + 1) p li ld lu := by
  subst ho
  exact ⟨h.va, h.vb, h.eq, h.nx, by rw [h.ins, offR_miss hr h2], h.del, by rw [h.upd, turnR_same hr h2], all_take h.new hr (.inl (by rw [h2]; rfl)), h.ok1, h.ok2, h.ok3⟩
theorem RSt.turn (h : RSt a b j p li ld lu) {r : Row} {o : List Vl} (hr : b.rs[j]? = some r) (h2 : getR a.rs r.1 = some o) (ho : o ≠ r.2) {q : Pr} (hq : q.upd = (r.1, o, r.2)) (hk : q.ok) : RSt a b (j + 1) p li ld (lu ++ [q]) :=
  ⟨h.va, h.vb, h.eq, h.nx, by rw [h.ins, offR_miss hr h2], h.del, by rw [List.map_append, h.upd, turnR_turn hr h2 ho, ← hq]; rfl, all_take h.new hr (.inl (by rw [h2]; rfl)), h.ok1, h.ok2, okSnoc h.ok3 hk⟩
theorem RSt.bad (h : RSt a b j p li ld lu) {r : Row} (hr : b.rs[j]? = some r) (h2 : getR a.rs r.1 = none) (hn : r.1 < a.nx) : betweenC a b = (false, zeroD) := by
  have : betB a b = false := by
    unfold betB
    have h3 : (b.rs.all fun r => (getR a.rs r.1).isSome || decide (a.nx ≤ r.1)) = false := by
      rw [List.all_eq_false]
      exact ⟨r, List.mem_of_getElem? hr, by rw [h2]; simp; omega⟩
    rw [h3, Bool.and_false]
  unfold betweenC
  rw [this]; rfl
theorem RSt.left (h : RSt a b j p li ld lu) {x : Row} (hx : a.rs[p]? = some x) (h2 : getR b.rs x.1 = none) {y : Rw} (hy : y.row = x) (hk : y.ok) : RSt a b j (p + 1) li (ld ++ [y]) lu :=
  ⟨h.va, h.vb, h.eq, h.nx, h.ins, by rw [List.map_append, h.del, offR_hit hx h2, ← hy]; rfl, h.upd, h.new, h.ok1, okSnoc h.ok2 hk, h.ok3⟩
theorem RSt.keep (h : RSt a b j p li ld lu) {x : Row} {v : List Vl} (hx : a.rs[p]? = some x) (h2 : getR b.rs x.1 = some v) : RSt a b j (p + 1) li ld lu :=
  ⟨h.va, h.vb, h.eq, h.nx, h.ins, by rw [h.del, offR_miss hx h2], h.upd, h.new, h.ok1, h.ok2, h.ok3⟩
theorem RSt.fin (h : RSt a b j p li ld lu) (hj : b.rs.length ≤ j) (hp : a.rs.length ≤ p) : betweenC a b = (true, ⟨a.nm, li.map Rw.row, ld.map Rw.row, lu.map Pr.upd⟩) := by
  have h1 := h.ins
  have h2 := h.del
  have h3 := h.upd
  have h4 := h.new
  rw [List.take_of_length_le hj] at h1 h3 h4
  rw [List.take_of_length_le hp] at h2
  have : betB a b = true := by
    unfold betB
    rw [h.va, h.vb, decide_eq_true h.eq, decide_eq_true h.nx]
    simp only [Bool.and_self, Bool.true_and, List.all_eq_true, Bool.or_eq_true, decide_eq_true_eq]
    exact h4
  unfold betweenC
  rw [this, if_pos rfl, h1, h2, h3]
end
theorem betC_a {a b : Tb} (h : tabB a.nm a.cs a.nx a.rs = false) : betweenC a b = (false, zeroD) := by unfold betweenC betB; rw [h]; rfl
theorem betC_b {a b : Tb} (h : tabB b.nm b.cs b.nx b.rs = false) : betweenC a b = (false, zeroD) := by unfold betweenC betB; rw [h]; simp
theorem betC_s {a b : Tb} (h : decide (a.nm = b.nm ∧ a.cs = b.cs) = false) : betweenC a b = (false, zeroD) := by unfold betweenC betB; rw [h]; simp
theorem betC_n {a b : Tb} (h : b.nx < a.nx) : betweenC a b = (false, zeroD) := by
  have : decide (a.nx ≤ b.nx) = false := by simp; omega
  unfold betweenC betB; rw [this]; simp
/-- the rest of a list of rows -/
theorem tail_rws {A : Option Addr} {n : Nat} {x : Rw} {l : List Rw} {w : World} (h : RwsIn A n (x :: l) w) : ∃ b o, A = some ⟨b, o, none⟩ ∧ RwsIn (some ⟨b, o + 2, none⟩) (n - 1) l w := by
  have hl := h.len
  simp only [List.length_cons] at hl
  obtain ⟨b, o, e, hb, hc⟩ := (show Rd w w.heap.size 2 A n (rwCells (x :: l)) from h.1).2 (by omega)
  refine ⟨b, o, e, ⟨by rw [rwCells_len]; omega, fun _ => ⟨b, o + 2, rfl, hb, fun j u hu => ?_⟩⟩, fun r hr => h.2 r (List.mem_cons_of_mem _ hr)⟩
  have h2 := hc (j + 2) u (by
    have e0 : rwCells (x :: l) = x.cells ++ rwCells l := by simp [rwCells]
    rw [e0, List.getElem?_append_right (by simp [Rw.cells])]
    simpa [Rw.cells] using hu)
  rw [← h2]
  congr 2
  omega
theorem Ro.tailRws {w : World} {M : Nat → Prop} {A : Option Addr} {n : Nat} {x : Rw} {l : List Rw} (h : Ro w M (RwsIn A n (x :: l))) : ∃ b o, A = some ⟨b, o, none⟩ ∧ Ro w M (RwsIn (some ⟨b, o + 2, none⟩) (n - 1) l) := by
  obtain ⟨b, o, e, _⟩ := tail_rws h.now
  refine ⟨b, o, e, fun w2 h1 h2 => ?_⟩
  obtain ⟨b', o', e', h3⟩ := tail_rws (h w2 h1 h2)
  rw [e] at e'
  injection e' with e'
  injection e' with e1 e2
  subst e1; subst e2
  exact h3
theorem Ro.nilRws {w : World} {M : Nat → Prop} {A : Option Addr} {n : Nat} {l : List Rw} (hn : n = 0) (hl : l = []) : Ro w M (RwsIn A n l) := fun w2 _ _ => by
  subst hn; subst hl
  exact ⟨⟨rfl, fun h => absurd h (by omega)⟩, fun r hr => nomatch hr⟩
/-- a difference in memory -/
def DlAt (w : World) (M : Nat → Prop) (v : Value) (d : Dl) : Prop :=
  ∃ (I : Option Addr) (ni ci : Nat) (D : Option Addr) (nd cd : Nat) (U : Option Addr) (nu cu : Nat) (li ld : List Rw) (lu : List Pr), v = .agg #[.string d.nm, .slice I ni ci, .slice D nd cd, .slice U nu cu] ∧
    (ni ≤ ci ∧ ci ≤ 9223372036854775807) ∧ (nd ≤ cd ∧ cd ≤ 9223372036854775807) ∧ (nu ≤ cu ∧ cu ≤ 9223372036854775807) ∧ Ro w M (RwsIn I ni li) ∧ Ro w M (RwsIn D nd ld) ∧ Ro w M (PrsIn U nu lu) ∧
    (∀ r ∈ li, r.ok) ∧ (∀ r ∈ ld, r.ok) ∧ (∀ p ∈ lu, p.ok) ∧ li.map Rw.row = d.ins ∧ ld.map Rw.row = d.del ∧ lu.map Pr.upd = d.upd
def BetRet (w : World) (M : Nat → Prop) (r : Bool × Dl) (e : Ending) (w' : World) : Prop := ∃ v, e = .returned (.tuple #[v, .bool r.1]) ∧ DlAt w' M v r.2 ∧ Below w.heap.size w w'
theorem dlAt_zero {w : World} {M : Nat → Prop} : DlAt w M (.agg #[.string ⟨#[]⟩, .slice none 0 0, .slice none 0 0, .slice none 0 0]) zeroD :=
  ⟨none, 0, 0, none, 0, 0, none, 0, 0, [], [], [], rfl, by omega, by omega, by omega, fun _ _ _ => ⟨Rd.none_, fun r hr => nomatch hr⟩, fun _ _ _ => ⟨Rd.none_, fun r hr => nomatch hr⟩, fun _ _ _ => ⟨Rd.none_, fun r hr => nomatch hr⟩, fun r hr => (nomatch hr), fun r hr => (nomatch hr), fun r hr => (nomatch hr), rfl, rfl, rfl⟩
end Go.Proofs.YtedogodccblfeaaGreatDoor

namespace Go.Proofs.YtedogodccblfeaaGreatDoor
open Go.RowKit
set_option linter.unusedVariables false
set_option linter.unusedSimpArgs false

/-- the second table is the first one some changes later -/
def LaterOk (t t' : Tb) : Prop := t'.nm = t.nm ∧ t'.cs = t.cs ∧ t.nx ≤ t'.nx ∧ ∀ r ∈ t'.rs, (getR t.rs r.1).isSome = true ∨ t.nx ≤ r.1
theorem getR_isSome {rs : List Row} {id : Int} (h : id ∈ rs.map (·.1)) : (getR rs id).isSome = true := by
  unfold getR
  rw [Option.isSome_map, List.find?_isSome]
  obtain ⟨x, hx, rfl⟩ := List.mem_map.1 h
  exact ⟨x, hx, by simp⟩
theorem LaterOk.refl (t : Tb) : LaterOk t t := ⟨rfl, rfl, Int.le_refl _, fun r hr => .inl (getR_isSome (List.mem_map_of_mem (f := fun x : Row => x.1) hr))⟩
theorem LaterOk.trans {a b c : Tb} (h : LaterOk a b) (k : LaterOk b c) : LaterOk a c := by
  obtain ⟨h1, h2, h3, h4⟩ := h
  obtain ⟨k1, k2, k3, k4⟩ := k
  refine ⟨k1.trans h1, k2.trans h2, by omega, fun r hr => ?_⟩
  rcases k4 r hr with h5 | h5
  · obtain ⟨x, hx, he⟩ := List.mem_map.1 (getR_some h5)
    rcases h4 x hx with h6 | h6
    · exact .inl (by rw [← he]; exact h6)
    · exact .inr (by rw [← he]; exact h6)
  · exact .inr (by omega)
theorem ApOk.later {nm : ByteArray} {cs : List Col} {nx : Int} {rs : List Row} {ins : List (List Vl)} {dels : List Int} {us : List Upd} {T : Tb} (h : ApOk nm cs nx rs ins dels us T) : LaterOk ⟨nm, cs, nx, rs⟩ T := by
  rw [h.tb]
  refine ⟨rfl, rfl, by show nx ≤ nx + (ins.length : Int); omega, fun r hr => ?_⟩
  rcases List.mem_append.1 hr with hr | hr
  · obtain ⟨y, hy, rfl⟩ := List.mem_map.1 hr
    have h1 : getR rs y.1 |>.isSome := getR_isSome (List.mem_map_of_mem (f := fun x : Row => x.1) (List.mem_filter.1 hy).1)
    exact .inl h1
  · right
    unfold insR at hr
    obtain ⟨p, hp, rfl⟩ := List.mem_map.1 hr
    show nx ≤ nx + _
    omega
theorem ApOk.vtab {t : Tb} {ins : List (List Vl)} {dels : List Int} {us : List Upd} {T : Tb} (hv : VTab t) (h : ApOk t.nm t.cs t.nx t.rs ins dels us T) : VTab T := by
  have h2 := h.tab2
  have h3 : T.nm = t.nm ∧ T.cs = t.cs := by rw [h.tb]; exact ⟨rfl, rfl⟩
  exact ⟨by rw [h3.1, h3.2]; exact hv.sch, h2⟩
/-- what holds two numbers one behind the other is apart from a block that holds the zero table -/
theorem Ro.apartPair {w : World} {Q : Nat → Prop} {size n : Nat} {A : Option Addr} {xs : List Value} (h : Ro w Q (SlR size A n xs)) {ga : Nat} {t : TypeId} (hg : w.heap[ga]? = some (.cells zeroTc t (0, 0))) (hx : n = 0 ∨ ∃ x y : Int, xs[0]? = some (.int .i64 x) ∧ xs[1]? = some (.int .i64 y)) : Ro w (fun b => b = ga ∨ Q b) (SlR size A n xs) := by
  rcases hx with rfl | ⟨x0, y0, hx0, hy0⟩
  · exact fun w2 _ _ => ⟨(show Rd w w.heap.size size A 0 xs from h.now).1, fun h0 => absurd h0 (by omega)⟩
  · intro w2 h1 h2
    have hgl : ga < w.heap.size := Blk.lt (t := t) (cs := zeroTc) hg
    have hgs : (w2.heap.setIfInBounds ga (.cells zeroTc t (0, 0)))[ga]? = some (.cells zeroTc t (0, 0)) := by
      rw [Array.getElem?_setIfInBounds, if_pos rfl, if_pos (by omega)]
    have hne : ∀ b, b ≠ ga → (w2.heap.setIfInBounds ga (.cells zeroTc t (0, 0)))[b]? = w2.heap[b]? := fun b hb => by
      rw [Array.getElem?_setIfInBounds, if_neg (fun e => hb e.symm)]
    have h3 : Rd { w2 with heap := w2.heap.setIfInBounds ga (.cells zeroTc t (0, 0)) } _ size A n xs := h { w2 with heap := w2.heap.setIfInBounds ga (.cells zeroTc t (0, 0)) } (by simpa using h1) (fun b hb hn => by
      by_cases e : b = ga
      · subst e; exact hgs.trans hg.symm
      · exact (hne b e).trans (h2 b hb (fun hm => hm.elim e hn)))
    refine ⟨h3.1, fun hn => ?_⟩
    obtain ⟨b, o, e, hb, hc⟩ := h3.2 hn
    have hbg : b ≠ ga := by
      rintro rfl
      have h4 := hc 0 _ hx0
      have h5 := hc 1 _ hy0
      rw [cell_of_row _ _ _ _ _ _ hgs] at h4 h5
      rcases o with _ | _ | _ | _ | o <;> simp [zeroTc] at h4 h5
    refine ⟨b, o, e, by simpa using hb, fun j u hu => ?_⟩
    rw [← hc j u hu]
    exact (World.cell?_of_block (w := w2) (w' := { w2 with heap := w2.heap.setIfInBounds ga (.cells zeroTc t (0, 0)) }) (a := ⟨b, o + j, none⟩) (hne b hbg)).symm
theorem vls_apart {w : World} {Q : Nat → Prop} {A : Option Addr} {n : Nat} {vs : List Vl} (h : Ro w Q (VlsIn A n vs)) {ga : Nat} {t : TypeId} (hg : w.heap[ga]? = some (.cells zeroTc t (0, 0))) : Ro w (fun b => b = ga ∨ Q b) (VlsIn A n vs) := by
  have hl := VlsIn.len h.now
  exact (show Ro w Q (SlR 3 A n (vlCells vs)) from h).apartPair hg (by
    cases vs with
    | nil => left; simpa using hl.symm
    | cons v vs => exact .inr ⟨v.k, v.i, rfl, rfl⟩)
theorem rws_apart {w : World} {Q : Nat → Prop} {B : Option Addr} {m : Nat} {l : List Rw} (h : Ro w Q (RwsIn B m l)) {ga : Nat} {t : TypeId} (hg : w.heap[ga]? = some (.cells zeroTc t (0, 0))) (hx : ∀ r ∈ l, r.id ≠ 0) : Ro w (fun b => b = ga ∨ Q b) (RwsIn B m l) := by
  have hl := h.now.len
  have h1 : Ro w Q (SlR 2 B m (rwCells l)) := h.imp fun w2 h2 => h2.1
  have k1 := h1.apartBlk hg (by
    cases l with
    | nil => left; simpa using hl.symm
    | cons r l => exact .inr ⟨.int .i64 r.id, rfl, int_apart (hx r (by simp))⟩)
  refine k1.and fun w2 g1 g2 r hr => ?_
  have h2 : Ro w Q (VlsIn r.A r.n r.vs) := h.imp fun w2 h2 => h2.2 r hr
  exact vls_apart h2 hg w2 g1 g2
theorem rapply_slot (M : Nat → Prop) (w : World) (hM : ∀ b, M b → b < w.heap.size) (v c : Value) (t : Tb) (ins : List (List Vl)) (dels : List Int) (us : List Upd) (hT : TbAt w M v t) (hC : ChgSlot M ins dels us c w) (hs : t.nm.size ≤ maxLen) (hcs : ∀ x ∈ t.cs, x.name.size ≤ maxLen)
    (hr : t.rs.length ≤ 1000000) (hrl : ∀ r ∈ t.rs, r.2.length ≤ 1000000) (hi : ins.length ≤ 1000000) (hd : dels.length ≤ 1000000) (hu : us.length ≤ 1000000) :
    Calls Tryz.prog 24 #[v, c] w fun e w' => ∃ u, e = .returned u ∧ ApSlot M (applyC t.nm t.cs t.nx t.rs ins dels us) u w' ∧ Below w.heap.size w w' := by
  obtain ⟨A, n, cc, B, m, d, l, rfl, h1, h2, h3, h4, h5, h6, h7, h8⟩ := hT
  obtain ⟨x, y, z, rfl, ⟨I, ni, ci, pi, rfl, i1, i2, rfl, i4, i5⟩, ⟨D, nd, cd, rfl, d1, d2, d3⟩, ⟨U, nu, cu, pu, rfl, u1, u2, rfl, u4, u5⟩⟩ := hC
  have hml := h6.now.len
  have hil := i5.now.len
  have hul := u5.now.len
  have hdl : dels.length = nd := (show Rd w w.heap.size 1 D nd (iCells dels) from d3.now).1 |> fun h => by simpa [iCells] using h
  have hrn : ∀ r ∈ l, r.n ≤ 4398046511104 := fun r hr' => by
    have h9 := hrl r.row (by rw [← h8]; exact List.mem_map_of_mem hr')
    have h10 : r.vs.length = r.n := VlsIn.len (h6.now.2 r hr')
    have h11 : r.row.2 = r.vs := rfl
    rw [h11] at h9
    omega
  rw [← h8] at hr
  simp only [List.length_map] at hr hi hu
  have := rapply_any M w hM t.nm A n cc t.cs t.nx B m d l I ni ci pi D nd cd dels U nu cu pu h5 h6 i5 d3 u5 (by omega) (by omega) h7 hrn (fun p hp => Nat.le_trans (u4 p hp).oc (u4 p hp).oc2) hs hcs (by omega) (by omega) (by omega) i4 u4
  rw [h8] at this
  refine this.mono ?_
  rintro e w' ⟨v, rfl, hv, b⟩
  exact ⟨_, rfl, ⟨v, rfl, hv⟩, b⟩
end Go.Proofs.YtedogodccblfeaaGreatDoor

namespace Go.Proofs.YtedogodccblfeaaGreatDoor
open Go.RowKit
set_option linter.unusedVariables false
set_option linter.unusedSimpArgs false
set_option linter.unusedSectionVars false

theorem asc_ext : ∀ {l l' : List Row}, (l.map (·.1)).Pairwise (· < ·) → (l'.map (·.1)).Pairwise (· < ·) → (∀ x, x ∈ l ↔ x ∈ l') → l = l'
  | [], [], _, _, _ => rfl
  | [], y :: l', _, _, h => nomatch (h y).2 (List.mem_cons_self ..)
  | x :: l, [], _, _, h => nomatch (h x).1 (List.mem_cons_self ..)
  | x :: l, y :: l', h1, h2, h => by
    rw [List.map_cons, List.pairwise_cons] at h1 h2
    have hxy : x = y := by
      rcases List.mem_cons.1 ((h x).1 (List.mem_cons_self ..)) with e | e
      · exact e
      · rcases List.mem_cons.1 ((h y).2 (List.mem_cons_self ..)) with e2 | e2
        · exact e2.symm
        · have a1 := h2.1 x.1 (List.mem_map_of_mem e)
          have a2 := h1.1 y.1 (List.mem_map_of_mem e2)
          omega
    subst hxy
    rw [asc_ext h1.2 h2.2 fun z => ?_]
    constructor
    · intro hz
      rcases List.mem_cons.1 ((h z).1 (List.mem_cons_of_mem _ hz)) with e | e
      · subst e
        have := h1.1 z.1 (List.mem_map_of_mem hz)
        omega
      · exact e
    · intro hz
      rcases List.mem_cons.1 ((h z).2 (List.mem_cons_of_mem _ hz)) with e | e
      · subst e
        have := h2.1 z.1 (List.mem_map_of_mem hz)
        omega
      · exact e
theorem map_filter_asc {l : List Row} {p : Row → Bool} (h : (l.map (·.1)).Pairwise (· < ·)) : ((l.filter p).map (·.1)).Pairwise (· < ·) := h.sublist (List.filter_sublist.map _)
theorem turnR_asc {rs l : List Row} (h : (l.map (·.1)).Pairwise (· < ·)) : ((turnR rs l).map (·.1)).Pairwise (· < ·) := by
  induction l with
  | nil => exact List.Pairwise.nil
  | cons x l ih =>
    rw [List.map_cons, List.pairwise_cons] at h
    unfold turnR
    rw [List.filterMap_cons]
    have ih2 := ih h.2
    split
    · exact ih2
    · rename_i u hu
      rw [List.map_cons, List.pairwise_cons]
      refine ⟨fun id hid => ?_, ih2⟩
      obtain ⟨v, hv, rfl⟩ := List.mem_map.1 hid
      obtain ⟨r, hr, h2⟩ := List.mem_filterMap.1 hv
      have e1 : u.1 = x.1 := by
        split at hu
        · split at hu
          · cases hu
          · injection hu with hu; rw [← hu]
        · cases hu
      have e2 : v.1 = r.1 := by
        split at h2
        · split at h2
          · cases h2
          · injection h2 with h2; rw [← h2]
        · cases h2
      rw [e1, e2]
      exact h.1 r.1 (List.mem_map_of_mem hr)
theorem turnR_cons (rs : List Row) (y : Row) (l : List Row) : turnR rs (y :: l) = (match getR rs y.1 with | some o => if o = y.2 then none else some (y.1, o, y.2) | none => none).toList ++ turnR rs l := by
  unfold turnR
  rw [List.filterMap_cons]
  cases getR rs y.1 with
  | none => rfl
  | some o => by_cases ho : o = y.2 <;> simp [ho]
theorem turnR_ids {rs l : List Row} {u : Upd} (h : u ∈ turnR rs l) : ∃ r ∈ l, u.1 = r.1 := by
  obtain ⟨r, hr, h2⟩ := List.mem_filterMap.1 h
  refine ⟨r, hr, ?_⟩
  split at h2
  · split at h2
    · cases h2
    · injection h2 with h2; rw [← h2]
  · cases h2
def betD (a b : Tb) : Dl := ⟨a.nm, offR a.rs b.rs, offR b.rs a.rs, turnR a.rs b.rs⟩
theorem offR_none {rs l : List Row} {r : Row} (h : r ∈ offR rs l) : getR rs r.1 = none := by
  have := (List.mem_filter.1 h).2
  simpa using this
section
variable {a b : Tb} (ha : tabB a.nm a.cs a.nx a.rs = true) (hb : tabB b.nm b.cs b.nx b.rs = true) (hl : LaterOk a b)
include ha hb hl
theorem betC_later : betweenC a b = (true, betD a b) := by
  obtain ⟨h1, h2, h3, h4⟩ := hl
  have : betB a b = true := by
    unfold betB
    rw [ha, hb, decide_eq_true (show a.nm = b.nm ∧ a.cs = b.cs from ⟨h1.symm, h2.symm⟩), decide_eq_true h3]
    simp only [Bool.and_self, Bool.true_and, List.all_eq_true, Bool.or_eq_true, decide_eq_true_eq]
    exact h4
  unfold betweenC
  rw [this]; rfl
end
end Go.Proofs.YtedogodccblfeaaGreatDoor

namespace Go.Proofs.YtedogodccblfeaaGreatDoor
open Go.RowKit
set_option linter.unusedVariables false
set_option linter.unusedSimpArgs false

/-- An entry: the table's name, its next number of before, the numbers that came, the rows that left, the rows of before that turned. -/
structure Ud where
  nm : ByteArray
  nx : Int
  ins : List Int
  del : List Row
  upd : List Row
deriving DecidableEq
def udOf (nx : Int) (d : Dl) : Ud := ⟨d.nm, nx, d.ins.map (·.1), d.del, d.upd.map fun u => (u.1, u.2.1)⟩
def recD (a b : Tb) : Ud := udOf a.nx (betD a b)
def leftU (u : Ud) (rs : List Row) : List Row := (rs.filter fun r => !u.ins.contains r.1).map fun r => (r.1, (getR u.upd r.1).getD r.2)
theorem getR_turn {rs : List Row} : ∀ {l : List Row}, (l.map (·.1)).Pairwise (· < ·) → ∀ {x : Row}, x ∈ l → getR ((turnR rs l).map fun u => (u.1, u.2.1)) x.1 = (match getR rs x.1 with | some o => if o = x.2 then none else some o | none => none)
  | y :: l, h, x, hx => by
    rw [List.map_cons, List.pairwise_cons] at h
    rw [turnR_cons, List.map_append]
    rcases List.mem_cons.1 hx with rfl | hx
    · have hn : getR ((turnR rs l).map fun u => (u.1, u.2.1)) x.1 = none := getR_none fun z hz e => by
        obtain ⟨u, hu, rfl⟩ := List.mem_map.1 hz
        obtain ⟨r, hr, e2⟩ := turnR_ids hu
        have := h.1 r.1 (List.mem_map_of_mem hr)
        have e : u.1 = x.1 := e
        omega
      cases hg : getR rs x.1 with
      | none => simpa using hn
      | some o =>
        by_cases ho : o = x.2
        · simp only [ho, if_true, Option.toList_none, List.map_nil, List.nil_append]; exact hn
        · simp only [ho, if_false, Option.toList_some, List.map_cons, List.map_nil, List.cons_append, List.nil_append]
          simp [getR]
    · have hne : y.1 ≠ x.1 := by have := h.1 x.1 (List.mem_map_of_mem hx); omega
      have ih := getR_turn h.2 hx (rs := rs)
      cases hg : getR rs y.1 with
      | none => simpa using ih
      | some o =>
        by_cases ho : o = y.2
        · simp only [ho, if_true, Option.toList_none, List.map_nil, List.nil_append]; exact ih
        · simp only [ho, if_false, Option.toList_some, List.map_cons, List.map_nil, List.cons_append, List.nil_append]
          rw [← ih]
          unfold getR
          rw [List.find?_cons, show (((y.1, o) : Row).1 == x.1) = false by simpa using hne]
theorem getR_isNone {rs : List Row} {id : Int} (h : getR rs id = none) : id ∉ rs.map (·.1) := fun hm => by
  obtain ⟨r, hr, rfl⟩ := List.mem_map.1 hm
  unfold getR at h
  rw [Option.map_eq_none_iff, List.find?_eq_none] at h
  have := h r hr
  simp at this
theorem turnR_mem {rs l : List Row} {u : Upd} (h : u ∈ turnR rs l) : getR rs u.1 = some u.2.1 ∧ u.1 ∈ l.map (·.1) := by
  obtain ⟨r, hr, h2⟩ := List.mem_filterMap.1 h
  split at h2
  · rename_i o ho
    split at h2
    · cases h2
    · injection h2 with h2
      subst h2
      exact ⟨ho, List.mem_map_of_mem (f := fun x : Row => x.1) hr⟩
  · cases h2
theorem asc_nodup {l : List Row} (h : (l.map (·.1)).Pairwise (· < ·)) : (l.map (·.1)).Nodup := h.imp fun h => by omega
section
variable {a b : Tb} (ha : (a.rs.map (·.1)).Pairwise (· < ·)) (hb : (b.rs.map (·.1)).Pairwise (· < ·))
include ha hb
/-- the entry's numbers stand once -/
theorem rec_nodup : ((recD a b).ins ++ (recD a b).upd.map (·.1) ++ (recD a b).del.map (·.1)).Nodup := by
  have h1 : ((offR a.rs b.rs).map (·.1)).Nodup := asc_nodup (map_filter_asc hb)
  have h2 : ((offR b.rs a.rs).map (·.1)).Nodup := asc_nodup (map_filter_asc ha)
  have h3 : ((turnR a.rs b.rs).map (·.1)).Nodup := (turnR_asc hb).imp fun h => by omega
  have e3 : ((recD a b).upd.map (·.1)) = (turnR a.rs b.rs).map (·.1) := by simp [recD, udOf, betD, List.map_map, Function.comp_def]
  rw [e3]
  show ((offR a.rs b.rs).map (·.1) ++ (turnR a.rs b.rs).map (·.1) ++ (offR b.rs a.rs).map (·.1)).Nodup
  rw [List.nodup_append, List.nodup_append]
  refine ⟨⟨h1, h3, fun x hx y hy e => ?_⟩, h2, fun x hx y hy e => ?_⟩
  · subst e
    obtain ⟨r, hr, rfl⟩ := List.mem_map.1 hx
    obtain ⟨u, hu, e⟩ := List.mem_map.1 hy
    have k1 := offR_none hr
    have k2 := (turnR_mem hu).1
    rw [e, k1] at k2
    cases k2
  · subst e
    obtain ⟨r, hr, rfl⟩ := List.mem_map.1 hy
    have k1 := getR_isNone (offR_none hr)
    rcases List.mem_append.1 hx with hx | hx
    · obtain ⟨s, hs, e⟩ := List.mem_map.1 hx
      exact k1 (e ▸ List.mem_map_of_mem (f := fun x : Row => x.1) (List.mem_filter.1 hs).1)
    · obtain ⟨u, hu, e⟩ := List.mem_map.1 hx
      exact k1 (e ▸ (turnR_mem hu).2)
omit ha hb in
theorem rec_in : ∀ id ∈ (recD a b).ins ++ (recD a b).upd.map (·.1), id ∈ b.rs.map (·.1) := fun id h => by
  rcases List.mem_append.1 h with h | h
  · obtain ⟨r, hr, rfl⟩ := List.mem_map.1 h
    exact List.mem_map_of_mem (f := fun x : Row => x.1) (List.mem_filter.1 hr).1
  · obtain ⟨u, hu, rfl⟩ := List.mem_map.1 h
    obtain ⟨v, hv, rfl⟩ := List.mem_map.1 hu
    exact (turnR_mem hv).2
omit ha hb in
theorem rec_out : ∀ id ∈ (recD a b).del.map (·.1), id ∉ b.rs.map (·.1) := fun id h => by
  obtain ⟨r, hr, rfl⟩ := List.mem_map.1 h
  exact getR_isNone (offR_none hr)
theorem rec_left_mem (x : Row) : x ∈ leftU (recD a b) b.rs ++ (recD a b).del ↔ x ∈ a.rs := by
  rw [List.mem_append]
  constructor
  · rintro (h | h)
    · obtain ⟨r, hr, rfl⟩ := List.mem_map.1 h
      obtain ⟨hr1, hr2⟩ := List.mem_filter.1 hr
      have hu : getR (recD a b).upd r.1 = _ := getR_turn hb hr1 (rs := a.rs)
      cases hg : getR a.rs r.1 with
      | none =>
        have : r.1 ∈ (recD a b).ins := List.mem_map_of_mem (f := fun x : Row => x.1) (List.mem_filter.2 ⟨hr1, by rw [hg]; rfl⟩)
        simp [this] at hr2
      | some o =>
        rw [hg] at hu
        dsimp only at hu
        have hm := getR_out hg
        rw [hu]
        by_cases ho : o = r.2
        · subst ho; simpa using hm
        · simpa [ho] using hm
    · exact (List.mem_filter.1 h).1
  · intro hx
    cases hg : getR b.rs x.1 with
    | none => exact .inr (List.mem_filter.2 ⟨hx, by rw [hg]; rfl⟩)
    | some v =>
      left
      have hm := getR_out hg
      have ga := getR_of_mem ha hx
      have hu : getR (recD a b).upd (x.1, v).1 = _ := getR_turn hb hm (rs := a.rs)
      dsimp only at hu
      rw [ga] at hu
      dsimp only at hu
      refine List.mem_map.2 ⟨(x.1, v), List.mem_filter.2 ⟨hm, ?_⟩, ?_⟩
      · have : x.1 ∉ (recD a b).ins := fun h => by
          obtain ⟨r, hr, e⟩ := List.mem_map.1 h
          have := offR_none hr
          rw [e, ga] at this
          cases this
        simp [this]
      · dsimp only
        rw [hu]
        by_cases ho : x.2 = v
        · rw [if_pos ho]; subst ho; rfl
        · rw [if_neg ho]; rfl
theorem rec_left_nodup : ((leftU (recD a b) b.rs ++ (recD a b).del).map (·.1)).Nodup := by
  rw [List.map_append, List.nodup_append]
  have e : (leftU (recD a b) b.rs).map (·.1) = (b.rs.filter fun r => !(recD a b).ins.contains r.1).map (·.1) := by simp [leftU, List.map_map, Function.comp_def]
  refine ⟨by rw [e]; exact asc_nodup (map_filter_asc hb), asc_nodup (map_filter_asc ha), fun x hx y hy he => ?_⟩
  subst he
  rw [e] at hx
  obtain ⟨r, hr, rfl⟩ := List.mem_map.1 hx
  exact rec_out (a := a) (b := b) r.1 hy (List.mem_map_of_mem (f := fun x : Row => x.1) (List.mem_filter.1 hr).1)
theorem rec_left_len : (leftU (recD a b) b.rs ++ (recD a b).del).length = a.rs.length := by
  have h1 := rec_left_nodup ha hb
  have h2 := asc_nodup ha
  have hp : ((leftU (recD a b) b.rs ++ (recD a b).del).map (·.1)).Perm (a.rs.map (·.1)) := (List.perm_ext_iff_of_nodup h1 h2).2 fun id => by
    constructor
    · intro h
      obtain ⟨r, hr, rfl⟩ := List.mem_map.1 h
      exact List.mem_map_of_mem ((rec_left_mem ha hb r).1 hr)
    · intro h
      obtain ⟨r, hr, rfl⟩ := List.mem_map.1 h
      exact List.mem_map_of_mem ((rec_left_mem ha hb r).2 hr)
  simpa using hp.length_eq
/-- sorted by the numbers, the rows are those of before -/
theorem rec_back {S : List Row} (hp : S.Perm (leftU (recD a b) b.rs ++ (recD a b).del)) (hs : (S.map (·.1)).Pairwise (· ≤ ·)) : S = a.rs := by
  have hn : (S.map (·.1)).Nodup := (hp.map (·.1)).nodup_iff.2 (rec_left_nodup ha hb)
  refine asc_ext ?_ ha fun x => (hp.mem_iff).trans (rec_left_mem ha hb x)
  exact (List.pairwise_and_iff.2 ⟨hs, hn⟩).imp fun h => by omega
end
end Go.Proofs.YtedogodccblfeaaGreatDoor

namespace Go.Proofs.YtedogodccblfeaaGreatDoor
open Go.RowKit
set_option linter.unusedVariables false
set_option linter.unusedSimpArgs false

structure Ue where
  nm : ByteArray
  nx : Int
  I : Option Addr
  ni : Nat
  ci : Nat
  D : Option Addr
  nd : Nat
  cd : Nat
  U : Option Addr
  nu : Nat
  cu : Nat
  li : List Int
  ld : List Rw
  lu : List Rw
def Ue.cells (x : Ue) : List Value := [.string x.nm, .int .i64 x.nx, .slice x.I x.ni x.ci, .slice x.D x.nd x.cd, .slice x.U x.nu x.cu]
def Ue.val (x : Ue) : Value := .agg #[.string x.nm, .int .i64 x.nx, .slice x.I x.ni x.ci, .slice x.D x.nd x.cd, .slice x.U x.nu x.cu]
def Ue.ud (x : Ue) : Ud := ⟨x.nm, x.nx, x.li, x.ld.map Rw.row, x.lu.map Rw.row⟩
def UeIn (x : Ue) (w : World) : Prop := IsIn x.I x.ni x.li w ∧ RwsIn x.D x.nd x.ld w ∧ RwsIn x.U x.nu x.lu w
/-- an entry within limits: lists of at most N, rows of at most K values -/
structure Ue.good (x : Ue) (N K : Nat) : Prop where
  i : x.ni ≤ N
  d : x.nd ≤ N
  u : x.nu ≤ N
  ci : x.ni ≤ x.ci ∧ x.ci ≤ 9223372036854775807
  cd : x.nd ≤ x.cd ∧ x.cd ≤ 9223372036854775807
  cu : x.nu ≤ x.cu ∧ x.cu ≤ 9223372036854775807
  li : ∀ n ∈ x.li, I64 n
  ld : ∀ r ∈ x.ld, r.ok ∧ r.n ≤ K
  lu : ∀ r ∈ x.lu, r.ok ∧ r.n ≤ K
def ueCells (l : List Ue) : List Value := l.flatMap Ue.cells
theorem ueCells_len (l : List Ue) : (ueCells l).length = l.length * 5 := flat_len _ 5 (fun _ => rfl) l
def UesIn (A : Option Addr) (n : Nat) (l : List Ue) (w : World) : Prop := SlR 5 A n (ueCells l) w ∧ ∀ x ∈ l, UeIn x w
theorem UesIn.len {w : World} {A : Option Addr} {n : Nat} {l : List Ue} (h : UesIn A n l w) : l.length = n := by
  have := (show Rd w w.heap.size 5 A n (ueCells l) from h.1).1
  rw [ueCells_len] at this
  omega
theorem UesIn.at_ {w : World} {A : Option Addr} {n : Nat} {l : List Ue} (h : UesIn A n l w) {k : Nat} {x : Ue} (hx : l[k]? = some x) :
    ∃ b o, A = some ⟨b, o, none⟩ ∧ b < w.heap.size ∧ w.cell? ⟨b, o + k * 5, none⟩ = some (.string x.nm) ∧ w.cell? ⟨b, o + k * 5 + 1, none⟩ = some (.int .i64 x.nx) ∧ w.cell? ⟨b, o + k * 5 + 2, none⟩ = some (.slice x.I x.ni x.ci) ∧ w.cell? ⟨b, o + k * 5 + 3, none⟩ = some (.slice x.D x.nd x.cd) ∧ w.cell? ⟨b, o + k * 5 + 4, none⟩ = some (.slice x.U x.nu x.cu) ∧ UeIn x w := by
  have hk : k < n := by rw [← h.len]; exact (List.getElem?_eq_some_iff.1 hx).1
  obtain ⟨b, o, e, hb, hc⟩ := (show Rd w w.heap.size 5 A n (ueCells l) from h.1).2 (by omega)
  exact ⟨b, o, e, hb, hc _ _ (flat_get Ue.cells 5 (fun _ => rfl) l k 0 x (by omega) hx), hc _ _ (flat_get Ue.cells 5 (fun _ => rfl) l k 1 x (by omega) hx), hc _ _ (flat_get Ue.cells 5 (fun _ => rfl) l k 2 x (by omega) hx), hc _ _ (flat_get Ue.cells 5 (fun _ => rfl) l k 3 x (by omega) hx), hc _ _ (flat_get Ue.cells 5 (fun _ => rfl) l k 4 x (by omega) hx), h.2 x (List.mem_of_getElem? hx)⟩
theorem ueCells_snoc (l : List Ue) (x : Ue) : ueCells (l ++ [x]) = ueCells l ++ x.cells := by simp [ueCells]
theorem teCells_snoc (l : List Te) (x : Te) : teCells (l ++ [x]) = teCells l ++ x.cells := by simp [teCells]
def TeVals (l : List Te) (w : World) : Prop := ∀ x ∈ l, TeIn x w
def UeVals (l : List Ue) (w : World) : Prop := ∀ x ∈ l, UeIn x w
theorem teVals_snoc {M : Nat → Prop} {w : World} {rs : List Te} {r : Te} (h : Ro w M (TeVals rs)) (k : Ro w M (TeIn r)) : Ro w M (TeVals (rs ++ [r])) := fun w2 h1 h2 x hx => by
  rcases List.mem_append.1 hx with hx | hx
  · exact h w2 h1 h2 x hx
  · simp at hx; subst hx; exact k w2 h1 h2
theorem ueVals_snoc {M : Nat → Prop} {w : World} {rs : List Ue} {r : Ue} (h : Ro w M (UeVals rs)) (k : Ro w M (UeIn r)) : Ro w M (UeVals (rs ++ [r])) := fun w2 h1 h2 x hx => by
  rcases List.mem_append.1 hx with hx | hx
  · exact h w2 h1 h2 x hx
  · simp at hx; subst hx; exact k w2 h1 h2
theorem teVals_nil (w : World) (M : Nat → Prop) : Ro w M (TeVals []) := fun _ _ _ r hr => nomatch hr
theorem ueVals_nil (w : World) (M : Nat → Prop) : Ro w M (UeVals []) := fun _ _ _ r hr => nomatch hr
/-- an entry handed back -/
def UeRet (w : World) (M : Nat → Prop) (N K : Nat) (u : Ud) (e : Ending) (w' : World) : Prop := ∃ x : Ue, e = .returned x.val ∧ x.ud = u ∧ x.good N K ∧ Ro w' M (UeIn x) ∧ Below w.heap.size w w'
/-- a log handed back -/
def UesRet (w : World) (M : Nat → Prop) (N K : Nat) (us : List Ud) (e : Ending) (w' : World) : Prop := ∃ (A : Option Addr) (n c : Nat) (l : List Ue), e = .returned (.slice A n c) ∧ n ≤ c ∧ c ≤ 9223372036854775807 ∧ l.map Ue.ud = us ∧ (∀ x ∈ l, x.good N K) ∧ Ro w' M (UesIn A n l) ∧ Below w.heap.size w w'
/-- a table handed back -/
def TeRet (w : World) (M : Nat → Prop) (t : Tb) (e : Ending) (w' : World) : Prop := ∃ x : Te, e = .returned x.val ∧ x.tb = t ∧ x.ok ∧ Ro w' M (TeIn x) ∧ Below w.heap.size w w'
/-- a store handed back -/
def TesRet (w : World) (M : Nat → Prop) (ts : List Tb) (e : Ending) (w' : World) : Prop := ∃ (A : Option Addr) (n c : Nat) (l : List Te), e = .returned (.slice A n c) ∧ n ≤ c ∧ c ≤ 9223372036854775807 ∧ l.map Te.tb = ts ∧ (∀ x ∈ l, x.ok) ∧ Ro w' M (TesIn A n l) ∧ Below w.heap.size w w'
/-- rows handed back -/
def RwsRet (w : World) (M : Nat → Prop) (K : Nat) (rs : List Row) (e : Ending) (w' : World) : Prop := ∃ (A : Option Addr) (n c : Nat) (l : List Rw), e = .returned (.slice A n c) ∧ n ≤ c ∧ c ≤ 9223372036854775807 ∧ l.map Rw.row = rs ∧ (∀ r ∈ l, r.ok ∧ r.n ≤ K) ∧ Ro w' M (RwsIn A n l) ∧ Below w.heap.size w w'
end Go.Proofs.YtedogodccblfeaaGreatDoor

namespace Go.Proofs.YtedogodccblfeaaGreatDoor
open Go.RowKit
set_option linter.unusedVariables false
set_option linter.unusedSimpArgs false

theorem rowsCopy_step {l outs : List Rw} {j K : Nat} {x : Rw} {A : Option Addr} {n c : Nat} (h : outs.map Rw.row = (l.take j).map Rw.row ∧ ∀ r ∈ outs, r.ok ∧ r.n ≤ K) (hx : l[j]? = some x) (hk : x.ok ∧ x.n ≤ K) (h1 : n ≤ c) (h2 : c ≤ 9223372036854775807) (h3 : n ≤ K) :
    (outs ++ [(⟨x.id, A, n, c, x.vs⟩ : Rw)]).map Rw.row = (l.take (j + 1)).map Rw.row ∧ ∀ r ∈ outs ++ [(⟨x.id, A, n, c, x.vs⟩ : Rw)], r.ok ∧ r.n ≤ K := by
  constructor
  · rw [List.map_append, h.1, List.take_add_one, hx, List.map_append]; rfl
  · intro r hr
    rcases List.mem_append.1 hr with hr | hr
    · exact h.2 r hr
    · simp at hr; subst hr; exact ⟨⟨hk.1.id, h1, h2, hk.1.vs⟩, h3⟩
set_option maxHeartbeats 4000000 in
set_option maxRecDepth 100000 in
theorem srows_any (M : Nat → Prop) (w : World) (hM : ∀ b, M b → b < w.heap.size) (A : Option Addr) (n c K : Nat) (l : List Rw) (hE : Ro w M (RwsIn A n l)) (hn : n ≤ 1000000) (hK : K ≤ 4398046511104) (hrn : ∀ r ∈ l, r.ok ∧ r.n ≤ K) :
    Calls Tryz.prog 193 #[.slice A n c] w fun e w' => RwsRet w M K (l.map Rw.row) e w' := by
  have HRL := hid hE.now.len
  have HRN := hid hrn
  have HKK := hid hK
  clear hrn hK
  have KD := (((Hold.start M w hM).add (hE.less (by simp [Mut]))).add (ro_vals_nil _ _)).nil 119 2
  clear hE
  go_enter Tryz.func193, Tryz.ntmps193
  go_wp2_with fail
  go_loopw [3, 8] (fun ov iv wr => ∃ (j cap : Nat) (O : Option Addr) (outs : List Rw), j ≤ n ∧ iv = .int .i64 j ∧ ov = .slice O j cap ∧ Hid (outs.map Rw.row = (l.take j).map Rw.row ∧ ∀ r ∈ outs, r.ok ∧ r.n ≤ K) ∧ Hold M none w wr [.own 119 2 (.slice O j cap) j (rwCells outs), .ro (ValsIn outs), .ro (RwsIn A n l)]) (fun _ iv _ => n - (intOf iv).toNat)
  case atStart => exact ⟨0, 0, none, [], by omega, rfl, rfl, hid ⟨rfl, fun r hr => nomatch hr⟩, KD⟩
  case round =>
    clear KD
    obtain ⟨j, cap, O, outs, hj, rfl, rfl, HW, H⟩ := hrel
    by_cases hlt : j < n
    · have hd : decide ((j : Int) < (n : Int)) = true := by simp; omega
      have j0 : (0 : Int) ≤ (j : Int) := by omega
      have j1 : (j : Int) < (n : Int) := by omega
      obtain ⟨x, hx⟩ := get_of HRL.out hlt
      obtain ⟨b, o, rfl, hb, c0, c1, hxv⟩ := (H.ro 2 rfl).now.at_ hx
      have HXO := hid (HRN.out x (List.mem_of_getElem? hx))
      have hxn : x.n ≤ 4398046511104 := Nat.le_trans HXO.out.2 HKK.out
      have HXL := hid (show x.vs.length = x.n from hxv.len)
      have HXG := hid hx
      have hxr : Ro wr _ (VlsIn x.A x.n x.vs) := (H.ro 2 rfl).imp fun w2 h2 => h2.2 x (List.mem_of_getElem? hx)
      clear hx hxv
      have K1 := (H.add hxr).alloc_cst #[.int .i64 x.id, .slice x.A x.n x.c] 119
      clear H hxr
      obtain ⟨gr, hgr⟩ : ∃ gr, gr = wr.heap.size := ⟨_, rfl⟩
      rw [← hgr] at K1
      have F1 := K1.facts
      simp only [World.size_alloc, World.size_drew, factsL, cellsF, Nat.reduceAdd, List.toList_toArray, List.set_cons_zero, List.set_cons_succ, List.setIfInBounds_toArray, and_true, true_and] at F1
      go_wp2_with fail
      rw [← hgr]
      have HGR := hid hgr
      clear hgr c0 c1 F1
      obtain ⟨KL, hKL, KN⟩ := K1.name
      have HF : Hid (∀ wv, Hold M none w wv KL → wv.cell? ⟨gr, 0, none⟩ = some (.int .i64 x.id) ∧ wv.cell? ⟨gr, 1, none⟩ = some (.slice x.A x.n x.c) ∧ gr < wv.heap.size) := hid fun wv HC => by
        rw [hKL] at HC
        have y0 := HC.cst_ 0 rfl
        exact ⟨cell_of_row _ _ 0 _ _ _ y0, cell_of_row _ _ 1 _ _ _ y0, Blk.lt y0⟩
      have HRX : Hid (∀ wv, Hold M none w wv KL → Ro wv (Mut M KL) (VlsIn x.A x.n x.vs)) := hid fun wv HC => by
        rw [hKL] at HC ⊢
        exact HC.ro 1 rfl
      have HKL := hid hKL
      clear hKL K1
      go_wp2_with fail
      refine wp_region_any (by kernel_rfl) ?_
      refine wpAny_hold 8 23 (KL) (spL [(17, VlsSlot (Mut M KL) x.vs), (18, RowSlot (Mut M KL) x.id x.vs), (19, RBoxSlot (Mut M KL) x.id x.vs)]) (by kernel_rfl) (by kernel_rfl) (by kernel_rfl) rfl ?_ (KN.drew) ?_
      · exact stays_cons vlsSlot_mono (stays_cons rowSlot_mono (stays_cons rboxSlot_mono (stays_nil _)))
      simp only [List.take_succ_cons, List.take_zero, List.drop_succ_cons, List.drop_zero, Act.put, List.getElem_toArray, List.getElem_cons_zero, List.getElem_cons_succ, List.setIfInBounds_toArray, List.set_cons_succ, List.set_cons_zero]
      refine dw_val rfl rfl rfl ?_; apply Exists.intro; refine ⟨fun wv HC => ?_, ?_⟩
      ·  go_simp <;> rfl
      simp only [Act.put, List.setIfInBounds_toArray, List.set_cons_succ, List.set_cons_zero]
      refine dw_val rfl rfl rfl ?_; apply Exists.intro; refine ⟨fun wv HC => ?_, ?_⟩
      ·  go_simp <;> rfl
      simp only [Act.put, List.setIfInBounds_toArray, List.set_cons_succ, List.set_cons_zero]
      refine dw_val rfl rfl rfl ?_; apply Exists.intro; refine ⟨fun wv HC => ?_, ?_⟩
      · obtain ⟨f0, f1, f2⟩ := HF.out _ HC; go_simp <;> rfl
      simp only [Act.put, List.setIfInBounds_toArray, List.set_cons_succ, List.set_cons_zero]
      refine dw_val rfl rfl rfl ?_; apply Exists.intro; refine ⟨fun wv HC => ?_, ?_⟩
      ·  go_simp <;> rfl
      simp only [Act.put, List.setIfInBounds_toArray, List.set_cons_succ, List.set_cons_zero]
      refine dw_val rfl rfl rfl ?_; apply Exists.intro; refine ⟨fun wv HC => ?_, ?_⟩
      · obtain ⟨f0, f1, f2⟩ := HF.out _ HC; go_simp <;> rfl
      simp only [Act.put, List.setIfInBounds_toArray, List.set_cons_succ, List.set_cons_zero]
      refine dw_callR 17 (VlsSlot (Mut M KL) x.vs) (f := 149) (args := #[.slice x.A x.n x.c]) rfl rfl rfl rfl (fun wv => ?_) (fun wv HC hrm hD => ?_) ?_
      · go_simp <;> rfl
      · refine (cloneVls_any _ wv HC.mutLt x.A x.n x.c x.vs (HRX.out _ HC) hxn).mono ?_
        rintro e w5 ⟨A5, n5, c5, rfl, h50, h51, h52, h53, b5⟩
        exact ⟨_, rfl, ⟨A5, n5, c5, rfl, h50, h51, h52, h53⟩, HC.call b5, RM.below b5⟩
      rintro x_ wx HCx ⟨A5, n5, c5, rfl, h50, h51, h52, h53⟩
      simp only [Act.put, List.setIfInBounds_toArray, List.set_cons_succ, List.set_cons_zero]
      have H50 := hid h50
      clear HCx h53 h50
      refine dw_valC 18 (RowSlot (Mut M KL) x.id x.vs) rfl rfl rfl rfl (.agg #[.int .i64 x.id, .slice A5 n5 c5]) (fun wv HC => ?_) (fun wv HC hD => ?_) ?_
      · go_simp <;> rfl
      · have hsl : VlsSlot (Mut M KL) x.vs (.slice A5 n5 c5) wv := deps_at hD 5 rfl (by kernel_rfl) rfl rfl
        obtain ⟨A6, n6, c6, e6, h1, h2, h3, h4⟩ := hsl
        exact ⟨A6, n6, c6, by rw [e6], h1, h2, h3, h4⟩
      simp only [Act.put, List.setIfInBounds_toArray, List.set_cons_succ, List.set_cons_zero]
      refine dw_new #[.int .i64 x.id, .slice A5 n5 c5] 119 19 (RBoxSlot (Mut M KL) x.id x.vs) (fun g => .slice (some ⟨g, 0, none⟩) 1 1) rfl rfl rfl rfl (fun wv => ?_) (fun wv HC _hrm hD hro => ?_) ?_
      · go_simp <;> rfl
      · have hsl : RowSlot (Mut M KL) x.id x.vs (.agg #[.int .i64 x.id, .slice A5 n5 c5]) wv := deps_at hD 6 rfl (by kernel_rfl) rfl rfl
        obtain ⟨A6, n6, c6, e6, h1, h2, h3, h4⟩ := hsl
        obtain ⟨rfl, rfl, rfl⟩ : A5 = A6 ∧ n5 = n6 ∧ c5 = c6 := by
          injection e6 with e6
          simp at e6
          exact e6
        exact ⟨_, A5, n5, c5, rfl, h1, h2, h3, h4.step (by simp) (fun b hb _ => Below.heap_alloc wv _ b hb) (fun _ _ h => h), ro_block (hro _ HC.mutLt) rfl⟩
      rintro g2 wg HCg hsl
      simp only [Act.put, List.setIfInBounds_toArray, List.set_cons_succ, List.set_cons_zero]
      clear hsl HCg
      refine rel_nil ?_
      rintro wx2 HX
      rintro _hrm HGW
      have hb2 : RBoxSlot (Mut M KL) x.id x.vs (.slice (some ⟨g2, 0, none⟩) 1 1) wx2 := (GW_on (d := 19) rfl).1 (HGW 7 _ rfl (by omega))
      clear HGW _hrm
      obtain ⟨g3, A6, n6, c6, e6, k0_, k1_, k2_, k3_, k4_⟩ := hb2
      obtain rfl : g2 = g3 := by injection e6 with e6; injection e6 with e6; injection e6
      clear e6
      rw [HKL.out] at HX k3_
      have k5 := hid k4_.now
      have HK0 := hid k0_
      clear k4_ k0_ HF HRX KN
      have HRS := hid (show rwCells outs ++ [.int .i64 x.id, .slice A6 n6 c6] = rwCells (outs ++ [⟨x.id, A6, n6, c6, x.vs⟩]) from rwCells_snoc1 _ _ _ _ _ _)
      have KA := HX.add k3_
      clear HX k3_
      have FKA := KA.facts
      simp only [World.size_alloc, World.size_drew, factsL, cellsF, Nat.reduceAdd, List.toList_toArray, List.set_cons_zero, List.set_cons_succ, List.setIfInBounds_toArray, and_true, true_and] at FKA
      go_wp2_with (at_builtin; go_must (refine wpList_appAllH KA 3 rfl Tryz.elRw k5.out rfl (.tmp 12) (.tmp 19) rfl rfl rfl (by intro z hz; simp at hz; rcases hz with rfl | rfl <;> rfl) (by omega) (by omega) ?_); intro C' cap' w6 hc6 hm6 KB; rw [HRS.out] at KB; simp only [List.set_cons_zero, List.set_cons_succ] at KB; (have F3 := KB.facts); simp only [World.size_alloc, World.size_drew, factsL, cellsF, Nat.reduceAdd, List.toList_toArray, List.set_cons_zero, List.set_cons_succ, List.setIfInBounds_toArray, and_true, true_and] at F3)
      have KE := (KB.swapRo 4 rfl (vals_snoc (r := ⟨x.id, A6, n6, c6, x.vs⟩) (KB.ro 4 rfl) (KB.ro 0 rfl))).drop (List.Sublist.cons _ (List.Sublist.cons _ (List.sublist_cons_self _ _)))
      have HW2 := hid (rowsCopy_step (A := A6) HW.out HXG.out HXO.out k1_ k2_ (by rw [HK0.out, HXL.out]; exact HXO.out.2))
      go_roundw
      case rel => exact ⟨j + 1, cap', C', _, by omega, by go_num, by first | rfl | trivial, HW2, KE⟩
      case measure => simp [intOf]; omega
    · obtain rfl : n = j := by omega
      have hd : decide ((n : Int) < (n : Int)) = false := by simp
      have hcap := own_caps (H.get 0 rfl)
      have KS := H.sealRow 0 rfl
      simp only [List.set_cons_zero] at KS
      have r1 := (KS.roOut 0 rfl).and (KS.roOut 1 rfl)
      have HW2 := hid (show outs.map Rw.row = l.map Rw.row by have h := HW.out.1; rwa [List.take_of_length_le (by rw [HRL.out]; exact Nat.le_refl _)] at h)
      go_wp2_with fail
      go_ret
      exact ⟨O, n, cap, outs, rfl, hcap.1, hcap.2.1, HW2.out, HW.out.2, r1, KS.below⟩
set_option maxHeartbeats 4000000 in
set_option maxRecDepth 100000 in
theorem scopied_any (M : Nat → Prop) (w : World) (hM : ∀ b, M b → b < w.heap.size) (nm : ByteArray) (A : Option Addr) (n c : Nat) (cs : List Col) (nx : Int) (B : Option Addr) (m d K : Nat) (l : List Rw) (hC : Ro w M (ColsIn A n cs)) (hE : Ro w M (RwsIn B m l)) (hn : n ≤ 1000000) (hm : m ≤ 1000000) (hK : K ≤ 4398046511104) (hrn : ∀ r ∈ l, r.ok ∧ r.n ≤ K) :
    Calls Tryz.prog 93 #[.agg #[.string nm, .slice A n c, .int .i64 nx, .slice B m d]] w fun e w' => TeRet w M ⟨nm, cs, nx, l.map Rw.row⟩ e w' := by
  have HRL := hid hE.now.len
  have HRN := hid hrn
  have HKK := hid hK
  clear hrn hK
  have K0 := ((((Hold.start M w hM).add (hE.less (by simp [Mut]))).add (hC.less (by simp [Mut, Hp.foot]))).alloc #[.string nm, .slice A n c, .int .i64 nx, .slice B m d] 58).alloc #[.string ⟨#[]⟩, .slice none 0 0, .int .i64 0, .slice none 0 0] 58
  rw [World.size_alloc] at K0
  clear hC hE
  have F0 := K0.facts
  simp only [World.size_alloc, World.size_drew, factsL, cellsF, Nat.reduceAdd, List.toList_toArray, List.set_cons_zero, List.set_cons_succ, List.setIfInBounds_toArray, and_true, true_and] at F0
  go_enter Tryz.func93, Tryz.ntmps93
  go_wp2_with fail
  refine (cloneCols_any _ _ K0.mutLt A n c cs (K0.ro 2 rfl) (by omega)).mono ?_
  rintro e w5 ⟨C9, n9, cap9, rfl, hn9, hc9, hm9, r9, b9⟩
  have KB := (K0.call b9).add r9
  clear K0 F0 r9 b9 hn9
  have FB := KB.facts
  simp only [World.size_alloc, World.size_drew, factsL, cellsF, Nat.reduceAdd, List.toList_toArray, List.set_cons_zero, List.set_cons_succ, List.setIfInBounds_toArray, and_true, true_and] at FB
  have KC := KB.store 2 rfl 1 (.slice C9 n9 cap9)
  simp only [List.set_cons_zero, List.set_cons_succ, List.setIfInBounds_toArray] at KC
  have KD := (KC.add (ro_vals_nil _ _)).nil 119 2
  have FD := KD.facts
  simp only [World.size_alloc, World.size_drew, factsL, cellsF, Nat.reduceAdd, List.toList_toArray, List.set_cons_zero, List.set_cons_succ, List.setIfInBounds_toArray, and_true, true_and] at FD
  clear KB KC
  go_wp2_with fail
  generalize World.setCell _ _ _ = w10 at KD ⊢
  clear FB FD
  obtain ⟨g1, hg1⟩ : ∃ g1, g1 = w.heap.size := ⟨_, rfl⟩
  obtain ⟨g2, hg2⟩ : ∃ g2, g2 = g1 + 1 := ⟨_, rfl⟩
  rw [← hg1, ← hg2] at KD ⊢
  have HG1 := hid hg1
  clear hg1 hg2
  go_loopw [3, 15] (fun ov iv wr => ∃ (j cap : Nat) (O : Option Addr) (outs : List Rw), j ≤ m ∧ iv = .int .i64 j ∧ ov = .slice O j cap ∧ Hid (outs.map Rw.row = (l.take j).map Rw.row ∧ ∀ r ∈ outs, r.ok ∧ r.n ≤ K) ∧ Hold M none w wr [.own 119 2 (.slice O j cap) j (rwCells outs), .ro (ValsIn outs), .ro (ColsIn C9 n9 cs), .blk g2 58 #[.string ⟨#[]⟩, .slice none 0 0, .int .i64 0, .slice none 0 0], .blk g1 58 #[.string nm, .slice C9 n9 cap9, .int .i64 nx, .slice B m d], .ro (ColsIn A n cs), .ro (RwsIn B m l)]) (fun _ iv _ => m - (intOf iv).toNat)
  case atStart => exact ⟨0, 0, none, [], by omega, rfl, rfl, hid ⟨rfl, fun r hr => nomatch hr⟩, KD⟩
  case round =>
    clear KD
    obtain ⟨j, cap, O, outs, hj, rfl, rfl, HW, H⟩ := hrel
    by_cases hlt : j < m
    · have hd : decide ((j : Int) < (m : Int)) = true := by simp; omega
      have j0 : (0 : Int) ≤ (j : Int) := by omega
      have j1 : (j : Int) < (m : Int) := by omega
      obtain ⟨x, hx⟩ := get_of HRL.out hlt
      obtain ⟨b, o, rfl, hb, c0, c1, hxv⟩ := (H.ro 6 rfl).now.at_ hx
      have HXO := hid (HRN.out x (List.mem_of_getElem? hx))
      have hxn : x.n ≤ 4398046511104 := Nat.le_trans HXO.out.2 HKK.out
      have HXL := hid (show x.vs.length = x.n from hxv.len)
      have HXG := hid hx
      have hxr : Ro wr _ (VlsIn x.A x.n x.vs) := (H.ro 6 rfl).imp fun w2 h2 => h2.2 x (List.mem_of_getElem? hx)
      clear hx hxv
      have K1 := (H.add hxr).alloc_cst #[.int .i64 x.id, .slice x.A x.n x.c] 119
      clear H hxr
      obtain ⟨gr, hgr⟩ : ∃ gr, gr = wr.heap.size := ⟨_, rfl⟩
      rw [← hgr] at K1
      have F1 := K1.facts
      simp only [World.size_alloc, World.size_drew, factsL, cellsF, Nat.reduceAdd, List.toList_toArray, List.set_cons_zero, List.set_cons_succ, List.setIfInBounds_toArray, and_true, true_and] at F1
      go_wp2_with fail
      rw [← hgr]
      have HGR := hid hgr
      clear hgr c0 c1 F1
      obtain ⟨KL, hKL, KN⟩ := K1.name
      have HF : Hid (∀ wv, Hold M none w wv KL → wv.cell? ⟨gr, 0, none⟩ = some (.int .i64 x.id) ∧ wv.cell? ⟨gr, 1, none⟩ = some (.slice x.A x.n x.c) ∧ gr < wv.heap.size) := hid fun wv HC => by
        rw [hKL] at HC
        have y0 := HC.cst_ 0 rfl
        exact ⟨cell_of_row _ _ 0 _ _ _ y0, cell_of_row _ _ 1 _ _ _ y0, Blk.lt y0⟩
      have HRX : Hid (∀ wv, Hold M none w wv KL → Ro wv (Mut M KL) (VlsIn x.A x.n x.vs)) := hid fun wv HC => by
        rw [hKL] at HC ⊢
        exact HC.ro 1 rfl
      have HKL := hid hKL
      clear hKL K1
      go_wp2_with fail
      refine wp_region_any (by kernel_rfl) ?_
      refine wpAny_hold 8 32 (KL) (spL [(24, VlsSlot (Mut M KL) x.vs), (25, RowSlot (Mut M KL) x.id x.vs), (26, RBoxSlot (Mut M KL) x.id x.vs)]) (by kernel_rfl) (by kernel_rfl) (by kernel_rfl) rfl ?_ (KN.drew) ?_
      · exact stays_cons vlsSlot_mono (stays_cons rowSlot_mono (stays_cons rboxSlot_mono (stays_nil _)))
      simp only [List.take_succ_cons, List.take_zero, List.drop_succ_cons, List.drop_zero, Act.put, List.getElem_toArray, List.getElem_cons_zero, List.getElem_cons_succ, List.setIfInBounds_toArray, List.set_cons_succ, List.set_cons_zero]
      refine dw_val rfl rfl rfl ?_; apply Exists.intro; refine ⟨fun wv HC => ?_, ?_⟩
      ·  go_simp <;> rfl
      simp only [Act.put, List.setIfInBounds_toArray, List.set_cons_succ, List.set_cons_zero]
      refine dw_val rfl rfl rfl ?_; apply Exists.intro; refine ⟨fun wv HC => ?_, ?_⟩
      ·  go_simp <;> rfl
      simp only [Act.put, List.setIfInBounds_toArray, List.set_cons_succ, List.set_cons_zero]
      refine dw_val rfl rfl rfl ?_; apply Exists.intro; refine ⟨fun wv HC => ?_, ?_⟩
      · obtain ⟨f0, f1, f2⟩ := HF.out _ HC; go_simp <;> rfl
      simp only [Act.put, List.setIfInBounds_toArray, List.set_cons_succ, List.set_cons_zero]
      refine dw_val rfl rfl rfl ?_; apply Exists.intro; refine ⟨fun wv HC => ?_, ?_⟩
      ·  go_simp <;> rfl
      simp only [Act.put, List.setIfInBounds_toArray, List.set_cons_succ, List.set_cons_zero]
      refine dw_val rfl rfl rfl ?_; apply Exists.intro; refine ⟨fun wv HC => ?_, ?_⟩
      · obtain ⟨f0, f1, f2⟩ := HF.out _ HC; go_simp <;> rfl
      simp only [Act.put, List.setIfInBounds_toArray, List.set_cons_succ, List.set_cons_zero]
      refine dw_callR 24 (VlsSlot (Mut M KL) x.vs) (f := 149) (args := #[.slice x.A x.n x.c]) rfl rfl rfl rfl (fun wv => ?_) (fun wv HC hrm hD => ?_) ?_
      · go_simp <;> rfl
      · refine (cloneVls_any _ wv HC.mutLt x.A x.n x.c x.vs (HRX.out _ HC) hxn).mono ?_
        rintro e w5 ⟨A5, n5, c5, rfl, h50, h51, h52, h53, b5⟩
        exact ⟨_, rfl, ⟨A5, n5, c5, rfl, h50, h51, h52, h53⟩, HC.call b5, RM.below b5⟩
      rintro x_ wx HCx ⟨A5, n5, c5, rfl, h50, h51, h52, h53⟩
      simp only [Act.put, List.setIfInBounds_toArray, List.set_cons_succ, List.set_cons_zero]
      have H50 := hid h50
      clear HCx h53 h50
      refine dw_valC 25 (RowSlot (Mut M KL) x.id x.vs) rfl rfl rfl rfl (.agg #[.int .i64 x.id, .slice A5 n5 c5]) (fun wv HC => ?_) (fun wv HC hD => ?_) ?_
      · go_simp <;> rfl
      · have hsl : VlsSlot (Mut M KL) x.vs (.slice A5 n5 c5) wv := deps_at hD 5 rfl (by kernel_rfl) rfl rfl
        obtain ⟨A6, n6, c6, e6, h1, h2, h3, h4⟩ := hsl
        exact ⟨A6, n6, c6, by rw [e6], h1, h2, h3, h4⟩
      simp only [Act.put, List.setIfInBounds_toArray, List.set_cons_succ, List.set_cons_zero]
      refine dw_new #[.int .i64 x.id, .slice A5 n5 c5] 119 26 (RBoxSlot (Mut M KL) x.id x.vs) (fun g => .slice (some ⟨g, 0, none⟩) 1 1) rfl rfl rfl rfl (fun wv => ?_) (fun wv HC _hrm hD hro => ?_) ?_
      · go_simp <;> rfl
      · have hsl : RowSlot (Mut M KL) x.id x.vs (.agg #[.int .i64 x.id, .slice A5 n5 c5]) wv := deps_at hD 6 rfl (by kernel_rfl) rfl rfl
        obtain ⟨A6, n6, c6, e6, h1, h2, h3, h4⟩ := hsl
        obtain ⟨rfl, rfl, rfl⟩ : A5 = A6 ∧ n5 = n6 ∧ c5 = c6 := by
          injection e6 with e6
          simp at e6
          exact e6
        exact ⟨_, A5, n5, c5, rfl, h1, h2, h3, h4.step (by simp) (fun b hb _ => Below.heap_alloc wv _ b hb) (fun _ _ h => h), ro_block (hro _ HC.mutLt) rfl⟩
      rintro g2 wg HCg hsl
      simp only [Act.put, List.setIfInBounds_toArray, List.set_cons_succ, List.set_cons_zero]
      clear hsl HCg
      refine rel_nil ?_
      rintro wx2 HX
      rintro _hrm HGW
      have hb2 : RBoxSlot (Mut M KL) x.id x.vs (.slice (some ⟨g2, 0, none⟩) 1 1) wx2 := (GW_on (d := 26) rfl).1 (HGW 7 _ rfl (by omega))
      clear HGW _hrm
      obtain ⟨g3, A6, n6, c6, e6, k0_, k1_, k2_, k3_, k4_⟩ := hb2
      obtain rfl : g2 = g3 := by injection e6 with e6; injection e6 with e6; injection e6
      clear e6
      rw [HKL.out] at HX k3_
      have k5 := hid k4_.now
      have HK0 := hid k0_
      clear k4_ k0_ HF HRX KN
      have HRS := hid (show rwCells outs ++ [.int .i64 x.id, .slice A6 n6 c6] = rwCells (outs ++ [⟨x.id, A6, n6, c6, x.vs⟩]) from rwCells_snoc1 _ _ _ _ _ _)
      have KA := HX.add k3_
      clear HX k3_
      have FKA := KA.facts
      simp only [World.size_alloc, World.size_drew, factsL, cellsF, Nat.reduceAdd, List.toList_toArray, List.set_cons_zero, List.set_cons_succ, List.setIfInBounds_toArray, and_true, true_and] at FKA
      go_wp2_with (at_builtin; go_must (refine wpList_appAllH KA 3 rfl Tryz.elRw k5.out rfl (.tmp 19) (.tmp 26) rfl rfl rfl (by intro z hz; simp at hz; rcases hz with rfl | rfl <;> rfl) (by omega) (by omega) ?_); intro C' cap' w6 hc6 hm6 KB; rw [HRS.out] at KB; simp only [List.set_cons_zero, List.set_cons_succ] at KB; (have F3 := KB.facts); simp only [World.size_alloc, World.size_drew, factsL, cellsF, Nat.reduceAdd, List.toList_toArray, List.set_cons_zero, List.set_cons_succ, List.setIfInBounds_toArray, and_true, true_and] at F3)
      have KE := (KB.swapRo 4 rfl (vals_snoc (r := ⟨x.id, A6, n6, c6, x.vs⟩) (KB.ro 4 rfl) (KB.ro 0 rfl))).drop (List.Sublist.cons _ (List.Sublist.cons _ (List.sublist_cons_self _ _)))
      have HW2 := hid (rowsCopy_step (A := A6) HW.out HXG.out HXO.out k1_ k2_ (by rw [HK0.out, HXL.out]; exact HXO.out.2))
      go_roundw
      case rel => exact ⟨j + 1, cap', C', _, by omega, by go_num, by first | rfl | trivial, HW2, KE⟩
      case measure => simp [intOf]; omega
    · obtain rfl : m = j := by omega
      have hd : decide ((m : Int) < (m : Int)) = false := by simp
      have F := H.facts
      simp only [World.size_alloc, World.size_drew, factsL, cellsF, Nat.reduceAdd, List.toList_toArray, List.set_cons_zero, List.set_cons_succ, List.setIfInBounds_toArray, and_true, true_and] at F
      have N := H.nes
      simp only [World.size_alloc, nesL, neF, List.set_cons_zero, List.set_cons_succ, and_true, true_and] at N
      have hcap := own_caps (H.get 0 rfl)
      have KS := H.sealRow 0 rfl
      simp only [List.set_cons_zero] at KS
      have KN := ((((KS.store 4 rfl 3 (.slice O m cap)).store 3 rfl 0 (.string nm)).store 3 rfl 1 (.slice C9 n9 cap9)).store 3 rfl 2 (.int .i64 nx)).store 3 rfl 3 (.slice O m cap)
      have r0 := KN.roOut 2 rfl
      have r1 := (KN.roOut 0 rfl).and (KN.roOut 1 rfl)
      have HW2 := hid (show outs.map Rw.row = l.map Rw.row by have h := HW.out.1; rwa [List.take_of_length_le (by rw [HRL.out]; exact Nat.le_refl _)] at h)
      go_wp2_with fail
      exact bodyPost_ret (v := .agg #[.string nm, .slice C9 n9 cap9, .int .i64 nx, .slice O m cap]) (by simp [results, Tryz.results93, go_sem, F, N]) rfl ⟨⟨nm, C9, n9, cap9, cs, nx, O, m, cap, outs⟩, rfl, by simp only [Te.tb, HW2.out], ⟨hc9, hm9, hcap.1, hcap.2.1, fun r hr => (HW.out.2 r hr).1⟩, r0.and r1, KN.below⟩
end Go.Proofs.YtedogodccblfeaaGreatDoor

namespace Go.Proofs.YtedogodccblfeaaGreatDoor
open Go.RowKit
set_option linter.unusedVariables false
set_option linter.unusedSimpArgs false

theorem Tryz.elIntC : ElemT Tryz.prog 22 3 1 8 (.int .i64 0) := ⟨Tryz.underlying22, by kernel_rfl, rfl, by omega⟩
def OwnIs (w : World) (l : List Int) (e : Ending) (w' : World) : Prop :=
  ∃ (A : Option Addr) (n c : Nat), e = .returned (.slice A n c) ∧ n = l.length ∧ w'.ownsRow w.heap.size 3 1 (.slice A n c) n (iCells l) ∧ Below w.heap.size w w'
theorem one_is (l : List Int) : ∀ u ∈ iCells l, u.oneCell' = true := fun u hu => by
  obtain ⟨x, _, rfl⟩ := List.mem_map.1 hu
  rfl
set_option maxHeartbeats 4000000 in
set_option maxRecDepth 100000 in
theorem scloneI_any (w : World) (A : Option Addr) (n c : Nat) (l : List Int) (hD : IsIn A n l w) (hn : n ≤ 1000000000000) :
    Calls Tryz.prog 187 #[.slice A n c] w fun e w' => OwnIs w l e w' := by
  have hl := hid hD.len
  have hq : ∀ (w : World) (a : Option Addr) (n c : Nat), (binOp .eql 22 (.slice a n c) (.slice none 0 0)).run Tryz.prog w = .ok (.bool a.isNone) w := fun w a n c => Go.Lib.run_eql_slice_nil w _ _ a n c 0 0 Tryz.underlying22
  rcases A with _ | a
  · have h0 : n = 0 := by
      rcases Nat.eq_zero_or_pos n with h | h
      · exact h
      · obtain ⟨_, _, e, _⟩ := (show Rd w w.heap.size 1 none n (iCells l) from hD).2 h; cases e
    subst h0
    obtain rfl : l = [] := List.length_eq_zero_iff.1 hl.out
    go_enter Tryz.func187, Tryz.ntmps187
    go_wp2_with fail
    go_ret
    exact ⟨none, 0, 0, rfl, rfl, World.ownsRow_nil _ _ _ _, Below.refl _ _⟩
  · have K0 := (Hold.start None_ w (fun b hb => hb.elim)).add (show Ro w _ (IsIn (some a) n l) from Rd.ro hD (Nat.le_refl _) (by simp [Mut, None_]))
    have K1 := K0.alloc_own #[] 3 1 0 (by unfold maxLen; omega) rfl
    have hr := hid (show IsIn (some a) n l _ from (K1.ro 1 rfl).now)
    have h1 := hid (one_is l)
    go_enter Tryz.func187, Tryz.ntmps187
    go_wp2_with (at_builtin; go_must (refine wpList_appAllH K1 0 rfl Tryz.elIntC hr.out rfl (.tmp 5) (.tmp 6) rfl rfl rfl h1.out (by omega) (by omega) ?_); intro C' cap' w2 hc1 hm1 K2)
    go_ret
    have hb := K2.below
    have ho := K2.get 0 rfl
    simp only [Nat.zero_add, List.nil_append] at ho
    exact ⟨C', n, cap', by first | rfl | simp, hl.out.symm, ho, hb⟩
end Go.Proofs.YtedogodccblfeaaGreatDoor

namespace Go.Proofs.YtedogodccblfeaaGreatDoor
open Go.RowKit
set_option linter.unusedVariables false
set_option linter.unusedSimpArgs false

theorem Tryz.elTe : ElemT Tryz.prog 29 58 4 72 (.agg #[.string ⟨#[]⟩, .slice none 0 0, .int .i64 0, .slice none 0 0]) := ⟨Tryz.underlying29, by kernel_rfl, rfl, by omega⟩
theorem Tryz.elUe : ElemT Tryz.prog 63 129 5 96 (.agg #[.string ⟨#[]⟩, .int .i64 0, .slice none 0 0, .slice none 0 0, .slice none 0 0]) := ⟨Tryz.underlying63, by kernel_rfl, rfl, by omega⟩
def TeLim (x : Te) : Prop := x.n ≤ 1000000 ∧ x.m ≤ 1000000 ∧ ∀ r ∈ x.l, r.ok ∧ r.n ≤ 4398046511104
def TeStep (outs l : List Te) (j : Nat) : Prop := outs.map Te.tb = (l.take j).map Te.tb ∧ ∀ y ∈ outs, y.ok
def UeStep (N K : Nat) (outs l : List Ue) (j : Nat) : Prop := outs.map Ue.ud = (l.take j).map Ue.ud ∧ ∀ y ∈ outs, y.good N K
/-- a log handed back in a row of the call's own -/
def UesOwn (w : World) (M : Nat → Prop) (N K : Nat) (us : List Ud) (e : Ending) (w' : World) : Prop := ∃ (A : Option Addr) (n c : Nat) (l : List Ue), e = .returned (.slice A n c) ∧ l.map Ue.ud = us ∧ (∀ x ∈ l, x.good N K) ∧ w'.ownsRow w.heap.size 129 5 (.slice A n c) n (ueCells l) ∧ Ro w' (Mut M [.own 129 5 (.slice A n c) n (ueCells l)]) (UeVals l) ∧ Below w.heap.size w w'
theorem mut_one {M : Nat → Prop} {k : Hp} {L : List Hp} {b : Nat} (h : Mut M [k] b) : Mut M (k :: L) b := by
  rcases h with h | ⟨k2, hk, hf⟩
  · exact .inl h
  · simp only [List.mem_singleton] at hk; subst hk; exact .inr ⟨_, List.mem_cons_self, hf⟩
theorem UesOwn.ret {w : World} {M : Nat → Prop} (hM : ∀ b, M b → b < w.heap.size) {N K : Nat} {us : List Ud} {e : Ending} {w' : World} (h : UesOwn w M N K us e w') : UesRet w M N K us e w' := by
  obtain ⟨A, n, c, l, h1, h2, h3, h4, h5, h6⟩ := h
  have hc := own_caps h4
  exact ⟨A, n, c, l, h1, hc.1, hc.2.1, h2, h3, (show Ro w' M (SlR 5 A n (ueCells l)) from fun w2 a b => Rd.of_own (own_RM hM ⟨a, b⟩ h4)).and (h5.less fun b hb => .inl hb), h6⟩
/-- rows in a slot -/
def RwsSl (M : Nat → Prop) (K : Nat) (rs : List Row) (u : Value) (w : World) : Prop := ∃ (A : Option Addr) (n c : Nat) (l : List Rw), u = .slice A n c ∧ n ≤ c ∧ c ≤ 9223372036854775807 ∧ l.map Rw.row = rs ∧ (∀ r ∈ l, r.ok ∧ r.n ≤ K) ∧ Ro w M (RwsIn A n l)
theorem rwsSl_mono {M : Nat → Prop} {K : Nat} {rs : List Row} (u : Value) (w w' : World) (hr : RM M w w') (h : RwsSl M K rs u w) : RwsSl M K rs u w' := by
  obtain ⟨A, n, c, l, h1, h2, h3, h4, h5, h6⟩ := h
  exact ⟨A, n, c, l, h1, h2, h3, h4, h5, hr.ro h6⟩
set_option maxHeartbeats 4000000 in
set_option maxRecDepth 100000 in
theorem copies_any (M : Nat → Prop) (w : World) (hM : ∀ b, M b → b < w.heap.size) (A : Option Addr) (n c : Nat) (l : List Te) (hok : ∀ x ∈ l, TeLim x) (hD : Ro w M (TesIn A n l)) (hn : n ≤ 1000000) :
    Calls Tryz.prog 65 #[.slice A n c] w fun e w' => TesRet w M (l.map Te.tb) e w' := by
  have HL := hid hD.now.len
  have HOK := hid hok
  clear hok
  have K0 := (((Hold.start M w hM).add (hD.less (by simp [Mut]))).add (teVals_nil _ _)).nil 58 4
  clear hD
  go_enter Tryz.func65, Tryz.ntmps65
  go_wp2_with fail
  go_loopw [3, 8] (fun ov iv wr => ∃ (j cap : Nat) (O : Option Addr) (outs : List Te), j ≤ n ∧ iv = .int .i64 j ∧ ov = .slice O j cap ∧ Hid (TeStep outs l j) ∧ Hold M none w wr [.own 58 4 (.slice O j cap) j (teCells outs), .ro (TeVals outs), .ro (TesIn A n l)]) (fun _ iv _ => n - (intOf iv).toNat)
  case atStart => exact ⟨0, 0, none, [], by omega, rfl, rfl, hid ⟨rfl, fun r hr => nomatch hr⟩, K0⟩
  case round =>
    clear K0
    obtain ⟨j, cap, O, outs, hj, rfl, rfl, HW, H⟩ := hrel
    by_cases hlt : j < n
    · have hd : decide ((j : Int) < (n : Int)) = true := by simp; omega
      have j0 : (0 : Int) ≤ (j : Int) := by omega
      have j1 : (j : Int) < (n : Int) := by omega
      obtain ⟨x, hx⟩ := get_of HL.out hlt
      obtain ⟨g, o, rfl, hb, c0, c1, c2, c3, -⟩ := (H.ro 2 rfl).now.at_ hx
      have HXO := hid (HOK.out x (List.mem_of_getElem? hx))
      have HXM := hid (List.mem_of_getElem? hx)
      have HXG := hid hx
      clear hx
      have K1 := H.alloc_cst #[.string x.nm, .slice x.A x.n x.c, .int .i64 x.nx, .slice x.B x.m x.d] 58
      have FA := K1.facts
      simp only [World.size_alloc, World.size_drew, factsL, cellsF, Nat.reduceAdd, List.toList_toArray, List.set_cons_zero, List.set_cons_succ, List.setIfInBounds_toArray, and_true, true_and] at FA
      clear H
      go_wp2_with fail
      refine (scopied_any _ _ K1.mutLt x.nm x.A x.n x.c x.cs x.nx x.B x.m x.d 4398046511104 x.l ((K1.ro 3 rfl).imp fun w2 h2 => (h2.2 x HXM.out).1) ((K1.ro 3 rfl).imp fun w2 h2 => (h2.2 x HXM.out).2) HXO.out.1 HXO.out.2.1 (by omega) HXO.out.2.2).mono ?_
      rintro e w5 ⟨y, rfl, hy, hyo, ry, b5⟩
      have hv : y.val = .agg #[.string y.nm, .slice y.A y.n y.c, .int .i64 y.nx, .slice y.B y.m y.d] := rfl
      rw [hv]
      clear hv
      have K2 := (K1.call b5).add ry
      have HS2 := hid (show TeStep (outs ++ [y]) l (j + 1) from ⟨by rw [List.map_append, HW.out.1, List.take_add_one, HXG.out, List.map_append]; exact congrArg _ (congrArg (fun z => [z]) hy), fun z hz => by
        rcases List.mem_append.1 hz with hz | hz
        · exact HW.out.2 z hz
        · simp at hz; subst hz; exact hyo⟩)
      clear b5 ry K1 FA hy hyo
      go_wp2_with (at_builtin; go_must (refine wpList_appH K2 2 rfl Tryz.elTe #[.string y.nm, .slice y.A y.n y.c, .int .i64 y.nx, .slice y.B y.m y.d] rfl (.tmp 12) (.tmp 15) rfl rfl _ (by first | rfl | simp) rfl rfl (by intro u hu; simp at hu; rcases hu with rfl | rfl | rfl | rfl <;> rfl) (by omega) (by omega) ?_); intro g9 cap9 w9 hc9 hm9 KB; simp only [List.set_cons_zero, List.set_cons_succ] at KB)
      have e9 : teCells outs ++ (#[.string y.nm, .slice y.A y.n y.c, .int .i64 y.nx, .slice y.B y.m y.d]).toList = teCells (outs ++ [y]) := (teCells_snoc outs y).symm
      rw [e9] at KB
      have KC := (KB.swapRo 3 rfl (teVals_snoc (r := y) (KB.ro 3 rfl) (KB.ro 0 rfl))).drop (List.Sublist.cons _ (List.sublist_cons_self _ _))
      go_roundw
      case rel => exact ⟨j + 1, cap9, _, _, by omega, by go_num, by first | rfl | trivial, HS2, KC⟩
      case measure => simp [intOf]; omega
    · obtain rfl : n = j := by omega
      have hd : decide ((n : Int) < (n : Int)) = false := by simp
      have hcap := own_caps (H.get 0 rfl)
      have KS := H.sealRow 0 rfl
      simp only [List.set_cons_zero] at KS
      have r1 := (KS.roOut 0 rfl).and (KS.roOut 1 rfl)
      have HW2 := hid (show outs.map Te.tb = l.map Te.tb by have h := HW.out.1; rwa [List.take_of_length_le (by rw [HL.out]; exact Nat.le_refl _)] at h)
      go_wp2_with fail
      go_ret
      exact ⟨O, n, cap, outs, rfl, hcap.1, hcap.2.1, HW2.out, HW.out.2, r1, KS.below⟩
set_option maxHeartbeats 4000000 in
set_option maxRecDepth 100000 in
theorem sundo_any (M : Nat → Prop) (w : World) (hM : ∀ b, M b → b < w.heap.size) (x : Ue) (N K : Nat) (hg : x.good N K) (hN : N ≤ 1000000) (hK : K ≤ 4398046511104) (hU : Ro w M (UeIn x)) :
    Calls Tryz.prog 137 #[.agg #[.string x.nm, .int .i64 x.nx, .slice x.I x.ni x.ci, .slice x.D x.nd x.cd, .slice x.U x.nu x.cu]] w fun e w' => UeRet w M N K x.ud e w' := by
  have HG := hid hg
  have HKN := hid (And.intro hN hK)
  have hni := Nat.le_trans hg.i hN
  clear hg hN hK
  have K0 := (((Hold.start M w hM).add (hU.less (by simp [Mut]))).alloc #[.string x.nm, .int .i64 x.nx, .slice x.I x.ni x.ci, .slice x.D x.nd x.cd, .slice x.U x.nu x.cu] 129).alloc #[.string ⟨#[]⟩, .int .i64 0, .slice none 0 0, .slice none 0 0, .slice none 0 0] 129
  rw [World.size_alloc] at K0
  clear hU
  have F0 := K0.facts
  simp only [World.size_alloc, World.size_drew, factsL, cellsF, Nat.reduceAdd, List.toList_toArray, List.set_cons_zero, List.set_cons_succ, List.setIfInBounds_toArray, and_true, true_and] at F0
  have HI := hid (show IsIn x.I x.ni x.li _ from (K0.ro 2 rfl).now.1)
  go_enter Tryz.func137, Tryz.ntmps137
  go_wp2_with fail
  refine (scloneI_any _ x.I x.ni x.ci x.li HI.out (by omega)).mono ?_
  rintro e w5 ⟨C9, n9, c9, rfl, hn9, ho9, hb9⟩
  have hcap := own_caps ho9
  have KB := K0.callOwn hb9 ho9
  have HN9 := hid (show n9 = x.ni by rw [hn9]; exact HI.out.len)
  clear K0 F0 HI hb9 ho9 hn9
  have KS := KB.sealRow 0 rfl
  simp only [List.set_cons_zero] at KS
  have FB := KS.facts
  simp only [World.size_alloc, World.size_drew, factsL, cellsF, Nat.reduceAdd, List.toList_toArray, List.set_cons_zero, List.set_cons_succ, List.setIfInBounds_toArray, and_true, true_and] at FB
  have KC := KS.store 2 rfl 2 (.slice C9 n9 c9)
  simp only [List.set_cons_zero, List.set_cons_succ, List.setIfInBounds_toArray] at KC
  have FD := KC.facts
  simp only [World.size_alloc, World.size_drew, factsL, cellsF, Nat.reduceAdd, List.toList_toArray, List.set_cons_zero, List.set_cons_succ, List.setIfInBounds_toArray, and_true, true_and] at FD
  clear KB KS
  go_wp2_with fail
  generalize World.setCell _ _ _ = w10 at KC ⊢
  clear FB FD
  obtain ⟨g1, hg1⟩ : ∃ g1, g1 = w.heap.size := ⟨_, rfl⟩
  obtain ⟨g2, hg2⟩ : ∃ g2, g2 = g1 + 1 := ⟨_, rfl⟩
  rw [← hg1, ← hg2] at KC ⊢
  have HG1 := hid hg1
  clear hg1 hg2
  have KD : Hold M none w w10 [.ro (IsIn C9 n9 x.li), .blk g2 129 #[.string ⟨#[]⟩, .int .i64 0, .slice none 0 0, .slice none 0 0, .slice none 0 0], .blk g1 129 #[.string x.nm, .int .i64 x.nx, .slice C9 n9 c9, .slice x.D x.nd x.cd, .slice x.U x.nu x.cu], .ro (UeIn x)] := KC
  clear KC
  refine wp_region_any (by kernel_rfl) ?_
  refine wpAny_hold 7 16 ([.ro (IsIn C9 n9 x.li), .blk g2 129 #[.string ⟨#[]⟩, .int .i64 0, .slice none 0 0, .slice none 0 0, .slice none 0 0], .blk g1 129 #[.string x.nm, .int .i64 x.nx, .slice C9 n9 c9, .slice x.D x.nd x.cd, .slice x.U x.nu x.cu], .ro (UeIn x)]) (spL [(9, RwsSl (Mut M [.ro (IsIn C9 n9 x.li), .blk g2 129 #[.string ⟨#[]⟩, .int .i64 0, .slice none 0 0, .slice none 0 0, .slice none 0 0], .blk g1 129 #[.string x.nm, .int .i64 x.nx, .slice C9 n9 c9, .slice x.D x.nd x.cd, .slice x.U x.nu x.cu], .ro (UeIn x)]) K (x.ld.map Rw.row)), (12, RwsSl (Mut M [.ro (IsIn C9 n9 x.li), .blk g2 129 #[.string ⟨#[]⟩, .int .i64 0, .slice none 0 0, .slice none 0 0, .slice none 0 0], .blk g1 129 #[.string x.nm, .int .i64 x.nx, .slice C9 n9 c9, .slice x.D x.nd x.cd, .slice x.U x.nu x.cu], .ro (UeIn x)]) K (x.lu.map Rw.row))]) (by kernel_rfl) (by kernel_rfl) (by kernel_rfl) rfl ?_ (KD.drew) ?_
  · exact stays_cons rwsSl_mono (stays_cons rwsSl_mono (stays_nil _))
  simp only [List.take_succ_cons, List.take_zero, List.drop_succ_cons, List.drop_zero, Act.put, List.getElem_toArray, List.getElem_cons_zero, List.getElem_cons_succ, List.setIfInBounds_toArray, List.set_cons_succ, List.set_cons_zero]
  repeat (first | (refine dw_skip rfl rfl rfl ?_; simp only [Act.put, List.setIfInBounds_toArray, List.set_cons_succ, List.set_cons_zero]) | (refine dw_val rfl rfl rfl ?_; apply Exists.intro; refine ⟨fun wv HC => ?_, ?_⟩; (focus (have f3 := cell_of_row _ _ 3 _ _ _ (HC.blk_ 2 rfl); have f4 := cell_of_row _ _ 4 _ _ _ (HC.blk_ 2 rfl); have fl := Blk.lt (HC.blk_ 2 rfl); go_simp <;> rfl; done)); simp only [Act.put, List.setIfInBounds_toArray, List.set_cons_succ, List.set_cons_zero]))
  refine dw_callR 9 (RwsSl (Mut M [.ro (IsIn C9 n9 x.li), .blk g2 129 #[.string ⟨#[]⟩, .int .i64 0, .slice none 0 0, .slice none 0 0, .slice none 0 0], .blk g1 129 #[.string x.nm, .int .i64 x.nx, .slice C9 n9 c9, .slice x.D x.nd x.cd, .slice x.U x.nu x.cu], .ro (UeIn x)]) K (x.ld.map Rw.row)) (f := 193) (args := #[.slice x.D x.nd x.cd]) rfl rfl rfl rfl (fun wv => ?_) (fun wv HC hrm hD => ?_) ?_
  · go_simp <;> rfl
  · refine (srows_any _ wv HC.mutLt x.D x.nd x.cd K x.ld ((HC.ro 3 rfl).imp fun w2 h2 => h2.2.1) (Nat.le_trans HG.out.d HKN.out.1) HKN.out.2 HG.out.ld).mono ?_
    rintro e w5 ⟨A5, n5, c5, l5, rfl, h1, h2, h3, h4, r5, b5⟩
    exact ⟨_, rfl, ⟨A5, n5, c5, l5, rfl, h1, h2, h3, h4, r5⟩, HC.call b5, RM.below b5⟩
  rintro u_ wx HCx ⟨A5, n5, c5, l5, rfl, -, -, -, -, -⟩
  clear HCx
  simp only [Act.put, List.setIfInBounds_toArray, List.set_cons_succ, List.set_cons_zero]
  repeat (first | (refine dw_skip rfl rfl rfl ?_; simp only [Act.put, List.setIfInBounds_toArray, List.set_cons_succ, List.set_cons_zero]) | (refine dw_val rfl rfl rfl ?_; apply Exists.intro; refine ⟨fun wv HC => ?_, ?_⟩; (focus (have f3 := cell_of_row _ _ 3 _ _ _ (HC.blk_ 2 rfl); have f4 := cell_of_row _ _ 4 _ _ _ (HC.blk_ 2 rfl); have fl := Blk.lt (HC.blk_ 2 rfl); go_simp <;> rfl; done)); simp only [Act.put, List.setIfInBounds_toArray, List.set_cons_succ, List.set_cons_zero]))
  refine dw_callR 12 (RwsSl (Mut M [.ro (IsIn C9 n9 x.li), .blk g2 129 #[.string ⟨#[]⟩, .int .i64 0, .slice none 0 0, .slice none 0 0, .slice none 0 0], .blk g1 129 #[.string x.nm, .int .i64 x.nx, .slice C9 n9 c9, .slice x.D x.nd x.cd, .slice x.U x.nu x.cu], .ro (UeIn x)]) K (x.lu.map Rw.row)) (f := 193) (args := #[.slice x.U x.nu x.cu]) rfl rfl rfl rfl (fun wv => ?_) (fun wv HC hrm hD => ?_) ?_
  · go_simp <;> rfl
  · refine (srows_any _ wv HC.mutLt x.U x.nu x.cu K x.lu ((HC.ro 3 rfl).imp fun w2 h2 => h2.2.2) (Nat.le_trans HG.out.u HKN.out.1) HKN.out.2 HG.out.lu).mono ?_
    rintro e w5 ⟨A5, n5, c5, l5, rfl, h1, h2, h3, h4, r5, b5⟩
    exact ⟨_, rfl, ⟨A5, n5, c5, l5, rfl, h1, h2, h3, h4, r5⟩, HC.call b5, RM.below b5⟩
  rintro u_ wx HCx ⟨A6, n6, c6, l6, rfl, -, -, -, -, -⟩
  clear HCx
  simp only [Act.put, List.setIfInBounds_toArray, List.set_cons_succ, List.set_cons_zero]
  repeat (first | (refine dw_skip rfl rfl rfl ?_; simp only [Act.put, List.setIfInBounds_toArray, List.set_cons_succ, List.set_cons_zero]) | (refine dw_val rfl rfl rfl ?_; apply Exists.intro; refine ⟨fun wv HC => ?_, ?_⟩; (focus (have f3 := cell_of_row _ _ 3 _ _ _ (HC.blk_ 2 rfl); have f4 := cell_of_row _ _ 4 _ _ _ (HC.blk_ 2 rfl); have fl := Blk.lt (HC.blk_ 2 rfl); go_simp <;> rfl; done)); simp only [Act.put, List.setIfInBounds_toArray, List.set_cons_succ, List.set_cons_zero]))
  refine rel_nil ?_
  rintro wx2 HX
  rintro _hrm HGW
  have hu1 : RwsSl (Mut M [.ro (IsIn C9 n9 x.li), .blk g2 129 #[.string ⟨#[]⟩, .int .i64 0, .slice none 0 0, .slice none 0 0, .slice none 0 0], .blk g1 129 #[.string x.nm, .int .i64 x.nx, .slice C9 n9 c9, .slice x.D x.nd x.cd, .slice x.U x.nu x.cu], .ro (UeIn x)]) K (x.ld.map Rw.row) (.slice A5 n5 c5) wx2 := (GW_on (d := 9) rfl).1 (HGW 2 _ rfl (by omega))
  have hu2 : RwsSl (Mut M [.ro (IsIn C9 n9 x.li), .blk g2 129 #[.string ⟨#[]⟩, .int .i64 0, .slice none 0 0, .slice none 0 0, .slice none 0 0], .blk g1 129 #[.string x.nm, .int .i64 x.nx, .slice C9 n9 c9, .slice x.D x.nd x.cd, .slice x.U x.nu x.cu], .ro (UeIn x)]) K (x.lu.map Rw.row) (.slice A6 n6 c6) wx2 := (GW_on (d := 12) rfl).1 (HGW 5 _ rfl (by omega))
  clear HGW _hrm KD
  obtain ⟨A7, n7, c7, l7, e7, p1, p2, p3, p4, r7⟩ := hu1
  obtain ⟨A8, n8, c8, l8, e8, q1, q2, q3, q4, r8⟩ := hu2
  obtain ⟨rfl, rfl, rfl⟩ : A5 = A7 ∧ n5 = n7 ∧ c5 = c7 := by injection e7 with a b c; exact ⟨a, b, c⟩
  obtain ⟨rfl, rfl, rfl⟩ : A6 = A8 ∧ n6 = n8 ∧ c6 = c8 := by injection e8 with a b c; exact ⟨a, b, c⟩
  clear e7 e8
  have HB5 := hid (show n5 ≤ N by have h := r7.now.len; have h2 := congrArg List.length p3; rw [List.length_map, List.length_map] at h2; have h3 := HG.out.d; have h4 : x.ld.length = x.nd := (HX.ro 3 rfl).now.2.1.len; omega)
  have HB6 := hid (show n6 ≤ N by have h := r8.now.len; have h2 := congrArg List.length q3; rw [List.length_map, List.length_map] at h2; have h3 := HG.out.u; have h4 : x.lu.length = x.nu := (HX.ro 3 rfl).now.2.2.len; omega)
  have K3 := (HX.add r7).add (r8.less (by simp [Mut, Hp.foot]))
  clear HX r7 r8
  have F := K3.facts
  simp only [World.size_alloc, World.size_drew, factsL, cellsF, Nat.reduceAdd, List.toList_toArray, List.set_cons_zero, List.set_cons_succ, List.setIfInBounds_toArray, and_true, true_and] at F
  have NE := K3.nes
  simp only [World.size_alloc, nesL, neF, List.set_cons_zero, List.set_cons_succ, and_true, true_and] at NE
  have KN := ((((((K3.store 4 rfl 3 (.slice A5 n5 c5)).store 4 rfl 4 (.slice A6 n6 c6)).store 3 rfl 0 (.string x.nm)).store 3 rfl 1 (.int .i64 x.nx)).store 3 rfl 2 (.slice C9 n9 c9)).store 3 rfl 3 (.slice A5 n5 c5)).store 3 rfl 4 (.slice A6 n6 c6)
  have r0 := (KN.roOut 2 rfl).and ((KN.roOut 1 rfl).and (KN.roOut 0 rfl))
  go_wp2_with fail
  exact bodyPost_ret (v := .agg #[.string x.nm, .int .i64 x.nx, .slice C9 n9 c9, .slice A5 n5 c5, .slice A6 n6 c6]) (by simp [results, Tryz.results137, go_sem, F, NE]) rfl
    ⟨⟨x.nm, x.nx, C9, n9, c9, A5, n5, c5, A6, n6, c6, x.li, l7, l8⟩, rfl, by simp only [Ue.ud, p3, q3], ⟨by rw [HN9.out]; exact HG.out.i, HB5.out, HB6.out, ⟨hcap.1, hcap.2.1⟩, ⟨p1, p2⟩, ⟨q1, q2⟩, HG.out.li, p4, q4⟩, r0, KN.below⟩
set_option maxHeartbeats 4000000 in
set_option maxRecDepth 100000 in
theorem scopylog_any (M : Nat → Prop) (w : World) (hM : ∀ b, M b → b < w.heap.size) (A : Option Addr) (n c : Nat) (N K : Nat) (hN : N ≤ 1000000) (hK : K ≤ 4398046511104) (l : List Ue) (hok : ∀ x ∈ l, x.good N K) (hD : Ro w M (UesIn A n l)) (hn : n ≤ 1000000) :
    Calls Tryz.prog 67 #[.slice A n c] w fun e w' => UesOwn w M N K (l.map Ue.ud) e w' := by
  have HL := hid hD.now.len
  have HOK := hid hok
  clear hok
  have K0 := (((Hold.start M w hM).add (hD.less (by simp [Mut]))).add (ueVals_nil _ _)).nil 129 5
  clear hD
  go_enter Tryz.func67, Tryz.ntmps67
  go_wp2_with fail
  go_loopw [3, 8] (fun ov iv wr => ∃ (j cap : Nat) (O : Option Addr) (outs : List Ue), j ≤ n ∧ iv = .int .i64 j ∧ ov = .slice O j cap ∧ Hid (UeStep N K outs l j) ∧ Hold M none w wr [.own 129 5 (.slice O j cap) j (ueCells outs), .ro (UeVals outs), .ro (UesIn A n l)]) (fun _ iv _ => n - (intOf iv).toNat)
  case atStart => exact ⟨0, 0, none, [], by omega, rfl, rfl, hid ⟨rfl, fun r hr => nomatch hr⟩, K0⟩
  case round =>
    clear K0
    obtain ⟨j, cap, O, outs, hj, rfl, rfl, HW, H⟩ := hrel
    by_cases hlt : j < n
    · have hd : decide ((j : Int) < (n : Int)) = true := by simp; omega
      have j0 : (0 : Int) ≤ (j : Int) := by omega
      have j1 : (j : Int) < (n : Int) := by omega
      obtain ⟨x, hx⟩ := get_of HL.out hlt
      obtain ⟨g, o, rfl, hb, c0, c1, c2, c3, c4, -⟩ := (H.ro 2 rfl).now.at_ hx
      have HXO := hid (HOK.out x (List.mem_of_getElem? hx))
      have HXM := hid (List.mem_of_getElem? hx)
      have HXG := hid hx
      clear hx
      have K1 := H.alloc_cst #[.string x.nm, .int .i64 x.nx, .slice x.I x.ni x.ci, .slice x.D x.nd x.cd, .slice x.U x.nu x.cu] 129
      have FA := K1.facts
      simp only [World.size_alloc, World.size_drew, factsL, cellsF, Nat.reduceAdd, List.toList_toArray, List.set_cons_zero, List.set_cons_succ, List.setIfInBounds_toArray, and_true, true_and] at FA
      clear H
      go_wp2_with fail
      refine (sundo_any _ _ K1.mutLt x N K HXO.out hN hK ((K1.ro 3 rfl).imp fun w2 h2 => h2.2 x HXM.out)).mono ?_
      rintro e w5 ⟨y, rfl, hy, hyo, ry, b5⟩
      have hv : y.val = .agg #[.string y.nm, .int .i64 y.nx, .slice y.I y.ni y.ci, .slice y.D y.nd y.cd, .slice y.U y.nu y.cu] := rfl
      rw [hv]
      clear hv
      have K2 := (K1.call b5).add ry
      have HS2 := hid (show UeStep N K (outs ++ [y]) l (j + 1) from ⟨by rw [List.map_append, HW.out.1, List.take_add_one, HXG.out, List.map_append]; exact congrArg _ (congrArg (fun z => [z]) hy), fun z hz => by
        rcases List.mem_append.1 hz with hz | hz
        · exact HW.out.2 z hz
        · simp at hz; subst hz; exact hyo⟩)
      clear b5 ry K1 FA hy hyo
      go_wp2_with (at_builtin; go_must (refine wpList_appH K2 2 rfl Tryz.elUe #[.string y.nm, .int .i64 y.nx, .slice y.I y.ni y.ci, .slice y.D y.nd y.cd, .slice y.U y.nu y.cu] rfl (.tmp 12) (.tmp 15) rfl rfl _ (by first | rfl | simp) rfl rfl (by intro u hu; simp at hu; rcases hu with rfl | rfl | rfl | rfl | rfl <;> rfl) (by omega) (by omega) ?_); intro g9 cap9 w9 hc9 hm9 KB; simp only [List.set_cons_zero, List.set_cons_succ] at KB)
      have e9 : ueCells outs ++ (#[.string y.nm, .int .i64 y.nx, .slice y.I y.ni y.ci, .slice y.D y.nd y.cd, .slice y.U y.nu y.cu]).toList = ueCells (outs ++ [y]) := (ueCells_snoc outs y).symm
      rw [e9] at KB
      have KC := (KB.swapRo 3 rfl (ueVals_snoc (r := y) (KB.ro 3 rfl) (KB.ro 0 rfl))).drop (List.Sublist.cons _ (List.sublist_cons_self _ _))
      go_roundw
      case rel => exact ⟨j + 1, cap9, _, _, by omega, by go_num, by first | rfl | trivial, HS2, KC⟩
      case measure => simp [intOf]; omega
    · obtain rfl : n = j := by omega
      have hd : decide ((n : Int) < (n : Int)) = false := by simp
      have hcap := own_caps (H.get 0 rfl)
      have HW2 := hid (show outs.map Ue.ud = l.map Ue.ud by have h := HW.out.1; rwa [List.take_of_length_le (by rw [HL.out]; exact Nat.le_refl _)] at h)
      have HO := hid (H.get 0 rfl)
      have HR := hid ((H.ro 1 rfl).less (fun b hb => mut_one hb))
      have HB := hid H.below
      clear H hcap
      go_wp2_with fail
      go_ret
      exact ⟨O, n, cap, outs, rfl, HW2.out, HW.out.2, HO.out, HR.out, HB.out⟩
end Go.Proofs.YtedogodccblfeaaGreatDoor

namespace Go.Proofs.YtedogodccblfeaaGreatDoor
open Go.RowKit
set_option linter.unusedVariables false
set_option linter.unusedSimpArgs false

def nm3 (k : Nat) : ByteArray := if k = 0 then nmLog else if k = 1 then nmT else nmU
def cs3 (k : Nat) : List Col := if k = 0 then logCols else if k = 1 then tCols else uCols
/-- the first tables of a store drawn -/
structure Sto3 (N k : Nat) (outs : List Te) : Prop where
  len : outs.length = k
  ok : ∀ x ∈ outs, x.ok ∧ VTab x.tb ∧ x.tb.rs.length ≤ N
  at_ : ∀ (j : Nat) (x : Te), outs[j]? = some x → x.tb.nm = nm3 j ∧ x.tb.cs = cs3 j
theorem Sto3.zero (N : Nat) : Sto3 N 0 [] := ⟨rfl, fun x hx => (nomatch hx), fun j x h => by simp at h⟩
theorem Sto3.next {N k : Nat} {outs : List Te} {y : Te} (h : Sto3 N k outs) (h1 : y.ok) (h2 : VTab y.tb) (h3 : y.tb.rs.length ≤ N) (h4 : y.tb.nm = nm3 k) (h5 : y.tb.cs = cs3 k) : Sto3 N (k + 1) (outs ++ [y]) := by
  refine ⟨by simp [h.len], fun x hx => ?_, fun j x hx => ?_⟩
  · rcases List.mem_append.1 hx with hx | hx
    · exact h.ok x hx
    · simp at hx; subst hx; exact ⟨h1, h2, h3⟩
  · rw [List.getElem?_append] at hx
    split at hx
    · exact h.at_ j x hx
    · rename_i hj
      have hk := h.len
      obtain rfl : j = k := by
        have := (List.getElem?_eq_some_iff.1 hx).1
        simp at this; omega
      rw [hk] at hx
      simp at hx
      subst hx
      exact ⟨h4, h5⟩
def StoRet (w : World) (T : Nat) (M : Nat → Prop) (N : Nat) (e : Ending) (w' : World) : Prop :=
  ∃ (A : Option Addr) (c : Nat) (l : List Te), e = .returned (.slice A 3 c) ∧ 3 ≤ c ∧ c ≤ 9223372036854775807 ∧ Sto3 N 3 l ∧ Ro w' M (TesIn A 3 l) ∧ Tp w' T ∧ w.grownBy w' (some T)
set_option maxHeartbeats 8000000 in
set_option maxRecDepth 100000 in
theorem tstore_any (M : Nat → Prop) (T : Nat) (w : World) (hM : ∀ b, M b → b < w.heap.size) (ht : Tp w T) (hMT : ∀ b, M b → T ≤ b) (N : Nat) (hN : N ≤ 50) (hW : Ro w (Mut M [.tp T]) Wds) (hw : 2 < T) :
    Calls Tryz.prog 16 #[.pointer (some ⟨T, 0, none⟩), .int .i64 N] w fun e w' => StoRet w T M N e w' := by
  have K0 := (Hold.startT M w T hM ht hMT).add hW
  clear hW
  go_enter Tryz.func16, Tryz.ntmps16
  go_wp2_with fail
  refine (schemas_any _ _ K0.mutLt).mono ?_
  rintro e w1 ⟨g, g0, g1, g2, nl, nt, nu, hnl, hnt, hnu, rfl, b1, r0, r1, r2, r3⟩
  have HNL := hid (And.intro hnl (And.intro hnt hnu))
  have K1 := ((((((K0.call b1).add r3).add (r2.less (by simp [Mut, Hp.foot]))).add (r1.less (by simp [Mut, Hp.foot]))).add (r0.less (by simp [Mut, Hp.foot]))).add (teVals_nil _ _)).nil 58 4
  clear K0 b1 r0 r1 r2 r3 hnl hnt hnu
  go_wp2_with fail
  go_loopw [5, 10] (fun ov iv wr => ∃ (k cap : Nat) (O : Option Addr) (outs : List Te), k ≤ 3 ∧ iv = .int .i64 k ∧ ov = .slice O k cap ∧ Hid (Sto3 N k outs) ∧ Hold M (some T) w wr [.own 58 4 (.slice O k cap) k (teCells outs), .ro (TeVals outs), .ro (fun w => w.heap[g]? = some (.cells #[.string nl, .slice (some ⟨g0, 0, none⟩) 2 2, .string nt, .slice (some ⟨g1, 0, none⟩) 4 4, .string nu, .slice (some ⟨g2, 0, none⟩) 3 3] 49 (0, 0))), .ro (ColsIn (some ⟨g0, 0, none⟩) 2 logCols), .ro (ColsIn (some ⟨g1, 0, none⟩) 4 tCols), .ro (ColsIn (some ⟨g2, 0, none⟩) 3 uCols), .ro Wds, .tp T]) (fun _ iv _ => 3 - (intOf iv).toNat)
  case atStart => exact ⟨0, 0, none, [], by omega, rfl, rfl, hid (Sto3.zero N), K1⟩
  case round =>
    clear K1
    obtain ⟨k, cap, O, outs, hk, rfl, rfl, HS, H⟩ := hrel
    by_cases hlt : k < 3
    · have hd : decide ((k : Int) < 3) = true := by simp; omega
      have hblk := (H.ro 2 rfl).now
      have hgl := Blk.lt hblk
      obtain rfl | rfl | rfl : k = 0 ∨ k = 1 ∨ k = 2 := by omega
      · have c0 := cell_of_row _ _ 0 _ _ _ hblk
        have c1 := cell_of_row _ _ 1 _ _ _ hblk
        clear hblk
        have K1 := H.alloc_cst #[.string nl, .slice (some ⟨g0, 0, none⟩) 2 2] 49
        have F1 := K1.facts
        simp only [World.size_alloc, World.size_drew, factsL, cellsF, Nat.reduceAdd, List.toList_toArray, List.set_cons_zero, List.set_cons_succ, List.setIfInBounds_toArray, and_true, true_and] at F1
        clear H
        go_wp2_with fail
        refine (tof_slot (Mut M _) T _ K1.mutLt (K1.tp_ 8 rfl) (K1.get 8 rfl).2 nl (some ⟨g0, 0, none⟩) 2 2 logCols N ((K1.ro 4 rfl).less (mut_tp (i := 8) rfl)) (by omega) (by omega) (by rw [HNL.out.1]; exact schOk_of (by decide +kernel)) ((K1.ro 7 rfl).less (mut_tp (i := 8) rfl)) hw hN).mono ?_
        rintro e w5 ⟨v, t, rfl, hT, hv, hn1, hc1, hr1, t5, g5⟩
        obtain ⟨y, rfl, hy, hyo, ry⟩ := tb_te hT
        have hyv : y.val = .agg #[.string y.nm, .slice y.A y.n y.c, .int .i64 y.nx, .slice y.B y.m y.d] := rfl
        rw [hyv]
        clear hyv
        have K2 := (Hold.callT K1 8 rfl g5 t5).add ry
        have HY := hid (show y.ok ∧ VTab y.tb ∧ y.tb.rs.length ≤ N ∧ y.tb.nm = nl ∧ y.tb.cs = logCols from ⟨hyo, by rw [hy]; exact hv, by rw [hy]; exact hr1, by rw [hy]; exact hn1, by rw [hy]; exact hc1⟩)
        clear K1 F1 hT hv hn1 hc1 hr1 t5 g5 hy hyo ry
        go_wp2_with (at_builtin; go_must (refine wpList_appH K2 2 rfl Tryz.elTe #[.string y.nm, .slice y.A y.n y.c, .int .i64 y.nx, .slice y.B y.m y.d] rfl (.tmp 14) (.tmp 19) rfl rfl _ (by first | rfl | simp) rfl rfl (by intro u hu; simp at hu; rcases hu with rfl | rfl | rfl | rfl <;> rfl) (by omega) (by omega) ?_); intro g9 cap9 w9 hc9 hm9 KB; simp only [List.set_cons_zero, List.set_cons_succ] at KB)
        have e9 : teCells outs ++ (#[.string y.nm, .slice y.A y.n y.c, .int .i64 y.nx, .slice y.B y.m y.d]).toList = teCells (outs ++ [y]) := (teCells_snoc outs y).symm
        rw [e9] at KB
        have KC := (KB.swapRo 3 rfl (teVals_snoc (r := y) (KB.ro 3 rfl) (KB.ro 0 rfl))).drop (List.Sublist.cons _ (List.sublist_cons_self _ _))
        have HS2 := hid (HS.out.next HY.out.1 HY.out.2.1 HY.out.2.2.1 (show y.tb.nm = nm3 0 from HY.out.2.2.2.1.trans HNL.out.1) (show y.tb.cs = cs3 0 from HY.out.2.2.2.2))
        go_roundw
        case rel => exact ⟨1, cap9, _, _, by omega, by go_num, by first | rfl | trivial, HS2, KC⟩
        case measure => simp [intOf]
      · have c0 := cell_of_row _ _ 2 _ _ _ hblk
        have c1 := cell_of_row _ _ 3 _ _ _ hblk
        clear hblk
        have K1 := H.alloc_cst #[.string nt, .slice (some ⟨g1, 0, none⟩) 4 4] 49
        have F1 := K1.facts
        simp only [World.size_alloc, World.size_drew, factsL, cellsF, Nat.reduceAdd, List.toList_toArray, List.set_cons_zero, List.set_cons_succ, List.setIfInBounds_toArray, and_true, true_and] at F1
        clear H
        go_wp2_with fail
        refine (tof_slot (Mut M _) T _ K1.mutLt (K1.tp_ 8 rfl) (K1.get 8 rfl).2 nt (some ⟨g1, 0, none⟩) 4 4 tCols N ((K1.ro 5 rfl).less (mut_tp (i := 8) rfl)) (by omega) (by omega) (by rw [HNL.out.2.1]; exact schOk_of (by decide +kernel)) ((K1.ro 7 rfl).less (mut_tp (i := 8) rfl)) hw hN).mono ?_
        rintro e w5 ⟨v, t, rfl, hT, hv, hn1, hc1, hr1, t5, g5⟩
        obtain ⟨y, rfl, hy, hyo, ry⟩ := tb_te hT
        have hyv : y.val = .agg #[.string y.nm, .slice y.A y.n y.c, .int .i64 y.nx, .slice y.B y.m y.d] := rfl
        rw [hyv]
        clear hyv
        have K2 := (Hold.callT K1 8 rfl g5 t5).add ry
        have HY := hid (show y.ok ∧ VTab y.tb ∧ y.tb.rs.length ≤ N ∧ y.tb.nm = nt ∧ y.tb.cs = tCols from ⟨hyo, by rw [hy]; exact hv, by rw [hy]; exact hr1, by rw [hy]; exact hn1, by rw [hy]; exact hc1⟩)
        clear K1 F1 hT hv hn1 hc1 hr1 t5 g5 hy hyo ry
        go_wp2_with (at_builtin; go_must (refine wpList_appH K2 2 rfl Tryz.elTe #[.string y.nm, .slice y.A y.n y.c, .int .i64 y.nx, .slice y.B y.m y.d] rfl (.tmp 14) (.tmp 19) rfl rfl _ (by first | rfl | simp) rfl rfl (by intro u hu; simp at hu; rcases hu with rfl | rfl | rfl | rfl <;> rfl) (by omega) (by omega) ?_); intro g9 cap9 w9 hc9 hm9 KB; simp only [List.set_cons_zero, List.set_cons_succ] at KB)
        have e9 : teCells outs ++ (#[.string y.nm, .slice y.A y.n y.c, .int .i64 y.nx, .slice y.B y.m y.d]).toList = teCells (outs ++ [y]) := (teCells_snoc outs y).symm
        rw [e9] at KB
        have KC := (KB.swapRo 3 rfl (teVals_snoc (r := y) (KB.ro 3 rfl) (KB.ro 0 rfl))).drop (List.Sublist.cons _ (List.sublist_cons_self _ _))
        have HS2 := hid (HS.out.next HY.out.1 HY.out.2.1 HY.out.2.2.1 (show y.tb.nm = nm3 1 from HY.out.2.2.2.1.trans HNL.out.2.1) (show y.tb.cs = cs3 1 from HY.out.2.2.2.2))
        go_roundw
        case rel => exact ⟨2, cap9, _, _, by omega, by go_num, by first | rfl | trivial, HS2, KC⟩
        case measure => simp [intOf]
      · have c0 := cell_of_row _ _ 4 _ _ _ hblk
        have c1 := cell_of_row _ _ 5 _ _ _ hblk
        clear hblk
        have K1 := H.alloc_cst #[.string nu, .slice (some ⟨g2, 0, none⟩) 3 3] 49
        have F1 := K1.facts
        simp only [World.size_alloc, World.size_drew, factsL, cellsF, Nat.reduceAdd, List.toList_toArray, List.set_cons_zero, List.set_cons_succ, List.setIfInBounds_toArray, and_true, true_and] at F1
        clear H
        go_wp2_with fail
        refine (tof_slot (Mut M _) T _ K1.mutLt (K1.tp_ 8 rfl) (K1.get 8 rfl).2 nu (some ⟨g2, 0, none⟩) 3 3 uCols N ((K1.ro 6 rfl).less (mut_tp (i := 8) rfl)) (by omega) (by omega) (by rw [HNL.out.2.2]; exact schOk_of (by decide +kernel)) ((K1.ro 7 rfl).less (mut_tp (i := 8) rfl)) hw hN).mono ?_
        rintro e w5 ⟨v, t, rfl, hT, hv, hn1, hc1, hr1, t5, g5⟩
        obtain ⟨y, rfl, hy, hyo, ry⟩ := tb_te hT
        have hyv : y.val = .agg #[.string y.nm, .slice y.A y.n y.c, .int .i64 y.nx, .slice y.B y.m y.d] := rfl
        rw [hyv]
        clear hyv
        have K2 := (Hold.callT K1 8 rfl g5 t5).add ry
        have HY := hid (show y.ok ∧ VTab y.tb ∧ y.tb.rs.length ≤ N ∧ y.tb.nm = nu ∧ y.tb.cs = uCols from ⟨hyo, by rw [hy]; exact hv, by rw [hy]; exact hr1, by rw [hy]; exact hn1, by rw [hy]; exact hc1⟩)
        clear K1 F1 hT hv hn1 hc1 hr1 t5 g5 hy hyo ry
        go_wp2_with (at_builtin; go_must (refine wpList_appH K2 2 rfl Tryz.elTe #[.string y.nm, .slice y.A y.n y.c, .int .i64 y.nx, .slice y.B y.m y.d] rfl (.tmp 14) (.tmp 19) rfl rfl _ (by first | rfl | simp) rfl rfl (by intro u hu; simp at hu; rcases hu with rfl | rfl | rfl | rfl <;> rfl) (by omega) (by omega) ?_); intro g9 cap9 w9 hc9 hm9 KB; simp only [List.set_cons_zero, List.set_cons_succ] at KB)
        have e9 : teCells outs ++ (#[.string y.nm, .slice y.A y.n y.c, .int .i64 y.nx, .slice y.B y.m y.d]).toList = teCells (outs ++ [y]) := (teCells_snoc outs y).symm
        rw [e9] at KB
        have KC := (KB.swapRo 3 rfl (teVals_snoc (r := y) (KB.ro 3 rfl) (KB.ro 0 rfl))).drop (List.Sublist.cons _ (List.sublist_cons_self _ _))
        have HS2 := hid (HS.out.next HY.out.1 HY.out.2.1 HY.out.2.2.1 (show y.tb.nm = nm3 2 from HY.out.2.2.2.1.trans HNL.out.2.2) (show y.tb.cs = cs3 2 from HY.out.2.2.2.2))
        go_roundw
        case rel => exact ⟨3, cap9, _, _, by omega, by go_num, by first | rfl | trivial, HS2, KC⟩
        case measure => simp [intOf]
    · obtain rfl : k = 3 := by omega
      have hd : decide (((3 : Nat) : Int) < 3) = false := by decide
      have hcap := own_caps (H.get 0 rfl)
      have KS := H.sealRow 0 rfl
      simp only [List.set_cons_zero] at KS
      have r1 := (KS.roOut 0 rfl).and (KS.roOut 1 rfl)
      have ht9 := KS.tp_ 7 rfl
      have HG := hid KS.grow
      clear H
      go_wp2_with fail
      go_ret
      exact ⟨O, cap, outs, rfl, hcap.1, hcap.2.1, HS.out, r1, ht9, HG.out⟩
end Go.Proofs.YtedogodccblfeaaGreatDoor

namespace Go.Proofs.YtedogodccblfeaaGreatDoor
open Go.RowKit
set_option linter.unusedVariables false
set_option linter.unusedSimpArgs false

/-- the place of the first table with a name -/
def findT (l : List Tb) (s : ByteArray) : Int := findB (fun t => t.nm.toList == s.toList) l
/-- a step from table a to table b, recorded as u -/
structure StepU (u : Ud) (a b : Tb) : Prop where
  rec_ : u = recD a b
  va : VTab a
  vb : VTab b
  later : LaterOk a b
  la : a.rs.length ≤ 19
/-- the entries (the last first) lead from S back to S0 -/
def BackR : List Ud → List Tb → List Tb → Prop
  | [], S, S0 => S = S0
  | u :: r, S, S0 => ∃ (k : Nat) (a b : Tb), S[k]? = some b ∧ findT S u.nm = (k : Int) ∧ StepU u a b ∧ BackR r (S.set k a) S0
theorem StepU.asc_a {u : Ud} {a b : Tb} (h : StepU u a b) : (a.rs.map (·.1)).Pairwise (· < ·) := (okR_asc (tabB_ok h.va.val).2.2.2.2.1).1
theorem StepU.asc_b {u : Ud} {a b : Tb} (h : StepU u a b) : (b.rs.map (·.1)).Pairwise (· < ·) := (okR_asc (tabB_ok h.vb.val).2.2.2.2.1).1
theorem set_set_back {S : List Tb} {k : Nat} {a x : Tb} (h : S[k]? = some a) : (S.set k x).set k a = S := by
  rw [List.set_set]
  apply List.ext_getElem?
  intro j
  rw [List.getElem?_set]
  split
  · subst j
    have := (List.getElem?_eq_some_iff.1 h).1
    rw [if_pos this, h]
  · rfl
theorem back_step {u : Ud} {S S0 : List Tb} {a x : Tb} {k : Nat} {r : List Ud} (hk : S[k]? = some a) (hf : findT (S.set k x) u.nm = (k : Int)) (hu : StepU u a x) (hb : BackR r S S0) : BackR (u :: r) (S.set k x) S0 := by
  refine ⟨k, a, x, ?_, hf, hu, by rw [set_set_back hk]; exact hb⟩
  rw [List.getElem?_set_self (List.getElem?_eq_some_iff.1 hk).1]
/-- names that stand once are found at their place -/
theorem findT_at {S : List Tb} (h : (S.map Tb.nm).Nodup) {k : Nat} {t : Tb} (hk : S[k]? = some t) : findT S t.nm = (k : Int) := by
  have key : ∀ (l : List Tb) (i k : Nat), (l.map Tb.nm).Nodup → l[k]? = some t → findFrom (fun x : Tb => x.nm.toList == t.nm.toList) i l = ((i + k : Nat) : Int) := by
    intro l
    induction l with
    | nil => intro i k _ h; simp at h
    | cons y l ih =>
      intro i k hn hk
      rw [List.map_cons, List.nodup_cons] at hn
      rcases k with _ | k
      · simp only [List.getElem?_cons_zero, Option.some.injEq] at hk
        subst hk
        rw [findFrom, if_pos (by simp)]; rfl
      · simp only [List.getElem?_cons_succ] at hk
        have hne : (y.nm.toList == t.nm.toList) = false := by
          rw [beq_eq_false_iff_ne]
          intro e
          have e2 : y.nm = t.nm := Go.WideShapes.bytes_inj (by rw [← ByteArray.toList_eq, ← ByteArray.toList_eq]; exact e)
          exact hn.1 (e2 ▸ List.mem_map_of_mem (List.mem_of_getElem? hk))
        rw [findFrom, hne, if_neg (by simp), ih (i + 1) k hn.2 hk]
        congr 1; omega
  have := key S 0 k h hk
  rw [Nat.zero_add] at this
  exact this
end Go.Proofs.YtedogodccblfeaaGreatDoor

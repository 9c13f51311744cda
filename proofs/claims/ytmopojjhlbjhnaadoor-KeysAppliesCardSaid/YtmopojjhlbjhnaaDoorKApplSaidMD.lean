/- KKnown: the sanity check of keys' laws answers true. -/
import Derived.Test.YtmopojjhlbjhnaaDoorKApplSaidMB
import Derived.Test.YtmopojjhlbjhnaaDoorKApplSaidMC
import Derived.StillTailTactics
import Derived.IntWalk
import Derived.Test.YtmopojjhlbjhnaaDoorKApplSaidMA
import Derived.Shelf.Small.Strs
import Derived.Ground.NamesProg
import Derived.Orders
namespace Go.Proofs.YtmopojjhlbjhnaaDoor
open Go.RowKit
set_option linter.unusedVariables false
set_option linter.unusedSimpArgs false

/-- the rows that stay, with their new values: the updates are taken in order -/
def goR (dels : List Int) : List Row → List Upd → List Row
  | [], _ => []
  | r :: rs, [] => if dels.contains r.1 then goR dels rs [] else r :: goR dels rs []
  | r :: rs, u :: us => if dels.contains r.1 then goR dels rs (u :: us) else if u.1 = r.1 then (r.1, u.2.2) :: goR dels rs us else r :: goR dels rs (u :: us)
/-- the new rows -/
def insR (nx : Int) (ins : List (List Vl)) : List Row := ins.zipIdx.map fun p => (nx + (p.2 : Int), p.1)
def outR (nx : Int) (rs : List Row) (ins : List (List Vl)) (dels : List Int) (us : List Upd) : List Row := goR dels rs us ++ insR nx ins
def zeroT : Tb := ⟨⟨#[]⟩, [], 0, []⟩
/-- what Apply answers -/
def applyC (nm : ByteArray) (cs : List Col) (nx : Int) (rs : List Row) (ins : List (List Vl)) (dels : List Int) (us : List Upd) : Int × Tb :=
  if chgB nm cs nx rs ins dels us = false then (17, zeroT)
  else if fitsC cs (us.map (·.2.2)) ins ≠ 0 then (fitsC cs (us.map (·.2.2)) ins, zeroT)
  else if (rs.length : Int) - dels.length + ins.length > 100 ∨ (ins.length : Int) > 2147483648 - nx then (10, zeroT)
  else if dupB cs (outR nx rs ins dels us) then (9, zeroT)
  else (0, ⟨nm, cs, nx + ins.length, outR nx rs ins dels us⟩)
theorem goR_skip {dels : List Int} {rs : List Row} {us : List Upd} {j : Nat} {r : Row} (hr : rs[j]? = some r) (h : dels.contains r.1 = true) : goR dels (rs.drop j) us = goR dels (rs.drop (j + 1)) us := by
  rw [drop_cons hr]
  cases us with
  | nil => rw [goR, if_pos h]
  | cons u us => rw [goR, if_pos h]
theorem goR_keep {dels : List Int} {rs : List Row} {us : List Upd} {j : Nat} {r : Row} (hr : rs[j]? = some r) (h : dels.contains r.1 = false) (hu : ∀ u, us.head? = some u → u.1 ≠ r.1) : goR dels (rs.drop j) us = r :: goR dels (rs.drop (j + 1)) us := by
  rw [drop_cons hr]
  cases us with
  | nil => rw [goR, if_neg (by rw [h]; simp)]
  | cons u us => rw [goR, if_neg (by rw [h]; simp), if_neg (hu u rfl)]
theorem goR_upd {dels : List Int} {rs : List Row} {us : List Upd} {j : Nat} {r : Row} {u : Upd} (hr : rs[j]? = some r) (h : dels.contains r.1 = false) (hu : u.1 = r.1) : goR dels (rs.drop j) (u :: us) = (r.1, u.2.2) :: goR dels (rs.drop (j + 1)) us := by
  rw [drop_cons hr, goR, if_neg (by rw [h]; simp), if_pos hu]
theorem goR_end {dels : List Int} {rs : List Row} {us : List Upd} {j : Nat} (h : rs.length ≤ j) : goR dels (rs.drop j) us = [] := by rw [List.drop_of_length_le h]; simp [goR]
theorem insR_snoc {nx : Int} {ins : List (List Vl)} {k : Nat} {v : List Vl} (hv : ins[k]? = some v) : insR nx (ins.take (k + 1)) = insR nx (ins.take k) ++ [(nx + (k : Int), v)] := by
  have hk : k < ins.length := (List.getElem?_eq_some_iff.1 hv).1
  unfold insR
  rw [List.take_add_one, hv, Option.toList_some, List.zipIdx_append, List.map_append, List.length_take, Nat.min_eq_left (Nat.le_of_lt hk)]
  simp
theorem firstE_all {cs : List Col} : ∀ {l : List (List Vl)}, firstE cs l = 0 → ∀ v ∈ l, fitsT cs v = 0
  | [], _, v, hv => nomatch hv
  | x :: l, h, v, hv => by
    rw [firstE] at h
    split at h
    · rcases List.mem_cons.1 hv with rfl | hv
      · assumption
      · exact firstE_all h v hv
    · exact absurd h (by assumption)
theorem fitsC_all {cs : List Col} {a b : List (List Vl)} (h : fitsC cs a b = 0) : (∀ v ∈ a, fitsT cs v = 0) ∧ ∀ v ∈ b, fitsT cs v = 0 := by
  unfold fitsC at h
  split at h
  · exact ⟨firstE_all (by assumption), firstE_all h⟩
  · exact absurd h (by assumption)
theorem PrsIn.tail {w : World} {b o k : Nat} {u : Pr} {us : List Pr} (h : PrsIn (some ⟨b, o, none⟩) (k + 1) (u :: us) w) : PrsIn (some ⟨b, o + 3, none⟩) k us w := by
  refine ⟨?_, fun r hr => h.2 r (List.mem_cons_of_mem _ hr)⟩
  have h1 : Rd w w.heap.size 3 (some ⟨b, o, none⟩) (k + 1) (prCells (u :: us)) := h.1
  have hl := h1.1
  refine ⟨by simp [prCells, Pr.cells] at hl ⊢; omega, fun hk => ?_⟩
  obtain ⟨b', o', e, hb, hc⟩ := h1.2 (by omega)
  obtain ⟨rfl, rfl⟩ : b = b' ∧ o = o' := by injection e with e; injection e with a1 a2; exact ⟨a1, a2⟩
  refine ⟨b, o + 3, rfl, hb, fun j v hv => ?_⟩
  have := hc (3 + j) v (by
    show (prCells (u :: us))[3 + j]? = some v
    unfold prCells
    rw [List.flatMap_cons, List.getElem?_append_right (by simp [Pr.cells])]
    simpa [Pr.cells, prCells] using hv)
  rwa [show o + (3 + j) = o + 3 + j by omega] at this
theorem PrsIn.zero {w : World} (A : Option Addr) : PrsIn A 0 [] w := ⟨⟨by simp [prCells], fun h => absurd h (by omega)⟩, fun r hr => nomatch hr⟩
def ApplyRet (w : World) (M : Nat → Prop) (r : Int × Tb) (e : Ending) (w' : World) : Prop := ∃ v, e = .returned (.tuple #[v, .int .i64 r.1]) ∧ TbAt w' M v r.2 ∧ Below w.heap.size w w'
theorem tbAt_zero {w : World} {M : Nat → Prop} : TbAt w M (.agg #[.string ⟨#[]⟩, .slice none 0 0, .int .i64 0, .slice none 0 0]) zeroT := ⟨none, 0, 0, none, 0, 0, [], rfl, by omega, by omega, by omega, by omega, ro_nil, fun _ _ _ => ⟨Rd.none_, fun r hr => nomatch hr⟩, fun r hr => (nomatch hr), rfl⟩
set_option maxHeartbeats 4000000 in
set_option maxRecDepth 100000 in
theorem kapply_any (M : Nat → Prop) (w : World) (hM : ∀ b, M b → b < w.heap.size) (nm : ByteArray) (A : Option Addr) (n c : Nat) (cs : List Col) (nx : Int) (B : Option Addr) (m d : Nat) (l : List Rw) (I : Option Addr) (ni ci : Nat) (ins : List Sl) (D : Option Addr) (nd cd : Nat) (dels : List Int) (U : Option Addr) (nu cu : Nat) (us : List Pr)
    (hC : Ro w M (SlR 4 A n (colCells cs))) (hE : Ro w M (RwsIn B m l)) (hI : Ro w M (SlsIn I ni ins)) (hD : Ro w M (IsIn D nd dels)) (hU : Ro w M (PrsIn U nu us)) (hn : n ≤ 9223372036854775807) (hm : m ≤ 4611686018427387904) (hok : ∀ r ∈ l, r.ok) (hs : nm.size ≤ maxLen) (hcs : ∀ x ∈ cs, x.name.size ≤ maxLen)
    (hni : ni ≤ 1000000000000000) (hnd : nd ≤ 1000000000000000) (hnu : nu ≤ 4398046511104) (hnuc : nu ≤ cu) (hcu : cu ≤ 9223372036854775807) (hoi : ∀ s ∈ ins, s.ok) (hou : ∀ u ∈ us, u.ok) :
    Calls Tryd.prog 42 #[.agg #[.string nm, .slice A n c, .int .i64 nx, .slice B m d], .agg #[.slice I ni ci, .slice D nd cd, .slice U nu cu]] w fun e w' => ApplyRet w M (applyC nm cs nx (l.map Rw.row) (ins.map Sl.vs) dels (us.map Pr.upd)) e w' := by
  have HUL := hid hU.now.len
  have HIL := hid hI.now.len
  have HRL := hid hE.now.len
  have HDL := hid hD.now.len
  have HCL := hid (show cs.length = n from (RdC.of_sl hC.now).len)
  have HEN := hid hE.now
  have HUN := hid hU.now
  have HIN := hid hI.now
  have K0 := ((((((((Hold.start M w hM).add (hU.less (by simp [Mut]))).add (hD.less (by simp [Mut, Hp.foot]))).add (hI.less (by simp [Mut, Hp.foot]))).add (hE.less (by simp [Mut, Hp.foot]))).add (hC.less (by simp [Mut, Hp.foot]))).alloc_cst #[.string nm, .slice A n c, .int .i64 nx, .slice B m d] 43).alloc_cst #[.slice I ni ci, .slice D nd cd, .slice U nu cu] 65).alloc #[.string ⟨#[]⟩, .slice none 0 0, .int .i64 0, .slice none 0 0] 43
  simp only [World.size_alloc] at K0
  have F0 := K0.facts
  simp only [World.size_alloc, World.size_drew, factsL, cellsF, Nat.reduceAdd, List.toList_toArray, List.set_cons_zero, List.set_cons_succ, List.setIfInBounds_toArray, and_true, true_and] at F0
  clear hC hI hD hU hE
  go_enter Tryd.func42, Tryd.ntmps42
  go_wp2_with fail
  refine (kvalid_any _ _ K0.mutLt nm A n c cs nx B m d l I ni ci ins D nd cd dels U nu cu us (K0.ro 3 rfl) (K0.ro 4 rfl) (K0.ro 5 rfl) (K0.ro 6 rfl) (K0.ro 7 rfl) hn hm hok hs hcs (by omega) (by omega) hnu).mono ?_
  rintro e w1 ⟨rfl, b1⟩
  have K1 := K0.call b1
  clear K0 b1 F0
  have F1 := K1.facts
  simp only [World.size_alloc, World.size_drew, factsL, cellsF, Nat.reduceAdd, List.toList_toArray, List.set_cons_zero, List.set_cons_succ, List.setIfInBounds_toArray, and_true, true_and] at F1
  cases hcb : chgB nm cs nx (l.map Rw.row) (ins.map Sl.vs) dels (us.map Pr.upd)
  · have HN := hid (show applyC nm cs nx (l.map Rw.row) (ins.map Sl.vs) dels (us.map Pr.upd) = (17, zeroT) by unfold applyC; rw [hcb]; rfl)
    clear hcb
    have KN := (((K1.store 0 rfl 0 (.string ⟨#[]⟩)).store 0 rfl 1 (.slice none 0 0)).store 0 rfl 2 (.int .i64 0)).store 0 rfl 3 (.slice none 0 0)
    go_wp2_with fail
    exact bodyPost_ret (v := .tuple #[.agg #[.string ⟨#[]⟩, .slice none 0 0, .int .i64 0, .slice none 0 0], .int .i64 17]) (by simp [results, Tryd.results42, go_sem, F1]) rfl ⟨_, by rw [HN.out], by rw [HN.out]; exact tbAt_zero, KN.below⟩
  have htb : tabB nm cs nx (l.map Rw.row) = true := by
    have h := hcb
    unfold chgB at h
    simp only [Bool.and_eq_true] at h
    exact h.1.1.1.1
  have hshort := rw_short HEN.out htb
  obtain ⟨hm100, hnx1, hnx2⟩ := tabB_rows htb
  rw [List.length_map, HRL.out] at hm100
  have hn6 : n ≤ 6 := by have := tabB_cols htb; have := HCL.out; omega
  have HCB := hid hcb
  clear hcb htb
  go_wp2_with fail
  refine (kfits_any _ _ K1.mutLt nm A n c cs (.int .i64 nx) (.slice B m d) I ni ci ins (.slice D nd cd) U nu cu us (K1.ro 3 rfl) (K1.ro 5 rfl) (K1.ro 7 rfl) hn (by omega) hnu hoi hou).mono ?_
  rintro e w2 ⟨rfl, b2⟩
  have K2 := K1.call b2
  clear K1 b2 F1
  have F2 := K2.facts
  simp only [World.size_alloc, World.size_drew, factsL, cellsF, Nat.reduceAdd, List.toList_toArray, List.set_cons_zero, List.set_cons_succ, List.setIfInBounds_toArray, and_true, true_and] at F2
  have HFE := hid (show fitsC cs ((us.map Pr.upd).map (·.2.2)) (ins.map Sl.vs) = fitsC cs (us.map Pr.new) (ins.map Sl.vs) by rw [List.map_map]; rfl)
  by_cases hfz : fitsC cs (us.map Pr.new) (ins.map Sl.vs) = 0
  · rw [hfz]
    have HFZ := hid hfz
    clear hfz
    by_cases hbig : (m : Int) - nd + ni > 100 ∨ (ni : Int) > 2147483648 - nx
    · have HN := hid (show applyC nm cs nx (l.map Rw.row) (ins.map Sl.vs) dels (us.map Pr.upd) = (10, zeroT) by unfold applyC; rw [HCB.out, HFE.out, if_neg (by simp), if_neg (by rw [HFZ.out]; simp), if_pos (by simp only [List.length_map]; have := HRL.out; have := HIL.out; have := HDL.out; rcases hbig with h | h; (exact Or.inl (by omega)); (exact Or.inr (by omega)))])
      have KN := (((K2.store 0 rfl 0 (.string ⟨#[]⟩)).store 0 rfl 1 (.slice none 0 0)).store 0 rfl 2 (.int .i64 0)).store 0 rfl 3 (.slice none 0 0)
      by_cases hb1 : (m : Int) - nd + ni > 100
      · have hd1 : decide ((m : Int) - nd + ni > 100) = true := by simp; omega
        clear hbig hb1
        go_wp2_with fail
        exact bodyPost_ret (v := .tuple #[.agg #[.string ⟨#[]⟩, .slice none 0 0, .int .i64 0, .slice none 0 0], .int .i64 10]) (by simp [results, Tryd.results42, go_sem, F2]) rfl ⟨_, by rw [HN.out], by rw [HN.out]; exact tbAt_zero, KN.below⟩
      · have hd1 : decide ((m : Int) - nd + ni > 100) = false := by simp; omega
        have hd2 : decide ((ni : Int) > 2147483648 - nx) = true := by simp; omega
        clear hbig hb1
        go_wp2_with fail
        exact bodyPost_ret (v := .tuple #[.agg #[.string ⟨#[]⟩, .slice none 0 0, .int .i64 0, .slice none 0 0], .int .i64 10]) (by simp [results, Tryd.results42, go_sem, F2]) rfl ⟨_, by rw [HN.out], by rw [HN.out]; exact tbAt_zero, KN.below⟩
    have hd1 : decide ((m : Int) - nd + ni > 100) = false := by simp; omega
    have hd2 : decide ((ni : Int) > 2147483648 - nx) = false := by simp; omega
    have HBIG := hid hbig
    have HU6 := hid (show ∀ u ∈ us, u.ok ∧ u.nn ≤ 6 from fun u hu => ⟨hou u hu, by have h1 := fitsT_len ((fitsC_all HFZ.out).1 u.new (List.mem_map_of_mem (f := Pr.new) hu)); have h2 := (HUN.out.2 u hu).2.len; have := HCL.out; omega⟩)
    have HI6 := hid (show ∀ s ∈ ins, s.ok ∧ s.n ≤ 6 from fun u hu => ⟨hoi u hu, by have h1 := fitsT_len ((fitsC_all HFZ.out).2 u.vs (List.mem_map_of_mem (f := Sl.vs) hu)); have h2 := (HIN.out.2 u hu).len; have := HCL.out; omega⟩)
    obtain ⟨go, hgo⟩ : ∃ go, go = w2.heap.size := ⟨_, rfl⟩
    have HGO := hid hgo
    have K3 := K2.alloc #[.string nm, .slice A n c, .int .i64 (nx + (ni : Int)), .slice none 0 0] 43
    rw [← hgo] at K3
    go_wp2_with fail
    rw [← hgo]
    refine (cloneCols_any _ _ K3.mutLt A n c cs (K3.ro 4 rfl) (by omega)).mono ?_
    rintro e w4 ⟨A2, n2, c2, rfl, hn2, hc2, hc22, r2, b2⟩
    have HN2 := hid hn2
    have K4 := (((K3.call b2).add r2).add (ro_vals_nil _ _)).nil 71 2
    clear K2 K3 F2 r2 b2 hn2 hgo hd1 hd2
    have F4 := K4.facts
    simp only [World.size_alloc, World.size_drew, factsL, cellsF, Nat.reduceAdd, List.toList_toArray, List.set_cons_zero, List.set_cons_succ, List.setIfInBounds_toArray, and_true, true_and] at F4
    have N4 := K4.nes
    simp only [World.size_alloc, nesL, neF, List.set_cons_zero, List.set_cons_succ, and_true, true_and] at N4
    have K5 := K4.store 3 rfl 1 (.slice A2 n2 c2)
    simp only [cellsF, List.set_cons_zero, List.set_cons_succ, List.setIfInBounds_toArray] at K5
    have K6 := K5.add (K5.ro 11 rfl |>.less (by simp))
    go_wp2_with fail
    clear F4 N4 K4 K5
    go_loopw [8, 68] (fun uv iv wr => ∃ (j q cap k ck : Nat) (O V : Option Addr) (outs : List Rw) (vs : List Pr), j ≤ m ∧ iv = .int .i64 j ∧ uv = .slice V k ck ∧ q ≤ j ∧ k ≤ ck ∧ ck ≤ 9223372036854775807 ∧ (∀ r ∈ outs, r.ok) ∧ (∀ u ∈ vs, u.ok ∧ u.nn ≤ 6) ∧ Hid (goR dels (l.map Rw.row) (us.map Pr.upd) = outs.map Rw.row ++ goR dels ((l.map Rw.row).drop j) (vs.map Pr.upd)) ∧ Hold M none w wr [.ro (PrsIn V k vs), .own 71 2 (.slice O q cap) q (rwCells outs), .ro (ValsIn outs), .ro (SlR 4 A2 n2 (colCells cs)), .blk go 43 #[.string nm, .slice A2 n2 c2, .int .i64 (nx + (ni : Int)), .slice O q cap], .blk (w.heap.size + 1 + 1) 43 #[.string ⟨#[]⟩, .slice none 0 0, .int .i64 0, .slice none 0 0], .cst (w.heap.size + 1) 65 #[.slice I ni ci, .slice D nd cd, .slice U nu cu], .cst w.heap.size 43 #[.string nm, .slice A n c, .int .i64 nx, .slice B m d], .ro (SlR 4 A n (colCells cs)), .ro (RwsIn B m l), .ro (SlsIn I ni ins), .ro (IsIn D nd dels), .ro (PrsIn U nu us)]) (fun _ iv _ => m - (intOf iv).toNat)
    case atStart => exact ⟨0, 0, 0, nu, cu, none, U, [], us, by omega, rfl, rfl, by omega, hnuc, hcu, (fun r hr => nomatch hr), HU6.out, hid rfl, K6⟩
    case round =>
      clear K6
      obtain ⟨j, q, cap, k, ck, O, V, outs, vs, hj, rfl, rfl, hq, hkc, hck, hoo, hov, HG, H⟩ := hrel
      by_cases hlt : j < m
      · have hdd : decide ((j : Int) < (m : Int)) = true := by simp; omega
        have j0 : (0 : Int) ≤ (j : Int) := by omega
        obtain ⟨r, hr⟩ := get_of HRL.out hlt
        obtain ⟨b, o, rfl, hb, c0, c1, _⟩ := (H.ro 9 rfl).now.at_ hr
        have HX := hid (show (l.map Rw.row)[j]? = some (r.id, r.vs) by simp [hr, Rw.row])
        have HRM := hid (List.mem_of_getElem? hr)
        have hrok := hok r HRM.out
        have HR6 := hid (hshort r HRM.out)
        have K1 := H.alloc_cst #[.int .i64 r.id, .slice r.A r.n r.c] 71
        clear hr
        have F1 := K1.facts
        simp only [World.size_alloc, World.size_drew, factsL, cellsF, Nat.reduceAdd, List.toList_toArray, List.set_cons_zero, List.set_cons_succ, List.setIfInBounds_toArray, and_true, true_and] at F1
        go_wp2_with fail
        refine (kcont_any _ D nd cd dels r.id (K1.ro 12 rfl).now (by omega)).mono ?_
        rintro e w7 ⟨rfl, rfl⟩
        cases hct : dels.contains r.id
        · have HCT := hid hct; clear hct
          have HVL := hid (show vs.length = k from (H.ro 0 rfl).now.len)
          clear H
          cases vs with
          | nil =>
            obtain rfl : k = 0 := by have := HVL.out; simpa using this.symm
            have HN := hid (goR_keep (us := []) HX.out HCT.out (fun u hu => nomatch hu))
            go_wp2_with fail
            go_quiet (fail)
            have K2 := K1.drewN nq
            clear K1 F1
            generalize World.drewN _ nq = w8 at *
            have F2 := K2.facts
            simp only [World.size_alloc, World.size_drew, factsL, cellsF, Nat.reduceAdd, List.toList_toArray, List.set_cons_zero, List.set_cons_succ, List.setIfInBounds_toArray, and_true, true_and] at F2
            go_wp2_with fail
            refine wp_region_any (by kernel_rfl) ?_
            refine wpAny_hold 8 133 ([.cst wr.heap.size 71 #[.int .i64 r.id, .slice r.A r.n r.c], .ro (PrsIn V 0 []), .own 71 2 (.slice O q cap) q (rwCells outs), .ro (ValsIn outs), .ro (SlR 4 A2 n2 (colCells cs)), .blk go 43 #[.string nm, .slice A2 n2 c2, .int .i64 (nx + (ni : Int)), .slice O q cap], .blk (w.heap.size + 1 + 1) 43 #[.string ⟨#[]⟩, .slice none 0 0, .int .i64 0, .slice none 0 0], .cst (w.heap.size + 1) 65 #[.slice I ni ci, .slice D nd cd, .slice U nu cu], .cst w.heap.size 43 #[.string nm, .slice A n c, .int .i64 nx, .slice (some ⟨b, o, none⟩) m d], .ro (SlR 4 A n (colCells cs)), .ro (RwsIn (some ⟨b, o, none⟩) m l), .ro (SlsIn I ni ins), .ro (IsIn D nd dels), .ro (PrsIn U nu us)]) (spL [(102, VlsSlot (Mut M ([.cst wr.heap.size 71 #[.int .i64 r.id, .slice r.A r.n r.c], .ro (PrsIn V 0 []), .own 71 2 (.slice O q cap) q (rwCells outs), .ro (ValsIn outs), .ro (SlR 4 A2 n2 (colCells cs)), .blk go 43 #[.string nm, .slice A2 n2 c2, .int .i64 (nx + (ni : Int)), .slice O q cap], .blk (w.heap.size + 1 + 1) 43 #[.string ⟨#[]⟩, .slice none 0 0, .int .i64 0, .slice none 0 0], .cst (w.heap.size + 1) 65 #[.slice I ni ci, .slice D nd cd, .slice U nu cu], .cst w.heap.size 43 #[.string nm, .slice A n c, .int .i64 nx, .slice (some ⟨b, o, none⟩) m d], .ro (SlR 4 A n (colCells cs)), .ro (RwsIn (some ⟨b, o, none⟩) m l), .ro (SlsIn I ni ins), .ro (IsIn D nd dels), .ro (PrsIn U nu us)])) r.vs), (103, RowSlot (Mut M ([.cst wr.heap.size 71 #[.int .i64 r.id, .slice r.A r.n r.c], .ro (PrsIn V 0 []), .own 71 2 (.slice O q cap) q (rwCells outs), .ro (ValsIn outs), .ro (SlR 4 A2 n2 (colCells cs)), .blk go 43 #[.string nm, .slice A2 n2 c2, .int .i64 (nx + (ni : Int)), .slice O q cap], .blk (w.heap.size + 1 + 1) 43 #[.string ⟨#[]⟩, .slice none 0 0, .int .i64 0, .slice none 0 0], .cst (w.heap.size + 1) 65 #[.slice I ni ci, .slice D nd cd, .slice U nu cu], .cst w.heap.size 43 #[.string nm, .slice A n c, .int .i64 nx, .slice (some ⟨b, o, none⟩) m d], .ro (SlR 4 A n (colCells cs)), .ro (RwsIn (some ⟨b, o, none⟩) m l), .ro (SlsIn I ni ins), .ro (IsIn D nd dels), .ro (PrsIn U nu us)])) r.id r.vs), (104, RBoxSlot (Mut M ([.cst wr.heap.size 71 #[.int .i64 r.id, .slice r.A r.n r.c], .ro (PrsIn V 0 []), .own 71 2 (.slice O q cap) q (rwCells outs), .ro (ValsIn outs), .ro (SlR 4 A2 n2 (colCells cs)), .blk go 43 #[.string nm, .slice A2 n2 c2, .int .i64 (nx + (ni : Int)), .slice O q cap], .blk (w.heap.size + 1 + 1) 43 #[.string ⟨#[]⟩, .slice none 0 0, .int .i64 0, .slice none 0 0], .cst (w.heap.size + 1) 65 #[.slice I ni ci, .slice D nd cd, .slice U nu cu], .cst w.heap.size 43 #[.string nm, .slice A n c, .int .i64 nx, .slice (some ⟨b, o, none⟩) m d], .ro (SlR 4 A n (colCells cs)), .ro (RwsIn (some ⟨b, o, none⟩) m l), .ro (SlsIn I ni ins), .ro (IsIn D nd dels), .ro (PrsIn U nu us)])) r.id r.vs)]) (by kernel_rfl) (by kernel_rfl) (by kernel_rfl) rfl ?_ (K2.drew) ?_
            · exact stays_cons vlsSlot_mono (stays_cons rowSlot_mono (stays_cons rboxSlot_mono (stays_nil _)))
            simp only [List.take_succ_cons, List.take_zero, List.drop_succ_cons, List.drop_zero, Act.put, List.getElem_toArray, List.getElem_cons_zero, List.getElem_cons_succ, List.setIfInBounds_toArray, List.set_cons_succ, List.set_cons_zero]
            refine dw_val rfl rfl rfl ?_; apply Exists.intro; refine ⟨fun wv HC => ?_, ?_⟩
            ·  go_simp <;> rfl
            simp only [Act.put, List.setIfInBounds_toArray, List.set_cons_succ, List.set_cons_zero]
            refine dw_val rfl rfl rfl ?_; apply Exists.intro; refine ⟨fun wv HC => ?_, ?_⟩
            · have FC := HC.facts; simp only [factsL, cellsF, Nat.reduceAdd, List.toList_toArray, and_true, true_and] at FC; go_simp <;> rfl
            simp only [Act.put, List.setIfInBounds_toArray, List.set_cons_succ, List.set_cons_zero]
            refine dw_val rfl rfl rfl ?_; apply Exists.intro; refine ⟨fun wv HC => ?_, ?_⟩
            ·  go_simp <;> rfl
            simp only [Act.put, List.setIfInBounds_toArray, List.set_cons_succ, List.set_cons_zero]
            refine dw_val rfl rfl rfl ?_; apply Exists.intro; refine ⟨fun wv HC => ?_, ?_⟩
            · have FC := HC.facts; simp only [factsL, cellsF, Nat.reduceAdd, List.toList_toArray, and_true, true_and] at FC; go_simp <;> rfl
            simp only [Act.put, List.setIfInBounds_toArray, List.set_cons_succ, List.set_cons_zero]
            refine dw_val rfl rfl rfl ?_; apply Exists.intro; refine ⟨fun wv HC => ?_, ?_⟩
            ·  go_simp <;> rfl
            simp only [Act.put, List.setIfInBounds_toArray, List.set_cons_succ, List.set_cons_zero]
            refine dw_callR 102 (VlsSlot (Mut M ([.cst wr.heap.size 71 #[.int .i64 r.id, .slice r.A r.n r.c], .ro (PrsIn V 0 []), .own 71 2 (.slice O q cap) q (rwCells outs), .ro (ValsIn outs), .ro (SlR 4 A2 n2 (colCells cs)), .blk go 43 #[.string nm, .slice A2 n2 c2, .int .i64 (nx + (ni : Int)), .slice O q cap], .blk (w.heap.size + 1 + 1) 43 #[.string ⟨#[]⟩, .slice none 0 0, .int .i64 0, .slice none 0 0], .cst (w.heap.size + 1) 65 #[.slice I ni ci, .slice D nd cd, .slice U nu cu], .cst w.heap.size 43 #[.string nm, .slice A n c, .int .i64 nx, .slice (some ⟨b, o, none⟩) m d], .ro (SlR 4 A n (colCells cs)), .ro (RwsIn (some ⟨b, o, none⟩) m l), .ro (SlsIn I ni ins), .ro (IsIn D nd dels), .ro (PrsIn U nu us)])) r.vs) (f := 62) (args := #[.slice r.A r.n r.c]) rfl rfl rfl rfl (fun wv => ?_) (fun wv HC hr8 hD => ?_) ?_
            · go_simp <;> rfl
            · refine (cloneVls_any _ wv HC.mutLt r.A r.n r.c r.vs ((HC.ro 10 rfl).imp fun w2 h2 => h2.2 r HRM.out) (by have := HR6.out; omega)).mono ?_
              rintro e w5 ⟨A5, n5, c5, rfl, h50, h51, h52, h53, b5⟩
              exact ⟨_, rfl, ⟨A5, n5, c5, rfl, h50, h51, h52, h53⟩, HC.call b5, RM.below b5⟩
            rintro x wx HCx ⟨A5, n5, c5, rfl, h50, h51, h52, h53⟩
            simp only [Act.put, List.setIfInBounds_toArray, List.set_cons_succ, List.set_cons_zero]
            clear HCx h53
            refine dw_valC 103 (RowSlot (Mut M ([.cst wr.heap.size 71 #[.int .i64 r.id, .slice r.A r.n r.c], .ro (PrsIn V 0 []), .own 71 2 (.slice O q cap) q (rwCells outs), .ro (ValsIn outs), .ro (SlR 4 A2 n2 (colCells cs)), .blk go 43 #[.string nm, .slice A2 n2 c2, .int .i64 (nx + (ni : Int)), .slice O q cap], .blk (w.heap.size + 1 + 1) 43 #[.string ⟨#[]⟩, .slice none 0 0, .int .i64 0, .slice none 0 0], .cst (w.heap.size + 1) 65 #[.slice I ni ci, .slice D nd cd, .slice U nu cu], .cst w.heap.size 43 #[.string nm, .slice A n c, .int .i64 nx, .slice (some ⟨b, o, none⟩) m d], .ro (SlR 4 A n (colCells cs)), .ro (RwsIn (some ⟨b, o, none⟩) m l), .ro (SlsIn I ni ins), .ro (IsIn D nd dels), .ro (PrsIn U nu us)])) r.id r.vs) rfl rfl rfl rfl (.agg #[.int .i64 r.id, .slice A5 n5 c5]) (fun wv HC => ?_) (fun wv HC hD => ?_) ?_
            · go_simp <;> rfl
            · have hsl : VlsSlot (Mut M ([.cst wr.heap.size 71 #[.int .i64 r.id, .slice r.A r.n r.c], .ro (PrsIn V 0 []), .own 71 2 (.slice O q cap) q (rwCells outs), .ro (ValsIn outs), .ro (SlR 4 A2 n2 (colCells cs)), .blk go 43 #[.string nm, .slice A2 n2 c2, .int .i64 (nx + (ni : Int)), .slice O q cap], .blk (w.heap.size + 1 + 1) 43 #[.string ⟨#[]⟩, .slice none 0 0, .int .i64 0, .slice none 0 0], .cst (w.heap.size + 1) 65 #[.slice I ni ci, .slice D nd cd, .slice U nu cu], .cst w.heap.size 43 #[.string nm, .slice A n c, .int .i64 nx, .slice (some ⟨b, o, none⟩) m d], .ro (SlR 4 A n (colCells cs)), .ro (RwsIn (some ⟨b, o, none⟩) m l), .ro (SlsIn I ni ins), .ro (IsIn D nd dels), .ro (PrsIn U nu us)])) r.vs (.slice A5 n5 c5) wv := deps_at hD 5 rfl (by kernel_rfl) rfl rfl
              obtain ⟨A6, n6, c6, e6, h1, h2, h3, h4⟩ := hsl
              exact ⟨A6, n6, c6, by rw [e6], h1, h2, h3, h4⟩
            simp only [Act.put, List.setIfInBounds_toArray, List.set_cons_succ, List.set_cons_zero]
            refine dw_new #[.int .i64 r.id, .slice A5 n5 c5] 71 104 (RBoxSlot (Mut M ([.cst wr.heap.size 71 #[.int .i64 r.id, .slice r.A r.n r.c], .ro (PrsIn V 0 []), .own 71 2 (.slice O q cap) q (rwCells outs), .ro (ValsIn outs), .ro (SlR 4 A2 n2 (colCells cs)), .blk go 43 #[.string nm, .slice A2 n2 c2, .int .i64 (nx + (ni : Int)), .slice O q cap], .blk (w.heap.size + 1 + 1) 43 #[.string ⟨#[]⟩, .slice none 0 0, .int .i64 0, .slice none 0 0], .cst (w.heap.size + 1) 65 #[.slice I ni ci, .slice D nd cd, .slice U nu cu], .cst w.heap.size 43 #[.string nm, .slice A n c, .int .i64 nx, .slice (some ⟨b, o, none⟩) m d], .ro (SlR 4 A n (colCells cs)), .ro (RwsIn (some ⟨b, o, none⟩) m l), .ro (SlsIn I ni ins), .ro (IsIn D nd dels), .ro (PrsIn U nu us)])) r.id r.vs) (fun g => .slice (some ⟨g, 0, none⟩) 1 1) rfl rfl rfl rfl (fun wv => ?_) (fun wv HC _hrm hD hro => ?_) ?_
            · go_simp <;> rfl
            · have hsl : RowSlot (Mut M ([.cst wr.heap.size 71 #[.int .i64 r.id, .slice r.A r.n r.c], .ro (PrsIn V 0 []), .own 71 2 (.slice O q cap) q (rwCells outs), .ro (ValsIn outs), .ro (SlR 4 A2 n2 (colCells cs)), .blk go 43 #[.string nm, .slice A2 n2 c2, .int .i64 (nx + (ni : Int)), .slice O q cap], .blk (w.heap.size + 1 + 1) 43 #[.string ⟨#[]⟩, .slice none 0 0, .int .i64 0, .slice none 0 0], .cst (w.heap.size + 1) 65 #[.slice I ni ci, .slice D nd cd, .slice U nu cu], .cst w.heap.size 43 #[.string nm, .slice A n c, .int .i64 nx, .slice (some ⟨b, o, none⟩) m d], .ro (SlR 4 A n (colCells cs)), .ro (RwsIn (some ⟨b, o, none⟩) m l), .ro (SlsIn I ni ins), .ro (IsIn D nd dels), .ro (PrsIn U nu us)])) r.id r.vs (.agg #[.int .i64 r.id, .slice A5 n5 c5]) wv := deps_at hD 6 rfl (by kernel_rfl) rfl rfl
              obtain ⟨A6, n6, c6, e6, h1, h2, h3, h4⟩ := hsl
              obtain ⟨rfl, rfl, rfl⟩ : A5 = A6 ∧ n5 = n6 ∧ c5 = c6 := by
                injection e6 with e6
                simp at e6
                exact e6
              exact ⟨_, A5, n5, c5, rfl, h1, h2, h3, h4.step (by simp) (fun b hb _ => Below.heap_alloc wv _ b hb) (fun _ _ h => h), ro_block (hro _ HC.mutLt) rfl⟩
            rintro g2 wg HCg hsl
            simp only [Act.put, List.setIfInBounds_toArray, List.set_cons_succ, List.set_cons_zero]
            clear hsl HCg
            refine rel_nil ?_
            rintro wx2 HX
            rintro _hrm HGW
            have hb2 : RBoxSlot (Mut M ([.cst wr.heap.size 71 #[.int .i64 r.id, .slice r.A r.n r.c], .ro (PrsIn V 0 []), .own 71 2 (.slice O q cap) q (rwCells outs), .ro (ValsIn outs), .ro (SlR 4 A2 n2 (colCells cs)), .blk go 43 #[.string nm, .slice A2 n2 c2, .int .i64 (nx + (ni : Int)), .slice O q cap], .blk (w.heap.size + 1 + 1) 43 #[.string ⟨#[]⟩, .slice none 0 0, .int .i64 0, .slice none 0 0], .cst (w.heap.size + 1) 65 #[.slice I ni ci, .slice D nd cd, .slice U nu cu], .cst w.heap.size 43 #[.string nm, .slice A n c, .int .i64 nx, .slice (some ⟨b, o, none⟩) m d], .ro (SlR 4 A n (colCells cs)), .ro (RwsIn (some ⟨b, o, none⟩) m l), .ro (SlsIn I ni ins), .ro (IsIn D nd dels), .ro (PrsIn U nu us)])) r.id r.vs (.slice (some ⟨g2, 0, none⟩) 1 1) wx2 := (GW_on (d := 104) rfl).1 (HGW 7 _ rfl (by omega))
            clear HGW
            obtain ⟨g3, A6, n6, c6, e6, k0, k1, k2, k3, k4⟩ := hb2
            obtain rfl : g2 = g3 := by injection e6 with e6; injection e6 with e6; injection e6
            clear e6
            have k5 := hid k4.now
            clear k4
            have HRS := hid (show rwCells outs ++ [.int .i64 r.id, .slice A6 n6 c6] = rwCells (outs ++ [⟨r.id, A6, n6, c6, r.vs⟩]) from rwCells_snoc1 _ _ _ _ _ _)
            have KA := HX.add k3
            clear HX
            go_wp2_with (at_builtin; go_must (refine wpList_appAllH KA 3 rfl Tryd.elRw k5.out rfl (.tmp 98) (.tmp 104) rfl rfl rfl (by intro z hz; simp at hz; rcases hz with rfl | rfl <;> rfl) (by omega) (by omega) ?_); intro C' cap' w6 hc6 hm6 KB; rw [HRS.out] at KB; simp only [List.set_cons_zero, List.set_cons_succ] at KB; (have F3 := KB.facts); simp only [World.size_alloc, World.size_drew, factsL, cellsF, Nat.reduceAdd, List.toList_toArray, List.set_cons_zero, List.set_cons_succ, List.setIfInBounds_toArray, and_true, true_and] at F3)
            have KC := KB.store 6 rfl 3 (.slice C' (q + 1) cap')
            have KD := KC.swapRo 4 rfl (vals_snoc (r := ⟨r.id, A6, n6, c6, r.vs⟩) (KC.ro 4 rfl) (KC.ro 0 rfl))
            have KE := KD
            simp only [cellsF, List.set_cons_zero, List.set_cons_succ, List.setIfInBounds_toArray] at KE
            have HGN := hid (show goR dels (l.map Rw.row) (us.map Pr.upd) = List.map Rw.row (outs ++ [⟨r.id, A6, n6, c6, r.vs⟩]) ++ goR dels ((l.map Rw.row).drop (j + 1)) (([] : List Pr).map Pr.upd) by
              rw [List.map_append, List.append_assoc]
              exact HG.out.trans (congrArg (outs.map Rw.row ++ ·) HN.out))
            go_roundw
            case rel => exact ⟨j + 1, q + 1, cap', 0, ck, _, V, _, [], by omega, by go_num, rfl, by omega, hkc, hck, by intro x hx; rcases List.mem_append.1 hx with hx | hx; (exact hoo x hx); (simp at hx; subst hx; exact ⟨hrok.id, k1, k2, hrok.vs⟩), hov, HGN, (KE.drop (List.sublist_cons_self _ _)).drop (List.sublist_cons_self _ _)⟩
            case measure => simp [intOf]; omega
          | cons u ut =>
            obtain ⟨k', rfl⟩ : ∃ k', k = k' + 1 := ⟨ut.length, by have := HVL.out; simpa using this.symm⟩
            obtain ⟨b5, o5, rfl, hb5, d0, d1, d2, _⟩ := (K1.ro 1 rfl).now.at_ (k := 0) (x := u) rfl
            simp only [Nat.zero_mul, Nat.add_zero] at d0 d1 d2
            by_cases hid_ : u.id = r.id
            · have hbe : ((u.id : Int) == r.id) = true := by simp [hid_]
              have HN := hid (goR_upd (us := ut.map Pr.upd) (u := u.upd) HX.out HCT.out hid_)
              go_wp2_with fail
              go_quiet (fail)
              have K2 := K1.drewN nq
              clear K1 F1
              generalize World.drewN _ nq = w8 at *
              have F2 := K2.facts
              simp only [World.size_alloc, World.size_drew, factsL, cellsF, Nat.reduceAdd, List.toList_toArray, List.set_cons_zero, List.set_cons_succ, List.setIfInBounds_toArray, and_true, true_and] at F2
              go_wp2_with fail
              obtain ⟨_, _, e5, hb6, d3, d4, d5, _⟩ := (K2.ro 1 rfl).now.at_ (k := 0) (x := u) rfl
              obtain ⟨rfl, rfl⟩ : b5 = _ ∧ o5 = _ := by injection e5 with e5; injection e5 with a1 a2; exact ⟨a1, a2⟩
              simp only [Nat.zero_mul, Nat.add_zero] at d3 d4 d5
              have huo := hov u (List.mem_cons_self ..)
              by_cases hck1 : ck = 1
              · subst hck1
                obtain rfl : k' = 0 := by omega
                obtain rfl : ut = [] := by have := HVL.out; simpa using this
                go_wp2_with fail
                go_quiet (fail)
                have K3 := K2.drewN nq
                clear K2 F2
                generalize World.drewN _ nq = w9 at *
                have F2 := K3.facts
                simp only [World.size_alloc, World.size_drew, factsL, cellsF, Nat.reduceAdd, List.toList_toArray, List.set_cons_zero, List.set_cons_succ, List.setIfInBounds_toArray, and_true, true_and] at F2
                go_wp2_with fail
                refine wp_region_any (by kernel_rfl) ?_
                refine wpAny_hold 8 133 ([.cst wr.heap.size 71 #[.int .i64 r.id, .slice r.A r.n r.c], .ro (PrsIn (some ⟨b5, o5, none⟩) (0 + 1) [u]), .own 71 2 (.slice O q cap) q (rwCells outs), .ro (ValsIn outs), .ro (SlR 4 A2 n2 (colCells cs)), .blk go 43 #[.string nm, .slice A2 n2 c2, .int .i64 (nx + (ni : Int)), .slice O q cap], .blk (w.heap.size + 1 + 1) 43 #[.string ⟨#[]⟩, .slice none 0 0, .int .i64 0, .slice none 0 0], .cst (w.heap.size + 1) 65 #[.slice I ni ci, .slice D nd cd, .slice U nu cu], .cst w.heap.size 43 #[.string nm, .slice A n c, .int .i64 nx, .slice (some ⟨b, o, none⟩) m d], .ro (SlR 4 A n (colCells cs)), .ro (RwsIn (some ⟨b, o, none⟩) m l), .ro (SlsIn I ni ins), .ro (IsIn D nd dels), .ro (PrsIn U nu us)]) (spL [(102, VlsSlot (Mut M ([.cst wr.heap.size 71 #[.int .i64 r.id, .slice r.A r.n r.c], .ro (PrsIn (some ⟨b5, o5, none⟩) (0 + 1) [u]), .own 71 2 (.slice O q cap) q (rwCells outs), .ro (ValsIn outs), .ro (SlR 4 A2 n2 (colCells cs)), .blk go 43 #[.string nm, .slice A2 n2 c2, .int .i64 (nx + (ni : Int)), .slice O q cap], .blk (w.heap.size + 1 + 1) 43 #[.string ⟨#[]⟩, .slice none 0 0, .int .i64 0, .slice none 0 0], .cst (w.heap.size + 1) 65 #[.slice I ni ci, .slice D nd cd, .slice U nu cu], .cst w.heap.size 43 #[.string nm, .slice A n c, .int .i64 nx, .slice (some ⟨b, o, none⟩) m d], .ro (SlR 4 A n (colCells cs)), .ro (RwsIn (some ⟨b, o, none⟩) m l), .ro (SlsIn I ni ins), .ro (IsIn D nd dels), .ro (PrsIn U nu us)])) u.new), (103, RowSlot (Mut M ([.cst wr.heap.size 71 #[.int .i64 r.id, .slice r.A r.n r.c], .ro (PrsIn (some ⟨b5, o5, none⟩) (0 + 1) [u]), .own 71 2 (.slice O q cap) q (rwCells outs), .ro (ValsIn outs), .ro (SlR 4 A2 n2 (colCells cs)), .blk go 43 #[.string nm, .slice A2 n2 c2, .int .i64 (nx + (ni : Int)), .slice O q cap], .blk (w.heap.size + 1 + 1) 43 #[.string ⟨#[]⟩, .slice none 0 0, .int .i64 0, .slice none 0 0], .cst (w.heap.size + 1) 65 #[.slice I ni ci, .slice D nd cd, .slice U nu cu], .cst w.heap.size 43 #[.string nm, .slice A n c, .int .i64 nx, .slice (some ⟨b, o, none⟩) m d], .ro (SlR 4 A n (colCells cs)), .ro (RwsIn (some ⟨b, o, none⟩) m l), .ro (SlsIn I ni ins), .ro (IsIn D nd dels), .ro (PrsIn U nu us)])) r.id u.new), (104, RBoxSlot (Mut M ([.cst wr.heap.size 71 #[.int .i64 r.id, .slice r.A r.n r.c], .ro (PrsIn (some ⟨b5, o5, none⟩) (0 + 1) [u]), .own 71 2 (.slice O q cap) q (rwCells outs), .ro (ValsIn outs), .ro (SlR 4 A2 n2 (colCells cs)), .blk go 43 #[.string nm, .slice A2 n2 c2, .int .i64 (nx + (ni : Int)), .slice O q cap], .blk (w.heap.size + 1 + 1) 43 #[.string ⟨#[]⟩, .slice none 0 0, .int .i64 0, .slice none 0 0], .cst (w.heap.size + 1) 65 #[.slice I ni ci, .slice D nd cd, .slice U nu cu], .cst w.heap.size 43 #[.string nm, .slice A n c, .int .i64 nx, .slice (some ⟨b, o, none⟩) m d], .ro (SlR 4 A n (colCells cs)), .ro (RwsIn (some ⟨b, o, none⟩) m l), .ro (SlsIn I ni ins), .ro (IsIn D nd dels), .ro (PrsIn U nu us)])) r.id u.new)]) (by kernel_rfl) (by kernel_rfl) (by kernel_rfl) rfl ?_ (K3.drew) ?_
                · exact stays_cons vlsSlot_mono (stays_cons rowSlot_mono (stays_cons rboxSlot_mono (stays_nil _)))
                simp only [List.take_succ_cons, List.take_zero, List.drop_succ_cons, List.drop_zero, Act.put, List.getElem_toArray, List.getElem_cons_zero, List.getElem_cons_succ, List.setIfInBounds_toArray, List.set_cons_succ, List.set_cons_zero]
                refine dw_val rfl rfl rfl ?_; apply Exists.intro; refine ⟨fun wv HC => ?_, ?_⟩
                ·  go_simp <;> rfl
                simp only [Act.put, List.setIfInBounds_toArray, List.set_cons_succ, List.set_cons_zero]
                refine dw_val rfl rfl rfl ?_; apply Exists.intro; refine ⟨fun wv HC => ?_, ?_⟩
                · have FC := HC.facts; simp only [factsL, cellsF, Nat.reduceAdd, List.toList_toArray, and_true, true_and] at FC; go_simp <;> rfl
                simp only [Act.put, List.setIfInBounds_toArray, List.set_cons_succ, List.set_cons_zero]
                refine dw_val rfl rfl rfl ?_; apply Exists.intro; refine ⟨fun wv HC => ?_, ?_⟩
                ·  go_simp <;> rfl
                simp only [Act.put, List.setIfInBounds_toArray, List.set_cons_succ, List.set_cons_zero]
                refine dw_val rfl rfl rfl ?_; apply Exists.intro; refine ⟨fun wv HC => ?_, ?_⟩
                · have FC := HC.facts; simp only [factsL, cellsF, Nat.reduceAdd, List.toList_toArray, and_true, true_and] at FC; go_simp <;> rfl
                simp only [Act.put, List.setIfInBounds_toArray, List.set_cons_succ, List.set_cons_zero]
                refine dw_val rfl rfl rfl ?_; apply Exists.intro; refine ⟨fun wv HC => ?_, ?_⟩
                ·  go_simp <;> rfl
                simp only [Act.put, List.setIfInBounds_toArray, List.set_cons_succ, List.set_cons_zero]
                refine dw_callR 102 (VlsSlot (Mut M ([.cst wr.heap.size 71 #[.int .i64 r.id, .slice r.A r.n r.c], .ro (PrsIn (some ⟨b5, o5, none⟩) (0 + 1) [u]), .own 71 2 (.slice O q cap) q (rwCells outs), .ro (ValsIn outs), .ro (SlR 4 A2 n2 (colCells cs)), .blk go 43 #[.string nm, .slice A2 n2 c2, .int .i64 (nx + (ni : Int)), .slice O q cap], .blk (w.heap.size + 1 + 1) 43 #[.string ⟨#[]⟩, .slice none 0 0, .int .i64 0, .slice none 0 0], .cst (w.heap.size + 1) 65 #[.slice I ni ci, .slice D nd cd, .slice U nu cu], .cst w.heap.size 43 #[.string nm, .slice A n c, .int .i64 nx, .slice (some ⟨b, o, none⟩) m d], .ro (SlR 4 A n (colCells cs)), .ro (RwsIn (some ⟨b, o, none⟩) m l), .ro (SlsIn I ni ins), .ro (IsIn D nd dels), .ro (PrsIn U nu us)])) u.new) (f := 62) (args := #[.slice u.nA u.nn u.nc]) rfl rfl rfl rfl (fun wv => ?_) (fun wv HC hr8 hD => ?_) ?_
                · go_simp <;> rfl
                · refine (cloneVls_any _ wv HC.mutLt u.nA u.nn u.nc u.new ((HC.ro 1 rfl).imp fun w2 h2 => (h2.2 u (List.mem_cons_self ..)).2) (by have := huo.2; omega)).mono ?_
                  rintro e w5 ⟨A5, n5, c5, rfl, h50, h51, h52, h53, b5⟩
                  exact ⟨_, rfl, ⟨A5, n5, c5, rfl, h50, h51, h52, h53⟩, HC.call b5, RM.below b5⟩
                rintro x wx HCx ⟨A5, n5, c5, rfl, h50, h51, h52, h53⟩
                simp only [Act.put, List.setIfInBounds_toArray, List.set_cons_succ, List.set_cons_zero]
                clear HCx h53
                refine dw_valC 103 (RowSlot (Mut M ([.cst wr.heap.size 71 #[.int .i64 r.id, .slice r.A r.n r.c], .ro (PrsIn (some ⟨b5, o5, none⟩) (0 + 1) [u]), .own 71 2 (.slice O q cap) q (rwCells outs), .ro (ValsIn outs), .ro (SlR 4 A2 n2 (colCells cs)), .blk go 43 #[.string nm, .slice A2 n2 c2, .int .i64 (nx + (ni : Int)), .slice O q cap], .blk (w.heap.size + 1 + 1) 43 #[.string ⟨#[]⟩, .slice none 0 0, .int .i64 0, .slice none 0 0], .cst (w.heap.size + 1) 65 #[.slice I ni ci, .slice D nd cd, .slice U nu cu], .cst w.heap.size 43 #[.string nm, .slice A n c, .int .i64 nx, .slice (some ⟨b, o, none⟩) m d], .ro (SlR 4 A n (colCells cs)), .ro (RwsIn (some ⟨b, o, none⟩) m l), .ro (SlsIn I ni ins), .ro (IsIn D nd dels), .ro (PrsIn U nu us)])) r.id u.new) rfl rfl rfl rfl (.agg #[.int .i64 r.id, .slice A5 n5 c5]) (fun wv HC => ?_) (fun wv HC hD => ?_) ?_
                · go_simp <;> rfl
                · have hsl : VlsSlot (Mut M ([.cst wr.heap.size 71 #[.int .i64 r.id, .slice r.A r.n r.c], .ro (PrsIn (some ⟨b5, o5, none⟩) (0 + 1) [u]), .own 71 2 (.slice O q cap) q (rwCells outs), .ro (ValsIn outs), .ro (SlR 4 A2 n2 (colCells cs)), .blk go 43 #[.string nm, .slice A2 n2 c2, .int .i64 (nx + (ni : Int)), .slice O q cap], .blk (w.heap.size + 1 + 1) 43 #[.string ⟨#[]⟩, .slice none 0 0, .int .i64 0, .slice none 0 0], .cst (w.heap.size + 1) 65 #[.slice I ni ci, .slice D nd cd, .slice U nu cu], .cst w.heap.size 43 #[.string nm, .slice A n c, .int .i64 nx, .slice (some ⟨b, o, none⟩) m d], .ro (SlR 4 A n (colCells cs)), .ro (RwsIn (some ⟨b, o, none⟩) m l), .ro (SlsIn I ni ins), .ro (IsIn D nd dels), .ro (PrsIn U nu us)])) u.new (.slice A5 n5 c5) wv := deps_at hD 5 rfl (by kernel_rfl) rfl rfl
                  obtain ⟨A6, n6, c6, e6, h1, h2, h3, h4⟩ := hsl
                  exact ⟨A6, n6, c6, by rw [e6], h1, h2, h3, h4⟩
                simp only [Act.put, List.setIfInBounds_toArray, List.set_cons_succ, List.set_cons_zero]
                refine dw_new #[.int .i64 r.id, .slice A5 n5 c5] 71 104 (RBoxSlot (Mut M ([.cst wr.heap.size 71 #[.int .i64 r.id, .slice r.A r.n r.c], .ro (PrsIn (some ⟨b5, o5, none⟩) (0 + 1) [u]), .own 71 2 (.slice O q cap) q (rwCells outs), .ro (ValsIn outs), .ro (SlR 4 A2 n2 (colCells cs)), .blk go 43 #[.string nm, .slice A2 n2 c2, .int .i64 (nx + (ni : Int)), .slice O q cap], .blk (w.heap.size + 1 + 1) 43 #[.string ⟨#[]⟩, .slice none 0 0, .int .i64 0, .slice none 0 0], .cst (w.heap.size + 1) 65 #[.slice I ni ci, .slice D nd cd, .slice U nu cu], .cst w.heap.size 43 #[.string nm, .slice A n c, .int .i64 nx, .slice (some ⟨b, o, none⟩) m d], .ro (SlR 4 A n (colCells cs)), .ro (RwsIn (some ⟨b, o, none⟩) m l), .ro (SlsIn I ni ins), .ro (IsIn D nd dels), .ro (PrsIn U nu us)])) r.id u.new) (fun g => .slice (some ⟨g, 0, none⟩) 1 1) rfl rfl rfl rfl (fun wv => ?_) (fun wv HC _hrm hD hro => ?_) ?_
                · go_simp <;> rfl
                · have hsl : RowSlot (Mut M ([.cst wr.heap.size 71 #[.int .i64 r.id, .slice r.A r.n r.c], .ro (PrsIn (some ⟨b5, o5, none⟩) (0 + 1) [u]), .own 71 2 (.slice O q cap) q (rwCells outs), .ro (ValsIn outs), .ro (SlR 4 A2 n2 (colCells cs)), .blk go 43 #[.string nm, .slice A2 n2 c2, .int .i64 (nx + (ni : Int)), .slice O q cap], .blk (w.heap.size + 1 + 1) 43 #[.string ⟨#[]⟩, .slice none 0 0, .int .i64 0, .slice none 0 0], .cst (w.heap.size + 1) 65 #[.slice I ni ci, .slice D nd cd, .slice U nu cu], .cst w.heap.size 43 #[.string nm, .slice A n c, .int .i64 nx, .slice (some ⟨b, o, none⟩) m d], .ro (SlR 4 A n (colCells cs)), .ro (RwsIn (some ⟨b, o, none⟩) m l), .ro (SlsIn I ni ins), .ro (IsIn D nd dels), .ro (PrsIn U nu us)])) r.id u.new (.agg #[.int .i64 r.id, .slice A5 n5 c5]) wv := deps_at hD 6 rfl (by kernel_rfl) rfl rfl
                  obtain ⟨A6, n6, c6, e6, h1, h2, h3, h4⟩ := hsl
                  obtain ⟨rfl, rfl, rfl⟩ : A5 = A6 ∧ n5 = n6 ∧ c5 = c6 := by
                    injection e6 with e6
                    simp at e6
                    exact e6
                  exact ⟨_, A5, n5, c5, rfl, h1, h2, h3, h4.step (by simp) (fun b hb _ => Below.heap_alloc wv _ b hb) (fun _ _ h => h), ro_block (hro _ HC.mutLt) rfl⟩
                rintro g2 wg HCg hsl
                simp only [Act.put, List.setIfInBounds_toArray, List.set_cons_succ, List.set_cons_zero]
                clear hsl HCg
                refine rel_nil ?_
                rintro wx2 HX
                rintro _hrm HGW
                have hb2 : RBoxSlot (Mut M ([.cst wr.heap.size 71 #[.int .i64 r.id, .slice r.A r.n r.c], .ro (PrsIn (some ⟨b5, o5, none⟩) (0 + 1) [u]), .own 71 2 (.slice O q cap) q (rwCells outs), .ro (ValsIn outs), .ro (SlR 4 A2 n2 (colCells cs)), .blk go 43 #[.string nm, .slice A2 n2 c2, .int .i64 (nx + (ni : Int)), .slice O q cap], .blk (w.heap.size + 1 + 1) 43 #[.string ⟨#[]⟩, .slice none 0 0, .int .i64 0, .slice none 0 0], .cst (w.heap.size + 1) 65 #[.slice I ni ci, .slice D nd cd, .slice U nu cu], .cst w.heap.size 43 #[.string nm, .slice A n c, .int .i64 nx, .slice (some ⟨b, o, none⟩) m d], .ro (SlR 4 A n (colCells cs)), .ro (RwsIn (some ⟨b, o, none⟩) m l), .ro (SlsIn I ni ins), .ro (IsIn D nd dels), .ro (PrsIn U nu us)])) r.id u.new (.slice (some ⟨g2, 0, none⟩) 1 1) wx2 := (GW_on (d := 104) rfl).1 (HGW 7 _ rfl (by omega))
                clear HGW
                obtain ⟨g3, A6, n6, c6, e6, k0, k1, k2, k3, k4⟩ := hb2
                obtain rfl : g2 = g3 := by injection e6 with e6; injection e6 with e6; injection e6
                clear e6
                have k5 := hid k4.now
                clear k4
                have HRS := hid (show rwCells outs ++ [.int .i64 r.id, .slice A6 n6 c6] = rwCells (outs ++ [⟨r.id, A6, n6, c6, u.new⟩]) from rwCells_snoc1 _ _ _ _ _ _)
                have KA := HX.add k3
                clear HX
                go_wp2_with (at_builtin; go_must (refine wpList_appAllH KA 3 rfl Tryd.elRw k5.out rfl (.tmp 98) (.tmp 104) rfl rfl rfl (by intro z hz; simp at hz; rcases hz with rfl | rfl <;> rfl) (by omega) (by omega) ?_); intro C' cap' w6 hc6 hm6 KB; rw [HRS.out] at KB; simp only [List.set_cons_zero, List.set_cons_succ] at KB; (have F3 := KB.facts); simp only [World.size_alloc, World.size_drew, factsL, cellsF, Nat.reduceAdd, List.toList_toArray, List.set_cons_zero, List.set_cons_succ, List.setIfInBounds_toArray, and_true, true_and] at F3)
                have KC := KB.store 6 rfl 3 (.slice C' (q + 1) cap')
                have KD := KC.swapRo 4 rfl (vals_snoc (r := ⟨r.id, A6, n6, c6, u.new⟩) (KC.ro 4 rfl) (KC.ro 0 rfl))
                have KE := KD.swapRo 2 rfl (S' := PrsIn (some ⟨b5, o5, none⟩) 0 []) (fun w2 _ _ => PrsIn.zero (some ⟨b5, o5, none⟩))
                simp only [cellsF, List.set_cons_zero, List.set_cons_succ, List.setIfInBounds_toArray] at KE
                have HGN := hid (show goR dels (l.map Rw.row) (us.map Pr.upd) = List.map Rw.row (outs ++ [⟨r.id, A6, n6, c6, u.new⟩]) ++ goR dels ((l.map Rw.row).drop (j + 1)) (([] : List Pr).map Pr.upd) by
                  rw [List.map_append, List.append_assoc]
                  exact HG.out.trans (congrArg (outs.map Rw.row ++ ·) HN.out))
                go_roundw
                case rel => exact ⟨j + 1, q + 1, cap', 0, 0, _, _, _, [], by omega, by go_num, rfl, by omega, by omega, by omega, by intro x hx; rcases List.mem_append.1 hx with hx | hx; (exact hoo x hx); (simp at hx; subst hx; exact ⟨hrok.id, k1, k2, huo.1.new⟩), (fun u hu => nomatch hu), HGN, (KE.drop (List.sublist_cons_self _ _)).drop (List.sublist_cons_self _ _)⟩
                case measure => simp [intOf]; omega
              · have hck2 : 1 < ck := by omega
                go_wp2_with fail
                go_quiet (fail)
                have K3 := K2.drewN nq
                clear K2 F2
                generalize World.drewN _ nq = w9 at *
                have F2 := K3.facts
                simp only [World.size_alloc, World.size_drew, factsL, cellsF, Nat.reduceAdd, List.toList_toArray, List.set_cons_zero, List.set_cons_succ, List.setIfInBounds_toArray, and_true, true_and] at F2
                go_wp2_with fail
                refine wp_region_any (by kernel_rfl) ?_
                refine wpAny_hold 8 133 ([.cst wr.heap.size 71 #[.int .i64 r.id, .slice r.A r.n r.c], .ro (PrsIn (some ⟨b5, o5, none⟩) (k' + 1) (u :: ut)), .own 71 2 (.slice O q cap) q (rwCells outs), .ro (ValsIn outs), .ro (SlR 4 A2 n2 (colCells cs)), .blk go 43 #[.string nm, .slice A2 n2 c2, .int .i64 (nx + (ni : Int)), .slice O q cap], .blk (w.heap.size + 1 + 1) 43 #[.string ⟨#[]⟩, .slice none 0 0, .int .i64 0, .slice none 0 0], .cst (w.heap.size + 1) 65 #[.slice I ni ci, .slice D nd cd, .slice U nu cu], .cst w.heap.size 43 #[.string nm, .slice A n c, .int .i64 nx, .slice (some ⟨b, o, none⟩) m d], .ro (SlR 4 A n (colCells cs)), .ro (RwsIn (some ⟨b, o, none⟩) m l), .ro (SlsIn I ni ins), .ro (IsIn D nd dels), .ro (PrsIn U nu us)]) (spL [(102, VlsSlot (Mut M ([.cst wr.heap.size 71 #[.int .i64 r.id, .slice r.A r.n r.c], .ro (PrsIn (some ⟨b5, o5, none⟩) (k' + 1) (u :: ut)), .own 71 2 (.slice O q cap) q (rwCells outs), .ro (ValsIn outs), .ro (SlR 4 A2 n2 (colCells cs)), .blk go 43 #[.string nm, .slice A2 n2 c2, .int .i64 (nx + (ni : Int)), .slice O q cap], .blk (w.heap.size + 1 + 1) 43 #[.string ⟨#[]⟩, .slice none 0 0, .int .i64 0, .slice none 0 0], .cst (w.heap.size + 1) 65 #[.slice I ni ci, .slice D nd cd, .slice U nu cu], .cst w.heap.size 43 #[.string nm, .slice A n c, .int .i64 nx, .slice (some ⟨b, o, none⟩) m d], .ro (SlR 4 A n (colCells cs)), .ro (RwsIn (some ⟨b, o, none⟩) m l), .ro (SlsIn I ni ins), .ro (IsIn D nd dels), .ro (PrsIn U nu us)])) u.new), (103, RowSlot (Mut M ([.cst wr.heap.size 71 #[.int .i64 r.id, .slice r.A r.n r.c], .ro (PrsIn (some ⟨b5, o5, none⟩) (k' + 1) (u :: ut)), .own 71 2 (.slice O q cap) q (rwCells outs), .ro (ValsIn outs), .ro (SlR 4 A2 n2 (colCells cs)), .blk go 43 #[.string nm, .slice A2 n2 c2, .int .i64 (nx + (ni : Int)), .slice O q cap], .blk (w.heap.size + 1 + 1) 43 #[.string ⟨#[]⟩, .slice none 0 0, .int .i64 0, .slice none 0 0], .cst (w.heap.size + 1) 65 #[.slice I ni ci, .slice D nd cd, .slice U nu cu], .cst w.heap.size 43 #[.string nm, .slice A n c, .int .i64 nx, .slice (some ⟨b, o, none⟩) m d], .ro (SlR 4 A n (colCells cs)), .ro (RwsIn (some ⟨b, o, none⟩) m l), .ro (SlsIn I ni ins), .ro (IsIn D nd dels), .ro (PrsIn U nu us)])) r.id u.new), (104, RBoxSlot (Mut M ([.cst wr.heap.size 71 #[.int .i64 r.id, .slice r.A r.n r.c], .ro (PrsIn (some ⟨b5, o5, none⟩) (k' + 1) (u :: ut)), .own 71 2 (.slice O q cap) q (rwCells outs), .ro (ValsIn outs), .ro (SlR 4 A2 n2 (colCells cs)), .blk go 43 #[.string nm, .slice A2 n2 c2, .int .i64 (nx + (ni : Int)), .slice O q cap], .blk (w.heap.size + 1 + 1) 43 #[.string ⟨#[]⟩, .slice none 0 0, .int .i64 0, .slice none 0 0], .cst (w.heap.size + 1) 65 #[.slice I ni ci, .slice D nd cd, .slice U nu cu], .cst w.heap.size 43 #[.string nm, .slice A n c, .int .i64 nx, .slice (some ⟨b, o, none⟩) m d], .ro (SlR 4 A n (colCells cs)), .ro (RwsIn (some ⟨b, o, none⟩) m l), .ro (SlsIn I ni ins), .ro (IsIn D nd dels), .ro (PrsIn U nu us)])) r.id u.new)]) (by kernel_rfl) (by kernel_rfl) (by kernel_rfl) rfl ?_ (K3.drew) ?_
                · exact stays_cons vlsSlot_mono (stays_cons rowSlot_mono (stays_cons rboxSlot_mono (stays_nil _)))
                simp only [List.take_succ_cons, List.take_zero, List.drop_succ_cons, List.drop_zero, Act.put, List.getElem_toArray, List.getElem_cons_zero, List.getElem_cons_succ, List.setIfInBounds_toArray, List.set_cons_succ, List.set_cons_zero]
                refine dw_val rfl rfl rfl ?_; apply Exists.intro; refine ⟨fun wv HC => ?_, ?_⟩
                ·  go_simp <;> rfl
                simp only [Act.put, List.setIfInBounds_toArray, List.set_cons_succ, List.set_cons_zero]
                refine dw_val rfl rfl rfl ?_; apply Exists.intro; refine ⟨fun wv HC => ?_, ?_⟩
                · have FC := HC.facts; simp only [factsL, cellsF, Nat.reduceAdd, List.toList_toArray, and_true, true_and] at FC; go_simp <;> rfl
                simp only [Act.put, List.setIfInBounds_toArray, List.set_cons_succ, List.set_cons_zero]
                refine dw_val rfl rfl rfl ?_; apply Exists.intro; refine ⟨fun wv HC => ?_, ?_⟩
                ·  go_simp <;> rfl
                simp only [Act.put, List.setIfInBounds_toArray, List.set_cons_succ, List.set_cons_zero]
                refine dw_val rfl rfl rfl ?_; apply Exists.intro; refine ⟨fun wv HC => ?_, ?_⟩
                · have FC := HC.facts; simp only [factsL, cellsF, Nat.reduceAdd, List.toList_toArray, and_true, true_and] at FC; go_simp <;> rfl
                simp only [Act.put, List.setIfInBounds_toArray, List.set_cons_succ, List.set_cons_zero]
                refine dw_val rfl rfl rfl ?_; apply Exists.intro; refine ⟨fun wv HC => ?_, ?_⟩
                ·  go_simp <;> rfl
                simp only [Act.put, List.setIfInBounds_toArray, List.set_cons_succ, List.set_cons_zero]
                refine dw_callR 102 (VlsSlot (Mut M ([.cst wr.heap.size 71 #[.int .i64 r.id, .slice r.A r.n r.c], .ro (PrsIn (some ⟨b5, o5, none⟩) (k' + 1) (u :: ut)), .own 71 2 (.slice O q cap) q (rwCells outs), .ro (ValsIn outs), .ro (SlR 4 A2 n2 (colCells cs)), .blk go 43 #[.string nm, .slice A2 n2 c2, .int .i64 (nx + (ni : Int)), .slice O q cap], .blk (w.heap.size + 1 + 1) 43 #[.string ⟨#[]⟩, .slice none 0 0, .int .i64 0, .slice none 0 0], .cst (w.heap.size + 1) 65 #[.slice I ni ci, .slice D nd cd, .slice U nu cu], .cst w.heap.size 43 #[.string nm, .slice A n c, .int .i64 nx, .slice (some ⟨b, o, none⟩) m d], .ro (SlR 4 A n (colCells cs)), .ro (RwsIn (some ⟨b, o, none⟩) m l), .ro (SlsIn I ni ins), .ro (IsIn D nd dels), .ro (PrsIn U nu us)])) u.new) (f := 62) (args := #[.slice u.nA u.nn u.nc]) rfl rfl rfl rfl (fun wv => ?_) (fun wv HC hr8 hD => ?_) ?_
                · go_simp <;> rfl
                · refine (cloneVls_any _ wv HC.mutLt u.nA u.nn u.nc u.new ((HC.ro 1 rfl).imp fun w2 h2 => (h2.2 u (List.mem_cons_self ..)).2) (by have := huo.2; omega)).mono ?_
                  rintro e w5 ⟨A5, n5, c5, rfl, h50, h51, h52, h53, b5⟩
                  exact ⟨_, rfl, ⟨A5, n5, c5, rfl, h50, h51, h52, h53⟩, HC.call b5, RM.below b5⟩
                rintro x wx HCx ⟨A5, n5, c5, rfl, h50, h51, h52, h53⟩
                simp only [Act.put, List.setIfInBounds_toArray, List.set_cons_succ, List.set_cons_zero]
                clear HCx h53
                refine dw_valC 103 (RowSlot (Mut M ([.cst wr.heap.size 71 #[.int .i64 r.id, .slice r.A r.n r.c], .ro (PrsIn (some ⟨b5, o5, none⟩) (k' + 1) (u :: ut)), .own 71 2 (.slice O q cap) q (rwCells outs), .ro (ValsIn outs), .ro (SlR 4 A2 n2 (colCells cs)), .blk go 43 #[.string nm, .slice A2 n2 c2, .int .i64 (nx + (ni : Int)), .slice O q cap], .blk (w.heap.size + 1 + 1) 43 #[.string ⟨#[]⟩, .slice none 0 0, .int .i64 0, .slice none 0 0], .cst (w.heap.size + 1) 65 #[.slice I ni ci, .slice D nd cd, .slice U nu cu], .cst w.heap.size 43 #[.string nm, .slice A n c, .int .i64 nx, .slice (some ⟨b, o, none⟩) m d], .ro (SlR 4 A n (colCells cs)), .ro (RwsIn (some ⟨b, o, none⟩) m l), .ro (SlsIn I ni ins), .ro (IsIn D nd dels), .ro (PrsIn U nu us)])) r.id u.new) rfl rfl rfl rfl (.agg #[.int .i64 r.id, .slice A5 n5 c5]) (fun wv HC => ?_) (fun wv HC hD => ?_) ?_
                · go_simp <;> rfl
                · have hsl : VlsSlot (Mut M ([.cst wr.heap.size 71 #[.int .i64 r.id, .slice r.A r.n r.c], .ro (PrsIn (some ⟨b5, o5, none⟩) (k' + 1) (u :: ut)), .own 71 2 (.slice O q cap) q (rwCells outs), .ro (ValsIn outs), .ro (SlR 4 A2 n2 (colCells cs)), .blk go 43 #[.string nm, .slice A2 n2 c2, .int .i64 (nx + (ni : Int)), .slice O q cap], .blk (w.heap.size + 1 + 1) 43 #[.string ⟨#[]⟩, .slice none 0 0, .int .i64 0, .slice none 0 0], .cst (w.heap.size + 1) 65 #[.slice I ni ci, .slice D nd cd, .slice U nu cu], .cst w.heap.size 43 #[.string nm, .slice A n c, .int .i64 nx, .slice (some ⟨b, o, none⟩) m d], .ro (SlR 4 A n (colCells cs)), .ro (RwsIn (some ⟨b, o, none⟩) m l), .ro (SlsIn I ni ins), .ro (IsIn D nd dels), .ro (PrsIn U nu us)])) u.new (.slice A5 n5 c5) wv := deps_at hD 5 rfl (by kernel_rfl) rfl rfl
                  obtain ⟨A6, n6, c6, e6, h1, h2, h3, h4⟩ := hsl
                  exact ⟨A6, n6, c6, by rw [e6], h1, h2, h3, h4⟩
                simp only [Act.put, List.setIfInBounds_toArray, List.set_cons_succ, List.set_cons_zero]
                refine dw_new #[.int .i64 r.id, .slice A5 n5 c5] 71 104 (RBoxSlot (Mut M ([.cst wr.heap.size 71 #[.int .i64 r.id, .slice r.A r.n r.c], .ro (PrsIn (some ⟨b5, o5, none⟩) (k' + 1) (u :: ut)), .own 71 2 (.slice O q cap) q (rwCells outs), .ro (ValsIn outs), .ro (SlR 4 A2 n2 (colCells cs)), .blk go 43 #[.string nm, .slice A2 n2 c2, .int .i64 (nx + (ni : Int)), .slice O q cap], .blk (w.heap.size + 1 + 1) 43 #[.string ⟨#[]⟩, .slice none 0 0, .int .i64 0, .slice none 0 0], .cst (w.heap.size + 1) 65 #[.slice I ni ci, .slice D nd cd, .slice U nu cu], .cst w.heap.size 43 #[.string nm, .slice A n c, .int .i64 nx, .slice (some ⟨b, o, none⟩) m d], .ro (SlR 4 A n (colCells cs)), .ro (RwsIn (some ⟨b, o, none⟩) m l), .ro (SlsIn I ni ins), .ro (IsIn D nd dels), .ro (PrsIn U nu us)])) r.id u.new) (fun g => .slice (some ⟨g, 0, none⟩) 1 1) rfl rfl rfl rfl (fun wv => ?_) (fun wv HC _hrm hD hro => ?_) ?_
                · go_simp <;> rfl
                · have hsl : RowSlot (Mut M ([.cst wr.heap.size 71 #[.int .i64 r.id, .slice r.A r.n r.c], .ro (PrsIn (some ⟨b5, o5, none⟩) (k' + 1) (u :: ut)), .own 71 2 (.slice O q cap) q (rwCells outs), .ro (ValsIn outs), .ro (SlR 4 A2 n2 (colCells cs)), .blk go 43 #[.string nm, .slice A2 n2 c2, .int .i64 (nx + (ni : Int)), .slice O q cap], .blk (w.heap.size + 1 + 1) 43 #[.string ⟨#[]⟩, .slice none 0 0, .int .i64 0, .slice none 0 0], .cst (w.heap.size + 1) 65 #[.slice I ni ci, .slice D nd cd, .slice U nu cu], .cst w.heap.size 43 #[.string nm, .slice A n c, .int .i64 nx, .slice (some ⟨b, o, none⟩) m d], .ro (SlR 4 A n (colCells cs)), .ro (RwsIn (some ⟨b, o, none⟩) m l), .ro (SlsIn I ni ins), .ro (IsIn D nd dels), .ro (PrsIn U nu us)])) r.id u.new (.agg #[.int .i64 r.id, .slice A5 n5 c5]) wv := deps_at hD 6 rfl (by kernel_rfl) rfl rfl
                  obtain ⟨A6, n6, c6, e6, h1, h2, h3, h4⟩ := hsl
                  obtain ⟨rfl, rfl, rfl⟩ : A5 = A6 ∧ n5 = n6 ∧ c5 = c6 := by
                    injection e6 with e6
                    simp at e6
                    exact e6
                  exact ⟨_, A5, n5, c5, rfl, h1, h2, h3, h4.step (by simp) (fun b hb _ => Below.heap_alloc wv _ b hb) (fun _ _ h => h), ro_block (hro _ HC.mutLt) rfl⟩
                rintro g2 wg HCg hsl
                simp only [Act.put, List.setIfInBounds_toArray, List.set_cons_succ, List.set_cons_zero]
                clear hsl HCg
                refine rel_nil ?_
                rintro wx2 HX
                rintro _hrm HGW
                have hb2 : RBoxSlot (Mut M ([.cst wr.heap.size 71 #[.int .i64 r.id, .slice r.A r.n r.c], .ro (PrsIn (some ⟨b5, o5, none⟩) (k' + 1) (u :: ut)), .own 71 2 (.slice O q cap) q (rwCells outs), .ro (ValsIn outs), .ro (SlR 4 A2 n2 (colCells cs)), .blk go 43 #[.string nm, .slice A2 n2 c2, .int .i64 (nx + (ni : Int)), .slice O q cap], .blk (w.heap.size + 1 + 1) 43 #[.string ⟨#[]⟩, .slice none 0 0, .int .i64 0, .slice none 0 0], .cst (w.heap.size + 1) 65 #[.slice I ni ci, .slice D nd cd, .slice U nu cu], .cst w.heap.size 43 #[.string nm, .slice A n c, .int .i64 nx, .slice (some ⟨b, o, none⟩) m d], .ro (SlR 4 A n (colCells cs)), .ro (RwsIn (some ⟨b, o, none⟩) m l), .ro (SlsIn I ni ins), .ro (IsIn D nd dels), .ro (PrsIn U nu us)])) r.id u.new (.slice (some ⟨g2, 0, none⟩) 1 1) wx2 := (GW_on (d := 104) rfl).1 (HGW 7 _ rfl (by omega))
                clear HGW
                obtain ⟨g3, A6, n6, c6, e6, k0, k1, k2, k3, k4⟩ := hb2
                obtain rfl : g2 = g3 := by injection e6 with e6; injection e6 with e6; injection e6
                clear e6
                have k5 := hid k4.now
                clear k4
                have HRS := hid (show rwCells outs ++ [.int .i64 r.id, .slice A6 n6 c6] = rwCells (outs ++ [⟨r.id, A6, n6, c6, u.new⟩]) from rwCells_snoc1 _ _ _ _ _ _)
                have KA := HX.add k3
                clear HX
                go_wp2_with (at_builtin; go_must (refine wpList_appAllH KA 3 rfl Tryd.elRw k5.out rfl (.tmp 98) (.tmp 104) rfl rfl rfl (by intro z hz; simp at hz; rcases hz with rfl | rfl <;> rfl) (by omega) (by omega) ?_); intro C' cap' w6 hc6 hm6 KB; rw [HRS.out] at KB; simp only [List.set_cons_zero, List.set_cons_succ] at KB; (have F3 := KB.facts); simp only [World.size_alloc, World.size_drew, factsL, cellsF, Nat.reduceAdd, List.toList_toArray, List.set_cons_zero, List.set_cons_succ, List.setIfInBounds_toArray, and_true, true_and] at F3)
                have KC := KB.store 6 rfl 3 (.slice C' (q + 1) cap')
                have KD := KC.swapRo 4 rfl (vals_snoc (r := ⟨r.id, A6, n6, c6, u.new⟩) (KC.ro 4 rfl) (KC.ro 0 rfl))
                have KE := KD.swapRo 2 rfl ((KD.ro 2 rfl).imp fun w2 h2 => PrsIn.tail h2)
                simp only [cellsF, List.set_cons_zero, List.set_cons_succ, List.setIfInBounds_toArray] at KE
                have HGN := hid (show goR dels (l.map Rw.row) (us.map Pr.upd) = List.map Rw.row (outs ++ [⟨r.id, A6, n6, c6, u.new⟩]) ++ goR dels ((l.map Rw.row).drop (j + 1)) (ut.map Pr.upd) by
                  rw [List.map_append, List.append_assoc]
                  exact HG.out.trans (congrArg (outs.map Rw.row ++ ·) HN.out))
                go_roundw
                case rel => exact ⟨j + 1, q + 1, cap', k', ck - 1, _, _, _, ut, by omega, by go_num, rfl, by omega, by omega, by omega, by intro x hx; rcases List.mem_append.1 hx with hx | hx; (exact hoo x hx); (simp at hx; subst hx; exact ⟨hrok.id, k1, k2, huo.1.new⟩), (fun x hx => hov x (List.mem_cons_of_mem _ hx)), HGN, (KE.drop (List.sublist_cons_self _ _)).drop (List.sublist_cons_self _ _)⟩
                case measure => simp [intOf]; omega
            · have hbe : ((u.id : Int) == r.id) = false := by simp [hid_]
              have HN := hid (goR_keep (us := (u :: ut).map Pr.upd) HX.out HCT.out (fun u1 hu => by simp at hu; subst hu; exact hid_))
              go_wp2_with fail
              go_quiet (fail)
              have K2 := K1.drewN nq
              clear K1 F1
              generalize World.drewN _ nq = w8 at *
              have F2 := K2.facts
              simp only [World.size_alloc, World.size_drew, factsL, cellsF, Nat.reduceAdd, List.toList_toArray, List.set_cons_zero, List.set_cons_succ, List.setIfInBounds_toArray, and_true, true_and] at F2
              go_wp2_with fail
              refine wp_region_any (by kernel_rfl) ?_
              refine wpAny_hold 8 133 ([.cst wr.heap.size 71 #[.int .i64 r.id, .slice r.A r.n r.c], .ro (PrsIn (some ⟨b5, o5, none⟩) (k' + 1) (u :: ut)), .own 71 2 (.slice O q cap) q (rwCells outs), .ro (ValsIn outs), .ro (SlR 4 A2 n2 (colCells cs)), .blk go 43 #[.string nm, .slice A2 n2 c2, .int .i64 (nx + (ni : Int)), .slice O q cap], .blk (w.heap.size + 1 + 1) 43 #[.string ⟨#[]⟩, .slice none 0 0, .int .i64 0, .slice none 0 0], .cst (w.heap.size + 1) 65 #[.slice I ni ci, .slice D nd cd, .slice U nu cu], .cst w.heap.size 43 #[.string nm, .slice A n c, .int .i64 nx, .slice (some ⟨b, o, none⟩) m d], .ro (SlR 4 A n (colCells cs)), .ro (RwsIn (some ⟨b, o, none⟩) m l), .ro (SlsIn I ni ins), .ro (IsIn D nd dels), .ro (PrsIn U nu us)]) (spL [(102, VlsSlot (Mut M ([.cst wr.heap.size 71 #[.int .i64 r.id, .slice r.A r.n r.c], .ro (PrsIn (some ⟨b5, o5, none⟩) (k' + 1) (u :: ut)), .own 71 2 (.slice O q cap) q (rwCells outs), .ro (ValsIn outs), .ro (SlR 4 A2 n2 (colCells cs)), .blk go 43 #[.string nm, .slice A2 n2 c2, .int .i64 (nx + (ni : Int)), .slice O q cap], .blk (w.heap.size + 1 + 1) 43 #[.string ⟨#[]⟩, .slice none 0 0, .int .i64 0, .slice none 0 0], .cst (w.heap.size + 1) 65 #[.slice I ni ci, .slice D nd cd, .slice U nu cu], .cst w.heap.size 43 #[.string nm, .slice A n c, .int .i64 nx, .slice (some ⟨b, o, none⟩) m d], .ro (SlR 4 A n (colCells cs)), .ro (RwsIn (some ⟨b, o, none⟩) m l), .ro (SlsIn I ni ins), .ro (IsIn D nd dels), .ro (PrsIn U nu us)])) r.vs), (103, RowSlot (Mut M ([.cst wr.heap.size 71 #[.int .i64 r.id, .slice r.A r.n r.c], .ro (PrsIn (some ⟨b5, o5, none⟩) (k' + 1) (u :: ut)), .own 71 2 (.slice O q cap) q (rwCells outs), .ro (ValsIn outs), .ro (SlR 4 A2 n2 (colCells cs)), .blk go 43 #[.string nm, .slice A2 n2 c2, .int .i64 (nx + (ni : Int)), .slice O q cap], .blk (w.heap.size + 1 + 1) 43 #[.string ⟨#[]⟩, .slice none 0 0, .int .i64 0, .slice none 0 0], .cst (w.heap.size + 1) 65 #[.slice I ni ci, .slice D nd cd, .slice U nu cu], .cst w.heap.size 43 #[.string nm, .slice A n c, .int .i64 nx, .slice (some ⟨b, o, none⟩) m d], .ro (SlR 4 A n (colCells cs)), .ro (RwsIn (some ⟨b, o, none⟩) m l), .ro (SlsIn I ni ins), .ro (IsIn D nd dels), .ro (PrsIn U nu us)])) r.id r.vs), (104, RBoxSlot (Mut M ([.cst wr.heap.size 71 #[.int .i64 r.id, .slice r.A r.n r.c], .ro (PrsIn (some ⟨b5, o5, none⟩) (k' + 1) (u :: ut)), .own 71 2 (.slice O q cap) q (rwCells outs), .ro (ValsIn outs), .ro (SlR 4 A2 n2 (colCells cs)), .blk go 43 #[.string nm, .slice A2 n2 c2, .int .i64 (nx + (ni : Int)), .slice O q cap], .blk (w.heap.size + 1 + 1) 43 #[.string ⟨#[]⟩, .slice none 0 0, .int .i64 0, .slice none 0 0], .cst (w.heap.size + 1) 65 #[.slice I ni ci, .slice D nd cd, .slice U nu cu], .cst w.heap.size 43 #[.string nm, .slice A n c, .int .i64 nx, .slice (some ⟨b, o, none⟩) m d], .ro (SlR 4 A n (colCells cs)), .ro (RwsIn (some ⟨b, o, none⟩) m l), .ro (SlsIn I ni ins), .ro (IsIn D nd dels), .ro (PrsIn U nu us)])) r.id r.vs)]) (by kernel_rfl) (by kernel_rfl) (by kernel_rfl) rfl ?_ (K2.drew) ?_
              · exact stays_cons vlsSlot_mono (stays_cons rowSlot_mono (stays_cons rboxSlot_mono (stays_nil _)))
              simp only [List.take_succ_cons, List.take_zero, List.drop_succ_cons, List.drop_zero, Act.put, List.getElem_toArray, List.getElem_cons_zero, List.getElem_cons_succ, List.setIfInBounds_toArray, List.set_cons_succ, List.set_cons_zero]
              refine dw_val rfl rfl rfl ?_; apply Exists.intro; refine ⟨fun wv HC => ?_, ?_⟩
              ·  go_simp <;> rfl
              simp only [Act.put, List.setIfInBounds_toArray, List.set_cons_succ, List.set_cons_zero]
              refine dw_val rfl rfl rfl ?_; apply Exists.intro; refine ⟨fun wv HC => ?_, ?_⟩
              · have FC := HC.facts; simp only [factsL, cellsF, Nat.reduceAdd, List.toList_toArray, and_true, true_and] at FC; go_simp <;> rfl
              simp only [Act.put, List.setIfInBounds_toArray, List.set_cons_succ, List.set_cons_zero]
              refine dw_val rfl rfl rfl ?_; apply Exists.intro; refine ⟨fun wv HC => ?_, ?_⟩
              ·  go_simp <;> rfl
              simp only [Act.put, List.setIfInBounds_toArray, List.set_cons_succ, List.set_cons_zero]
              refine dw_val rfl rfl rfl ?_; apply Exists.intro; refine ⟨fun wv HC => ?_, ?_⟩
              · have FC := HC.facts; simp only [factsL, cellsF, Nat.reduceAdd, List.toList_toArray, and_true, true_and] at FC; go_simp <;> rfl
              simp only [Act.put, List.setIfInBounds_toArray, List.set_cons_succ, List.set_cons_zero]
              refine dw_val rfl rfl rfl ?_; apply Exists.intro; refine ⟨fun wv HC => ?_, ?_⟩
              ·  go_simp <;> rfl
              simp only [Act.put, List.setIfInBounds_toArray, List.set_cons_succ, List.set_cons_zero]
              refine dw_callR 102 (VlsSlot (Mut M ([.cst wr.heap.size 71 #[.int .i64 r.id, .slice r.A r.n r.c], .ro (PrsIn (some ⟨b5, o5, none⟩) (k' + 1) (u :: ut)), .own 71 2 (.slice O q cap) q (rwCells outs), .ro (ValsIn outs), .ro (SlR 4 A2 n2 (colCells cs)), .blk go 43 #[.string nm, .slice A2 n2 c2, .int .i64 (nx + (ni : Int)), .slice O q cap], .blk (w.heap.size + 1 + 1) 43 #[.string ⟨#[]⟩, .slice none 0 0, .int .i64 0, .slice none 0 0], .cst (w.heap.size + 1) 65 #[.slice I ni ci, .slice D nd cd, .slice U nu cu], .cst w.heap.size 43 #[.string nm, .slice A n c, .int .i64 nx, .slice (some ⟨b, o, none⟩) m d], .ro (SlR 4 A n (colCells cs)), .ro (RwsIn (some ⟨b, o, none⟩) m l), .ro (SlsIn I ni ins), .ro (IsIn D nd dels), .ro (PrsIn U nu us)])) r.vs) (f := 62) (args := #[.slice r.A r.n r.c]) rfl rfl rfl rfl (fun wv => ?_) (fun wv HC hr8 hD => ?_) ?_
              · go_simp <;> rfl
              · refine (cloneVls_any _ wv HC.mutLt r.A r.n r.c r.vs ((HC.ro 10 rfl).imp fun w2 h2 => h2.2 r HRM.out) (by have := HR6.out; omega)).mono ?_
                rintro e w5 ⟨A5, n5, c5, rfl, h50, h51, h52, h53, b5⟩
                exact ⟨_, rfl, ⟨A5, n5, c5, rfl, h50, h51, h52, h53⟩, HC.call b5, RM.below b5⟩
              rintro x wx HCx ⟨A5, n5, c5, rfl, h50, h51, h52, h53⟩
              simp only [Act.put, List.setIfInBounds_toArray, List.set_cons_succ, List.set_cons_zero]
              clear HCx h53
              refine dw_valC 103 (RowSlot (Mut M ([.cst wr.heap.size 71 #[.int .i64 r.id, .slice r.A r.n r.c], .ro (PrsIn (some ⟨b5, o5, none⟩) (k' + 1) (u :: ut)), .own 71 2 (.slice O q cap) q (rwCells outs), .ro (ValsIn outs), .ro (SlR 4 A2 n2 (colCells cs)), .blk go 43 #[.string nm, .slice A2 n2 c2, .int .i64 (nx + (ni : Int)), .slice O q cap], .blk (w.heap.size + 1 + 1) 43 #[.string ⟨#[]⟩, .slice none 0 0, .int .i64 0, .slice none 0 0], .cst (w.heap.size + 1) 65 #[.slice I ni ci, .slice D nd cd, .slice U nu cu], .cst w.heap.size 43 #[.string nm, .slice A n c, .int .i64 nx, .slice (some ⟨b, o, none⟩) m d], .ro (SlR 4 A n (colCells cs)), .ro (RwsIn (some ⟨b, o, none⟩) m l), .ro (SlsIn I ni ins), .ro (IsIn D nd dels), .ro (PrsIn U nu us)])) r.id r.vs) rfl rfl rfl rfl (.agg #[.int .i64 r.id, .slice A5 n5 c5]) (fun wv HC => ?_) (fun wv HC hD => ?_) ?_
              · go_simp <;> rfl
              · have hsl : VlsSlot (Mut M ([.cst wr.heap.size 71 #[.int .i64 r.id, .slice r.A r.n r.c], .ro (PrsIn (some ⟨b5, o5, none⟩) (k' + 1) (u :: ut)), .own 71 2 (.slice O q cap) q (rwCells outs), .ro (ValsIn outs), .ro (SlR 4 A2 n2 (colCells cs)), .blk go 43 #[.string nm, .slice A2 n2 c2, .int .i64 (nx + (ni : Int)), .slice O q cap], .blk (w.heap.size + 1 + 1) 43 #[.string ⟨#[]⟩, .slice none 0 0, .int .i64 0, .slice none 0 0], .cst (w.heap.size + 1) 65 #[.slice I ni ci, .slice D nd cd, .slice U nu cu], .cst w.heap.size 43 #[.string nm, .slice A n c, .int .i64 nx, .slice (some ⟨b, o, none⟩) m d], .ro (SlR 4 A n (colCells cs)), .ro (RwsIn (some ⟨b, o, none⟩) m l), .ro (SlsIn I ni ins), .ro (IsIn D nd dels), .ro (PrsIn U nu us)])) r.vs (.slice A5 n5 c5) wv := deps_at hD 5 rfl (by kernel_rfl) rfl rfl
                obtain ⟨A6, n6, c6, e6, h1, h2, h3, h4⟩ := hsl
                exact ⟨A6, n6, c6, by rw [e6], h1, h2, h3, h4⟩
              simp only [Act.put, List.setIfInBounds_toArray, List.set_cons_succ, List.set_cons_zero]
              refine dw_new #[.int .i64 r.id, .slice A5 n5 c5] 71 104 (RBoxSlot (Mut M ([.cst wr.heap.size 71 #[.int .i64 r.id, .slice r.A r.n r.c], .ro (PrsIn (some ⟨b5, o5, none⟩) (k' + 1) (u :: ut)), .own 71 2 (.slice O q cap) q (rwCells outs), .ro (ValsIn outs), .ro (SlR 4 A2 n2 (colCells cs)), .blk go 43 #[.string nm, .slice A2 n2 c2, .int .i64 (nx + (ni : Int)), .slice O q cap], .blk (w.heap.size + 1 + 1) 43 #[.string ⟨#[]⟩, .slice none 0 0, .int .i64 0, .slice none 0 0], .cst (w.heap.size + 1) 65 #[.slice I ni ci, .slice D nd cd, .slice U nu cu], .cst w.heap.size 43 #[.string nm, .slice A n c, .int .i64 nx, .slice (some ⟨b, o, none⟩) m d], .ro (SlR 4 A n (colCells cs)), .ro (RwsIn (some ⟨b, o, none⟩) m l), .ro (SlsIn I ni ins), .ro (IsIn D nd dels), .ro (PrsIn U nu us)])) r.id r.vs) (fun g => .slice (some ⟨g, 0, none⟩) 1 1) rfl rfl rfl rfl (fun wv => ?_) (fun wv HC _hrm hD hro => ?_) ?_
              · go_simp <;> rfl
              · have hsl : RowSlot (Mut M ([.cst wr.heap.size 71 #[.int .i64 r.id, .slice r.A r.n r.c], .ro (PrsIn (some ⟨b5, o5, none⟩) (k' + 1) (u :: ut)), .own 71 2 (.slice O q cap) q (rwCells outs), .ro (ValsIn outs), .ro (SlR 4 A2 n2 (colCells cs)), .blk go 43 #[.string nm, .slice A2 n2 c2, .int .i64 (nx + (ni : Int)), .slice O q cap], .blk (w.heap.size + 1 + 1) 43 #[.string ⟨#[]⟩, .slice none 0 0, .int .i64 0, .slice none 0 0], .cst (w.heap.size + 1) 65 #[.slice I ni ci, .slice D nd cd, .slice U nu cu], .cst w.heap.size 43 #[.string nm, .slice A n c, .int .i64 nx, .slice (some ⟨b, o, none⟩) m d], .ro (SlR 4 A n (colCells cs)), .ro (RwsIn (some ⟨b, o, none⟩) m l), .ro (SlsIn I ni ins), .ro (IsIn D nd dels), .ro (PrsIn U nu us)])) r.id r.vs (.agg #[.int .i64 r.id, .slice A5 n5 c5]) wv := deps_at hD 6 rfl (by kernel_rfl) rfl rfl
                obtain ⟨A6, n6, c6, e6, h1, h2, h3, h4⟩ := hsl
                obtain ⟨rfl, rfl, rfl⟩ : A5 = A6 ∧ n5 = n6 ∧ c5 = c6 := by
                  injection e6 with e6
                  simp at e6
                  exact e6
                exact ⟨_, A5, n5, c5, rfl, h1, h2, h3, h4.step (by simp) (fun b hb _ => Below.heap_alloc wv _ b hb) (fun _ _ h => h), ro_block (hro _ HC.mutLt) rfl⟩
              rintro g2 wg HCg hsl
              simp only [Act.put, List.setIfInBounds_toArray, List.set_cons_succ, List.set_cons_zero]
              clear hsl HCg
              refine rel_nil ?_
              rintro wx2 HX
              rintro _hrm HGW
              have hb2 : RBoxSlot (Mut M ([.cst wr.heap.size 71 #[.int .i64 r.id, .slice r.A r.n r.c], .ro (PrsIn (some ⟨b5, o5, none⟩) (k' + 1) (u :: ut)), .own 71 2 (.slice O q cap) q (rwCells outs), .ro (ValsIn outs), .ro (SlR 4 A2 n2 (colCells cs)), .blk go 43 #[.string nm, .slice A2 n2 c2, .int .i64 (nx + (ni : Int)), .slice O q cap], .blk (w.heap.size + 1 + 1) 43 #[.string ⟨#[]⟩, .slice none 0 0, .int .i64 0, .slice none 0 0], .cst (w.heap.size + 1) 65 #[.slice I ni ci, .slice D nd cd, .slice U nu cu], .cst w.heap.size 43 #[.string nm, .slice A n c, .int .i64 nx, .slice (some ⟨b, o, none⟩) m d], .ro (SlR 4 A n (colCells cs)), .ro (RwsIn (some ⟨b, o, none⟩) m l), .ro (SlsIn I ni ins), .ro (IsIn D nd dels), .ro (PrsIn U nu us)])) r.id r.vs (.slice (some ⟨g2, 0, none⟩) 1 1) wx2 := (GW_on (d := 104) rfl).1 (HGW 7 _ rfl (by omega))
              clear HGW
              obtain ⟨g3, A6, n6, c6, e6, k0, k1, k2, k3, k4⟩ := hb2
              obtain rfl : g2 = g3 := by injection e6 with e6; injection e6 with e6; injection e6
              clear e6
              have k5 := hid k4.now
              clear k4
              have HRS := hid (show rwCells outs ++ [.int .i64 r.id, .slice A6 n6 c6] = rwCells (outs ++ [⟨r.id, A6, n6, c6, r.vs⟩]) from rwCells_snoc1 _ _ _ _ _ _)
              have KA := HX.add k3
              clear HX
              go_wp2_with (at_builtin; go_must (refine wpList_appAllH KA 3 rfl Tryd.elRw k5.out rfl (.tmp 98) (.tmp 104) rfl rfl rfl (by intro z hz; simp at hz; rcases hz with rfl | rfl <;> rfl) (by omega) (by omega) ?_); intro C' cap' w6 hc6 hm6 KB; rw [HRS.out] at KB; simp only [List.set_cons_zero, List.set_cons_succ] at KB; (have F3 := KB.facts); simp only [World.size_alloc, World.size_drew, factsL, cellsF, Nat.reduceAdd, List.toList_toArray, List.set_cons_zero, List.set_cons_succ, List.setIfInBounds_toArray, and_true, true_and] at F3)
              have KC := KB.store 6 rfl 3 (.slice C' (q + 1) cap')
              have KD := KC.swapRo 4 rfl (vals_snoc (r := ⟨r.id, A6, n6, c6, r.vs⟩) (KC.ro 4 rfl) (KC.ro 0 rfl))
              have KE := KD
              simp only [cellsF, List.set_cons_zero, List.set_cons_succ, List.setIfInBounds_toArray] at KE
              have HGN := hid (show goR dels (l.map Rw.row) (us.map Pr.upd) = List.map Rw.row (outs ++ [⟨r.id, A6, n6, c6, r.vs⟩]) ++ goR dels ((l.map Rw.row).drop (j + 1)) ((u :: ut).map Pr.upd) by
                rw [List.map_append, List.append_assoc]
                exact HG.out.trans (congrArg (outs.map Rw.row ++ ·) HN.out))
              go_roundw
              case rel => exact ⟨j + 1, q + 1, cap', k' + 1, ck, _, _, _, u :: ut, by omega, by go_num, rfl, by omega, hkc, hck, by intro x hx; rcases List.mem_append.1 hx with hx | hx; (exact hoo x hx); (simp at hx; subst hx; exact ⟨hrok.id, k1, k2, hrok.vs⟩), hov, HGN, (KE.drop (List.sublist_cons_self _ _)).drop (List.sublist_cons_self _ _)⟩
              case measure => simp [intOf]; omega
        · have HN := hid (show goR dels (l.map Rw.row) (us.map Pr.upd) = outs.map Rw.row ++ goR dels ((l.map Rw.row).drop (j + 1)) (vs.map Pr.upd) by rw [HG.out, goR_skip HX.out hct])
          go_wp2_with fail
          go_roundw
          case rel => exact ⟨j + 1, q, cap, k, ck, O, V, outs, vs, by omega, by go_num, rfl, by omega, hkc, hck, hoo, hov, HN, K1.drop (List.sublist_cons_self _ _)⟩
          case measure => simp [intOf]; omega
      · obtain rfl : j = m := by omega
        have hdd : decide ((j : Int) < (j : Int)) = false := by simp
        have HGF := hid (show goR dels (l.map Rw.row) (us.map Pr.upd) = outs.map Rw.row ++ insR nx ((ins.map Sl.vs).take 0) by rw [HG.out, goR_end (by rw [List.length_map, HRL.out]; exact Nat.le_refl _)]; rfl)
        have hni2 : ni ≤ 2147483647 := by have := HBIG.out; omega
        have hnin : (ni : Int) ≤ 2147483648 - nx := by have := HBIG.out; omega
        have F1 := H.facts
        simp only [World.size_alloc, World.size_drew, factsL, cellsF, Nat.reduceAdd, List.toList_toArray, List.set_cons_zero, List.set_cons_succ, List.setIfInBounds_toArray, and_true, true_and] at F1
        go_wp2_with fail
        have H2 := H.drop (List.sublist_cons_self _ _)
        clear H F1
        go_loopw [111] (fun iv wr => ∃ (k q cap : Nat) (O : Option Addr) (outs : List Rw), k ≤ ni ∧ iv = .int .i64 k ∧ q ≤ j + k ∧ (∀ r ∈ outs, r.ok) ∧ Hid (outs.map Rw.row = goR dels (l.map Rw.row) (us.map Pr.upd) ++ insR nx ((ins.map Sl.vs).take k)) ∧ Hold M none w wr [.own 71 2 (.slice O q cap) q (rwCells outs), .ro (ValsIn outs), .ro (SlR 4 A2 n2 (colCells cs)), .blk go 43 #[.string nm, .slice A2 n2 c2, .int .i64 (nx + (ni : Int)), .slice O q cap], .blk (w.heap.size + 1 + 1) 43 #[.string ⟨#[]⟩, .slice none 0 0, .int .i64 0, .slice none 0 0], .cst (w.heap.size + 1) 65 #[.slice I ni ci, .slice D nd cd, .slice U nu cu], .cst w.heap.size 43 #[.string nm, .slice A n c, .int .i64 nx, .slice B j d], .ro (SlR 4 A n (colCells cs)), .ro (RwsIn B j l), .ro (SlsIn I ni ins), .ro (IsIn D nd dels), .ro (PrsIn U nu us)]) (fun iv _ => ni - (intOf iv).toNat)
        case atStart => exact ⟨0, q, cap, O, outs, by omega, rfl, by omega, hoo, hid (by rw [HGF.out]; simp [insR]), H2⟩
        case round =>
          clear H2
          obtain ⟨k, q, cap, O, outs, hk, rfl, hq, hoo, HG2, H⟩ := hrel
          by_cases hlt2 : k < ni
          · have hdd2 : decide ((k : Int) < (ni : Int)) = true := by simp; omega
            have k0 : (0 : Int) ≤ (k : Int) := by omega
            have k1 : (k : Int) < (ni : Int) := by omega
            obtain ⟨s, hx⟩ := get_of HIL.out hlt2
            obtain ⟨bi, oi, rfl, hb, c0, _⟩ := (H.ro 9 rfl).now.at_ hx
            have HXI := hid (show (ins.map Sl.vs)[k]? = some s.vs by simp [hx])
            have HSM := hid (List.mem_of_getElem? hx)
            have hsok := HI6.out s HSM.out
            clear hx
            have F2 := H.facts
            simp only [World.size_alloc, World.size_drew, factsL, cellsF, Nat.reduceAdd, List.toList_toArray, List.set_cons_zero, List.set_cons_succ, List.setIfInBounds_toArray, and_true, true_and] at F2
            have hwk : IntKind.i64.wrap (nx + (k : Int)) = nx + (k : Int) := by rw [IntKind.wrap_i64]; omega
            go_wp2_with fail
            refine wp_region_any (by kernel_rfl) ?_
            refine wpAny_hold 10 133 ([.own 71 2 (.slice O q cap) q (rwCells outs), .ro (ValsIn outs), .ro (SlR 4 A2 n2 (colCells cs)), .blk go 43 #[.string nm, .slice A2 n2 c2, .int .i64 (nx + (ni : Int)), .slice O q cap], .blk (w.heap.size + 1 + 1) 43 #[.string ⟨#[]⟩, .slice none 0 0, .int .i64 0, .slice none 0 0], .cst (w.heap.size + 1) 65 #[.slice (some ⟨bi, oi, none⟩) ni ci, .slice D nd cd, .slice U nu cu], .cst w.heap.size 43 #[.string nm, .slice A n c, .int .i64 nx, .slice B j d], .ro (SlR 4 A n (colCells cs)), .ro (RwsIn B j l), .ro (SlsIn (some ⟨bi, oi, none⟩) ni ins), .ro (IsIn D nd dels), .ro (PrsIn U nu us)]) (spL [(123, VlsSlot (Mut M ([.own 71 2 (.slice O q cap) q (rwCells outs), .ro (ValsIn outs), .ro (SlR 4 A2 n2 (colCells cs)), .blk go 43 #[.string nm, .slice A2 n2 c2, .int .i64 (nx + (ni : Int)), .slice O q cap], .blk (w.heap.size + 1 + 1) 43 #[.string ⟨#[]⟩, .slice none 0 0, .int .i64 0, .slice none 0 0], .cst (w.heap.size + 1) 65 #[.slice (some ⟨bi, oi, none⟩) ni ci, .slice D nd cd, .slice U nu cu], .cst w.heap.size 43 #[.string nm, .slice A n c, .int .i64 nx, .slice B j d], .ro (SlR 4 A n (colCells cs)), .ro (RwsIn B j l), .ro (SlsIn (some ⟨bi, oi, none⟩) ni ins), .ro (IsIn D nd dels), .ro (PrsIn U nu us)])) s.vs), (124, RowSlot (Mut M ([.own 71 2 (.slice O q cap) q (rwCells outs), .ro (ValsIn outs), .ro (SlR 4 A2 n2 (colCells cs)), .blk go 43 #[.string nm, .slice A2 n2 c2, .int .i64 (nx + (ni : Int)), .slice O q cap], .blk (w.heap.size + 1 + 1) 43 #[.string ⟨#[]⟩, .slice none 0 0, .int .i64 0, .slice none 0 0], .cst (w.heap.size + 1) 65 #[.slice (some ⟨bi, oi, none⟩) ni ci, .slice D nd cd, .slice U nu cu], .cst w.heap.size 43 #[.string nm, .slice A n c, .int .i64 nx, .slice B j d], .ro (SlR 4 A n (colCells cs)), .ro (RwsIn B j l), .ro (SlsIn (some ⟨bi, oi, none⟩) ni ins), .ro (IsIn D nd dels), .ro (PrsIn U nu us)])) (nx + (k : Int)) s.vs), (125, RBoxSlot (Mut M ([.own 71 2 (.slice O q cap) q (rwCells outs), .ro (ValsIn outs), .ro (SlR 4 A2 n2 (colCells cs)), .blk go 43 #[.string nm, .slice A2 n2 c2, .int .i64 (nx + (ni : Int)), .slice O q cap], .blk (w.heap.size + 1 + 1) 43 #[.string ⟨#[]⟩, .slice none 0 0, .int .i64 0, .slice none 0 0], .cst (w.heap.size + 1) 65 #[.slice (some ⟨bi, oi, none⟩) ni ci, .slice D nd cd, .slice U nu cu], .cst w.heap.size 43 #[.string nm, .slice A n c, .int .i64 nx, .slice B j d], .ro (SlR 4 A n (colCells cs)), .ro (RwsIn B j l), .ro (SlsIn (some ⟨bi, oi, none⟩) ni ins), .ro (IsIn D nd dels), .ro (PrsIn U nu us)])) (nx + (k : Int)) s.vs)]) (by kernel_rfl) (by kernel_rfl) (by kernel_rfl) rfl ?_ (H.drew) ?_
            · exact stays_cons vlsSlot_mono (stays_cons rowSlot_mono (stays_cons rboxSlot_mono (stays_nil _)))
            simp only [List.take_succ_cons, List.take_zero, List.drop_succ_cons, List.drop_zero, Act.put, List.getElem_toArray, List.getElem_cons_zero, List.getElem_cons_succ, List.setIfInBounds_toArray, List.set_cons_succ, List.set_cons_zero]
            refine dw_val rfl rfl rfl ?_; apply Exists.intro; refine ⟨fun wv HC => ?_, ?_⟩
            ·  go_simp <;> rfl
            simp only [Act.put, List.setIfInBounds_toArray, List.set_cons_succ, List.set_cons_zero]
            refine dw_val rfl rfl rfl ?_; apply Exists.intro; refine ⟨fun wv HC => ?_, ?_⟩
            · have FC := HC.facts; simp only [factsL, cellsF, Nat.reduceAdd, List.toList_toArray, and_true, true_and] at FC; go_simp <;> rfl
            simp only [Act.put, List.setIfInBounds_toArray, List.set_cons_succ, List.set_cons_zero]
            refine dw_val rfl rfl rfl ?_; apply Exists.intro; refine ⟨fun wv HC => ?_, ?_⟩
            ·  go_simp <;> rfl
            simp only [Act.put, List.setIfInBounds_toArray, List.set_cons_succ, List.set_cons_zero]
            refine dw_val rfl rfl rfl ?_; apply Exists.intro; refine ⟨fun wv HC => ?_, ?_⟩
            · have FC := HC.facts; simp only [factsL, cellsF, Nat.reduceAdd, List.toList_toArray, and_true, true_and] at FC; go_simp <;> rfl
            simp only [Act.put, List.setIfInBounds_toArray, List.set_cons_succ, List.set_cons_zero]
            refine dw_val rfl rfl rfl ?_; apply Exists.intro; refine ⟨fun wv HC => ?_, ?_⟩
            ·  go_simp <;> rfl
            simp only [Act.put, List.setIfInBounds_toArray, List.set_cons_succ, List.set_cons_zero]
            refine dw_val rfl rfl rfl ?_; apply Exists.intro; refine ⟨fun wv HC => ?_, ?_⟩
            ·  go_simp <;> rfl
            simp only [Act.put, List.setIfInBounds_toArray, List.set_cons_succ, List.set_cons_zero]
            refine dw_val rfl rfl rfl ?_; apply Exists.intro; refine ⟨fun wv HC => ?_, ?_⟩
            ·  go_simp <;> rfl
            simp only [Act.put, List.setIfInBounds_toArray, List.set_cons_succ, List.set_cons_zero]
            refine dw_callR 123 (VlsSlot (Mut M ([.own 71 2 (.slice O q cap) q (rwCells outs), .ro (ValsIn outs), .ro (SlR 4 A2 n2 (colCells cs)), .blk go 43 #[.string nm, .slice A2 n2 c2, .int .i64 (nx + (ni : Int)), .slice O q cap], .blk (w.heap.size + 1 + 1) 43 #[.string ⟨#[]⟩, .slice none 0 0, .int .i64 0, .slice none 0 0], .cst (w.heap.size + 1) 65 #[.slice (some ⟨bi, oi, none⟩) ni ci, .slice D nd cd, .slice U nu cu], .cst w.heap.size 43 #[.string nm, .slice A n c, .int .i64 nx, .slice B j d], .ro (SlR 4 A n (colCells cs)), .ro (RwsIn B j l), .ro (SlsIn (some ⟨bi, oi, none⟩) ni ins), .ro (IsIn D nd dels), .ro (PrsIn U nu us)])) s.vs) (f := 62) (args := #[.slice s.A s.n s.c]) rfl rfl rfl rfl (fun wv => ?_) (fun wv HC hr8 hD => ?_) ?_
            · go_simp <;> rfl
            · refine (cloneVls_any _ wv HC.mutLt s.A s.n s.c s.vs ((HC.ro 9 rfl).imp fun w2 h2 => h2.2 s HSM.out) (by have := hsok.2; omega)).mono ?_
              rintro e w5 ⟨A5, n5, c5, rfl, h50, h51, h52, h53, b5⟩
              exact ⟨_, rfl, ⟨A5, n5, c5, rfl, h50, h51, h52, h53⟩, HC.call b5, RM.below b5⟩
            rintro x wx HCx ⟨A5, n5, c5, rfl, h50, h51, h52, h53⟩
            simp only [Act.put, List.setIfInBounds_toArray, List.set_cons_succ, List.set_cons_zero]
            clear HCx h53
            refine dw_valC 124 (RowSlot (Mut M ([.own 71 2 (.slice O q cap) q (rwCells outs), .ro (ValsIn outs), .ro (SlR 4 A2 n2 (colCells cs)), .blk go 43 #[.string nm, .slice A2 n2 c2, .int .i64 (nx + (ni : Int)), .slice O q cap], .blk (w.heap.size + 1 + 1) 43 #[.string ⟨#[]⟩, .slice none 0 0, .int .i64 0, .slice none 0 0], .cst (w.heap.size + 1) 65 #[.slice (some ⟨bi, oi, none⟩) ni ci, .slice D nd cd, .slice U nu cu], .cst w.heap.size 43 #[.string nm, .slice A n c, .int .i64 nx, .slice B j d], .ro (SlR 4 A n (colCells cs)), .ro (RwsIn B j l), .ro (SlsIn (some ⟨bi, oi, none⟩) ni ins), .ro (IsIn D nd dels), .ro (PrsIn U nu us)])) (nx + (k : Int)) s.vs) rfl rfl rfl rfl (.agg #[.int .i64 (nx + (k : Int)), .slice A5 n5 c5]) (fun wv HC => ?_) (fun wv HC hD => ?_) ?_
            · go_simp <;> rfl
            · have hsl : VlsSlot (Mut M ([.own 71 2 (.slice O q cap) q (rwCells outs), .ro (ValsIn outs), .ro (SlR 4 A2 n2 (colCells cs)), .blk go 43 #[.string nm, .slice A2 n2 c2, .int .i64 (nx + (ni : Int)), .slice O q cap], .blk (w.heap.size + 1 + 1) 43 #[.string ⟨#[]⟩, .slice none 0 0, .int .i64 0, .slice none 0 0], .cst (w.heap.size + 1) 65 #[.slice (some ⟨bi, oi, none⟩) ni ci, .slice D nd cd, .slice U nu cu], .cst w.heap.size 43 #[.string nm, .slice A n c, .int .i64 nx, .slice B j d], .ro (SlR 4 A n (colCells cs)), .ro (RwsIn B j l), .ro (SlsIn (some ⟨bi, oi, none⟩) ni ins), .ro (IsIn D nd dels), .ro (PrsIn U nu us)])) s.vs (.slice A5 n5 c5) wv := deps_at hD 7 rfl (by kernel_rfl) rfl rfl
              obtain ⟨A6, n6, c6, e6, h1, h2, h3, h4⟩ := hsl
              exact ⟨A6, n6, c6, by rw [e6], h1, h2, h3, h4⟩
            simp only [Act.put, List.setIfInBounds_toArray, List.set_cons_succ, List.set_cons_zero]
            refine dw_new #[.int .i64 (nx + (k : Int)), .slice A5 n5 c5] 71 125 (RBoxSlot (Mut M ([.own 71 2 (.slice O q cap) q (rwCells outs), .ro (ValsIn outs), .ro (SlR 4 A2 n2 (colCells cs)), .blk go 43 #[.string nm, .slice A2 n2 c2, .int .i64 (nx + (ni : Int)), .slice O q cap], .blk (w.heap.size + 1 + 1) 43 #[.string ⟨#[]⟩, .slice none 0 0, .int .i64 0, .slice none 0 0], .cst (w.heap.size + 1) 65 #[.slice (some ⟨bi, oi, none⟩) ni ci, .slice D nd cd, .slice U nu cu], .cst w.heap.size 43 #[.string nm, .slice A n c, .int .i64 nx, .slice B j d], .ro (SlR 4 A n (colCells cs)), .ro (RwsIn B j l), .ro (SlsIn (some ⟨bi, oi, none⟩) ni ins), .ro (IsIn D nd dels), .ro (PrsIn U nu us)])) (nx + (k : Int)) s.vs) (fun g => .slice (some ⟨g, 0, none⟩) 1 1) rfl rfl rfl rfl (fun wv => ?_) (fun wv HC _hrm hD hro => ?_) ?_
            · go_simp <;> rfl
            · have hsl : RowSlot (Mut M ([.own 71 2 (.slice O q cap) q (rwCells outs), .ro (ValsIn outs), .ro (SlR 4 A2 n2 (colCells cs)), .blk go 43 #[.string nm, .slice A2 n2 c2, .int .i64 (nx + (ni : Int)), .slice O q cap], .blk (w.heap.size + 1 + 1) 43 #[.string ⟨#[]⟩, .slice none 0 0, .int .i64 0, .slice none 0 0], .cst (w.heap.size + 1) 65 #[.slice (some ⟨bi, oi, none⟩) ni ci, .slice D nd cd, .slice U nu cu], .cst w.heap.size 43 #[.string nm, .slice A n c, .int .i64 nx, .slice B j d], .ro (SlR 4 A n (colCells cs)), .ro (RwsIn B j l), .ro (SlsIn (some ⟨bi, oi, none⟩) ni ins), .ro (IsIn D nd dels), .ro (PrsIn U nu us)])) (nx + (k : Int)) s.vs (.agg #[.int .i64 (nx + (k : Int)), .slice A5 n5 c5]) wv := deps_at hD 8 rfl (by kernel_rfl) rfl rfl
              obtain ⟨A6, n6, c6, e6, h1, h2, h3, h4⟩ := hsl
              obtain ⟨rfl, rfl, rfl⟩ : A5 = A6 ∧ n5 = n6 ∧ c5 = c6 := by
                injection e6 with e6
                simp at e6
                exact e6
              exact ⟨_, A5, n5, c5, rfl, h1, h2, h3, h4.step (by simp) (fun b hb _ => Below.heap_alloc wv _ b hb) (fun _ _ h => h), ro_block (hro _ HC.mutLt) rfl⟩
            rintro g2 wg HCg hsl
            simp only [Act.put, List.setIfInBounds_toArray, List.set_cons_succ, List.set_cons_zero]
            clear hsl HCg
            refine rel_nil ?_
            rintro wx2 HX
            rintro _hrm HGW
            have hb2 : RBoxSlot (Mut M ([.own 71 2 (.slice O q cap) q (rwCells outs), .ro (ValsIn outs), .ro (SlR 4 A2 n2 (colCells cs)), .blk go 43 #[.string nm, .slice A2 n2 c2, .int .i64 (nx + (ni : Int)), .slice O q cap], .blk (w.heap.size + 1 + 1) 43 #[.string ⟨#[]⟩, .slice none 0 0, .int .i64 0, .slice none 0 0], .cst (w.heap.size + 1) 65 #[.slice (some ⟨bi, oi, none⟩) ni ci, .slice D nd cd, .slice U nu cu], .cst w.heap.size 43 #[.string nm, .slice A n c, .int .i64 nx, .slice B j d], .ro (SlR 4 A n (colCells cs)), .ro (RwsIn B j l), .ro (SlsIn (some ⟨bi, oi, none⟩) ni ins), .ro (IsIn D nd dels), .ro (PrsIn U nu us)])) (nx + (k : Int)) s.vs (.slice (some ⟨g2, 0, none⟩) 1 1) wx2 := (GW_on (d := 125) rfl).1 (HGW 9 _ rfl (by omega))
            clear HGW
            obtain ⟨g3, A6, n6, c6, e6, x0, x1, x2, x3, x4⟩ := hb2
            obtain rfl : g2 = g3 := by injection e6 with e6; injection e6 with e6; injection e6
            clear e6
            have k5 := hid x4.now
            clear x4
            have HRS := hid (show rwCells outs ++ [.int .i64 (nx + (k : Int)), .slice A6 n6 c6] = rwCells (outs ++ [⟨nx + (k : Int), A6, n6, c6, s.vs⟩]) from rwCells_snoc1 _ _ _ _ _ _)
            have KA := HX.add x3
            clear HX
            go_wp2_with (at_builtin; go_must (refine wpList_appAllH KA 1 rfl Tryd.elRw k5.out rfl (.tmp 117) (.tmp 125) rfl rfl rfl (by intro z hz; simp at hz; rcases hz with rfl | rfl <;> rfl) (by omega) (by omega) ?_); intro C' cap' w6 hc6 hm6 KB; rw [HRS.out] at KB; simp only [List.set_cons_zero, List.set_cons_succ] at KB; (have F3 := KB.facts); simp only [World.size_alloc, World.size_drew, factsL, cellsF, Nat.reduceAdd, List.toList_toArray, List.set_cons_zero, List.set_cons_succ, List.setIfInBounds_toArray, and_true, true_and] at F3)
            have KC := KB.store 4 rfl 3 (.slice C' (q + 1) cap')
            have KE := KC.swapRo 2 rfl (vals_snoc (r := ⟨nx + (k : Int), A6, n6, c6, s.vs⟩) (KC.ro 2 rfl) (KC.ro 0 rfl))
            simp only [cellsF, List.set_cons_zero, List.set_cons_succ, List.setIfInBounds_toArray] at KE
            have HGN := hid (show List.map Rw.row (outs ++ [⟨nx + (k : Int), A6, n6, c6, s.vs⟩]) = goR dels (l.map Rw.row) (us.map Pr.upd) ++ insR nx ((ins.map Sl.vs).take (k + 1)) by
              rw [List.map_append, HG2.out, insR_snoc HXI.out, List.append_assoc]; rfl)
            go_roundw
            case rel => exact ⟨k + 1, q + 1, cap', _, _, by omega, by go_num, by omega, by intro x hx; rcases List.mem_append.1 hx with hx | hx; (exact hoo x hx); (simp at hx; subst hx; exact ⟨⟨by show _ ≤ nx + (k : Int); omega, by show nx + (k : Int) ≤ _; omega⟩, x1, x2, hsok.1.vs⟩), HGN, KE.drop (List.sublist_cons_self _ _)⟩
            case measure => simp [intOf]; omega
          · obtain rfl : k = ni := by omega
            have hdd2 : decide ((k : Int) < (k : Int)) = false := by simp
            have HOR := hid (show outs.map Rw.row = outR nx (l.map Rw.row) (ins.map Sl.vs) dels (us.map Pr.upd) by rw [HG2.out, List.take_of_length_le (by rw [List.length_map, HIL.out]; exact Nat.le_refl _)]; rfl)
            have hcq := own_caps (H.get 0 rfl)
            have KS := H.sealRow 0 rfl
            simp only [List.set_cons_zero] at KS
            clear H
            have F2 := KS.facts
            simp only [World.size_alloc, World.size_drew, factsL, cellsF, Nat.reduceAdd, List.toList_toArray, List.set_cons_zero, List.set_cons_succ, List.setIfInBounds_toArray, and_true, true_and] at F2
            go_wp2_with fail
            have hRW : Ro _ (Mut M _) (RwsIn O q outs) := (KS.ro 0 rfl).and (KS.ro 1 rfl)
            refine (dup_any _ _ KS.mutLt nm A2 n2 c2 cs (nx + (k : Int)) O q cap outs (KS.ro 2 rfl) hRW (by omega) (by omega) hoo).mono ?_
            rintro e w8 ⟨rfl, b8⟩
            have K8 := KS.call b8
            clear KS b8 F2 hRW
            have F8 := K8.facts
            simp only [World.size_alloc, World.size_drew, factsL, cellsF, Nat.reduceAdd, List.toList_toArray, List.set_cons_zero, List.set_cons_succ, List.setIfInBounds_toArray, and_true, true_and] at F8
            cases hdb : dupB cs (outs.map Rw.row)
            · have HN := hid (show applyC nm cs nx (l.map Rw.row) (ins.map Sl.vs) dels (us.map Pr.upd) = (0, ⟨nm, cs, nx + (k : Int), outs.map Rw.row⟩) by
                unfold applyC; rw [HCB.out, HFE.out, if_neg (by simp), if_neg (by rw [HFZ.out]; simp), if_neg (by simp only [List.length_map]; have := HRL.out; have := HIL.out; have := HDL.out; rw [HRL.out, HIL.out, HDL.out]; exact HBIG.out), ← HOR.out, if_neg (by rw [hdb]; simp), List.length_map, HIL.out])
              clear hdb
              have KN := (((K8.store 4 rfl 0 (.string nm)).store 4 rfl 1 (.slice A2 n2 c2)).store 4 rfl 2 (.int .i64 (nx + (k : Int)))).store 4 rfl 3 (.slice O q cap)
              go_wp2_with fail
              exact bodyPost_ret (v := .tuple #[.agg #[.string nm, .slice A2 n2 c2, .int .i64 (nx + (k : Int)), .slice O q cap], .int .i64 0]) (by simp [results, Tryd.results42, go_sem, F8]) rfl ⟨_, by rw [HN.out], by rw [HN.out]; exact ⟨A2, n2, c2, O, q, cap, outs, rfl, hc2, hc22, hcq.1, hcq.2.1, KN.roOut 2 rfl, (KN.roOut 0 rfl).and (KN.roOut 1 rfl), hoo, rfl⟩, KN.below⟩
            · have HN := hid (show applyC nm cs nx (l.map Rw.row) (ins.map Sl.vs) dels (us.map Pr.upd) = (9, zeroT) by
                unfold applyC; rw [HCB.out, HFE.out, if_neg (by simp), if_neg (by rw [HFZ.out]; simp), if_neg (by simp only [List.length_map]; rw [HRL.out, HIL.out, HDL.out]; exact HBIG.out), ← HOR.out, if_pos hdb])
              clear hdb
              have KN := (((K8.store 4 rfl 0 (.string ⟨#[]⟩)).store 4 rfl 1 (.slice none 0 0)).store 4 rfl 2 (.int .i64 0)).store 4 rfl 3 (.slice none 0 0)
              go_wp2_with fail
              exact bodyPost_ret (v := .tuple #[.agg #[.string ⟨#[]⟩, .slice none 0 0, .int .i64 0, .slice none 0 0], .int .i64 9]) (by simp [results, Tryd.results42, go_sem, F8]) rfl ⟨_, by rw [HN.out], by rw [HN.out]; exact tbAt_zero, KN.below⟩
  · have hfzd : (fitsC cs (us.map Pr.new) (ins.map Sl.vs) != 0) = true := by simp [hfz]
    have HN := hid (show applyC nm cs nx (l.map Rw.row) (ins.map Sl.vs) dels (us.map Pr.upd) = (fitsC cs (us.map Pr.new) (ins.map Sl.vs), zeroT) by unfold applyC; rw [HCB.out, HFE.out, if_neg (by simp), if_pos hfz])
    clear hfz
    have KN := (((K2.store 0 rfl 0 (.string ⟨#[]⟩)).store 0 rfl 1 (.slice none 0 0)).store 0 rfl 2 (.int .i64 0)).store 0 rfl 3 (.slice none 0 0)
    go_wp2_with fail
    exact bodyPost_ret (v := .tuple #[.agg #[.string ⟨#[]⟩, .slice none 0 0, .int .i64 0, .slice none 0 0], .int .i64 (fitsC cs (us.map Pr.new) (ins.map Sl.vs))]) (by simp [results, Tryd.results42, go_sem, F2]) rfl ⟨_, by rw [HN.out], by rw [HN.out]; exact tbAt_zero, KN.below⟩
end Go.Proofs.YtmopojjhlbjhnaaDoor

namespace Go.Proofs.YtmopojjhlbjhnaaDoor
open Go.RowKit
set_option linter.unusedVariables false
set_option linter.unusedSimpArgs false

/-- the values that the updates ask for -/
def wantR (us : List Upd) (id : Int) (v : List Vl) : List Vl := us.foldl (fun acc p => if p.1 = id then p.2.2 else acc) v
theorem wantR_cons (u : Upd) (us : List Upd) (id : Int) (v : List Vl) : wantR (u :: us) id v = wantR us id (if u.1 = id then u.2.2 else v) := rfl
theorem wantR_none : ∀ {us : List Upd} {id : Int} {v : List Vl}, (∀ u ∈ us, u.1 ≠ id) → wantR us id v = v
  | [], _, _, _ => rfl
  | u :: us, id, v, h => by
    rw [wantR_cons, if_neg (h u (List.mem_cons_self ..))]
    exact wantR_none fun x hx => h x (List.mem_cons_of_mem _ hx)
def keepR (dels : List Int) (us : List Upd) (rs : List Row) : List Row := (rs.filter fun r => !dels.contains r.1).map fun r => (r.1, wantR us r.1 r.2)
theorem okR_asc {cs : List Col} {nx : Int} : ∀ {lst : Int} {rs : List Row}, okR cs nx lst rs = true → (rs.map (·.1)).Pairwise (· < ·) ∧ ∀ r ∈ rs, lst < r.1 ∧ r.1 < nx
  | _, [], _ => ⟨List.Pairwise.nil, fun _ h => nomatch h⟩
  | lst, r :: rs, h => by
    rw [okR] at h
    simp only [Bool.and_eq_true, decide_eq_true_eq] at h
    obtain ⟨h1, h2⟩ := okR_asc h.2
    refine ⟨?_, fun x hx => ?_⟩
    · rw [List.map_cons, List.pairwise_cons]
      refine ⟨fun a ha => ?_, h1⟩
      obtain ⟨x, hx, rfl⟩ := List.mem_map.1 ha
      exact (h2 x hx).1
    · rcases List.mem_cons.1 hx with rfl | hx
      · exact ⟨h.1.1.1, h.1.1.2⟩
      · exact ⟨Int.lt_trans h.1.1.1 (h2 x hx).1, (h2 x hx).2⟩
theorem rowsK_spec {rs : List Row} {gone : List Int} : ∀ {ids : List Int} {last : Option Int}, rowsK rs gone last ids = true → ids.Pairwise (· < ·) ∧ ∀ id ∈ ids, (getR rs id).isSome = true ∧ gone.contains id = false ∧ ∀ p, last = some p → p < id
  | [], _, _ => ⟨List.Pairwise.nil, fun _ h => nomatch h⟩
  | id :: ids, last, h => by
    rw [rowsK] at h
    simp only [Bool.and_eq_true, Bool.not_eq_true'] at h
    obtain ⟨⟨⟨h1, h2⟩, h3⟩, h4⟩ := h
    obtain ⟨i1, i2⟩ := rowsK_spec h4
    have hl : ∀ p, last = some p → p < id := fun p hp => by
      rw [hp] at h2
      simp only [Option.any_some, decide_eq_false_iff_not] at h2
      omega
    refine ⟨List.pairwise_cons.2 ⟨fun a ha => (i2 a ha).2.2 id rfl, i1⟩, fun x hx => ?_⟩
    rcases List.mem_cons.1 hx with rfl | hx
    · exact ⟨h1, h3, hl⟩
    · exact ⟨(i2 x hx).1, (i2 x hx).2.1, fun p hp => Int.lt_trans (hl p hp) ((i2 x hx).2.2 id rfl)⟩
theorem getR_some {rs : List Row} {id : Int} (h : (getR rs id).isSome = true) : id ∈ rs.map (·.1) := by
  unfold getR at h
  rw [Option.isSome_map] at h
  obtain ⟨r, hr⟩ := Option.isSome_iff_exists.1 h
  have h1 := List.find?_some hr
  have h2 := List.mem_of_find?_eq_some hr
  exact List.mem_map.2 ⟨r, h2, by simpa using h1⟩
theorem goR_eq {dels : List Int} : ∀ (rs : List Row) (us : List Upd), (rs.map (·.1)).Pairwise (· < ·) → (us.map (·.1)).Pairwise (· < ·) → (∀ u ∈ us, u.1 ∈ rs.map (·.1) ∧ dels.contains u.1 = false) → goR dels rs us = keepR dels us rs
  | [], us, _, _, h => by simp [goR, keepR]
  | r :: rs, [], hr, _, _ => by
    have ih := goR_eq (dels := dels) rs [] (List.pairwise_cons.1 hr).2 List.Pairwise.nil (fun _ h => nomatch h)
    rw [goR]
    cases hd : dels.contains r.1
    · simp only [keepR, List.filter_cons, hd, Bool.not_false, if_true, List.map_cons, Bool.false_eq_true, if_false] at ih ⊢
      rw [ih]; rfl
    · simp only [keepR, List.filter_cons, hd, Bool.not_true, if_true, Bool.false_eq_true, if_false] at ih ⊢
      rw [ih]
  | r :: rs, u :: us, hr, hu, h => by
    obtain ⟨r1, r2⟩ := List.pairwise_cons.1 hr
    obtain ⟨u1, u2⟩ := List.pairwise_cons.1 hu
    replace r1 : ∀ x ∈ rs, r.1 < x.1 := fun x hx => r1 _ (List.mem_map_of_mem (f := fun x : Row => x.1) hx)
    replace u1 : ∀ x ∈ us, u.1 < x.1 := fun x hx => u1 _ (List.mem_map_of_mem (f := fun x : Upd => x.1) hx)
    have hin : ∀ x ∈ u :: us, (x.1 = r.1 ∨ x.1 ∈ rs.map (·.1)) ∧ dels.contains x.1 = false := fun x hx => ⟨List.mem_cons.1 (h x hx).1, (h x hx).2⟩
    rw [goR]
    cases hd : dels.contains r.1
    · simp only [Bool.false_eq_true, if_false]
      by_cases hur : u.1 = r.1
      · rw [if_pos hur]
        have ih := goR_eq (dels := dels) rs us r2 u2 fun x hx => by
          obtain ⟨h1, h2⟩ := hin x (List.mem_cons_of_mem _ hx)
          refine ⟨?_, h2⟩
          rcases h1 with h1 | h1
          · have := u1 x hx; omega
          · exact h1
        rw [ih]
        simp only [keepR, List.filter_cons, hd, Bool.not_false, if_true, List.map_cons]
        rw [wantR_cons, if_pos hur, wantR_none fun x hx => by have := u1 x hx; omega]
        congr 1
        refine List.map_congr_left fun x hx => ?_
        have := r1 x (List.mem_filter.1 hx).1
        rw [wantR_cons, if_neg (by omega)]
      · rw [if_neg hur]
        have hmem : ∀ x ∈ u :: us, r.1 < x.1 ∧ x.1 ∈ rs.map (·.1) := fun x hx => by
          have hu0 : r.1 < u.1 := by
            rcases (hin u (List.mem_cons_self ..)).1 with h1 | h1
            · exact absurd h1 hur
            · obtain ⟨y, hy, hyu⟩ := List.mem_map.1 h1
              have := r1 y hy
              have hyu : y.1 = u.1 := hyu
              omega
          have hx1 : r.1 < x.1 := by
            rcases List.mem_cons.1 hx with rfl | hx
            · exact hu0
            · exact Int.lt_trans hu0 (u1 x hx)
          refine ⟨hx1, ?_⟩
          rcases (hin x hx).1 with h1 | h1
          · omega
          · exact h1
        have ih := goR_eq (dels := dels) rs (u :: us) r2 hu fun x hx => ⟨(hmem x hx).2, (h x hx).2⟩
        rw [ih]
        simp only [keepR, List.filter_cons, hd, Bool.not_false, if_true, List.map_cons]
        rw [wantR_none fun x hx => by have := (hmem x hx).1; omega]
    · simp only [if_true]
      have ih := goR_eq (dels := dels) rs (u :: us) r2 hu fun x hx => by
        obtain ⟨h1, h2⟩ := hin x hx
        refine ⟨?_, h2⟩
        rcases h1 with h1 | h1
        · rw [h1, hd] at h2; cases h2
        · exact h1
      rw [ih]
      simp only [keepR, List.filter_cons, hd, Bool.not_true, Bool.false_eq_true, if_false]
/-- What is known of a change that succeeds. -/
structure ApOk (nm : ByteArray) (cs : List Col) (nx : Int) (rs : List Row) (ins : List (List Vl)) (dels : List Int) (us : List Upd) (T : Tb) : Prop where
  tab : tabB nm cs nx rs = true
  tb : T = ⟨nm, cs, nx + ins.length, keepR dels us rs ++ insR nx ins⟩
  asc : (rs.map (·.1)).Pairwise (· < ·)
  low : ∀ r ∈ rs, 0 < r.1 ∧ r.1 < nx
  dasc : dels.Pairwise (· < ·)
  din : ∀ id ∈ dels, id ∈ rs.map (·.1)
  uasc : (us.map (·.1)).Pairwise (· < ·)
  uin : ∀ u ∈ us, u.1 ∈ rs.map (·.1) ∧ dels.contains u.1 = false
  dup : dupB cs (keepR dels us rs ++ insR nx ins) = false
  fits : (∀ u ∈ us, fitsT cs u.2.2 = 0) ∧ ∀ v ∈ ins, fitsT cs v = 0
  lim : (rs.length : Int) - dels.length + ins.length ≤ 100
  nlim : (ins.length : Int) ≤ 2147483648 - nx
theorem tabB_ok {nm : ByteArray} {cs : List Col} {nx : Int} {rs : List Row} (h : tabB nm cs nx rs = true) : schemaB nm cs = true ∧ rs.length ≤ 100 ∧ 1 ≤ nx ∧ nx ≤ 2147483648 ∧ okR cs nx 0 rs = true ∧ dupB cs rs = false := by
  unfold tabB at h
  simp only [Bool.and_eq_true, decide_eq_true_eq, Bool.not_eq_true'] at h
  obtain ⟨⟨⟨⟨⟨h1, h2⟩, h3⟩, h4⟩, h5⟩, h6⟩ := h
  exact ⟨h1, h2, h3, h4, h5, h6⟩
theorem chgB_ok {nm : ByteArray} {cs : List Col} {nx : Int} {rs : List Row} {ins : List (List Vl)} {dels : List Int} {us : List Upd} (h : chgB nm cs nx rs ins dels us = true) :
    tabB nm cs nx rs = true ∧ (dels.Pairwise (· < ·) ∧ ∀ id ∈ dels, id ∈ rs.map (·.1)) ∧ (us.map (·.1)).Pairwise (· < ·) ∧ ∀ u ∈ us, u.1 ∈ rs.map (·.1) ∧ dels.contains u.1 = false := by
  unfold chgB at h
  simp only [Bool.and_eq_true] at h
  obtain ⟨⟨⟨⟨h1, h2⟩, h3⟩, h4⟩, h5⟩ := h
  obtain ⟨a1, a2⟩ := rowsK_spec h2
  obtain ⟨b1, b2⟩ := rowsK_spec h4
  exact ⟨h1, ⟨a1, fun id hd => getR_some (a2 id hd).1⟩, b1, fun u hu => ⟨getR_some (b2 u.1 (List.mem_map_of_mem hu)).1, (b2 u.1 (List.mem_map_of_mem hu)).2.1⟩⟩
theorem apOk_of {nm : ByteArray} {cs : List Col} {nx : Int} {rs : List Row} {ins : List (List Vl)} {dels : List Int} {us : List Upd} {T : Tb} (h : applyC nm cs nx rs ins dels us = (0, T)) : ApOk nm cs nx rs ins dels us T := by
  unfold applyC at h
  split at h
  · injection h with h; omega
  · rename_i hc
    split at h
    · rename_i hf; injection h with h; exact absurd h hf
    · rename_i hf
      split at h
      · injection h with h; omega
      · rename_i hl
        split at h
        · injection h with h; omega
        · rename_i hd
          injection h with _ h
          obtain ⟨h1, ⟨h2, h3⟩, h4, h5⟩ := chgB_ok (by simpa using hc)
          obtain ⟨_, _, _, _, k5, _⟩ := tabB_ok h1
          obtain ⟨k6, k7⟩ := okR_asc k5
          have hg := goR_eq (dels := dels) rs us k6 h4 h5
          have hfc := fitsC_all (Decidable.not_not.1 hf)
          refine ⟨h1, ?_, k6, k7, h2, h3, h4, h5, ?_, ⟨fun u hu => hfc.1 _ (List.mem_map_of_mem hu), hfc.2⟩, by omega, by omega⟩
          · rw [← h]; unfold outR; rw [hg]
          · unfold outR at hd; rw [hg] at hd; simpa using hd
theorem find_uniq {l : List Row} (h : (l.map (·.1)).Pairwise (· < ·)) {r : Row} (hr : r ∈ l) : l.find? (fun x => x.1 == r.1) = some r := by
  induction l with
  | nil => cases hr
  | cons x l ih =>
    obtain ⟨h1, h2⟩ := List.pairwise_cons.1 h
    rcases List.mem_cons.1 hr with rfl | hr
    · simp
    · have : x.1 < r.1 := h1 r.1 (List.mem_map_of_mem (f := fun x : Row => x.1) hr)
      rw [List.find?_cons, show (x.1 == r.1) = false by rw [beq_eq_false_iff_ne]; omega]
      exact ih h2 hr
theorem getR_none {l : List Row} {id : Int} (h : ∀ r ∈ l, r.1 ≠ id) : getR l id = none := by
  unfold getR
  rw [List.find?_eq_none.2 fun x hx => by simpa using h x hx]; rfl
theorem getR_app (a b : List Row) (id : Int) : getR (a ++ b) id = (getR a id).or (getR b id) := by
  unfold getR
  rw [List.find?_append]
  cases a.find? (fun r => r.1 == id) <;> simp
theorem insR_at : ∀ (ins : List (List Vl)) (nx : Int) (i : Nat), getR (insR nx ins) (nx + (i : Int)) = ins[i]? := by
  intro ins nx i
  have key : ∀ (l : List (List Vl)) (k : Nat) (i : Nat), k ≤ i → getR ((l.zipIdx k).map fun p => (nx + (p.2 : Int), p.1)) (nx + (i : Int)) = l[i - k]? := by
    intro l
    induction l with
    | nil => intro k i _; simp [getR]
    | cons v l ih =>
      intro k i hki
      rw [List.zipIdx_cons, List.map_cons]
      by_cases h : k = i
      · subst h
        simp [getR]
      · have h2 := ih (k + 1) i (by omega)
        have e : i - k = (i - (k + 1)) + 1 := by omega
        rw [e, List.getElem?_cons_succ, ← h2]
        unfold getR
        rw [List.find?_cons, show ((nx + (k : Int), v).1 == nx + (i : Int)) = false by rw [beq_eq_false_iff_ne]; show nx + (k : Int) ≠ _; omega]
  have := key ins 0 i (by omega)
  simpa [insR] using this
theorem insR_ge {ins : List (List Vl)} {nx : Int} : ∀ r ∈ insR nx ins, nx ≤ r.1 := fun r hr => by
  unfold insR at hr
  obtain ⟨p, _, rfl⟩ := List.mem_map.1 hr
  show nx ≤ nx + (p.2 : Int)
  omega
section
variable {nm : ByteArray} {cs : List Col} {nx : Int} {rs : List Row} {ins : List (List Vl)} {dels : List Int} {us : List Upd} {T : Tb}
theorem ApOk.asc2 (h : ApOk nm cs nx rs ins dels us T) : ((keepR dels us rs).map (·.1)).Pairwise (· < ·) := by
  have e : (keepR dels us rs).map (·.1) = (rs.filter fun r => !dels.contains r.1).map (·.1) := by simp [keepR]
  rw [e]
  exact List.Pairwise.sublist (List.Sublist.map _ List.filter_sublist) h.asc
/-- a row of before -/
theorem ApOk.old (h : ApOk nm cs nx rs ins dels us T) {r : Row} (hr : r ∈ rs) : getR T.rs r.1 = if dels.contains r.1 then none else some (wantR us r.1 r.2) := by
  rw [h.tb]
  show getR (keepR dels us rs ++ insR nx ins) r.1 = _
  rw [getR_app, getR_none (l := insR nx ins) fun x hx => by have := insR_ge x hx; have := (h.low r hr).2; omega, Option.or_none]
  cases hd : dels.contains r.1
  · have hm : (r.1, wantR us r.1 r.2) ∈ keepR dels us rs := List.mem_map.2 ⟨r, List.mem_filter.2 ⟨hr, by simp only [hd]; rfl⟩, rfl⟩
    have := find_uniq h.asc2 hm
    unfold getR
    rw [this]; simp
  · rw [getR_none fun x hx => ?_]
    · simp
    · obtain ⟨y, hy, rfl⟩ := List.mem_map.1 hx
      have := (List.mem_filter.1 hy).2
      intro e
      have e : y.1 = r.1 := e
      rw [e, hd] at this
      cases this
/-- a new row -/
theorem ApOk.new (h : ApOk nm cs nx rs ins dels us T) (i : Nat) : getR T.rs (nx + (i : Int)) = ins[i]? := by
  rw [h.tb]
  show getR (keepR dels us rs ++ insR nx ins) _ = _
  rw [getR_app, getR_none (l := keepR dels us rs) fun x hx => ?_, Option.none_or, insR_at]
  obtain ⟨y, hy, rfl⟩ := List.mem_map.1 hx
  have := (h.low y (List.mem_filter.1 hy).1).2
  show y.1 ≠ _
  omega
theorem ApOk.len (h : ApOk nm cs nx rs ins dels us T) : (T.rs.length : Int) = rs.length - dels.length + ins.length := by
  rw [h.tb]
  show ((keepR dels us rs ++ insR nx ins).length : Int) = _
  have h1 : (insR nx ins).length = ins.length := by simp [insR]
  have h2 : (keepR dels us rs).length = (rs.filter fun r => !dels.contains r.1).length := by simp [keepR]
  have hnd : (rs.map (·.1)).Nodup := h.asc.imp fun h => by omega
  have hdn : dels.Nodup := h.dasc.imp fun h => by omega
  have hp : ((rs.map (·.1)).filter fun id => dels.contains id).Perm dels := (List.perm_ext_iff_of_nodup (hnd.sublist List.filter_sublist) hdn).2 fun a => by
    simp only [List.mem_filter, List.contains_iff_mem]
    exact ⟨fun k => k.2, fun k => ⟨h.din a k, k⟩⟩
  have h3 : (rs.filter fun r => dels.contains r.1).length = dels.length := by
    rw [← hp.length_eq, List.filter_map, List.length_map]; rfl
  have h4 : (rs.filter fun r => dels.contains r.1).length + (rs.filter fun r => !dels.contains r.1).length = rs.length := by
    have : ∀ l : List Row, (l.filter fun r => dels.contains r.1).length + (l.filter fun r => !dels.contains r.1).length = l.length := by
      intro l
      induction l with
      | nil => rfl
      | cons x l ih => cases hx : dels.contains x.1 <;> simp only [List.filter_cons, hx, if_true, if_false, Bool.not_true, Bool.not_false, List.length_cons, Bool.false_eq_true] <;> omega
    exact this rs
  rw [List.length_append, h1, h2]
  omega
end
end Go.Proofs.YtmopojjhlbjhnaaDoor

namespace Go.Proofs.YtmopojjhlbjhnaaDoor
open Go.RowKit
set_option linter.unusedVariables false
set_option linter.unusedSimpArgs false

def Tryd.lays106_ren : Go.Shelf.Ren := ⟨fun | 106 => 110 | 213 => 151 | 265 => 165 | n => n, fun | 9 => 9 | 3 => 3 | n => n, fun | n => n⟩
theorem Tryd.lays106 : Go.Proofs.Lays.n106 Tryd.prog Tryd.lays106_ren := {
  mixed := by kernel_rfl
  f106 := Tryd.func110.trans (congrArg some (by kernel_rfl))
  f213 := Tryd.func151.trans (congrArg some (by kernel_rfl))
  f265 := Tryd.func165.trans (congrArg some (by kernel_rfl))
  t3 := Tryd.underlying3
  a3 := Tryd.isAgg3
  z3 := Tryd.sizeOf3
  v3 := Tryd.zeroValue3
  t9 := Tryd.underlying9
  a9 := Tryd.isAgg9
  z9 := Tryd.sizeOf9
  v9 := Tryd.zeroValue9 }
theorem cb_zero : ∀ x y : List UInt8, Lib.compareBytes x y = 0 ↔ x = y
  | [], [] => by simp [Lib.compareBytes]
  | [], b :: y => by simp [Lib.compareBytes]
  | a :: x, [] => by simp [Lib.compareBytes]
  | a :: x, b :: y => by
    simp only [Lib.compareBytes]
    by_cases h1 : a < b
    · have hne : a ≠ b := by
        rintro rfl
        have h' : a.toNat < a.toNat := h1
        omega
      simp [h1, hne]
    · by_cases h2 : b < a
      · have hne : a ≠ b := by
          rintro rfl
          exact h1 h2
        simp [h1, h2, hne]
      · have he : a = b := by
          have h1' : ¬ a.toNat < b.toNat := h1
          have h2' : ¬ b.toNat < a.toNat := h2
          exact UInt8.toNat_inj.1 (by omega)
        subst he
        have := cb_zero x y
        simp [h1, this]
/-- a number that is 0 just if p -/
def CmpIs (p : Prop) (e : Ending) : Prop := ∃ r : Int, e = .returned (.int .i64 r) ∧ (r = 0 ↔ p)
theorem scmp_any (a b : ByteArray) (w : World) : Calls Tryd.prog 110 #[.string a, .string b] w fun e w' => CmpIs (a = b) e ∧ w = w' := by
  have h := Any.strings_Compare Tryd.lays106 a b w
  change Calls Tryd.prog 110 _ _ _ at h
  refine h.mono ?_
  rintro e w' ⟨rfl, rfl⟩
  refine ⟨⟨_, rfl, ?_⟩, rfl⟩
  rw [cb_zero]
  exact ⟨fun h => bytesEq (by rw [ByteArray.toList_eq, ByteArray.toList_eq]; exact h), fun h => by rw [h]⟩
set_option maxHeartbeats 1000000 in
theorem rcompare_any (x y : Vl) (w : World) : Calls Tryd.prog 66 #[.agg #[.int .i64 x.k, .int .i64 x.i, .string x.s], .agg #[.int .i64 y.k, .int .i64 y.i, .string y.s]] w fun e w' => CmpIs (x = y) e ∧ Below w.heap.size w w' := by
  obtain ⟨xk, xi, xs⟩ := x
  obtain ⟨yk, yi, ys⟩ := y
  dsimp only
  have K0 := ((Hold.begin_ w).alloc_cst #[.int .i64 xk, .int .i64 xi, .string xs] 57).alloc_cst #[.int .i64 yk, .int .i64 yi, .string ys] 57
  rw [World.size_alloc] at K0
  have F0 := K0.facts
  simp only [World.size_alloc, World.size_drew, factsL, cellsF, Nat.reduceAdd, List.toList_toArray, List.set_cons_zero, List.set_cons_succ, List.setIfInBounds_toArray, and_true, true_and] at F0
  by_cases hk : xk = yk
  · subst hk
    have hb : (xk != xk) = false := by simp
    by_cases hi : xi = yi
    · subst hi
      have hb2 : (xi != xi) = false := by simp
      go_enter Tryd.func66, Tryd.ntmps66
      go_wp2_with fail
      refine (scmp_any xs ys _).mono ?_
      rintro e w1 ⟨⟨r, rfl, hr⟩, rfl⟩
      have HR := hid hr
      clear hr
      go_wp2_with fail
      go_ret
      refine ⟨⟨r, rfl, ?_⟩, K0.below⟩
      rw [HR.out]; simp
    · have hb2 : (xi != yi) = true := by simpa using hi
      have HI := hid hi
      rcases Int.lt_or_le xi yi with hl | hl
      · have hd : decide (xi < yi) = true := by simpa using hl
        clear hi hl
        go_enter Tryd.func66, Tryd.ntmps66
        go_wp2_with fail
        go_ret
        exact ⟨⟨-1, rfl, by have := HI.out; simp [this]⟩, K0.below⟩
      · have hd : decide (xi < yi) = false := by rw [decide_eq_false_iff_not]; omega
        clear hi hl
        go_enter Tryd.func66, Tryd.ntmps66
        go_wp2_with fail
        go_ret
        exact ⟨⟨1, rfl, by have := HI.out; simp [this]⟩, K0.below⟩
  · have hb : (xk != yk) = true := by simpa using hk
    have HI := hid hk
    rcases Int.lt_or_le xk yk with hl | hl
    · have hd : decide (xk < yk) = true := by simpa using hl
      clear hk hl
      go_enter Tryd.func66, Tryd.ntmps66
      go_wp2_with fail
      go_ret
      exact ⟨⟨-1, rfl, by have := HI.out; simp [this]⟩, K0.below⟩
    · have hd : decide (xk < yk) = false := by rw [decide_eq_false_iff_not]; omega
      clear hk hl
      go_enter Tryd.func66, Tryd.ntmps66
      go_wp2_with fail
      go_ret
      exact ⟨⟨1, rfl, by have := HI.out; simp [this]⟩, K0.below⟩
def CmpSlot (p : Prop) (u : Value) (_ : World) : Prop := ∃ r : Int, u = .int .i64 r ∧ (r = 0 ↔ p)
theorem take_ne {α : Type} {xs ys : List α} {k : Nat} {x y : α} (hx : xs[k]? = some x) (hy : ys[k]? = some y) (h : x ≠ y) : xs ≠ ys := by
  rintro rfl
  rw [hx] at hy
  injection hy with hy
  exact h hy
set_option maxHeartbeats 4000000 in
set_option maxRecDepth 100000 in
theorem rcmprows_any (M : Nat → Prop) (w : World) (hM : ∀ b, M b → b < w.heap.size) (A : Option Addr) (n c : Nat) (xs : List Vl) (B : Option Addr) (m d : Nat) (ys : List Vl) (hD : Ro w M (VlsIn A n xs)) (hE : Ro w M (VlsIn B m ys)) (hn : n ≤ 9223372036854775807) (hm : m ≤ 9223372036854775807) :
    Calls Tryd.prog 25 #[.slice A n c, .slice B m d] w fun e w' => CmpIs (xs = ys) e ∧ Below w.heap.size w w' := by
  have HX := hid hD.now.len
  have HY := hid hE.now.len
  have K0 := ((Hold.start M w hM).add (hE.less (by simp [Mut]))).add (hD.less (by simp [Mut, Hp.foot]))
  clear hD hE
  go_enter Tryd.func25, Tryd.ntmps25
  go_wp2_with fail
  go_loopw [5] (fun iv wr => ∃ k : Nat, k ≤ n ∧ k ≤ m ∧ iv = .int .i64 k ∧ Hid (xs.take k = ys.take k) ∧ Hold M none w wr [.ro (VlsIn A n xs), .ro (VlsIn B m ys)]) (fun iv _ => n - (intOf iv).toNat)
  case atStart => exact ⟨0, by omega, by omega, rfl, hid rfl, K0⟩
  case round =>
    clear K0
    obtain ⟨k, hk, hkm, rfl, HT, H⟩ := hrel
    by_cases hlt : k < n
    · have hd : decide ((k : Int) < (n : Int)) = true := by simp; omega
      by_cases hltm : k < m
      · have hdm : decide ((k : Int) < (m : Int)) = true := by simp; omega
        have k0 : (0 : Int) ≤ (k : Int) := by omega
        have k1 : (k : Int) < (n : Int) := by omega
        have k2 : (k : Int) < (m : Int) := by omega
        obtain ⟨x, hx⟩ := get_of HX.out hlt
        obtain ⟨y, hy⟩ := get_of HY.out hltm
        obtain ⟨b1, o1, rfl, r1⟩ := (H.ro 0 rfl).vlsAt hx
        obtain ⟨b2, o2, rfl, r2⟩ := (H.ro 1 rfl).vlsAt hy
        have HXX := hid hx
        have HYY := hid hy
        clear hx hy
        have K1 := (H.add r1).add (r2.less (mut_none rfl))
        clear r1 r2
        obtain ⟨KL, hKL, K2⟩ := K1.name
        clear K1
        have HF : Hid (∀ wv, Hold M none w wv KL → (b2 < wv.heap.size ∧ wv.cell? ⟨b2, o2 + k * 3, none⟩ = some (.int .i64 y.k) ∧ wv.cell? ⟨b2, o2 + k * 3 + 1, none⟩ = some (.int .i64 y.i) ∧ wv.cell? ⟨b2, o2 + k * 3 + 2, none⟩ = some (.string y.s)) ∧ b1 < wv.heap.size ∧ wv.cell? ⟨b1, o1 + k * 3, none⟩ = some (.int .i64 x.k) ∧ wv.cell? ⟨b1, o1 + k * 3 + 1, none⟩ = some (.int .i64 x.i) ∧ wv.cell? ⟨b1, o1 + k * 3 + 2, none⟩ = some (.string x.s)) := hid fun wv HC => by
          rw [hKL] at HC
          exact ⟨(HC.ro 0 rfl).now, (HC.ro 1 rfl).now⟩
        have HKL := hid hKL
        clear hKL
        go_wp2_with fail
        refine wp_region_any (by kernel_rfl) ?_
        refine wpAny_hold 10 41 (KL) (spL [(27, CmpSlot (x = y))]) (by kernel_rfl) (by kernel_rfl) (by kernel_rfl) rfl ?_ (K2.drew) ?_
        · exact stays_cons (fun _ _ _ _ h => h) (stays_nil _)
        simp only [List.take_succ_cons, List.take_zero, List.drop_succ_cons, List.drop_zero, Act.put, List.getElem_toArray, List.getElem_cons_zero, List.getElem_cons_succ, List.setIfInBounds_toArray, List.set_cons_succ, List.set_cons_zero]
        refine dw_val rfl rfl rfl ?_; apply Exists.intro; refine ⟨fun wv HC => ?_, ?_⟩
        ·  go_simp <;> rfl
        simp only [Act.put, List.setIfInBounds_toArray, List.set_cons_succ, List.set_cons_zero]
        refine dw_val rfl rfl rfl ?_; apply Exists.intro; refine ⟨fun wv HC => ?_, ?_⟩
        ·  go_simp <;> rfl
        simp only [Act.put, List.setIfInBounds_toArray, List.set_cons_succ, List.set_cons_zero]
        refine dw_val rfl rfl rfl ?_; apply Exists.intro; refine ⟨fun wv HC => ?_, ?_⟩
        ·  go_simp <;> rfl
        simp only [Act.put, List.setIfInBounds_toArray, List.set_cons_succ, List.set_cons_zero]
        refine dw_val rfl rfl rfl ?_; apply Exists.intro; refine ⟨fun wv HC => ?_, ?_⟩
        · obtain ⟨⟨f0, f1, f2, f3⟩, f4, f5, f6, f7⟩ := HF.out _ HC; go_simp <;> rfl
        simp only [Act.put, List.setIfInBounds_toArray, List.set_cons_succ, List.set_cons_zero]
        refine dw_val rfl rfl rfl ?_; apply Exists.intro; refine ⟨fun wv HC => ?_, ?_⟩
        ·  go_simp <;> rfl
        simp only [Act.put, List.setIfInBounds_toArray, List.set_cons_succ, List.set_cons_zero]
        refine dw_val rfl rfl rfl ?_; apply Exists.intro; refine ⟨fun wv HC => ?_, ?_⟩
        ·  go_simp <;> rfl
        simp only [Act.put, List.setIfInBounds_toArray, List.set_cons_succ, List.set_cons_zero]
        refine dw_val rfl rfl rfl ?_; apply Exists.intro; refine ⟨fun wv HC => ?_, ?_⟩
        ·  go_simp <;> rfl
        simp only [Act.put, List.setIfInBounds_toArray, List.set_cons_succ, List.set_cons_zero]
        refine dw_val rfl rfl rfl ?_; apply Exists.intro; refine ⟨fun wv HC => ?_, ?_⟩
        · obtain ⟨⟨f0, f1, f2, f3⟩, f4, f5, f6, f7⟩ := HF.out _ HC; go_simp <;> rfl
        simp only [Act.put, List.setIfInBounds_toArray, List.set_cons_succ, List.set_cons_zero]
        refine dw_callR 27 (CmpSlot (x = y)) (f := 66) (args := #[.agg #[.int .i64 x.k, .int .i64 x.i, .string x.s], .agg #[.int .i64 y.k, .int .i64 y.i, .string y.s]]) rfl rfl rfl rfl (fun wv => ?_) (fun wv HC hrm hD => ?_) ?_
        · go_simp <;> rfl
        · refine (rcompare_any x y wv).mono ?_
          rintro e w5 ⟨⟨r, rfl, hr⟩, b5⟩
          exact ⟨_, rfl, ⟨r, rfl, hr⟩, HC.call b5, RM.below b5⟩
        rintro u wx HCx ⟨r, rfl, hr⟩
        have HR := hid hr
        clear HCx hr
        simp only [Act.put, List.setIfInBounds_toArray, List.set_cons_succ, List.set_cons_zero]
        refine dw_val rfl rfl rfl ?_; apply Exists.intro; refine ⟨fun wv HC => ?_, ?_⟩
        ·  go_simp <;> rfl
        simp only [Act.put, List.setIfInBounds_toArray, List.set_cons_succ, List.set_cons_zero]
        refine rel_nil ?_
        rintro wx2 HX2
        rintro _hrm _HG
        rw [HKL.out] at HX2
        clear _hrm _HG
        have K3 := HX2.drop (List.Sublist.cons _ (List.sublist_cons_self _ _))
        by_cases hr0 : r = 0
        · have hb : (r != 0) = false := by simp [hr0]
          have HN := hid (takeEq_succ HXX.out HYY.out HT.out (HR.out.1 hr0))
          clear hr0
          go_wp2_with fail
          go_roundw
          case rel => exact ⟨k + 1, by omega, by omega, by go_num, HN, K3⟩
          case measure => simp [intOf]; omega
        · have hb : (r != 0) = true := by simpa using hr0
          have HN := hid (show r = 0 ↔ xs = ys from ⟨fun h => absurd h hr0, fun h => absurd h (take_ne HXX.out HYY.out fun e => hr0 (HR.out.2 e))⟩)
          clear hr0
          go_wp2_with fail
          go_ret
          exact ⟨⟨r, rfl, HN.out⟩, K3.below⟩
      · obtain rfl : k = m := by omega
        have hdm : decide ((k : Int) < (k : Int)) = false := by simp
        have hd2 : decide ((n : Int) < (k : Int)) = false := by rw [decide_eq_false_iff_not]; omega
        have hd3 : decide ((k : Int) < (n : Int)) = true := by simp; omega
        have hd4 : decide ((n : Int) > (k : Int)) = true := by simp; omega
        have HN := hid (show xs ≠ ys from fun e => by have h1 := HX.out; have h2 := HY.out; rw [e] at h1; omega)
        go_wp2_with fail
        go_ret
        exact ⟨⟨1, rfl, by have := HN.out; simp [this]⟩, H.below⟩
    · obtain rfl : k = n := by omega
      have hd : decide ((k : Int) < (k : Int)) = false := by simp
      by_cases hkm2 : k = m
      · subst hkm2
        have hd4 : decide ((k : Int) > (k : Int)) = false := by simp
        have HN := hid (show xs = ys by have h := HT.out; rwa [List.take_of_length_le (by rw [HX.out]; exact Nat.le_refl _), List.take_of_length_le (by rw [HY.out]; exact Nat.le_refl _)] at h)
        go_wp2_with fail
        go_ret
        exact ⟨⟨0, rfl, by have := HN.out; simp [this]⟩, H.below⟩
      · have hd2 : decide ((k : Int) < (m : Int)) = true := by simp; omega
        have HN := hid (show xs ≠ ys from fun e => by have h1 := HX.out; have h2 := HY.out; rw [e] at h1; omega)
        have hkm3 : k < m := by omega
        clear hkm2
        go_wp2_with fail
        go_ret
        exact ⟨⟨-1, rfl, by have := HN.out; simp [this]⟩, H.below⟩
end Go.Proofs.YtmopojjhlbjhnaaDoor

namespace Go.Proofs.YtmopojjhlbjhnaaDoor
open Go.RowKit
set_option linter.unusedVariables false
set_option linter.unusedSimpArgs false

theorem kapply_slot (M : Nat → Prop) (w : World) (hM : ∀ b, M b → b < w.heap.size) (v c : Value) (t : Tb) (ins : List (List Vl)) (dels : List Int) (us : List Upd) (hT : TbAt w M v t) (hC : ChgSlot M ins dels us c w) (hs : t.nm.size ≤ maxLen) (hcs : ∀ x ∈ t.cs, x.name.size ≤ maxLen)
    (hr : t.rs.length ≤ 1000000) (hi : ins.length ≤ 1000000) (hd : dels.length ≤ 1000000) (hu : us.length ≤ 1000000) :
    Calls Tryd.prog 42 #[v, c] w fun e w' => ∃ u, e = .returned u ∧ ApSlot M (applyC t.nm t.cs t.nx t.rs ins dels us) u w' ∧ Below w.heap.size w w' := by
  obtain ⟨A, n, cc, B, m, d, l, rfl, h1, h2, h3, h4, h5, h6, h7, h8⟩ := hT
  obtain ⟨x, y, z, rfl, ⟨I, ni, ci, pi, rfl, i1, i2, rfl, i4, i5⟩, ⟨D, nd, cd, rfl, d1, d2, d3⟩, ⟨U, nu, cu, pu, rfl, u1, u2, rfl, u4, u5⟩⟩ := hC
  have hml := h6.now.len
  have hil := i5.now.len
  have hul := u5.now.len
  have hdl : dels.length = nd := (show Rd w w.heap.size 1 D nd (iCells dels) from d3.now).1 |> fun h => by simpa [iCells] using h
  rw [← h8] at hr
  simp only [List.length_map] at hr hi hu
  have := kapply_any M w hM t.nm A n cc t.cs t.nx B m d l I ni ci pi D nd cd dels U nu cu pu h5 h6 i5 d3 u5 (by omega) (by omega) h7 hs hcs (by omega) (by omega) (by omega) u1 u2 i4 u4
  rw [h8] at this
  refine this.mono ?_
  rintro e w' ⟨v, rfl, hv, b⟩
  exact ⟨_, rfl, ⟨v, rfl, hv⟩, b⟩
end Go.Proofs.YtmopojjhlbjhnaaDoor

namespace Go.Proofs.YtmopojjhlbjhnaaDoor
open Go.RowKit
set_option linter.unusedVariables false
set_option linter.unusedSimpArgs false

def vKey (n : Int) : List Vl := [vNum n, vNum 0, vNil]
theorem vKey_ok {n : Int} (h : I64 n) : ∀ v ∈ vKey n, v.ok := fun v hv => by
  simp only [vKey, List.mem_cons, List.not_mem_nil, or_false] at hv
  rcases hv with rfl | rfl | rfl
  · exact vNum_ok h
  · exact vNum_ok (by unfold I64; omega)
  · exact vNil_ok
def KeyRet (w : World) (M : Nat → Prop) (n : Int) (e : Ending) (w' : World) : Prop := ∃ v, e = .returned v ∧ VlsSlot M (vKey n) v w' ∧ Below w.heap.size w w'
set_option maxHeartbeats 1000000 in
theorem keyed_any (M : Nat → Prop) (w : World) (hM : ∀ b, M b → b < w.heap.size) (n : Int) : Calls Tryd.prog 95 #[.int .i64 n] w fun e w' => KeyRet w M n e w' := by
  have K0 := Hold.start M w hM
  go_enter Tryd.func95, Tryd.ntmps95
  go_wp2_with fail
  refine (num_any n _).mono ?_
  rintro e w1 ⟨rfl, b1⟩
  have K1 := K0.call b1
  clear K0 b1
  go_wp2_with fail
  refine (num_any 0 _).mono ?_
  rintro e w2 ⟨rfl, b2⟩
  have K2 := (K1.call b2).alloc_cst #[.int .i64 1, .int .i64 n, .string ⟨#[]⟩, .int .i64 1, .int .i64 0, .string ⟨#[]⟩, .int .i64 0, .int .i64 0, .string ⟨#[]⟩] 57
  have b3 := K2.below
  have hr : Ro _ M (SlR 3 (some ⟨w2.heap.size, 0, none⟩) 3 (vlCells (vKey n))) := ro_block (t := 57) (cs := #[.int .i64 1, .int .i64 n, .string ⟨#[]⟩, .int .i64 1, .int .i64 0, .string ⟨#[]⟩, .int .i64 0, .int .i64 0, .string ⟨#[]⟩]) (n := 3) (size := 3) ((K2.get 0 rfl).less (fun b hb => .inl hb)) rfl
  clear K1 K2 b2
  go_wp2_with fail
  go_ret
  exact ⟨_, rfl, ⟨_, 3, 3, rfl, rfl, by omega, by omega, hr⟩, b3⟩
/-- the first rows of pairs -/
def pRows : List Row := [(1, vKey 1), (2, vKey 2)]
def PairsRet (w : World) (M : Nat → Prop) (e : Ending) (w' : World) : Prop := ∃ v, e = .returned v ∧ TbAt w' M v ⟨nmU, uCols, 3, pRows⟩ ∧ Below w.heap.size w w'
set_option maxHeartbeats 4000000 in
set_option maxRecDepth 100000 in
theorem pairs_any (M : Nat → Prop) (w : World) (hM : ∀ b, M b → b < w.heap.size) : Calls Tryd.prog 94 #[] w fun e w' => PairsRet w M e w' := by
  have K0 := (Hold.start M w hM).alloc #[.string ⟨#[]⟩, .slice none 0 0, .int .i64 0, .slice none 0 0] 43
  go_enter Tryd.func94, Tryd.ntmps94
  go_wp2_with fail
  refine (schema_u _ _ K0.mutLt).mono ?_
  rintro e w1 ⟨A, n, c, rfl, h1, h2, r1, b1⟩
  have K1 := (((K0.call b1).add r1).alloc #[.string nmU, .slice A n c, .int .i64 3, .slice none 0 0] 43)
  clear K0 r1 b1
  obtain ⟨gt, hgt⟩ : ∃ gt, gt = w1.heap.size := ⟨_, rfl⟩
  rw [← hgt] at K1
  generalize hU : nmU = nu at *
  have HU := hid hU
  clear hU
  have K2 := ((K1.add (ro_vals_nil _ _)).nil 71 2)
  go_wp2_with fail
  rw [← hgt]
  have HGT := hid hgt
  clear hgt K1
  go_loopw [2] (fun iv wr => ∃ (k cap : Nat) (O : Option Addr) (outs : List Rw), k ≤ 2 ∧ iv = .int .i64 ((k : Int) + 1) ∧ (∀ r ∈ outs, r.ok) ∧ Hid (outs.map Rw.row = pRows.take k) ∧ Hold M none w wr [.own 71 2 (.slice O k cap) k (rwCells outs), .ro (ValsIn outs), .blk gt 43 #[.string nu, .slice A n c, .int .i64 3, .slice O k cap], .ro (SlR 4 A n (colCells uCols)), .blk w.heap.size 43 #[.string ⟨#[]⟩, .slice none 0 0, .int .i64 0, .slice none 0 0]]) (fun iv _ => 3 - (intOf iv).toNat)
  case atStart => exact ⟨0, 0, none, [], by omega, rfl, (fun r hr => nomatch hr), hid rfl, K2⟩
  case round =>
    clear K2
    obtain ⟨k, cap, O, outs, hk, rfl, hoo, HO, H⟩ := hrel
    have F := H.facts
    simp only [World.size_alloc, World.size_drew, factsL, cellsF, Nat.reduceAdd, List.toList_toArray, List.set_cons_zero, List.set_cons_succ, List.setIfInBounds_toArray, and_true, true_and] at F
    by_cases hlt : k < 2
    · have hdd : decide ((k : Int) + 1 ≤ 2) = true := by simp; omega
      obtain ⟨i, hi⟩ : ∃ i : Int, i = (k : Int) + 1 := ⟨_, rfl⟩
      rw [← hi] at hdd ⊢
      have hi2 : i ≤ 2 := by omega
      have hi1 : 1 ≤ i := by omega
      have HI := hid hi
      clear hi
      go_wp2_with fail
      refine wp_region_any (by kernel_rfl) ?_
      refine wpAny_hold 10 22 ([.own 71 2 (.slice O k cap) k (rwCells outs), .ro (ValsIn outs), .blk gt 43 #[.string nu, .slice A n c, .int .i64 3, .slice O k cap], .ro (SlR 4 A n (colCells uCols)), .blk w.heap.size 43 #[.string ⟨#[]⟩, .slice none 0 0, .int .i64 0, .slice none 0 0]]) (spL [(13, IsV (vNum i).val), (14, IsV (vNum 0).val), (16, VlsSlot (Mut M ([.own 71 2 (.slice O k cap) k (rwCells outs), .ro (ValsIn outs), .blk gt 43 #[.string nu, .slice A n c, .int .i64 3, .slice O k cap], .ro (SlR 4 A n (colCells uCols)), .blk w.heap.size 43 #[.string ⟨#[]⟩, .slice none 0 0, .int .i64 0, .slice none 0 0]])) (vKey i)), (17, RowSlot (Mut M ([.own 71 2 (.slice O k cap) k (rwCells outs), .ro (ValsIn outs), .blk gt 43 #[.string nu, .slice A n c, .int .i64 3, .slice O k cap], .ro (SlR 4 A n (colCells uCols)), .blk w.heap.size 43 #[.string ⟨#[]⟩, .slice none 0 0, .int .i64 0, .slice none 0 0]])) i (vKey i)), (18, RBoxSlot (Mut M ([.own 71 2 (.slice O k cap) k (rwCells outs), .ro (ValsIn outs), .blk gt 43 #[.string nu, .slice A n c, .int .i64 3, .slice O k cap], .ro (SlR 4 A n (colCells uCols)), .blk w.heap.size 43 #[.string ⟨#[]⟩, .slice none 0 0, .int .i64 0, .slice none 0 0]])) i (vKey i))]) (by kernel_rfl) (by kernel_rfl) (by kernel_rfl) rfl ?_ (H.drew) ?_
      · exact stays_cons isV_mono (stays_cons isV_mono (stays_cons vlsSlot_mono (stays_cons rowSlot_mono (stays_cons rboxSlot_mono (stays_nil _)))))
      simp only [List.take_succ_cons, List.take_zero, List.drop_succ_cons, List.drop_zero, Act.put, List.getElem_toArray, List.getElem_cons_zero, List.getElem_cons_succ, List.setIfInBounds_toArray, List.set_cons_succ, List.set_cons_zero]
      refine dw_val rfl rfl rfl ?_; apply Exists.intro; refine ⟨fun wv HC => ?_, ?_⟩
      ·  go_simp <;> rfl
      simp only [Act.put, List.setIfInBounds_toArray, List.set_cons_succ, List.set_cons_zero]
      refine dw_val rfl rfl rfl ?_; apply Exists.intro; refine ⟨fun wv HC => ?_, ?_⟩
      · have FC := HC.facts; simp only [factsL, cellsF, Nat.reduceAdd, List.toList_toArray, and_true, true_and] at FC; go_simp <;> rfl
      simp only [Act.put, List.setIfInBounds_toArray, List.set_cons_succ, List.set_cons_zero]
      refine dw_val rfl rfl rfl ?_; apply Exists.intro; refine ⟨fun wv HC => ?_, ?_⟩
      ·  go_simp <;> rfl
      simp only [Act.put, List.setIfInBounds_toArray, List.set_cons_succ, List.set_cons_zero]
      refine dw_val rfl rfl rfl ?_; apply Exists.intro; refine ⟨fun wv HC => ?_, ?_⟩
      ·  go_simp <;> rfl
      simp only [Act.put, List.setIfInBounds_toArray, List.set_cons_succ, List.set_cons_zero]
      refine dw_callR 13 (IsV (vNum i).val) (f := 37) (args := #[.int .i64 i]) rfl rfl rfl rfl (fun wv => ?_) (fun wv HC hrm hD => ?_) ?_
      · go_simp <;> rfl
      · refine (num_any i wv).mono ?_
        rintro e w6 ⟨rfl, b6⟩
        exact ⟨_, rfl, rfl, HC.call b6, RM.below b6⟩
      rintro u wx HCx hu
      obtain rfl : u = _ := hu
      clear HCx
      simp only [Act.put, List.setIfInBounds_toArray, List.set_cons_succ, List.set_cons_zero]
      refine dw_callR 14 (IsV (vNum 0).val) (f := 37) (args := #[.int .i64 0]) rfl rfl rfl rfl (fun wv => ?_) (fun wv HC hrm hD => ?_) ?_
      · go_simp <;> rfl
      · refine (num_any 0 wv).mono ?_
        rintro e w6 ⟨rfl, b6⟩
        exact ⟨_, rfl, rfl, HC.call b6, RM.below b6⟩
      rintro u wx HCx hu
      obtain rfl : u = _ := hu
      clear HCx
      simp only [Act.put, List.setIfInBounds_toArray, List.set_cons_succ, List.set_cons_zero]
      refine dw_val rfl rfl rfl ?_; apply Exists.intro; refine ⟨fun wv HC => ?_, ?_⟩
      ·  go_simp <;> rfl
      simp only [Act.put, List.setIfInBounds_toArray, List.set_cons_succ, List.set_cons_zero]
      refine dw_new #[.int .i64 1, .int .i64 i, .string ⟨#[]⟩, .int .i64 1, .int .i64 0, .string ⟨#[]⟩, .int .i64 0, .int .i64 0, .string ⟨#[]⟩] 57 16 (VlsSlot (Mut M ([.own 71 2 (.slice O k cap) k (rwCells outs), .ro (ValsIn outs), .blk gt 43 #[.string nu, .slice A n c, .int .i64 3, .slice O k cap], .ro (SlR 4 A n (colCells uCols)), .blk w.heap.size 43 #[.string ⟨#[]⟩, .slice none 0 0, .int .i64 0, .slice none 0 0]])) (vKey i)) (fun g => .slice (some ⟨g, 0, none⟩) 3 3) rfl rfl rfl rfl (fun wv => ?_) (fun wv HC _hrm hD hro => ?_) ?_
      · unfold Vl.val vNum
        go_simp <;> rfl
      · exact ⟨_, 3, 3, rfl, rfl, by omega, by omega, ro_block (hro _ HC.mutLt) rfl⟩
      rintro g1 wg HCg hsl
      simp only [Act.put, List.setIfInBounds_toArray, List.set_cons_succ, List.set_cons_zero]
      clear hsl HCg
      refine dw_valC 17 (RowSlot (Mut M ([.own 71 2 (.slice O k cap) k (rwCells outs), .ro (ValsIn outs), .blk gt 43 #[.string nu, .slice A n c, .int .i64 3, .slice O k cap], .ro (SlR 4 A n (colCells uCols)), .blk w.heap.size 43 #[.string ⟨#[]⟩, .slice none 0 0, .int .i64 0, .slice none 0 0]])) i (vKey i)) rfl rfl rfl rfl (.agg #[.int .i64 i, .slice (some ⟨g1, 0, none⟩) 3 3]) (fun wv HC => ?_) (fun wv HC hD => ?_) ?_
      · go_simp <;> rfl
      · have hsl : VlsSlot (Mut M ([.own 71 2 (.slice O k cap) k (rwCells outs), .ro (ValsIn outs), .blk gt 43 #[.string nu, .slice A n c, .int .i64 3, .slice O k cap], .ro (SlR 4 A n (colCells uCols)), .blk w.heap.size 43 #[.string ⟨#[]⟩, .slice none 0 0, .int .i64 0, .slice none 0 0]])) (vKey i) (.slice (some ⟨g1, 0, none⟩) 3 3) wv := deps_at hD 7 rfl (by kernel_rfl) rfl rfl
        obtain ⟨A6, n6, c6, e6, h1, h2, h3, h4⟩ := hsl
        exact ⟨A6, n6, c6, by rw [e6], h1, h2, h3, h4⟩
      simp only [Act.put, List.setIfInBounds_toArray, List.set_cons_succ, List.set_cons_zero]
      refine dw_new #[.int .i64 i, .slice (some ⟨g1, 0, none⟩) 3 3] 71 18 (RBoxSlot (Mut M ([.own 71 2 (.slice O k cap) k (rwCells outs), .ro (ValsIn outs), .blk gt 43 #[.string nu, .slice A n c, .int .i64 3, .slice O k cap], .ro (SlR 4 A n (colCells uCols)), .blk w.heap.size 43 #[.string ⟨#[]⟩, .slice none 0 0, .int .i64 0, .slice none 0 0]])) i (vKey i)) (fun g => .slice (some ⟨g, 0, none⟩) 1 1) rfl rfl rfl rfl (fun wv => ?_) (fun wv HC _hrm hD hro => ?_) ?_
      · go_simp <;> rfl
      · have hsl : RowSlot (Mut M ([.own 71 2 (.slice O k cap) k (rwCells outs), .ro (ValsIn outs), .blk gt 43 #[.string nu, .slice A n c, .int .i64 3, .slice O k cap], .ro (SlR 4 A n (colCells uCols)), .blk w.heap.size 43 #[.string ⟨#[]⟩, .slice none 0 0, .int .i64 0, .slice none 0 0]])) i (vKey i) (.agg #[.int .i64 i, .slice (some ⟨g1, 0, none⟩) 3 3]) wv := deps_at hD 8 rfl (by kernel_rfl) rfl rfl
        obtain ⟨A6, n6, c6, e6, h1, h2, h3, h4⟩ := hsl
        obtain ⟨rfl, rfl, rfl⟩ : some ⟨g1, 0, none⟩ = A6 ∧ 3 = n6 ∧ 3 = c6 := by
          injection e6 with e6
          simp at e6
          exact e6
        exact ⟨_, _, 3, 3, rfl, h1, h2, h3, h4.step (by simp) (fun b hb _ => Below.heap_alloc wv _ b hb) (fun _ _ h => h), ro_block (hro _ HC.mutLt) rfl⟩
      rintro g2 wg HCg hsl
      simp only [Act.put, List.setIfInBounds_toArray, List.set_cons_succ, List.set_cons_zero]
      clear hsl HCg
      refine rel_nil ?_
      rintro wx2 HX
      rintro _hrm HGW
      have hb2 : RBoxSlot (Mut M ([.own 71 2 (.slice O k cap) k (rwCells outs), .ro (ValsIn outs), .blk gt 43 #[.string nu, .slice A n c, .int .i64 3, .slice O k cap], .ro (SlR 4 A n (colCells uCols)), .blk w.heap.size 43 #[.string ⟨#[]⟩, .slice none 0 0, .int .i64 0, .slice none 0 0]])) i (vKey i) (.slice (some ⟨g2, 0, none⟩) 1 1) wx2 := (GW_on (d := 18) rfl).1 (HGW 9 _ rfl (by omega))
      clear HGW
      obtain ⟨g3, A6, n6, c6, e6, x0, x1, x2, x3, x4⟩ := hb2
      obtain rfl : g2 = g3 := by injection e6 with e6; injection e6 with e6; injection e6
      clear e6
      have k5 := hid x4.now
      clear x4
      have HRS := hid (show rwCells outs ++ [.int .i64 i, .slice A6 n6 c6] = rwCells (outs ++ [⟨i, A6, n6, c6, vKey i⟩]) from rwCells_snoc1 _ _ _ _ _ _)
      have KA := HX.add x3
      clear HX
      go_wp2_with (at_builtin; go_must (refine wpList_appAllH KA 1 rfl Tryd.elRw k5.out rfl (.tmp 10) (.tmp 18) rfl rfl rfl (by intro z hz; simp at hz; rcases hz with rfl | rfl <;> rfl) (by omega) (by omega) ?_); intro C' cap' w6 hc6 hm6 KB; rw [HRS.out] at KB; simp only [List.set_cons_zero, List.set_cons_succ] at KB; (have F3 := KB.facts); simp only [World.size_alloc, World.size_drew, factsL, cellsF, Nat.reduceAdd, List.toList_toArray, List.set_cons_zero, List.set_cons_succ, List.setIfInBounds_toArray, and_true, true_and] at F3)
      have KC := KB.store 3 rfl 3 (.slice C' (k + 1) cap')
      have KE := KC.swapRo 2 rfl (vals_snoc (r := ⟨i, A6, n6, c6, vKey i⟩) (KC.ro 2 rfl) (KC.ro 0 rfl))
      simp only [cellsF, List.set_cons_zero, List.set_cons_succ, List.setIfInBounds_toArray] at KE
      have HGN := hid (show List.map Rw.row (outs ++ [⟨i, A6, n6, c6, vKey i⟩]) = pRows.take (k + 1) by
        rw [List.map_append, HO.out, HI.out]
        rcases Nat.lt_or_ge k 1 with h | h
        · obtain rfl : k = 0 := by omega
          rfl
        · obtain rfl : k = 1 := by omega
          rfl)
      have HKR := KE.drop (List.sublist_cons_self _ _)
      have hI64 : I64 i := ⟨by omega, by omega⟩
      have hkok : ∀ r ∈ outs ++ [(⟨i, A6, n6, c6, vKey i⟩ : Rw)], r.ok := by intro x hx; rcases List.mem_append.1 hx with hx | hx; (exact hoo x hx); (simp at hx; subst hx; exact ⟨hI64, x1, x2, vKey_ok hI64⟩)
      have hik := HI.out
      go_wp2_with fail
      go_roundw
      case rel => exact ⟨k + 1, cap', _, _, by omega, by first | rfl | go_num, hkok, HGN, HKR⟩
      case measure => simp [intOf]; omega
    · obtain rfl : k = 2 := by omega
      have hdd : decide (((2 : Nat) : Int) + 1 ≤ 2) = false := by decide
      have hcq := own_caps (H.get 0 rfl)
      have KS := H.sealRow 0 rfl
      simp only [List.set_cons_zero] at KS
      have KN := (((KS.store 4 rfl 0 (.string nu)).store 4 rfl 1 (.slice A n c)).store 4 rfl 2 (.int .i64 3)).store 4 rfl 3 (.slice O 2 cap)
      clear H KS
      go_wp2_with fail
      exact bodyPost_ret (v := .agg #[.string nu, .slice A n c, .int .i64 3, .slice O 2 cap]) (by simp [results, Tryd.results94, go_sem, F]) rfl ⟨_, rfl, ⟨A, n, c, O, 2, cap, outs, by rw [HU.out], h1, by omega, hcq.1, hcq.2.1, KN.roOut 3 rfl, (KN.roOut 0 rfl).and (KN.roOut 1 rfl), hoo, by rw [HO.out]; rfl⟩, KN.below⟩
end Go.Proofs.YtmopojjhlbjhnaaDoor

namespace Go.Proofs.YtmopojjhlbjhnaaDoor
open Go Go.RowKit
set_option linter.unusedVariables false
set_option linter.unusedSectionVars false
set_option linter.unusedSimpArgs false

section
variable {P : Program} {ops : Array Oper} {C : World → Prop} {G : Option Tmp → Value → World → Prop} {R : World → World → Prop} {n N : Nat} {F : Act → Prop}

/-- an operation that reads its slots alone -/
def plainOp (o : Oper) : Bool := match o.op with
  | .move _ => true
  | .extract _ _ => true
  | _ => false
theorem plain_run {o : Oper} (h : plainOp o = true) {a : Act} {w : World} {C : World → Prop} {G : Option Tmp → Value → World → Prop} {R : World → World → Prop} (hg : goodUpon P C G R o.dst w ((execOp a.eval o).run P w)) :
    ∃ v, (∀ w', (execOp a.eval o).run P w' = .ok (.value v) w') ∧ G o.dst v w ∧ C w ∧ R w w := by
  unfold plainOp at h
  split at h
  · rename_i x hx
    have e : ∀ w', (execOp a.eval o).run P w' = .ok (.value (a.eval x)) w' := fun w' => by
      unfold execOp; simp only [hx, Sem.run_pure]
    rw [e w] at hg
    exact ⟨_, e, hg⟩
  · rename_i t ix hx
    have e : ∀ w', (execOp a.eval o).run P w' = ((Instr.extract (a.eval t) ix).run P w').andThen fun u => (pure (.value u) : Sem Next).run P := fun w' => by
      unfold execOp; simp only [hx, Sem.run_bind]
    by_cases hv : ∃ vs v, a.eval t = .tuple vs ∧ vs[ix]? = some v
    · obtain ⟨vs, v, h1, h2⟩ := hv
      have e2 : ∀ w', (execOp a.eval o).run P w' = .ok (.value v) w' := fun w' => by
        rw [e w', h1]; unfold Instr.extract; simp only [h2, Sem.run_pure, Result.andThen_ok]
      rw [e2 w] at hg
      exact ⟨_, e2, hg⟩
    · exfalso
      have hh : ∃ x w2, (Instr.extract (a.eval t) ix).run P w = .halt x w2 := by
        unfold Instr.extract
        split
        · rename_i vs hvs
          split
          · rename_i v hvv; exact absurd ⟨vs, v, hvs, hvv⟩ hv
          · exact ⟨_, _, rfl⟩
        · exact ⟨_, _, rfl⟩
      obtain ⟨x, w2, hh⟩ := hh
      rw [e w, hh] at hg
      exact hg
  · cases h
/-- the exempt ones: they read their slots alone, and are apart from all that does not wait for them -/
def waitS (ops : Array Oper) (i : Nat) : Array Bool := ((List.range ops.size).map fun j => Region.waitsFor .any ops i j).toArray
def exB (ops : Array Oper) (E : List Nat) (n : Nat) : Bool := E.all fun i => decide (i < n) && (match ops[i]? with | some o => plainOp o | none => false) && Region.free .any ops (waitS ops i) i
def sinkE (ops : Array Oper) (S0 : Array Bool) (E : List Nat) (n : Nat) : Bool := (List.range n).all fun i => E.contains i || S0.getD i false || (List.range (n + 1)).any fun j => decide (i < j) && !E.contains j && Region.waitsFor .any ops j i
theorem free_mono {i : Nat} {oi : Oper} (hi : ops[i]? = some oi) (h : Region.free .any ops (waitS ops i) i = true) (S : Array Bool) (hS : S.size = ops.size) (hw : ∀ e ∈ oi.after, Region.binds .any e = true → S.getD e.on false = true) : Region.free .any ops S i = true := by
  simp only [Region.free, hi, List.all_eq_true, List.mem_range] at h ⊢
  intro j hj
  have h1 := h j hj
  simp only [Bool.or_eq_true] at h1 ⊢
  rcases h1 with (h1 | h1) | h1
  · exact .inl (.inl h1)
  · have h2 : Region.waitsFor .any ops i j = true := by simpa [waitS, hj] using h1
    obtain ⟨o', ho', e, he, hb, hon⟩ := Region.waitsFor_spec h2
    obtain rfl : oi = o' := Option.some.inj (hi.symm.trans ho')
    have h3 := hw e he hb
    rw [hon] at h3
    have hl : j < S.size := by omega
    exact .inl (.inr (by simpa [hl] using h3))
  · exact .inr h1
theorem tail_waitsE {S0 listed : Array Bool} {E : List Nat} (hs : sinkE ops S0 E n = true) (hc : laterB ops n = true) (hn : n < ops.size) (inv : HeadInv .any ops n listed) (h0 : ∀ j, S0.getD j false = true → listed.getD j false = true) :
    ∀ (d i : Nat), n - i = d → i < n → E.contains i = false → listed.getD i true = false → ∀ t, n ≤ t → t ∉ Region.ready .any ops listed := by
  intro d
  induction d using Nat.strongRecOn with
  | _ d ih =>
    intro i hd hi hE hun t ht hr
    obtain ⟨_, ot, hot, hall⟩ := mem_ready.1 hr
    have htlt : t < ops.size := (Array.getElem?_eq_some_iff.1 hot).1
    by_cases htn : t = n
    · subst htn
      have h1 := List.all_eq_true.1 hs i (List.mem_range.2 hi)
      have hnot : S0.getD i false = false := by
        cases hS : S0.getD i false with
        | false => rfl
        | true => have := h0 i hS; rw [getD_both hun] at this; cases this
      rw [hE, hnot, Bool.false_or, Bool.false_or] at h1
      obtain ⟨j, hj, hj2⟩ := List.any_eq_true.1 h1
      simp only [Bool.and_eq_true, decide_eq_true_eq, Bool.not_eq_true'] at hj2
      obtain ⟨oj, hoj, e, he, hb, hon⟩ := Region.waitsFor_spec hj2.2
      have hjle : j ≤ t := by have := List.mem_range.1 hj; omega
      by_cases hjt : j = t
      · subst hjt
        have : oj = ot := Option.some.inj (hoj.symm.trans hot)
        subst this
        have h2 := hall e he hb
        rw [hon, getD_both hun] at h2
        cases h2
      · cases hl : listed.getD j false with
        | true =>
          have h2 := inv.closed j oj hoj hl e he hb
          rw [hon, getD_both hun] at h2
          cases h2
        | false =>
          have hjs : j < listed.size := by rw [inv.size]; omega
          exact ih (t - j) (by omega) j rfl (by omega) hj2.1.2 (getD_in hjs hl) t (Nat.le_refl _) hr
    · have h1 := List.all_eq_true.1 hc t (List.mem_range.2 htlt)
      simp only [Bool.or_eq_true, decide_eq_true_eq] at h1
      rcases h1 with h1 | h1
      · omega
      · obtain ⟨j, hj, hj2⟩ := List.any_eq_true.1 h1
        simp only [Bool.and_eq_true, decide_eq_true_eq] at hj2
        obtain ⟨o', ho', e, he, hb, hon⟩ := Region.waitsFor_spec hj2.2
        have : o' = ot := Option.some.inj (ho'.symm.trans hot)
        subst this
        have h2 := hall e he hb
        rw [hon, getD_both (inv.tail j hj2.1 (List.mem_range.1 hj))] at h2
        cases h2
theorem wpAny_of_wkE (sh : Shape ops n N) (hmono : ∀ d u w w', R w w' → G d u w → G d u w') (hR : ∀ w, C w → R w w) (hu : ∀ w, C w → G none undef w) {g : Nat} {Q : Exit → Act → World → Prop} (S0 : Array Bool) (E : List Nat)
    (hE : ∀ i, E.contains i = true → i < n ∧ ∃ oi, ops[i]? = some oi ∧ plainOp oi = true ∧ ∀ S : Array Bool, S.size = ops.size → (∀ e ∈ oi.after, Region.binds .any e = true → S.getD e.on false = true) → Region.free .any ops S i = true) (hno : Region.noSelect ops = true) (hQ : ∀ c d v a w, Q (.panic c) (a.put d v) w → Q (.panic c) a w)
    (htail : ∀ S, HeadInv .any ops n S → (∀ j, S0.getD j false = true → S.getD j false = true) → (∃ i, i < n ∧ E.contains i = false ∧ S.getD i true = false) → ∀ t, n ≤ t → t ∉ Region.ready .any ops S)
    (hend : ∀ S a w, HeadInv .any ops n S → (∀ j, j < n → S.getD j false = true) → C w → (∀ j oj, ops[j]? = some oj → j < n → G oj.dst (slot a oj.dst) w) → F a → wpAny P .any ops Q g S a w) :
    ∀ (f : Nat) (S : Array Bool) (a : Act) (w : World), HeadInv .any ops n S → (∀ j, S0.getD j false = true → S.getD j false = true) → unl n S = f → a.tmps.size = N → Inv ops C G S a w → Wk P ops C G R S F n 0 a → wpAny P .any ops Q (f + g) S a w
  | 0, S, a, w, hd, h0s, hf, hN, hI, h => by
    have hall := unl_zero hf (by rw [hd.size]; exact sh.le)
    rw [Nat.zero_add]
    exact hend S a w hd hall hI.1 (fun j oj hj hjn => hI.2 j oj hj (hall j hjn)) (Wk.done sh hmono n 0 a w (by omega) hall hI.1 (fun j oj hj hs => hI.2 j oj hj (hs.resolve_right (by omega))) h)
  | f + 1, S, a, w, hd, h0s, hf, hN, hI, h => by
    obtain ⟨k0, hk0, hun0⟩ := unl_pos hf
    obtain ⟨k, ⟨hk, hun⟩, hmin⟩ := least (p := fun j => j < n ∧ S.getD j true = false) k0 ⟨hk0, hun0⟩
    have hrk : k ∈ Region.ready .any ops S := by
      have hks : k < ops.size := by have := sh.le; omega
      refine mem_ready.2 ⟨hun, ops[k], Array.getElem?_eq_getElem hks, fun e he hb => ?_⟩
      have hlt := sh.back k _ (Array.getElem?_eq_getElem hks) hk e he hb
      cases hS : S.getD e.on false with
      | true => rfl
      | false => exact absurd ⟨by omega, getD_in (by rw [hd.size]; have := sh.le; omega) hS⟩ (hmin e.on hlt)
    rw [show f + 1 + g = (f + g) + 1 by omega]
    have hstep : ∀ i, i < n → i ∈ Region.ready .any ops S → ∃ oi, ops[i]? = some oi ∧ StepOk P ops C G R oi a ∧ Deps ops G oi a w ∧ ∀ u w', May P ops C G oi a u → C w' → R w w' → G oi.dst u w' → wpAny P .any ops Q (f + g) (S.setIfInBounds i true) (a.put oi.dst u) w' := fun i hin hi => by
      obtain ⟨huni, oi, hoi, hall⟩ := mem_ready.1 hi
      have hunf : S.getD i false = false := getD_both huni
      have hst := Wk.ready sh hmono hR hu hoi hin hunf hall n 0 a w (by omega) (by omega) hN hI.1 (fun j oj hj hs => hI.2 j oj hj (hs.resolve_right (by omega))) h
      have hD : Deps ops G oi a w := fun e he hb oe hoe => hI.2 e.on oe hoe (hall e he hb)
      refine ⟨oi, hoi, hst, hD, fun u w' hm hC' hR' hG' => ?_⟩
      refine wpAny_of_wkE sh hmono hR hu S0 E hE hno hQ htail hend f _ _ w' (hd.set hi hin) (fun j hj => getD_set_true (h0s j hj)) ?_ (by rw [size_put]; exact hN) ⟨hC', fun j oj hj hs => ?_⟩ (Wk.front sh hmono hoi hin (by rw [hd.size]) hunf hall n 0 a (by omega) (by omega) hN hm h)
      · have := unl_set hin huni; omega
      · by_cases hji : j = i
        · subst hji
          obtain rfl : oi = oj := Option.some.inj (hoi.symm.trans hj)
          exact slots_new sh hmono hN hj hG' (fun _ => hu w' hC')
        · rw [slots_keep sh hmono (S := S) hoi hj hji]
          rw [getD_set_ne false (Ne.symm hji)] at hs
          exact hmono _ _ _ _ hR' (hI.2 j oj hj hs)
    cases hkE : E.contains k with
    | true =>
      obtain ⟨_, ok, hok, hpl, hfr⟩ := hE k hkE
      obtain ⟨oi, hoi, hst, hD, hnext⟩ := hstep k hk hrk
      obtain ⟨_, o3, ho3, hall⟩ := mem_ready.1 hrk
      obtain rfl : oi = o3 := Option.some.inj (hoi.symm.trans ho3)
      obtain rfl : ok = oi := Option.some.inj (hok.symm.trans hoi)
      by_cases hw : Region.wanted ok (yielded ops a.tmps) = true
      · unfold StepOk at hst
        simp only [hw, if_true] at hst
        have hg := hst w hI.1 hD
        unfold Good at hg
        obtain ⟨v, hv, hG, hC, hRR⟩ := plain_run hpl hg
        refine wpAny_take hok hno (hfr S hd.size hall) (by simpa using hrk) (fun c a w => hQ c _ _ a w) (.inl ⟨hw, hv⟩) (hnext v w ?_ hC hRR hG)
        unfold May
        rw [if_pos hw]
        exact ⟨w, hI.1, hD, by rw [hv w]; rfl⟩
      · unfold StepOk at hst
        rw [if_neg hw] at hst
        refine wpAny_take hok hno (hfr S hd.size hall) (by simpa using hrk) (fun c a w => hQ c _ _ a w) (.inr ⟨by simpa using hw, rfl⟩) (hnext undef w ?_ hI.1 (hR w hI.1) (hst w hI.1))
        unfold May
        rw [if_neg hw]
    | false =>
    refine ⟨fun h0 => (by rw [h0] at hrk; cases hrk), fun i hi => ?_⟩
    have hin : i < n := by
      rcases Nat.lt_or_ge i n with h' | h'
      · exact h'
      · exact absurd hi (htail S hd h0s ⟨k, hk, hkE, hun⟩ i h')
    obtain ⟨oi, hoi, hst, hD, hnext⟩ := hstep i hin hi
    unfold wpOp
    simp only [hoi]
    split
    · rename_i hw
      refine .inl (good_wp hI.1 hD hw ?_ hnext)
      unfold StepOk at hst
      simp only [hw, if_true] at hst
      exact hst w hI.1 hD
    · rename_i hw
      unfold StepOk at hst
      rw [if_neg hw] at hst
      exact hnext undef w (by unfold May; rw [if_neg hw]) hI.1 (hR w hI.1) (hst w hI.1)
def relE (ops : Array Oper) (S0 : Array Bool) (E : List Nat) (n N : Nat) : Bool :=
  Region.noSelect ops && dstsB ops N && decide (n ≤ ops.size) && backB ops n && asideB ops n && (decide (n = ops.size) || (decide (n < ops.size) && sinkE ops S0 E n && laterB ops n)) && closedB ops S0 n && exB ops E n && Region.seqB .any ops (ops.size - n) n (headList n ops.size)
theorem relE_shape {S0 : Array Bool} {E : List Nat} {n N : Nat} (h : relE ops S0 E n N = true) : Shape ops n N := by
  simp only [relE, Bool.and_eq_true, decide_eq_true_eq] at h
  obtain ⟨⟨⟨⟨⟨⟨⟨⟨hsel, hd⟩, hn⟩, hb⟩, ha⟩, _⟩, _⟩, _⟩, _⟩ := h
  refine ⟨hd, hn, fun k o hk hkn e he hbd => ?_, fun k i ok oi hki hin hk hi hno => ?_, Region.noSelect_spec hsel⟩
  · have h1 := List.all_eq_true.1 hb k (List.mem_range.2 hkn)
    simp only [hk] at h1
    have h2 := Array.all_eq_true'.1 h1 e he
    simp only [hbd, Bool.not_true, Bool.false_or, decide_eq_true_eq] at h2
    exact h2
  · have h1 := List.all_eq_true.1 (List.all_eq_true.1 ha i (List.mem_range.2 hin)) k (List.mem_range.2 hki)
    simp only [hk, hi, Bool.or_eq_true] at h1
    refine h1.resolve_left fun h2 => ?_
    obtain ⟨e, he, hb2⟩ := Array.any_eq_true'.1 h2
    simp only [Bool.and_eq_true, beq_iff_eq] at hb2
    exact hno e he hb2.1 hb2.2
/-- A region that draws its order, the operations of S0 done, E exempt: the first n operations in any order; then the others. -/
theorem wpAny_relE {Q : Exit → Act → World → Prop} {a : Act} {w : World} {l : List Oper} (S0 : Array Bool) (E : List Nat) (n N : Nat) (C : World → Prop) (G : Option Tmp → Value → World → Prop) (R : World → World → Prop) {fuel : Nat}
    (hB : relE l.toArray S0 E n N = true) (hQ : ∀ c d v a w, Q (.panic c) (a.put d v) w → Q (.panic c) a w) (hf : fuel = unl n S0 + (l.length - n)) (hN : a.tmps.size = N) (hmono : ∀ d u w w', R w w' → G d u w → G d u w') (hR : ∀ w, C w → R w w) (hu : ∀ w, C w → G none undef w) (hC : C w)
    (h0 : ∀ j oj, l[j]? = some oj → S0.getD j false = true → G oj.dst (slot a oj.dst) w)
    (h : wpRel P l.toArray C G R S0 (fun a' => ∀ w', C w' → (∀ j oj, l[j]? = some oj → j < n → G oj.dst (slot a' oj.dst) w') → wpList P l.toArray Q (l.drop n) a' w') 0 (l.take n) a) : wpAny P .any l.toArray Q fuel S0 a w := by
  have sh := relE_shape hB
  have hB' := hB
  simp only [relE, Bool.and_eq_true, Bool.or_eq_true, decide_eq_true_eq] at hB'
  obtain ⟨⟨⟨⟨⟨⟨⟨⟨hsel, hd⟩, hn⟩, hb⟩, ha⟩, hsc⟩, hcl⟩, hex⟩, hseq⟩ := hB'
  have hnl : n ≤ l.length := by simpa using hn
  have htl : (l.take n).length = n := by simp; omega
  have hw := wk_of_rel sh (l.take n) 0 a (fun j hj => by
    have hj' : j < n := by rw [htl] at hj; exact hj
    simp [hj']) (by simpa using htl) hN h
  rw [htl] at hw
  have := wpAny_of_wkE (Q := Q) (g := l.length - n) sh hmono hR hu S0 E (fun i hi => ?_) hsel hQ (fun S hI h0s hex t ht hr => ?_) (fun S a' w' hI hall hC' hg hF => ?_) _ S0 a w
    (closedB_head hcl) (fun _ h => h) rfl hN ⟨hC, fun j oj hj hs => h0 j oj (by simpa using hj) hs⟩ hw
  · rw [hf]; exact this
  · have h1 := List.all_eq_true.1 hex i (List.contains_iff_mem.1 hi)
    simp only [Bool.and_eq_true, decide_eq_true_eq] at h1
    obtain ⟨⟨h1, h2⟩, h3⟩ := h1
    have hil : i < l.toArray.size := by have : l.toArray.size = l.length := by simp
                                        omega
    have hio := Array.getElem?_eq_getElem hil
    rw [hio] at h2
    exact ⟨h1, _, hio, h2, fun S hS hw => free_mono hio h3 S hS hw⟩
  · obtain ⟨i, hi, hE, hun⟩ := hex
    rcases hsc with hsc | ⟨⟨hlt, hs⟩, hc⟩
    · have := (mem_ready.1 hr).2
      obtain ⟨o, ho, _⟩ := this
      have := (Array.getElem?_eq_some_iff.1 ho).1
      omega
    · exact tail_waitsE hs hc hlt hI h0s _ i rfl hi hE hun t ht hr
  · have hSeq := headList_eq hI.size hn hall hI.tail
    rw [show l.toArray.size = l.length from by simp] at hSeq
    rw [hSeq]
    have hdl : (l.drop n).length = l.length - n := by simp
    have := wpAny_of_seq (md := .any) (Q' := Q) (ops := l.toArray) (l.drop n) n (headList n l.length) a' w' (fun j => by simp [List.getElem?_drop]) (by rw [hdl]; simpa using hseq) (hF w' hC' fun j oj hj hjn => hg j oj (by simpa using hj) hjn)
    rwa [hdl] at this
end
section
variable {P : Program} {M : Nat → Prop} {row : Option Nat} {w0 w1 : World} {L : List Hp} {sp : SpW} {F : Act → Prop} {S0 : Array Bool}
theorem wpAny_holdE {Q : Exit → Act → World → Prop} {a : Act} {w : World} {l : List Oper} (E : List Nat) (n N : Nat) (L : List Hp) (sp : SpW) {fuel : Nat}
    (hB : relE l.toArray S0 E n N = true) (hQ : ∀ c d v a w, Q (.panic c) (a.put d v) w → Q (.panic c) a w) (hO : offW l.toArray S0 sp = true) (hf : fuel = unl n S0 + (l.length - n)) (hN : a.tmps.size = N) (hs : Stays (Mut M L) sp) (hC : Hold M row w0 w L)
    (h : wpRel P l.toArray (HC M row w0 w L) (GW sp) (RM (Mut M L)) S0 (fun a' => ∀ w', Hold M row w0 w' L → RM (Mut M L) w w' → (∀ j oj, l[j]? = some oj → j < n → GW sp oj.dst (slot a' oj.dst) w') → wpList P l.toArray Q (l.drop n) a' w') 0 (l.take n) a) : wpAny P .any l.toArray Q fuel S0 a w := by
  refine wpAny_relE S0 E n N (HC M row w0 w L) (GW sp) (RM (Mut M L)) hB hQ hf hN (fun d u w w' hr hg => ?_) (fun w _ => RM.refl _ w) (fun _ _ => trivial) ⟨hC, RM.refl _ _⟩ (fun j oj hj hs => offW_h hO (by simpa using hj) hs) (wpRel_mono (fun a' hF w' hC' hg => hF w' hC'.1 hC'.2 hg) _ _ _ h)
  unfold GW at hg ⊢
  cases hd : d.bind sp with
  | none => trivial
  | some V =>
    rw [hd] at hg
    obtain ⟨t, rfl, ht⟩ := Option.bind_eq_some_iff.1 hd
    exact hs t V ht u w w' hr hg
end
end Go.Proofs.YtmopojjhlbjhnaaDoor

namespace Go.Proofs.YtmopojjhlbjhnaaDoor
open Go.RowKit
set_option linter.unusedVariables false
set_option linter.unusedSimpArgs false

def k7Rows : List Row := [(1, vKey 2), (2, vKey 1)]
theorem k7_a : applyC nmU uCols 3 pRows [] [] [(1, vKey 1, vKey 2), (2, vKey 2, vKey 1)] = (0, ⟨nmU, uCols, 3, k7Rows⟩) := by decide +kernel
theorem k7_b : applyC nmU uCols 3 pRows [vKey 2] [] [] = (9, zeroT) := by decide +kernel
set_option maxHeartbeats 1000000 in
set_option maxRecDepth 100000 in
theorem known7 : Gives 43 #[] (.bool true) := by
  intro w
  have K0 := Hold.begin_ w
  obtain ⟨nu, hnu⟩ : ∃ nu, nu = nmU := ⟨_, rfl⟩
  have HS := hid small_u
  have HK1 := hid k7_a
  have HK2 := hid k7_b
  rw [← hnu] at HS HK1 HK2
  have HNU := hid hnu
  go_enter Tryd.func43, Tryd.ntmps43
  go_wp2_with fail
  refine (pairs_any _ _ K0.mutLt).mono ?_
  rintro e w1 ⟨v, rfl, ⟨A, n, c, B, m, d, l, hv, h1, h2, h3, h4, h5, h6, h7, h8⟩, b1⟩
  obtain rfl : v = .agg #[.string nu, .slice A n c, .int .i64 3, .slice B m d] := by rw [hnu]; exact hv
  clear hv hnu
  have K2 := (((K0.call b1).add h6).add (h5.less (by simp [Mut, Hp.foot]))).alloc_cst #[.string nu, .slice A n c, .int .i64 3, .slice B m d] 43
  clear K0 b1 h5 h6
  obtain ⟨gt, hgt⟩ : ∃ gt, gt = w1.heap.size := ⟨_, rfl⟩
  rw [← hgt] at K2
  go_wp2_with fail
  rw [← hgt]
  have HGT := hid hgt
  clear hgt
  obtain ⟨Ha, hHa⟩ : ∃ H, H = (World.alloc w1 (.cells #[.string nu, .slice A n c, .int .i64 3, .slice B m d] 43)).drew.heap.size := ⟨_, rfl⟩
  have HHa := hid hHa
  clear hHa
  refine wp_region_any (by kernel_rfl) ?_
  refine wpAny_holdE [12] 14 51 ([.cst gt 43 #[.string nu, .slice A n c, .int .i64 3, .slice B m d], .ro (ColsIn A n uCols), .ro (RwsIn B m l)]) (spL [(9, (VlsSlot (Mut None_ [.cst gt 43 #[.string nu, .slice A n c, .int .i64 3, .slice B m d], .ro (ColsIn A n uCols), .ro (RwsIn B m l)]) (vKey 1))), (10, (VlsSlot (Mut None_ [.cst gt 43 #[.string nu, .slice A n c, .int .i64 3, .slice B m d], .ro (ColsIn A n uCols), .ro (RwsIn B m l)]) (vKey 2))), (11, (PrSlot (Mut None_ [.cst gt 43 #[.string nu, .slice A n c, .int .i64 3, .slice B m d], .ro (ColsIn A n uCols), .ro (RwsIn B m l)]) (1, vKey 1, vKey 2))), (12, (VlsSlot (Mut None_ [.cst gt 43 #[.string nu, .slice A n c, .int .i64 3, .slice B m d], .ro (ColsIn A n uCols), .ro (RwsIn B m l)]) (vKey 2))), (13, (VlsSlot (Mut None_ [.cst gt 43 #[.string nu, .slice A n c, .int .i64 3, .slice B m d], .ro (ColsIn A n uCols), .ro (RwsIn B m l)]) (vKey 1))), (14, (PrSlot (Mut None_ [.cst gt 43 #[.string nu, .slice A n c, .int .i64 3, .slice B m d], .ro (ColsIn A n uCols), .ro (RwsIn B m l)]) (2, vKey 2, vKey 1))), (15, (PrsSlot (Mut None_ [.cst gt 43 #[.string nu, .slice A n c, .int .i64 3, .slice B m d], .ro (ColsIn A n uCols), .ro (RwsIn B m l)]) [(1, vKey 1, vKey 2), (2, vKey 2, vKey 1)])), (16, (ChgSlot (Mut None_ [.cst gt 43 #[.string nu, .slice A n c, .int .i64 3, .slice B m d], .ro (ColsIn A n uCols), .ro (RwsIn B m l)]) [] [] [(1, vKey 1, vKey 2), (2, vKey 2, vKey 1)])), (17, (ApSlot (Mut None_ [.cst gt 43 #[.string nu, .slice A n c, .int .i64 3, .slice B m d], .ro (ColsIn A n uCols), .ro (RwsIn B m l)]) (0, (⟨nu, uCols, 3, k7Rows⟩ : Tb)))), (7, (ApSlot (Mut None_ [.cst gt 43 #[.string nu, .slice A n c, .int .i64 3, .slice B m d], .ro (ColsIn A n uCols), .ro (RwsIn B m l)]) (0, (⟨nu, uCols, 3, k7Rows⟩ : Tb)))), (2, (NewSlot (Mut None_ [.cst gt 43 #[.string nu, .slice A n c, .int .i64 3, .slice B m d], .ro (ColsIn A n uCols), .ro (RwsIn B m l)]) Ha 43 #[.string ⟨#[]⟩, .slice none 0 0, .int .i64 0, .slice none 0 0]))]) (by kernel_rfl) (fun _ d _ _ _ h => by cases d <;> exact h) (by kernel_rfl) (by kernel_rfl) rfl ?_ (K2.drew) ?_
  · exact stays_cons vlsSlot_mono (stays_cons vlsSlot_mono (stays_cons prSlot_mono (stays_cons vlsSlot_mono (stays_cons vlsSlot_mono (stays_cons prSlot_mono (stays_cons prsSlot_mono (stays_cons chgSlot_mono (stays_cons apSlot_mono (stays_cons apSlot_mono (stays_cons newSlot_mono (stays_nil _)))))))))))
  simp only [List.take_succ_cons, List.take_zero, List.drop_succ_cons, List.drop_zero, Act.put, List.getElem_toArray, List.getElem_cons_zero, List.getElem_cons_succ, List.setIfInBounds_toArray, List.set_cons_succ, List.set_cons_zero]
  refine dw_val rfl rfl rfl ?_; apply Exists.intro; refine ⟨fun wv HC => ?_, ?_⟩
  · have FC := HC.facts; simp only [factsL, cellsF, Nat.reduceAdd, List.toList_toArray, and_true, true_and] at FC; go_simp <;> rfl
  simp only [Act.put, List.setIfInBounds_toArray, List.set_cons_succ, List.set_cons_zero]
  refine dw_callR 9 (VlsSlot (Mut None_ [.cst gt 43 #[.string nu, .slice A n c, .int .i64 3, .slice B m d], .ro (ColsIn A n uCols), .ro (RwsIn B m l)]) (vKey 1)) (f := 95) (args := #[.int .i64 1]) rfl rfl rfl rfl (fun wv => ?_) (fun wv HC hrm hD => ?_) ?_
  · go_simp <;> rfl
  · refine (keyed_any _ wv HC.mutLt 1).mono ?_
    rintro e w6 ⟨v, rfl, hv, b6⟩
    exact ⟨_, rfl, hv, HC.call b6, RM.below b6⟩
  rintro u wx HCx ⟨A9, n9, c9, rfl, -, -, -, -⟩
  clear HCx
  simp only [Act.put, List.setIfInBounds_toArray, List.set_cons_succ, List.set_cons_zero]
  refine dw_callR 10 (VlsSlot (Mut None_ [.cst gt 43 #[.string nu, .slice A n c, .int .i64 3, .slice B m d], .ro (ColsIn A n uCols), .ro (RwsIn B m l)]) (vKey 2)) (f := 95) (args := #[.int .i64 2]) rfl rfl rfl rfl (fun wv => ?_) (fun wv HC hrm hD => ?_) ?_
  · go_simp <;> rfl
  · refine (keyed_any _ wv HC.mutLt 2).mono ?_
    rintro e w6 ⟨v, rfl, hv, b6⟩
    exact ⟨_, rfl, hv, HC.call b6, RM.below b6⟩
  rintro u wx HCx ⟨A10, n10, c10, rfl, -, -, -, -⟩
  clear HCx
  simp only [Act.put, List.setIfInBounds_toArray, List.set_cons_succ, List.set_cons_zero]
  refine dw_valC 11 (PrSlot (Mut None_ [.cst gt 43 #[.string nu, .slice A n c, .int .i64 3, .slice B m d], .ro (ColsIn A n uCols), .ro (RwsIn B m l)]) (1, vKey 1, vKey 2)) rfl rfl rfl rfl (.agg #[.int .i64 1, .slice A9 n9 c9, .slice A10 n10 c10]) (fun wv HC => ?_) (fun wv HC hD => ?_) ?_
  · go_simp <;> rfl
  · have ha : VlsSlot (Mut None_ [.cst gt 43 #[.string nu, .slice A n c, .int .i64 3, .slice B m d], .ro (ColsIn A n uCols), .ro (RwsIn B m l)]) (vKey 1) (.slice A9 n9 c9) wv := deps_at hD 1 rfl (by kernel_rfl) rfl rfl
    have hb : VlsSlot (Mut None_ [.cst gt 43 #[.string nu, .slice A n c, .int .i64 3, .slice B m d], .ro (ColsIn A n uCols), .ro (RwsIn B m l)]) (vKey 2) (.slice A10 n10 c10) wv := deps_at hD 2 rfl (by kernel_rfl) rfl rfl
    exact prSlot_of (by unfold I64; omega) (vKey_ok (by unfold I64; omega)) (vKey_ok (by unfold I64; omega)) ha hb
  simp only [Act.put, List.setIfInBounds_toArray, List.set_cons_succ, List.set_cons_zero]
  refine dw_callR 12 (VlsSlot (Mut None_ [.cst gt 43 #[.string nu, .slice A n c, .int .i64 3, .slice B m d], .ro (ColsIn A n uCols), .ro (RwsIn B m l)]) (vKey 2)) (f := 95) (args := #[.int .i64 2]) rfl rfl rfl rfl (fun wv => ?_) (fun wv HC hrm hD => ?_) ?_
  · go_simp <;> rfl
  · refine (keyed_any _ wv HC.mutLt 2).mono ?_
    rintro e w6 ⟨v, rfl, hv, b6⟩
    exact ⟨_, rfl, hv, HC.call b6, RM.below b6⟩
  rintro u wx HCx ⟨A12, n12, c12, rfl, -, -, -, -⟩
  clear HCx
  simp only [Act.put, List.setIfInBounds_toArray, List.set_cons_succ, List.set_cons_zero]
  refine dw_callR 13 (VlsSlot (Mut None_ [.cst gt 43 #[.string nu, .slice A n c, .int .i64 3, .slice B m d], .ro (ColsIn A n uCols), .ro (RwsIn B m l)]) (vKey 1)) (f := 95) (args := #[.int .i64 1]) rfl rfl rfl rfl (fun wv => ?_) (fun wv HC hrm hD => ?_) ?_
  · go_simp <;> rfl
  · refine (keyed_any _ wv HC.mutLt 1).mono ?_
    rintro e w6 ⟨v, rfl, hv, b6⟩
    exact ⟨_, rfl, hv, HC.call b6, RM.below b6⟩
  rintro u wx HCx ⟨A13, n13, c13, rfl, -, -, -, -⟩
  clear HCx
  simp only [Act.put, List.setIfInBounds_toArray, List.set_cons_succ, List.set_cons_zero]
  refine dw_valC 14 (PrSlot (Mut None_ [.cst gt 43 #[.string nu, .slice A n c, .int .i64 3, .slice B m d], .ro (ColsIn A n uCols), .ro (RwsIn B m l)]) (2, vKey 2, vKey 1)) rfl rfl rfl rfl (.agg #[.int .i64 2, .slice A12 n12 c12, .slice A13 n13 c13]) (fun wv HC => ?_) (fun wv HC hD => ?_) ?_
  · go_simp <;> rfl
  · have ha : VlsSlot (Mut None_ [.cst gt 43 #[.string nu, .slice A n c, .int .i64 3, .slice B m d], .ro (ColsIn A n uCols), .ro (RwsIn B m l)]) (vKey 2) (.slice A12 n12 c12) wv := deps_at hD 4 rfl (by kernel_rfl) rfl rfl
    have hb : VlsSlot (Mut None_ [.cst gt 43 #[.string nu, .slice A n c, .int .i64 3, .slice B m d], .ro (ColsIn A n uCols), .ro (RwsIn B m l)]) (vKey 1) (.slice A13 n13 c13) wv := deps_at hD 5 rfl (by kernel_rfl) rfl rfl
    exact prSlot_of (by unfold I64; omega) (vKey_ok (by unfold I64; omega)) (vKey_ok (by unfold I64; omega)) ha hb
  simp only [Act.put, List.setIfInBounds_toArray, List.set_cons_succ, List.set_cons_zero]
  refine dw_new #[.int .i64 1, .slice A9 n9 c9, .slice A10 n10 c10, .int .i64 2, .slice A12 n12 c12, .slice A13 n13 c13] 73 15 (PrsSlot (Mut None_ [.cst gt 43 #[.string nu, .slice A n c, .int .i64 3, .slice B m d], .ro (ColsIn A n uCols), .ro (RwsIn B m l)]) [(1, vKey 1, vKey 2), (2, vKey 2, vKey 1)]) (fun g => .slice (some ⟨g, 0, none⟩) 2 2) rfl rfl rfl rfl (fun wv => ?_) (fun wv HC _hrm hD hro => ?_) ?_
  · go_simp <;> rfl
  · have hrr := RM.alloc (Mut None_ [.cst gt 43 #[.string nu, .slice A n c, .int .i64 3, .slice B m d], .ro (ColsIn A n uCols), .ro (RwsIn B m l)]) wv (.cells #[.int .i64 1, .slice A9 n9 c9, .slice A10 n10 c10, .int .i64 2, .slice A12 n12 c12, .slice A13 n13 c13] 73)
    have h0 : PrSlot (Mut None_ [.cst gt 43 #[.string nu, .slice A n c, .int .i64 3, .slice B m d], .ro (ColsIn A n uCols), .ro (RwsIn B m l)]) (1, vKey 1, vKey 2) (.agg #[.int .i64 1, .slice A9 n9 c9, .slice A10 n10 c10]) wv := deps_at hD 3 rfl (by kernel_rfl) rfl rfl
    have h1 : PrSlot (Mut None_ [.cst gt 43 #[.string nu, .slice A n c, .int .i64 3, .slice B m d], .ro (ColsIn A n uCols), .ro (RwsIn B m l)]) (2, vKey 2, vKey 1) (.agg #[.int .i64 2, .slice A12 n12 c12, .slice A13 n13 c13]) wv := deps_at hD 6 rfl (by kernel_rfl) rfl rfl
    replace h0 := prSlot_mono _ _ _ hrr h0
    replace h1 := prSlot_mono _ _ _ hrr h1
    exact prsSlot_two (hro _ HC.mutLt) (fun i j k i2 j2 k2 e1 e2 => by injection e1 with e1; injection e2 with e2; simp at e1 e2; obtain ⟨rfl, rfl, rfl⟩ := e1; obtain ⟨rfl, rfl, rfl⟩ := e2; rfl) h0 h1
  rintro g15 wg HCg hsl
  simp only [Act.put, List.setIfInBounds_toArray, List.set_cons_succ, List.set_cons_zero]
  clear hsl HCg
  refine dw_valC 16 (ChgSlot (Mut None_ [.cst gt 43 #[.string nu, .slice A n c, .int .i64 3, .slice B m d], .ro (ColsIn A n uCols), .ro (RwsIn B m l)]) [] [] [(1, vKey 1, vKey 2), (2, vKey 2, vKey 1)]) rfl rfl rfl rfl (.agg #[.slice none 0 0, .slice none 0 0, .slice (some ⟨g15, 0, none⟩) 2 2]) (fun wv HC => ?_) (fun wv HC hD => ?_) ?_
  · go_simp <;> rfl
  · have h0 : SlsSlot (Mut None_ [.cst gt 43 #[.string nu, .slice A n c, .int .i64 3, .slice B m d], .ro (ColsIn A n uCols), .ro (RwsIn B m l)]) [] (.slice none 0 0) wv := slsSlot_nil _
    have h1 : IsSlot (Mut None_ [.cst gt 43 #[.string nu, .slice A n c, .int .i64 3, .slice B m d], .ro (ColsIn A n uCols), .ro (RwsIn B m l)]) [] (.slice none 0 0) wv := isSlot_nil _
    have h2 : PrsSlot (Mut None_ [.cst gt 43 #[.string nu, .slice A n c, .int .i64 3, .slice B m d], .ro (ColsIn A n uCols), .ro (RwsIn B m l)]) [(1, vKey 1, vKey 2), (2, vKey 2, vKey 1)] (.slice (some ⟨g15, 0, none⟩) 2 2) wv := deps_at hD 7 rfl (by kernel_rfl) rfl rfl
    exact chgSlot_of h0 h1 h2
  simp only [Act.put, List.setIfInBounds_toArray, List.set_cons_succ, List.set_cons_zero]
  refine dw_callR 17 (ApSlot (Mut None_ [.cst gt 43 #[.string nu, .slice A n c, .int .i64 3, .slice B m d], .ro (ColsIn A n uCols), .ro (RwsIn B m l)]) (0, (⟨nu, uCols, 3, k7Rows⟩ : Tb))) (f := 42) (args := #[.agg #[.string nu, .slice A n c, .int .i64 3, .slice B m d], .agg #[.slice none 0 0, .slice none 0 0, .slice (some ⟨g15, 0, none⟩) 2 2]]) rfl rfl rfl rfl (fun wv => ?_) (fun wv HC hrm hD => ?_) ?_
  · go_simp <;> rfl
  · have hc : ChgSlot (Mut None_ [.cst gt 43 #[.string nu, .slice A n c, .int .i64 3, .slice B m d], .ro (ColsIn A n uCols), .ro (RwsIn B m l)]) [] [] [(1, vKey 1, vKey 2), (2, vKey 2, vKey 1)] (.agg #[.slice none 0 0, .slice none 0 0, .slice (some ⟨g15, 0, none⟩) 2 2]) wv := deps_at hD 8 rfl (by kernel_rfl) rfl rfl
    have hk := kapply_slot _ wv HC.mutLt _ _ ⟨nu, uCols, 3, pRows⟩ [] [] [(1, vKey 1, vKey 2), (2, vKey 2, vKey 1)] ⟨A, n, c, B, m, d, l, rfl, h1, h2, h3, h4, HC.ro 1 rfl, HC.ro 2 rfl, h7, h8⟩ hc HS.out.1 HS.out.2.1 (by show pRows.length ≤ _; decide) (by decide) (by decide) (by decide)
    rw [show applyC _ _ _ _ _ _ _ = _ from HK1.out] at hk
    refine hk.mono ?_
    rintro e w6 ⟨v, rfl, hv, b6⟩
    exact ⟨_, rfl, hv, HC.call b6, RM.below b6⟩
  rintro u wx HCx ⟨v, rfl, Aa, na, ca, Ba, ma, da, la, hv, -, -, -, -, -, -, -, -⟩
  obtain ⟨sa, xa, rfl⟩ : ∃ s x, v = .agg #[.string s, .slice Aa na ca, .int .i64 x, .slice Ba ma da] := ⟨_, _, hv⟩
  clear HCx hv
  simp only [Act.put, List.setIfInBounds_toArray, List.set_cons_succ, List.set_cons_zero]
  refine dw_valC 7 (ApSlot (Mut None_ [.cst gt 43 #[.string nu, .slice A n c, .int .i64 3, .slice B m d], .ro (ColsIn A n uCols), .ro (RwsIn B m l)]) (0, (⟨nu, uCols, 3, k7Rows⟩ : Tb))) rfl rfl rfl rfl (.tuple #[.agg #[.string sa, .slice Aa na ca, .int .i64 xa, .slice Ba ma da], .int .i64 0]) (fun wv HC => ?_) (fun wv HC hD => ?_) ?_
  · go_simp <;> rfl
  · exact deps_at hD 9 rfl (by kernel_rfl) rfl rfl
  simp only [Act.put, List.setIfInBounds_toArray, List.set_cons_succ, List.set_cons_zero]
  refine dw_val rfl rfl rfl ?_; apply Exists.intro; refine ⟨fun wv HC => ?_, ?_⟩
  ·  go_simp <;> rfl
  simp only [Act.put, List.setIfInBounds_toArray, List.set_cons_succ, List.set_cons_zero]
  refine dw_val rfl rfl rfl ?_; apply Exists.intro; refine ⟨fun wv HC => ?_, ?_⟩
  ·  go_simp <;> rfl
  simp only [Act.put, List.setIfInBounds_toArray, List.set_cons_succ, List.set_cons_zero]
  refine dw_new #[.string ⟨#[]⟩, .slice none 0 0, .int .i64 0, .slice none 0 0] 43 2 (NewSlot (Mut None_ [.cst gt 43 #[.string nu, .slice A n c, .int .i64 3, .slice B m d], .ro (ColsIn A n uCols), .ro (RwsIn B m l)]) Ha 43 #[.string ⟨#[]⟩, .slice none 0 0, .int .i64 0, .slice none 0 0]) (fun g => .pointer (some ⟨g, 0, none⟩)) rfl rfl rfl rfl (fun wv => ?_) (fun wv HC hrm hD hro => ?_) ?_
  · go_simp <;> rfl
  · exact ⟨_, rfl, by have := hrm.1; rw [HHa.out]; exact this, hro _ HC.mutLt⟩
  rintro ga wg HCg hsl
  simp only [Act.put, List.setIfInBounds_toArray, List.set_cons_succ, List.set_cons_zero]
  clear hsl HCg
  refine rel_nil ?_
  rintro wxa HX
  rintro _hrm HGW
  have hap : ApSlot (Mut None_ [.cst gt 43 #[.string nu, .slice A n c, .int .i64 3, .slice B m d], .ro (ColsIn A n uCols), .ro (RwsIn B m l)]) (0, (⟨nu, uCols, 3, k7Rows⟩ : Tb)) (.tuple #[.agg #[.string sa, .slice Aa na ca, .int .i64 xa, .slice Ba ma da], .int .i64 0]) wxa := (GW_on (d := 7) rfl).1 (HGW 10 _ rfl (by omega))
  have hns : NewSlot (Mut None_ [.cst gt 43 #[.string nu, .slice A n c, .int .i64 3, .slice B m d], .ro (ColsIn A n uCols), .ro (RwsIn B m l)]) Ha 43 #[.string ⟨#[]⟩, .slice none 0 0, .int .i64 0, .slice none 0 0] (.pointer (some ⟨ga, 0, none⟩)) wxa := (GW_on (d := 2) rfl).1 (HGW 13 _ rfl (by omega))
  clear HGW
  obtain ⟨g7, hg7, hgH, hgB⟩ := hns
  obtain rfl : ga = g7 := by injection hg7 with hg7; injection hg7 with hg7; injection hg7
  clear hg7
  rw [HHa.out] at hgH
  have HB := Hold.addFreshBlk K2.drew HX _hrm hgH hgB.now
  have hgn := hgB.now
  clear hgB hgH
  obtain ⟨v, hv, TT⟩ := hap
  obtain rfl : _ = v := by injection hv with hv; simpa using hv
  clear hv
  clear K2
  obtain ⟨A1, n1, c1, B1, m1, d1, l1, ev, -, -, -, -, -, q6, -, q8⟩ := TT
  have ev2 := ev.symm
  injection ev2 with ev2
  simp only [Array.mk.injEq, List.cons.injEq, Value.string.injEq, Value.slice.injEq, Value.int.injEq, and_true, true_and] at ev2
  obtain ⟨rfl, ⟨rfl, rfl, rfl⟩, rfl, rfl, rfl, rfl⟩ := ev2
  clear ev
  have HQ8 := hid q8
  have q9 : Ro wxa (Mut None_ (.blk ga 43 #[.string ⟨#[]⟩, .slice none 0 0, .int .i64 0, .slice none 0 0] :: [.cst gt 43 #[.string nu, .slice A n c, .int .i64 3, .slice B m d], .ro (ColsIn A n uCols), .ro (RwsIn B m l)])) (RwsIn B1 m1 l1) := (rows_apart q6 hgn (by rw [q8]; intro r hr; simp only [k7Rows, List.mem_cons, List.not_mem_nil, or_false] at hr; rcases hr with rfl | rfl <;> exact ⟨by decide, _, _, rfl, by decide⟩)).less (fun b hb => (mut_cons.1 hb).imp (fun e => by injection e with e; exact e.symm) id)
  clear hgn q6
  have K4 := ((((HB.add q9).store 1 rfl 0 (.string nu)).store 1 rfl 1 (.slice A1 n1 c1)).store 1 rfl 2 (.int .i64 3)).store 1 rfl 3 (.slice B1 m1 d1)
  have FB := HB.facts
  simp only [factsL, cellsF, Nat.reduceAdd, List.toList_toArray, and_true, true_and] at FB
  go_wp2_with fail
  generalize (((wxa.setCell _ _).setCell _ _).setCell _ _).setCell _ _ = w4 at K4 ⊢
  have K5 := K4.fix_ 1 rfl
  simp only [List.set_cons_zero, List.set_cons_succ, List.setIfInBounds_toArray] at K5
  clear K4 FB HB q9 HX _hrm HHa
  obtain ⟨Hb, hHb⟩ : ∃ H, H = w4.drew.heap.size := ⟨_, rfl⟩
  have HHb := hid hHb
  clear hHb
  refine wp_region_any (by kernel_rfl) ?_
  refine wpAny_holdE [7] 9 51 ([.ro (RwsIn B1 m1 l1), .cst ga 43 #[.string nu, .slice A1 n1 c1, .int .i64 3, .slice B1 m1 d1], .cst gt 43 #[.string nu, .slice A n c, .int .i64 3, .slice B m d], .ro (ColsIn A n uCols), .ro (RwsIn B m l)]) (spL [(22, (VlsSlot (Mut None_ [.ro (RwsIn B1 m1 l1), .cst ga 43 #[.string nu, .slice A1 n1 c1, .int .i64 3, .slice B1 m1 d1], .cst gt 43 #[.string nu, .slice A n c, .int .i64 3, .slice B m d], .ro (ColsIn A n uCols), .ro (RwsIn B m l)]) (vKey 2))), (23, (SlsSlot (Mut None_ [.ro (RwsIn B1 m1 l1), .cst ga 43 #[.string nu, .slice A1 n1 c1, .int .i64 3, .slice B1 m1 d1], .cst gt 43 #[.string nu, .slice A n c, .int .i64 3, .slice B m d], .ro (ColsIn A n uCols), .ro (RwsIn B m l)]) [vKey 2])), (24, (ChgSlot (Mut None_ [.ro (RwsIn B1 m1 l1), .cst ga 43 #[.string nu, .slice A1 n1 c1, .int .i64 3, .slice B1 m1 d1], .cst gt 43 #[.string nu, .slice A n c, .int .i64 3, .slice B m d], .ro (ColsIn A n uCols), .ro (RwsIn B m l)]) [vKey 2] [] [])), (25, (ApSlot (Mut None_ [.ro (RwsIn B1 m1 l1), .cst ga 43 #[.string nu, .slice A1 n1 c1, .int .i64 3, .slice B1 m1 d1], .cst gt 43 #[.string nu, .slice A n c, .int .i64 3, .slice B m d], .ro (ColsIn A n uCols), .ro (RwsIn B m l)]) (9, zeroT))), (20, (ApSlot (Mut None_ [.ro (RwsIn B1 m1 l1), .cst ga 43 #[.string nu, .slice A1 n1 c1, .int .i64 3, .slice B1 m1 d1], .cst gt 43 #[.string nu, .slice A n c, .int .i64 3, .slice B m d], .ro (ColsIn A n uCols), .ro (RwsIn B m l)]) (9, zeroT))), (4, (NewSlot (Mut None_ [.ro (RwsIn B1 m1 l1), .cst ga 43 #[.string nu, .slice A1 n1 c1, .int .i64 3, .slice B1 m1 d1], .cst gt 43 #[.string nu, .slice A n c, .int .i64 3, .slice B m d], .ro (ColsIn A n uCols), .ro (RwsIn B m l)]) Hb 43 #[.string ⟨#[]⟩, .slice none 0 0, .int .i64 0, .slice none 0 0]))]) (by kernel_rfl) (fun _ d _ _ _ h => by cases d <;> exact h) (by kernel_rfl) (by kernel_rfl) rfl ?_ (K5.drew) ?_
  · exact stays_cons vlsSlot_mono (stays_cons slsSlot_mono (stays_cons chgSlot_mono (stays_cons apSlot_mono (stays_cons apSlot_mono (stays_cons newSlot_mono (stays_nil _))))))
  simp only [List.take_succ_cons, List.take_zero, List.drop_succ_cons, List.drop_zero, Act.put, List.getElem_toArray, List.getElem_cons_zero, List.getElem_cons_succ, List.setIfInBounds_toArray, List.set_cons_succ, List.set_cons_zero]
  refine dw_val rfl rfl rfl ?_; apply Exists.intro; refine ⟨fun wv HC => ?_, ?_⟩
  · have FC := HC.facts; simp only [factsL, cellsF, Nat.reduceAdd, List.toList_toArray, and_true, true_and] at FC; go_simp <;> rfl
  simp only [Act.put, List.setIfInBounds_toArray, List.set_cons_succ, List.set_cons_zero]
  refine dw_callR 22 (VlsSlot (Mut None_ [.ro (RwsIn B1 m1 l1), .cst ga 43 #[.string nu, .slice A1 n1 c1, .int .i64 3, .slice B1 m1 d1], .cst gt 43 #[.string nu, .slice A n c, .int .i64 3, .slice B m d], .ro (ColsIn A n uCols), .ro (RwsIn B m l)]) (vKey 2)) (f := 95) (args := #[.int .i64 2]) rfl rfl rfl rfl (fun wv => ?_) (fun wv HC hrm hD => ?_) ?_
  · go_simp <;> rfl
  · refine (keyed_any _ wv HC.mutLt 2).mono ?_
    rintro e w6 ⟨v, rfl, hv, b6⟩
    exact ⟨_, rfl, hv, HC.call b6, RM.below b6⟩
  rintro u wx HCx ⟨A22, n22, c22, rfl, -, -, -, -⟩
  clear HCx
  simp only [Act.put, List.setIfInBounds_toArray, List.set_cons_succ, List.set_cons_zero]
  refine dw_new #[.slice A22 n22 c22] 31 23 (SlsSlot (Mut None_ [.ro (RwsIn B1 m1 l1), .cst ga 43 #[.string nu, .slice A1 n1 c1, .int .i64 3, .slice B1 m1 d1], .cst gt 43 #[.string nu, .slice A n c, .int .i64 3, .slice B m d], .ro (ColsIn A n uCols), .ro (RwsIn B m l)]) [vKey 2]) (fun g => .slice (some ⟨g, 0, none⟩) 1 1) rfl rfl rfl rfl (fun wv => ?_) (fun wv HC _hrm hD hro => ?_) ?_
  · go_simp <;> rfl
  · have h0 : VlsSlot (Mut None_ [.ro (RwsIn B1 m1 l1), .cst ga 43 #[.string nu, .slice A1 n1 c1, .int .i64 3, .slice B1 m1 d1], .cst gt 43 #[.string nu, .slice A n c, .int .i64 3, .slice B m d], .ro (ColsIn A n uCols), .ro (RwsIn B m l)]) (vKey 2) (.slice A22 n22 c22) wv := deps_at hD 1 rfl (by kernel_rfl) rfl rfl
    exact slsSlot_one (hro _ HC.mutLt) (vKey_ok (by unfold I64; omega)) (vlsSlot_mono _ _ _ (RM.alloc (Mut None_ [.ro (RwsIn B1 m1 l1), .cst ga 43 #[.string nu, .slice A1 n1 c1, .int .i64 3, .slice B1 m1 d1], .cst gt 43 #[.string nu, .slice A n c, .int .i64 3, .slice B m d], .ro (ColsIn A n uCols), .ro (RwsIn B m l)]) wv _) h0)
  rintro g23 wg HCg hsl
  simp only [Act.put, List.setIfInBounds_toArray, List.set_cons_succ, List.set_cons_zero]
  clear hsl HCg
  refine dw_valC 24 (ChgSlot (Mut None_ [.ro (RwsIn B1 m1 l1), .cst ga 43 #[.string nu, .slice A1 n1 c1, .int .i64 3, .slice B1 m1 d1], .cst gt 43 #[.string nu, .slice A n c, .int .i64 3, .slice B m d], .ro (ColsIn A n uCols), .ro (RwsIn B m l)]) [vKey 2] [] []) rfl rfl rfl rfl (.agg #[.slice (some ⟨g23, 0, none⟩) 1 1, .slice none 0 0, .slice none 0 0]) (fun wv HC => ?_) (fun wv HC hD => ?_) ?_
  · go_simp <;> rfl
  · have h0 : SlsSlot (Mut None_ [.ro (RwsIn B1 m1 l1), .cst ga 43 #[.string nu, .slice A1 n1 c1, .int .i64 3, .slice B1 m1 d1], .cst gt 43 #[.string nu, .slice A n c, .int .i64 3, .slice B m d], .ro (ColsIn A n uCols), .ro (RwsIn B m l)]) [vKey 2] (.slice (some ⟨g23, 0, none⟩) 1 1) wv := deps_at hD 2 rfl (by kernel_rfl) rfl rfl
    have h1 : IsSlot (Mut None_ [.ro (RwsIn B1 m1 l1), .cst ga 43 #[.string nu, .slice A1 n1 c1, .int .i64 3, .slice B1 m1 d1], .cst gt 43 #[.string nu, .slice A n c, .int .i64 3, .slice B m d], .ro (ColsIn A n uCols), .ro (RwsIn B m l)]) [] (.slice none 0 0) wv := isSlot_nil _
    have h2 : PrsSlot (Mut None_ [.ro (RwsIn B1 m1 l1), .cst ga 43 #[.string nu, .slice A1 n1 c1, .int .i64 3, .slice B1 m1 d1], .cst gt 43 #[.string nu, .slice A n c, .int .i64 3, .slice B m d], .ro (ColsIn A n uCols), .ro (RwsIn B m l)]) [] (.slice none 0 0) wv := prsSlot_nil _
    exact chgSlot_of h0 h1 h2
  simp only [Act.put, List.setIfInBounds_toArray, List.set_cons_succ, List.set_cons_zero]
  refine dw_callR 25 (ApSlot (Mut None_ [.ro (RwsIn B1 m1 l1), .cst ga 43 #[.string nu, .slice A1 n1 c1, .int .i64 3, .slice B1 m1 d1], .cst gt 43 #[.string nu, .slice A n c, .int .i64 3, .slice B m d], .ro (ColsIn A n uCols), .ro (RwsIn B m l)]) (9, zeroT)) (f := 42) (args := #[.agg #[.string nu, .slice A n c, .int .i64 3, .slice B m d], .agg #[.slice (some ⟨g23, 0, none⟩) 1 1, .slice none 0 0, .slice none 0 0]]) rfl rfl rfl rfl (fun wv => ?_) (fun wv HC hrm hD => ?_) ?_
  · go_simp <;> rfl
  · have hc : ChgSlot (Mut None_ [.ro (RwsIn B1 m1 l1), .cst ga 43 #[.string nu, .slice A1 n1 c1, .int .i64 3, .slice B1 m1 d1], .cst gt 43 #[.string nu, .slice A n c, .int .i64 3, .slice B m d], .ro (ColsIn A n uCols), .ro (RwsIn B m l)]) [vKey 2] [] [] (.agg #[.slice (some ⟨g23, 0, none⟩) 1 1, .slice none 0 0, .slice none 0 0]) wv := deps_at hD 3 rfl (by kernel_rfl) rfl rfl
    have hk := kapply_slot _ wv HC.mutLt _ _ ⟨nu, uCols, 3, pRows⟩ [vKey 2] [] [] ⟨A, n, c, B, m, d, l, rfl, h1, h2, h3, h4, HC.ro 3 rfl, HC.ro 4 rfl, h7, h8⟩ hc HS.out.1 HS.out.2.1 (by show pRows.length ≤ _; decide) (by decide) (by decide) (by decide)
    rw [show applyC _ _ _ _ _ _ _ = _ from HK2.out] at hk
    refine hk.mono ?_
    rintro e w6 ⟨v, rfl, hv, b6⟩
    exact ⟨_, rfl, hv, HC.call b6, RM.below b6⟩
  rintro u wx HCx ⟨v, rfl, Ab, nb, cb, Bb, mb, db, lb, hv, -, -, -, -, -, -, -, -⟩
  obtain ⟨sb, xb, rfl⟩ : ∃ s x, v = .agg #[.string s, .slice Ab nb cb, .int .i64 x, .slice Bb mb db] := ⟨_, _, hv⟩
  clear HCx hv
  simp only [Act.put, List.setIfInBounds_toArray, List.set_cons_succ, List.set_cons_zero]
  refine dw_valC 20 (ApSlot (Mut None_ [.ro (RwsIn B1 m1 l1), .cst ga 43 #[.string nu, .slice A1 n1 c1, .int .i64 3, .slice B1 m1 d1], .cst gt 43 #[.string nu, .slice A n c, .int .i64 3, .slice B m d], .ro (ColsIn A n uCols), .ro (RwsIn B m l)]) (9, zeroT)) rfl rfl rfl rfl (.tuple #[.agg #[.string sb, .slice Ab nb cb, .int .i64 xb, .slice Bb mb db], .int .i64 9]) (fun wv HC => ?_) (fun wv HC hD => ?_) ?_
  · go_simp <;> rfl
  · exact deps_at hD 4 rfl (by kernel_rfl) rfl rfl
  simp only [Act.put, List.setIfInBounds_toArray, List.set_cons_succ, List.set_cons_zero]
  refine dw_val rfl rfl rfl ?_; apply Exists.intro; refine ⟨fun wv HC => ?_, ?_⟩
  ·  go_simp <;> rfl
  simp only [Act.put, List.setIfInBounds_toArray, List.set_cons_succ, List.set_cons_zero]
  refine dw_val rfl rfl rfl ?_; apply Exists.intro; refine ⟨fun wv HC => ?_, ?_⟩
  ·  go_simp <;> rfl
  simp only [Act.put, List.setIfInBounds_toArray, List.set_cons_succ, List.set_cons_zero]
  refine dw_new #[.string ⟨#[]⟩, .slice none 0 0, .int .i64 0, .slice none 0 0] 43 4 (NewSlot (Mut None_ [.ro (RwsIn B1 m1 l1), .cst ga 43 #[.string nu, .slice A1 n1 c1, .int .i64 3, .slice B1 m1 d1], .cst gt 43 #[.string nu, .slice A n c, .int .i64 3, .slice B m d], .ro (ColsIn A n uCols), .ro (RwsIn B m l)]) Hb 43 #[.string ⟨#[]⟩, .slice none 0 0, .int .i64 0, .slice none 0 0]) (fun g => .pointer (some ⟨g, 0, none⟩)) rfl rfl rfl rfl (fun wv => ?_) (fun wv HC hrm hD hro => ?_) ?_
  · go_simp <;> rfl
  · exact ⟨_, rfl, by have := hrm.1; rw [HHb.out]; exact this, hro _ HC.mutLt⟩
  rintro gb wg HCg hsl
  simp only [Act.put, List.setIfInBounds_toArray, List.set_cons_succ, List.set_cons_zero]
  clear hsl HCg
  refine rel_nil ?_
  rintro wxb HX
  rintro _hrm HGW
  have hap : ApSlot (Mut None_ [.ro (RwsIn B1 m1 l1), .cst ga 43 #[.string nu, .slice A1 n1 c1, .int .i64 3, .slice B1 m1 d1], .cst gt 43 #[.string nu, .slice A n c, .int .i64 3, .slice B m d], .ro (ColsIn A n uCols), .ro (RwsIn B m l)]) (9, zeroT) (.tuple #[.agg #[.string sb, .slice Ab nb cb, .int .i64 xb, .slice Bb mb db], .int .i64 9]) wxb := (GW_on (d := 20) rfl).1 (HGW 5 _ rfl (by omega))
  have hns : NewSlot (Mut None_ [.ro (RwsIn B1 m1 l1), .cst ga 43 #[.string nu, .slice A1 n1 c1, .int .i64 3, .slice B1 m1 d1], .cst gt 43 #[.string nu, .slice A n c, .int .i64 3, .slice B m d], .ro (ColsIn A n uCols), .ro (RwsIn B m l)]) Hb 43 #[.string ⟨#[]⟩, .slice none 0 0, .int .i64 0, .slice none 0 0] (.pointer (some ⟨gb, 0, none⟩)) wxb := (GW_on (d := 4) rfl).1 (HGW 8 _ rfl (by omega))
  clear HGW
  obtain ⟨g7, hg7, hgH, hgB⟩ := hns
  obtain rfl : gb = g7 := by injection hg7 with hg7; injection hg7 with hg7; injection hg7
  clear hg7
  rw [HHb.out] at hgH
  have HB := Hold.addFreshBlk K5.drew HX _hrm hgH hgB.now
  have hgn := hgB.now
  clear hgB hgH
  obtain ⟨v, hv, TT⟩ := hap
  obtain rfl : _ = v := by injection hv with hv; simpa using hv
  clear hv
  clear K5
  obtain ⟨A2, n2, c2, B2, m2, d2, l2, ev, -, -, -, -, -, -, -, -⟩ := TT
  have ev2 := ev.symm
  simp only [zeroT] at ev2
  injection ev2 with ev2
  simp only [Array.mk.injEq, List.cons.injEq, Value.string.injEq, Value.slice.injEq, Value.int.injEq, and_true, true_and] at ev2
  obtain ⟨rfl, ⟨rfl, rfl, rfl⟩, rfl, rfl, rfl, rfl⟩ := ev2
  clear ev hgn
  have K6 := (((HB.store 0 rfl 0 (.string ⟨#[]⟩)).store 0 rfl 1 (.slice A2 n2 c2)).store 0 rfl 2 (.int .i64 0)).store 0 rfl 3 (.slice B2 m2 d2)
  have FB := HB.facts
  simp only [factsL, cellsF, Nat.reduceAdd, List.toList_toArray, and_true, true_and] at FB
  go_wp2_with fail
  generalize (((wxb.setCell _ _).setCell _ _).setCell _ _).setCell _ _ = w5 at K6 ⊢
  simp only [List.set_cons_zero, List.set_cons_succ, List.setIfInBounds_toArray] at K6
  clear FB HB HX _hrm HHb
  obtain ⟨r1, r2, rfl, e1, e2⟩ : ∃ r1 r2 : Rw, l1 = [r1, r2] ∧ r1.row = (1, vKey 2) ∧ r2.row = (2, vKey 1) := by
    cases l1 with
    | nil => simp [k7Rows] at q8
    | cons r1 l1 => cases l1 with
      | nil => simp [k7Rows] at q8
      | cons r2 l1 => cases l1 with
        | nil => simp [k7Rows] at q8; exact ⟨r1, r2, rfl, q8.1, q8.2⟩
        | cons r3 l1 => simp [k7Rows] at q8
  obtain rfl : 2 = m1 := (K6.ro 1 rfl).now.len
  obtain ⟨b1, o1, rfl, x1, x2⟩ := (K6.ro 1 rfl).rwsAt (k := 0) (x := r1) rfl
  have e3 : r1.vs = vKey 2 := (Prod.mk.inj e1).2
  rw [e3] at x2
  obtain ⟨b2, o2, ha2, x3⟩ := x2.vlsAt (k := 0) (x := vNum 2) rfl
  rw [ha2] at x1
  simp only [Nat.zero_mul, Nat.add_zero] at x1 x3
  have x4 := (K6.ro 1 rfl).imp (fun w h => h.1)
  obtain ⟨n3, hn3⟩ : ∃ n3, n3 = r1.n := ⟨_, rfl⟩
  have hn3p : n3 = 3 := by have := x2.now.len; rw [hn3, ← this]; rfl
  rw [← hn3] at x1
  obtain rfl := hn3p
  clear hn3
  generalize r1.c = c3 at x1
  have K7 := (K6.add x1).add (x3.less (fun b hb => (mut_cons.1 hb).resolve_left (fun h => nomatch h)))
  obtain ⟨KL, hKL, K8⟩ := K7.name
  clear K7
  have HF : Hid (∀ wv, Hold None_ none w wv KL → (wv.cell? ⟨ga, 3, none⟩ = some (.slice (some ⟨b1, o1, none⟩) 2 d1) ∧ ga < wv.heap.size) ∧ (b1 < wv.heap.size ∧ wv.cell? ⟨b1, o1 + 1, none⟩ = some (.slice (some ⟨b2, o2, none⟩) 3 c3)) ∧ b2 < wv.heap.size ∧ wv.cell? ⟨b2, o2, none⟩ = some (.int .i64 1) ∧ wv.cell? ⟨b2, o2 + 1, none⟩ = some (.int .i64 2) ∧ wv.cell? ⟨b2, o2 + 2, none⟩ = some (.string ⟨#[]⟩)) := hid fun wv HC => by
    rw [hKL] at HC
    have y1 := HC.cst_ 4 rfl
    have y2 := (HC.ro 1 rfl).now
    have y3 := (HC.ro 0 rfl).now
    exact ⟨⟨cell_of_row _ _ 3 _ _ _ y1, Blk.lt y1⟩, ⟨y2.1, y2.2.2⟩, y3⟩
  have HKL := hid hKL
  clear hKL x1 x3 x4 K6
  refine wp_region_any (by kernel_rfl) ?_
  refine wpAny_hold 24 51 (KL) (spL [(48, IsV (.agg #[.int .i64 1, .int .i64 2, .string ⟨#[]⟩]))]) (by kernel_rfl) (by kernel_rfl) (by kernel_rfl) rfl ?_ (K8.drew) ?_
  · exact stays_cons isV_mono (stays_nil _)
  simp only [List.take_succ_cons, List.take_zero, List.drop_succ_cons, List.drop_zero, Act.put, List.getElem_toArray, List.getElem_cons_zero, List.getElem_cons_succ, List.setIfInBounds_toArray, List.set_cons_succ, List.set_cons_zero]
  refine dw_val rfl rfl rfl ?_; apply Exists.intro; refine ⟨fun wv HC => ?_, ?_⟩
  · obtain ⟨⟨f0, f1⟩, ⟨f2, f3⟩, f4, f5, f6, f7⟩ := HF.out _ HC; go_simp <;> rfl
  simp only [Act.put, List.setIfInBounds_toArray, List.set_cons_succ, List.set_cons_zero]
  refine dw_val rfl rfl rfl ?_; apply Exists.intro; refine ⟨fun wv HC => ?_, ?_⟩
  · obtain ⟨⟨f0, f1⟩, ⟨f2, f3⟩, f4, f5, f6, f7⟩ := HF.out _ HC; go_simp <;> rfl
  simp only [Act.put, List.setIfInBounds_toArray, List.set_cons_succ, List.set_cons_zero]
  refine dw_val rfl rfl rfl ?_; apply Exists.intro; refine ⟨fun wv HC => ?_, ?_⟩
  · obtain ⟨⟨f0, f1⟩, ⟨f2, f3⟩, f4, f5, f6, f7⟩ := HF.out _ HC; go_simp <;> rfl
  simp only [Act.put, List.setIfInBounds_toArray, List.set_cons_succ, List.set_cons_zero]
  refine dw_val rfl rfl rfl ?_; apply Exists.intro; refine ⟨fun wv HC => ?_, ?_⟩
  · obtain ⟨⟨f0, f1⟩, ⟨f2, f3⟩, f4, f5, f6, f7⟩ := HF.out _ HC; go_simp <;> rfl
  simp only [Act.put, List.setIfInBounds_toArray, List.set_cons_succ, List.set_cons_zero]
  refine dw_val rfl rfl rfl ?_; apply Exists.intro; refine ⟨fun wv HC => ?_, ?_⟩
  · obtain ⟨⟨f0, f1⟩, ⟨f2, f3⟩, f4, f5, f6, f7⟩ := HF.out _ HC; go_simp <;> rfl
  simp only [Act.put, List.setIfInBounds_toArray, List.set_cons_succ, List.set_cons_zero]
  refine dw_val rfl rfl rfl ?_; apply Exists.intro; refine ⟨fun wv HC => ?_, ?_⟩
  · obtain ⟨⟨f0, f1⟩, ⟨f2, f3⟩, f4, f5, f6, f7⟩ := HF.out _ HC; go_simp <;> rfl
  simp only [Act.put, List.setIfInBounds_toArray, List.set_cons_succ, List.set_cons_zero]
  refine dw_val rfl rfl rfl ?_; apply Exists.intro; refine ⟨fun wv HC => ?_, ?_⟩
  · obtain ⟨⟨f0, f1⟩, ⟨f2, f3⟩, f4, f5, f6, f7⟩ := HF.out _ HC; go_simp <;> rfl
  simp only [Act.put, List.setIfInBounds_toArray, List.set_cons_succ, List.set_cons_zero]
  refine dw_val rfl rfl rfl ?_; apply Exists.intro; refine ⟨fun wv HC => ?_, ?_⟩
  · obtain ⟨⟨f0, f1⟩, ⟨f2, f3⟩, f4, f5, f6, f7⟩ := HF.out _ HC; go_simp <;> rfl
  simp only [Act.put, List.setIfInBounds_toArray, List.set_cons_succ, List.set_cons_zero]
  refine dw_val rfl rfl rfl ?_; apply Exists.intro; refine ⟨fun wv HC => ?_, ?_⟩
  · obtain ⟨⟨f0, f1⟩, ⟨f2, f3⟩, f4, f5, f6, f7⟩ := HF.out _ HC; go_simp <;> rfl
  simp only [Act.put, List.setIfInBounds_toArray, List.set_cons_succ, List.set_cons_zero]
  refine dw_val rfl rfl rfl ?_; apply Exists.intro; refine ⟨fun wv HC => ?_, ?_⟩
  · obtain ⟨⟨f0, f1⟩, ⟨f2, f3⟩, f4, f5, f6, f7⟩ := HF.out _ HC; go_simp <;> rfl
  simp only [Act.put, List.setIfInBounds_toArray, List.set_cons_succ, List.set_cons_zero]
  refine dw_val rfl rfl rfl ?_; apply Exists.intro; refine ⟨fun wv HC => ?_, ?_⟩
  · obtain ⟨⟨f0, f1⟩, ⟨f2, f3⟩, f4, f5, f6, f7⟩ := HF.out _ HC; go_simp <;> rfl
  simp only [Act.put, List.setIfInBounds_toArray, List.set_cons_succ, List.set_cons_zero]
  refine dw_val rfl rfl rfl ?_; apply Exists.intro; refine ⟨fun wv HC => ?_, ?_⟩
  · obtain ⟨⟨f0, f1⟩, ⟨f2, f3⟩, f4, f5, f6, f7⟩ := HF.out _ HC; go_simp <;> rfl
  simp only [Act.put, List.setIfInBounds_toArray, List.set_cons_succ, List.set_cons_zero]
  refine dw_val rfl rfl rfl ?_; apply Exists.intro; refine ⟨fun wv HC => ?_, ?_⟩
  · obtain ⟨⟨f0, f1⟩, ⟨f2, f3⟩, f4, f5, f6, f7⟩ := HF.out _ HC; go_simp <;> rfl
  simp only [Act.put, List.setIfInBounds_toArray, List.set_cons_succ, List.set_cons_zero]
  refine dw_val rfl rfl rfl ?_; apply Exists.intro; refine ⟨fun wv HC => ?_, ?_⟩
  · obtain ⟨⟨f0, f1⟩, ⟨f2, f3⟩, f4, f5, f6, f7⟩ := HF.out _ HC; go_simp <;> rfl
  simp only [Act.put, List.setIfInBounds_toArray, List.set_cons_succ, List.set_cons_zero]
  refine dw_val rfl rfl rfl ?_; apply Exists.intro; refine ⟨fun wv HC => ?_, ?_⟩
  · obtain ⟨⟨f0, f1⟩, ⟨f2, f3⟩, f4, f5, f6, f7⟩ := HF.out _ HC; go_simp <;> rfl
  simp only [Act.put, List.setIfInBounds_toArray, List.set_cons_succ, List.set_cons_zero]
  refine dw_val rfl rfl rfl ?_; apply Exists.intro; refine ⟨fun wv HC => ?_, ?_⟩
  · obtain ⟨⟨f0, f1⟩, ⟨f2, f3⟩, f4, f5, f6, f7⟩ := HF.out _ HC; go_simp <;> rfl
  simp only [Act.put, List.setIfInBounds_toArray, List.set_cons_succ, List.set_cons_zero]
  refine dw_val rfl rfl rfl ?_; apply Exists.intro; refine ⟨fun wv HC => ?_, ?_⟩
  · obtain ⟨⟨f0, f1⟩, ⟨f2, f3⟩, f4, f5, f6, f7⟩ := HF.out _ HC; go_simp <;> rfl
  simp only [Act.put, List.setIfInBounds_toArray, List.set_cons_succ, List.set_cons_zero]
  refine dw_val rfl rfl rfl ?_; apply Exists.intro; refine ⟨fun wv HC => ?_, ?_⟩
  · obtain ⟨⟨f0, f1⟩, ⟨f2, f3⟩, f4, f5, f6, f7⟩ := HF.out _ HC; go_simp <;> rfl
  simp only [Act.put, List.setIfInBounds_toArray, List.set_cons_succ, List.set_cons_zero]
  refine dw_val rfl rfl rfl ?_; apply Exists.intro; refine ⟨fun wv HC => ?_, ?_⟩
  · obtain ⟨⟨f0, f1⟩, ⟨f2, f3⟩, f4, f5, f6, f7⟩ := HF.out _ HC; go_simp <;> rfl
  simp only [Act.put, List.setIfInBounds_toArray, List.set_cons_succ, List.set_cons_zero]
  refine dw_val rfl rfl rfl ?_; apply Exists.intro; refine ⟨fun wv HC => ?_, ?_⟩
  · obtain ⟨⟨f0, f1⟩, ⟨f2, f3⟩, f4, f5, f6, f7⟩ := HF.out _ HC; go_simp <;> rfl
  simp only [Act.put, List.setIfInBounds_toArray, List.set_cons_succ, List.set_cons_zero]
  refine dw_callR 48 (IsV (.agg #[.int .i64 1, .int .i64 2, .string ⟨#[]⟩])) (f := 37) (args := #[.int .i64 2]) rfl rfl rfl rfl (fun wv => ?_) (fun wv HC hrm hD => ?_) ?_
  · go_simp <;> rfl
  · refine (num_any 2 wv).mono ?_
    rintro e w6 ⟨rfl, b6⟩
    exact ⟨_, rfl, rfl, HC.call b6, RM.below b6⟩
  rintro u wx HCx hu
  obtain rfl : u = _ := hu
  clear HCx
  simp only [Act.put, List.setIfInBounds_toArray, List.set_cons_succ, List.set_cons_zero]
  refine dw_val rfl rfl rfl ?_; apply Exists.intro; refine ⟨fun wv HC => ?_, ?_⟩
  ·  go_simp <;> rfl
  simp only [Act.put, List.setIfInBounds_toArray, List.set_cons_succ, List.set_cons_zero]
  refine dw_val rfl rfl rfl ?_; apply Exists.intro; refine ⟨fun wv HC => ?_, ?_⟩
  ·  go_simp <;> rfl
  simp only [Act.put, List.setIfInBounds_toArray, List.set_cons_succ, List.set_cons_zero]
  refine dw_val rfl rfl rfl ?_; apply Exists.intro; refine ⟨fun wv HC => ?_, ?_⟩
  ·  go_simp <;> rfl
  simp only [Act.put, List.setIfInBounds_toArray, List.set_cons_succ, List.set_cons_zero]
  refine rel_nil ?_
  rintro wx9 HX9
  rintro _hrm _HG
  go_wp2_with fail
  go_ret
  exact ⟨by first | rfl | simp, HX9.below⟩
end Go.Proofs.YtmopojjhlbjhnaaDoor

/- REmpty: ref8.Empty. -/
import Derived.Test.YtedogodccblfeaaGreatDoorSDiffSaidMB
import Derived.Test.YtedogodccblfeaaGreatDoorSDiffSaidMD
import Derived.Test.YtedogodccblfeaaGreatDoorSDiffSaidME
import Derived.IntWalk
import Derived.Test.YtedogodccblfeaaGreatDoorSDiffSaidMA
import Derived.Test.YtedogodccblfeaaGreatDoorSDiffSaidMC
namespace Go.Proofs.YtedogodccblfeaaGreatDoor
open Go.RowKit Go.Maps
set_option linter.unusedVariables false
set_option linter.unusedSimpArgs false

/-- numbers as keys -/
def intFam : KeyFam Tryz.prog 3 Int where
  val := fun x => .int .i64 x
  ok := I64
  key := fun x h => ⟨_, keyOf_int_mk Tryz.underlying3 (wf_i64 h)⟩
  inj := fun x y h => by injection h
theorem Tryz.setI : SetT Tryz.prog 205 3 4 := ⟨Tryz.underlying205, Tryz.underlying4, fun w => by kernel_rfl, int_keyed Tryz.underlying3⟩
/-- the updates, one by one -/
def updV (rs : List Row) (W : Nat) (gone : List Int) : Option Int → List Upd → Bool
  | _, [] => true
  | last, u :: us => (getR rs u.1).isSome && !gone.contains u.1 && !(last.any fun p => decide (p ≥ u.1)) && decide (getR rs u.1 = some u.2.1) && decide (u.2.2.length = W) && updV rs W gone (some u.1) us
theorem updV_eq {rs : List Row} {W : Nat} {gone : List Int} : ∀ {last : Option Int} {us : List Upd}, updV rs W gone last us = (updK rs W us && rowsK rs gone last (us.map (·.1)))
  | _, [] => rfl
  | last, u :: us => by
    rw [updV, updV_eq]
    simp only [updK, List.all_cons, List.map_cons, rowsK]
    cases (getR rs u.1).isSome <;> cases gone.contains u.1 <;> cases (last.any fun p => decide (p ≥ u.1)) <;> cases decide (getR rs u.1 = some u.2.1) <;> cases decide (u.2.2.length = W) <;> simp
theorem updV_bad {rs : List Row} {W : Nat} {gone : List Int} {k : Nat} {u : Upd} {last : Option Int} {us : List Upd} (hu : us[k]? = some u) (h : (getR rs u.1).isSome = false ∨ gone.contains u.1 = true ∨ (last.any fun p => decide (p ≥ u.1)) = true ∨ getR rs u.1 ≠ some u.2.1 ∨ u.2.2.length ≠ W) : updV rs W gone last (us.drop k) = false := by
  rw [drop_cons hu, updV]
  rcases h with h | h | h | h | h
  · rw [h]; simp
  · rw [h]; simp
  · rw [h]; simp
  · rw [decide_eq_false h]; simp
  · rw [decide_eq_false h]; simp
theorem updV_good {rs : List Row} {W : Nat} {gone : List Int} {k : Nat} {u : Upd} {last : Option Int} {us : List Upd} (hu : us[k]? = some u) (h1 : (getR rs u.1).isSome = true) (h2 : gone.contains u.1 = false) (h3 : (last.any fun p => decide (p ≥ u.1)) = false) (h4 : getR rs u.1 = some u.2.1) (h5 : u.2.2.length = W) : updV rs W gone last (us.drop k) = updV rs W gone (some u.1) (us.drop (k + 1)) := by
  rw [drop_cons hu, updV, h1, h2, h3, decide_eq_true h4, decide_eq_true h5]; rfl
theorem updV_end {rs : List Row} {W : Nat} {gone : List Int} {k : Nat} {last : Option Int} {us : List Upd} (h : us.length ≤ k) : updV rs W gone last (us.drop k) = true := by rw [List.drop_of_length_le h]; rfl
section
variable {nm : ByteArray} {cs : List Col} {nx : Int} {rs : List Row} {ins : List (List Vl)} {dels : List Int} {us : List Upd}
theorem chgV_tab (h : tabB nm cs nx rs = false) : chgB nm cs nx rs ins dels us = false := by simp [chgB, h]
theorem chgV_del (h : rowsK rs [] none dels = false) : chgB nm cs nx rs ins dels us = false := by simp [chgB, h]
theorem chgV_upd {W : Nat} (hW : W = cs.length) (h : updV rs W dels none us = false) : chgB nm cs nx rs ins dels us = false := by
  subst hW
  rw [updV_eq] at h
  unfold chgB
  cases h1 : updK rs cs.length us
  · simp
  · rw [h1, Bool.true_and] at h
    simp [h]
theorem chgV_ins {W : Nat} (hW : W = cs.length) (h : (ins.any fun s => decide (s.length ≠ W)) = true) : chgB nm cs nx rs ins dels us = false := by
  subst hW
  unfold chgB
  rw [h]
  simp
theorem chgV_ok {W : Nat} (hW : W = cs.length) (h1 : tabB nm cs nx rs = true) (h2 : rowsK rs [] none dels = true) (h3 : updV rs W dels none us = true) (h4 : (ins.any fun s => decide (s.length ≠ W)) = false) : chgB nm cs nx rs ins dels us = true := by
  subst hW
  rw [updV_eq, Bool.and_eq_true] at h3
  unfold chgB
  rw [h1, h2, h3.1, h3.2, h4]; rfl
end
theorem getR_mem {l : List Rw} {id : Int} {vs : List Vl} (h : getR (l.map Rw.row) id = some vs) : ∃ r ∈ l, r.id = id ∧ r.vs = vs := by
  unfold getR at h
  obtain ⟨x, hx, hv⟩ := Option.map_eq_some_iff.1 h
  obtain ⟨r, hr, rfl⟩ := List.mem_map.1 (List.mem_of_find?_eq_some hx)
  have h2 := List.find?_some hx
  exact ⟨r, hr, by simpa [Rw.row] using h2, hv⟩
set_option maxHeartbeats 8000000 in
set_option maxRecDepth 100000 in
theorem rkvalid_any (M : Nat → Prop) (w : World) (hM : ∀ b, M b → b < w.heap.size) (nm : ByteArray) (A : Option Addr) (n c : Nat) (cs : List Col) (nx : Int) (B : Option Addr) (m d : Nat) (l : List Rw) (I : Option Addr) (ni ci : Nat) (ins : List Sl) (D : Option Addr) (nd cd : Nat) (dels : List Int) (U : Option Addr) (nu cu : Nat) (us : List Pr)
    (hC : Ro w M (SlR 4 A n (colCells cs))) (hE : Ro w M (RwsIn B m l)) (hI : Ro w M (SlsIn I ni ins)) (hD : Ro w M (IsIn D nd dels)) (hU : Ro w M (PrsIn U nu us)) (hn : n ≤ 9223372036854775807) (hm : m ≤ 4611686018427387904) (hok : ∀ r ∈ l, r.ok) (hrn : ∀ r ∈ l, r.n ≤ 4398046511104) (hpn : ∀ p ∈ us, p.on ≤ 9223372036854775807) (hs : nm.size ≤ maxLen) (hcs : ∀ x ∈ cs, x.name.size ≤ maxLen)
    (hni : ni ≤ 9223372036854775807) (hnd : nd ≤ 4611686018427387904) (hnu : nu ≤ 4398046511104) :
    Calls Tryz.prog 72 #[.agg #[.string nm, .slice A n c, .int .i64 nx, .slice B m d], .agg #[.slice I ni ci, .slice D nd cd, .slice U nu cu]] w fun e w' => e = .returned (.bool (chgB nm cs nx (l.map Rw.row) (ins.map Sl.vs) dels (us.map Pr.upd))) ∧ Below w.heap.size w w' := by
  have HUL := hid hU.now.len
  have HIL := hid hI.now.len
  have HDL := hid hD.now.len
  have HCL := hid (show cs.length = n from (RdC.of_sl hC.now).len)
  have HOK := hid hok
  have HRN := hid hrn
  have HPN := hid hpn
  clear hok hrn hpn
  have K0 := ((((((Hold.start M w hM).add (hU.less (by simp [Mut]))).add (hD.less (by simp [Mut, Hp.foot]))).add (hI.less (by simp [Mut, Hp.foot]))).add (hE.less (by simp [Mut, Hp.foot]))).add (hC.less (by simp [Mut, Hp.foot]))).alloc_cst #[.string nm, .slice A n c, .int .i64 nx, .slice B m d] 58 |>.alloc_cst #[.slice I ni ci, .slice D nd cd, .slice U nu cu] 76
  rw [World.size_alloc] at K0
  clear hC hE hI hD hU
  obtain ⟨gt, hgt⟩ : ∃ gt, gt = w.heap.size := ⟨_, rfl⟩
  obtain ⟨gc, hgc⟩ : ∃ gc, gc = gt + 1 := ⟨_, rfl⟩
  rw [← hgt, ← hgc] at K0
  have F0 := K0.facts
  simp only [factsL, cellsF, Nat.reduceAdd, zf, zl] at F0
  have hmm := @run_makeMap Tryz.prog
  rw [hgc, hgt] at K0 F0
  go_enter Tryz.func72, Tryz.ntmps72
  go_wp2_with fail
  rw [← hgt, ← hgc] at K0 ⊢
  have HGT := hid hgt
  clear hgt hgc F0
  generalize (w.alloc _).alloc _ = w0 at K0 ⊢
  refine (rtvalid_any _ _ K0.mutLt nm A n c cs nx B m d l (K0.ro 2 rfl) (K0.ro 3 rfl) hn hm HOK.out hs hcs).mono ?_
  rintro e w1 ⟨rfl, b1⟩
  have K1 := K0.call b1
  clear K0 b1
  cases htb : tabB nm cs nx (l.map Rw.row)
  · have HN := hid (show chgB nm cs nx (l.map Rw.row) (ins.map Sl.vs) dels (us.map Pr.upd) = false from chgV_tab htb)
    clear htb
    go_wp2_with fail
    go_ret
    exact ⟨by rw [HN.out] <;> rfl, K1.below⟩
  · have HTB := hid htb
    have HDK := hid HCL.out.symm
    clear htb
    have F1 := K1.facts
    simp only [factsL, cellsF, Nat.reduceAdd, zf, zl] at F1
    have KM := Hold.mset K1 4 intFam
    obtain ⟨gm, hgm⟩ : ∃ gm, gm = w1.heap.size := ⟨_, rfl⟩
    rw [← hgm, show (fun _ : Int => False) = (fun z => z ∈ dels.take 0) by funext z; simp] at KM
    go_wp2_with fail
    rw [← hgm]
    have HGM := hid hgm
    clear hgm K1 F1
    go_loopw [28] (fun iv wr => ∃ (k q : Nat) (last : Option Int), k ≤ nd ∧ iv = .int .i64 k ∧ q ≤ k ∧ Hid (PrevOk dels k last ∧ rowsK (l.map Rw.row) [] none dels = rowsK (l.map Rw.row) [] last (dels.drop k)) ∧ Hold M none w wr [.ob gm (MSet 4 intFam gm q (fun z => z ∈ dels.take k)), .cst gc 76 #[.slice I ni ci, .slice D nd cd, .slice U nu cu], .cst gt 58 #[.string nm, .slice A n c, .int .i64 nx, .slice B m d], .ro (SlR 4 A n (colCells cs)), .ro (RwsIn B m l), .ro (SlsIn I ni ins), .ro (IsIn D nd dels), .ro (PrsIn U nu us)]) (fun iv _ => nd - (intOf iv).toNat)
    case atStart => exact ⟨0, 0, none, by omega, rfl, by omega, hid ⟨⟨fun _ => rfl, fun p hp => by omega⟩, rfl⟩, KM⟩
    case round =>
      clear KM hmm
      obtain ⟨k, q, last, hk, rfl, hq, HP, H⟩ := hrel
      by_cases hlt : k < nd
      · have hdd : decide ((k : Int) < (nd : Int)) = true := by simp; omega
        have k0 : (0 : Int) ≤ (k : Int) := by omega
        have k1 : (k : Int) < (nd : Int) := by omega
        obtain ⟨id, hx⟩ := get_of HDL.out hlt
        obtain ⟨b, o, rfl, hb, hcc⟩ := (H.ro 6 rfl).now.cells (by omega)
        have hgd : ∀ j z, dels[j]? = some z → dels.getD j 0 = z := fun j z h => by simp [List.getD, h]
        have ck : wr.cell? ⟨b, o + k, none⟩ = some (.int .i64 id) := by rw [← hgd k id hx]; exact hcc k (by rw [HDL.out]; exact hlt)
        have HX := hid hx
        have F1 := H.facts
        simp only [factsL, cellsF, Nat.reduceAdd, zf, zl] at F1
        have HGD := hid hgd
        clear hx hcc hgd
        go_wp2_with fail
        refine (rtget_any _ _ H.mutLt (.string nm) (.slice A n c) (.int .i64 nx) B m d l id (H.ro 4 rfl) hm HRN.out).mono ?_
        rintro e w2 ⟨A1, n1, c1, rfl, hn1, _, _, r1, b1⟩
        have K1 := H.call b1
        clear F1 b1 r1 hn1 ck H
        have F1 := K1.facts
        simp only [factsL, cellsF, Nat.reduceAdd, zf, zl] at F1
        cases hg : getR (l.map Rw.row) id with
        | none =>
          have HN := hid (show chgB nm cs nx (l.map Rw.row) (ins.map Sl.vs) dels (us.map Pr.upd) = false from chgV_del (by rw [HP.out.2]; exact rowsK_bad HX.out (.inl (by rw [hg]; rfl))))
          simp only [Option.isSome_none]
          clear hg
          go_wp2_with fail
          go_ret
          exact ⟨by rw [HN.out] <;> rfl, K1.below⟩
        | some vs =>
          have HG := hid (show (getR (l.map Rw.row) id).isSome = true by rw [hg]; rfl)
          have HPI := hid (show I64 id by obtain ⟨r, hr, h1, _⟩ := getR_mem hg; rw [← h1]; exact (HOK.out r hr).id)
          have HMT := hid (show (fun z => z = id ∨ z ∈ dels.take k) = (fun z => z ∈ dels.take (k + 1)) by funext z; rw [List.take_add_one, HX.out]; simp [or_comm])
          simp only [Option.isSome_some]
          clear hg
          rcases Nat.eq_zero_or_pos k with hk0 | hk0
          · have HLN := hid (HP.out.1.1 hk0)
            have hd0 : decide ((k : Int) > 0) = false := by simp; omega
            have hd1 : decide (0 < k) = false := by simp; omega
            have hd2 : decide ((0 : Int) < (k : Int)) = false := by simp; omega
            have HPV := hid (show (last.any fun p => decide (p ≥ id)) = false by rw [HLN.out]; rfl)
            clear hk0
            go_wp2_with (at_mapUpdate; go_must (refine wpList_put K1 0 rfl Tryz.setI rfl (.tmp 55) (.tmp 56) _ rfl rfl id rfl rfl HPI.out (by unfold maxLen; omega) ?_); intro w5 K5)
            rw [HMT.out] at K5
            simp only [List.set_cons_zero] at K5
            have HS := hid (show rowsK (l.map Rw.row) [] none dels = rowsK (l.map Rw.row) [] (some id) (dels.drop (k + 1)) by rw [HP.out.2]; exact rowsK_good HX.out HG.out HPV.out rfl)
            have HPP := hid (show PrevOk dels (k + 1) (some id) from ⟨fun h => by omega, fun p hp => ⟨id, (show k = p by omega) ▸ HX.out, rfl⟩⟩)
            go_roundw
            case rel => exact ⟨k + 1, q + 1, some id, by omega, by go_num, by omega, hid ⟨HPP.out, HS.out⟩, K5⟩
            case measure => simp [intOf]; omega
          · obtain ⟨p, hp⟩ : ∃ p, k = p + 1 := ⟨k - 1, by omega⟩
            obtain ⟨z, hz, hzl⟩ := HP.out.1.2 p hp
            have HZL := hid hzl
            have hd0 : decide ((k : Int) > 0) = true := by simp; omega
            have hd1 : decide (0 < k) = true := by simp; omega
            have hd2 : decide ((0 : Int) < (k : Int)) = true := by simp; omega
            have hw1 : IntKind.i64.wrap ((k : Int) - 1) = (p : Int) := by rw [IntKind.wrap_i64]; omega
            have hw2 : (k : Int) - 1 = (p : Int) := by omega
            have p0 : (0 : Int) ≤ (p : Int) := by omega
            have p1 : (p : Int) < (nd : Int) := by omega
            have cz : w2.cell? ⟨b, o + p, none⟩ = some (.int .i64 z) := by
              obtain ⟨b', o', e', _, hcc⟩ := (K1.ro 6 rfl).now.cells (by omega)
              obtain ⟨rfl, rfl⟩ : b = b' ∧ o = o' := by injection e' with e'; injection e' with a1 a2; exact ⟨a1, a2⟩
              rw [← HGD.out p z hz]; exact hcc p (by rw [HDL.out]; omega)
            have HKP := hid hp
            clear hz hzl hk0 hp
            by_cases hzi : z ≥ id
            · have hzd : decide (z ≥ id) = true := by simpa using hzi
              have HN := hid (show chgB nm cs nx (l.map Rw.row) (ins.map Sl.vs) dels (us.map Pr.upd) = false from chgV_del (by rw [HP.out.2]; exact rowsK_bad HX.out (.inr (.inl (by rw [HZL.out]; simpa using hzi)))))
              clear hzi
              go_wp2_with fail
              go_ret
              exact ⟨by rw [HN.out] <;> rfl, K1.below⟩
            · have hzd : decide (z ≥ id) = false := by simpa using hzi
              have HPV := hid (show (last.any fun p => decide (p ≥ id)) = false by rw [HZL.out]; simpa using hzi)
              clear hzi
              go_wp2_with (at_mapUpdate; go_must (refine wpList_put K1 0 rfl Tryz.setI rfl (.tmp 55) (.tmp 56) _ rfl rfl id rfl rfl HPI.out (by unfold maxLen; omega) ?_); intro w5 K5)
              rw [HMT.out] at K5
              simp only [List.set_cons_zero] at K5
              have HS := hid (show rowsK (l.map Rw.row) [] none dels = rowsK (l.map Rw.row) [] (some id) (dels.drop (k + 1)) by rw [HP.out.2]; exact rowsK_good HX.out HG.out HPV.out rfl)
              have HPP := hid (show PrevOk dels (k + 1) (some id) from ⟨fun h => by omega, fun p hp => ⟨id, (show k = p by omega) ▸ HX.out, rfl⟩⟩)
              go_roundw
              case rel => exact ⟨k + 1, q + 1, some id, by omega, by go_num, by omega, hid ⟨HPP.out, HS.out⟩, K5⟩
              case measure => simp [intOf]; omega
      · obtain rfl : nd = k := by omega
        have hdd : decide ((nd : Int) < (nd : Int)) = false := by simp
        clear hlt
        have HRK := hid (show rowsK (l.map Rw.row) [] none dels = true by rw [HP.out.2]; exact rowsK_end (by rw [HDL.out]; exact Nat.le_refl _))
        rw [List.take_of_length_le (by rw [HDL.out]; exact Nat.le_refl _)] at H
        have F1 := H.facts
        simp only [factsL, cellsF, Nat.reduceAdd, zf, zl] at F1
        go_wp2_with fail
        clear F1 hdd HP
        go_loopw [61] (fun iv wr => ∃ (k : Nat) (last : Option Int), k ≤ nu ∧ iv = .int .i64 k ∧ Hid (PrevOk ((us.map Pr.upd).map (·.1)) k last ∧ updV (l.map Rw.row) n dels none (us.map Pr.upd) = updV (l.map Rw.row) n dels last ((us.map Pr.upd).drop k)) ∧ Hold M none w wr [.ob gm (MSet 4 intFam gm q (fun z => z ∈ dels)), .cst gc 76 #[.slice I ni ci, .slice D nd cd, .slice U nu cu], .cst gt 58 #[.string nm, .slice A n c, .int .i64 nx, .slice B m d], .ro (SlR 4 A n (colCells cs)), .ro (RwsIn B m l), .ro (SlsIn I ni ins), .ro (IsIn D nd dels), .ro (PrsIn U nu us)]) (fun iv _ => nu - (intOf iv).toNat)
        case atStart => exact ⟨0, none, by omega, rfl, hid ⟨⟨fun _ => rfl, fun p hp => by omega⟩, rfl⟩, H⟩
        case round =>
          clear H
          obtain ⟨k, last, hk, rfl, HP, H⟩ := hrel
          by_cases hlt : k < nu
          · have hdd : decide ((k : Int) < (nu : Int)) = true := by simp; omega
            have k0 : (0 : Int) ≤ (k : Int) := by omega
            have k1 : (k : Int) < (nu : Int) := by omega
            obtain ⟨p, hp⟩ := get_of HUL.out hlt
            obtain ⟨b, o, rfl, hb, c0, c1, c2, hv1, hv2⟩ := (H.ro 7 rfl).now.at_ hp
            have HU := hid (show (us.map Pr.upd)[k]? = some p.upd by rw [List.getElem?_map, hp]; rfl)
            have HPL := hid hv2.len
            have hpon := HPN.out p (List.mem_of_getElem? hp)
            have hpo : Ro wr _ (VlsIn p.oA p.on p.old) := (H.ro 7 rfl).imp fun w2 h2 => (h2.2 p (List.mem_of_getElem? hp)).1
            clear hp hv1 hv2
            have K1 := (H.add hpo).alloc_cst #[.int .i64 p.id, .slice p.oA p.on p.oc, .slice p.nA p.nn p.nc] 110
            clear H hpo
            obtain ⟨gp, hgp⟩ : ∃ gp, gp = wr.heap.size := ⟨_, rfl⟩
            rw [← hgp] at K1
            have F1 := K1.facts
            simp only [factsL, cellsF, Nat.reduceAdd, zf, zl] at F1
            go_wp2_with fail
            rw [← hgp]
            have HGP := hid hgp
            clear hgp c0 c1 c2
            refine (rtget_any _ _ K1.mutLt (.string nm) (.slice A n c) (.int .i64 nx) B m d l p.id (K1.ro 6 rfl) hm HRN.out).mono ?_
            rintro e w2 ⟨A1, n1, c1, rfl, hn1, _, _, r1, b1⟩
            clear F1
            cases hg : getR (l.map Rw.row) p.id with
            | none =>
              have HN := hid (show chgB nm cs nx (l.map Rw.row) (ins.map Sl.vs) dels (us.map Pr.upd) = false from chgV_upd HDK.out (by rw [HP.out.2]; exact updV_bad HU.out (.inl (by rw [show p.upd.1 = p.id from rfl, hg]; rfl))))
              simp only [Option.isSome_none]
              have K2 := (K1.call b1).add r1
              clear K1 b1 r1 hn1 hg
              obtain ⟨KL, hKL, K3⟩ := K2.name
              have HKL := hid hKL
              clear hKL K2
              go_wp2_with fail
              refine wp_region_any (by kernel_rfl) ?_
              refine wpAny_hold 38 124 (KL) (spL []) (by kernel_rfl) (by kernel_rfl) (by kernel_rfl) rfl ?_ (K3.drew) ?_
              · exact stays_nil _
              simp only [zd, Act.put, List.getElem_toArray, List.getElem_cons_zero, List.getElem_cons_succ, zl]
              refine dw_val rfl rfl rfl ?_; apply Exists.intro; refine ⟨fun wv HC => ?_, ?_⟩
              ·  go_simp <;> rfl
              simp only [Act.put, zl]
              refine dw_val rfl rfl rfl ?_; apply Exists.intro; refine ⟨fun wv HC => ?_, ?_⟩
              ·  go_simp <;> rfl
              simp only [Act.put, zl]
              refine dw_val rfl rfl rfl ?_; apply Exists.intro; refine ⟨fun wv HC => ?_, ?_⟩
              ·  go_simp <;> rfl
              simp only [Act.put, zl]
              refine dw_skip rfl rfl rfl ?_
              simp only [Act.put, zl]
              refine dw_skip rfl rfl rfl ?_
              simp only [Act.put, zl]
              refine dw_skip rfl rfl rfl ?_
              simp only [Act.put, zl]
              refine dw_skip rfl rfl rfl ?_
              simp only [Act.put, zl]
              refine dw_val rfl rfl rfl ?_; apply Exists.intro; refine ⟨fun wv HC => ?_, ?_⟩
              ·  go_simp <;> rfl
              simp only [Act.put, zl]
              refine dw_val rfl rfl rfl ?_; apply Exists.intro; refine ⟨fun wv HC => ?_, ?_⟩
              ·  go_simp <;> rfl
              simp only [Act.put, zl]
              refine dw_skip rfl rfl rfl ?_
              simp only [Act.put, zl]
              refine dw_skip rfl rfl rfl ?_
              simp only [Act.put, zl]
              refine dw_skip rfl rfl rfl ?_
              simp only [Act.put, zl]
              refine dw_skip rfl rfl rfl ?_
              simp only [Act.put, zl]
              refine dw_skip rfl rfl rfl ?_
              simp only [Act.put, zl]
              refine dw_skip rfl rfl rfl ?_
              simp only [Act.put, zl]
              refine dw_skip rfl rfl rfl ?_
              simp only [Act.put, zl]
              refine dw_skip rfl rfl rfl ?_
              simp only [Act.put, zl]
              refine dw_skip rfl rfl rfl ?_
              simp only [Act.put, zl]
              refine dw_skip rfl rfl rfl ?_
              simp only [Act.put, zl]
              refine dw_skip rfl rfl rfl ?_
              simp only [Act.put, zl]
              refine dw_skip rfl rfl rfl ?_
              simp only [Act.put, zl]
              refine dw_skip rfl rfl rfl ?_
              simp only [Act.put, zl]
              refine dw_skip rfl rfl rfl ?_
              simp only [Act.put, zl]
              refine dw_val rfl rfl rfl ?_; apply Exists.intro; refine ⟨fun wv HC => ?_, ?_⟩
              ·  go_simp <;> rfl
              simp only [Act.put, zl]
              refine dw_val rfl rfl rfl ?_; apply Exists.intro; refine ⟨fun wv HC => ?_, ?_⟩
              ·  go_simp <;> rfl
              simp only [Act.put, zl]
              refine dw_skip rfl rfl rfl ?_
              simp only [Act.put, zl]
              refine dw_skip rfl rfl rfl ?_
              simp only [Act.put, zl]
              refine dw_skip rfl rfl rfl ?_
              simp only [Act.put, zl]
              refine dw_skip rfl rfl rfl ?_
              simp only [Act.put, zl]
              refine dw_skip rfl rfl rfl ?_
              simp only [Act.put, zl]
              refine dw_val rfl rfl rfl ?_; apply Exists.intro; refine ⟨fun wv HC => ?_, ?_⟩
              ·  go_simp <;> rfl
              simp only [Act.put, zl]
              refine dw_val rfl rfl rfl ?_; apply Exists.intro; refine ⟨fun wv HC => ?_, ?_⟩
              ·  go_simp <;> rfl
              simp only [Act.put, zl]
              refine dw_skip rfl rfl rfl ?_
              simp only [Act.put, zl]
              refine dw_skip rfl rfl rfl ?_
              simp only [Act.put, zl]
              refine dw_skip rfl rfl rfl ?_
              simp only [Act.put, zl]
              refine dw_skip rfl rfl rfl ?_
              simp only [Act.put, zl]
              refine dw_skip rfl rfl rfl ?_
              simp only [Act.put, zl]
              refine dw_val rfl rfl rfl ?_; apply Exists.intro; refine ⟨fun wv HC => ?_, ?_⟩
              ·  go_simp <;> rfl
              simp only [Act.put, zl]
              refine rel_nil ?_
              rintro wx9 HX9
              rintro _hrm _HG
              rw [HKL.out] at HX9
              clear _hrm _HG
              go_wp2_with fail
              go_ret
              exact ⟨by rw [HN.out] <;> rfl, HX9.below⟩
            | some vs =>
              have HG2 := hid (show getR (l.map Rw.row) p.upd.1 = some vs from hg)
              have HGS := hid (show (getR (l.map Rw.row) p.upd.1).isSome = true by rw [show p.upd.1 = p.id from rfl, hg]; rfl)
              have HPI := hid (show I64 p.id by obtain ⟨r, hr, h1, _⟩ := getR_mem hg; rw [← h1]; exact (HOK.out r hr).id)
              have hn1m : n1 ≤ 4611686018427387904 := by
                obtain ⟨r, hr, _, h2⟩ := getR_mem hg
                have h3 := HRN.out r hr
                have h4 := ((K1.ro 6 rfl).now.2 r hr).len
                rw [hg] at hn1
                simp only [Option.getD_some] at hn1
                rw [h2] at h4
                omega
              rw [hg] at r1
              simp only [Option.isSome_some]
              simp only [Option.getD_some] at r1
              have K2 := (K1.call b1).add r1
              clear K1 b1 r1 hn1 hg
              obtain ⟨KL, hKL, K3⟩ := K2.name
              have HRX : Hid (∀ wv, Hold M none w wv KL → Ro wv (Mut M KL) (VlsIn A1 n1 vs) ∧ Ro wv (Mut M KL) (VlsIn p.oA p.on p.old)) := hid fun wv HC => by
                rw [hKL] at HC ⊢
                exact ⟨HC.ro 0 rfl, HC.ro 2 rfl⟩
              clear K2
              rcases Nat.eq_zero_or_pos k with hk0 | hk0
              · have HLN := hid (HP.out.1.1 hk0)
                have hd0 : decide ((k : Int) > 0) = false := by simp; omega
                have hd1 : decide (0 < k) = false := by simp; omega
                have hd2 : decide ((0 : Int) < (k : Int)) = false := by simp; omega
                have HPV := hid (show (last.any fun q => decide (q ≥ p.upd.1)) = false by rw [HLN.out]; rfl)
                clear hk0
                have HF : Hid (∀ wv, Hold M none w wv KL → wv.cell? ⟨gp, 0, none⟩ = some (.int .i64 p.id) ∧ wv.cell? ⟨gp, 1, none⟩ = some (.slice p.oA p.on p.oc) ∧ wv.cell? ⟨gp, 2, none⟩ = some (.slice p.nA p.nn p.nc) ∧ gp < wv.heap.size ∧ wv.cell? ⟨gc, 2, none⟩ = some (.slice (some ⟨b, o, none⟩) nu cu) ∧ gc < wv.heap.size) := hid fun wv HC => by
                  rw [hKL] at HC
                  have y0 := HC.cst_ 1 rfl
                  have y1 := HC.cst_ 4 rfl
                  exact ⟨cell_of_row _ _ 0 _ _ _ y0, cell_of_row _ _ 1 _ _ _ y0, cell_of_row _ _ 2 _ _ _ y0, Blk.lt y0, cell_of_row _ _ 2 _ _ _ y1, Blk.lt y1⟩
                have HKL := hid hKL
                clear hKL
                by_cases hin : p.id ∈ dels
                · have HN := hid (show chgB nm cs nx (l.map Rw.row) (ins.map Sl.vs) dels (us.map Pr.upd) = false from chgV_upd HDK.out (by rw [HP.out.2]; exact updV_bad HU.out (.inr (.inl (by show dels.contains p.id = true; simpa using hin)))))
                  have HINN := hid hin
                  clear hin
                  go_wp2_with fail
                  refine wp_region_any (by kernel_rfl) ?_
                  refine wpAny_hold 38 124 (KL) (spL []) (by kernel_rfl) (by kernel_rfl) (by kernel_rfl) rfl ?_ (K3.drew) ?_
                  · exact stays_nil _
                  simp only [zd, Act.put, List.getElem_toArray, List.getElem_cons_zero, List.getElem_cons_succ, zl]
                  refine dw_val rfl rfl rfl ?_; apply Exists.intro; refine ⟨fun wv HC => ?_, ?_⟩
                  ·  go_simp <;> rfl
                  simp only [Act.put, zl]
                  refine dw_val rfl rfl rfl ?_; apply Exists.intro; refine ⟨fun wv HC => ?_, ?_⟩
                  ·  go_simp <;> rfl
                  simp only [Act.put, zl]
                  refine dw_val rfl rfl rfl ?_; apply Exists.intro; refine ⟨fun wv HC => ?_, ?_⟩
                  ·  go_simp <;> rfl
                  simp only [Act.put, zl]
                  refine dw_val rfl rfl rfl ?_; apply Exists.intro; refine ⟨fun wv HC => ?_, ?_⟩
                  ·  go_simp <;> rfl
                  simp only [Act.put, zl]
                  refine dw_val rfl rfl rfl ?_; apply Exists.intro; refine ⟨fun wv HC => ?_, ?_⟩
                  ·  go_simp <;> rfl
                  simp only [Act.put, zl]
                  refine dw_val rfl rfl rfl ?_; apply Exists.intro; refine ⟨fun wv HC => ?_, ?_⟩
                  · obtain ⟨f0, f1, f2, f3, f4, f5⟩ := HF.out _ HC; go_simp <;> rfl
                  simp only [Act.put, zl]
                  refine dw_val rfl rfl rfl ⟨.bool true, fun wv HC => ?_, ?_⟩
                  · have hob := (show MSet 4 intFam gm q (fun z => z ∈ dels) wv by
                      have HC2 := HC
                      rw [HKL.out] at HC2
                      exact HC2.ob_ 3 rfl).look Tryz.setI (x := p.id) HPI.out
                    obtain ⟨cb, hrun, hcb⟩ := hob
                    obtain rfl : cb = true := hcb.2 HINN.out
                    simp [execOp, Act.eval, hrun, Result.andThen, intFam] at hrun ⊢
                    all_goals (try simp [hrun, Result.andThen])
                  simp only [Act.put, zl]
                  refine dw_val rfl rfl rfl ?_; apply Exists.intro; refine ⟨fun wv HC => ?_, ?_⟩
                  ·  go_simp <;> rfl
                  simp only [Act.put, zl]
                  refine dw_val rfl rfl rfl ?_; apply Exists.intro; refine ⟨fun wv HC => ?_, ?_⟩
                  ·  go_simp <;> rfl
                  simp only [Act.put, zl]
                  refine dw_skip rfl rfl rfl ?_
                  simp only [Act.put, zl]
                  refine dw_skip rfl rfl rfl ?_
                  simp only [Act.put, zl]
                  refine dw_skip rfl rfl rfl ?_
                  simp only [Act.put, zl]
                  refine dw_skip rfl rfl rfl ?_
                  simp only [Act.put, zl]
                  refine dw_skip rfl rfl rfl ?_
                  simp only [Act.put, zl]
                  refine dw_skip rfl rfl rfl ?_
                  simp only [Act.put, zl]
                  refine dw_skip rfl rfl rfl ?_
                  simp only [Act.put, zl]
                  refine dw_skip rfl rfl rfl ?_
                  simp only [Act.put, zl]
                  refine dw_skip rfl rfl rfl ?_
                  simp only [Act.put, zl]
                  refine dw_skip rfl rfl rfl ?_
                  simp only [Act.put, zl]
                  refine dw_skip rfl rfl rfl ?_
                  simp only [Act.put, zl]
                  refine dw_skip rfl rfl rfl ?_
                  simp only [Act.put, zl]
                  refine dw_skip rfl rfl rfl ?_
                  simp only [Act.put, zl]
                  refine dw_skip rfl rfl rfl ?_
                  simp only [Act.put, zl]
                  refine dw_val rfl rfl rfl ?_; apply Exists.intro; refine ⟨fun wv HC => ?_, ?_⟩
                  ·  go_simp <;> rfl
                  simp only [Act.put, zl]
                  refine dw_val rfl rfl rfl ?_; apply Exists.intro; refine ⟨fun wv HC => ?_, ?_⟩
                  ·  go_simp <;> rfl
                  simp only [Act.put, zl]
                  refine dw_skip rfl rfl rfl ?_
                  simp only [Act.put, zl]
                  refine dw_skip rfl rfl rfl ?_
                  simp only [Act.put, zl]
                  refine dw_skip rfl rfl rfl ?_
                  simp only [Act.put, zl]
                  refine dw_skip rfl rfl rfl ?_
                  simp only [Act.put, zl]
                  refine dw_skip rfl rfl rfl ?_
                  simp only [Act.put, zl]
                  refine dw_val rfl rfl rfl ?_; apply Exists.intro; refine ⟨fun wv HC => ?_, ?_⟩
                  ·  go_simp <;> rfl
                  simp only [Act.put, zl]
                  refine dw_val rfl rfl rfl ?_; apply Exists.intro; refine ⟨fun wv HC => ?_, ?_⟩
                  ·  go_simp <;> rfl
                  simp only [Act.put, zl]
                  refine dw_skip rfl rfl rfl ?_
                  simp only [Act.put, zl]
                  refine dw_skip rfl rfl rfl ?_
                  simp only [Act.put, zl]
                  refine dw_skip rfl rfl rfl ?_
                  simp only [Act.put, zl]
                  refine dw_skip rfl rfl rfl ?_
                  simp only [Act.put, zl]
                  refine dw_skip rfl rfl rfl ?_
                  simp only [Act.put, zl]
                  refine dw_val rfl rfl rfl ?_; apply Exists.intro; refine ⟨fun wv HC => ?_, ?_⟩
                  ·  go_simp <;> rfl
                  simp only [Act.put, zl]
                  refine rel_nil ?_
                  rintro wx9 HX9
                  rintro _hrm _HG
                  rw [HKL.out] at HX9
                  clear _hrm _HG
                  go_wp2_with fail
                  go_ret
                  exact ⟨by rw [HN.out] <;> rfl, HX9.below⟩
                · have HIN := hid (show dels.contains p.id = false by simpa using hin)
                  have HINN := hid hin
                  clear hin
                  go_wp2_with fail
                  refine wp_region_any (by kernel_rfl) ?_
                  refine wpAny_hold 38 124 (KL) (spL [(101, CmpSlot (vs = p.old))]) (by kernel_rfl) (by kernel_rfl) (by kernel_rfl) rfl ?_ (K3.drew) ?_
                  · exact stays_cons (fun _ _ _ _ h => h) (stays_nil _)
                  simp only [zd, Act.put, List.getElem_toArray, List.getElem_cons_zero, List.getElem_cons_succ, zl]
                  refine dw_val rfl rfl rfl ?_; apply Exists.intro; refine ⟨fun wv HC => ?_, ?_⟩
                  ·  go_simp <;> rfl
                  simp only [Act.put, zl]
                  refine dw_val rfl rfl rfl ?_; apply Exists.intro; refine ⟨fun wv HC => ?_, ?_⟩
                  ·  go_simp <;> rfl
                  simp only [Act.put, zl]
                  refine dw_val rfl rfl rfl ?_; apply Exists.intro; refine ⟨fun wv HC => ?_, ?_⟩
                  ·  go_simp <;> rfl
                  simp only [Act.put, zl]
                  refine dw_val rfl rfl rfl ?_; apply Exists.intro; refine ⟨fun wv HC => ?_, ?_⟩
                  ·  go_simp <;> rfl
                  simp only [Act.put, zl]
                  refine dw_val rfl rfl rfl ?_; apply Exists.intro; refine ⟨fun wv HC => ?_, ?_⟩
                  ·  go_simp <;> rfl
                  simp only [Act.put, zl]
                  refine dw_val rfl rfl rfl ?_; apply Exists.intro; refine ⟨fun wv HC => ?_, ?_⟩
                  · obtain ⟨f0, f1, f2, f3, f4, f5⟩ := HF.out _ HC; go_simp <;> rfl
                  simp only [Act.put, zl]
                  refine dw_val rfl rfl rfl ⟨.bool false, fun wv HC => ?_, ?_⟩
                  · have hob := (show MSet 4 intFam gm q (fun z => z ∈ dels) wv by
                      have HC2 := HC
                      rw [HKL.out] at HC2
                      exact HC2.ob_ 3 rfl).look Tryz.setI (x := p.id) HPI.out
                    obtain ⟨cb, hrun, hcb⟩ := hob
                    obtain rfl : cb = false := by cases cb; rfl; exact absurd (hcb.1 rfl) HINN.out
                    simp [execOp, Act.eval, hrun, Result.andThen, intFam] at hrun ⊢
                    all_goals (try simp [hrun, Result.andThen])
                  simp only [Act.put, zl]
                  refine dw_val rfl rfl rfl ?_; apply Exists.intro; refine ⟨fun wv HC => ?_, ?_⟩
                  ·  go_simp <;> rfl
                  simp only [Act.put, zl]
                  refine dw_val rfl rfl rfl ?_; apply Exists.intro; refine ⟨fun wv HC => ?_, ?_⟩
                  ·  go_simp <;> rfl
                  simp only [Act.put, zl]
                  refine dw_val rfl rfl rfl ?_; apply Exists.intro; refine ⟨fun wv HC => ?_, ?_⟩
                  ·  go_simp <;> rfl
                  simp only [Act.put, zl]
                  refine dw_val rfl rfl rfl ?_; apply Exists.intro; refine ⟨fun wv HC => ?_, ?_⟩
                  ·  go_simp <;> rfl
                  simp only [Act.put, zl]
                  refine dw_val rfl rfl rfl ?_; apply Exists.intro; refine ⟨fun wv HC => ?_, ?_⟩
                  ·  go_simp <;> rfl
                  simp only [Act.put, zl]
                  refine dw_skip rfl rfl rfl ?_
                  simp only [Act.put, zl]
                  refine dw_skip rfl rfl rfl ?_
                  simp only [Act.put, zl]
                  refine dw_skip rfl rfl rfl ?_
                  simp only [Act.put, zl]
                  refine dw_skip rfl rfl rfl ?_
                  simp only [Act.put, zl]
                  refine dw_skip rfl rfl rfl ?_
                  simp only [Act.put, zl]
                  refine dw_skip rfl rfl rfl ?_
                  simp only [Act.put, zl]
                  refine dw_skip rfl rfl rfl ?_
                  simp only [Act.put, zl]
                  refine dw_skip rfl rfl rfl ?_
                  simp only [Act.put, zl]
                  refine dw_skip rfl rfl rfl ?_
                  simp only [Act.put, zl]
                  refine dw_skip rfl rfl rfl ?_
                  simp only [Act.put, zl]
                  refine dw_val rfl rfl rfl ?_; apply Exists.intro; refine ⟨fun wv HC => ?_, ?_⟩
                  ·  go_simp <;> rfl
                  simp only [Act.put, zl]
                  refine dw_val rfl rfl rfl ?_; apply Exists.intro; refine ⟨fun wv HC => ?_, ?_⟩
                  ·  go_simp <;> rfl
                  simp only [Act.put, zl]
                  refine dw_val rfl rfl rfl ?_; apply Exists.intro; refine ⟨fun wv HC => ?_, ?_⟩
                  ·  go_simp <;> rfl
                  simp only [Act.put, zl]
                  refine dw_val rfl rfl rfl ?_; apply Exists.intro; refine ⟨fun wv HC => ?_, ?_⟩
                  ·  go_simp <;> rfl
                  simp only [Act.put, zl]
                  refine dw_val rfl rfl rfl ?_; apply Exists.intro; refine ⟨fun wv HC => ?_, ?_⟩
                  ·  go_simp <;> rfl
                  simp only [Act.put, zl]
                  refine dw_val rfl rfl rfl ?_; apply Exists.intro; refine ⟨fun wv HC => ?_, ?_⟩
                  · obtain ⟨f0, f1, f2, f3, f4, f5⟩ := HF.out _ HC; go_simp <;> rfl
                  simp only [Act.put, zl]
                  refine dw_callR 101 (CmpSlot (vs = p.old)) (f := 62) (args := #[.slice A1 n1 c1, .slice p.oA p.on p.oc]) rfl rfl rfl rfl (fun wv => ?_) (fun wv HC hrm hD => ?_) ?_
                  · go_simp <;> rfl
                  · refine (rcmprows_any (Mut M KL) wv HC.mutLt A1 n1 c1 vs p.oA p.on p.oc p.old (HRX.out _ HC).1 (HRX.out _ HC).2 (by omega) (by omega)).mono ?_
                    rintro e w5 ⟨⟨r, rfl, hr⟩, b5⟩
                    exact ⟨_, rfl, ⟨r, rfl, hr⟩, HC.call b5, RM.below b5⟩
                  rintro u wx HCx ⟨r, rfl, hr⟩
                  have HR := hid hr
                  clear HCx hr
                  simp only [Act.put, zl]
                  by_cases hr0 : r = 0
                  · have hb0 : (r != 0) = false := by simp [hr0]
                    have HEQ := hid (HR.out.1 hr0)
                    clear hr0
                    refine dw_val rfl rfl rfl ?_; apply Exists.intro; refine ⟨fun wv HC => ?_, ?_⟩
                    ·  go_simp <;> rfl
                    simp only [Act.put, zl]
                    refine dw_val rfl rfl rfl ?_; apply Exists.intro; refine ⟨fun wv HC => ?_, ?_⟩
                    ·  go_simp <;> rfl
                    simp only [Act.put, zl]
                    refine dw_val rfl rfl rfl ?_; apply Exists.intro; refine ⟨fun wv HC => ?_, ?_⟩
                    ·  go_simp <;> rfl
                    simp only [Act.put, zl]
                    refine dw_val rfl rfl rfl ?_; apply Exists.intro; refine ⟨fun wv HC => ?_, ?_⟩
                    ·  go_simp <;> rfl
                    simp only [Act.put, zl]
                    refine dw_val rfl rfl rfl ?_; apply Exists.intro; refine ⟨fun wv HC => ?_, ?_⟩
                    · obtain ⟨f0, f1, f2, f3, f4, f5⟩ := HF.out _ HC; go_simp <;> rfl
                    simp only [Act.put, zl]
                    refine dw_val rfl rfl rfl ?_; apply Exists.intro; refine ⟨fun wv HC => ?_, ?_⟩
                    · obtain ⟨f0, f1, f2, f3, f4, f5⟩ := HF.out _ HC; go_simp <;> rfl
                    simp only [Act.put, zl]
                    by_cases hw : p.nn = n
                    · have hwb : ((p.nn : Int) != (n : Int)) = false := by simp [hw]
                      have HW := hid hw
                      clear hw
                      refine dw_val rfl rfl rfl ?_; apply Exists.intro; refine ⟨fun wv HC => ?_, ?_⟩
                      ·  go_simp <;> rfl
                      simp only [Act.put, zl]
                      refine dw_val rfl rfl rfl ?_; apply Exists.intro; refine ⟨fun wv HC => ?_, ?_⟩
                      ·  go_simp <;> rfl
                      simp only [Act.put, zl]
                      refine dw_val rfl rfl rfl ?_; apply Exists.intro; refine ⟨fun wv HC => ?_, ?_⟩
                      ·  go_simp <;> rfl
                      simp only [Act.put, zl]
                      refine rel_nil ?_
                      rintro wx9 HX9
                      rintro _hrm _HG
                      rw [HKL.out] at HX9
                      clear _hrm _HG
                      have HS2 := hid (show updV (l.map Rw.row) n dels none (us.map Pr.upd) = updV (l.map Rw.row) n dels (some p.id) ((us.map Pr.upd).drop (k + 1)) by rw [HP.out.2]; exact updV_good HU.out HGS.out HIN.out HPV.out (HG2.out.trans (by rw [HEQ.out]; rfl)) (HPL.out.trans HW.out))
                      have HPP := hid (show PrevOk ((us.map Pr.upd).map (·.1)) (k + 1) (some p.id) from ⟨fun h => by omega, fun q hq => ⟨p.id, (show k = q by omega) ▸ (by rw [List.getElem?_map, HU.out]; rfl), rfl⟩⟩)
                      have K9 := HX9.drop (List.Sublist.cons _ (List.Sublist.cons _ (List.sublist_cons_self _ _)))
                      go_wp2_with fail
                      go_roundw
                      case rel => exact ⟨k + 1, some p.id, by omega, by go_num, hid ⟨HPP.out, HS2.out⟩, K9⟩
                      case measure => simp [intOf]; omega
                    · have hwb : ((p.nn : Int) != (n : Int)) = true := by rw [bne_iff_ne]; omega
                      have HN := hid (show chgB nm cs nx (l.map Rw.row) (ins.map Sl.vs) dels (us.map Pr.upd) = false from chgV_upd HDK.out (by rw [HP.out.2]; exact updV_bad HU.out (.inr (.inr (.inr (.inr (by rw [show p.upd.2.2.length = p.nn from HPL.out]; exact hw)))))))
                      clear hw
                      refine dw_val rfl rfl rfl ?_; apply Exists.intro; refine ⟨fun wv HC => ?_, ?_⟩
                      ·  go_simp <;> rfl
                      simp only [Act.put, zl]
                      refine dw_val rfl rfl rfl ?_; apply Exists.intro; refine ⟨fun wv HC => ?_, ?_⟩
                      ·  go_simp <;> rfl
                      simp only [Act.put, zl]
                      refine dw_val rfl rfl rfl ?_; apply Exists.intro; refine ⟨fun wv HC => ?_, ?_⟩
                      ·  go_simp <;> rfl
                      simp only [Act.put, zl]
                      refine rel_nil ?_
                      rintro wx9 HX9
                      rintro _hrm _HG
                      rw [HKL.out] at HX9
                      clear _hrm _HG
                      go_wp2_with fail
                      go_ret
                      exact ⟨by rw [HN.out] <;> rfl, HX9.below⟩
                  · have hb0 : (r != 0) = true := by simpa using hr0
                    have HN := hid (show chgB nm cs nx (l.map Rw.row) (ins.map Sl.vs) dels (us.map Pr.upd) = false from chgV_upd HDK.out (by rw [HP.out.2]; exact updV_bad HU.out (.inr (.inr (.inr (.inl (by rw [HG2.out]; exact fun e => hr0 (HR.out.2 (Option.some.inj e)))))))))
                    clear hr0
                    refine dw_val rfl rfl rfl ?_; apply Exists.intro; refine ⟨fun wv HC => ?_, ?_⟩
                    ·  go_simp <;> rfl
                    simp only [Act.put, zl]
                    refine dw_val rfl rfl rfl ?_; apply Exists.intro; refine ⟨fun wv HC => ?_, ?_⟩
                    ·  go_simp <;> rfl
                    simp only [Act.put, zl]
                    refine dw_val rfl rfl rfl ?_; apply Exists.intro; refine ⟨fun wv HC => ?_, ?_⟩
                    ·  go_simp <;> rfl
                    simp only [Act.put, zl]
                    refine dw_skip rfl rfl rfl ?_
                    simp only [Act.put, zl]
                    refine dw_skip rfl rfl rfl ?_
                    simp only [Act.put, zl]
                    refine dw_skip rfl rfl rfl ?_
                    simp only [Act.put, zl]
                    refine dw_skip rfl rfl rfl ?_
                    simp only [Act.put, zl]
                    refine dw_skip rfl rfl rfl ?_
                    simp only [Act.put, zl]
                    refine dw_val rfl rfl rfl ?_; apply Exists.intro; refine ⟨fun wv HC => ?_, ?_⟩
                    ·  go_simp <;> rfl
                    simp only [Act.put, zl]
                    refine rel_nil ?_
                    rintro wx9 HX9
                    rintro _hrm _HG
                    rw [HKL.out] at HX9
                    clear _hrm _HG
                    go_wp2_with fail
                    go_ret
                    exact ⟨by rw [HN.out] <;> rfl, HX9.below⟩
              · obtain ⟨q0, hq0⟩ : ∃ q0, k = q0 + 1 := ⟨k - 1, by omega⟩
                obtain ⟨z, hz, hzl⟩ := HP.out.1.2 q0 hq0
                have HZL := hid hzl
                have hd0 : decide ((k : Int) > 0) = true := by simp; omega
                have hd1 : decide (0 < k) = true := by simp; omega
                have hd2 : decide ((0 : Int) < (k : Int)) = true := by simp; omega
                have hw1 : IntKind.i64.wrap ((k : Int) - 1) = (q0 : Int) := by rw [IntKind.wrap_i64]; omega
                have hw2 : (k : Int) - 1 = (q0 : Int) := by omega
                have hw3 : IntKind.i64.wrap (q0 : Int) = (q0 : Int) := by rw [IntKind.wrap_i64]; omega
                have p0 : (0 : Int) ≤ (q0 : Int) := by omega
                have p1 : (q0 : Int) < (nu : Int) := by omega
                obtain ⟨pq, hpq⟩ := get_of HUL.out (show q0 < nu by omega)
                have hzq : pq.id = z := by
                  rw [List.getElem?_map, List.getElem?_map, hpq] at hz
                  injection hz
                have HF : Hid (∀ wv, Hold M none w wv KL → wv.cell? ⟨gp, 0, none⟩ = some (.int .i64 p.id) ∧ wv.cell? ⟨gp, 1, none⟩ = some (.slice p.oA p.on p.oc) ∧ wv.cell? ⟨gp, 2, none⟩ = some (.slice p.nA p.nn p.nc) ∧ gp < wv.heap.size ∧ wv.cell? ⟨gc, 2, none⟩ = some (.slice (some ⟨b, o, none⟩) nu cu) ∧ gc < wv.heap.size ∧ wv.cell? ⟨b, o + q0 * 3, none⟩ = some (.int .i64 z) ∧ b < wv.heap.size) := hid fun wv HC => by
                  rw [hKL] at HC
                  have y0 := HC.cst_ 1 rfl
                  have y1 := HC.cst_ 4 rfl
                  obtain ⟨b', o', e', hl', e0, _⟩ := (HC.ro 10 rfl).now.at_ hpq
                  obtain ⟨rfl, rfl⟩ : b = b' ∧ o = o' := by injection e' with e'; injection e' with a1 a2; exact ⟨a1, a2⟩
                  exact ⟨cell_of_row _ _ 0 _ _ _ y0, cell_of_row _ _ 1 _ _ _ y0, cell_of_row _ _ 2 _ _ _ y0, Blk.lt y0, cell_of_row _ _ 2 _ _ _ y1, Blk.lt y1, by rw [← hzq]; exact e0, hl'⟩
                have HKL := hid hKL
                have HKQ := hid hq0
                clear hKL hz hzl hk0 hq0 hpq hzq
                by_cases hin : p.id ∈ dels
                · have HN := hid (show chgB nm cs nx (l.map Rw.row) (ins.map Sl.vs) dels (us.map Pr.upd) = false from chgV_upd HDK.out (by rw [HP.out.2]; exact updV_bad HU.out (.inr (.inl (by show dels.contains p.id = true; simpa using hin)))))
                  have HINN := hid hin
                  clear hin
                  go_wp2_with fail
                  refine wp_region_any (by kernel_rfl) ?_
                  refine wpAny_hold 38 124 (KL) (spL []) (by kernel_rfl) (by kernel_rfl) (by kernel_rfl) rfl ?_ (K3.drew) ?_
                  · exact stays_nil _
                  simp only [zd, Act.put, List.getElem_toArray, List.getElem_cons_zero, List.getElem_cons_succ, zl]
                  refine dw_val rfl rfl rfl ?_; apply Exists.intro; refine ⟨fun wv HC => ?_, ?_⟩
                  ·  go_simp <;> rfl
                  simp only [Act.put, zl]
                  refine dw_val rfl rfl rfl ?_; apply Exists.intro; refine ⟨fun wv HC => ?_, ?_⟩
                  ·  go_simp <;> rfl
                  simp only [Act.put, zl]
                  refine dw_val rfl rfl rfl ?_; apply Exists.intro; refine ⟨fun wv HC => ?_, ?_⟩
                  ·  go_simp <;> rfl
                  simp only [Act.put, zl]
                  refine dw_val rfl rfl rfl ?_; apply Exists.intro; refine ⟨fun wv HC => ?_, ?_⟩
                  ·  go_simp <;> rfl
                  simp only [Act.put, zl]
                  refine dw_val rfl rfl rfl ?_; apply Exists.intro; refine ⟨fun wv HC => ?_, ?_⟩
                  ·  go_simp <;> rfl
                  simp only [Act.put, zl]
                  refine dw_val rfl rfl rfl ?_; apply Exists.intro; refine ⟨fun wv HC => ?_, ?_⟩
                  · obtain ⟨f0, f1, f2, f3, f4, f5, f6, f7⟩ := HF.out _ HC; go_simp <;> rfl
                  simp only [Act.put, zl]
                  refine dw_val rfl rfl rfl ⟨.bool true, fun wv HC => ?_, ?_⟩
                  · have hob := (show MSet 4 intFam gm q (fun z => z ∈ dels) wv by
                      have HC2 := HC
                      rw [HKL.out] at HC2
                      exact HC2.ob_ 3 rfl).look Tryz.setI (x := p.id) HPI.out
                    obtain ⟨cb, hrun, hcb⟩ := hob
                    obtain rfl : cb = true := hcb.2 HINN.out
                    simp [execOp, Act.eval, hrun, Result.andThen, intFam] at hrun ⊢
                    all_goals (try simp [hrun, Result.andThen])
                  simp only [Act.put, zl]
                  refine dw_val rfl rfl rfl ?_; apply Exists.intro; refine ⟨fun wv HC => ?_, ?_⟩
                  ·  go_simp <;> rfl
                  simp only [Act.put, zl]
                  refine dw_val rfl rfl rfl ?_; apply Exists.intro; refine ⟨fun wv HC => ?_, ?_⟩
                  ·  go_simp <;> rfl
                  simp only [Act.put, zl]
                  refine dw_skip rfl rfl rfl ?_
                  simp only [Act.put, zl]
                  refine dw_skip rfl rfl rfl ?_
                  simp only [Act.put, zl]
                  refine dw_skip rfl rfl rfl ?_
                  simp only [Act.put, zl]
                  refine dw_skip rfl rfl rfl ?_
                  simp only [Act.put, zl]
                  refine dw_skip rfl rfl rfl ?_
                  simp only [Act.put, zl]
                  refine dw_skip rfl rfl rfl ?_
                  simp only [Act.put, zl]
                  refine dw_skip rfl rfl rfl ?_
                  simp only [Act.put, zl]
                  refine dw_skip rfl rfl rfl ?_
                  simp only [Act.put, zl]
                  refine dw_skip rfl rfl rfl ?_
                  simp only [Act.put, zl]
                  refine dw_skip rfl rfl rfl ?_
                  simp only [Act.put, zl]
                  refine dw_skip rfl rfl rfl ?_
                  simp only [Act.put, zl]
                  refine dw_skip rfl rfl rfl ?_
                  simp only [Act.put, zl]
                  refine dw_skip rfl rfl rfl ?_
                  simp only [Act.put, zl]
                  refine dw_skip rfl rfl rfl ?_
                  simp only [Act.put, zl]
                  refine dw_val rfl rfl rfl ?_; apply Exists.intro; refine ⟨fun wv HC => ?_, ?_⟩
                  ·  go_simp <;> rfl
                  simp only [Act.put, zl]
                  refine dw_val rfl rfl rfl ?_; apply Exists.intro; refine ⟨fun wv HC => ?_, ?_⟩
                  ·  go_simp <;> rfl
                  simp only [Act.put, zl]
                  refine dw_skip rfl rfl rfl ?_
                  simp only [Act.put, zl]
                  refine dw_skip rfl rfl rfl ?_
                  simp only [Act.put, zl]
                  refine dw_skip rfl rfl rfl ?_
                  simp only [Act.put, zl]
                  refine dw_skip rfl rfl rfl ?_
                  simp only [Act.put, zl]
                  refine dw_skip rfl rfl rfl ?_
                  simp only [Act.put, zl]
                  refine dw_val rfl rfl rfl ?_; apply Exists.intro; refine ⟨fun wv HC => ?_, ?_⟩
                  ·  go_simp <;> rfl
                  simp only [Act.put, zl]
                  refine dw_val rfl rfl rfl ?_; apply Exists.intro; refine ⟨fun wv HC => ?_, ?_⟩
                  ·  go_simp <;> rfl
                  simp only [Act.put, zl]
                  refine dw_skip rfl rfl rfl ?_
                  simp only [Act.put, zl]
                  refine dw_skip rfl rfl rfl ?_
                  simp only [Act.put, zl]
                  refine dw_skip rfl rfl rfl ?_
                  simp only [Act.put, zl]
                  refine dw_skip rfl rfl rfl ?_
                  simp only [Act.put, zl]
                  refine dw_skip rfl rfl rfl ?_
                  simp only [Act.put, zl]
                  refine dw_val rfl rfl rfl ?_; apply Exists.intro; refine ⟨fun wv HC => ?_, ?_⟩
                  ·  go_simp <;> rfl
                  simp only [Act.put, zl]
                  refine rel_nil ?_
                  rintro wx9 HX9
                  rintro _hrm _HG
                  rw [HKL.out] at HX9
                  clear _hrm _HG
                  go_wp2_with fail
                  go_ret
                  exact ⟨by rw [HN.out] <;> rfl, HX9.below⟩
                · have HIN := hid (show dels.contains p.id = false by simpa using hin)
                  have HINN := hid hin
                  clear hin
                  by_cases hzi : z ≥ p.id
                  · have hzd : decide (z ≥ p.id) = true := by simpa using hzi
                    have HN := hid (show chgB nm cs nx (l.map Rw.row) (ins.map Sl.vs) dels (us.map Pr.upd) = false from chgV_upd HDK.out (by rw [HP.out.2]; exact updV_bad HU.out (.inr (.inr (.inl (by show (last.any fun q => decide (q ≥ p.id)) = true; rw [HZL.out]; simpa using hzi))))))
                    clear hzi
                    go_wp2_with fail
                    refine wp_region_any (by kernel_rfl) ?_
                    refine wpAny_hold 38 124 (KL) (spL []) (by kernel_rfl) (by kernel_rfl) (by kernel_rfl) rfl ?_ (K3.drew) ?_
                    · exact stays_nil _
                    simp only [zd, Act.put, List.getElem_toArray, List.getElem_cons_zero, List.getElem_cons_succ, zl]
                    refine dw_val rfl rfl rfl ?_; apply Exists.intro; refine ⟨fun wv HC => ?_, ?_⟩
                    ·  go_simp <;> rfl
                    simp only [Act.put, zl]
                    refine dw_val rfl rfl rfl ?_; apply Exists.intro; refine ⟨fun wv HC => ?_, ?_⟩
                    ·  go_simp <;> rfl
                    simp only [Act.put, zl]
                    refine dw_val rfl rfl rfl ?_; apply Exists.intro; refine ⟨fun wv HC => ?_, ?_⟩
                    ·  go_simp <;> rfl
                    simp only [Act.put, zl]
                    refine dw_val rfl rfl rfl ?_; apply Exists.intro; refine ⟨fun wv HC => ?_, ?_⟩
                    ·  go_simp <;> rfl
                    simp only [Act.put, zl]
                    refine dw_val rfl rfl rfl ?_; apply Exists.intro; refine ⟨fun wv HC => ?_, ?_⟩
                    ·  go_simp <;> rfl
                    simp only [Act.put, zl]
                    refine dw_val rfl rfl rfl ?_; apply Exists.intro; refine ⟨fun wv HC => ?_, ?_⟩
                    · obtain ⟨f0, f1, f2, f3, f4, f5, f6, f7⟩ := HF.out _ HC; go_simp <;> rfl
                    simp only [Act.put, zl]
                    refine dw_val rfl rfl rfl ⟨.bool false, fun wv HC => ?_, ?_⟩
                    · have hob := (show MSet 4 intFam gm q (fun z => z ∈ dels) wv by
                        have HC2 := HC
                        rw [HKL.out] at HC2
                        exact HC2.ob_ 3 rfl).look Tryz.setI (x := p.id) HPI.out
                      obtain ⟨cb, hrun, hcb⟩ := hob
                      obtain rfl : cb = false := by cases cb; rfl; exact absurd (hcb.1 rfl) HINN.out
                      simp [execOp, Act.eval, hrun, Result.andThen, intFam] at hrun ⊢
                      all_goals (try simp [hrun, Result.andThen])
                    simp only [Act.put, zl]
                    refine dw_val rfl rfl rfl ?_; apply Exists.intro; refine ⟨fun wv HC => ?_, ?_⟩
                    ·  go_simp <;> rfl
                    simp only [Act.put, zl]
                    refine dw_val rfl rfl rfl ?_; apply Exists.intro; refine ⟨fun wv HC => ?_, ?_⟩
                    ·  go_simp <;> rfl
                    simp only [Act.put, zl]
                    refine dw_val rfl rfl rfl ?_; apply Exists.intro; refine ⟨fun wv HC => ?_, ?_⟩
                    ·  go_simp <;> rfl
                    simp only [Act.put, zl]
                    refine dw_val rfl rfl rfl ?_; apply Exists.intro; refine ⟨fun wv HC => ?_, ?_⟩
                    ·  go_simp <;> rfl
                    simp only [Act.put, zl]
                    refine dw_val rfl rfl rfl ?_; apply Exists.intro; refine ⟨fun wv HC => ?_, ?_⟩
                    ·  go_simp <;> rfl
                    simp only [Act.put, zl]
                    refine dw_val rfl rfl rfl ?_; apply Exists.intro; refine ⟨fun wv HC => ?_, ?_⟩
                    ·  go_simp <;> rfl
                    simp only [Act.put, zl]
                    refine dw_val rfl rfl rfl ?_; apply Exists.intro; refine ⟨fun wv HC => ?_, ?_⟩
                    · obtain ⟨f0, f1, f2, f3, f4, f5, f6, f7⟩ := HF.out _ HC; go_simp <;> rfl
                    simp only [Act.put, zl]
                    refine dw_val rfl rfl rfl ?_; apply Exists.intro; refine ⟨fun wv HC => ?_, ?_⟩
                    ·  go_simp <;> rfl
                    simp only [Act.put, zl]
                    refine dw_val rfl rfl rfl ?_; apply Exists.intro; refine ⟨fun wv HC => ?_, ?_⟩
                    ·  go_simp <;> rfl
                    simp only [Act.put, zl]
                    refine dw_val rfl rfl rfl ?_; apply Exists.intro; refine ⟨fun wv HC => ?_, ?_⟩
                    ·  go_simp <;> rfl
                    simp only [Act.put, zl]
                    refine dw_val rfl rfl rfl ?_; apply Exists.intro; refine ⟨fun wv HC => ?_, ?_⟩
                    ·  go_simp <;> rfl
                    simp only [Act.put, zl]
                    refine dw_val rfl rfl rfl ?_; apply Exists.intro; refine ⟨fun wv HC => ?_, ?_⟩
                    · obtain ⟨f0, f1, f2, f3, f4, f5, f6, f7⟩ := HF.out _ HC; go_simp <;> rfl
                    simp only [Act.put, zl]
                    refine dw_val rfl rfl rfl ?_; apply Exists.intro; refine ⟨fun wv HC => ?_, ?_⟩
                    ·  go_simp <;> rfl
                    simp only [Act.put, zl]
                    refine dw_val rfl rfl rfl ?_; apply Exists.intro; refine ⟨fun wv HC => ?_, ?_⟩
                    · obtain ⟨f0, f1, f2, f3, f4, f5, f6, f7⟩ := HF.out _ HC; go_simp <;> rfl
                    simp only [Act.put, zl]
                    refine dw_val rfl rfl rfl ?_; apply Exists.intro; refine ⟨fun wv HC => ?_, ?_⟩
                    ·  go_simp <;> rfl
                    simp only [Act.put, zl]
                    refine dw_val rfl rfl rfl ?_; apply Exists.intro; refine ⟨fun wv HC => ?_, ?_⟩
                    ·  go_simp <;> rfl
                    simp only [Act.put, zl]
                    refine dw_val rfl rfl rfl ?_; apply Exists.intro; refine ⟨fun wv HC => ?_, ?_⟩
                    ·  go_simp <;> rfl
                    simp only [Act.put, zl]
                    refine dw_val rfl rfl rfl ?_; apply Exists.intro; refine ⟨fun wv HC => ?_, ?_⟩
                    ·  go_simp <;> rfl
                    simp only [Act.put, zl]
                    refine dw_skip rfl rfl rfl ?_
                    simp only [Act.put, zl]
                    refine dw_skip rfl rfl rfl ?_
                    simp only [Act.put, zl]
                    refine dw_skip rfl rfl rfl ?_
                    simp only [Act.put, zl]
                    refine dw_skip rfl rfl rfl ?_
                    simp only [Act.put, zl]
                    refine dw_skip rfl rfl rfl ?_
                    simp only [Act.put, zl]
                    refine dw_val rfl rfl rfl ?_; apply Exists.intro; refine ⟨fun wv HC => ?_, ?_⟩
                    ·  go_simp <;> rfl
                    simp only [Act.put, zl]
                    refine dw_val rfl rfl rfl ?_; apply Exists.intro; refine ⟨fun wv HC => ?_, ?_⟩
                    ·  go_simp <;> rfl
                    simp only [Act.put, zl]
                    refine dw_skip rfl rfl rfl ?_
                    simp only [Act.put, zl]
                    refine dw_skip rfl rfl rfl ?_
                    simp only [Act.put, zl]
                    refine dw_skip rfl rfl rfl ?_
                    simp only [Act.put, zl]
                    refine dw_skip rfl rfl rfl ?_
                    simp only [Act.put, zl]
                    refine dw_skip rfl rfl rfl ?_
                    simp only [Act.put, zl]
                    refine dw_val rfl rfl rfl ?_; apply Exists.intro; refine ⟨fun wv HC => ?_, ?_⟩
                    ·  go_simp <;> rfl
                    simp only [Act.put, zl]
                    refine rel_nil ?_
                    rintro wx9 HX9
                    rintro _hrm _HG
                    rw [HKL.out] at HX9
                    clear _hrm _HG
                    go_wp2_with fail
                    go_ret
                    exact ⟨by rw [HN.out] <;> rfl, HX9.below⟩
                  · have hzd : decide (z ≥ p.id) = false := by simpa using hzi
                    have HPV := hid (show (last.any fun q => decide (q ≥ p.upd.1)) = false by show (last.any fun q => decide (q ≥ p.id)) = false; rw [HZL.out]; simpa using hzi)
                    clear hzi
                    go_wp2_with fail
                    refine wp_region_any (by kernel_rfl) ?_
                    refine wpAny_hold 38 124 (KL) (spL [(101, CmpSlot (vs = p.old))]) (by kernel_rfl) (by kernel_rfl) (by kernel_rfl) rfl ?_ (K3.drew) ?_
                    · exact stays_cons (fun _ _ _ _ h => h) (stays_nil _)
                    simp only [zd, Act.put, List.getElem_toArray, List.getElem_cons_zero, List.getElem_cons_succ, zl]
                    refine dw_val rfl rfl rfl ?_; apply Exists.intro; refine ⟨fun wv HC => ?_, ?_⟩
                    ·  go_simp <;> rfl
                    simp only [Act.put, zl]
                    refine dw_val rfl rfl rfl ?_; apply Exists.intro; refine ⟨fun wv HC => ?_, ?_⟩
                    ·  go_simp <;> rfl
                    simp only [Act.put, zl]
                    refine dw_val rfl rfl rfl ?_; apply Exists.intro; refine ⟨fun wv HC => ?_, ?_⟩
                    ·  go_simp <;> rfl
                    simp only [Act.put, zl]
                    refine dw_val rfl rfl rfl ?_; apply Exists.intro; refine ⟨fun wv HC => ?_, ?_⟩
                    ·  go_simp <;> rfl
                    simp only [Act.put, zl]
                    refine dw_val rfl rfl rfl ?_; apply Exists.intro; refine ⟨fun wv HC => ?_, ?_⟩
                    ·  go_simp <;> rfl
                    simp only [Act.put, zl]
                    refine dw_val rfl rfl rfl ?_; apply Exists.intro; refine ⟨fun wv HC => ?_, ?_⟩
                    · obtain ⟨f0, f1, f2, f3, f4, f5, f6, f7⟩ := HF.out _ HC; go_simp <;> rfl
                    simp only [Act.put, zl]
                    refine dw_val rfl rfl rfl ⟨.bool false, fun wv HC => ?_, ?_⟩
                    · have hob := (show MSet 4 intFam gm q (fun z => z ∈ dels) wv by
                        have HC2 := HC
                        rw [HKL.out] at HC2
                        exact HC2.ob_ 3 rfl).look Tryz.setI (x := p.id) HPI.out
                      obtain ⟨cb, hrun, hcb⟩ := hob
                      obtain rfl : cb = false := by cases cb; rfl; exact absurd (hcb.1 rfl) HINN.out
                      simp [execOp, Act.eval, hrun, Result.andThen, intFam] at hrun ⊢
                      all_goals (try simp [hrun, Result.andThen])
                    simp only [Act.put, zl]
                    refine dw_val rfl rfl rfl ?_; apply Exists.intro; refine ⟨fun wv HC => ?_, ?_⟩
                    ·  go_simp <;> rfl
                    simp only [Act.put, zl]
                    refine dw_val rfl rfl rfl ?_; apply Exists.intro; refine ⟨fun wv HC => ?_, ?_⟩
                    ·  go_simp <;> rfl
                    simp only [Act.put, zl]
                    refine dw_val rfl rfl rfl ?_; apply Exists.intro; refine ⟨fun wv HC => ?_, ?_⟩
                    ·  go_simp <;> rfl
                    simp only [Act.put, zl]
                    refine dw_val rfl rfl rfl ?_; apply Exists.intro; refine ⟨fun wv HC => ?_, ?_⟩
                    ·  go_simp <;> rfl
                    simp only [Act.put, zl]
                    refine dw_val rfl rfl rfl ?_; apply Exists.intro; refine ⟨fun wv HC => ?_, ?_⟩
                    ·  go_simp <;> rfl
                    simp only [Act.put, zl]
                    refine dw_val rfl rfl rfl ?_; apply Exists.intro; refine ⟨fun wv HC => ?_, ?_⟩
                    ·  go_simp <;> rfl
                    simp only [Act.put, zl]
                    refine dw_val rfl rfl rfl ?_; apply Exists.intro; refine ⟨fun wv HC => ?_, ?_⟩
                    · obtain ⟨f0, f1, f2, f3, f4, f5, f6, f7⟩ := HF.out _ HC; go_simp <;> rfl
                    simp only [Act.put, zl]
                    refine dw_val rfl rfl rfl ?_; apply Exists.intro; refine ⟨fun wv HC => ?_, ?_⟩
                    ·  go_simp <;> rfl
                    simp only [Act.put, zl]
                    refine dw_val rfl rfl rfl ?_; apply Exists.intro; refine ⟨fun wv HC => ?_, ?_⟩
                    ·  go_simp <;> rfl
                    simp only [Act.put, zl]
                    refine dw_val rfl rfl rfl ?_; apply Exists.intro; refine ⟨fun wv HC => ?_, ?_⟩
                    ·  go_simp <;> rfl
                    simp only [Act.put, zl]
                    refine dw_val rfl rfl rfl ?_; apply Exists.intro; refine ⟨fun wv HC => ?_, ?_⟩
                    ·  go_simp <;> rfl
                    simp only [Act.put, zl]
                    refine dw_val rfl rfl rfl ?_; apply Exists.intro; refine ⟨fun wv HC => ?_, ?_⟩
                    · obtain ⟨f0, f1, f2, f3, f4, f5, f6, f7⟩ := HF.out _ HC; go_simp <;> rfl
                    simp only [Act.put, zl]
                    refine dw_val rfl rfl rfl ?_; apply Exists.intro; refine ⟨fun wv HC => ?_, ?_⟩
                    ·  go_simp <;> rfl
                    simp only [Act.put, zl]
                    refine dw_val rfl rfl rfl ?_; apply Exists.intro; refine ⟨fun wv HC => ?_, ?_⟩
                    · obtain ⟨f0, f1, f2, f3, f4, f5, f6, f7⟩ := HF.out _ HC; go_simp <;> rfl
                    simp only [Act.put, zl]
                    refine dw_val rfl rfl rfl ?_; apply Exists.intro; refine ⟨fun wv HC => ?_, ?_⟩
                    ·  go_simp <;> rfl
                    simp only [Act.put, zl]
                    refine dw_val rfl rfl rfl ?_; apply Exists.intro; refine ⟨fun wv HC => ?_, ?_⟩
                    ·  go_simp <;> rfl
                    simp only [Act.put, zl]
                    refine dw_val rfl rfl rfl ?_; apply Exists.intro; refine ⟨fun wv HC => ?_, ?_⟩
                    ·  go_simp <;> rfl
                    simp only [Act.put, zl]
                    refine dw_val rfl rfl rfl ?_; apply Exists.intro; refine ⟨fun wv HC => ?_, ?_⟩
                    ·  go_simp <;> rfl
                    simp only [Act.put, zl]
                    refine dw_val rfl rfl rfl ?_; apply Exists.intro; refine ⟨fun wv HC => ?_, ?_⟩
                    ·  go_simp <;> rfl
                    simp only [Act.put, zl]
                    refine dw_val rfl rfl rfl ?_; apply Exists.intro; refine ⟨fun wv HC => ?_, ?_⟩
                    ·  go_simp <;> rfl
                    simp only [Act.put, zl]
                    refine dw_val rfl rfl rfl ?_; apply Exists.intro; refine ⟨fun wv HC => ?_, ?_⟩
                    · obtain ⟨f0, f1, f2, f3, f4, f5, f6, f7⟩ := HF.out _ HC; go_simp <;> rfl
                    simp only [Act.put, zl]
                    refine dw_callR 101 (CmpSlot (vs = p.old)) (f := 62) (args := #[.slice A1 n1 c1, .slice p.oA p.on p.oc]) rfl rfl rfl rfl (fun wv => ?_) (fun wv HC hrm hD => ?_) ?_
                    · go_simp <;> rfl
                    · refine (rcmprows_any (Mut M KL) wv HC.mutLt A1 n1 c1 vs p.oA p.on p.oc p.old (HRX.out _ HC).1 (HRX.out _ HC).2 (by omega) (by omega)).mono ?_
                      rintro e w5 ⟨⟨r, rfl, hr⟩, b5⟩
                      exact ⟨_, rfl, ⟨r, rfl, hr⟩, HC.call b5, RM.below b5⟩
                    rintro u wx HCx ⟨r, rfl, hr⟩
                    have HR := hid hr
                    clear HCx hr
                    simp only [Act.put, zl]
                    by_cases hr0 : r = 0
                    · have hb0 : (r != 0) = false := by simp [hr0]
                      have HEQ := hid (HR.out.1 hr0)
                      clear hr0
                      refine dw_val rfl rfl rfl ?_; apply Exists.intro; refine ⟨fun wv HC => ?_, ?_⟩
                      ·  go_simp <;> rfl
                      simp only [Act.put, zl]
                      refine dw_val rfl rfl rfl ?_; apply Exists.intro; refine ⟨fun wv HC => ?_, ?_⟩
                      ·  go_simp <;> rfl
                      simp only [Act.put, zl]
                      refine dw_val rfl rfl rfl ?_; apply Exists.intro; refine ⟨fun wv HC => ?_, ?_⟩
                      ·  go_simp <;> rfl
                      simp only [Act.put, zl]
                      refine dw_val rfl rfl rfl ?_; apply Exists.intro; refine ⟨fun wv HC => ?_, ?_⟩
                      ·  go_simp <;> rfl
                      simp only [Act.put, zl]
                      refine dw_val rfl rfl rfl ?_; apply Exists.intro; refine ⟨fun wv HC => ?_, ?_⟩
                      · obtain ⟨f0, f1, f2, f3, f4, f5, f6, f7⟩ := HF.out _ HC; go_simp <;> rfl
                      simp only [Act.put, zl]
                      refine dw_val rfl rfl rfl ?_; apply Exists.intro; refine ⟨fun wv HC => ?_, ?_⟩
                      · obtain ⟨f0, f1, f2, f3, f4, f5, f6, f7⟩ := HF.out _ HC; go_simp <;> rfl
                      simp only [Act.put, zl]
                      by_cases hw : p.nn = n
                      · have hwb : ((p.nn : Int) != (n : Int)) = false := by simp [hw]
                        have HW := hid hw
                        clear hw
                        refine dw_val rfl rfl rfl ?_; apply Exists.intro; refine ⟨fun wv HC => ?_, ?_⟩
                        ·  go_simp <;> rfl
                        simp only [Act.put, zl]
                        refine dw_val rfl rfl rfl ?_; apply Exists.intro; refine ⟨fun wv HC => ?_, ?_⟩
                        ·  go_simp <;> rfl
                        simp only [Act.put, zl]
                        refine dw_val rfl rfl rfl ?_; apply Exists.intro; refine ⟨fun wv HC => ?_, ?_⟩
                        ·  go_simp <;> rfl
                        simp only [Act.put, zl]
                        refine rel_nil ?_
                        rintro wx9 HX9
                        rintro _hrm _HG
                        rw [HKL.out] at HX9
                        clear _hrm _HG
                        have HS2 := hid (show updV (l.map Rw.row) n dels none (us.map Pr.upd) = updV (l.map Rw.row) n dels (some p.id) ((us.map Pr.upd).drop (k + 1)) by rw [HP.out.2]; exact updV_good HU.out HGS.out HIN.out HPV.out (HG2.out.trans (by rw [HEQ.out]; rfl)) (HPL.out.trans HW.out))
                        have HPP := hid (show PrevOk ((us.map Pr.upd).map (·.1)) (k + 1) (some p.id) from ⟨fun h => by omega, fun q hq => ⟨p.id, (show k = q by omega) ▸ (by rw [List.getElem?_map, HU.out]; rfl), rfl⟩⟩)
                        have K9 := HX9.drop (List.Sublist.cons _ (List.Sublist.cons _ (List.sublist_cons_self _ _)))
                        go_wp2_with fail
                        go_roundw
                        case rel => exact ⟨k + 1, some p.id, by omega, by go_num, hid ⟨HPP.out, HS2.out⟩, K9⟩
                        case measure => simp [intOf]; omega
                      · have hwb : ((p.nn : Int) != (n : Int)) = true := by rw [bne_iff_ne]; omega
                        have HN := hid (show chgB nm cs nx (l.map Rw.row) (ins.map Sl.vs) dels (us.map Pr.upd) = false from chgV_upd HDK.out (by rw [HP.out.2]; exact updV_bad HU.out (.inr (.inr (.inr (.inr (by rw [show p.upd.2.2.length = p.nn from HPL.out]; exact hw)))))))
                        clear hw
                        refine dw_val rfl rfl rfl ?_; apply Exists.intro; refine ⟨fun wv HC => ?_, ?_⟩
                        ·  go_simp <;> rfl
                        simp only [Act.put, zl]
                        refine dw_val rfl rfl rfl ?_; apply Exists.intro; refine ⟨fun wv HC => ?_, ?_⟩
                        ·  go_simp <;> rfl
                        simp only [Act.put, zl]
                        refine dw_val rfl rfl rfl ?_; apply Exists.intro; refine ⟨fun wv HC => ?_, ?_⟩
                        ·  go_simp <;> rfl
                        simp only [Act.put, zl]
                        refine rel_nil ?_
                        rintro wx9 HX9
                        rintro _hrm _HG
                        rw [HKL.out] at HX9
                        clear _hrm _HG
                        go_wp2_with fail
                        go_ret
                        exact ⟨by rw [HN.out] <;> rfl, HX9.below⟩
                    · have hb0 : (r != 0) = true := by simpa using hr0
                      have HN := hid (show chgB nm cs nx (l.map Rw.row) (ins.map Sl.vs) dels (us.map Pr.upd) = false from chgV_upd HDK.out (by rw [HP.out.2]; exact updV_bad HU.out (.inr (.inr (.inr (.inl (by rw [HG2.out]; exact fun e => hr0 (HR.out.2 (Option.some.inj e)))))))))
                      clear hr0
                      refine dw_val rfl rfl rfl ?_; apply Exists.intro; refine ⟨fun wv HC => ?_, ?_⟩
                      ·  go_simp <;> rfl
                      simp only [Act.put, zl]
                      refine dw_val rfl rfl rfl ?_; apply Exists.intro; refine ⟨fun wv HC => ?_, ?_⟩
                      ·  go_simp <;> rfl
                      simp only [Act.put, zl]
                      refine dw_val rfl rfl rfl ?_; apply Exists.intro; refine ⟨fun wv HC => ?_, ?_⟩
                      ·  go_simp <;> rfl
                      simp only [Act.put, zl]
                      refine dw_skip rfl rfl rfl ?_
                      simp only [Act.put, zl]
                      refine dw_skip rfl rfl rfl ?_
                      simp only [Act.put, zl]
                      refine dw_skip rfl rfl rfl ?_
                      simp only [Act.put, zl]
                      refine dw_skip rfl rfl rfl ?_
                      simp only [Act.put, zl]
                      refine dw_skip rfl rfl rfl ?_
                      simp only [Act.put, zl]
                      refine dw_val rfl rfl rfl ?_; apply Exists.intro; refine ⟨fun wv HC => ?_, ?_⟩
                      ·  go_simp <;> rfl
                      simp only [Act.put, zl]
                      refine rel_nil ?_
                      rintro wx9 HX9
                      rintro _hrm _HG
                      rw [HKL.out] at HX9
                      clear _hrm _HG
                      go_wp2_with fail
                      go_ret
                      exact ⟨by rw [HN.out] <;> rfl, HX9.below⟩
          · obtain rfl : nu = k := by omega
            have hdd : decide ((nu : Int) < (nu : Int)) = false := by simp
            clear hlt
            have HUV := hid (show updV (l.map Rw.row) n dels none (us.map Pr.upd) = true by rw [HP.out.2]; exact updV_end (by rw [List.length_map, HUL.out]; exact Nat.le_refl _))
            have F1 := H.facts
            simp only [factsL, cellsF, Nat.reduceAdd, zf, zl] at F1
            go_wp2_with fail
            clear F1 hdd HP
            go_loopw [115] (fun iv wr => ∃ k : Nat, k ≤ ni ∧ iv = .int .i64 k ∧ Hid (((ins.map Sl.vs).take k).any (fun s => decide (s.length ≠ n)) = false) ∧ Hold M none w wr [.ob gm (MSet 4 intFam gm q (fun z => z ∈ dels)), .cst gc 76 #[.slice I ni ci, .slice D nd cd, .slice U nu cu], .cst gt 58 #[.string nm, .slice A n c, .int .i64 nx, .slice B m d], .ro (SlR 4 A n (colCells cs)), .ro (RwsIn B m l), .ro (SlsIn I ni ins), .ro (IsIn D nd dels), .ro (PrsIn U nu us)]) (fun iv _ => ni - (intOf iv).toNat)
            case atStart => exact ⟨0, by omega, rfl, hid rfl, H⟩
            case round =>
              clear H
              obtain ⟨k, hk, rfl, HA, H⟩ := hrel
              by_cases hlt : k < ni
              · have hdd : decide ((k : Int) < (ni : Int)) = true := by simp; omega
                have k0 : (0 : Int) ≤ (k : Int) := by omega
                have k1 : (k : Int) < (ni : Int) := by omega
                obtain ⟨x, hx⟩ := get_of HIL.out hlt
                obtain ⟨b, o, rfl, hb, c0, hv⟩ := (H.ro 5 rfl).now.at_ hx
                have HX := hid (show (ins.map Sl.vs)[k]? = some x.vs by rw [List.getElem?_map, hx]; rfl)
                have HXL := hid hv.len
                clear hx hv
                by_cases hw : x.n = n
                · have hwb : ((x.n : Int) != (n : Int)) = false := by simp [hw]
                  have HN := hid (show ((ins.map Sl.vs).take (k + 1)).any (fun s => decide (s.length ≠ n)) = false by rw [List.take_add_one, HX.out, List.any_append, HA.out]; simp [HXL.out, hw])
                  clear hw
                  go_wp2_with fail
                  go_roundw
                  case rel => exact ⟨k + 1, by omega, by go_num, HN, H⟩
                  case measure => simp [intOf]; omega
                · have hwb : ((x.n : Int) != (n : Int)) = true := by rw [bne_iff_ne]; omega
                  have HN := hid (show chgB nm cs nx (l.map Rw.row) (ins.map Sl.vs) dels (us.map Pr.upd) = false from chgV_ins HDK.out (List.any_eq_true.2 ⟨x.vs, List.mem_of_getElem? HX.out, by rw [HXL.out]; simpa using hw⟩))
                  clear hw
                  go_wp2_with fail
                  go_ret
                  exact ⟨by rw [HN.out] <;> rfl, H.below⟩
              · obtain rfl : ni = k := by omega
                have hdd : decide ((ni : Int) < (ni : Int)) = false := by simp
                have HN := hid (show chgB nm cs nx (l.map Rw.row) (ins.map Sl.vs) dels (us.map Pr.upd) = true from chgV_ok HDK.out HTB.out HRK.out HUV.out (by have h := HA.out; rwa [List.take_of_length_le (by rw [List.length_map, HIL.out]; exact Nat.le_refl _)] at h))
                go_wp2_with fail
                go_ret
                exact ⟨by rw [HN.out] <;> rfl, H.below⟩
end Go.Proofs.YtedogodccblfeaaGreatDoor

namespace Go.Proofs.YtedogodccblfeaaGreatDoor
open Go.RowKit
set_option linter.unusedVariables false
set_option linter.unusedSimpArgs false

def CopyRet (w : World) (M : Nat → Prop) (nm : ByteArray) (cs : List Col) (nx : Int) (e : Ending) (w' : World) : Prop :=
  ∃ (A : Option Addr) (n c : Nat) (B : Option Addr) (m d : Nat), e = .returned (.agg #[.string nm, .slice A n c, .int .i64 nx, .slice B m d]) ∧ n ≤ c ∧ c ≤ 9223372036854775807 ∧ Ro w' M (ColsIn A n cs) ∧ Below w.heap.size w w'
set_option maxHeartbeats 4000000 in
set_option maxRecDepth 100000 in
theorem rtcopy_any (M : Nat → Prop) (w : World) (hM : ∀ b, M b → b < w.heap.size) (nm : ByteArray) (A : Option Addr) (n c : Nat) (cs : List Col) (nx : Int) (B : Option Addr) (m d : Nat) (l : List Rw) (hC : Ro w M (ColsIn A n cs)) (hE : Ro w M (RwsIn B m l)) (hn : n ≤ 1000000) (hm : m ≤ 1000000) (hrn : ∀ r ∈ l, r.n ≤ 4398046511104) :
    Calls Tryz.prog 74 #[.agg #[.string nm, .slice A n c, .int .i64 nx, .slice B m d]] w fun e w' => CopyRet w M nm cs nx e w' := by
  have HRL := hid hE.now.len
  have HRN := hid hrn
  clear hrn
  have K0 := ((((Hold.start M w hM).add (hE.less (by simp [Mut]))).add (hC.less (by simp [Mut, Hp.foot]))).alloc #[.string nm, .slice A n c, .int .i64 nx, .slice B m d] 58).alloc #[.string ⟨#[]⟩, .slice none 0 0, .int .i64 0, .slice none 0 0] 58
  rw [World.size_alloc] at K0
  clear hC hE
  have F0 := K0.facts
  simp only [factsL, cellsF, Nat.reduceAdd, zf, zl] at F0
  have KN := K0.nil 147 4
  have k5 := hid ((K0.ro 2 rfl).now)
  go_enter Tryz.func74, Tryz.ntmps74
  go_wp2_with (at_builtin; go_must (refine wpList_appAllH KN 0 rfl Tryz.elCol k5.out rfl (.const (.slice none 0 0)) (.tmp 8) rfl rfl rfl (one_cols _) (by omega) (by omega) ?_); intro C9 cap9 w9 hc9 hm9 KB; (try simp only [Nat.zero_add] at hc9 ⊢); simp only [Nat.zero_add, List.nil_append, List.set_cons_zero, List.set_cons_succ] at KB; (have FB := KB.facts); simp only [factsL, cellsF, Nat.reduceAdd, zf, zl] at FB)
  have KC := (KB.sealRow 0 rfl).store 2 rfl 1 (.slice C9 n cap9)
  simp only [List.set_cons_zero, List.set_cons_succ, List.setIfInBounds_toArray] at KC
  have KD := (KC.add (ro_vals_nil _ _)).nil 119 2
  have FD := KD.facts
  simp only [factsL, cellsF, Nat.reduceAdd, zf, zl] at FD
  clear K0 KN F0 k5 KB KC
  go_wp2_with fail
  generalize World.setCell _ _ _ = w10 at KD ⊢
  clear FB FD
  obtain ⟨g1, hg1⟩ : ∃ g1, g1 = w.heap.size := ⟨_, rfl⟩
  obtain ⟨g2, hg2⟩ : ∃ g2, g2 = g1 + 1 := ⟨_, rfl⟩
  rw [← hg1, ← hg2] at KD ⊢
  have HG1 := hid hg1
  clear hg1 hg2
  go_loopw [3, 15] (fun ov iv wr => ∃ (j cap : Nat) (O : Option Addr) (outs : List Rw), j ≤ m ∧ iv = .int .i64 j ∧ ov = .slice O j cap ∧ Hold M none w wr [.own 119 2 (.slice O j cap) j (rwCells outs), .ro (ValsIn outs), .ro (ColsIn C9 n cs), .blk g2 58 #[.string ⟨#[]⟩, .slice none 0 0, .int .i64 0, .slice none 0 0], .blk g1 58 #[.string nm, .slice C9 n cap9, .int .i64 nx, .slice B m d], .ro (ColsIn A n cs), .ro (RwsIn B m l)]) (fun _ iv _ => m - (intOf iv).toNat)
  case atStart => exact ⟨0, 0, none, [], by omega, rfl, rfl, KD⟩
  case round =>
    clear KD
    obtain ⟨j, cap, O, outs, hj, rfl, rfl, H⟩ := hrel
    by_cases hlt : j < m
    · have hd : decide ((j : Int) < (m : Int)) = true := by simp; omega
      have j0 : (0 : Int) ≤ (j : Int) := by omega
      have j1 : (j : Int) < (m : Int) := by omega
      obtain ⟨x, hx⟩ := get_of HRL.out hlt
      obtain ⟨b, o, rfl, hb, c0, c1, hxv⟩ := (H.ro 6 rfl).now.at_ hx
      have hxn := HRN.out x (List.mem_of_getElem? hx)
      have hxr : Ro wr _ (VlsIn x.A x.n x.vs) := (H.ro 6 rfl).imp fun w2 h2 => h2.2 x (List.mem_of_getElem? hx)
      clear hx hxv
      have K1 := (H.add hxr).alloc_cst #[.int .i64 x.id, .slice x.A x.n x.c] 119
      clear H hxr
      obtain ⟨gr, hgr⟩ : ∃ gr, gr = wr.heap.size := ⟨_, rfl⟩
      rw [← hgr] at K1
      have F1 := K1.facts
      simp only [factsL, cellsF, Nat.reduceAdd, zf, zl] at F1
      go_wp2_with fail
      rw [← hgr]
      have HGR := hid hgr
      clear hgr c0 c1 F1
      obtain ⟨KL, hKL, KN⟩ := K1.name
      have HF : Hid (∀ wv, Hold M none w wv KL → wv.cell? ⟨gr, 0, none⟩ = some (.int .i64 x.id) ∧ wv.cell? ⟨gr, 1, none⟩ = some (.slice x.A x.n x.c) ∧ gr < wv.heap.size) := hid fun wv HC => by
        rw [hKL] at HC
        have y0 := HC.cst_ 0 rfl
        exact ⟨cell_of_row _ _ 0 _ _ _ y0, cell_of_row _ _ 1 _ _ _ y0, Blk.lt y0⟩
      have HRX : Hid (∀ wv, Hold M none w wv KL → Ro wv (Mut M KL) (VlsIn x.A x.n x.vs)) := hid fun wv HC => by
        rw [hKL] at HC ⊢
        exact HC.ro 1 rfl
      have HKL := hid hKL
      clear hKL K1
      go_wp2_with fail
      refine wp_region_any (by kernel_rfl) ?_
      refine wpAny_hold 8 32 (KL) (spL [(24, VlsSlot (Mut M KL) x.vs), (25, RowSlot (Mut M KL) x.id x.vs), (26, RBoxSlot (Mut M KL) x.id x.vs)]) (by kernel_rfl) (by kernel_rfl) (by kernel_rfl) rfl ?_ (KN.drew) ?_
      · exact stays_cons vlsSlot_mono (stays_cons rowSlot_mono (stays_cons rboxSlot_mono (stays_nil _)))
      simp only [zd, Act.put, List.getElem_toArray, List.getElem_cons_zero, List.getElem_cons_succ, zl]
      refine dw_val rfl rfl rfl ?_; apply Exists.intro; refine ⟨fun wv HC => ?_, ?_⟩
      ·  go_simp <;> rfl
      simp only [Act.put, zl]
      refine dw_val rfl rfl rfl ?_; apply Exists.intro; refine ⟨fun wv HC => ?_, ?_⟩
      ·  go_simp <;> rfl
      simp only [Act.put, zl]
      refine dw_val rfl rfl rfl ?_; apply Exists.intro; refine ⟨fun wv HC => ?_, ?_⟩
      · obtain ⟨f0, f1, f2⟩ := HF.out _ HC; go_simp <;> rfl
      simp only [Act.put, zl]
      refine dw_val rfl rfl rfl ?_; apply Exists.intro; refine ⟨fun wv HC => ?_, ?_⟩
      ·  go_simp <;> rfl
      simp only [Act.put, zl]
      refine dw_val rfl rfl rfl ?_; apply Exists.intro; refine ⟨fun wv HC => ?_, ?_⟩
      · obtain ⟨f0, f1, f2⟩ := HF.out _ HC; go_simp <;> rfl
      simp only [Act.put, zl]
      refine dw_callR 24 (VlsSlot (Mut M KL) x.vs) (f := 56) (args := #[.slice x.A x.n x.c]) rfl rfl rfl rfl (fun wv => ?_) (fun wv HC hrm hD => ?_) ?_
      · go_simp <;> rfl
      · refine (copyVls_any _ wv HC.mutLt x.A x.n x.c x.vs (HRX.out _ HC) hxn).mono ?_
        rintro e w5 ⟨A5, n5, c5, rfl, h50, h51, h52, h53, b5⟩
        exact ⟨_, rfl, ⟨A5, n5, c5, rfl, h50, h51, h52, h53⟩, HC.call b5, RM.below b5⟩
      rintro x_ wx HCx ⟨A5, n5, c5, rfl, h50, h51, h52, h53⟩
      simp only [Act.put, zl]
      have H50 := hid h50
      clear HCx h53 h50
      refine dw_valC 25 (RowSlot (Mut M KL) x.id x.vs) rfl rfl rfl rfl (.agg #[.int .i64 x.id, .slice A5 n5 c5]) (fun wv HC => ?_) (fun wv HC hD => ?_) ?_
      · go_simp <;> rfl
      · have hsl : VlsSlot (Mut M KL) x.vs (.slice A5 n5 c5) wv := deps_at hD 5 rfl (by kernel_rfl) rfl rfl
        obtain ⟨A6, n6, c6, e6, h1, h2, h3, h4⟩ := hsl
        exact ⟨A6, n6, c6, by rw [e6], h1, h2, h3, h4⟩
      simp only [Act.put, zl]
      refine dw_new #[.int .i64 x.id, .slice A5 n5 c5] 119 26 (RBoxSlot (Mut M KL) x.id x.vs) (fun g => .slice (some ⟨g, 0, none⟩) 1 1) rfl rfl rfl rfl (fun wv => ?_) (fun wv HC _hrm hD hro => ?_) ?_
      · go_simp <;> rfl
      · have hsl : RowSlot (Mut M KL) x.id x.vs (.agg #[.int .i64 x.id, .slice A5 n5 c5]) wv := deps_at hD 6 rfl (by kernel_rfl) rfl rfl
        obtain ⟨A6, n6, c6, e6, h1, h2, h3, h4⟩ := hsl
        obtain ⟨rfl, rfl, rfl⟩ : A5 = A6 ∧ n5 = n6 ∧ c5 = c6 := by
          injection e6 with e6
          simp at e6
          exact e6
        exact ⟨_, A5, n5, c5, rfl, h1, h2, h3, h4.step (by simp) (fun b hb _ => Below.heap_alloc wv _ b hb) (fun _ _ h => h), ro_block (hro _ HC.mutLt) rfl⟩
      rintro g2 wg HCg hsl
      simp only [Act.put, zl]
      clear hsl HCg
      refine rel_nil ?_
      rintro wx2 HX
      rintro _hrm HGW
      have hb2 : RBoxSlot (Mut M KL) x.id x.vs (.slice (some ⟨g2, 0, none⟩) 1 1) wx2 := (GW_on (d := 26) rfl).1 (HGW 7 _ rfl (by omega))
      clear HGW _hrm
      obtain ⟨g3, A6, n6, c6, e6, k0_, k1_, k2_, k3_, k4_⟩ := hb2
      obtain rfl : g2 = g3 := by injection e6 with e6; injection e6 with e6; injection e6
      clear e6
      rw [HKL.out] at HX k3_
      have k5 := hid k4_.now
      have HK0 := hid k0_
      clear k4_ k0_ HF HRX KN
      have HRS := hid (show rwCells outs ++ [.int .i64 x.id, .slice A6 n6 c6] = rwCells (outs ++ [⟨x.id, A6, n6, c6, x.vs⟩]) from rwCells_snoc1 _ _ _ _ _ _)
      have KA := HX.add k3_
      clear HX k3_
      have FKA := KA.facts
      simp only [factsL, cellsF, Nat.reduceAdd, zf, zl] at FKA
      go_wp2_with (at_builtin; go_must (refine wpList_appAllH KA 3 rfl Tryz.elRw k5.out rfl (.tmp 19) (.tmp 26) rfl rfl rfl (by intro z hz; simp at hz; rcases hz with rfl | rfl <;> rfl) (by omega) (by omega) ?_); intro C' cap' w6 hc6 hm6 KB; rw [HRS.out] at KB; simp only [List.set_cons_zero, List.set_cons_succ] at KB; (have F3 := KB.facts); simp only [factsL, cellsF, Nat.reduceAdd, zf, zl] at F3)
      have KE := (KB.swapRo 4 rfl (vals_snoc (r := ⟨x.id, A6, n6, c6, x.vs⟩) (KB.ro 4 rfl) (KB.ro 0 rfl))).drop (List.Sublist.cons _ (List.Sublist.cons _ (List.sublist_cons_self _ _)))
      go_roundw
      case rel => exact ⟨j + 1, cap', C', _, by omega, by go_num, by first | rfl | trivial, KE⟩
      case measure => simp [intOf]; omega
    · obtain rfl : m = j := by omega
      have hd : decide ((m : Int) < (m : Int)) = false := by simp
      have F := H.facts
      simp only [factsL, cellsF, Nat.reduceAdd, zf, zl] at F
      have N := H.nes
      simp only [World.size_alloc, nesL, neF, List.set_cons_zero, List.set_cons_succ, and_true, true_and] at N
      have KS := H.sealRow 0 rfl
      simp only [List.set_cons_zero] at KS
      have KN := ((((KS.store 4 rfl 3 (.slice O m cap)).store 3 rfl 0 (.string nm)).store 3 rfl 1 (.slice C9 n cap9)).store 3 rfl 2 (.int .i64 nx)).store 3 rfl 3 (.slice O m cap)
      have r0 := KN.roOut 2 rfl
      go_wp2_with fail
      exact bodyPost_ret (v := .agg #[.string nm, .slice C9 n cap9, .int .i64 nx, .slice O m cap]) (by simp [results, Tryz.results74, go_sem, F, N]) rfl ⟨C9, n, cap9, O, m, cap, rfl, hc9, hm9, r0, KN.below⟩
end Go.Proofs.YtedogodccblfeaaGreatDoor

namespace Go.Proofs.YtedogodccblfeaaGreatDoor
open Go.RowKit
set_option linter.unusedVariables false
set_option linter.unusedSimpArgs false

set_option maxHeartbeats 1000000 in
set_option maxRecDepth 100000 in
theorem rhas_any (w : World) (A : Option Addr) (n c : Nat) (xs : List Int) (x : Int) (hD : IsIn A n xs w) (hn : n ≤ 9223372036854775807) :
    Calls Tryz.prog 75 #[.slice A n c, .int .i64 x] w fun e w' => e = .returned (.bool (xs.contains x)) ∧ w = w' := by
  have HL := hid hD.len
  go_enter Tryz.func75, Tryz.ntmps75
  go_wp2_with fail
  go_loopw [9] (fun iv wr => ∃ (k : Nat), k ≤ n ∧ iv = .int .i64 k ∧ wr = w ∧ Hid ((xs.take k).contains x = false)) (fun iv _ => n - (intOf iv).toNat)
  case atStart => exact ⟨0, by omega, rfl, rfl, hid (by simp)⟩
  case round =>
    obtain ⟨k, hk, rfl, rfl, HC⟩ := hrel
    by_cases hlt : k < n
    · have hd : decide ((k : Int) < (n : Int)) = true := by simp; omega
      have i0 : (0 : Int) ≤ (k : Int) := by omega
      have i1 : (k : Int) < (n : Int) := by omega
      obtain ⟨b, o, rfl, _, hcc⟩ := hD.cells (by omega)
      have HX := hid (show xs[k]? = some (xs.getD k 0) by simp [List.getD, show k < xs.length by rw [HL.out]; exact hlt])
      have ck : wr.cell? ⟨b, o + k, none⟩ = some (.int .i64 (xs.getD k 0)) := hcc k (by rw [HL.out]; exact hlt)
      clear hcc
      generalize xs.getD k 0 = y at *
      by_cases hxy : x = y
      · have e1 : (y == x) = true := by simp [hxy]
        have HN := hid (cont_hit HX.out hxy)
        clear hxy
        go_wp2_with fail
        go_ret
        exact ⟨by rw [HN.out] <;> rfl, rfl⟩
      · have e1 : (y == x) = false := by rw [beq_eq_false_iff_ne]; exact fun e => hxy e.symm
        have HN := hid (cont_step HX.out hxy HC.out)
        clear hxy
        go_wp2_with fail
        go_roundw
        case rel => exact ⟨k + 1, by omega, by go_num, by first | rfl | trivial, HN⟩
        case measure => simp [intOf]; omega
    · obtain rfl : n = k := by omega
      have hd : decide ((n : Int) < (n : Int)) = false := by simp
      have HN := hid (show xs.contains x = false by have h := HC.out; rwa [List.take_of_length_le (by rw [HL.out]; exact Nat.le_refl _)] at h)
      go_wp2_with fail
      go_ret
      exact ⟨by rw [HN.out] <;> rfl, rfl⟩
/-- the first update of a row -/
def findU (us : List Upd) (id : Int) : Option (List Vl) := (us.find? fun u => u.1 == id).map (·.2.2)
theorem findU_hit {us : List Upd} {k : Nat} {u : Upd} {id : Int} (hu : us[k]? = some u) (h : u.1 = id) : findU (us.drop k) id = some u.2.2 := by
  unfold findU; rw [drop_cons hu, List.find?_cons, show (u.1 == id) = true by simpa using h]; rfl
theorem findU_miss {us : List Upd} {k : Nat} {u : Upd} {id : Int} (hu : us[k]? = some u) (h : u.1 ≠ id) : findU (us.drop k) id = findU (us.drop (k + 1)) id := by
  unfold findU; rw [drop_cons hu, List.find?_cons, show (u.1 == id) = false by simpa using h]
def FindRet (w : World) (M : Nat → Prop) (o : Option (List Vl)) (e : Ending) (w' : World) : Prop :=
  ∃ (A : Option Addr) (n c : Nat), e = .returned (.tuple #[.slice A n c, .bool o.isSome]) ∧ n = (o.getD []).length ∧ n ≤ c ∧ c ≤ 9223372036854775807 ∧ Ro w' M (VlsIn A n (o.getD [])) ∧ Below w.heap.size w w'
set_option maxHeartbeats 4000000 in
set_option maxRecDepth 100000 in
theorem rufind_any (M : Nat → Prop) (w : World) (hM : ∀ b, M b → b < w.heap.size) (U : Option Addr) (nu cu : Nat) (ps : List Pr) (id : Int) (hE : Ro w M (PrsIn U nu ps)) (hm : nu ≤ 4611686018427387904) (hok : ∀ p ∈ ps, p.ok) :
    Calls Tryz.prog 76 #[.slice U nu cu, .int .i64 id] w fun e w' => FindRet w M (findU (ps.map Pr.upd) id) e w' := by
  have HL := hid hE.now.len
  have K0 := (Hold.start M w hM).add (hE.less (by simp [Mut]))
  clear hE
  go_enter Tryz.func76, Tryz.ntmps76
  go_wp2_with fail
  go_loopw [10] (fun iv wr => ∃ (j : Nat), j ≤ nu ∧ iv = .int .i64 j ∧ Hid (findU (ps.map Pr.upd) id = findU ((ps.map Pr.upd).drop j) id) ∧ Hold M none w wr [.ro (PrsIn U nu ps)]) (fun iv _ => nu - (intOf iv).toNat)
  case atStart => exact ⟨0, by omega, rfl, hid rfl, K0⟩
  case round =>
    clear K0
    obtain ⟨j, hj, rfl, HS, H⟩ := hrel
    by_cases hlt : j < nu
    · have hd : decide ((j : Int) < (nu : Int)) = true := by simp; omega
      have j0 : (0 : Int) ≤ (j : Int) := by omega
      have j1 : (j : Int) < (nu : Int) := by omega
      obtain ⟨p, hp⟩ := get_of HL.out hlt
      obtain ⟨b, o, rfl, hb, c0, c1, c2, hv1, hv2⟩ := (H.ro 0 rfl).now.at_ hp
      have HU := hid (show (ps.map Pr.upd)[j]? = some p.upd by rw [List.getElem?_map, hp]; rfl)
      have HOK := hid (hok p (List.mem_of_getElem? hp))
      have HPL := hid hv2.len
      have hpr : Ro wr _ (VlsIn p.nA p.nn p.new) := (H.ro 0 rfl).imp fun w2 h2 => (h2.2 p (List.mem_of_getElem? hp)).2
      obtain ⟨pid, oA, on, oc, old, nA, nn, nc, new⟩ := p
      dsimp only at *
      clear hp hv1 hv2
      have K2 := (H.add hpr).alloc_cst #[.int .i64 pid, .slice oA on oc, .slice nA nn nc] 110
      have FA := K2.facts
      simp only [factsL, cellsF, Nat.reduceAdd, zf, zl] at FA
      clear H hpr
      by_cases hi : pid = id
      · have hb2 : (pid == id) = true := by simp [hi]
        have HN := hid (show findU (ps.map Pr.upd) id = some new from HS.out.trans (findU_hit HU.out hi))
        clear hi
        go_wp2_with fail
        go_ret2
        rw [HN.out]
        exact ⟨nA, nn, nc, rfl, HPL.out.symm, HOK.out.nc, HOK.out.nc2, K2.roOut 1 rfl, K2.below⟩
      · have hb2 : (pid == id) = false := by simpa using hi
        have HN := hid (show findU (ps.map Pr.upd) id = findU ((ps.map Pr.upd).drop (j + 1)) id from HS.out.trans (findU_miss HU.out hi))
        clear hi
        go_wp2_with fail
        go_roundw
        case rel => exact ⟨j + 1, by omega, by go_num, HN, K2.drop (List.Sublist.cons _ (List.sublist_cons_self _ _))⟩
        case measure => simp [intOf]; omega
    · obtain rfl : nu = j := by omega
      have hd : decide ((nu : Int) < (nu : Int)) = false := by simp
      have HN := hid (show findU (ps.map Pr.upd) id = none by rw [HS.out, List.drop_of_length_le (by rw [List.length_map, HL.out]; exact Nat.le_refl _)]; rfl)
      go_wp2_with fail
      go_ret2
      rw [HN.out]
      exact ⟨none, 0, 0, rfl, rfl, by omega, by omega, ro_nil, H.below⟩
end Go.Proofs.YtedogodccblfeaaGreatDoor

namespace Go.Proofs.YtedogodccblfeaaGreatDoor
open Go.RowKit
set_option linter.unusedVariables false
set_option linter.unusedSimpArgs false

/-- the rows that stay, as the reference finds them -/
def fndR (dels : List Int) (us : List Upd) (rs : List Row) : List Row := (rs.filter fun r => !dels.contains r.1).map fun r => (r.1, (findU us r.1).getD r.2)
theorem findU_wantR : ∀ {us : List Upd}, (us.map (·.1)).Pairwise (· < ·) → ∀ (id : Int) (v : List Vl), wantR us id v = (findU us id).getD v
  | [], _, _, _ => rfl
  | u :: us, h, id, v => by
    obtain ⟨h1, h2⟩ := List.pairwise_cons.1 h
    rw [wantR_cons]
    by_cases hu : u.1 = id
    · rw [if_pos hu, wantR_none fun x hx => by
        have h3 : u.1 < x.1 := h1 x.1 (List.mem_map_of_mem (f := fun x : Upd => x.1) hx)
        omega]
      have := findU_hit (us := u :: us) (k := 0) rfl hu
      rw [List.drop_zero] at this
      rw [this]; rfl
    · rw [if_neg hu, findU_wantR h2]
      have := findU_miss (us := u :: us) (k := 0) rfl hu
      rw [List.drop_zero] at this
      rw [this]; rfl
theorem fndR_skip {dels : List Int} {us : List Upd} {rs : List Row} {j : Nat} {r : Row} (hr : rs[j]? = some r) (h : dels.contains r.1 = true) : fndR dels us (rs.take (j + 1)) = fndR dels us (rs.take j) := by
  unfold fndR
  rw [List.take_add_one, hr, Option.toList_some, List.filter_append, List.map_append]
  simp only [List.filter_cons, h, Bool.not_true, Bool.false_eq_true, if_false, List.filter_nil, List.map_nil, List.append_nil]
theorem fndR_keep {dels : List Int} {us : List Upd} {rs : List Row} {j : Nat} {r : Row} (hr : rs[j]? = some r) (h : dels.contains r.1 = false) : fndR dels us (rs.take (j + 1)) = fndR dels us (rs.take j) ++ [(r.1, (findU us r.1).getD r.2)] := by
  unfold fndR
  rw [List.take_add_one, hr, Option.toList_some, List.filter_append, List.map_append]
  simp only [List.filter_cons, h, Bool.not_false, if_true, List.filter_nil, List.map_cons, List.map_nil]
theorem fndR_eq {nm : ByteArray} {cs : List Col} {nx : Int} {rs : List Row} {ins : List (List Vl)} {dels : List Int} {us : List Upd} (h : chgB nm cs nx rs ins dels us = true) : fndR dels us rs = goR dels rs us := by
  obtain ⟨h1, h2, h3, h4⟩ := chgB_ok h
  obtain ⟨_, _, _, _, h5, _⟩ := tabB_ok h1
  rw [goR_eq rs us (okR_asc h5).1 h3 h4]
  unfold fndR keepR
  exact List.map_congr_left fun x hx => by rw [findU_wantR h3]
def TcSlot (M : Nat → Prop) (nm : ByteArray) (cs : List Col) (nx : Int) (u : Value) (w : World) : Prop := ∃ (A : Option Addr) (n c : Nat) (B : Option Addr) (m d : Nat), u = .agg #[.string nm, .slice A n c, .int .i64 nx, .slice B m d] ∧ n ≤ c ∧ c ≤ 9223372036854775807 ∧ Ro w M (ColsIn A n cs)
theorem tcSlot_mono {M : Nat → Prop} {nm : ByteArray} {cs : List Col} {nx : Int} (u : Value) (w w' : World) (hr : RM M w w') (h : TcSlot M nm cs nx u w) : TcSlot M nm cs nx u w' := by
  obtain ⟨A, n, c, B, m, d, e, h1, h2, h3⟩ := h
  exact ⟨A, n, c, B, m, d, e, h1, h2, hr.ro h3⟩
/-- columns that are known lie in no fresh table -/
theorem Ro.colsOff {w : World} {M : Nat → Prop} {A : Option Addr} {n : Nat} {cs : List Col} (h : Ro w M (ColsIn A n cs)) {g : Nat} {t : TypeId} (hg : w.heap[g]? = some (.cells #[.string ⟨#[]⟩, .slice none 0 0, .int .i64 0, .slice none 0 0] t (0, 0))) : Ro w (fun b => M b ∨ b = g) (ColsIn A n cs) := by
  have h0 : Rd w w.heap.size 4 A n (colCells cs) := h.now
  rcases Nat.eq_zero_or_pos n with hn | hn
  · exact fun w2 _ _ => ⟨h0.1, fun k => absurd k (by omega)⟩
  · obtain ⟨b, o, hA, hb, hc⟩ := h0.2 hn
    obtain ⟨c, hc0⟩ := get_col (l := cs) (k := 0) (RdC.len h0) hn
    have hbg : b ≠ g := by
      rintro rfl
      obtain ⟨b', o', e, _, c0, c1, _⟩ := RdC.at_ (show RdC w w.heap.size A n cs from h0) hc0
      obtain ⟨rfl, rfl⟩ : b = b' ∧ o = o' := by rw [hA] at e; injection e with e; injection e with a1 a2; exact ⟨a1, a2⟩
      rw [cell_of_row w b _ _ t (0, 0) hg] at c0 c1
      rcases o with _ | _ | _ | _ | o <;> simp at c0 c1
    intro w2 h1 h2
    have hgl : g < w.heap.size := (List.getElem?_eq_some_iff.1 (by simpa using hg : w.heap.toList[g]? = _)).1
    have h3 := h { w2 with heap := w2.heap.setIfInBounds g (.cells #[.string ⟨#[]⟩, .slice none 0 0, .int .i64 0, .slice none 0 0] t (0, 0)) } (by simpa using h1) (fun x hx hm => by
      show (w2.heap.setIfInBounds g _)[x]? = _
      by_cases hxg : x = g
      · subst hxg
        rw [Array.getElem?_setIfInBounds_self_of_lt (by omega), hg]
      · rw [Array.getElem?_setIfInBounds_ne (by omega)]
        exact h2 x hx (fun k => k.elim hm hxg))
    obtain ⟨hl, h4⟩ := (show Rd _ _ 4 A n (colCells cs) from h3)
    obtain ⟨b', o', e, _, hc'⟩ := h4 hn
    obtain ⟨rfl, rfl⟩ : b = b' ∧ o = o' := by rw [hA] at e; injection e with e; injection e with a1 a2; exact ⟨a1, a2⟩
    refine ⟨hl, fun _ => ⟨b, o, hA, by omega, fun j u hu => ?_⟩⟩
    rw [← hc' j u hu]
    refine World.cell?_of_block ?_
    show _ = (w2.heap.setIfInBounds g _)[b]?
    rw [Array.getElem?_setIfInBounds_ne (by omega)]
theorem goR_len2 {nm : ByteArray} {cs : List Col} {nx : Int} {rs : List Row} {ins : List (List Vl)} {dels : List Int} {us : List Upd} (h : chgB nm cs nx rs ins dels us = true) : ((goR dels rs us).length : Int) = rs.length - dels.length := by
  obtain ⟨h1, ⟨h2a, h2b⟩, h3, h4⟩ := chgB_ok h
  obtain ⟨_, _, _, _, h5, _⟩ := tabB_ok h1
  have hasc := (okR_asc h5).1
  rw [goR_eq rs us hasc h3 h4]
  have h2 : (keepR dels us rs).length = (rs.filter fun r => !dels.contains r.1).length := by simp [keepR]
  have hnd : (rs.map (·.1)).Nodup := hasc.imp fun h => by omega
  have hdn : dels.Nodup := h2a.imp fun h => by omega
  have hp : ((rs.map (·.1)).filter fun id => dels.contains id).Perm dels := (List.perm_ext_iff_of_nodup (hnd.sublist List.filter_sublist) hdn).2 fun a => by
    simp only [List.mem_filter, List.contains_iff_mem]
    exact ⟨fun k => k.2, fun k => ⟨h2b a k, k⟩⟩
  have h3 : (rs.filter fun r => dels.contains r.1).length = dels.length := by
    rw [← hp.length_eq, List.filter_map, List.length_map]; rfl
  have h4 : (rs.filter fun r => dels.contains r.1).length + (rs.filter fun r => !dels.contains r.1).length = rs.length := by
    have : ∀ l : List Row, (l.filter fun r => dels.contains r.1).length + (l.filter fun r => !dels.contains r.1).length = l.length := by
      intro l
      induction l with
      | nil => rfl
      | cons x l ih => cases hx : dels.contains x.1 <;> simp only [List.filter_cons, hx, if_true, if_false, Bool.not_true, Bool.not_false, List.length_cons, Bool.false_eq_true] <;> omega
    exact this rs
  rw [h2]
  omega
theorem findU_mem {us : List Pr} {id : Int} {v : List Vl} (h : findU (us.map Pr.upd) id = some v) : ∃ u ∈ us, v = u.new := by
  unfold findU at h
  obtain ⟨x, hx, rfl⟩ := Option.map_eq_some_iff.1 h
  obtain ⟨u, hu, rfl⟩ := List.mem_map.1 (List.mem_of_find?_eq_some hx)
  exact ⟨u, hu, rfl⟩
set_option maxHeartbeats 4000000 in
set_option maxRecDepth 100000 in
theorem rapply_any (M : Nat → Prop) (w : World) (hM : ∀ b, M b → b < w.heap.size) (nm : ByteArray) (A : Option Addr) (n c : Nat) (cs : List Col) (nx : Int) (B : Option Addr) (m d : Nat) (l : List Rw) (I : Option Addr) (ni ci : Nat) (ins : List Sl) (D : Option Addr) (nd cd : Nat) (dels : List Int) (U : Option Addr) (nu cu : Nat) (us : List Pr)
    (hC : Ro w M (SlR 4 A n (colCells cs))) (hE : Ro w M (RwsIn B m l)) (hI : Ro w M (SlsIn I ni ins)) (hD : Ro w M (IsIn D nd dels)) (hU : Ro w M (PrsIn U nu us)) (hn : n ≤ 9223372036854775807) (hm : m ≤ 4611686018427387904) (hok : ∀ r ∈ l, r.ok) (hrn : ∀ r ∈ l, r.n ≤ 4398046511104) (hpn : ∀ p ∈ us, p.on ≤ 9223372036854775807) (hs : nm.size ≤ maxLen) (hcs : ∀ x ∈ cs, x.name.size ≤ maxLen)
    (hni : ni ≤ 1000000000000000) (hnd : nd ≤ 1000000000000000) (hnu : nu ≤ 4398046511104) (hoi : ∀ s ∈ ins, s.ok) (hou : ∀ u ∈ us, u.ok) :
    Calls Tryz.prog 24 #[.agg #[.string nm, .slice A n c, .int .i64 nx, .slice B m d], .agg #[.slice I ni ci, .slice D nd cd, .slice U nu cu]] w fun e w' => ApplyRet w M (applyC nm cs nx (l.map Rw.row) (ins.map Sl.vs) dels (us.map Pr.upd)) e w' := by
  have HUL := hid hU.now.len
  have HIL := hid hI.now.len
  have HRL := hid hE.now.len
  have HDL := hid hD.now.len
  have HCL := hid (show cs.length = n from (RdC.of_sl hC.now).len)
  have HEN := hid hE.now
  have HUN := hid hU.now
  have HIN := hid hI.now
  have K0 := ((((((((Hold.start M w hM).add (hU.less (by simp [Mut]))).add (hD.less (by simp [Mut, Hp.foot]))).add (hI.less (by simp [Mut, Hp.foot]))).add (hE.less (by simp [Mut, Hp.foot]))).add (hC.less (by simp [Mut, Hp.foot]))).alloc_cst #[.string nm, .slice A n c, .int .i64 nx, .slice B m d] 58).alloc_cst #[.slice I ni ci, .slice D nd cd, .slice U nu cu] 76).alloc #[.string ⟨#[]⟩, .slice none 0 0, .int .i64 0, .slice none 0 0] 58
  simp only [World.size_alloc] at K0
  have F0 := K0.facts
  simp only [factsL, cellsF, Nat.reduceAdd, zf, zl] at F0
  clear hC hI hD hU hE
  go_enter Tryz.func24, Tryz.ntmps24
  go_wp2_with fail
  refine (rkvalid_any _ _ K0.mutLt nm A n c cs nx B m d l I ni ci ins D nd cd dels U nu cu us (K0.ro 3 rfl) (K0.ro 4 rfl) (K0.ro 5 rfl) (K0.ro 6 rfl) (K0.ro 7 rfl) hn hm hok hrn hpn hs hcs (by omega) (by omega) hnu).mono ?_
  rintro e w1 ⟨rfl, b1⟩
  have K1 := K0.call b1
  clear K0 b1 F0
  have F1 := K1.facts
  simp only [factsL, cellsF, Nat.reduceAdd, zf, zl] at F1
  cases hcb : chgB nm cs nx (l.map Rw.row) (ins.map Sl.vs) dels (us.map Pr.upd)
  · have HN := hid (show applyC nm cs nx (l.map Rw.row) (ins.map Sl.vs) dels (us.map Pr.upd) = (17, zeroT) by unfold applyC; rw [hcb]; rfl)
    clear hcb
    have KN := (((K1.store 0 rfl 0 (.string ⟨#[]⟩)).store 0 rfl 1 (.slice none 0 0)).store 0 rfl 2 (.int .i64 0)).store 0 rfl 3 (.slice none 0 0)
    go_wp2_with fail
    exact bodyPost_ret (v := .tuple #[.agg #[.string ⟨#[]⟩, .slice none 0 0, .int .i64 0, .slice none 0 0], .int .i64 (17)]) (by simp [results, Tryz.results24, go_sem, F1]) rfl ⟨_, by rw [HN.out], by rw [HN.out]; exact tbAt_zero, KN.below⟩
  have htb : tabB nm cs nx (l.map Rw.row) = true := (chgB_ok hcb).1
  have hshort := hid (rw_short HEN.out htb)
  obtain ⟨hm100, hnx1, hnx2⟩ := tabB_rows htb
  rw [List.length_map, HRL.out] at hm100
  have hn6 : n ≤ 6 := by have := tabB_cols htb; have := HCL.out; omega
  have HCB := hid hcb
  have HOK := hid hok
  have HOI := hid hoi
  have HOU := hid hou
  have HRN := hid hrn
  clear hcb htb hok hoi hou hrn hpn hcs
  go_wp2_with fail
  clear F1
  go_loopw [28] (fun iv wr => ∃ (j : Nat), j ≤ nu ∧ iv = .int .i64 j ∧ Hid (firstE cs (us.map Pr.new) = firstE cs ((us.map Pr.new).drop j)) ∧ Hold M none w wr [.blk (w.heap.size + 1 + 1) 58 #[.string ⟨#[]⟩, .slice none 0 0, .int .i64 0, .slice none 0 0], .cst (w.heap.size + 1) 76 #[.slice I ni ci, .slice D nd cd, .slice U nu cu], .cst w.heap.size 58 #[.string nm, .slice A n c, .int .i64 nx, .slice B m d], .ro (SlR 4 A n (colCells cs)), .ro (RwsIn B m l), .ro (SlsIn I ni ins), .ro (IsIn D nd dels), .ro (PrsIn U nu us)]) (fun iv _ => nu - (intOf iv).toNat)
  case atStart => exact ⟨0, by omega, rfl, hid rfl, K1⟩
  case round =>
    clear K1
    obtain ⟨j, hj, rfl, HS, H⟩ := hrel
    by_cases hlt : j < nu
    · have hdd : decide ((j : Int) < (nu : Int)) = true := by simp; omega
      have j0 : (0 : Int) ≤ (j : Int) := by omega
      obtain ⟨u, hu⟩ := get_of HUL.out hlt
      obtain ⟨b, o, rfl, hb, c0, c1, c2, _⟩ := (H.ro 7 rfl).now.at_ hu
      have HX := hid (show (us.map Pr.new)[j]? = some u.new by simp [hu])
      have HUM := hid (List.mem_of_getElem? hu)
      have huok := HOU.out u HUM.out
      have K1 := H.alloc_cst #[.int .i64 u.id, .slice u.oA u.on u.oc, .slice u.nA u.nn u.nc] 110
      clear hu
      have F1 := K1.facts
      simp only [factsL, cellsF, Nat.reduceAdd, zf, zl] at F1
      have hVR : Ro _ (Mut M _) (VlsIn u.nA u.nn u.new) := (K1.ro 8 rfl).imp fun w2 h2 => (h2.2 u HUM.out).2
      go_wp2_with fail
      refine (rtfits_any _ _ K1.mutLt nm A n c cs u.nA u.nn u.nc u.new (K1.ro 4 rfl) hVR hn (Nat.le_trans huok.nc huok.nc2) huok.new).mono ?_
      rintro e w3 ⟨rfl, b3⟩
      have K3 := (K1.call b3).drop (List.sublist_cons_self _ _)
      clear K1 F1 b3 hVR H
      have F3 := K3.facts
      simp only [factsL, cellsF, Nat.reduceAdd, zf, zl] at F3
      by_cases hz : fitsT cs u.new = 0
      · have HN := hid (show firstE cs (us.map Pr.new) = firstE cs ((us.map Pr.new).drop (j + 1)) by rw [HS.out]; exact firstE_good HX.out hz)
        rw [hz]
        clear hz
        go_wp2_with fail
        go_roundw
        case rel => exact ⟨j + 1, by omega, by go_num, HN, K3⟩
        case measure => simp [intOf]; omega
      · have hz2 : (fitsT cs u.new != 0) = true := by simp [hz]
        have HF2 := hid (show fitsC cs (us.map Pr.new) (ins.map Sl.vs) = fitsT cs u.new by unfold fitsC; rw [HS.out, firstE_bad HX.out hz, if_neg hz])
        have HN := hid (show applyC nm cs nx (l.map Rw.row) (ins.map Sl.vs) dels (us.map Pr.upd) = (fitsT cs u.new, zeroT) by
          have hmm : (us.map Pr.upd).map (·.2.2) = us.map Pr.new := by rw [List.map_map]; rfl
          unfold applyC; rw [HCB.out, hmm, HF2.out, if_neg (by simp), if_pos hz])
        clear hz
        have KN := (((K3.store 0 rfl 0 (.string ⟨#[]⟩)).store 0 rfl 1 (.slice none 0 0)).store 0 rfl 2 (.int .i64 0)).store 0 rfl 3 (.slice none 0 0)
        go_wp2_with fail
        exact bodyPost_ret (v := .tuple #[.agg #[.string ⟨#[]⟩, .slice none 0 0, .int .i64 0, .slice none 0 0], .int .i64 (fitsT cs u.new)]) (by simp [results, Tryz.results24, go_sem, F3]) rfl ⟨_, by rw [HN.out], by rw [HN.out]; exact tbAt_zero, KN.below⟩
    · obtain rfl : j = nu := by omega
      have hdd : decide ((j : Int) < (j : Int)) = false := by simp
      have HF := hid (show fitsC cs (us.map Pr.new) (ins.map Sl.vs) = firstE cs (ins.map Sl.vs) by unfold fitsC; rw [HS.out, firstE_end (by rw [List.length_map, HUL.out]; exact Nat.le_refl _), if_pos rfl])
      have F5 := H.facts
      simp only [factsL, cellsF, Nat.reduceAdd, zf, zl] at F5
      go_wp2_with fail
      clear F5
      go_loopw [45] (fun iv wr => ∃ (k : Nat), k ≤ ni ∧ iv = .int .i64 k ∧ Hid (firstE cs (ins.map Sl.vs) = firstE cs ((ins.map Sl.vs).drop k)) ∧ Hold M none w wr [.blk (w.heap.size + 1 + 1) 58 #[.string ⟨#[]⟩, .slice none 0 0, .int .i64 0, .slice none 0 0], .cst (w.heap.size + 1) 76 #[.slice I ni ci, .slice D nd cd, .slice U j cu], .cst w.heap.size 58 #[.string nm, .slice A n c, .int .i64 nx, .slice B m d], .ro (SlR 4 A n (colCells cs)), .ro (RwsIn B m l), .ro (SlsIn I ni ins), .ro (IsIn D nd dels), .ro (PrsIn U j us)]) (fun iv _ => ni - (intOf iv).toNat)
      case atStart => exact ⟨0, by omega, rfl, hid rfl, H⟩
      case round =>
        clear H
        obtain ⟨k, hk, rfl, HS2, H⟩ := hrel
        by_cases hlt2 : k < ni
        · have hdd2 : decide ((k : Int) < (ni : Int)) = true := by simp; omega
          have k0 : (0 : Int) ≤ (k : Int) := by omega
          obtain ⟨s, hx⟩ := get_of HIL.out hlt2
          obtain ⟨b, o, rfl, hb, c0, _⟩ := (H.ro 5 rfl).now.at_ hx
          have HX := hid (show (ins.map Sl.vs)[k]? = some s.vs by simp [hx])
          have HSM := hid (List.mem_of_getElem? hx)
          have hsok := HOI.out s HSM.out
          clear hx
          have F1 := H.facts
          simp only [factsL, cellsF, Nat.reduceAdd, zf, zl] at F1
          have hVR : Ro _ (Mut M _) (VlsIn s.A s.n s.vs) := (H.ro 5 rfl).imp fun w2 h2 => h2.2 s HSM.out
          go_wp2_with fail
          refine (rtfits_any _ _ H.mutLt nm A n c cs s.A s.n s.c s.vs (H.ro 3 rfl) hVR hn (Nat.le_trans hsok.nc hsok.c) hsok.vs).mono ?_
          rintro e w3 ⟨rfl, b3⟩
          have K3 := H.call b3
          clear F1 b3 hVR H
          have F3 := K3.facts
          simp only [factsL, cellsF, Nat.reduceAdd, zf, zl] at F3
          by_cases hz : fitsT cs s.vs = 0
          · have HN := hid (show firstE cs (ins.map Sl.vs) = firstE cs ((ins.map Sl.vs).drop (k + 1)) by rw [HS2.out]; exact firstE_good HX.out hz)
            rw [hz]
            clear hz
            go_wp2_with fail
            go_roundw
            case rel => exact ⟨k + 1, by omega, by go_num, HN, K3⟩
            case measure => simp [intOf]; omega
          · have hz2 : (fitsT cs s.vs != 0) = true := by simp [hz]
            have HF2 := hid (show fitsC cs (us.map Pr.new) (ins.map Sl.vs) = fitsT cs s.vs by rw [HF.out, HS2.out, firstE_bad HX.out hz])
            have HN := hid (show applyC nm cs nx (l.map Rw.row) (ins.map Sl.vs) dels (us.map Pr.upd) = (fitsT cs s.vs, zeroT) by
              have hmm : (us.map Pr.upd).map (·.2.2) = us.map Pr.new := by rw [List.map_map]; rfl
              unfold applyC; rw [HCB.out, hmm, HF2.out, if_neg (by simp), if_pos hz])
            clear hz
            have KN := (((K3.store 0 rfl 0 (.string ⟨#[]⟩)).store 0 rfl 1 (.slice none 0 0)).store 0 rfl 2 (.int .i64 0)).store 0 rfl 3 (.slice none 0 0)
            go_wp2_with fail
            exact bodyPost_ret (v := .tuple #[.agg #[.string ⟨#[]⟩, .slice none 0 0, .int .i64 0, .slice none 0 0], .int .i64 (fitsT cs s.vs)]) (by simp [results, Tryz.results24, go_sem, F3]) rfl ⟨_, by rw [HN.out], by rw [HN.out]; exact tbAt_zero, KN.below⟩
        · obtain rfl : k = ni := by omega
          have hdd2 : decide ((k : Int) < (k : Int)) = false := by simp
          have HFZ := hid (show fitsC cs ((us.map Pr.upd).map (·.2.2)) (ins.map Sl.vs) = 0 by
            have hmm : (us.map Pr.upd).map (·.2.2) = us.map Pr.new := by rw [List.map_map]; rfl
            rw [hmm, HF.out, HS2.out]
            exact firstE_end (by rw [List.length_map, HIL.out]; exact Nat.le_refl _))
          clear HS HS2 HF
          have F1 := H.facts
          simp only [factsL, cellsF, Nat.reduceAdd, zf, zl] at F1
          go_wp2_with fail
          obtain ⟨KL, hKL, KN⟩ := H.name
          have HFF : Hid (∀ wv, Hold M none w wv KL → wv.cell? ⟨w.heap.size, 0, none⟩ = some (.string nm) ∧ wv.cell? ⟨w.heap.size, 1, none⟩ = some (.slice A n c) ∧ wv.cell? ⟨w.heap.size, 2, none⟩ = some (.int .i64 nx) ∧ wv.cell? ⟨w.heap.size, 3, none⟩ = some (.slice B m d) ∧ w.heap.size < wv.heap.size) := hid fun wv HC => by
            rw [hKL] at HC
            have y0 := HC.cst_ 2 rfl
            exact ⟨cell_of_row _ _ 0 _ _ _ y0, cell_of_row _ _ 1 _ _ _ y0, cell_of_row _ _ 2 _ _ _ y0, cell_of_row _ _ 3 _ _ _ y0, Blk.lt y0⟩
          have HRX : Hid (∀ wv, Hold M none w wv KL → Ro wv (Mut M KL) (ColsIn A n cs) ∧ Ro wv (Mut M KL) (RwsIn B m l)) := hid fun wv HC => by
            rw [hKL] at HC ⊢
            exact ⟨HC.ro 3 rfl, HC.ro 4 rfl⟩
          have HKL := hid hKL
          clear hKL H F1
          obtain ⟨Ha, hHa⟩ : ∃ Ha, Ha = wr.drew.heap.size := ⟨_, rfl⟩
          have HHa := hid hHa
          clear hHa
          refine wp_region_any (by kernel_rfl) ?_
          refine wpAny_hold 7 143 (KL) (spL [(59, TcSlot (Mut M KL) nm cs nx), (12, NewSlot (Mut M KL) Ha 58 #[.string ⟨#[]⟩, .slice none 0 0, .int .i64 0, .slice none 0 0])]) (by kernel_rfl) (by kernel_rfl) (by kernel_rfl) rfl ?_ (KN.drew) ?_
          · exact stays_cons tcSlot_mono (stays_cons newSlot_mono (stays_nil _))
          simp only [zd, Act.put, List.getElem_toArray, List.getElem_cons_zero, List.getElem_cons_succ, zl]
          refine dw_val rfl rfl rfl ?_; apply Exists.intro; refine ⟨fun wv HC => ?_, ?_⟩
          · obtain ⟨f0, f1, f2, f3, f4⟩ := HFF.out _ HC; go_simp <;> rfl
          simp only [Act.put, zl]
          refine dw_callR 59 (TcSlot (Mut M KL) nm cs nx) (f := 74) (args := #[.agg #[.string nm, .slice A n c, .int .i64 nx, .slice B m d]]) rfl rfl rfl rfl (fun wv => ?_) (fun wv HC hrm hD => ?_) ?_
          · go_simp <;> rfl
          · refine (rtcopy_any _ wv HC.mutLt nm A n c cs nx B m d l (HRX.out _ HC).1 (HRX.out _ HC).2 (by omega) (by omega) HRN.out).mono ?_
            rintro e w5 ⟨A5, n5, c5, B5, m5, d5, rfl, h51, h52, h53, b5⟩
            exact ⟨_, rfl, ⟨A5, n5, c5, B5, m5, d5, rfl, h51, h52, h53⟩, HC.call b5, RM.below b5⟩
          rintro x_ wx HCx ⟨A5, n5, c5, B5, m5, d5, rfl, h51, h52, h53⟩
          simp only [Act.put, zl]
          have hn5 : n5 = n := by have h7 := (RdC.of_sl h53.now).len; have := HCL.out; omega
          clear HCx h53
          refine dw_val rfl rfl rfl ⟨.agg #[.string nm, .slice A5 n5 c5], fun wv HC => ?_, ?_⟩
          · go_simp <;> first | rfl | kernel_rfl
          simp only [Act.put, zl]
          refine dw_val rfl rfl rfl ?_; apply Exists.intro; refine ⟨fun wv HC => ?_, ?_⟩
          ·  go_simp <;> rfl
          simp only [Act.put, zl]
          refine dw_val rfl rfl rfl ?_; apply Exists.intro; refine ⟨fun wv HC => ?_, ?_⟩
          · obtain ⟨f0, f1, f2, f3, f4⟩ := HFF.out _ HC; go_simp <;> rfl
          simp only [Act.put, zl]
          refine dw_val rfl rfl rfl ⟨.agg #[.string nm, .slice A5 n5 c5, .int .i64 nx, .slice none 0 0], fun wv HC => ?_, ?_⟩
          · go_simp <;> first | rfl | kernel_rfl
          simp only [Act.put, zl]
          refine dw_new #[.string ⟨#[]⟩, .slice none 0 0, .int .i64 0, .slice none 0 0] 58 12 (NewSlot (Mut M KL) Ha 58 #[.string ⟨#[]⟩, .slice none 0 0, .int .i64 0, .slice none 0 0]) (fun g => .pointer (some ⟨g, 0, none⟩)) rfl rfl rfl rfl (fun wv => ?_) (fun wv HC hrm hD hro => ?_) ?_
          · go_simp <;> rfl
          · exact ⟨_, rfl, by have := hrm.1; rw [HHa.out]; exact this, hro _ HC.mutLt⟩
          rintro g7 wg HCg hsl
          simp only [Act.put, zl]
          clear hsl HCg
          refine rel_nil ?_
          rintro wx1 HX
          rintro _hrm HGW
          have htc : TcSlot (Mut M KL) nm cs nx (.agg #[.string nm, .slice A5 n5 c5, .int .i64 nx, .slice B5 m5 d5]) wx1 := (GW_on (d := 59) rfl).1 (HGW 1 _ rfl (by omega))
          have hns : NewSlot (Mut M KL) Ha 58 #[.string ⟨#[]⟩, .slice none 0 0, .int .i64 0, .slice none 0 0] (.pointer (some ⟨g7, 0, none⟩)) wx1 := (GW_on (d := 12) rfl).1 (HGW 6 _ rfl (by omega))
          clear HGW
          obtain ⟨gq, hgq, hgH, hgB⟩ := hns
          obtain rfl : g7 = gq := by injection hgq with hgq; injection hgq with hgq; injection hgq
          clear hgq
          rw [HHa.out] at hgH
          have HB := Hold.addFreshBlk KN.drew HX _hrm hgH hgB.now
          obtain ⟨A6, n6, c6, B6, m6, d6, e6, -, -, r6⟩ := htc
          obtain ⟨rfl, rfl, rfl⟩ : A5 = A6 ∧ n5 = n6 ∧ c5 = c6 := by
            injection e6 with e6
            simp only [Array.mk.injEq, List.cons.injEq, Value.slice.injEq, and_true, true_and] at e6
            exact e6.1
          have r7 : Ro wx1 (Mut M (.blk g7 58 #[.string ⟨#[]⟩, .slice none 0 0, .int .i64 0, .slice none 0 0] :: KL)) (ColsIn A5 n5 cs) := (r6.colsOff hgB.now).less fun b hb => (mut_cons.1 hb).elim (fun hf => .inr (by have hf : some g7 = some b := hf; injection hf with hf; exact hf.symm)) .inl
          have K0 := HB.add r7
          rw [HKL.out] at K0
          have FB := K0.facts
          simp only [factsL, cellsF, Nat.reduceAdd, zf, zl] at FB
          have HN5 := hid hn5
          clear hgB hgH HX _hrm HHa KN HFF HRX HKL HB e6 r6 r7 hn5
          have K1 := (((K0.store 1 rfl 0 (.string nm)).store 1 rfl 1 (.slice A5 n5 c5)).store 1 rfl 2 (.int .i64 nx)).store 1 rfl 3 (.slice none 0 0)
          simp only [List.set_cons_zero, List.set_cons_succ, List.setIfInBounds_toArray] at K1
          have K2 := (K1.add (ro_vals_nil _ _)).nil 119 2
          have F2 := K2.facts
          simp only [factsL, cellsF, Nat.reduceAdd, zf, zl] at F2
          clear K0 K1
          go_wp2_with fail
          generalize (((wx1.setCell _ _).setCell _ _).setCell _ _).setCell _ _ = w2 at K2 ⊢
          clear FB F2
          go_loopw [67] (fun iv wr => ∃ (i q cap : Nat) (O : Option Addr) (outs : List Rw), i ≤ m ∧ iv = .int .i64 i ∧ q ≤ i ∧ (∀ r ∈ outs, r.ok) ∧ Hid (outs.map Rw.row = fndR dels (us.map Pr.upd) ((l.map Rw.row).take i)) ∧ Hold M none w wr [.own 119 2 (.slice O q cap) q (rwCells outs), .ro (ValsIn outs), .ro (ColsIn A5 n5 cs), .blk g7 58 #[.string nm, .slice A5 n5 c5, .int .i64 nx, .slice O q cap], .blk (w.heap.size + 1 + 1) 58 #[.string ⟨#[]⟩, .slice none 0 0, .int .i64 0, .slice none 0 0], .cst (w.heap.size + 1) 76 #[.slice I k ci, .slice D nd cd, .slice U j cu], .cst w.heap.size 58 #[.string nm, .slice A n c, .int .i64 nx, .slice B m d], .ro (SlR 4 A n (colCells cs)), .ro (RwsIn B m l), .ro (SlsIn I k ins), .ro (IsIn D nd dels), .ro (PrsIn U j us)]) (fun iv _ => m - (intOf iv).toNat)
          case atStart => exact ⟨0, 0, 0, none, [], by omega, rfl, by omega, (fun r hr => nomatch hr), hid rfl, K2⟩
          case round =>
            clear K2
            obtain ⟨i, q, cap, O, outs, hi, rfl, hq, hoo, HG, H⟩ := hrel
            by_cases hlt3 : i < m
            · have hd3 : decide ((i : Int) < (m : Int)) = true := by simp; omega
              have i0 : (0 : Int) ≤ (i : Int) := by omega
              obtain ⟨r, hr⟩ := get_of HRL.out hlt3
              obtain ⟨b, o, rfl, hb, c0, c1, _⟩ := (H.ro 8 rfl).now.at_ hr
              have HX := hid (show (l.map Rw.row)[i]? = some (r.id, r.vs) by simp [hr, Rw.row])
              have HRM := hid (List.mem_of_getElem? hr)
              have hrok := HOK.out r HRM.out
              have hrn := HRN.out r HRM.out
              have K1 := H.alloc_cst #[.int .i64 r.id, .slice r.A r.n r.c] 119
              clear hr H
              obtain ⟨gr, hgr⟩ : ∃ gr, gr = wr.heap.size := ⟨_, rfl⟩
              rw [← hgr] at K1
              have F1 := K1.facts
              simp only [factsL, cellsF, Nat.reduceAdd, zf, zl] at F1
              go_wp2_with fail
              rw [← hgr]
              have HGR := hid hgr
              clear hgr c0 c1
              refine (rhas_any _ D nd cd dels r.id (K1.ro 11 rfl).now (by omega)).mono ?_
              rintro e w7 ⟨rfl, rfl⟩
              cases hct : dels.contains r.id
              · have HCT := hid hct
                clear hct
                go_wp2_with fail
                obtain ⟨fo, hfo⟩ : ∃ fo, fo = findU (us.map Pr.upd) r.id := ⟨_, rfl⟩
                have hk := rufind_any _ _ K1.mutLt U j cu us r.id (K1.ro 12 rfl) (by omega) HOU.out
                rw [← hfo] at hk
                have HFO := hid hfo
                clear hfo
                refine hk.mono ?_
                clear hk
                rintro e w8 ⟨Af, nf, cf, rfl, hf0, hf1, hf2, hfr, b8⟩
                have K3 := K1.call b8
                clear K1 F1 b8
                cases fo with
                | none =>
                  simp only [Option.isSome_none]
                  have hxr : Ro _ (Mut M _) (VlsIn r.A r.n r.vs) := (K3.ro 9 rfl).imp fun w2 h2 => h2.2 r HRM.out
                  have K4 := K3.add hxr
                  have F4 := K4.facts
                  simp only [factsL, cellsF, Nat.reduceAdd, zf, zl] at F4
                  clear K3 hfr hf0 hf1 hf2 hxr
                  go_wp2_with fail
                  clear F4
                  obtain ⟨KL, hKL, KN⟩ := K4.name
                  have HF : Hid (∀ wv, Hold M none w wv KL → wv.cell? ⟨gr, 0, none⟩ = some (.int .i64 r.id) ∧ wv.cell? ⟨g7, 3, none⟩ = some (.slice O q cap) ∧ gr < wv.heap.size ∧ g7 < wv.heap.size) := hid fun wv HC => by
                    rw [hKL] at HC
                    have y0 := HC.cst_ 1 rfl
                    have y1 := HC.blk_ 5 rfl
                    exact ⟨cell_of_row _ _ 0 _ _ _ y0, cell_of_row _ _ 3 _ _ _ y1, Blk.lt y0, Blk.lt y1⟩
                  have HRX : Hid (∀ wv, Hold M none w wv KL → Ro wv (Mut M KL) (VlsIn r.A r.n r.vs)) := hid fun wv HC => by
                    rw [hKL] at HC ⊢
                    exact HC.ro 0 rfl
                  have HKL := hid hKL
                  clear hKL K4
                  go_wp2_with fail
                  refine wp_region_any (by kernel_rfl) ?_
                  refine wpAny_hold 8 143 (KL) (spL [(93, VlsSlot (Mut M KL) r.vs), (94, RowSlot (Mut M KL) r.id r.vs), (95, RBoxSlot (Mut M KL) r.id r.vs)]) (by kernel_rfl) (by kernel_rfl) (by kernel_rfl) rfl ?_ (KN.drew) ?_
                  · exact stays_cons vlsSlot_mono (stays_cons rowSlot_mono (stays_cons rboxSlot_mono (stays_nil _)))
                  simp only [zd, Act.put, List.getElem_toArray, List.getElem_cons_zero, List.getElem_cons_succ, zl]
                  refine dw_val rfl rfl rfl ?_; apply Exists.intro; refine ⟨fun wv HC => ?_, ?_⟩
                  ·  go_simp <;> rfl
                  simp only [Act.put, zl]
                  refine dw_val rfl rfl rfl ?_; apply Exists.intro; refine ⟨fun wv HC => ?_, ?_⟩
                  · obtain ⟨f0, f1, f2, f3⟩ := HF.out _ HC; go_simp <;> rfl
                  simp only [Act.put, zl]
                  refine dw_val rfl rfl rfl ?_; apply Exists.intro; refine ⟨fun wv HC => ?_, ?_⟩
                  ·  go_simp <;> rfl
                  simp only [Act.put, zl]
                  refine dw_val rfl rfl rfl ?_; apply Exists.intro; refine ⟨fun wv HC => ?_, ?_⟩
                  · obtain ⟨f0, f1, f2, f3⟩ := HF.out _ HC; go_simp <;> rfl
                  simp only [Act.put, zl]
                  refine dw_val rfl rfl rfl ?_; apply Exists.intro; refine ⟨fun wv HC => ?_, ?_⟩
                  ·  go_simp <;> rfl
                  simp only [Act.put, zl]
                  refine dw_callR 93 (VlsSlot (Mut M KL) r.vs) (f := 56) (args := #[.slice r.A r.n r.c]) rfl rfl rfl rfl (fun wv => ?_) (fun wv HC hrm hD => ?_) ?_
                  · go_simp <;> rfl
                  · refine (copyVls_any _ wv HC.mutLt r.A r.n r.c r.vs (HRX.out _ HC) hrn).mono ?_
                    rintro e w5 ⟨A5, n5, c5, rfl, h50, h51, h52, h53, b5⟩
                    exact ⟨_, rfl, ⟨A5, n5, c5, rfl, h50, h51, h52, h53⟩, HC.call b5, RM.below b5⟩
                  rintro x_ wx HCx ⟨A5, n5, c5, rfl, h50, h51, h52, h53⟩
                  simp only [Act.put, zl]
                  have H50 := hid h50
                  clear HCx h53 h50
                  refine dw_valC 94 (RowSlot (Mut M KL) r.id r.vs) rfl rfl rfl rfl (.agg #[.int .i64 r.id, .slice A5 n5 c5]) (fun wv HC => ?_) (fun wv HC hD => ?_) ?_
                  · go_simp <;> rfl
                  · have hsl : VlsSlot (Mut M KL) r.vs (.slice A5 n5 c5) wv := deps_at hD 5 rfl (by kernel_rfl) rfl rfl
                    obtain ⟨A6, n6, c6, e6, h1, h2, h3, h4⟩ := hsl
                    exact ⟨A6, n6, c6, by rw [e6], h1, h2, h3, h4⟩
                  simp only [Act.put, zl]
                  refine dw_new #[.int .i64 r.id, .slice A5 n5 c5] 119 95 (RBoxSlot (Mut M KL) r.id r.vs) (fun g => .slice (some ⟨g, 0, none⟩) 1 1) rfl rfl rfl rfl (fun wv => ?_) (fun wv HC _hrm hD hro => ?_) ?_
                  · go_simp <;> rfl
                  · have hsl : RowSlot (Mut M KL) r.id r.vs (.agg #[.int .i64 r.id, .slice A5 n5 c5]) wv := deps_at hD 6 rfl (by kernel_rfl) rfl rfl
                    obtain ⟨A6, n6, c6, e6, h1, h2, h3, h4⟩ := hsl
                    obtain ⟨rfl, rfl, rfl⟩ : A5 = A6 ∧ n5 = n6 ∧ c5 = c6 := by
                      injection e6 with e6
                      simp at e6
                      exact e6
                    exact ⟨_, A5, n5, c5, rfl, h1, h2, h3, h4.step (by simp) (fun b hb _ => Below.heap_alloc wv _ b hb) (fun _ _ h => h), ro_block (hro _ HC.mutLt) rfl⟩
                  rintro g2 wg HCg hsl
                  simp only [Act.put, zl]
                  clear hsl HCg
                  refine rel_nil ?_
                  rintro wx2 HX
                  rintro _hrm HGW
                  have hb2 : RBoxSlot (Mut M KL) r.id r.vs (.slice (some ⟨g2, 0, none⟩) 1 1) wx2 := (GW_on (d := 95) rfl).1 (HGW 7 _ rfl (by omega))
                  clear HGW _hrm
                  obtain ⟨g3, A6, n6, c6, e6, k0_, k1_, k2_, k3_, k4_⟩ := hb2
                  obtain rfl : g2 = g3 := by injection e6 with e6; injection e6 with e6; injection e6
                  clear e6
                  rw [HKL.out] at HX k3_
                  have k5 := hid k4_.now
                  have HK0 := hid k0_
                  clear k4_ k0_ HF HRX KN
                  have HRS := hid (show rwCells outs ++ [.int .i64 r.id, .slice A6 n6 c6] = rwCells (outs ++ [⟨r.id, A6, n6, c6, r.vs⟩]) from rwCells_snoc1 _ _ _ _ _ _)
                  have KA := HX.add k3_
                  clear HX k3_
                  have FKA := KA.facts
                  simp only [factsL, cellsF, Nat.reduceAdd, zf, zl] at FKA
                  go_wp2_with (at_builtin; go_must (refine wpList_appAllH KA 3 rfl Tryz.elRw k5.out rfl (.tmp 89) (.tmp 95) rfl rfl rfl (by intro z hz; simp at hz; rcases hz with rfl | rfl <;> rfl) (by omega) (by omega) ?_); intro C' cap' w6 hc6 hm6 KB; rw [HRS.out] at KB; simp only [List.set_cons_zero, List.set_cons_succ] at KB; (have F3 := KB.facts); simp only [factsL, cellsF, Nat.reduceAdd, zf, zl] at F3)
                  have KC := KB.store 6 rfl 3 (.slice C' (q + 1) cap')
                  have KE := (KC.swapRo 4 rfl (vals_snoc (r := ⟨r.id, A6, n6, c6, r.vs⟩) (KC.ro 4 rfl) (KC.ro 0 rfl))).drop (List.Sublist.cons _ (List.Sublist.cons _ (List.sublist_cons_self _ _)))
                  simp only [cellsF, List.set_cons_zero, List.set_cons_succ, List.setIfInBounds_toArray] at KE
                  have HGN := hid (show List.map Rw.row (outs ++ [⟨r.id, A6, n6, c6, r.vs⟩]) = fndR dels (us.map Pr.upd) ((l.map Rw.row).take (i + 1)) by
                    rw [List.map_append, HG.out, fndR_keep HX.out HCT.out]
                    show _ = _ ++ [(r.id, (findU (us.map Pr.upd) r.id).getD r.vs)]
                    rw [← HFO.out]; rfl)
                  go_roundw
                  case rel => exact ⟨i + 1, q + 1, cap', C', _, by omega, by go_num, by omega, by intro x hx; rcases List.mem_append.1 hx with hx | hx; (exact hoo x hx); (simp at hx; subst hx; exact ⟨hrok.id, k1_, k2_, hrok.vs⟩), HGN, KE⟩
                  case measure => simp [intOf]; omega
                | some v =>
                  simp only [Option.isSome_some, Option.getD_some] at hfr hf0 ⊢
                  obtain ⟨u, hu, rfl⟩ := findU_mem HFO.out.symm
                  have huo := HOU.out u hu
                  have hv6 : nf ≤ 6 := by
                    have h1 := fitsT_len ((fitsC_all HFZ.out).1 u.new (List.mem_map.2 ⟨u.upd, List.mem_map_of_mem hu, rfl⟩))
                    have := HCL.out
                    omega
                  have K4 := K3.add hfr
                  have F4 := K4.facts
                  simp only [factsL, cellsF, Nat.reduceAdd, zf, zl] at F4
                  clear K3 hfr hf0 hf1 hf2 hu
                  go_wp2_with fail
                  clear F4
                  obtain ⟨KL, hKL, KN⟩ := K4.name
                  have HF : Hid (∀ wv, Hold M none w wv KL → wv.cell? ⟨gr, 0, none⟩ = some (.int .i64 r.id) ∧ wv.cell? ⟨g7, 3, none⟩ = some (.slice O q cap) ∧ gr < wv.heap.size ∧ g7 < wv.heap.size) := hid fun wv HC => by
                    rw [hKL] at HC
                    have y0 := HC.cst_ 1 rfl
                    have y1 := HC.blk_ 5 rfl
                    exact ⟨cell_of_row _ _ 0 _ _ _ y0, cell_of_row _ _ 3 _ _ _ y1, Blk.lt y0, Blk.lt y1⟩
                  have HRX : Hid (∀ wv, Hold M none w wv KL → Ro wv (Mut M KL) (VlsIn Af nf u.new)) := hid fun wv HC => by
                    rw [hKL] at HC ⊢
                    exact HC.ro 0 rfl
                  have HKL := hid hKL
                  clear hKL K4
                  go_wp2_with fail
                  refine wp_region_any (by kernel_rfl) ?_
                  refine wpAny_hold 8 143 (KL) (spL [(93, VlsSlot (Mut M KL) u.new), (94, RowSlot (Mut M KL) r.id u.new), (95, RBoxSlot (Mut M KL) r.id u.new)]) (by kernel_rfl) (by kernel_rfl) (by kernel_rfl) rfl ?_ (KN.drew) ?_
                  · exact stays_cons vlsSlot_mono (stays_cons rowSlot_mono (stays_cons rboxSlot_mono (stays_nil _)))
                  simp only [zd, Act.put, List.getElem_toArray, List.getElem_cons_zero, List.getElem_cons_succ, zl]
                  refine dw_val rfl rfl rfl ?_; apply Exists.intro; refine ⟨fun wv HC => ?_, ?_⟩
                  ·  go_simp <;> rfl
                  simp only [Act.put, zl]
                  refine dw_val rfl rfl rfl ?_; apply Exists.intro; refine ⟨fun wv HC => ?_, ?_⟩
                  · obtain ⟨f0, f1, f2, f3⟩ := HF.out _ HC; go_simp <;> rfl
                  simp only [Act.put, zl]
                  refine dw_val rfl rfl rfl ?_; apply Exists.intro; refine ⟨fun wv HC => ?_, ?_⟩
                  ·  go_simp <;> rfl
                  simp only [Act.put, zl]
                  refine dw_val rfl rfl rfl ?_; apply Exists.intro; refine ⟨fun wv HC => ?_, ?_⟩
                  · obtain ⟨f0, f1, f2, f3⟩ := HF.out _ HC; go_simp <;> rfl
                  simp only [Act.put, zl]
                  refine dw_val rfl rfl rfl ?_; apply Exists.intro; refine ⟨fun wv HC => ?_, ?_⟩
                  ·  go_simp <;> rfl
                  simp only [Act.put, zl]
                  refine dw_callR 93 (VlsSlot (Mut M KL) u.new) (f := 56) (args := #[.slice Af nf cf]) rfl rfl rfl rfl (fun wv => ?_) (fun wv HC hrm hD => ?_) ?_
                  · go_simp <;> rfl
                  · refine (copyVls_any _ wv HC.mutLt Af nf cf u.new (HRX.out _ HC) (by omega)).mono ?_
                    rintro e w5 ⟨A5, n5, c5, rfl, h50, h51, h52, h53, b5⟩
                    exact ⟨_, rfl, ⟨A5, n5, c5, rfl, h50, h51, h52, h53⟩, HC.call b5, RM.below b5⟩
                  rintro x_ wx HCx ⟨A5, n5, c5, rfl, h50, h51, h52, h53⟩
                  simp only [Act.put, zl]
                  have H50 := hid h50
                  clear HCx h53 h50
                  refine dw_valC 94 (RowSlot (Mut M KL) r.id u.new) rfl rfl rfl rfl (.agg #[.int .i64 r.id, .slice A5 n5 c5]) (fun wv HC => ?_) (fun wv HC hD => ?_) ?_
                  · go_simp <;> rfl
                  · have hsl : VlsSlot (Mut M KL) u.new (.slice A5 n5 c5) wv := deps_at hD 5 rfl (by kernel_rfl) rfl rfl
                    obtain ⟨A6, n6, c6, e6, h1, h2, h3, h4⟩ := hsl
                    exact ⟨A6, n6, c6, by rw [e6], h1, h2, h3, h4⟩
                  simp only [Act.put, zl]
                  refine dw_new #[.int .i64 r.id, .slice A5 n5 c5] 119 95 (RBoxSlot (Mut M KL) r.id u.new) (fun g => .slice (some ⟨g, 0, none⟩) 1 1) rfl rfl rfl rfl (fun wv => ?_) (fun wv HC _hrm hD hro => ?_) ?_
                  · go_simp <;> rfl
                  · have hsl : RowSlot (Mut M KL) r.id u.new (.agg #[.int .i64 r.id, .slice A5 n5 c5]) wv := deps_at hD 6 rfl (by kernel_rfl) rfl rfl
                    obtain ⟨A6, n6, c6, e6, h1, h2, h3, h4⟩ := hsl
                    obtain ⟨rfl, rfl, rfl⟩ : A5 = A6 ∧ n5 = n6 ∧ c5 = c6 := by
                      injection e6 with e6
                      simp at e6
                      exact e6
                    exact ⟨_, A5, n5, c5, rfl, h1, h2, h3, h4.step (by simp) (fun b hb _ => Below.heap_alloc wv _ b hb) (fun _ _ h => h), ro_block (hro _ HC.mutLt) rfl⟩
                  rintro g2 wg HCg hsl
                  simp only [Act.put, zl]
                  clear hsl HCg
                  refine rel_nil ?_
                  rintro wx2 HX
                  rintro _hrm HGW
                  have hb2 : RBoxSlot (Mut M KL) r.id u.new (.slice (some ⟨g2, 0, none⟩) 1 1) wx2 := (GW_on (d := 95) rfl).1 (HGW 7 _ rfl (by omega))
                  clear HGW _hrm
                  obtain ⟨g3, A6, n6, c6, e6, k0_, k1_, k2_, k3_, k4_⟩ := hb2
                  obtain rfl : g2 = g3 := by injection e6 with e6; injection e6 with e6; injection e6
                  clear e6
                  rw [HKL.out] at HX k3_
                  have k5 := hid k4_.now
                  have HK0 := hid k0_
                  clear k4_ k0_ HF HRX KN
                  have HRS := hid (show rwCells outs ++ [.int .i64 r.id, .slice A6 n6 c6] = rwCells (outs ++ [⟨r.id, A6, n6, c6, u.new⟩]) from rwCells_snoc1 _ _ _ _ _ _)
                  have KA := HX.add k3_
                  clear HX k3_
                  have FKA := KA.facts
                  simp only [factsL, cellsF, Nat.reduceAdd, zf, zl] at FKA
                  go_wp2_with (at_builtin; go_must (refine wpList_appAllH KA 3 rfl Tryz.elRw k5.out rfl (.tmp 89) (.tmp 95) rfl rfl rfl (by intro z hz; simp at hz; rcases hz with rfl | rfl <;> rfl) (by omega) (by omega) ?_); intro C' cap' w6 hc6 hm6 KB; rw [HRS.out] at KB; simp only [List.set_cons_zero, List.set_cons_succ] at KB; (have F3 := KB.facts); simp only [factsL, cellsF, Nat.reduceAdd, zf, zl] at F3)
                  have KC := KB.store 6 rfl 3 (.slice C' (q + 1) cap')
                  have KE := (KC.swapRo 4 rfl (vals_snoc (r := ⟨r.id, A6, n6, c6, u.new⟩) (KC.ro 4 rfl) (KC.ro 0 rfl))).drop (List.Sublist.cons _ (List.Sublist.cons _ (List.sublist_cons_self _ _)))
                  simp only [cellsF, List.set_cons_zero, List.set_cons_succ, List.setIfInBounds_toArray] at KE
                  have HGN := hid (show List.map Rw.row (outs ++ [⟨r.id, A6, n6, c6, u.new⟩]) = fndR dels (us.map Pr.upd) ((l.map Rw.row).take (i + 1)) by
                    rw [List.map_append, HG.out, fndR_keep HX.out HCT.out]
                    show _ = _ ++ [(r.id, (findU (us.map Pr.upd) r.id).getD r.vs)]
                    rw [← HFO.out]; rfl)
                  go_roundw
                  case rel => exact ⟨i + 1, q + 1, cap', C', _, by omega, by go_num, by omega, by intro x hx; rcases List.mem_append.1 hx with hx | hx; (exact hoo x hx); (simp at hx; subst hx; exact ⟨hrok.id, k1_, k2_, huo.new⟩), HGN, KE⟩
                  case measure => simp [intOf]; omega
              · have HN := hid (show outs.map Rw.row = fndR dels (us.map Pr.upd) ((l.map Rw.row).take (i + 1)) by rw [HG.out, fndR_skip HX.out hct])
                go_wp2_with fail
                go_roundw
                case rel => exact ⟨i + 1, q, cap, O, outs, by omega, by go_num, by omega, hoo, HN, K1.drop (List.sublist_cons_self _ _)⟩
                case measure => simp [intOf]; omega
            · obtain rfl : i = m := by omega
              have hd3 : decide ((i : Int) < (i : Int)) = false := by simp
              have HGF := hid (show outs.map Rw.row = goR dels (l.map Rw.row) (us.map Pr.upd) by rw [HG.out, List.take_of_length_le (by rw [List.length_map, HRL.out]; exact Nat.le_refl _), fndR_eq HCB.out])
              have hql : (q : Int) = (i : Int) - (nd : Int) := by
                have KS := H.sealRow 0 rfl
                simp only [List.set_cons_zero] at KS
                have h1 := (show Ro _ _ (RwsIn O q outs) from (KS.ro 0 rfl).and (KS.ro 1 rfl)).now.len
                have h2 := goR_len2 HCB.out
                rw [← HGF.out, List.length_map, List.length_map, HRL.out, HDL.out, h1] at h2
                exact h2
              have hw1 : IntKind.i64.wrap ((q : Int) + (k : Int)) = (q : Int) + (k : Int) := by rw [IntKind.wrap_i64]; omega
              have hw2 : IntKind.i64.wrap (2147483648 - nx) = 2147483648 - nx := by rw [IntKind.wrap_i64]; omega
              have F1 := H.facts
              simp only [factsL, cellsF, Nat.reduceAdd, zf, zl] at F1
              by_cases hbig : (q : Int) + (k : Int) > 100 ∨ (k : Int) > 2147483648 - nx
              · have HN := hid (show applyC nm cs nx (l.map Rw.row) (ins.map Sl.vs) dels (us.map Pr.upd) = (10, zeroT) by unfold applyC; rw [HCB.out, HFZ.out, if_neg (by simp), if_neg (by simp), if_pos (by simp only [List.length_map]; rw [HRL.out, HIL.out, HDL.out]; omega)])
                by_cases hb1 : (q : Int) + (k : Int) > 100
                · have hdb1 : decide ((q : Int) + (k : Int) > 100) = true := by simp; omega
                  clear hbig hb1 hql
                  have KN := (((H.store 4 rfl 0 (.string ⟨#[]⟩)).store 4 rfl 1 (.slice none 0 0)).store 4 rfl 2 (.int .i64 0)).store 4 rfl 3 (.slice none 0 0)
                  go_wp2_with fail
                  exact bodyPost_ret (v := .tuple #[.agg #[.string ⟨#[]⟩, .slice none 0 0, .int .i64 0, .slice none 0 0], .int .i64 (10)]) (by simp [results, Tryz.results24, go_sem, F1]) rfl ⟨_, by rw [HN.out], by rw [HN.out]; exact tbAt_zero, KN.below⟩
                · have hdb1 : decide ((q : Int) + (k : Int) > 100) = false := by simp; omega
                  have hdb2 : decide ((k : Int) > 2147483648 - nx) = true := by simp; omega
                  clear hbig hb1 hql
                  have KN := (((H.store 4 rfl 0 (.string ⟨#[]⟩)).store 4 rfl 1 (.slice none 0 0)).store 4 rfl 2 (.int .i64 0)).store 4 rfl 3 (.slice none 0 0)
                  go_wp2_with fail
                  exact bodyPost_ret (v := .tuple #[.agg #[.string ⟨#[]⟩, .slice none 0 0, .int .i64 0, .slice none 0 0], .int .i64 (10)]) (by simp [results, Tryz.results24, go_sem, F1]) rfl ⟨_, by rw [HN.out], by rw [HN.out]; exact tbAt_zero, KN.below⟩
              · have hdb1 : decide ((q : Int) + (k : Int) > 100) = false := by simp; omega
                have hdb2 : decide ((k : Int) > 2147483648 - nx) = false := by simp; omega
                have HBIG := hid (show ¬ ((i : Int) - (nd : Int) + (k : Int) > 100 ∨ (k : Int) > 2147483648 - nx) by omega)
                have hknx : (k : Int) ≤ 2147483648 - nx := by omega
                clear hbig hql
                go_wp2_with fail
                clear F1 hw1 hw2 hdb1 hdb2
                go_loopw [120] (fun iv wr => ∃ (kk q cap : Nat) (O : Option Addr) (outs : List Rw), kk ≤ k ∧ iv = .int .i64 kk ∧ q ≤ i + kk ∧ (∀ r ∈ outs, r.ok) ∧ Hid (outs.map Rw.row = goR dels (l.map Rw.row) (us.map Pr.upd) ++ insR nx ((ins.map Sl.vs).take kk)) ∧ Hold M none w wr [.own 119 2 (.slice O q cap) q (rwCells outs), .ro (ValsIn outs), .ro (ColsIn A5 n5 cs), .blk g7 58 #[.string nm, .slice A5 n5 c5, .int .i64 (nx + (kk : Int)), .slice O q cap], .blk (w.heap.size + 1 + 1) 58 #[.string ⟨#[]⟩, .slice none 0 0, .int .i64 0, .slice none 0 0], .cst (w.heap.size + 1) 76 #[.slice I k ci, .slice D nd cd, .slice U j cu], .cst w.heap.size 58 #[.string nm, .slice A n c, .int .i64 nx, .slice B i d], .ro (SlR 4 A n (colCells cs)), .ro (RwsIn B i l), .ro (SlsIn I k ins), .ro (IsIn D nd dels), .ro (PrsIn U j us)]) (fun iv _ => k - (intOf iv).toNat)
                case atStart => exact ⟨0, q, cap, O, outs, by omega, rfl, by omega, hoo, hid (by rw [HGF.out]; simp [insR]), by rw [show nx + ((0 : Nat) : Int) = nx by simp]; exact H⟩
                case round =>
                  clear H HG HGF hoo hq hd3
                  obtain ⟨kk, q, cap, O, outs, hkk, rfl, hq, hoo, HG2, H⟩ := hrel
                  by_cases hlt4 : kk < k
                  · have hd4 : decide ((kk : Int) < (k : Int)) = true := by simp; omega
                    have k0 : (0 : Int) ≤ (kk : Int) := by omega
                    obtain ⟨s, hx⟩ := get_of HIL.out hlt4
                    obtain ⟨bi, oi, rfl, hb, c0, _⟩ := (H.ro 9 rfl).now.at_ hx
                    have HXI := hid (show (ins.map Sl.vs)[kk]? = some s.vs by simp [hx])
                    have HSM := hid (List.mem_of_getElem? hx)
                    have hsok := HOI.out s HSM.out
                    have hs6 : s.n ≤ 6 := by
                      have h1 := fitsT_len ((fitsC_all HFZ.out).2 s.vs (List.mem_map_of_mem HSM.out))
                      have h2 := (HIN.out.2 s HSM.out).len
                      have := HCL.out
                      omega
                    have hvr : Ro _ (Mut M _) (VlsIn s.A s.n s.vs) := (H.ro 9 rfl).imp fun w2 h2 => h2.2 s HSM.out
                    have K4 := H.add hvr
                    have F4 := K4.facts
                    simp only [factsL, cellsF, Nat.reduceAdd, zf, zl] at F4
                    have hwk : IntKind.i64.wrap (nx + (kk : Int) + 1) = nx + (kk : Int) + 1 := by rw [IntKind.wrap_i64]; omega
                    clear hx H hvr
                    go_wp2_with fail
                    clear F4 c0
                    obtain ⟨KL, hKL, KN⟩ := K4.name
                    have HF : Hid (∀ wv, Hold M none w wv KL → wv.cell? ⟨g7, 2, none⟩ = some (.int .i64 (nx + (kk : Int))) ∧ wv.cell? ⟨g7, 3, none⟩ = some (.slice O q cap) ∧ g7 < wv.heap.size) := hid fun wv HC => by
                      rw [hKL] at HC
                      have y1 := HC.blk_ 4 rfl
                      exact ⟨cell_of_row _ _ 2 _ _ _ y1, cell_of_row _ _ 3 _ _ _ y1, Blk.lt y1⟩
                    have HRX : Hid (∀ wv, Hold M none w wv KL → Ro wv (Mut M KL) (VlsIn s.A s.n s.vs)) := hid fun wv HC => by
                      rw [hKL] at HC ⊢
                      exact HC.ro 0 rfl
                    have HKL := hid hKL
                    clear hKL K4
                    go_wp2_with fail
                    refine wp_region_any (by kernel_rfl) ?_
                    refine wpAny_hold 8 143 (KL) (spL [(129, VlsSlot (Mut M KL) s.vs), (130, RowSlot (Mut M KL) (nx + (kk : Int)) s.vs), (131, RBoxSlot (Mut M KL) (nx + (kk : Int)) s.vs)]) (by kernel_rfl) (by kernel_rfl) (by kernel_rfl) rfl ?_ (KN.drew) ?_
                    · exact stays_cons vlsSlot_mono (stays_cons rowSlot_mono (stays_cons rboxSlot_mono (stays_nil _)))
                    simp only [zd, Act.put, List.getElem_toArray, List.getElem_cons_zero, List.getElem_cons_succ, zl]
                    refine dw_val rfl rfl rfl ?_; apply Exists.intro; refine ⟨fun wv HC => ?_, ?_⟩
                    ·  go_simp <;> rfl
                    simp only [Act.put, zl]
                    refine dw_val rfl rfl rfl ?_; apply Exists.intro; refine ⟨fun wv HC => ?_, ?_⟩
                    · obtain ⟨f0, f1, f2⟩ := HF.out _ HC; go_simp <;> rfl
                    simp only [Act.put, zl]
                    refine dw_val rfl rfl rfl ?_; apply Exists.intro; refine ⟨fun wv HC => ?_, ?_⟩
                    ·  go_simp <;> rfl
                    simp only [Act.put, zl]
                    refine dw_val rfl rfl rfl ?_; apply Exists.intro; refine ⟨fun wv HC => ?_, ?_⟩
                    · obtain ⟨f0, f1, f2⟩ := HF.out _ HC; go_simp <;> rfl
                    simp only [Act.put, zl]
                    refine dw_val rfl rfl rfl ?_; apply Exists.intro; refine ⟨fun wv HC => ?_, ?_⟩
                    ·  go_simp <;> rfl
                    simp only [Act.put, zl]
                    refine dw_callR 129 (VlsSlot (Mut M KL) s.vs) (f := 56) (args := #[.slice s.A s.n s.c]) rfl rfl rfl rfl (fun wv => ?_) (fun wv HC hrm hD => ?_) ?_
                    · go_simp <;> rfl
                    · refine (copyVls_any _ wv HC.mutLt s.A s.n s.c s.vs (HRX.out _ HC) (by omega)).mono ?_
                      rintro e w5 ⟨A5, n5, c5, rfl, h50, h51, h52, h53, b5⟩
                      exact ⟨_, rfl, ⟨A5, n5, c5, rfl, h50, h51, h52, h53⟩, HC.call b5, RM.below b5⟩
                    rintro x_ wx HCx ⟨A5, n5, c5, rfl, h50, h51, h52, h53⟩
                    simp only [Act.put, zl]
                    have H50 := hid h50
                    clear HCx h53 h50
                    refine dw_valC 130 (RowSlot (Mut M KL) (nx + (kk : Int)) s.vs) rfl rfl rfl rfl (.agg #[.int .i64 (nx + (kk : Int)), .slice A5 n5 c5]) (fun wv HC => ?_) (fun wv HC hD => ?_) ?_
                    · go_simp <;> rfl
                    · have hsl : VlsSlot (Mut M KL) s.vs (.slice A5 n5 c5) wv := deps_at hD 5 rfl (by kernel_rfl) rfl rfl
                      obtain ⟨A6, n6, c6, e6, h1, h2, h3, h4⟩ := hsl
                      exact ⟨A6, n6, c6, by rw [e6], h1, h2, h3, h4⟩
                    simp only [Act.put, zl]
                    refine dw_new #[.int .i64 (nx + (kk : Int)), .slice A5 n5 c5] 119 131 (RBoxSlot (Mut M KL) (nx + (kk : Int)) s.vs) (fun g => .slice (some ⟨g, 0, none⟩) 1 1) rfl rfl rfl rfl (fun wv => ?_) (fun wv HC _hrm hD hro => ?_) ?_
                    · go_simp <;> rfl
                    · have hsl : RowSlot (Mut M KL) (nx + (kk : Int)) s.vs (.agg #[.int .i64 (nx + (kk : Int)), .slice A5 n5 c5]) wv := deps_at hD 6 rfl (by kernel_rfl) rfl rfl
                      obtain ⟨A6, n6, c6, e6, h1, h2, h3, h4⟩ := hsl
                      obtain ⟨rfl, rfl, rfl⟩ : A5 = A6 ∧ n5 = n6 ∧ c5 = c6 := by
                        injection e6 with e6
                        simp at e6
                        exact e6
                      exact ⟨_, A5, n5, c5, rfl, h1, h2, h3, h4.step (by simp) (fun b hb _ => Below.heap_alloc wv _ b hb) (fun _ _ h => h), ro_block (hro _ HC.mutLt) rfl⟩
                    rintro g2 wg HCg hsl
                    simp only [Act.put, zl]
                    clear hsl HCg
                    refine rel_nil ?_
                    rintro wx2 HX
                    rintro _hrm HGW
                    have hb2 : RBoxSlot (Mut M KL) (nx + (kk : Int)) s.vs (.slice (some ⟨g2, 0, none⟩) 1 1) wx2 := (GW_on (d := 131) rfl).1 (HGW 7 _ rfl (by omega))
                    clear HGW _hrm
                    obtain ⟨g3, A6, n6, c6, e6, k0_, k1_, k2_, k3_, k4_⟩ := hb2
                    obtain rfl : g2 = g3 := by injection e6 with e6; injection e6 with e6; injection e6
                    clear e6
                    rw [HKL.out] at HX k3_
                    have k5 := hid k4_.now
                    have HK0 := hid k0_
                    clear k4_ k0_ HF HRX KN
                    have HRS := hid (show rwCells outs ++ [.int .i64 (nx + (kk : Int)), .slice A6 n6 c6] = rwCells (outs ++ [⟨(nx + (kk : Int)), A6, n6, c6, s.vs⟩]) from rwCells_snoc1 _ _ _ _ _ _)
                    have KA := HX.add k3_
                    clear HX k3_
                    have FKA := KA.facts
                    simp only [factsL, cellsF, Nat.reduceAdd, zf, zl] at FKA
                    go_wp2_with (at_builtin; go_must (refine wpList_appAllH KA 2 rfl Tryz.elRw k5.out rfl (.tmp 125) (.tmp 131) rfl rfl rfl (by intro z hz; simp at hz; rcases hz with rfl | rfl <;> rfl) (by omega) (by omega) ?_); intro C' cap' w6 hc6 hm6 KB; rw [HRS.out] at KB; simp only [List.set_cons_zero, List.set_cons_succ] at KB; (have F3 := KB.facts); simp only [factsL, cellsF, Nat.reduceAdd, zf, zl] at F3)
                    have KC := (KB.store 5 rfl 3 (.slice C' (q + 1) cap')).store 5 rfl 2 (.int .i64 (nx + (kk : Int) + 1))
                    have KE := (KC.swapRo 3 rfl (vals_snoc (r := ⟨nx + (kk : Int), A6, n6, c6, s.vs⟩) (KC.ro 3 rfl) (KC.ro 0 rfl))).drop (List.Sublist.cons _ (List.sublist_cons_self _ _))
                    simp only [cellsF, List.set_cons_zero, List.set_cons_succ, List.setIfInBounds_toArray] at KE
                    have HGN := hid (show List.map Rw.row (outs ++ [⟨nx + (kk : Int), A6, n6, c6, s.vs⟩]) = goR dels (l.map Rw.row) (us.map Pr.upd) ++ insR nx ((ins.map Sl.vs).take (kk + 1)) by
                      rw [List.map_append, HG2.out, insR_snoc HXI.out, List.append_assoc]; rfl)
                    go_roundw
                    case rel => exact ⟨kk + 1, q + 1, cap', C', _, by omega, by go_num, by omega, by intro x hx; rcases List.mem_append.1 hx with hx | hx; (exact hoo x hx); (simp at hx; subst hx; exact ⟨⟨by show _ ≤ nx + (kk : Int); omega, by show nx + (kk : Int) ≤ _; omega⟩, k1_, k2_, hsok.vs⟩), HGN, by rw [show nx + ((kk + 1 : Nat) : Int) = nx + (kk : Int) + 1 by omega]; exact KE⟩
                    case measure => simp [intOf]; omega
                  · obtain rfl : kk = k := by omega
                    have hd4 : decide ((kk : Int) < (kk : Int)) = false := by simp
                    have HOR := hid (show outs.map Rw.row = outR nx (l.map Rw.row) (ins.map Sl.vs) dels (us.map Pr.upd) by rw [HG2.out, List.take_of_length_le (by rw [List.length_map, HIL.out]; exact Nat.le_refl _)]; rfl)
                    have hcq := own_caps (H.get 0 rfl)
                    have KS := H.sealRow 0 rfl
                    simp only [List.set_cons_zero] at KS
                    clear H
                    have F2 := KS.facts
                    simp only [factsL, cellsF, Nat.reduceAdd, zf, zl] at F2
                    go_wp2_with fail
                    have hRW : Ro _ (Mut M _) (RwsIn O q outs) := (KS.ro 0 rfl).and (KS.ro 1 rfl)
                    refine (rdup_any _ _ KS.mutLt nm A5 n5 c5 cs (nx + (kk : Int)) O q cap outs (KS.ro 2 rfl) hRW (by have := HN5.out; omega) (by omega) hoo).mono ?_
                    rintro e w8 ⟨rfl, b8⟩
                    have K8 := KS.call b8
                    clear KS b8 F2 hRW
                    have F8 := K8.facts
                    simp only [factsL, cellsF, Nat.reduceAdd, zf, zl] at F8
                    cases hdb : dupB cs (outs.map Rw.row)
                    · have HN := hid (show applyC nm cs nx (l.map Rw.row) (ins.map Sl.vs) dels (us.map Pr.upd) = (0, ⟨nm, cs, nx + (kk : Int), outs.map Rw.row⟩) by
                        unfold applyC; rw [HCB.out, HFZ.out, if_neg (by simp), if_neg (by simp), if_neg (by simp only [List.length_map]; rw [HRL.out, HIL.out, HDL.out]; exact HBIG.out), ← HOR.out, if_neg (by rw [hdb]; simp), List.length_map, HIL.out])
                      clear hdb
                      have KN := (((K8.store 4 rfl 0 (.string nm)).store 4 rfl 1 (.slice A5 n5 c5)).store 4 rfl 2 (.int .i64 (nx + (kk : Int)))).store 4 rfl 3 (.slice O q cap)
                      go_wp2_with fail
                      exact bodyPost_ret (v := .tuple #[.agg #[.string nm, .slice A5 n5 c5, .int .i64 (nx + (kk : Int)), .slice O q cap], .int .i64 0]) (by simp [results, Tryz.results24, go_sem, F8]) rfl ⟨_, by rw [HN.out], by rw [HN.out]; exact ⟨A5, n5, c5, O, q, cap, outs, rfl, h51, h52, hcq.1, hcq.2.1, KN.roOut 2 rfl, (KN.roOut 0 rfl).and (KN.roOut 1 rfl), hoo, rfl⟩, KN.below⟩
                    · have HN := hid (show applyC nm cs nx (l.map Rw.row) (ins.map Sl.vs) dels (us.map Pr.upd) = (9, zeroT) by
                        unfold applyC; rw [HCB.out, HFZ.out, if_neg (by simp), if_neg (by simp), if_neg (by simp only [List.length_map]; rw [HRL.out, HIL.out, HDL.out]; exact HBIG.out), ← HOR.out, if_pos hdb])
                      clear hdb
                      have KN := (((K8.store 4 rfl 0 (.string ⟨#[]⟩)).store 4 rfl 1 (.slice none 0 0)).store 4 rfl 2 (.int .i64 0)).store 4 rfl 3 (.slice none 0 0)
                      go_wp2_with fail
                      exact bodyPost_ret (v := .tuple #[.agg #[.string ⟨#[]⟩, .slice none 0 0, .int .i64 0, .slice none 0 0], .int .i64 (9)]) (by simp [results, Tryz.results24, go_sem, F8]) rfl ⟨_, by rw [HN.out], by rw [HN.out]; exact tbAt_zero, KN.below⟩
end Go.Proofs.YtedogodccblfeaaGreatDoor

namespace Go.Proofs.YtedogodccblfeaaGreatDoor
open Go.RowKit
set_option linter.unusedVariables false
set_option linter.unusedSimpArgs false

end Go.Proofs.YtedogodccblfeaaGreatDoor

namespace Go.Proofs.YtedogodccblfeaaGreatDoor
open Go.RowKit
set_option linter.unusedVariables false
set_option linter.unusedSimpArgs false

end Go.Proofs.YtedogodccblfeaaGreatDoor

namespace Go.Proofs.YtedogodccblfeaaGreatDoor
open Go.RowKit
set_option linter.unusedVariables false
set_option linter.unusedSimpArgs false

end Go.Proofs.YtedogodccblfeaaGreatDoor

namespace Go.Proofs.YtedogodccblfeaaGreatDoor
open Go.RowKit
set_option linter.unusedVariables false
set_option linter.unusedSimpArgs false

theorem wantR_prop {P : List Vl → Prop} : ∀ {us : List Upd} {id : Int} {v : List Vl}, P v → (∀ u ∈ us, P u.2.2) → P (wantR us id v)
  | [], _, _, h, _ => h
  | u :: us, id, v, h, k => by
    rw [wantR_cons]
    refine wantR_prop ?_ fun x hx => k x (List.mem_cons_of_mem _ hx)
    split
    · exact k u (List.mem_cons_self ..)
    · exact h
theorem ApOk.rfits {nm : ByteArray} {cs : List Col} {nx : Int} {rs : List Row} {ins : List (List Vl)} {dels : List Int} {us : List Upd} {T : Tb} (h : ApOk nm cs nx rs ins dels us T) : ∀ r ∈ T.rs, fitsT cs r.2 = 0 := fun r hr => by
  rw [h.tb] at hr
  have hr : r ∈ keepR dels us rs ++ insR nx ins := hr
  rcases List.mem_append.1 hr with hr | hr
  · obtain ⟨y, hy, rfl⟩ := List.mem_map.1 hr
    exact wantR_prop (P := fun v => fitsT cs v = 0) (okR_fits (tabB_ok h.tab).2.2.2.2.1 y (List.mem_filter.1 hy).1) h.fits.1
  · unfold insR at hr
    obtain ⟨p, hp, rfl⟩ := List.mem_map.1 hr
    exact h.fits.2 _ (List.fst_mem_of_mem_zipIdx hp)
end Go.Proofs.YtedogodccblfeaaGreatDoor

namespace Go.Proofs.YtedogodccblfeaaGreatDoor
open Go.RowKit
set_option linter.unusedVariables false
set_option linter.unusedSimpArgs false

theorem okR_of {cs : List Col} {nx : Int} : ∀ {rs : List Row} {lst : Int}, (rs.map (·.1)).Pairwise (· < ·) → (∀ r ∈ rs, lst < r.1 ∧ r.1 < nx ∧ fitsT cs r.2 = 0) → okR cs nx lst rs = true
  | [], _, _, _ => rfl
  | r :: rs, lst, h, k => by
    obtain ⟨h1, h2⟩ := List.pairwise_cons.1 h
    obtain ⟨k1, k2, k3⟩ := k r (List.mem_cons_self ..)
    rw [okR]
    simp only [k1, k2, k3, decide_true, Bool.true_and]
    exact okR_of h2 fun x hx => ⟨h1 x.1 (List.mem_map_of_mem (f := fun x : Row => x.1) hx), (k x (List.mem_cons_of_mem _ hx)).2⟩
theorem zipK_asc {α : Type} {nx : Int} : ∀ (l : List α) (k : Nat), (((l.zipIdx k).map fun p => (nx + (p.2 : Int), p.1)).map (·.1)).Pairwise (· < ·) ∧ ∀ r ∈ (l.zipIdx k).map fun p => (nx + (p.2 : Int), p.1), nx + (k : Int) ≤ r.1 ∧ r.1 < nx + (k : Int) + l.length
  | [], k => ⟨List.Pairwise.nil, fun _ h => nomatch h⟩
  | x :: l, k => by
    obtain ⟨h1, h2⟩ := zipK_asc (nx := nx) l (k + 1)
    rw [List.zipIdx_cons, List.map_cons, List.map_cons]
    refine ⟨List.pairwise_cons.2 ⟨fun a ha => ?_, h1⟩, fun r hr => ?_⟩
    · obtain ⟨r, hr, rfl⟩ := List.mem_map.1 ha
      have h3 := (h2 r hr).1
      show nx + (k : Int) < r.1
      omega
    · rcases List.mem_cons.1 hr with rfl | hr
      · simp only [List.length_cons]
        refine ⟨Int.le_refl _, ?_⟩
        show nx + (k : Int) < _
        omega
      · have h3 := h2 r hr
        simp only [List.length_cons]
        omega
theorem ApOk.tab2 {nm : ByteArray} {cs : List Col} {nx : Int} {rs : List Row} {ins : List (List Vl)} {dels : List Int} {us : List Upd} {T : Tb} (h : ApOk nm cs nx rs ins dels us T) : tabB T.nm T.cs T.nx T.rs = true := by
  have hl := h.len
  have hf := h.rfits
  obtain ⟨h1, h2, h3, h4, h5, h6⟩ := tabB_ok h.tab
  have hlim := h.lim
  have hnl := h.nlim
  have hd := h.dup
  have ha := h.asc2
  obtain ⟨z1, z2⟩ := zipK_asc (nx := nx) ins 0
  have hT := h.tb
  subst hT
  have hlow : ∀ r ∈ keepR dels us rs, 0 < r.1 ∧ r.1 < nx := fun r hr => by
    obtain ⟨y, hy, rfl⟩ := List.mem_map.1 hr
    exact h.low y (List.mem_filter.1 hy).1
  have hins : ∀ r ∈ insR nx ins, nx ≤ r.1 ∧ r.1 < nx + ins.length := fun r hr => by
    have h8 := z2 r hr
    omega
  unfold tabB
  simp only [Bool.and_eq_true, decide_eq_true_eq, Bool.not_eq_true']
  refine ⟨⟨⟨⟨⟨h1, ?_⟩, ?_⟩, ?_⟩, okR_of ?_ fun r hr => ?_⟩, hd⟩
  · have hl2 : ((keepR dels us rs ++ insR nx ins).length : Int) = rs.length - dels.length + ins.length := hl
    show (keepR dels us rs ++ insR nx ins).length ≤ 100
    omega
  · show 1 ≤ nx + (ins.length : Int)
    omega
  · show nx + (ins.length : Int) ≤ 2147483648
    omega
  · show ((keepR dels us rs ++ insR nx ins).map (·.1)).Pairwise (· < ·)
    rw [List.map_append, List.pairwise_append]
    refine ⟨ha, z1, fun a ha' b hb => ?_⟩
    obtain ⟨x, hx, rfl⟩ := List.mem_map.1 ha'
    obtain ⟨y, hy, rfl⟩ := List.mem_map.1 hb
    have h8 := (hlow x hx).2
    have h9 := (hins y hy).1
    omega
  · refine ⟨?_, ?_, hf r hr⟩
    · rcases List.mem_append.1 hr with hr | hr
      · exact (hlow r hr).1
      · have := (hins r hr).1; omega
    · show r.1 < nx + (ins.length : Int)
      rcases List.mem_append.1 hr with hr | hr
      · have := (hlow r hr).2; omega
      · exact (hins r hr).2
end Go.Proofs.YtedogodccblfeaaGreatDoor

namespace Go.Proofs.YtedogodccblfeaaGreatDoor
open Go.RowKit
set_option linter.unusedVariables false
set_option linter.unusedSimpArgs false

end Go.Proofs.YtedogodccblfeaaGreatDoor

namespace Go.Proofs.YtedogodccblfeaaGreatDoor
open Go.RowKit
set_option linter.unusedVariables false
set_option linter.unusedSimpArgs false

/-- the second table is the first one some changes later -/
def LaterOk (t t' : Tb) : Prop := t'.nm = t.nm ∧ t'.cs = t.cs ∧ t.nx ≤ t'.nx ∧ ∀ r ∈ t'.rs, (getR t.rs r.1).isSome = true ∨ t.nx ≤ r.1
theorem getR_isSome {rs : List Row} {id : Int} (h : id ∈ rs.map (·.1)) : (getR rs id).isSome = true := by
  unfold getR
  rw [Option.isSome_map, List.find?_isSome]
  obtain ⟨x, hx, rfl⟩ := List.mem_map.1 h
  exact ⟨x, hx, by simp⟩
theorem LaterOk.refl (t : Tb) : LaterOk t t := ⟨rfl, rfl, Int.le_refl _, fun r hr => .inl (getR_isSome (List.mem_map_of_mem (f := fun x : Row => x.1) hr))⟩
theorem LaterOk.trans {a b c : Tb} (h : LaterOk a b) (k : LaterOk b c) : LaterOk a c := by
  obtain ⟨h1, h2, h3, h4⟩ := h
  obtain ⟨k1, k2, k3, k4⟩ := k
  refine ⟨k1.trans h1, k2.trans h2, by omega, fun r hr => ?_⟩
  rcases k4 r hr with h5 | h5
  · obtain ⟨x, hx, he⟩ := List.mem_map.1 (getR_some h5)
    rcases h4 x hx with h6 | h6
    · exact .inl (by rw [← he]; exact h6)
    · exact .inr (by rw [← he]; exact h6)
  · exact .inr (by omega)
theorem ApOk.later {nm : ByteArray} {cs : List Col} {nx : Int} {rs : List Row} {ins : List (List Vl)} {dels : List Int} {us : List Upd} {T : Tb} (h : ApOk nm cs nx rs ins dels us T) : LaterOk ⟨nm, cs, nx, rs⟩ T := by
  rw [h.tb]
  refine ⟨rfl, rfl, by show nx ≤ nx + (ins.length : Int); omega, fun r hr => ?_⟩
  rcases List.mem_append.1 hr with hr | hr
  · obtain ⟨y, hy, rfl⟩ := List.mem_map.1 hr
    have h1 : getR rs y.1 |>.isSome := getR_isSome (List.mem_map_of_mem (f := fun x : Row => x.1) (List.mem_filter.1 hy).1)
    exact .inl h1
  · right
    unfold insR at hr
    obtain ⟨p, hp, rfl⟩ := List.mem_map.1 hr
    show nx ≤ nx + _
    omega
theorem ApOk.vtab {t : Tb} {ins : List (List Vl)} {dels : List Int} {us : List Upd} {T : Tb} (hv : VTab t) (h : ApOk t.nm t.cs t.nx t.rs ins dels us T) : VTab T := by
  have h2 := h.tab2
  have h3 : T.nm = t.nm ∧ T.cs = t.cs := by rw [h.tb]; exact ⟨rfl, rfl⟩
  exact ⟨by rw [h3.1, h3.2]; exact hv.sch, h2⟩
/-- what holds two numbers one behind the other is apart from a block that holds the zero table -/
theorem Ro.apartPair {w : World} {Q : Nat → Prop} {size n : Nat} {A : Option Addr} {xs : List Value} (h : Ro w Q (SlR size A n xs)) {ga : Nat} {t : TypeId} (hg : w.heap[ga]? = some (.cells zeroTc t (0, 0))) (hx : n = 0 ∨ ∃ x y : Int, xs[0]? = some (.int .i64 x) ∧ xs[1]? = some (.int .i64 y)) : Ro w (fun b => b = ga ∨ Q b) (SlR size A n xs) := by
  rcases hx with rfl | ⟨x0, y0, hx0, hy0⟩
  · exact fun w2 _ _ => ⟨(show Rd w w.heap.size size A 0 xs from h.now).1, fun h0 => absurd h0 (by omega)⟩
  · intro w2 h1 h2
    have hgl : ga < w.heap.size := Blk.lt (t := t) (cs := zeroTc) hg
    have hgs : (w2.heap.setIfInBounds ga (.cells zeroTc t (0, 0)))[ga]? = some (.cells zeroTc t (0, 0)) := by
      rw [Array.getElem?_setIfInBounds, if_pos rfl, if_pos (by omega)]
    have hne : ∀ b, b ≠ ga → (w2.heap.setIfInBounds ga (.cells zeroTc t (0, 0)))[b]? = w2.heap[b]? := fun b hb => by
      rw [Array.getElem?_setIfInBounds, if_neg (fun e => hb e.symm)]
    have h3 : Rd { w2 with heap := w2.heap.setIfInBounds ga (.cells zeroTc t (0, 0)) } _ size A n xs := h { w2 with heap := w2.heap.setIfInBounds ga (.cells zeroTc t (0, 0)) } (by simpa using h1) (fun b hb hn => by
      by_cases e : b = ga
      · subst e; exact hgs.trans hg.symm
      · exact (hne b e).trans (h2 b hb (fun hm => hm.elim e hn)))
    refine ⟨h3.1, fun hn => ?_⟩
    obtain ⟨b, o, e, hb, hc⟩ := h3.2 hn
    have hbg : b ≠ ga := by
      rintro rfl
      have h4 := hc 0 _ hx0
      have h5 := hc 1 _ hy0
      rw [cell_of_row _ _ _ _ _ _ hgs] at h4 h5
      rcases o with _ | _ | _ | _ | o <;> simp [zeroTc] at h4 h5
    refine ⟨b, o, e, by simpa using hb, fun j u hu => ?_⟩
    rw [← hc j u hu]
    exact (World.cell?_of_block (w := w2) (w' := { w2 with heap := w2.heap.setIfInBounds ga (.cells zeroTc t (0, 0)) }) (a := ⟨b, o + j, none⟩) (hne b hbg)).symm
theorem vls_apart {w : World} {Q : Nat → Prop} {A : Option Addr} {n : Nat} {vs : List Vl} (h : Ro w Q (VlsIn A n vs)) {ga : Nat} {t : TypeId} (hg : w.heap[ga]? = some (.cells zeroTc t (0, 0))) : Ro w (fun b => b = ga ∨ Q b) (VlsIn A n vs) := by
  have hl := VlsIn.len h.now
  exact (show Ro w Q (SlR 3 A n (vlCells vs)) from h).apartPair hg (by
    cases vs with
    | nil => left; simpa using hl.symm
    | cons v vs => exact .inr ⟨v.k, v.i, rfl, rfl⟩)
theorem rws_apart {w : World} {Q : Nat → Prop} {B : Option Addr} {m : Nat} {l : List Rw} (h : Ro w Q (RwsIn B m l)) {ga : Nat} {t : TypeId} (hg : w.heap[ga]? = some (.cells zeroTc t (0, 0))) (hx : ∀ r ∈ l, r.id ≠ 0) : Ro w (fun b => b = ga ∨ Q b) (RwsIn B m l) := by
  have hl := h.now.len
  have h1 : Ro w Q (SlR 2 B m (rwCells l)) := h.imp fun w2 h2 => h2.1
  have k1 := h1.apartBlk hg (by
    cases l with
    | nil => left; simpa using hl.symm
    | cons r l => exact .inr ⟨.int .i64 r.id, rfl, int_apart (hx r (by simp))⟩)
  refine k1.and fun w2 g1 g2 r hr => ?_
  have h2 : Ro w Q (VlsIn r.A r.n r.vs) := h.imp fun w2 h2 => h2.2 r hr
  exact vls_apart h2 hg w2 g1 g2
theorem rapply_slot (M : Nat → Prop) (w : World) (hM : ∀ b, M b → b < w.heap.size) (v c : Value) (t : Tb) (ins : List (List Vl)) (dels : List Int) (us : List Upd) (hT : TbAt w M v t) (hC : ChgSlot M ins dels us c w) (hs : t.nm.size ≤ maxLen) (hcs : ∀ x ∈ t.cs, x.name.size ≤ maxLen)
    (hr : t.rs.length ≤ 1000000) (hrl : ∀ r ∈ t.rs, r.2.length ≤ 1000000) (hi : ins.length ≤ 1000000) (hd : dels.length ≤ 1000000) (hu : us.length ≤ 1000000) :
    Calls Tryz.prog 24 #[v, c] w fun e w' => ∃ u, e = .returned u ∧ ApSlot M (applyC t.nm t.cs t.nx t.rs ins dels us) u w' ∧ Below w.heap.size w w' := by
  obtain ⟨A, n, cc, B, m, d, l, rfl, h1, h2, h3, h4, h5, h6, h7, h8⟩ := hT
  obtain ⟨x, y, z, rfl, ⟨I, ni, ci, pi, rfl, i1, i2, rfl, i4, i5⟩, ⟨D, nd, cd, rfl, d1, d2, d3⟩, ⟨U, nu, cu, pu, rfl, u1, u2, rfl, u4, u5⟩⟩ := hC
  have hml := h6.now.len
  have hil := i5.now.len
  have hul := u5.now.len
  have hdl : dels.length = nd := (show Rd w w.heap.size 1 D nd (iCells dels) from d3.now).1 |> fun h => by simpa [iCells] using h
  have hrn : ∀ r ∈ l, r.n ≤ 4398046511104 := fun r hr' => by
    have h9 := hrl r.row (by rw [← h8]; exact List.mem_map_of_mem hr')
    have h10 : r.vs.length = r.n := VlsIn.len (h6.now.2 r hr')
    have h11 : r.row.2 = r.vs := rfl
    rw [h11] at h9
    omega
  rw [← h8] at hr
  simp only [List.length_map] at hr hi hu
  have := rapply_any M w hM t.nm A n cc t.cs t.nx B m d l I ni ci pi D nd cd dels U nu cu pu h5 h6 i5 d3 u5 (by omega) (by omega) h7 hrn (fun p hp => Nat.le_trans (u4 p hp).oc (u4 p hp).oc2) hs hcs (by omega) (by omega) (by omega) i4 u4
  rw [h8] at this
  refine this.mono ?_
  rintro e w' ⟨v, rfl, hv, b⟩
  exact ⟨_, rfl, ⟨v, rfl, hv⟩, b⟩
def ChgSl (M : Nat → Prop) (u : Value) (w : World) : Prop := ∃ (ins : List (List Vl)) (dels : List Int) (us : List Upd), ChgSlot M ins dels us u w ∧ ins.length ≤ 2000 ∧ dels.length ≤ 2000 ∧ us.length ≤ 2000
theorem chgSl_mono {M : Nat → Prop} (u : Value) (w w' : World) (hr : RM M w w') (h : ChgSl M u w) : ChgSl M u w' := by
  obtain ⟨i, d, s, h1, h2⟩ := h
  exact ⟨i, d, s, chgSlot_mono _ _ _ hr h1, h2⟩
/-- what Apply answers of a table and some change -/
def ApE (M : Nat → Prop) (t : Tb) (u : Value) (w : World) : Prop := ∃ (ins : List (List Vl)) (dels : List Int) (us : List Upd), ApSlot M (applyC t.nm t.cs t.nx t.rs ins dels us) u w
theorem apE_mono {M : Nat → Prop} {t : Tb} (u : Value) (w w' : World) (hr : RM M w w') (h : ApE M t u w) : ApE M t u w' := by
  obtain ⟨i, d, s, h1⟩ := h
  exact ⟨i, d, s, apSlot_mono _ _ _ hr h1⟩
end Go.Proofs.YtedogodccblfeaaGreatDoor

namespace Go.Proofs.YtedogodccblfeaaGreatDoor
open Go.RowKit
set_option linter.unusedVariables false
set_option linter.unusedSimpArgs false
set_option linter.unusedSectionVars false

theorem asc_ext : ∀ {l l' : List Row}, (l.map (·.1)).Pairwise (· < ·) → (l'.map (·.1)).Pairwise (· < ·) → (∀ x, x ∈ l ↔ x ∈ l') → l = l'
  | [], [], _, _, _ => rfl
  | [], y :: l', _, _, h => nomatch (h y).2 (List.mem_cons_self ..)
  | x :: l, [], _, _, h => nomatch (h x).1 (List.mem_cons_self ..)
  | x :: l, y :: l', h1, h2, h => by
    rw [List.map_cons, List.pairwise_cons] at h1 h2
    have hxy : x = y := by
      rcases List.mem_cons.1 ((h x).1 (List.mem_cons_self ..)) with e | e
      · exact e
      · rcases List.mem_cons.1 ((h y).2 (List.mem_cons_self ..)) with e2 | e2
        · exact e2.symm
        · have a1 := h2.1 x.1 (List.mem_map_of_mem e)
          have a2 := h1.1 y.1 (List.mem_map_of_mem e2)
          omega
    subst hxy
    rw [asc_ext h1.2 h2.2 fun z => ?_]
    constructor
    · intro hz
      rcases List.mem_cons.1 ((h z).1 (List.mem_cons_of_mem _ hz)) with e | e
      · subst e
        have := h1.1 z.1 (List.mem_map_of_mem hz)
        omega
      · exact e
    · intro hz
      rcases List.mem_cons.1 ((h z).2 (List.mem_cons_of_mem _ hz)) with e | e
      · subst e
        have := h2.1 z.1 (List.mem_map_of_mem hz)
        omega
      · exact e
theorem map_filter_asc {l : List Row} {p : Row → Bool} (h : (l.map (·.1)).Pairwise (· < ·)) : ((l.filter p).map (·.1)).Pairwise (· < ·) := h.sublist (List.filter_sublist.map _)
theorem turnR_asc {rs l : List Row} (h : (l.map (·.1)).Pairwise (· < ·)) : ((turnR rs l).map (·.1)).Pairwise (· < ·) := by
  induction l with
  | nil => exact List.Pairwise.nil
  | cons x l ih =>
    rw [List.map_cons, List.pairwise_cons] at h
    unfold turnR
    rw [List.filterMap_cons]
    have ih2 := ih h.2
    split
    · exact ih2
    · rename_i u hu
      rw [List.map_cons, List.pairwise_cons]
      refine ⟨fun id hid => ?_, ih2⟩
      obtain ⟨v, hv, rfl⟩ := List.mem_map.1 hid
      obtain ⟨r, hr, h2⟩ := List.mem_filterMap.1 hv
      have e1 : u.1 = x.1 := by
        split at hu
        · split at hu
          · cases hu
          · injection hu with hu; rw [← hu]
        · cases hu
      have e2 : v.1 = r.1 := by
        split at h2
        · split at h2
          · cases h2
          · injection h2 with h2; rw [← h2]
        · cases h2
      rw [e1, e2]
      exact h.1 r.1 (List.mem_map_of_mem hr)
theorem turnR_cons (rs : List Row) (y : Row) (l : List Row) : turnR rs (y :: l) = (match getR rs y.1 with | some o => if o = y.2 then none else some (y.1, o, y.2) | none => none).toList ++ turnR rs l := by
  unfold turnR
  rw [List.filterMap_cons]
  cases getR rs y.1 with
  | none => rfl
  | some o => by_cases ho : o = y.2 <;> simp [ho]
theorem turnR_ids {rs l : List Row} {u : Upd} (h : u ∈ turnR rs l) : ∃ r ∈ l, u.1 = r.1 := by
  obtain ⟨r, hr, h2⟩ := List.mem_filterMap.1 h
  refine ⟨r, hr, ?_⟩
  split at h2
  · split at h2
    · cases h2
    · injection h2 with h2; rw [← h2]
  · cases h2
def betD (a b : Tb) : Dl := ⟨a.nm, offR a.rs b.rs, offR b.rs a.rs, turnR a.rs b.rs⟩
theorem offR_none {rs l : List Row} {r : Row} (h : r ∈ offR rs l) : getR rs r.1 = none := by
  have := (List.mem_filter.1 h).2
  simpa using this
section
variable {a b : Tb} (ha : tabB a.nm a.cs a.nx a.rs = true) (hb : tabB b.nm b.cs b.nx b.rs = true) (hl : LaterOk a b)
include ha hb hl
theorem betC_later : betweenC a b = (true, betD a b) := by
  obtain ⟨h1, h2, h3, h4⟩ := hl
  have : betB a b = true := by
    unfold betB
    rw [ha, hb, decide_eq_true (show a.nm = b.nm ∧ a.cs = b.cs from ⟨h1.symm, h2.symm⟩), decide_eq_true h3]
    simp only [Bool.and_self, Bool.true_and, List.all_eq_true, Bool.or_eq_true, decide_eq_true_eq]
    exact h4
  unfold betweenC
  rw [this]; rfl
theorem betC_self : betweenC a a = (true, betD a a) ∧ (betD a a).ins = [] ∧ (betD a a).del = [] ∧ (betD a a).upd = [] := by
  refine ⟨betC_later ha ha (LaterOk.refl a), ?_, ?_, ?_⟩
  · exact List.filter_eq_nil_iff.2 fun r hr => by rw [getR_of_mem (tabB_asc ha) hr]; simp
  · exact List.filter_eq_nil_iff.2 fun r hr => by rw [getR_of_mem (tabB_asc ha) hr]; simp
  · exact List.filterMap_eq_nil_iff.2 fun r hr => by rw [getR_of_mem (tabB_asc ha) hr]; simp
end
end Go.Proofs.YtedogodccblfeaaGreatDoor

namespace Go.Proofs.YtedogodccblfeaaGreatDoor
open Go.RowKit
set_option linter.unusedVariables false
set_option linter.unusedSimpArgs false

def emptyD (d : Dl) : Bool := decide (d.ins.length = 0 ∧ d.del.length = 0 ∧ d.upd.length = 0)
def betsOk (a b : List Tb) (k : Nat) : Bool := ((a.zip b).take k).all fun p => (betweenC p.1 p.2).1
def betsD (a b : List Tb) (k : Nat) : List Dl := (((a.zip b).take k).map fun p => (betweenC p.1 p.2).2).filter fun d => !emptyD d
/-- what Deltas answers -/
def delsC (a b : List Tb) : Bool × List Dl := if storB a && storB b && decide (a.length = b.length) && betsOk a b a.length then (true, betsD a b a.length) else (false, [])
theorem delsC_a {a b : List Tb} (h : storB a = false) : delsC a b = (false, []) := by unfold delsC; rw [h]; rfl
theorem delsC_b {a b : List Tb} (h : storB b = false) : delsC a b = (false, []) := by unfold delsC; rw [h]; simp
theorem delsC_n {a b : List Tb} (h : a.length ≠ b.length) : delsC a b = (false, []) := by unfold delsC; rw [decide_eq_false h]; simp
theorem zip_at {a b : List Tb} {k : Nat} {x y : Tb} (hx : a[k]? = some x) (hy : b[k]? = some y) : (a.zip b)[k]? = some (x, y) := List.getElem?_zip_eq_some.2 ⟨hx, hy⟩
theorem delsC_bad {a b : List Tb} {k : Nat} {x y : Tb} (hx : a[k]? = some x) (hy : b[k]? = some y) (h : (betweenC x y).1 = false) : delsC a b = (false, []) := by
  have hk := (List.getElem?_eq_some_iff.1 hx).1
  have : betsOk a b a.length = false := by
    unfold betsOk
    rw [List.all_eq_false]
    refine ⟨(x, y), ?_, by rw [h]; simp⟩
    refine List.mem_of_getElem? (i := k) ?_
    rw [List.getElem?_take, if_pos hk]
    exact zip_at hx hy
  unfold delsC
  rw [this]
  simp
theorem betsOk_next {a b : List Tb} {k : Nat} {x y : Tb} (hx : a[k]? = some x) (hy : b[k]? = some y) (h : betsOk a b k = true) (hb : (betweenC x y).1 = true) : betsOk a b (k + 1) = true := by
  unfold betsOk at h ⊢
  rw [List.take_add_one, zip_at hx hy, List.all_append, h]
  simp [hb]
theorem betsD_next {a b : List Tb} {k : Nat} {x y : Tb} (hx : a[k]? = some x) (hy : b[k]? = some y) : betsD a b (k + 1) = betsD a b k ++ (if emptyD (betweenC x y).2 then [] else [(betweenC x y).2]) := by
  unfold betsD
  rw [List.take_add_one, zip_at hx hy, List.map_append, List.filter_append]
  congr 1
  cases h : emptyD (betweenC x y).2 <;> simp [h]
theorem delsC_end {a b : List Tb} {n : Nat} (hn : a.length = n) (ha : storB a = true) (hb : storB b = true) (hl : a.length = b.length) (h : betsOk a b n = true) : delsC a b = (true, betsD a b n) := by
  subst hn
  unfold delsC
  rw [ha, hb, decide_eq_true hl, h]
  rfl
theorem delsC_len (a b : List Tb) : (delsC a b).2.length ≤ a.length := by
  unfold delsC
  split
  · unfold betsD
    refine Nat.le_trans (List.length_filter_le _ _) ?_
    rw [List.length_map, List.length_take]
    omega
  · exact Nat.zero_le _
theorem storB_tab {l : List Tb} (h : storB l = true) : ∀ t ∈ l, tabB t.nm t.cs t.nx t.rs = true := fun t ht => by
  obtain ⟨j, hj⟩ := List.getElem?_of_mem ht
  cases hb : tabB t.nm t.cs t.nx t.rs with
  | true => rfl
  | false =>
    have := storB_bad (List.getElem?_eq_some_iff.1 hj).1 (stoOk_tab hj hb)
    rw [h] at this; cases this
theorem mem_turn2 {rs l : List Row} {u : Upd} (h : u ∈ turnR rs l) : ∃ r ∈ l, ∃ o, getR rs r.1 = some o ∧ u = (r.1, o, r.2) := by
  obtain ⟨r, hr, h2⟩ := List.mem_filterMap.1 h
  split at h2
  · rename_i o ho
    split at h2
    · cases h2
    · injection h2 with h2
      exact ⟨r, hr, o, ho, h2.symm⟩
  · cases h2
/-- the difference of two valid tables is small -/
theorem betC_small {a b : Tb} (ha : tabB a.nm a.cs a.nx a.rs = true) (hb : tabB b.nm b.cs b.nx b.rs = true) :
    (betweenC a b).2.ins.length ≤ 100 ∧ (betweenC a b).2.del.length ≤ 100 ∧ (betweenC a b).2.upd.length ≤ 100 ∧ (∀ r ∈ (betweenC a b).2.ins, r.2.length ≤ 6) ∧ (∀ r ∈ (betweenC a b).2.del, r.2.length ≤ 6) ∧ ∀ u ∈ (betweenC a b).2.upd, u.2.1.length ≤ 6 ∧ u.2.2.length ≤ 6 := by
  have h1 := (tabB_rows ha).1
  have h2 := (tabB_rows hb).1
  have h3 := tabB_cols ha
  have h4 := tabB_cols hb
  unfold betweenC
  split
  · refine ⟨?_, ?_, ?_, fun r hr => ?_, fun r hr => ?_, fun u hu => ?_⟩
    · have : (offR a.rs b.rs).length ≤ b.rs.length := List.length_filter_le _ _
      show (offR a.rs b.rs).length ≤ _
      omega
    · have : (offR b.rs a.rs).length ≤ a.rs.length := List.length_filter_le _ _
      show (offR b.rs a.rs).length ≤ _
      omega
    · have : (turnR a.rs b.rs).length ≤ b.rs.length := List.length_filterMap_le _ _
      show (turnR a.rs b.rs).length ≤ _
      omega
    · have := tabB_row hb (List.mem_filter.1 (show r ∈ offR a.rs b.rs from hr)).1; omega
    · have := tabB_row ha (List.mem_filter.1 (show r ∈ offR b.rs a.rs from hr)).1; omega
    · obtain ⟨r, hr, o, ho, rfl⟩ := mem_turn2 hu
      have k1 := tabB_row hb hr
      have k2 := tabB_row ha (getR_out ho)
      dsimp only at k1 k2 ⊢
      omega
  · refine ⟨?_, ?_, ?_, fun r hr => (nomatch hr), fun r hr => (nomatch hr), fun u hu => (nomatch hu)⟩ <;> exact Nat.zero_le _
def ElVals (l : List El) (w : World) : Prop := ∀ x ∈ l, ElIn x w
theorem elVals_snoc {M : Nat → Prop} {w : World} {rs : List El} {r : El} (h : Ro w M (ElVals rs)) (k : Ro w M (ElIn r)) : Ro w M (ElVals (rs ++ [r])) := fun w2 h1 h2 x hx => by
  rcases List.mem_append.1 hx with hx | hx
  · exact h w2 h1 h2 x hx
  · simp at hx; subst hx; exact k w2 h1 h2
theorem elVals_nil (w : World) (M : Nat → Prop) : Ro w M (ElVals []) := fun _ _ _ r hr => nomatch hr
theorem elCells_snoc (l : List El) (x : El) : elCells (l ++ [x]) = elCells l ++ x.cells := by simp [elCells]
theorem emptyD_el {x : El} {w : World} (h : ElIn x w) : emptyD x.dl = decide (x.ni = 0 ∧ x.nd = 0 ∧ x.nu = 0) := by
  have l1 : x.li.length = x.ni := h.1.len
  have l2 : x.ld.length = x.nd := h.2.1.len
  have l3 : x.lu.length = x.nu := h.2.2.len
  unfold emptyD
  simp only [El.dl, List.length_map, l1, l2, l3]
/-- no difference between a store and itself -/
theorem delsC_self {S : List Tb} (hs : storB S = true) : delsC S S = (true, []) := by
  have hb := storB_tab hs
  have key : ∀ p ∈ S.zip S, p.1 = p.2 ∧ p.1 ∈ S := fun p hp => by
    obtain ⟨j, hj⟩ := List.getElem?_of_mem hp
    obtain ⟨h1, h2⟩ := List.getElem?_zip_eq_some.1 hj
    rw [h1] at h2
    exact ⟨Option.some.inj h2, List.mem_of_getElem? h1⟩
  have ok : betsOk S S S.length = true := by
    unfold betsOk
    rw [List.all_eq_true]
    intro p hp
    obtain ⟨h1, h2⟩ := key p (List.mem_of_mem_take hp)
    rw [← h1, (betC_self (hb _ h2) (hb _ h2) (LaterOk.refl _)).1]
  rw [delsC_end rfl hs hs rfl ok]
  congr 1
  unfold betsD
  rw [List.filter_eq_nil_iff]
  intro d hd
  obtain ⟨p, hp, rfl⟩ := List.mem_map.1 hd
  obtain ⟨h1, h2⟩ := key p (List.mem_of_mem_take hp)
  rw [← h1]
  obtain ⟨e1, e2, e3, e4⟩ := betC_self (hb _ h2) (hb _ h2) (LaterOk.refl _)
  rw [e1]
  simp [emptyD, e2, e3, e4]
end Go.Proofs.YtedogodccblfeaaGreatDoor

namespace Go.Proofs.YtedogodccblfeaaGreatDoor
open Go.RowKit
set_option linter.unusedVariables false
set_option linter.unusedSimpArgs false

set_option maxHeartbeats 1000000 in
theorem rempty9_any (w : World) (s : ByteArray) (I : Option Addr) (ni ci : Nat) (D : Option Addr) (nd cd : Nat) (U : Option Addr) (nu cu : Nat) (b1 : ni ≤ 2000) (b2 : nd ≤ 2000) (b3 : nu ≤ 2000) : Calls Tryz.prog 83 #[.agg #[.string s, .slice I ni ci, .slice D nd cd, .slice U nu cu]] w fun e' w' => e' = .returned (.bool (decide (ni = 0 ∧ nd = 0 ∧ nu = 0))) ∧ Below w.heap.size w w' := by
  have K0 := (Hold.begin_ w).alloc_cst #[.string s, .slice I ni ci, .slice D nd cd, .slice U nu cu] 44
  have F0 := K0.facts
  simp only [factsL, cellsF, Nat.reduceAdd, zf, zl] at F0
  cases hE : decide (ni = 0 ∧ nd = 0 ∧ nu = 0) with
  | true =>
    have h := of_decide_eq_true hE
    have e1 : ((ni : Int) + (nd : Int) + (nu : Int) == 0) = true := by simp; omega
    clear hE h
    go_enter Tryz.func83, Tryz.ntmps83
    go_wp2_with fail
    go_ret
    exact ⟨by first | rfl | simp, K0.below⟩
  | false =>
    have h := of_decide_eq_false hE
    have e1 : ((ni : Int) + (nd : Int) + (nu : Int) == 0) = false := by rw [beq_eq_false_iff_ne]; omega
    clear hE h
    go_enter Tryz.func83, Tryz.ntmps83
    go_wp2_with fail
    go_ret
    exact ⟨by first | rfl | simp, K0.below⟩
end Go.Proofs.YtedogodccblfeaaGreatDoor

/- KeysApplies answers true for every tape: a change that succeeds does what it says. Condition: the row's own, the laid table of words; the tied card. -/
import Derived.Test.YtmopojjhlbjhnaaDoorKApplSaidMC
import Derived.Test.YtmopojjhlbjhnaaDoorKApplSaidMD
import Derived.Test.YtmopojjhlbjhnaaDoorCards
import Derived.Test.YtmopojjhlbjhnaaDoorTie
import Derived.Test.YtmopojjhlbjhnaaDoorKApplSaidMA
namespace Go.Proofs.YtmopojjhlbjhnaaDoor
open Go.RowKit
set_option linter.unusedVariables false
set_option linter.unusedSimpArgs false

theorem wantR_snoc {us : List Upd} {k : Nat} {u : Upd} (h : us[k]? = some u) (id : Int) (v : List Vl) : wantR (us.take (k + 1)) id v = if u.1 = id then u.2.2 else wantR (us.take k) id v := by
  unfold wantR
  rw [List.take_add_one, h, Option.toList_some, List.foldl_append]; rfl
theorem cont_snoc {xs : List Int} {k : Nat} {y : Int} (hx : xs[k]? = some y) (x : Int) : (xs.take (k + 1)).contains x = ((xs.take k).contains x || x == y) := by
  rw [List.take_add_one, hx]
  by_cases h : x = y <;> simp [List.contains_eq_mem, List.mem_append, Bool.decide_or, h]
theorem wantR_prop {P : List Vl → Prop} : ∀ {us : List Upd} {id : Int} {v : List Vl}, P v → (∀ u ∈ us, P u.2.2) → P (wantR us id v)
  | [], _, _, h, _ => h
  | u :: us, id, v, h, k => by
    rw [wantR_cons]
    refine wantR_prop ?_ fun x hx => k x (List.mem_cons_of_mem _ hx)
    split
    · exact k u (List.mem_cons_self ..)
    · exact h
theorem ApOk.rfits {nm : ByteArray} {cs : List Col} {nx : Int} {rs : List Row} {ins : List (List Vl)} {dels : List Int} {us : List Upd} {T : Tb} (h : ApOk nm cs nx rs ins dels us T) : ∀ r ∈ T.rs, fitsT cs r.2 = 0 := fun r hr => by
  rw [h.tb] at hr
  have hr : r ∈ keepR dels us rs ++ insR nx ins := hr
  rcases List.mem_append.1 hr with hr | hr
  · obtain ⟨y, hy, rfl⟩ := List.mem_map.1 hr
    exact wantR_prop (P := fun v => fitsT cs v = 0) (okR_fits (tabB_ok h.tab).2.2.2.2.1 y (List.mem_filter.1 hy).1) h.fits.1
  · unfold insR at hr
    obtain ⟨p, hp, rfl⟩ := List.mem_map.1 hr
    exact h.fits.2 _ (List.fst_mem_of_mem_zipIdx hp)
set_option maxHeartbeats 8000000 in
set_option maxRecDepth 100000 in
theorem kapplies_walk (A : Option Addr) (n c : Nat) (zs : List Int) (w : World) (hr : Rd w w.heap.size 1 A n (zs.map (Value.int .i64))) (hz : Ints zs) (hn : n ≤ c) (hc : c ≤ 9223372036854775807) (hw : Wds w) :
    Calls Tryd.prog 8 #[.slice A n c] w fun e w' => e = .returned (.bool true) ∧ Below w.heap.size w w' := by
  have hwl := hw.lt
  have K0 := Hold.begin_ w
  go_enter Tryd.func8, Tryd.ntmps8
  go_wp2_with fail
  refine (new_any A n c zs _ hr hz hn hc).mono ?_
  rintro e w1 ⟨T, rfl, hT, t1, b1⟩
  have K1 := Hold.newTape K0 b1 t1 hT (by simp [Mut, None_, Hp.foot])
  have wd0 : Wds w1 := hw.below b1 hwl
  have hT1 : 1 < T := by omega
  have K2 := K1.add (wd0.ro2 (show ¬ Mut None_ [.tp T] 1 by simp [Mut, None_, Hp.foot]; omega))
  clear K1 K0 wd0 t1 b1 hw hr hwl hT
  go_wp2_with fail
  refine (tname_any (Mut None_ _) T _ K2.mutLt (K2.tp_ 1 rfl) (K2.get 1 rfl).2).mono ?_
  rintro e w2 ⟨s, rfl, hs, t2, g2⟩
  have K3 := Hold.callT K2 1 rfl g2 t2
  clear K2 t2 g2
  have HSO := hid (schOk_name hs)
  clear hs
  go_wp2_with fail
  refine (schema_any (Mut None_ _) _ K3.mutLt s).mono ?_
  rintro e w3 ⟨A2, n2, c2, rfl, hc1, hc2, r3, b3⟩
  have K4 := (K3.call b3).add r3
  clear K3 b3 r3
  obtain ⟨nm, hnm⟩ : ∃ nm, nm = (schemaOf s).1 := ⟨_, rfl⟩
  obtain ⟨cs, hcs⟩ : ∃ cs, cs = (schemaOf s).2 := ⟨_, rfl⟩
  rw [← hnm, ← hcs] at HSO
  rw [← hcs] at K4
  rw [← hnm]
  clear hnm hcs
  have hcl : cs.length = n2 := cols_n (K4.ro 0 rfl).now
  have hl := HSO.out.len
  have hn21 : 1 ≤ n2 := by omega
  have hn24 : n2 ≤ 4 := by omega
  have HCL := hid hcl
  clear hcl hl
  go_wp2_with fail
  refine (tof_any (Mut None_ _) T _ K4.mutLt (K4.tp_ 2 rfl) (K4.get 2 rfl).2 nm A2 n2 c2 cs 7 ((K4.ro 0 rfl).less (mut_tp (i := 2) rfl)) ((K4.ro 1 rfl).less (mut_tp (i := 2) rfl)) hT1 (by omega) hc1 (by omega) HSO.out.col HSO.out.val HSO.out.key (by omega)).mono ?_
  rintro e w4 ⟨v, nx, rs, rfl, ⟨A3, n3, c3, B, m, d, l, rfl, h31, h32, hmd, hd2, r4c, r4, hlk, hlr⟩, htv, hrl, t4, g4'⟩
  dsimp only at hlr r4c ⊢
  have K5 := ((Hold.callT K4 2 rfl g4' t4).add r4).add (r4c.less (mut_none rfl))
  clear K4 t4 g4' hc1 hc2
  have hm7 : m ≤ 7 := by have h1 := r4.now.len; have h2 := congrArg List.length hlr; rw [List.length_map] at h2; omega
  have hc3 : cs.length = n3 := cols_n r4c.now
  have hl := HSO.out.len
  have hn31 : 1 ≤ n3 := by omega
  have hn34 : n3 ≤ 4 := by omega
  have HC3 := hid hc3
  obtain ⟨_, _, hnx1, hnx2, hokr, _⟩ := tabB_ok htv
  have hfit : ∀ r ∈ l, r.vs.length = n3 := fun r hr => by
    rw [← hc3]
    exact fitsT_len (okR_fits hokr r.row (by rw [← hlr]; exact List.mem_map_of_mem hr))
  have HFITL := hid hfit
  have HLK := hid hlk
  have HLR := hid hlr
  have HTV := hid htv
  have HLM := hid (r4.now.len)
  clear r4 r4c hc3 hl htv hlr hlk hfit hokr hn21 hn24 HCL
  have K6 := K5.alloc_cst #[.string nm, .slice A3 n3 c3, .int .i64 nx, .slice B m d] 43
  clear K5
  obtain ⟨g4, hg4⟩ : ∃ g4, g4 = w4.heap.size := ⟨_, rfl⟩
  rw [← hg4] at K6
  have FA := K6.facts
  simp only [World.size_alloc, World.size_drew, factsL, cellsF, Nat.reduceAdd, List.toList_toArray, List.set_cons_zero, List.set_cons_succ, List.setIfInBounds_toArray, and_true, true_and] at FA
  go_wp2_with fail
  rw [← hg4]
  have HG4 := hid hg4
  clear hg4
  refine (chgof_any (Mut None_ _) T _ K6.mutLt (K6.tp_ 5 rfl) (K6.get 5 rfl).2 nm A3 n3 c3 cs nx B m d l ((K6.ro 1 rfl).less (mut_tp (i := 5) rfl)) ((K6.ro 2 rfl).less (mut_tp (i := 5) rfl)) ((K6.ro 4 rfl).less (mut_tp (i := 5) rfl)) hT1 hn31 (by omega) (by omega) HSO.out.col HFITL.out HLK.out).mono ?_
  rintro e w5 ⟨v, ins, dels, us, rfl, ⟨a_, b_, c_, rfl, ⟨I, ni, ci, pi, rfl, i1, i2, i3, i4, i5⟩, ⟨D, nd, cd, rfl, d1, d2, d3⟩, ⟨U, nu, cu, pu, rfl, u1, u2, u3, u4, u5⟩⟩, hil, hdl, hul, t5, g5'⟩
  have K7 := ((((Hold.callT K6 5 rfl g5' t5).add u5).add (d3.less (mut_none rfl))).add ((i5.less (mut_none rfl)).less (mut_none rfl))).alloc_cst #[.slice I ni ci, .slice D nd cd, .slice U nu cu] 65
  clear K6 FA t5 g5'
  obtain ⟨g5, hg5⟩ : ∃ g5, g5 = w5.heap.size := ⟨_, rfl⟩
  rw [← hg5] at K7
  have HI3 := hid i3
  have HI4 := hid i4
  have HU3 := hid u3
  have HU4 := hid u4
  have HIL := hid (i5.now.len)
  have HDL := hid (d3.now.len)
  have HUL := hid (u5.now.len)
  have HILL := hid hil
  have HDLL := hid hdl
  have HULL := hid hul
  have HRL := hid hrl
  clear i3 i4 u3 u4 i5 d3 u5 hil hdl hul hrl
  have FA := K7.facts
  simp only [World.size_alloc, World.size_drew, factsL, cellsF, Nat.reduceAdd, List.toList_toArray, List.set_cons_zero, List.set_cons_succ, List.setIfInBounds_toArray, and_true, true_and] at FA
  go_wp2_with fail
  rw [← hg5]
  have HG5 := hid hg5
  clear hg5
  have hT : TbAt _ _ (.agg #[.string nm, .slice A3 n3 c3, .int .i64 nx, .slice B m d]) ⟨nm, cs, nx, rs⟩ := ⟨A3, n3, c3, B, m, d, l, rfl, h31, h32, hmd, hd2, K7.ro 5 rfl, K7.ro 6 rfl, HLK.out, HLR.out⟩
  have hC : ChgSlot _ ins dels us (.agg #[.slice I ni ci, .slice D nd cd, .slice U nu cu]) _ := ⟨_, _, _, rfl, ⟨I, ni, ci, pi, rfl, i1, i2, HI3.out, HI4.out, K7.ro 1 rfl⟩, ⟨D, nd, cd, rfl, d1, d2, K7.ro 2 rfl⟩, ⟨U, nu, cu, pu, rfl, u1, u2, HU3.out, HU4.out, K7.ro 3 rfl⟩⟩
  have hA := kapply_slot _ _ K7.mutLt _ _ ⟨nm, cs, nx, rs⟩ ins dels us hT hC HSO.out.nm HSO.out.cs (by have := HRL.out; show rs.length ≤ _; omega) (by have := HILL.out; omega) (by have := HDLL.out; omega) (by have := HULL.out; omega)
  clear hT hC
  obtain ⟨E1, hE1⟩ : ∃ E1 : Int × Tb, E1 = applyC nm cs nx rs ins dels us := ⟨_, rfl⟩
  rw [← hE1] at hA
  obtain ⟨e1, nm1, cs1, nx1, rs1⟩ := E1
  have HE1 := hid hE1
  clear hE1
  refine hA.mono ?_
  clear hA
  rintro e w6 ⟨u, rfl, ⟨v, rfl, A7, n7, c7, B7, m7, d7, l7, rfl, -, -, -, -, -, r7, -, r77⟩, b6⟩
  dsimp only at r77 ⊢
  have HL7 := hid r7.now.len
  have HR77 := hid r77
  have K8 := ((K7.call b6).add r7).alloc_cst #[.string nm1, .slice A7 n7 c7, .int .i64 nx1, .slice B7 m7 d7] 43
  clear K7 b6 r7 r77 FA
  obtain ⟨g6, hg6⟩ : ∃ g6, g6 = w6.heap.size := ⟨_, rfl⟩
  rw [← hg6] at K8
  by_cases he : e1 = 0
  · subst he
    have hap := apOk_of HE1.out.symm
    obtain rfl : nm = nm1 := (congrArg Tb.nm hap.tb).symm
    obtain rfl : nx + (ni : Int) = nx1 := by have h := congrArg Tb.nx hap.tb; have h2 := HIL.out; have h3 := congrArg List.length HI3.out; rw [List.length_map] at h3; dsimp only at h; omega
    have HAP := hid hap
    have HM7 := hid (show (m7 : Int) = m - nd + ni by
      have h := hap.len; have h1 := HL7.out; have h2 := congrArg List.length HR77.out; have h3 := congrArg List.length HLR.out; have h4 := HLM.out; have h5 := HIL.out; have h6 := congrArg List.length HI3.out; have h7 := HDL.out
      rw [List.length_map] at h2 h3 h6
      dsimp only at h
      omega)
    have hm7b : m7 ≤ 100 := by have h := HM7.out; have h2 := hap.lim; have h3 := congrArg List.length HLR.out; have h4 := HLM.out; have h5 := HIL.out; have h6 := congrArg List.length HI3.out; have h7 := HDL.out; rw [List.length_map] at h3 h6; omega
    have HOK7 := hid (show ∀ r ∈ l7, r.n ≤ 4398046511104 from fun r hr => by
      have h1 := hap.rfits r.row (by rw [← HR77.out]; exact List.mem_map_of_mem hr)
      have h2 := fitsT_len h1
      have h3 := HC3.out
      have h4 : r.vs.length = r.n := by
        have := (K8.ro 1 rfl).now.2 r hr
        exact this.len
      have h5 : r.row.2 = r.vs := rfl
      rw [h5] at h2
      omega)
    clear hap
    have K9 := K8.drop (L' := [.cst g6 43 #[.string nm, .slice A7 n7 c7, .int .i64 (nx + (ni : Int)), .slice B7 m7 d7], .ro (RwsIn B7 m7 l7), .cst g5 65 #[.slice I ni ci, .slice D nd cd, .slice U nu cu], .ro (SlsIn I ni pi), .ro (IsIn D nd dels), .ro (PrsIn U nu pu), .cst g4 43 #[.string nm, .slice A3 n3 c3, .int .i64 nx, .slice B m d], .ro (RwsIn B m l)]) (List.Sublist.cons_cons _ (List.Sublist.cons_cons _ (List.Sublist.cons_cons _ (List.Sublist.cons_cons _ (List.Sublist.cons_cons _ (List.Sublist.cons_cons _ (List.Sublist.cons_cons _ (List.Sublist.cons _ (List.Sublist.cons_cons _ (List.nil_sublist _))))))))))
    clear K8
    have FA := K9.facts
    simp only [World.size_alloc, World.size_drew, factsL, cellsF, Nat.reduceAdd, List.toList_toArray, List.set_cons_zero, List.set_cons_succ, List.setIfInBounds_toArray, and_true, true_and] at FA
    go_wp2_with fail
    rw [← hg6]
    have HG6 := hid hg6
    clear hg6 FA
    go_loopw [44] (fun iv wr => ∃ k : Nat, k ≤ m ∧ iv = .int .i64 k ∧ Hold None_ none w wr [.cst g6 43 #[.string nm, .slice A7 n7 c7, .int .i64 (nx + (ni : Int)), .slice B7 m7 d7], .ro (RwsIn B7 m7 l7), .cst g5 65 #[.slice I ni ci, .slice D nd cd, .slice U nu cu], .ro (SlsIn I ni pi), .ro (IsIn D nd dels), .ro (PrsIn U nu pu), .cst g4 43 #[.string nm, .slice A3 n3 c3, .int .i64 nx, .slice B m d], .ro (RwsIn B m l)]) (fun iv _ => m - (intOf iv).toNat)
    case atStart => exact ⟨0, by omega, rfl, K9⟩
    case round =>
      clear K9
      obtain ⟨k, hk, rfl, H⟩ := hrel
      by_cases hlt : k < m
      · have hd : decide ((k : Int) < (m : Int)) = true := by simp; omega
        have k0 : (0 : Int) ≤ (k : Int) := by omega
        have k1 : (k : Int) < (m : Int) := by omega
        obtain ⟨x, hx⟩ := get_of HLM.out hlt
        obtain ⟨b, o, rfl, hb, c0, c1, hxv⟩ := (H.ro 7 rfl).now.at_ hx
        have HXR := hid (show x.row ∈ rs by rw [← HLR.out]; exact List.mem_map_of_mem (List.mem_of_getElem? hx))
        have HXL := hid (show x.vs.length = n3 from HFITL.out x (List.mem_of_getElem? hx))
        have hxr : Ro wr _ (VlsIn x.A x.n x.vs) := (H.ro 7 rfl).imp fun w2 h2 => h2.2 x (List.mem_of_getElem? hx)
        have hxn : x.n = n3 := by have h1 := hxv.len; have h2 := HXL.out; omega
        obtain ⟨xid, xA, xn, xc, xvs⟩ := x
        dsimp only at *
        obtain rfl : n3 = xn := hxn.symm
        clear hx hxv
        have K1 := (H.add hxr).alloc_cst #[.int .i64 xid, .slice xA n3 xc] 71
        clear H hxr
        obtain ⟨g9, hg9⟩ : ∃ g9, g9 = wr.heap.size := ⟨_, rfl⟩
        rw [← hg9] at K1
        have FA := K1.facts
        simp only [World.size_alloc, World.size_drew, factsL, cellsF, Nat.reduceAdd, List.toList_toArray, List.set_cons_zero, List.set_cons_succ, List.setIfInBounds_toArray, and_true, true_and] at FA
        go_wp2_with fail
        rw [← hg9]
        have HG9 := hid hg9
        clear hg9 FA hd
        go_loopw [11, 53] (fun tv iv wr => ∃ (k2 : Nat) (th : Bool), k2 ≤ nd ∧ iv = .int .i64 k2 ∧ tv = .bool th ∧ Hid (th = !(dels.take k2).contains xid) ∧ Hold None_ none w wr [.cst g9 71 #[.int .i64 xid, .slice xA n3 xc], .ro (VlsIn xA n3 xvs), .cst g6 43 #[.string nm, .slice A7 n7 c7, .int .i64 (nx + (ni : Int)), .slice B7 m7 d7], .ro (RwsIn B7 m7 l7), .cst g5 65 #[.slice I ni ci, .slice D nd cd, .slice U nu cu], .ro (SlsIn I ni pi), .ro (IsIn D nd dels), .ro (PrsIn U nu pu), .cst g4 43 #[.string nm, .slice A3 n3 c3, .int .i64 nx, .slice (some ⟨b, o, none⟩) m d], .ro (RwsIn (some ⟨b, o, none⟩) m l)]) (fun _ iv _ => nd - (intOf iv).toNat)
        case atStart => exact ⟨0, true, by omega, rfl, rfl, hid (by simp), K1⟩
        case round =>
          clear K1
          obtain ⟨k2, th, hk2, rfl, rfl, HTH, H⟩ := hrel
          by_cases hlt2 : k2 < nd
          · have hd : decide ((k2 : Int) < (nd : Int)) = true := by simp; omega
            have k20 : (0 : Int) ≤ (k2 : Int) := by omega
            have k21 : (k2 : Int) < (nd : Int) := by omega
            obtain ⟨bq, oq, rfl, _, hcc⟩ := (H.ro 6 rfl).now.cells (by omega)
            have HX := hid (show dels[k2]? = some (dels.getD k2 0) by have h := HDL.out; simp [List.getD, show k2 < dels.length by omega])
            have ck := hcc k2 (by have h := HDL.out; omega)
            clear hcc
            have FA := H.facts
            simp only [World.size_alloc, World.size_drew, factsL, cellsF, Nat.reduceAdd, List.toList_toArray, List.set_cons_zero, List.set_cons_succ, List.setIfInBounds_toArray, and_true, true_and] at FA
            generalize dels.getD k2 0 = y at *
            cases th
            · have HN := hid (show false = !(dels.take (k2 + 1)).contains xid by have h := HTH.out; rw [cont_snoc HX.out, Bool.not_or, ← h]; rfl)
              go_wp2_with fail
              go_roundw
              case rel => exact ⟨k2 + 1, _, by omega, by go_num, by first | rfl | trivial | simp, HN, H⟩
              case measure => simp [intOf]; omega
            · by_cases hy : y = xid
              · have hb : (y != xid) = false := by simp [hy]
                have HN := hid (show false = !(dels.take (k2 + 1)).contains xid by have h := HTH.out; rw [cont_snoc HX.out, Bool.not_or, ← h, hy]; simp)
                clear hy
                go_wp2_with fail
                go_roundw
                case rel => exact ⟨k2 + 1, _, by omega, by go_num, by first | rfl | trivial | simp, HN, H⟩
                case measure => simp [intOf]; omega
              · have hb : (y != xid) = true := by simpa using hy
                have HN := hid (show true = !(dels.take (k2 + 1)).contains xid by have h := HTH.out; rw [cont_snoc HX.out, Bool.not_or, ← h, show (xid == y) = false by rw [beq_eq_false_iff_ne]; exact fun e => hy e.symm]; rfl)
                clear hy
                go_wp2_with fail
                go_roundw
                case rel => exact ⟨k2 + 1, _, by omega, by go_num, by first | rfl | trivial | simp, HN, H⟩
                case measure => simp [intOf]; omega
          · obtain rfl : nd = k2 := by omega
            have hd : decide ((nd : Int) < (nd : Int)) = false := by simp
            clear hlt2
            have HTE := hid (show th = !dels.contains xid by have h := HTH.out; rwa [List.take_of_length_le (by have h2 := HDL.out; omega)] at h)
            clear HTH
            have FA := H.facts
            simp only [World.size_alloc, World.size_drew, factsL, cellsF, Nat.reduceAdd, List.toList_toArray, List.set_cons_zero, List.set_cons_succ, List.setIfInBounds_toArray, and_true, true_and] at FA
            have K1 := H.add (H.ro 1 rfl)
            clear H
            go_wp2_with fail
            clear FA hd
            go_loopw [10, 68] (fun wv iv wr => ∃ (k3 nw cw : Nat) (Aw : Option Addr) (vw : List Vl), k3 ≤ nu ∧ iv = .int .i64 k3 ∧ wv = .slice Aw nw cw ∧ nw ≤ 4 ∧ Hid (vw = wantR (us.take k3) xid xvs) ∧ Hold None_ none w wr [.ro (VlsIn Aw nw vw), .cst g9 71 #[.int .i64 xid, .slice xA n3 xc], .ro (VlsIn xA n3 xvs), .cst g6 43 #[.string nm, .slice A7 n7 c7, .int .i64 (nx + (ni : Int)), .slice B7 m7 d7], .ro (RwsIn B7 m7 l7), .cst g5 65 #[.slice I ni ci, .slice D nd cd, .slice U nu cu], .ro (SlsIn I ni pi), .ro (IsIn D nd dels), .ro (PrsIn U nu pu), .cst g4 43 #[.string nm, .slice A3 n3 c3, .int .i64 nx, .slice (some ⟨b, o, none⟩) m d], .ro (RwsIn (some ⟨b, o, none⟩) m l)]) (fun _ iv _ => nu - (intOf iv).toNat)
            case atStart => exact ⟨0, n3, xc, xA, xvs, by omega, rfl, rfl, hn34, hid rfl, K1⟩
            case round =>
              clear K1
              obtain ⟨k3, nw, cw, Aw, vw, hk3, rfl, rfl, hnw, HVW, H⟩ := hrel
              by_cases hlt3 : k3 < nu
              · have hd : decide ((k3 : Int) < (nu : Int)) = true := by simp; omega
                have k30 : (0 : Int) ≤ (k3 : Int) := by omega
                have k31 : (k3 : Int) < (nu : Int) := by omega
                obtain ⟨p, hp⟩ := get_of HUL.out hlt3
                obtain ⟨bq, oq, rfl, hbq, c0, c1, c2_, hv1, hv2⟩ := (H.ro 8 rfl).now.at_ hp
                have HUP := hid (show us[k3]? = some p.upd by rw [← HU3.out, List.getElem?_map, hp]; rfl)
                have HPN := hid (show p.nn ≤ 4 by
                  have h1 := HAP.out.fits.1 p.upd (List.mem_of_getElem? HUP.out)
                  have h2 := fitsT_len h1
                  have h3 := hv2.len
                  have h4 := HC3.out
                  have h5 : p.upd.2.2 = p.new := rfl
                  rw [h5] at h2
                  omega)
                have hpr : Ro wr _ (VlsIn p.nA p.nn p.new) := (H.ro 8 rfl).imp fun w2 h2 => (h2.2 p (List.mem_of_getElem? hp)).2
                obtain ⟨pid, oA, on, oc, old, nA, nn, ncc, new⟩ := p
                dsimp only at *
                clear hp hv1 hv2
                have K2 := H.alloc_cst #[.int .i64 pid, .slice oA on oc, .slice nA nn ncc] 73
                have FA := K2.facts
                simp only [World.size_alloc, World.size_drew, factsL, cellsF, Nat.reduceAdd, List.toList_toArray, List.set_cons_zero, List.set_cons_succ, List.setIfInBounds_toArray, and_true, true_and] at FA
                by_cases hpx : pid = xid
                · have hb : (pid == xid) = true := by simp [hpx]
                  have HN := hid (show new = wantR (us.take (k3 + 1)) xid xvs by rw [wantR_snoc HUP.out, if_pos (show (⟨pid, oA, on, oc, old, nA, nn, ncc, new⟩ : Pr).upd.1 = xid from hpx)]; rfl)
                  have K3 := (K2.drop (List.sublist_cons_self _ _)).swapRo 0 rfl ((hpr.step (by simp) (fun b hb _ => Below.heap_alloc _ _ b hb) (fun _ _ h => h)))
                  clear hpx K2 H
                  go_wp2_with fail
                  go_roundw
                  case rel => exact ⟨k3 + 1, nn, ncc, nA, new, by omega, by go_num, by first | rfl | trivial, HPN.out, HN, K3⟩
                  case measure => simp [intOf]; omega
                · have hb : (pid == xid) = false := by simpa using hpx
                  have HN := hid (show vw = wantR (us.take (k3 + 1)) xid xvs by rw [wantR_snoc HUP.out, if_neg (show ¬ (⟨pid, oA, on, oc, old, nA, nn, ncc, new⟩ : Pr).upd.1 = xid from hpx)]; exact HVW.out)
                  have K3 := K2.drop (List.sublist_cons_self _ _)
                  clear hpx K2 H hpr
                  go_wp2_with fail
                  go_roundw
                  case rel => exact ⟨k3 + 1, nw, cw, Aw, vw, by omega, by go_num, by first | rfl | trivial, hnw, HN, K3⟩
                  case measure => simp [intOf]; omega
              · obtain rfl : nu = k3 := by omega
                have hd : decide ((nu : Int) < (nu : Int)) = false := by simp
                clear hlt3
                have HVE := hid (show vw = wantR us xid xvs by have h := HVW.out; rwa [List.take_of_length_le (by have h2 := HUL.out; have h3 := congrArg List.length HU3.out; rw [List.length_map] at h3; omega)] at h)
                clear HVW
                have HOLD := hid (show getR rs1 xid = if dels.contains xid = true then none else some (wantR us xid xvs) from HAP.out.old HXR.out)
                have FA := H.facts
                simp only [World.size_alloc, World.size_drew, factsL, cellsF, Nat.reduceAdd, List.toList_toArray, List.set_cons_zero, List.set_cons_succ, List.setIfInBounds_toArray, and_true, true_and] at FA
                go_wp2_with fail
                have hg := rtget_any (Mut None_ _) _ H.mutLt (.string nm) (.slice A7 n7 c7) (.int .i64 (nx + (ni : Int))) B7 m7 d7 l7 xid (H.ro 4 rfl) (by omega) HOK7.out
                rw [HR77.out, HOLD.out] at hg
                cases hdc : dels.contains xid
                · rw [hdc] at hg
                  obtain rfl : th = true := by have h := HTE.out; rw [hdc] at h; exact h
                  rw [if_neg (by simp)] at hg
                  clear hdc
                  refine hg.mono ?_
                  clear hg
                  rintro e w7 ⟨Ag, ng, cg, rfl, hng, -, -, rg, bg⟩
                  have hng4 : ng ≤ 4 := by
                    have h := rg.now.len
                    have h1 := HVE.out
                    have h2 := (H.ro 0 rfl).now.len
                    rw [← h1] at h
                    simp only [Option.getD_some] at h
                    omega
                  have K2 := (H.call bg).add rg
                  simp only [Option.getD_some] at K2
                  clear H bg rg hng FA
                  go_wp2_with fail
                  refine (rcmprows_any (Mut None_ _) _ K2.mutLt Ag ng cg (wantR us xid xvs) Aw nw cw vw (K2.ro 0 rfl) (K2.ro 1 rfl) (by omega) (by omega)).mono ?_
                  rintro e w8 ⟨⟨r, rfl, hr⟩, b8⟩
                  obtain rfl : r = 0 := hr.2 HVE.out.symm
                  have K3 := (K2.call b8).drop (List.Sublist.cons _ (List.Sublist.cons _ (List.Sublist.cons _ (List.sublist_cons_self _ _))))
                  clear K2 b8 hr
                  go_wp2_with fail
                  go_roundw
                  case rel => exact ⟨k + 1, by omega, by go_num, K3⟩
                  case measure => simp [intOf]; omega
                · rw [hdc] at hg
                  obtain rfl : th = false := by have h := HTE.out; rw [hdc] at h; exact h
                  rw [if_pos rfl] at hg
                  clear hdc
                  refine hg.mono ?_
                  clear hg
                  rintro e w7 ⟨Ag, ng, cg, rfl, -, -, -, -, bg⟩
                  have K3 := (H.call bg).drop (List.Sublist.cons _ (List.Sublist.cons _ (List.sublist_cons_self _ _)))
                  clear H bg FA
                  go_wp2_with fail
                  go_roundw
                  case rel => exact ⟨k + 1, by omega, by go_num, K3⟩
                  case measure => simp [intOf]; omega
      · obtain rfl : m = k := by omega
        have hd : decide ((m : Int) < (m : Int)) = false := by simp
        clear hlt
        have FA := H.facts
        simp only [World.size_alloc, World.size_drew, factsL, cellsF, Nat.reduceAdd, List.toList_toArray, List.set_cons_zero, List.set_cons_succ, List.setIfInBounds_toArray, and_true, true_and] at FA
        go_wp2_with fail
        clear FA hd
        go_loopw [103] (fun iv wr => ∃ k4 : Nat, k4 ≤ ni ∧ iv = .int .i64 k4 ∧ Hold None_ none w wr [.cst g6 43 #[.string nm, .slice A7 n7 c7, .int .i64 (nx + (ni : Int)), .slice B7 m7 d7], .ro (RwsIn B7 m7 l7), .cst g5 65 #[.slice I ni ci, .slice D nd cd, .slice U nu cu], .ro (SlsIn I ni pi), .ro (IsIn D nd dels), .ro (PrsIn U nu pu), .cst g4 43 #[.string nm, .slice A3 n3 c3, .int .i64 nx, .slice B m d], .ro (RwsIn B m l)]) (fun iv _ => ni - (intOf iv).toNat)
        case atStart => exact ⟨0, by omega, rfl, H⟩
        case round =>
          clear H
          obtain ⟨k4, hk4, rfl, H⟩ := hrel
          by_cases hlt4 : k4 < ni
          · have hd : decide ((k4 : Int) < (ni : Int)) = true := by simp; omega
            have k40 : (0 : Int) ≤ (k4 : Int) := by omega
            have k41 : (k4 : Int) < (ni : Int) := by omega
            have hni3 : ni ≤ 3 := by have h1 := HIL.out; have h2 := congrArg List.length HI3.out; rw [List.length_map] at h2; have h3 := HILL.out; omega
            obtain ⟨p, hp⟩ := get_of HIL.out hlt4
            obtain ⟨bq, oq, rfl, hbq, c0, hv⟩ := (H.ro 3 rfl).now.at_ hp
            have HINS := hid (show ins[k4]? = some p.vs by rw [← HI3.out, List.getElem?_map, hp]; rfl)
            have hpr : Ro wr _ (VlsIn p.A p.n p.vs) := (H.ro 3 rfl).imp fun w2 h2 => h2.2 p (List.mem_of_getElem? hp)
            have HPN := hid (show p.n ≤ 4 by
              have h1 := HAP.out.fits.2 p.vs (List.mem_of_getElem? HINS.out)
              have h2 := fitsT_len h1
              have h3 := hv.len
              have h4 := HC3.out
              omega)
            obtain ⟨pA, pn, pc, pvs⟩ := p
            dsimp only at *
            clear hp hv
            have K1 := H.add hpr
            clear H hpr
            have FA := K1.facts
            simp only [World.size_alloc, World.size_drew, factsL, cellsF, Nat.reduceAdd, List.toList_toArray, List.set_cons_zero, List.set_cons_succ, List.setIfInBounds_toArray, and_true, true_and] at FA
            have hg := rtget_any (Mut None_ _) _ K1.mutLt (.string nm) (.slice A7 n7 c7) (.int .i64 (nx + (ni : Int))) B7 m7 d7 l7 (nx + (k4 : Int)) (K1.ro 2 rfl) (by omega) HOK7.out
            rw [HR77.out, show getR rs1 (nx + (k4 : Int)) = some pvs from (HAP.out.new k4).trans HINS.out] at hg
            have HG := hid hg
            clear hg
            go_wp2_with fail
            refine HG.out.mono ?_
            rintro e w7 ⟨Ag, ng, cg, rfl, hng, -, -, rg, bg⟩
            have hng4 : ng ≤ 4 := by
              have h := rg.now.len
              have h2 := (K1.ro 0 rfl).now.len
              have h3 := HPN.out
              simp only [Option.getD_some] at h
              omega
            have K2 := (K1.call bg).add rg
            simp only [Option.getD_some] at K2
            clear K1 bg rg hng FA HG
            go_wp2_with fail
            refine (rcmprows_any (Mut None_ _) _ K2.mutLt Ag ng cg pvs pA pn pc pvs (K2.ro 0 rfl) (K2.ro 1 rfl) (by omega) (by have := HPN.out; omega)).mono ?_
            rintro e w8 ⟨⟨r, rfl, hr⟩, b8⟩
            obtain rfl : r = 0 := hr.2 rfl
            have K3 := (K2.call b8).drop (List.Sublist.cons _ (List.sublist_cons_self _ _))
            clear K2 b8 hr
            go_wp2_with fail
            go_roundw
            case rel => exact ⟨k4 + 1, by omega, by go_num, K3⟩
            case measure => simp [intOf]; omega
          · obtain rfl : ni = k4 := by omega
            have hd : decide ((ni : Int) < (ni : Int)) = false := by simp
            clear hlt4
            have hni3 : ni ≤ 3 := by have h1 := HIL.out; have h2 := congrArg List.length HI3.out; rw [List.length_map] at h2; have h3 := HILL.out; omega
            have hnd7 : nd ≤ 7 := by have h1 := HDL.out; have h2 := HDLL.out; omega
            have heq : ((m7 : Int) == (m : Int) - (nd : Int) + (ni : Int)) = true := by rw [beq_iff_eq]; exact HM7.out
            have FA := H.facts
            simp only [World.size_alloc, World.size_drew, factsL, cellsF, Nat.reduceAdd, List.toList_toArray, List.set_cons_zero, List.set_cons_succ, List.setIfInBounds_toArray, and_true, true_and] at FA
            go_wp2_with fail
            refine (known7 _).mono ?_
            rintro e w9 ⟨rfl, b9⟩
            have K9 := H.call b9
            go_wp2_with fail
            go_ret
            exact ⟨by first | rfl | simp, K9.below⟩
  · have hb : (e1 != 0) = true := by simpa using he
    clear he
    go_wp2_with fail
    refine (known7 _).mono ?_
    rintro e w9 ⟨rfl, b9⟩
    have K9 := K8.call b9
    go_wp2_with fail
    go_ret
    exact ⟨by first | rfl | simp, K9.below⟩
end Go.Proofs.YtmopojjhlbjhnaaDoor

namespace Go.Proofs.YtmopojjhlbjhnaaDoor
open Go.ChangeShapes Go.WideShapes Go.ChangeAt Go.RowKit
set_option linter.unusedVariables false
set_option linter.unusedSimpArgs false

namespace LawKeysApplies
set_option maxRecDepth 100000 in
theorem contract (H : Type) (enc : TypeId × Value → H) (W : World) (base : Nat) (args : Array Value) (ds gs : List (DataW H)) (before : List MemPlace)
    (hval0 : ∀ (j : Nat) t v, Tryd.f8.params[j]? = some t → args[j]? = some v → Value.okWide Tryd.prog W .any base t v)
    (hsz0 : (DataW.weightsEach Tryd.prog (Tryd.f8.params.toList ++ Rows.keysAppliesSpec.plain.varTypes Tryd.prog) (ds ++ gs)).all (· ≤ reachBytes) = true)
    (hW : DataW.Whole enc Tryd.prog Tryd.f8.params.toList Rows.keysAppliesSpec.vars false W args.toList ds gs before) (hL : laidMetH Tryd.prog Rows.keysAppliesRow.laid W) (hsh : W.ShapedOpen Tryd.prog) :
    Calls Tryd.prog 8 args W fun e W' => ∃ v, e = .returned v ∧ Rows.keysAppliesSpec.post enc Tryd.prog Tryd.f8 false true false false W args v W' := by
  have hsz : (DataW.weightsEach Tryd.prog (Tryd.f8.params.toList ++ Rows.keysAppliesSpec.plain.varTypes Tryd.prog) (ds ++ gs)).all (· ≤ reachBytes) = true := hsz0
  have hval : ∀ (j : Nat) t v, Tryd.f8.params[j]? = some t → args[j]? = some v → Value.okWide Tryd.prog W .any base t v := hval0
  have hW' := hW
  obtain ⟨p, q, hA0, hV, rfl, hfz, hnd⟩ := hW
  have hA : DataW.TrodAll enc Tryd.prog W 0 (fun _ => true) true Tryd.f8.params.toList args.toList ds p := hA0
  rw [Tryd.params8] at hA hval hsz
  obtain ⟨v0, vs0, d0, ds0, p0, q0, hargs, rfl, rfl, h0, r0⟩ := trodAll_cons hA
  obtain ⟨rfl, rfl, rfl⟩ := trodAll_nil r0
  obtain rfl : args = #[v0] := by cases args; simp_all
  obtain ⟨rfl, rfl⟩ := trodVars_none hV
  obtain ⟨A0, n0, c0, zs0, rfl, k0, z0, l0, m0, e0⟩ := open_i64s Tryd.underlying23 Tryd.underlying3 (by kernel_rfl) (hval 0 23 v0 rfl rfl) h0
  refine (kapplies_walk A0 n0 c0 zs0 W k0 z0 l0 (by unfold maxLen at m0; omega) (wds_of_laid (rest := []) hL)).mono fun e W' ⟨he, hb⟩ => ?_
  exact ⟨_, he, law_post rfl laidOut (by kernel_rfl) (by kernel_rfl) Tryd.underlying4 rfl hW' hb⟩

theorem laid_met (os : Os) : laidMet Tryd.prog Rows.keysAppliesRow.laid ((wordsWorld os).forCall (fun _ _ => 0) ⟨#[], #[.slice none 0 0], []⟩).memory :=
  laidMet_of_run' 16 (by kernel_rfl) (by kernel_rfl)
theorem reads (os : Os) {H : Type} (enc : TypeId × Value → H) : ∃ places, DataW.whole enc Tryd.prog ((wordsWorld os).forCall (fun _ _ => 0) ⟨#[], #[.slice none 0 0], []⟩).memory Tryd.f8.params.toList Rows.keysAppliesSpec.vars false #[.slice none 0 0].toList 8 = some ([.nil], [], places) :=
  ⟨[], by kernel_rfl⟩

set_option maxRecDepth 100000 in
theorem lifted (os : Os) (started : os.Started) (H : Type) (enc : TypeId × Value → H) (F : Stop.Interp) :
    ReturnsInHanded {} Tryd.checked os 8 .any ((OpenSpec.ofChange Rows.keysAppliesSpec).preRow enc Tryd.prog Tryd.f8 Rows.keysAppliesRow.domain false Rows.keysAppliesRow.laid) (((OpenSpec.ofChange Rows.keysAppliesSpec).at F).post enc Tryd.prog Tryd.f8 false true false false) := by
  obtain ⟨places, hx⟩ := reads os enc
  refine returnsInHanded_of_row (C := Tryd.checked) (s := OpenSpec.ofChange Rows.keysAppliesSpec) own started (by kernel_rfl) Tryd.func8
    (witness_row_at (enc := enc) (C := Tryd.checked) false (wordsWorld os) #[.slice none 0 0] rfl (by kernel_rfl) (by kernel_rfl) (by kernel_rfl)
      (OpenSpec.preRow_of_cond 8 hx (by kernel_rfl) (fun k hk => by cases hk) (by kernel_rfl) (laid_met os))) ?_
  intro W base args ds gs before hval hW _ _ hsz0 hL hsh _
  exact contract H enc W base args ds gs before hval hsz0 hW hL hsh

theorem said : Rows.KeysAppliesSaid :=
  OpenClaim.holds_of_cond 8 Tryd.f8 rfl rfl rfl rfl rfl rfl rfl ⟨rfl, rfl, rfl, rfl, rfl⟩ rfl rfl rfl rfl rfl (by kernel_rfl) Tryd.func8 (by kernel_rfl)
    (of_decide_eq_true (by kernel_rfl)) (by unfold Func.isWrapper; first | (rw [if_pos (by decide +kernel)]; kernel_rfl) | (rw [if_neg (by decide +kernel)]; exact ⟨rfl, rfl⟩))
    (fun os started H enc _ F => by rw [OpenClaim.pre_eq_preRow]; exact lifted os started H enc F)

theorem plain (f : FuncId) (fn : Func) (hf : Tryd.pinned.checked.prog.funcNamed "triggerstore/triggerstorelaw7.KeysApplies" = some f) (hfn : Tryd.pinned.checked.prog.funcs[f]? = some fn) :
    false = Tryd.pinned.checked.prog.looks [] ∧ ∀ (j : Nat) t, fn.params[j]? = some t → Tryd.pinned.checked.prog.wantsStandIn t = false := by
  obtain rfl : f = 8 := Option.some.inj ((show Tryd.prog.funcNamed "triggerstore/triggerstorelaw7.KeysApplies" = some 8 by kernel_rfl).symm.trans hf) |>.symm
  obtain rfl : fn = Tryd.f8 := (Option.some.inj (Tryd.func8.symm.trans hfn)).symm
  refine ⟨by kernel_rfl, fun j t ht => ?_⟩
  rw [Tryd.params8] at ht
  have hm := Array.mem_of_getElem? ht
  simp only [List.mem_toArray, List.mem_cons, List.not_mem_nil, or_false] at hm
  subst hm
  · exact (show Tryd.prog.wantsStandIn 23 = false by kernel_rfl)
end LawKeysApplies

theorem keysApplies_holds : Rows.KeysAppliesCardSaid :=
  Claim7.holds_tied_plain_at .later [] _ _ _ _ LawKeysApplies.said (fun _ h => by cases h) (by kernel_rfl) (fun _ h => by cases h) keysApplies_row_tie rfl ⟨rfl, rfl⟩ (by kernel_rfl) rfl LawKeysApplies.plain (by kernel_rfl)
#print axioms keysApplies_holds
end Go.Proofs.YtmopojjhlbjhnaaDoor

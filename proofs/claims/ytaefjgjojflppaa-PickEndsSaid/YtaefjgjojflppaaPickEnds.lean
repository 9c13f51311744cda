/- PickEnds answers true, for every tape and all picks. No condition. -/
import Derived.Test.YtaefjgjojflppaaLawBase
import Derived.Test.YtaefjgjojflppaaEndPlain
import Derived.Test.YtaefjgjojflppaaOpens3
import Derived.Test.YtaefjgjojflppaaDraws3
namespace Go.Proofs.Ytaefjgjojflppaa
open Go.ChangeShapes Go.WideShapes Go.ChangeAt Go.RowKit
set_option linter.unusedVariables false
set_option linter.unusedSimpArgs false

theorem chosenL_le (N : Int) (xs : List Int) : (chosenL N xs).length ≤ xs.length := by
  unfold chosenL
  split
  · simp
  · split <;> simp
theorem toI_snoc (L : List Nat) (k : Nat) : iCells (toI (L ++ [k])) = iCells (toI L) ++ [.int .i64 (k : Int)] := by simp [iCells]
theorem IsIn.cellN {w : World} {b o n : Nat} {L : List Nat} (h : IsIn (some ⟨b, o, none⟩) n (toI L) w) {k : Nat} (hk : k < L.length) : w.cell? ⟨b, o + k, none⟩ = some (.int .i64 (L[k] : Int)) := by
  have hl := h.len
  simp at hl
  obtain ⟨b', o', e, _, hc⟩ := h.cells (by omega)
  obtain ⟨rfl, rfl⟩ : b = b' ∧ o = o' := by injection e with e; injection e with a1 a2; exact ⟨a1, a2⟩
  have := hc k (by simpa using hk)
  rw [this]
  simp [List.getD, hk]
theorem IsIn.take_ {w : World} {A : Option Addr} {n p : Nat} {L : List Nat} (h : IsIn A n (toI L) w) (hp : p ≤ n) : IsIn A p (toI (L.take p)) w := by
  have := Rd.take_ (show Rd w w.heap.size 1 A n (iCells (toI L)) from h) hp
  rw [Nat.mul_one] at this
  have e : iCells (toI (L.take p)) = (iCells (toI L)).take p := by simp [iCells, List.map_take]
  show Rd w w.heap.size 1 A p (iCells (toI (L.take p)))
  rw [e]; exact this
theorem IsIn.drop_ {w : World} {b o n p lc : Nat} {L : List Nat} (h : IsIn (some ⟨b, o, none⟩) n (toI L) w) (hp : p ≤ n) (hlc : n ≤ lc) : IsIn (if lc = p then some ⟨b, o, none⟩ else some ⟨b, o + p, none⟩) (n - p) (toI (L.drop p)) w := by
  have hl := h.len
  have hr := (show Rd w w.heap.size 1 _ n (iCells (toI L)) from h)
  refine ⟨by simp [iCells] at hl ⊢; omega, fun h0 => ?_⟩
  rw [if_neg (by omega)]
  obtain ⟨b', o', e, hb, hc⟩ := hr.2 (by omega)
  obtain ⟨rfl, rfl⟩ : b = b' ∧ o = o' := by injection e with e; injection e with a1 a2; exact ⟨a1, a2⟩
  refine ⟨b, o + p, rfl, hb, fun j u hu => ?_⟩
  have := hc (p + j) u (by simpa [iCells, List.map_drop] using hu)
  rwa [show o + (p + j) = o + p + j by omega] at this
theorem IsIn.some_ {w : World} {A : Option Addr} {n : Nat} {xs : List Int} (h : IsIn A n xs w) (hn : 0 < n) : ∃ b o, A = some ⟨b, o, none⟩ := by
  obtain ⟨b, o, e, _⟩ := h.cells hn
  exact ⟨b, o, e⟩

theorem FI.fire_ {its : List It} {l : List Lk} {L F : List Nat} {p n : Nat} (h : FI (ordF its l) n L F) (hv : validB l = true) (hn : its.length = n) (hp : p < L.length) (hb : blkB (nowL its L) l p (nowL its L).length = false) :
    FI (ordF its l) n (L.take p ++ L.drop (p + 1)) (F ++ [L[p]]) := by
  subst hn
  exact FI.fire hv h hp hb
set_option maxHeartbeats 8000000 in
set_option maxRecDepth 100000 in
theorem pickEnds_walk (C : Option Addr) (q qc : Nat) (ts : List Int) (P : Option Addr) (np pc : Nat) (ps : List Int) (w : World) (hr : Rd w w.heap.size 1 C q (ts.map (Value.int .i64))) (hz : Ints ts) (hq : q ≤ qc) (hqc : qc ≤ 9223372036854775807)
    (hP : IsIn P np ps w) (hnp : np ≤ pc) (hpc : pc ≤ 9223372036854775807) (hp44 : np ≤ 17592186044416) :
    Calls Try.prog 5 #[.slice C q qc, .slice P np pc] w fun e w' => e = .returned (.bool true) ∧ Below w.heap.size w w' := by
  have hP' : Ro w None_ (IsIn P np ps) := Rd.ro hP (Nat.le_refl _) (fun _ _ h => h)
  have K0 := (Hold.begin_ w).add (hP'.less (by simp [Mut]))
  have HPL := hid (show ps.length = np from hP.len)
  go_enter Try.func5, Try.ntmps5
  go_wp2_with fail
  refine (new_any C q qc ts w hr hz hq hqc).mono ?_
  rintro e w1 ⟨T, rfl, hT, t1, b1⟩
  have K1 := K0.newTape b1 t1 hT (by simp [Mut, Hp.foot, None_])
  clear K0 b1 t1 hr hz
  go_wp2_with fail
  refine (made_any _ T 5 w1 K1.mutLt (K1.tp_ 0 rfl) (by simp [Mut, Hp.foot, None_]) (by omega)).mono ?_
  rintro e w2 ⟨A, n, c, its, B, m, d, l, rfl, hn5, hc, hc2, hm, hd, hd2, hv2, r2, s2, t2, g2⟩
  have K2 := ((K1.callT 0 rfl g2 t2).add (s2.less (by simp [Mut, Hp.foot, None_]))).add (r2.less (by simp [Mut, Hp.foot, None_]))
  have HV := hid hv2
  have HL := hid (show its.length = n from r2.now.len)
  have K3 := (K2.drop (L' := [.ro (ItsIn A n its), .ro (LksIn B m l), .ro (IsIn P np ps)]) (List.Sublist.cons_cons _ (List.Sublist.cons_cons _ (List.sublist_cons_self _ _)))).nil 3 1
  clear K1 K2 r2 s2 t2 g2 hv2 hP' hP
  go_wp2_with fail
  go_loopw [8, 31] (fun v i wr => ∃ (k : Nat) (L1 : Option Addr) (lc : Nat), k ≤ n ∧ i = .int .i64 k ∧ v = .slice L1 k lc ∧ Hold None_ none w wr [.own 3 1 (.slice L1 k lc) k (iCells (toI (List.range k))), .ro (ItsIn A n its), .ro (LksIn B m l), .ro (IsIn P np ps)]) (fun _ i _ => n - (intOf i).toNat)
  case atStart => exact ⟨0, none, 0, by omega, rfl, rfl, K3⟩
  case round =>
    clear K3
    obtain ⟨k, L1, lc, hk, rfl, rfl, H⟩ := hrel
    by_cases hlt : k < n
    · have hd1 : decide ((k : Int) < (n : Int)) = true := by simp; omega
      go_wp2_with (first
        | (at_builtin; refine wpList_appH H 0 rfl Try.elInt #[.int .i64 k] rfl (.tmp 34) (.tmp 36) rfl rfl wr.heap.size rfl rfl rfl (by intro z hz; simp at hz; subst hz; rfl) (by omega) (by omega) ?_; intro g5 cap5 w5 hc5 hm5 H5)
        | fail)
      have e1 : iCells (toI (List.range k)) ++ (#[Value.int .i64 (k : Int)]).toList = iCells (toI (List.range (k + 1))) := by rw [List.range_succ, toI_snoc]
      simp only [List.set_cons_zero] at H5
      rw [e1] at H5
      go_roundw
      case rel => exact ⟨k + 1, _, cap5, by omega, by go_num, rfl, H5⟩
      case measure => simp [intOf]; omega
    · obtain rfl : n = k := by omega
      have hd1 : decide ((n : Int) < (n : Int)) = false := by simp
      have hcl := own_caps (H.get 0 rfl)
      have KS := (H.sealRow 0 rfl)
      simp only [List.set_cons_zero] at KS
      have KF := KS.nil 3 1
      have hFI := FI.start (ordF its l) its.length
      rw [HL.out] at hFI
      have HFI := hid hFI; clear hFI
      clear H KS
      go_wp2_with fail
      go_loopw [1, 8, 10] (fun pv v fv wr => ∃ (L F : List Nat) (P1 : Option Addr) (np1 pc1 : Nat) (ps1 : List Int) (L1 : Option Addr) (lk lc : Nat) (F1 : Option Addr) (fk fc : Nat), pv = .slice P1 np1 pc1 ∧ np1 ≤ pc1 ∧ np1 ≤ 17592186044416 ∧ v = .slice L1 lk lc ∧ lk ≤ lc ∧ lc ≤ 9223372036854775807 ∧ fv = .slice F1 fk fc ∧ Hid (FI (ordF its l) n L F) ∧
        Hold None_ none w wr [.own 3 1 (.slice F1 fk fc) fk (iCells (toI F)), .ro (IsIn L1 lk (toI L)), .ro (ItsIn A n its), .ro (LksIn B m l), .ro (IsIn P1 np1 ps1)]) (fun _ v _ _ => match v with | .slice _ k _ => k | _ => 0)
      case atStart => exact ⟨List.range n, [], P, np, pc, ps, L1, n, lc, none, 0, 0, rfl, hnp, hp44, rfl, hcl.1, hcl.2.1, rfl, HFI, KF⟩
      case round =>
        clear KF HFI hcl
        obtain ⟨L, F, P1, np1, pc1, ps1, L1, lk, lc, F1, fk, fc, rfl, hnp1, hnp14, rfl, hlc, hlc2, rfl, HFI, H⟩ := hrel
        have HLk := hid (show L.length = lk by have := (H.ro 1 rfl).now.len; simpa using this)
        have HFk := hid (show F.length = fk by have := (H.get 0 rfl).1; simpa [iCells] using this)
        have hlk5 : fk + lk = n := by have := HFI.out.len; have := HLk.out; have := HFk.out; omega
        by_cases hpos : 0 < lk
        · have hd2 : decide ((lk : Int) > 0) = true := by simp; omega
          obtain ⟨bL, oL, rfl⟩ := IsIn.some_ (H.ro 1 rfl).now hpos
          have K4 := H.nil 27 4
          clear H
          go_wp2_with fail
          go_loopw [11, 44] (fun v i wr => ∃ (k : Nat) (N1 : Option Addr) (nc : Nat), k ≤ lk ∧ i = .int .i64 k ∧ v = .slice N1 k nc ∧
            Hold None_ none w wr [.own 27 4 (.slice N1 k nc) k (itCells (nowL its (L.take k))), .own 3 1 (.slice F1 fk fc) fk (iCells (toI F)), .ro (IsIn (some ⟨bL, oL, none⟩) lk (toI L)), .ro (ItsIn A n its), .ro (LksIn B m l), .ro (IsIn P1 np1 ps1)]) (fun _ i _ => lk - (intOf i).toNat)
          case atStart => exact ⟨0, none, 0, by omega, rfl, rfl, K4⟩
          case round =>
            clear K4
            obtain ⟨k, N1, nc, hk, rfl, rfl, H⟩ := hrel
            by_cases hlt : k < lk
            · have hd3 : decide ((k : Int) < (lk : Int)) = true := by simp; omega
              have hkl : k < L.length := by rw [HLk.out]; exact hlt
              have hcL := (H.ro 2 rfl).now.cellN hkl
              have hin : L[k] < n := HFI.out.lt _ (List.getElem_mem hkl)
              obtain ⟨x, hx⟩ := get_of HL.out hin
              obtain ⟨ga, oa, rfl, hb, x0, x1, x2, x3⟩ := (H.ro 3 rfl).now.at_ hx
              have HX := hid (show nowL its (L.take (k + 1)) = nowL its (L.take k) ++ [x] by
                rw [List.take_succ_eq_append_getElem hkl, nowL_snoc]; simp [List.getD, hx])
              clear hx
              generalize L[k] = i0 at *
              go_wp2_with (first
                | (at_builtin; refine wpList_appH H 0 rfl Try.elItem #[.string x.tr, .int .i64 x.row, .slice x.oa x.on x.oc, .slice x.na x.nn x.nc] rfl (.tmp 48) (.tmp 53) rfl rfl wr.heap.size rfl rfl rfl (by intro z hz; simp at hz; rcases hz with rfl | rfl | rfl | rfl <;> rfl) (by omega) (by omega) ?_; intro g5 cap5 w5 hc5 hm5 H5)
                | fail)
              have e1 : itCells (nowL its (L.take k)) ++ (#[Value.string x.tr, .int .i64 x.row, .slice x.oa x.on x.oc, .slice x.na x.nn x.nc]).toList = itCells (nowL its (L.take (k + 1))) := by rw [HX.out]; simp [itCells, It.cells]
              simp only [List.set_cons_zero] at H5
              rw [e1] at H5
              go_roundw
              case rel => exact ⟨k + 1, _, cap5, by omega, by go_num, rfl, H5⟩
              case measure => simp [intOf]; omega
            · obtain rfl : lk = k := by omega
              have hd3 : decide ((lk : Int) < (lk : Int)) = false := by simp
              have KS := (H.sealRow 0 rfl)
              simp only [List.set_cons_zero] at KS
              rw [List.take_of_length_le (by rw [HLk.out]; exact Nat.le_refl _)] at KS
              clear H
              have HNL := hid (show (nowL its L).length = lk by simp [nowL, HLk.out])
              go_wp2_with fail
              refine (elig_any _ _ KS.mutLt N1 lk nc (nowL its L) B m d l (KS.ro 0 rfl) (KS.ro 4 rfl) (by omega) (by omega)).mono ?_
              rintro e w6 ⟨A6, n6, c6, rfl, hn6, hc6, hc62, r6, b6⟩
              rw [eligL_cells] at hn6 r6
              have K6 := (KS.call b6).add r6
              have h6 : 0 < n6 := by
                rw [hn6, iCells_len]
                exact eligI_some HV.out (fun h => by have := HLk.out; rw [h] at this; simp at this; omega) (by rw [HL.out]; exact HFI.out.lt)
              have h65 : n6 ≤ lk := by rw [hn6, iCells_len, ← HNL.out]; exact eligI_le _ _
              have HN6 := hid (show (eligI (nowL its L) l).length = n6 by rw [hn6, iCells_len])
              clear hn6 r6 b6 KS
              have hz6 : ((n6 : Int) == 0) = false := by simp; omega
              obtain ⟨b6, o6, rfl⟩ := IsIn.some_ (K6.ro 0 rfl).now h6
              go_wp2_with fail
              refine (choose_any _ _ K6.mutLt (n6 : Int) (by unfold I64; omega) P1 np1 pc1 hnp1 ps1 (K6.ro 6 rfl) hnp14).mono ?_
              rintro e w7 ⟨A7, n7, c7, rfl, hn7, hc7, hc72, r7, b7⟩
              have K7 := (K6.call b7).add r7
              have hch := chosen_in h6 ps1
              have HN7 : Hid (n7 ≤ 17592186044416) := hid (by have h1 := chosenL_le (n6 : Int) ps1; have h2 := (K6.ro 6 rfl).now.len; omega)
              generalize chosenK (n6 : Int) ps1 = ck at *
              generalize chosenL (n6 : Int) ps1 = ps7 at *
              obtain ⟨c0, rfl⟩ := Int.eq_ofNat_of_zero_le hch.1
              have hc0 : c0 < n6 := by omega
              clear hch hn7 r7 b7 K6
              obtain ⟨x, hx⟩ := get_of HN6.out hc0
              obtain ⟨p, rfl, hp, hblk⟩ := eligI_at hx
              rw [HNL.out] at hp
              have hcE : w7.cell? ⟨b6, o6 + c0, none⟩ = some (.int .i64 (p : Int)) := by
                obtain ⟨b', o', e', _, hcc⟩ := (show IsIn _ _ _ _ from (K7.ro 1 rfl).now).cells h6
                obtain ⟨rfl, rfl⟩ : b6 = b' ∧ o6 = o' := by injection e' with e'; injection e' with a1 a2; exact ⟨a1, a2⟩
                have h1 := hcc c0 (by rw [HN6.out]; exact hc0)
                rw [h1]; simp [List.getD, hx]
              have HBK := hid hblk; have HXX := hid hx; clear hblk hx
              have g1 : decide ((c0 : Int) < 0) = false := by simp
              have g2 : decide ((n6 : Int) ≤ (c0 : Int)) = false := by simp; omega
              have g3 : decide ((p : Int) < 0) = false := by simp
              have g4 : decide ((lk : Int) ≤ (p : Int)) = false := by simp; omega
              have g5 : (0 : Int) ≤ (c0 : Int) := by omega
              have g6 : (c0 : Int) < (n6 : Int) := by omega
              have hpl : p < L.length := by rw [HLk.out]; exact hp
              have hcL := (K7.ro 4 rfl).now.cellN hpl
              have HFS := hid (HFI.out.fire_ HV.out HL.out hpl HBK.out)
              obtain ⟨x0, hx0⟩ : ∃ x0, x0 = L[p] := ⟨_, rfl⟩
              rw [← hx0] at hcL HFS
              clear hx0 HBK
              go_wp2_with (first
                | (at_builtin; refine wpList_appH K7 3 rfl Try.elInt #[.int .i64 x0] rfl (.tmp 94) (.tmp 102) rfl rfl w7.heap.size rfl rfl rfl (by intro z hz; simp at hz; subst hz; rfl) (by omega) (by omega) ?_; intro g8 cap8 w8 hc8 hm8 K8)
                | fail)
              have e1 : iCells (toI F) ++ (#[Value.int .i64 (x0 : Int)]).toList = iCells (toI (F ++ [x0])) := by rw [toI_snoc]
              simp only [List.set_cons_zero, List.set_cons_succ] at K8
              rw [e1] at K8
              have HCE : Hid (∀ wv, IsIn (some ⟨b6, o6, none⟩) n6 (eligI (nowL its L) l) wv → wv.cell? ⟨b6, o6 + c0, none⟩ = some (.int .i64 (p : Int))) := hid fun wv hv => by
                obtain ⟨b', o', e', _, hcc⟩ := hv.cells h6
                obtain ⟨rfl, rfl⟩ : b6 = b' ∧ o6 = o' := by injection e' with e'; injection e' with a1 a2; exact ⟨a1, a2⟩
                have h1 := hcc c0 (by rw [HN6.out]; exact hc0)
                rw [h1]; simp [List.getD, HXX.out]
              clear K7 hcE hcL e1
              obtain ⟨KL, hKL⟩ : ∃ KL : List Hp, KL = [Hp.ro (IsIn A7 n7 ps7), Hp.ro (IsIn (some ⟨b6, o6, none⟩) n6 (eligI (nowL its L) l)), Hp.ro (SlR 4 N1 lk (itCells (nowL its L))), Hp.own 3 1 (.slice (some ⟨g8, 0, none⟩) (fk + 1) cap8) (fk + 1) (iCells (toI (F ++ [x0]))), Hp.ro (IsIn (some ⟨bL, oL, none⟩) lk (toI L)), Hp.ro (ItsIn A n its), Hp.ro (LksIn B m l), Hp.ro (IsIn P1 np1 ps1)] := ⟨_, rfl⟩
              have K8' : Hold None_ none w w8 KL := by rw [hKL]; exact K8
              clear K8
              have hb0 : ∀ b, Mut None_ KL b → b < w8.heap.size := K8'.mutLt
              have s1 : (0 : Int) ≤ (p : Int) := by omega
              have s2 : (p : Int) ≤ (lc : Int) := by omega
              have s3 : (p : Int) + 1 ≤ (lk : Int) := by omega
              have s4 : (0 : Int) ≤ (p : Int) + 1 := by omega
              have s5 : IntKind.i64.wrap ((p : Int) + 1) = (p : Int) + 1 := IntWalk.i64_in _ (by omega)
              have s6 : ((p : Int) + 1).toNat = p + 1 := by omega
              refine wp_region_any (by kernel_rfl) ?_
              refine wpAny_hold 14 167 (KL) (spL [(110, OwnSlot w8.heap.size (toI (L.take p)))]) (by kernel_rfl) (by kernel_rfl) (by kernel_rfl) rfl ?_ (K8'.drew) ?_
              · exact stays_cons (ownSlot_mono hb0) (stays_nil _)
              simp only [List.take_succ_cons, List.take_zero, List.drop_succ_cons, List.drop_zero, Act.put, List.getElem_toArray, List.getElem_cons_zero, List.getElem_cons_succ, List.setIfInBounds_toArray, List.set_cons_succ, List.set_cons_zero]
              refine dw_val rfl rfl rfl ?_; apply Exists.intro; refine ⟨fun wv HC => ?_, ?_⟩
              ·  go_simp <;> rfl
              simp only [Act.put, List.setIfInBounds_toArray, List.set_cons_succ, List.set_cons_zero]
              refine dw_val rfl rfl rfl ?_; apply Exists.intro; refine ⟨fun wv HC => ?_, ?_⟩
              ·  go_simp <;> rfl
              simp only [Act.put, List.setIfInBounds_toArray, List.set_cons_succ, List.set_cons_zero]
              refine dw_val rfl rfl rfl ?_; apply Exists.intro; refine ⟨fun wv HC => ?_, ?_⟩
              ·  go_simp <;> rfl
              simp only [Act.put, List.setIfInBounds_toArray, List.set_cons_succ, List.set_cons_zero]
              refine dw_val rfl rfl rfl ?_; apply Exists.intro; refine ⟨fun wv HC => ?_, ?_⟩
              ·  go_simp <;> rfl
              simp only [Act.put, List.setIfInBounds_toArray, List.set_cons_succ, List.set_cons_zero]
              refine dw_val rfl rfl rfl ?_; apply Exists.intro; refine ⟨fun wv HC => ?_, ?_⟩
              · have hce := HCE.out _ (show IsIn _ _ _ _ from ((hKL ▸ HC : Hold None_ none w wv _).ro 1 rfl).now); go_simp <;> rfl
              simp only [Act.put, List.setIfInBounds_toArray, List.set_cons_succ, List.set_cons_zero]
              refine dw_val rfl rfl rfl ?_; apply Exists.intro; refine ⟨fun wv HC => ?_, ?_⟩
              ·  go_simp <;> rfl
              simp only [Act.put, List.setIfInBounds_toArray, List.set_cons_succ, List.set_cons_zero]
              refine dw_callR 110 (OwnSlot w8.heap.size (toI (L.take p))) (f := 20) (args := #[.slice (some ⟨bL, oL, none⟩) p lc]) rfl rfl rfl rfl (fun wv => ?_) (fun wv HC hrm hD => ?_) ?_
              · go_simp <;> rfl
              · have hIn : IsIn (some ⟨bL, oL, none⟩) p (toI (L.take p)) wv := IsIn.take_ (show IsIn _ _ _ _ from ((hKL ▸ HC : Hold None_ none w wv _).ro 4 rfl).now) (by omega)
                refine (cloneInts_any wv _ p lc _ hIn (by omega)).mono ?_
                rintro e w5 ⟨A5, n5, c5, rfl, h51, h52, b5⟩
                exact ⟨_, rfl, ⟨A5, n5, c5, rfl, h51, own_base (show w8.heap.size ≤ wv.heap.size from hrm.1) h52⟩, HC.call b5, RM.below b5⟩
              rintro x wx HCx ⟨A5, n5, c5, rfl, h51, h52⟩
              simp only [Act.put, List.setIfInBounds_toArray, List.set_cons_succ, List.set_cons_zero]
              clear HCx h52
              refine dw_val rfl rfl rfl ?_; apply Exists.intro; refine ⟨fun wv HC => ?_, ?_⟩
              ·  go_simp <;> rfl
              simp only [Act.put, List.setIfInBounds_toArray, List.set_cons_succ, List.set_cons_zero]
              refine dw_val rfl rfl rfl ?_; apply Exists.intro; refine ⟨fun wv HC => ?_, ?_⟩
              ·  go_simp <;> rfl
              simp only [Act.put, List.setIfInBounds_toArray, List.set_cons_succ, List.set_cons_zero]
              refine dw_val rfl rfl rfl ?_; apply Exists.intro; refine ⟨fun wv HC => ?_, ?_⟩
              ·  go_simp <;> rfl
              simp only [Act.put, List.setIfInBounds_toArray, List.set_cons_succ, List.set_cons_zero]
              refine dw_val rfl rfl rfl ?_; apply Exists.intro; refine ⟨fun wv HC => ?_, ?_⟩
              ·  go_simp <;> rfl
              simp only [Act.put, List.setIfInBounds_toArray, List.set_cons_succ, List.set_cons_zero]
              refine dw_val rfl rfl rfl ?_; apply Exists.intro; refine ⟨fun wv HC => ?_, ?_⟩
              · have hce := HCE.out _ (show IsIn _ _ _ _ from ((hKL ▸ HC : Hold None_ none w wv _).ro 1 rfl).now); go_simp <;> rfl
              simp only [Act.put, List.setIfInBounds_toArray, List.set_cons_succ, List.set_cons_zero]
              refine dw_val rfl rfl rfl ?_; apply Exists.intro; refine ⟨fun wv HC => ?_, ?_⟩
              ·  go_simp <;> rfl
              simp only [Act.put, List.setIfInBounds_toArray, List.set_cons_succ, List.set_cons_zero]
              refine dw_val rfl rfl rfl ?_; apply Exists.intro; refine ⟨fun wv HC => ?_, ?_⟩
              ·  go_simp <;> rfl
              simp only [Act.put, List.setIfInBounds_toArray, List.set_cons_succ, List.set_cons_zero]
              refine rel_nil ?_
              rintro wx2 HX
              rintro hrm HG
              have hb2 : OwnSlot w8.heap.size (toI (L.take p)) (.slice A5 n5 c5) wx2 := (GW_on (d := 110) rfl).1 (HG 6 _ rfl (by omega))
              clear HG
              obtain ⟨A9, n9, c9, e9, h91, h92⟩ := hb2
              obtain ⟨rfl, rfl, rfl⟩ := Value.slice.inj e9
              have K9 := K8'.drew.addOwn HX hrm h92
              subst hKL
              have hnp5 : n5 = p := by rw [h51, List.length_map, List.length_take]; omega
              clear e9 hrm h92 HX K8' hb0 HCE
              have HTL := hid (IsIn.drop_ (show IsIn _ _ _ _ from (K9.ro 5 rfl).now) (p := p + 1) (lc := lc) (by omega) (by omega))
              generalize (if lc = p + 1 then some (⟨bL, oL, none⟩ : Addr) else some ⟨bL, oL + (p + 1), none⟩) = TA at *
              have HN5 := hid hnp5; clear hnp5 h51
              have hn5p : n5 ≤ 5 := by rw [HN5.out]; omega
              have hOM := hid (show ∀ u ∈ iCells (toI (L.drop (p + 1))), u.oneCell' = true from iCells_one _)
              go_wp2_with (first
                | (at_builtin; refine wpList_appAllH K9 0 rfl Try.elInt HTL.out rfl (.tmp 110) (.tmp 117) rfl rfl rfl hOM.out (by omega) (by omega) ?_; intro C10 cap10 w10 hc10 hm10 K10)
                | fail)
              have e10 : iCells (toI (L.take p)) ++ iCells (toI (L.drop (p + 1))) = iCells (toI (L.take p ++ L.drop (p + 1))) := by simp [iCells]
              simp only [List.set_cons_zero] at K10
              rw [e10] at K10
              have K11 := K10.sealRow 0 rfl
              simp only [List.set_cons_zero] at K11
              have K12 := K11.drop (L' := [_, _, _, _, _]) (List.Sublist.cons_cons _ (List.Sublist.cons_cons _ (List.Sublist.cons _ (List.Sublist.cons _ (List.Sublist.cons_cons _ (List.Sublist.cons _ (List.Sublist.cons_cons _ (List.Sublist.cons_cons _ (List.sublist_cons_self _ _)))))))))
              have K13 := (K12.sinkN 2).sinkN 4
              clear K9 K10 K11 K12
              have hmin : min p L.length = n5 := by rw [HN5.out]; omega
              refine ⟨⟨L.take p ++ L.drop (p + 1), F ++ [x0], A7, n7, c7, ps7, C10, n5 + (lk - (p + 1)), cap10, some ⟨g8, 0, none⟩, fk + 1, cap8, rfl, hc7, HN7.out, by first | rfl | rw [hmin], hc10, hm10, rfl, HFS, K13⟩, ?_⟩
              have := HN5.out
              simp only []
              omega
        · have hlk0 : lk = 0 := by omega
          subst hlk0
          obtain rfl : L = [] := List.length_eq_zero_iff.1 HLk.out
          have hd2 : decide (((0 : Nat) : Int) > 0) = false := by simp
          obtain rfl : n = fk := by omega
          have hme := HFI.out.done
          have HME := hid hme; clear hme
          have HOK := hid (fun i j (hi : i < F.length) (hj : j < i) => fired_ok HFI.out hi hj)
          have HLF := hid (HFI.out.ltF)
          have KS := H.sealRow 0 rfl
          simp only [List.set_cons_zero] at KS
          have KA := KS.drop (L' := [.ro (IsIn F1 n (toI F)), .ro (ItsIn A n its), .ro (LksIn B m l)]) (List.Sublist.cons_cons _ (List.Sublist.cons _ (List.Sublist.cons_cons _ (List.Sublist.cons_cons _ (List.sublist_cons_self _ _)))))
          clear H KS HFI
          go_wp2_with fail
          go_loopw [121] (fun i wr => ∃ k : Nat, k ≤ n ∧ i = .int .i64 k ∧ Hold None_ none w wr [.ro (IsIn F1 n (toI F)), .ro (ItsIn A n its), .ro (LksIn B m l)]) (fun i _ => n - (intOf i).toNat)
          case atStart => exact ⟨0, by omega, rfl, KA⟩
          case round =>
            clear KA
            obtain ⟨k, hk, rfl, H⟩ := hrel
            by_cases hlt : k < n
            · have hd3 : decide ((k : Int) < (n : Int)) = true := by simp; omega
              go_wp2_with fail
              go_loopw [18] (fun i wr => ∃ p : Nat, p ≤ k ∧ i = .int .i64 p ∧ Hold None_ none w wr [.ro (IsIn F1 n (toI F)), .ro (ItsIn A n its), .ro (LksIn B m l)]) (fun i _ => k - (intOf i).toNat)
              case atStart => exact ⟨0, by omega, rfl, H⟩
              case round =>
                clear H
                obtain ⟨p, hp, rfl, H⟩ := hrel
                by_cases hlt2 : p < k
                · have hd4 : decide ((p : Int) < (k : Int)) = true := by simp; omega
                  have hkF : k < F.length := by rw [HFk.out]; exact hlt
                  have hpF : p < F.length := by rw [HFk.out]; omega
                  obtain ⟨bF, oF, rfl⟩ := IsIn.some_ (H.ro 0 rfl).now (by omega)
                  have HP := hid (HOK.out k p hkF hlt2)
                  have hin1 := HLF.out _ (List.getElem_mem hkF)
                  have hin2 := HLF.out _ (List.getElem_mem hpF)
                  have HC1 : Hid (∀ wv, IsIn (some ⟨bF, oF, none⟩) n (toI F) wv → wv.cell? ⟨bF, oF + k, none⟩ = some (.int .i64 (F[k] : Int))) := hid fun wv hv => hv.cellN hkF
                  have HC2 : Hid (∀ wv, IsIn (some ⟨bF, oF, none⟩) n (toI F) wv → wv.cell? ⟨bF, oF + p, none⟩ = some (.int .i64 (F[p] : Int))) := hid fun wv hv => hv.cellN hpF
                  generalize F[k] = i0 at *
                  generalize F[p] = j0 at *
                  obtain ⟨x, hx⟩ := get_of HL.out hin1
                  obtain ⟨y, hy⟩ := get_of HL.out hin2
                  obtain ⟨ga, oa, rfl, _, _⟩ := (H.ro 1 rfl).now.at_ hx
                  have HC3 : Hid (∀ wv, ItsIn (some ⟨ga, oa, none⟩) n its wv → wv.cell? ⟨ga, oa + i0 * 4, none⟩ = some (.string x.tr)) := hid fun wv hv => by
                    obtain ⟨g', o', e', _, x0, _⟩ := hv.at_ hx
                    obtain ⟨rfl, rfl⟩ : ga = g' ∧ oa = o' := by injection e' with e'; injection e' with a1 a2; exact ⟨a1, a2⟩
                    exact x0
                  have HC4 : Hid (∀ wv, ItsIn (some ⟨ga, oa, none⟩) n its wv → wv.cell? ⟨ga, oa + j0 * 4, none⟩ = some (.string y.tr)) := hid fun wv hv => by
                    obtain ⟨g', o', e', _, x0, _⟩ := hv.at_ hy
                    obtain ⟨rfl, rfl⟩ : ga = g' ∧ oa = o' := by injection e' with e'; injection e' with a1 a2; exact ⟨a1, a2⟩
                    exact x0
                  have HXY := hid (show precB l x.tr y.tr = false by have := HP.out; unfold ordF at this; rwa [trAt_of hx, trAt_of hy] at this)
                  clear hx hy HP
                  have s1 : (0 : Int) ≤ (k : Int) := by omega
                  have s2 : (k : Int) < (n : Int) := by omega
                  have s3 : (0 : Int) ≤ (p : Int) := by omega
                  have s4 : (p : Int) < (n : Int) := by omega
                  have s5 : (0 : Int) ≤ (i0 : Int) := by omega
                  have s6 : (i0 : Int) < (n : Int) := by omega
                  have s7 : (0 : Int) ≤ (j0 : Int) := by omega
                  have s8 : (j0 : Int) < (n : Int) := by omega
                  go_wp2_with fail
                  refine wp_region_any (by kernel_rfl) ?_
                  refine wpAny_hold 17 167 ([.ro (IsIn (some ⟨bF, oF, none⟩) n (toI F)), .ro (ItsIn (some ⟨ga, oa, none⟩) n its), .ro (LksIn B m l)]) (spL []) (by kernel_rfl) (by kernel_rfl) (by kernel_rfl) rfl ?_ (H.drew) ?_
                  · exact stays_nil _
                  simp only [List.take_succ_cons, List.take_zero, List.drop_succ_cons, List.drop_zero, Act.put, List.getElem_toArray, List.getElem_cons_zero, List.getElem_cons_succ, List.setIfInBounds_toArray, List.set_cons_succ, List.set_cons_zero]
                  refine dw_val rfl rfl rfl ?_; apply Exists.intro; refine ⟨fun wv HC => ?_, ?_⟩
                  ·  go_simp <;> rfl
                  simp only [Act.put, List.setIfInBounds_toArray, List.set_cons_succ, List.set_cons_zero]
                  refine dw_val rfl rfl rfl ?_; apply Exists.intro; refine ⟨fun wv HC => ?_, ?_⟩
                  ·  go_simp <;> rfl
                  simp only [Act.put, List.setIfInBounds_toArray, List.set_cons_succ, List.set_cons_zero]
                  refine dw_val rfl rfl rfl ?_; apply Exists.intro; refine ⟨fun wv HC => ?_, ?_⟩
                  ·  go_simp <;> rfl
                  simp only [Act.put, List.setIfInBounds_toArray, List.set_cons_succ, List.set_cons_zero]
                  refine dw_val rfl rfl rfl ?_; apply Exists.intro; refine ⟨fun wv HC => ?_, ?_⟩
                  ·  go_simp <;> rfl
                  simp only [Act.put, List.setIfInBounds_toArray, List.set_cons_succ, List.set_cons_zero]
                  refine dw_val rfl rfl rfl ?_; apply Exists.intro; refine ⟨fun wv HC => ?_, ?_⟩
                  ·  go_simp <;> rfl
                  simp only [Act.put, List.setIfInBounds_toArray, List.set_cons_succ, List.set_cons_zero]
                  refine dw_val rfl rfl rfl ?_; apply Exists.intro; refine ⟨fun wv HC => ?_, ?_⟩
                  · have hce := HC1.out _ (HC.ro 0 rfl).now; go_simp <;> rfl
                  simp only [Act.put, List.setIfInBounds_toArray, List.set_cons_succ, List.set_cons_zero]
                  refine dw_val rfl rfl rfl ?_; apply Exists.intro; refine ⟨fun wv HC => ?_, ?_⟩
                  ·  go_simp <;> rfl
                  simp only [Act.put, List.setIfInBounds_toArray, List.set_cons_succ, List.set_cons_zero]
                  refine dw_val rfl rfl rfl ?_; apply Exists.intro; refine ⟨fun wv HC => ?_, ?_⟩
                  ·  go_simp <;> rfl
                  simp only [Act.put, List.setIfInBounds_toArray, List.set_cons_succ, List.set_cons_zero]
                  refine dw_val rfl rfl rfl ?_; apply Exists.intro; refine ⟨fun wv HC => ?_, ?_⟩
                  · have hce := HC3.out _ (HC.ro 1 rfl).now; go_simp <;> rfl
                  simp only [Act.put, List.setIfInBounds_toArray, List.set_cons_succ, List.set_cons_zero]
                  refine dw_val rfl rfl rfl ?_; apply Exists.intro; refine ⟨fun wv HC => ?_, ?_⟩
                  ·  go_simp <;> rfl
                  simp only [Act.put, List.setIfInBounds_toArray, List.set_cons_succ, List.set_cons_zero]
                  refine dw_val rfl rfl rfl ?_; apply Exists.intro; refine ⟨fun wv HC => ?_, ?_⟩
                  ·  go_simp <;> rfl
                  simp only [Act.put, List.setIfInBounds_toArray, List.set_cons_succ, List.set_cons_zero]
                  refine dw_val rfl rfl rfl ?_; apply Exists.intro; refine ⟨fun wv HC => ?_, ?_⟩
                  ·  go_simp <;> rfl
                  simp only [Act.put, List.setIfInBounds_toArray, List.set_cons_succ, List.set_cons_zero]
                  refine dw_val rfl rfl rfl ?_; apply Exists.intro; refine ⟨fun wv HC => ?_, ?_⟩
                  ·  go_simp <;> rfl
                  simp only [Act.put, List.setIfInBounds_toArray, List.set_cons_succ, List.set_cons_zero]
                  refine dw_val rfl rfl rfl ?_; apply Exists.intro; refine ⟨fun wv HC => ?_, ?_⟩
                  · have hce := HC2.out _ (HC.ro 0 rfl).now; go_simp <;> rfl
                  simp only [Act.put, List.setIfInBounds_toArray, List.set_cons_succ, List.set_cons_zero]
                  refine dw_val rfl rfl rfl ?_; apply Exists.intro; refine ⟨fun wv HC => ?_, ?_⟩
                  ·  go_simp <;> rfl
                  simp only [Act.put, List.setIfInBounds_toArray, List.set_cons_succ, List.set_cons_zero]
                  refine dw_val rfl rfl rfl ?_; apply Exists.intro; refine ⟨fun wv HC => ?_, ?_⟩
                  ·  go_simp <;> rfl
                  simp only [Act.put, List.setIfInBounds_toArray, List.set_cons_succ, List.set_cons_zero]
                  refine dw_val rfl rfl rfl ?_; apply Exists.intro; refine ⟨fun wv HC => ?_, ?_⟩
                  · have hce := HC4.out _ (HC.ro 1 rfl).now; go_simp <;> rfl
                  simp only [Act.put, List.setIfInBounds_toArray, List.set_cons_succ, List.set_cons_zero]
                  refine rel_nil ?_
                  rintro wx2 HX
                  rintro hrm HG
                  clear HG hrm H
                  go_wp2_with fail
                  refine (rprec_any _ _ HX.mutLt B m d l x.tr y.tr (HX.ro 2 rfl) (by omega)).mono ?_
                  rintro e w5 ⟨rfl, b5⟩
                  rw [HXY.out]
                  have K5 := HX.call b5
                  clear b5 HX
                  go_wp2_with fail
                  go_roundw
                  case rel => exact ⟨p + 1, by omega, by go_num, K5⟩
                  case measure => simp [intOf]; omega
                · obtain rfl : k = p := by omega
                  have hd4 : decide ((k : Int) < (k : Int)) = false := by simp
                  go_wp2_with fail
                  go_roundw
                  case rel => exact ⟨k + 1, by omega, by go_num, H⟩
                  case measure => simp [intOf]; omega
            · obtain rfl : n = k := by omega
              have hd3 : decide ((n : Int) < (n : Int)) = false := by simp
              go_wp2_with fail
              refine (porders_any _ _ H.mutLt A n c its B m d l 200 (H.ro 1 rfl) (H.ro 2 rfl) (by omega) (by omega) (by omega) (by unfold I64; omega)).mono ?_
              rintro e w6 ⟨O6, m6, c6, ovs6, rfl, hm6, hc6, hc62, r6, o6, b6⟩
              have K6 := ((H.call b6).add o6).add (r6.less (mut_none rfl))
              have h200 : m6 ≤ 200 := by have := ordL_le (ordF its l) n 200; omega
              have HM6 := hid hm6
              clear r6 o6 b6 hm6 H
              go_wp2_with fail
              go_loopw [19, 152] (fun fv i wr => ∃ k : Nat, k ≤ m6 ∧ i = .int .i64 k ∧ fv = .bool (((ordL (ordF its l) n 200).take k).any (· == toI F)) ∧ Hold None_ none w wr [.ro (SlR 1 O6 m6 ovs6), .ro (OutsIn ovs6 (ordL (ordF its l) n 200)), .ro (IsIn F1 n (toI F)), .ro (ItsIn A n its), .ro (LksIn B m l)]) (fun _ i _ => m6 - (intOf i).toNat)
              case atStart => exact ⟨0, by omega, rfl, by rw [List.take_zero]; rfl, K6⟩
              case round =>
                clear K6
                obtain ⟨k, hk, rfl, rfl, H⟩ := hrel
                by_cases hlt : k < m6
                · have hd4 : decide ((k : Int) < (m6 : Int)) = true := by simp; omega
                  obtain ⟨b, o, A7, n7, c7, xs, rfl, hx, hcell, hn7, hin⟩ := outs_at (H.ro 0 rfl).now (H.ro 1 rfl).now hlt
                  have hnb := ordL_lens (ordF its l) n 200 _ (List.mem_of_getElem? hx)
                  rw [← hn7] at hnb
                  obtain rfl : n = n7 := hnb.symm
                  clear hnb
                  have HS := hid (show ((ordL (ordF its l) n 200).take (k + 1)).any (· == toI F) = (((ordL (ordF its l) n 200).take k).any (· == toI F) || (xs == toI F)) by
                    rw [List.take_add_one, hx, List.any_append]; simp)
                  clear hx
                  have HI := hid hin; clear hin hn7
                  have HFF := hid ((H.ro 2 rfl).now)
                  generalize hfd : ((ordL (ordF its l) n 200).take k).any (· == toI F) = fd at *
                  clear hfd
                  cases fd
                  · go_wp2_with fail
                    refine (eqInts_any _ A7 n c7 xs F1 n fc (toI F) HI.out HFF.out (by omega) (by omega)).mono ?_
                    rintro e w8 ⟨rfl, q8, rfl⟩
                    have H8 := H.drewN q8
                    go_wp2_with fail
                    go_roundw
                    case rel => exact ⟨k + 1, by omega, by go_num, by rw [HS.out]; rfl, H8⟩
                    case measure => simp [intOf]; omega
                  · go_wp2_with fail
                    go_roundw
                    case rel => exact ⟨k + 1, by omega, by go_num, by rw [HS.out]; rfl, H⟩
                    case measure => simp [intOf]; omega
                · obtain rfl : m6 = k := by omega
                  have hd4 : decide ((m6 : Int) < (m6 : Int)) = false := by simp
                  have hfin : ((ordL (ordF its l) n 200).take m6).any (· == toI F) = true := by
                    rw [List.take_of_length_le (by rw [HM6.out]; exact Nat.le_refl _), List.any_eq_true]
                    exact ⟨toI F, by rw [extS_all _ _ hn5]; exact HME.out, by simp⟩
                  rw [hfin]
                  go_wp2_with fail
                  refine (known_any _).mono ?_
                  rintro e w9 ⟨rfl, b9⟩
                  have K9 := H.call b9
                  go_wp2_with fail
                  go_ret
                  exact ⟨rfl, K9.below⟩
set_option maxRecDepth 100000 in
theorem pickEnds_lifted (os : Os) (started : os.Started) (H : Type) (enc : TypeId × Value → H) :
    ReturnsInHanded {} Try.checked os 5 .any (Rows.pickEndsSpec.pre6 enc Try.prog Try.f5 Rows.pickEndsRow.domain false) (Rows.pickEndsSpec.post enc Try.prog Try.f5 false true false false) := by
  refine returnsInHanded_of_change_sized (C := Try.checked) own started (by kernel_rfl) Try.func5
    (ChangeSpec.witness6 (enc := enc) (C := Try.checked) false ⟨#[], #[.slice none 0 0, .slice none 0 0], []⟩ 8 (by kernel_rfl) (by kernel_rfl) (by kernel_rfl) (by kernel_rfl)) ?_
  intro W base args ds gs before hval0 hW _ hsz0 _
  have hsz : (DataW.weightsEach Try.prog (Try.f5.params.toList ++ Rows.pickEndsSpec.plain.varTypes Try.prog) (ds ++ gs)).all (· ≤ reachBytes) = true := hsz0
  have hval : ∀ (j : Nat) t v, Try.f5.params[j]? = some t → args[j]? = some v → Value.okWide Try.prog W .any base t v := hval0
  have hW' := hW
  obtain ⟨p, q, hA0, hV, rfl, hfz, hnd⟩ := hW
  have hA : DataW.TrodAll enc Try.prog W 0 (fun _ => true) true Try.f5.params.toList args.toList ds p := hA0
  rw [Try.params5] at hA hval hsz
  obtain ⟨v0, vs0, d0, ds0, p0, q0, hargs, rfl, rfl, h0, r0⟩ := trodAll_cons hA
  obtain ⟨v1, vs1, d1, ds1, p1, q1, rfl, rfl, rfl, h1, r1⟩ := trodAll_cons r0
  obtain ⟨rfl, rfl, rfl⟩ := trodAll_nil r1
  obtain rfl : args = #[v0, v1] := by cases args; simp_all
  obtain ⟨rfl, rfl⟩ := trodVars_none hV
  obtain ⟨A0, n0, c0, zs0, rfl, k0, z0, l0, m0, e0⟩ := open_i64s Try.underlying33 Try.underlying3 (by kernel_rfl) (hval 0 33 v0 rfl rfl) h0
  have s0 := reach_slice hsz (j := 0) (n := n0) (by_ := 8) rfl rfl Try.underlying33 (by kernel_rfl) e0 l0
  obtain ⟨A1, n1, c1, zs1, rfl, k1, z1, l1, m1, e1⟩ := open_i64s Try.underlying33 Try.underlying3 (by kernel_rfl) (hval 1 33 v1 rfl rfl) h1
  have s1 := reach_slice hsz (j := 1) (n := n1) (by_ := 8) rfl rfl Try.underlying33 (by kernel_rfl) e1 l1
  refine (pickEnds_walk _ _ _ zs0 _ _ _ zs1 W k0 z0 l0 m0 k1 l1 m1 (by omega)).mono fun e W' ⟨he, hb⟩ => ?_
  exact ⟨_, he, law_post rfl laidOut (by kernel_rfl) (by kernel_rfl) Try.underlying4 rfl hW' hb⟩

theorem pickEnds_holds : Rows.PickEndsSaid :=
  OpenClaim.holds_of_wide 5 Try.f5 rfl rfl rfl rfl rfl rfl rfl ⟨rfl, rfl, rfl, rfl, rfl⟩ rfl rfl rfl rfl rfl (by kernel_rfl) Try.func5 (by kernel_rfl)
    (of_decide_eq_true (by kernel_rfl)) (by unfold Func.isWrapper; first | (rw [if_pos (by decide +kernel)]; kernel_rfl) | (rw [if_neg (by decide +kernel)]; exact ⟨rfl, rfl⟩))
    (fun os started H enc _ => pickEnds_lifted os started H enc)
#print axioms pickEnds_holds
end Go.Proofs.Ytaefjgjojflppaa

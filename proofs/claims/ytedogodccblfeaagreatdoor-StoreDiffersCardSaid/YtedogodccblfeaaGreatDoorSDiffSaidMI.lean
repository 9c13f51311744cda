/- SDiffSaid: Deltas returns what the chapter says, for all stores. No further conditions. -/
import Derived.Test.YtedogodccblfeaaGreatDoorSDiffSaidMH
import Derived.Test.YtedogodccblfeaaGreatDoorSDiffSaidMG
import Derived.Test.YtedogodccblfeaaGreatDoorSDiffSaidMF
import Derived.Test.YtedogodccblfeaaGreatDoorSDiffSaidMA
import Derived.Deep.Slices
import Derived.Deep.Fields
import Derived.ChangeSame
import Derived.Lib.SmallJoins
import Derived.Test.YtedogodccblfeaaGreatDoorSDiffSaidMB
import Derived.Test.YtedogodccblfeaaGreatDoorSDiffSaidMD
import Derived.Test.YtedogodccblfeaaGreatDoorCards
import Derived.Test.YtedogodccblfeaaGreatDoorTie
namespace Go.Proofs.YtedogodccblfeaaGreatDoor
open Go.RowKit
set_option linter.unusedVariables false
set_option linter.unusedSimpArgs false

/-- the answer of undo in a slot -/
def UndSl (M : Nat → Prop) (t : Tb) (u : Value) (w : World) : Prop := ∃ y : Te, u = .tuple #[y.val, .bool true] ∧ y.tb = t ∧ y.ok ∧ Ro w M (TeIn y)
theorem undSl_mono {M : Nat → Prop} {t : Tb} (u : Value) (w w' : World) (hr : RM M w w') (h : UndSl M t u w) : UndSl M t u w' := by
  obtain ⟨y, h1, h2, h3, h4⟩ := h
  exact ⟨y, h1, h2, h3, hr.ro h4⟩
def TesSl (M : Nat → Prop) (ts : List Tb) (u : Value) (w : World) : Prop := ∃ (A : Option Addr) (n c : Nat) (l : List Te), u = .slice A n c ∧ n ≤ c ∧ c ≤ 9223372036854775807 ∧ l.map Te.tb = ts ∧ (∀ x ∈ l, x.ok) ∧ Ro w M (TesIn A n l)
theorem tesSl_mono {M : Nat → Prop} {ts : List Tb} (u : Value) (w w' : World) (hr : RM M w w') (h : TesSl M ts u w) : TesSl M ts u w' := by
  obtain ⟨A, n, c, l, h1, h2, h3, h4, h5, h6⟩ := h
  exact ⟨A, n, c, l, h1, h2, h3, h4, h5, hr.ro h6⟩
def UesSl (M : Nat → Prop) (N K : Nat) (us : List Ud) (u : Value) (w : World) : Prop := ∃ (A : Option Addr) (n c : Nat) (l : List Ue), u = .slice A n c ∧ n ≤ c ∧ c ≤ 9223372036854775807 ∧ l.map Ue.ud = us ∧ (∀ x ∈ l, x.good N K) ∧ Ro w M (UesIn A n l)
theorem uesSl_mono {M : Nat → Prop} {N K : Nat} {us : List Ud} (u : Value) (w w' : World) (hr : RM M w w') (h : UesSl M N K us u w) : UesSl M N K us u w' := by
  obtain ⟨A, n, c, l, h1, h2, h3, h4, h5, h6⟩ := h
  exact ⟨A, n, c, l, h1, h2, h3, h4, h5, hr.ro h6⟩
/-- what Rollback hands back -/
def RollRet (w : World) (M : Nat → Prop) (N K : Nat) (ts : List Tb) (us : List Ud) (e : Ending) (w' : World) : Prop := ∃ (A : Option Addr) (n c : Nat) (l : List Te) (B : Option Addr) (m d : Nat) (g : List Ue), e = .returned (.tuple #[.slice A n c, .slice B m d, .bool true]) ∧
  (n ≤ c ∧ c ≤ 9223372036854775807 ∧ l.map Te.tb = ts ∧ (∀ x ∈ l, x.ok) ∧ Ro w' M (TesIn A n l)) ∧ (m ≤ d ∧ d ≤ 9223372036854775807 ∧ g.map Ue.ud = us ∧ (∀ x ∈ g, x.good N K) ∧ Ro w' M (UesIn B m g)) ∧ Below w.heap.size w w'
set_option maxHeartbeats 16000000 in
set_option maxRecDepth 100000 in
theorem srollA (M : Nat → Prop) (w : World) (hM : ∀ b, M b → b < w.heap.size) (A : Option Addr) (n c : Nat) (l : List Te) (lb lo m d : Nat) (lg : List Ue) (to N K : Nat) (S0 : List Tb) (hn0 : 0 < n) (hn : n ≤ 1000) (hto : to ≤ m) (hm : m ≤ 1000000) (hN : N ≤ 1000000) (hK : K ≤ 4398046511104)
    (hl : Ro w M (TesIn A n l)) (hmd : m ≤ d) (hdm : d ≤ 9223372036854775807) (hlg : Ro w M (UesIn (some ⟨lb, lo, none⟩) m lg)) (hok : ∀ x ∈ l, x.ok ∧ VTab x.tb) (hg : ∀ u ∈ lg, u.good N K) (hv1 : storB (l.map Te.tb) = true) (hv2 : storB S0 = true) (hb : BackR ((lg.drop to).reverse.map Ue.ud) (l.map Te.tb) S0) :
    Calls Tryz.prog 20 #[.slice A n c, .slice (some ⟨lb, lo, none⟩) m d, .int .i64 to] w fun e w' => RollRet w M N K S0 ((lg.take to).map Ue.ud) e w' := by
  have HNK := hid hN
  have HLG := hid (And.intro hg hK)
  have HV2 := hid hv2
  have HOK := hid hok
  have HLL := hid hl.now.len
  have HLM := hid (show lg.length = m from hlg.now.len)
  have K0 := ((Hold.start M w hM).add (hlg.less (by simp [Mut]))).add (hl.less (by simp [Mut, Hp.foot]))
  have HBK := hid hb
  have g1 : decide ((to : Int) < 0) = false := by rw [decide_eq_false_iff_not]; omega
  have g2 : decide ((to : Int) > (m : Int)) = false := by rw [decide_eq_false_iff_not]; omega
  have g3 : ¬ m < to := by omega
  clear hl hlg hok hg hv2 hb
  go_enter Tryz.func20, Tryz.ntmps20
  go_wp2_with fail
  refine (stvalid_any _ _ K0.mutLt A n c l (K0.ro 0 rfl) (fun x hx => ⟨(HOK.out x hx).1, (HOK.out x hx).2.tbm⟩) (by omega)).mono ?_
  rw [hv1]
  rintro e w1 ⟨rfl, b1⟩
  have K1 := K0.call b1
  clear K0 b1 hv1
  go_wp2_with fail
  have HLI := hid (show ∀ x ∈ l, TeLim x from fun x hx => by
    obtain ⟨a, b, c⟩ := VTab.lim (HOK.out x hx).1 ((K1.ro 0 rfl).now.2 x hx) (HOK.out x hx).2
    exact ⟨by omega, by omega, fun r hr => ⟨(c r hr).1, by have := (c r hr).2; omega⟩⟩)
  refine (copiesO_any _ _ K1.mutLt A n c l HLI.out (K1.ro 0 rfl) (by omega)).mono ?_
  rintro e w2 ⟨A9, n9, c9, l9, rfl, hl9, hk9, ho9, hr9, b2⟩
  have hn9 : n9 = n := by
    have a := ho9.1; rw [teCells_len] at a
    have b := congrArg List.length hl9; rw [List.length_map, List.length_map, HLL.out] at b
    omega
  obtain rfl : n = n9 := hn9.symm
  rcases own_addr ho9 with ⟨-, h0, -⟩ | ⟨g, rfl, -⟩
  · omega
  have K2 := ((K1.callOwn b2 ho9).add (hr9.less (by intro b hb; rcases mut_cons.1 hb with h | h; exact .inr ⟨_, List.mem_singleton_self _, h⟩; exact .inl h))).drop (.cons_cons _ (.cons_cons _ (List.sublist_cons_self _ _)))
  have HO9 := hid (show BackR (((lg.drop to).take (m - to)).reverse.map Ue.ud) (l9.map Te.tb) S0 ∧ (∀ x ∈ l9, x.ok ∧ VTab x.tb) ∧ l9.length = n from by
    refine ⟨?_, fun x hx => ⟨hk9 x hx, ?_⟩, ?_⟩
    · rw [hl9, List.take_of_length_le (by rw [List.length_drop, HLM.out]; exact Nat.le_refl _)]; exact HBK.out
    · have h1 : x.tb ∈ l9.map Te.tb := List.mem_map_of_mem hx
      rw [hl9] at h1
      obtain ⟨z, hz, e⟩ := List.mem_map.1 h1
      rw [← e]; exact (HOK.out z hz).2
    · have b := congrArg List.length hl9; rw [List.length_map, List.length_map, HLL.out] at b; exact b)
  have s0 : IntKind.i64.wrap ((m : Int) - 1) = (((to + (m - to) : Nat) : Int) - 1) := by rw [IntKind.wrap_i64]; omega
  clear K1 hn9 hl9 hk9 ho9 hr9 b2 HLI
  go_wp2_with fail
  go_loopw [10] (fun iv wr => ∃ (r : Nat) (outs : List Te), to + r ≤ m ∧ iv = .int .i64 (((to + r : Nat) : Int) - 1) ∧ Hid (BackR (((lg.drop to).take r).reverse.map Ue.ud) (outs.map Te.tb) S0 ∧ (∀ x ∈ outs, x.ok ∧ VTab x.tb) ∧ outs.length = n) ∧ Hold M none w wr [.ro (TeVals outs), .own 58 4 (.slice (some ⟨g, 0, none⟩) n c9) n (teCells outs), .ro (UesIn (some ⟨lb, lo, none⟩) m lg)]) (fun iv _ => (intOf iv + 1).toNat - to)
  case atStart => exact ⟨m - to, l9, by omega, by first | rfl | exact congrArg _ s0 | (congr 1; omega), HO9, K2⟩
  case round =>
    clear K2 HO9 s0 HBK
    obtain ⟨r, outs, hr, rfl, HS, H⟩ := hrel
    rcases r with _ | r
    · skip
      have hd : decide ((to : Int) - 1 ≥ (to : Int)) = false := by rw [decide_eq_false_iff_not]; omega
      have hd5 : ¬ ((to : Int) ≤ (to : Int) - 1) := by omega
      rw [show (((to + 0 : Nat) : Int) - 1) = (to : Int) - 1 from rfl]
      have HS0 := hid (show outs.map Te.tb = S0 from HS.out.1)
      have HSO := hid HS.out.2
      have hcap := own_caps (H.get 1 rfl)
      have KS := H.sealRow 1 rfl
      simp only [List.set_cons_zero, List.set_cons_succ] at KS
      have KT := (KS.add ((KS.ro 1 rfl).and (KS.ro 0 rfl) : Ro wr _ (TesIn (some ⟨g, 0, none⟩) n outs))).drop (.cons_cons _ (.cons _ (List.sublist_cons_self _ _)))
      clear H KS HS
      go_wp2_with fail
      refine (stvalid_any _ _ KT.mutLt (some ⟨g, 0, none⟩) n c9 outs (KT.ro 0 rfl) (fun x hx => ⟨(HSO.out.1 x hx).1, (HSO.out.1 x hx).2.tbm⟩) (by omega)).mono ?_
      rw [HS0.out, HV2.out]
      rintro e w3 ⟨rfl, b3⟩
      have K5 := KT.call b3
      clear KT b3
      have HLI := hid (show ∀ x ∈ outs, TeLim x from fun x hx => by
        obtain ⟨a, b, c⟩ := VTab.lim (HSO.out.1 x hx).1 ((K5.ro 0 rfl).now.2 x hx) (HSO.out.1 x hx).2
        exact ⟨by omega, by omega, fun r hr => ⟨(c r hr).1, by have := (c r hr).2; omega⟩⟩)
      have j0 : (0 : Int) ≤ (to : Int) := by omega
      have j1 : (to : Int) ≤ (d : Int) := by omega
      go_wp2_with fail
      refine wp_region_any (by kernel_rfl) ?_
      refine wpAny_holdC 6 73 ([.ro (TesIn (some ⟨g, 0, none⟩) n outs), .ro (UesIn (some ⟨lb, lo, none⟩) m lg)]) (spL [(68, TesSl (Mut M [.ro (TesIn (some ⟨g, 0, none⟩) n outs), .ro (UesIn (some ⟨lb, lo, none⟩) m lg)]) S0), (72, UesSl (Mut M [.ro (TesIn (some ⟨g, 0, none⟩) n outs), .ro (UesIn (some ⟨lb, lo, none⟩) m lg)]) N K ((lg.take to).map Ue.ud))]) (by kernel_rfl) (by kernel_rfl) (by kernel_rfl) rfl ?_ (K5.drew) ?_
      · exact stays_cons tesSl_mono (stays_cons uesSl_mono (stays_nil _))
      simp only [zd, Act.put, List.getElem_toArray, List.getElem_cons_zero, List.getElem_cons_succ, zl]
      repeat (first | (refine dw_skip rfl rfl rfl ?_; simp only [Act.put, zl]) | (refine dw_val rfl rfl rfl ?_; apply Exists.intro; refine ⟨fun wv HC => ?_, ?_⟩; (focus ( go_simp <;> rfl; done)); simp only [Act.put, zl]))
      refine dw_callR 68 (TesSl (Mut M [.ro (TesIn (some ⟨g, 0, none⟩) n outs), .ro (UesIn (some ⟨lb, lo, none⟩) m lg)]) S0) (f := 65) (args := #[.slice (some ⟨g, 0, none⟩) n c9]) rfl rfl rfl rfl (fun wv => ?_) (fun wv HC hrm hD => ?_) ?_
      · go_simp <;> rfl
      · refine (copies_any _ wv HC.mutLt (some ⟨g, 0, none⟩) n c9 outs HLI.out (HC.ro 0 rfl) (by omega)).mono ?_
        rintro e w5 ⟨A5, n5, c5, l5, rfl, h1, h2, h3, h4, r5, b5⟩
        exact ⟨_, rfl, ⟨A5, n5, c5, l5, rfl, h1, h2, h3.trans HS0.out, h4, r5⟩, HC.call b5, RM.below b5⟩
      rintro u_ wx HCx ⟨A5, n5, c5, l5, rfl, -, -, -, -, -⟩
      clear HCx
      simp only [Act.put, zl]
      repeat (first | (refine dw_skip rfl rfl rfl ?_; simp only [Act.put, zl]) | (refine dw_val rfl rfl rfl ?_; apply Exists.intro; refine ⟨fun wv HC => ?_, ?_⟩; (focus ( go_simp <;> rfl; done)); simp only [Act.put, zl]))
      refine dw_callR 72 (UesSl (Mut M [.ro (TesIn (some ⟨g, 0, none⟩) n outs), .ro (UesIn (some ⟨lb, lo, none⟩) m lg)]) N K ((lg.take to).map Ue.ud)) (f := 67) (args := #[.slice (some ⟨lb, lo, none⟩) to d]) rfl rfl rfl rfl (fun wv => ?_) (fun wv HC hrm hD => ?_) ?_
      · go_simp <;> rfl
      · refine (scopylog_any _ wv HC.mutLt (some ⟨lb, lo, none⟩) to d N K HNK.out HLG.out.2 (lg.take to) (fun x hx => HLG.out.1 x (List.mem_of_mem_take hx)) ((HC.ro 1 rfl).imp fun w2 h2 => uesIn_take h2 (by omega)) (by omega)).mono ?_
        intro e w5 h
        obtain ⟨A5, n5, c5, l5, rfl, h1, h2, h3, h4, r5, b5⟩ := h.ret HC.mutLt
        exact ⟨_, rfl, ⟨A5, n5, c5, l5, rfl, h1, h2, h3, h4, r5⟩, HC.call b5, RM.below b5⟩
      rintro u_ wx HCx ⟨A6, n6, c6, l6, rfl, -, -, -, -, -⟩
      clear HCx
      simp only [Act.put, zl]
      refine rel_nil ?_
      rintro wx HX _hrm HG
      simp only [List.length_cons, List.length_nil, Nat.reduceAdd, Nat.reduceSub]
      have hu1 : TesSl (Mut M [.ro (TesIn (some ⟨g, 0, none⟩) n outs), .ro (UesIn (some ⟨lb, lo, none⟩) m lg)]) S0 (.slice A5 n5 c5) wx := (GW_on (d := 68) rfl).1 (HG 1 _ rfl (by omega))
      have hu2 : UesSl (Mut M [.ro (TesIn (some ⟨g, 0, none⟩) n outs), .ro (UesIn (some ⟨lb, lo, none⟩) m lg)]) N K ((lg.take to).map Ue.ud) (.slice A6 n6 c6) wx := (GW_on (d := 72) rfl).1 (HG 5 _ rfl (by omega))
      clear HG _hrm
      obtain ⟨A7, n7, c7, l7, e7, p1, p2, p3, p4, r7⟩ := hu1
      obtain ⟨A8, n8, c8, l8, e8, t1, t2, t3, t4, r8⟩ := hu2
      injection e7 with q1 q2 q3
      injection e8 with q4 q5 q6
      subst q1 q2 q3 q4 q5 q6
      refine wpAny_take (i := 6) (v := .slice A5 n5 c5) rfl (by kernel_rfl) (by kernel_rfl) (by kernel_rfl) (fun _ _ _ h => h) (Or.inl ⟨by rfl, fun w => ?_⟩) ?_
      · go_simp
      simp only [Act.put, List.getElem_toArray, List.getElem_cons_zero, List.getElem_cons_succ, List.setIfInBounds_toArray, List.set_cons_succ, List.set_cons_zero]
      refine wpAny_take (i := 7) (v := .slice A6 n6 c6) rfl (by kernel_rfl) (by kernel_rfl) (by kernel_rfl) (fun _ _ _ h => h) (Or.inl ⟨by rfl, fun w => ?_⟩) ?_
      · go_simp
      simp only [Act.put, List.getElem_toArray, List.getElem_cons_zero, List.getElem_cons_succ, List.setIfInBounds_toArray, List.set_cons_succ, List.set_cons_zero]
      refine wpAny_take (i := 8) (v := .bool true) rfl (by kernel_rfl) (by kernel_rfl) (by kernel_rfl) (fun _ _ _ h => h) (Or.inl ⟨by rfl, fun w => ?_⟩) ?_
      · go_simp
      simp only [Act.put, List.getElem_toArray, List.getElem_cons_zero, List.getElem_cons_succ, List.setIfInBounds_toArray, List.set_cons_succ, List.set_cons_zero]
      refine wpAny_done (by kernel_rfl) ?_ _
      have HB := HX.below
      have ra := r7.less (M' := M) fun b hb => .inl hb
      have rb := r8.less (M' := M) fun b hb => .inl hb
      go_wp2_with fail
      (try simp only [Exit.inBlock, Exit.then])
      refine bodyPost_ret (results_tmp3 rfl _ _ _) rfl ?_
      exact ⟨A5, n5, c5, l7, A6, n6, c6, l8, rfl, ⟨p1, p2, p3, p4, ra⟩, ⟨t1, t2, t3, t4, rb⟩, HB⟩
    · rw [show (((to + (r + 1) : Nat) : Int) - 1) = ((to + r : Nat) : Int) by omega]
      obtain ⟨p, hp⟩ : ∃ p, p = to + r := ⟨_, rfl⟩
      rw [← hp]
      have hd : decide ((p : Int) ≥ (to : Int)) = true := by rw [decide_eq_true_iff]; omega
      have hd3 : to ≤ p := by omega
      have hd4 : p < m := by omega
      have i0 : (0 : Int) ≤ (p : Int) := by omega
      have i1 : (p : Int) < (m : Int) := by omega
      obtain ⟨u, hu⟩ := get_of HLM.out (show p < m by omega)
      have HU := hid hu
      have hb := HS.out.1
      rw [back_next (hp ▸ hu)] at hb
      obtain ⟨k, a, b', hk, hf, hst, hbk⟩ := hb
      obtain ⟨x, hx, rfl⟩ : ∃ x, outs[k]? = some x ∧ x.tb = b' := by
        rw [List.getElem?_map] at hk
        cases h : outs[k]? with
        | none => rw [h] at hk; cases hk
        | some x => rw [h] at hk; exact ⟨x, rfl, by simpa using hk⟩
      have HXK := hid hx
      have HXO := hid (HS.out.2.1 x (List.mem_of_getElem? hx))
      have HBK := hid hbk
      have HST := hid hst
      have HO := hid HS.out.2
      have hkn : k < n := by rw [← HS.out.2.2]; exact (List.getElem?_eq_some_iff.1 hx).1
      have HXM := hid (show x.m ≤ 1000000 from by
        have := (VTab.lim HXO.out.1 ((H.ro 0 rfl).now x (List.mem_of_getElem? hx)) HXO.out.2).2.1; omega)
      have HTA := hid (show (⟨x.nm, x.cs, u.nx, a.rs⟩ : Tb) = a from by
        have h1 := hst.later.1
        have h2 := hst.later.2.1
        have h3 : u.nx = a.nx := congrArg Ud.nx hst.rec_
        cases a
        simp only [Te.tb] at h1 h2 h3 ⊢
        rw [h1, h2, h3])
      obtain ⟨lb2, lo2, hA2, hb2, d0, -⟩ := (H.ro 2 rfl).now.at_ hu
      injection hA2 with hA2
      injection hA2 with e1 e2
      subst e1 e2
      clear hu hx hbk hst hk HS
      have hr9 : to + r ≤ m := by omega
      clear hr
      have HP := hid hp
      clear hp
      go_wp2_with fail
      refine (stfind_any None_ _ (fun b hb => hb.elim) (some ⟨g, 0, none⟩) n c9 outs u.nm (show Ro wr None_ (TesIn (some ⟨g, 0, none⟩) n outs) from fun w2 a b => ⟨Rd.of_own (own_RM (M := None_) (fun b hb => hb.elim) ⟨a, b⟩ (H.get 1 rfl)), ((H.ro 0 rfl).less (fun b hb => hb.elim)) w2 a b⟩) (by omega)).mono ?_
      rw [show findS (outs.map Te.tb) u.nm = (k : Int) from hf]
      rintro e w1 ⟨rfl, b1⟩
      have K1 := H.call b1
      have hk0 : decide ((k : Int) < 0) = false := by rw [decide_eq_false_iff_not]; omega
      have k0 : (0 : Int) ≤ (k : Int) := by omega
      have k1 : (k : Int) < (n : Int) := by omega
      clear H b1 hf d0
      go_wp2_with fail
      obtain ⟨KL, hKL, KN⟩ := K1.name
      have HF : Hid (∀ wv, Hold M none w wv KL → wv.cell? ⟨g, k * 4, none⟩ = some (.string x.nm) ∧ wv.cell? ⟨g, k * 4 + 1, none⟩ = some (.slice x.A x.n x.c) ∧ wv.cell? ⟨g, k * 4 + 2, none⟩ = some (.int .i64 x.nx) ∧ wv.cell? ⟨g, k * 4 + 3, none⟩ = some (.slice x.B x.m x.d) ∧ g < wv.heap.size ∧
          wv.cell? ⟨lb, lo + p * 5, none⟩ = some (.string u.nm) ∧ wv.cell? ⟨lb, lo + p * 5 + 1, none⟩ = some (.int .i64 u.nx) ∧ wv.cell? ⟨lb, lo + p * 5 + 2, none⟩ = some (.slice u.I u.ni u.ci) ∧ wv.cell? ⟨lb, lo + p * 5 + 3, none⟩ = some (.slice u.D u.nd u.cd) ∧ wv.cell? ⟨lb, lo + p * 5 + 4, none⟩ = some (.slice u.U u.nu u.cu) ∧ lb < wv.heap.size) := hid fun wv HC => by
        rw [hKL] at HC
        have ho := HC.get 1 rfl
        obtain ⟨b1, o1, e, hb, d0, d1, d2, d3, d4, -⟩ := (HC.ro 2 rfl).now.at_ HU.out
        injection e with e
        injection e with e1 e2
        subst e1 e2
        exact ⟨(ho.cellAt _ (by omega)).trans (flat_get Te.cells 4 (fun _ => rfl) outs k 0 x (by omega) HXK.out), (ho.cellAt _ (by omega)).trans (flat_get Te.cells 4 (fun _ => rfl) outs k 1 x (by omega) HXK.out), (ho.cellAt _ (by omega)).trans (flat_get Te.cells 4 (fun _ => rfl) outs k 2 x (by omega) HXK.out), (ho.cellAt _ (by omega)).trans (flat_get Te.cells 4 (fun _ => rfl) outs k 3 x (by omega) HXK.out), (ho.lt g rfl).2, d0, d1, d2, d3, d4, hb⟩
      have HX : Hid (∀ wv, Hold M none w wv KL → Ro wv (Mut M KL) (TeIn x) ∧ Ro wv (Mut M KL) (UeIn u)) := hid fun wv HC => by
        rw [hKL] at HC ⊢
        exact ⟨(HC.ro 0 rfl).imp fun w2 h2 => h2 x (List.mem_of_getElem? HXK.out), (HC.ro 2 rfl).imp fun w2 h2 => h2.2 u (List.mem_of_getElem? HU.out)⟩
      have HKL := hid hKL
      clear hKL K1
      obtain ⟨Hb, hHb⟩ : ∃ Hb, Hb = w1.drew.heap.size := ⟨_, rfl⟩
      have HHb := hid hHb
      clear hHb
      refine wp_region_any (by kernel_rfl) ?_
      refine wpAny_holdE [11] 13 73 (KL) (spL [(55, UndSl (Mut M KL) a), (46, UndSl (Mut M KL) a), (12, NewSlot (Mut M KL) Hb 58 #[.string ⟨#[]⟩, .slice none 0 0, .int .i64 0, .slice none 0 0])]) (by kernel_rfl) (fun _ d _ _ _ h => by cases d <;> exact h) (by kernel_rfl) (by kernel_rfl) rfl ?_ (KN.drew) ?_
      · exact stays_cons undSl_mono (stays_cons undSl_mono (stays_cons newSlot_mono (stays_nil _)))
      simp only [zd, Act.put, List.getElem_toArray, List.getElem_cons_zero, List.getElem_cons_succ, zl]
      repeat (first | (refine dw_skip rfl rfl rfl ?_; simp only [Act.put, zl]) | (refine dw_val rfl rfl rfl ?_; apply Exists.intro; refine ⟨fun wv HC => ?_, ?_⟩; (focus (obtain ⟨f0, f1, f2, f3, f4, d0, d1, d2, d3, d4, d5⟩ := HF.out _ HC; go_simp <;> rfl; done)); simp only [Act.put, zl]))
      refine dw_callR 55 (UndSl (Mut M KL) a) (f := 66) (args := #[.agg #[.string x.nm, .slice x.A x.n x.c, .int .i64 x.nx, .slice x.B x.m x.d], .agg #[.string u.nm, .int .i64 u.nx, .slice u.I u.ni u.ci, .slice u.D u.nd u.cd, .slice u.U u.nu u.cu]]) rfl rfl rfl rfl (fun wv => ?_) (fun wv HC hrm hD => ?_) ?_
      · go_simp <;> rfl
      · refine (sundoT_any _ wv HC.mutLt x u N K a.rs HNK.out HXO.out.1 HXM.out (HLG.out.1 u (List.mem_of_getElem? HU.out)) (HX.out _ HC).1 (HX.out _ HC).2 (undOk_of HST.out)).mono ?_
        rintro e w5 ⟨y, rfl, hy, hyo, ry, b5⟩
        exact ⟨_, rfl, ⟨y, rfl, hy.trans HTA.out, hyo, ry⟩, HC.call b5, RM.below b5⟩
      rintro u_ wx HCx ⟨y, rfl, -, -, -⟩
      clear HCx
      simp only [Act.put, zl]
      have hyv : y.val = .agg #[.string y.nm, .slice y.A y.n y.c, .int .i64 y.nx, .slice y.B y.m y.d] := rfl
      rw [hyv]
      clear hyv
      refine dw_valC 46 (UndSl (Mut M KL) a) rfl rfl rfl rfl (.tuple #[.agg #[.string y.nm, .slice y.A y.n y.c, .int .i64 y.nx, .slice y.B y.m y.d], .bool true]) (fun wv HC => ?_) (fun wv HC hD => ?_) ?_
      · go_simp <;> rfl
      · exact deps_at hD 8 rfl (by kernel_rfl) rfl rfl
      simp only [Act.put, zl]
      refine dw_val rfl rfl rfl ?_; apply Exists.intro; refine ⟨fun wv HC => ?_, ?_⟩
      ·  go_simp <;> rfl
      simp only [Act.put, zl]
      refine dw_val rfl rfl rfl ?_; apply Exists.intro; refine ⟨fun wv HC => ?_, ?_⟩
      ·  go_simp <;> rfl
      simp only [Act.put, zl]
      refine dw_new #[.string ⟨#[]⟩, .slice none 0 0, .int .i64 0, .slice none 0 0] 58 12 (NewSlot (Mut M KL) Hb 58 #[.string ⟨#[]⟩, .slice none 0 0, .int .i64 0, .slice none 0 0]) (fun g => .pointer (some ⟨g, 0, none⟩)) rfl rfl rfl rfl (fun wv => ?_) (fun wv HC hrm hD hro => ?_) ?_
      · go_simp <;> rfl
      · exact ⟨_, rfl, by have := hrm.1; rw [HHb.out]; exact this, hro _ HC.mutLt⟩
      rintro gb wg HCg hsl
      simp only [Act.put, zl]
      clear hsl HCg
      refine rel_nil ?_
      rintro wxb HY
      rintro _hrm HGW
      have hap : UndSl (Mut M KL) a (.tuple #[.agg #[.string y.nm, .slice y.A y.n y.c, .int .i64 y.nx, .slice y.B y.m y.d], .bool true]) wxb := (GW_on (d := 46) rfl).1 (HGW 9 _ rfl (by omega))
      have hns : NewSlot (Mut M KL) Hb 58 #[.string ⟨#[]⟩, .slice none 0 0, .int .i64 0, .slice none 0 0] (.pointer (some ⟨gb, 0, none⟩)) wxb := (GW_on (d := 12) rfl).1 (HGW 12 _ rfl (by omega))
      clear HGW
      obtain ⟨g7, hg7, hgH, hgB⟩ := hns
      obtain rfl : gb = g7 := by injection hg7 with hg7; injection hg7 with hg7; injection hg7
      clear hg7
      rw [HHb.out] at hgH
      have HB := Hold.addFreshBlk KN.drew HY _hrm hgH hgB.now
      obtain ⟨y2, e2, hy, hyo, ry⟩ := hap
      have ev : Value.agg #[.string y.nm, .slice y.A y.n y.c, .int .i64 y.nx, .slice y.B y.m y.d] = .agg #[.string y2.nm, .slice y2.A y2.n y2.c, .int .i64 y2.nx, .slice y2.B y2.m y2.d] := by
        have h := e2
        simp only [Te.val, Value.tuple.injEq, Array.mk.injEq, List.cons.injEq, and_true] at h
        exact h
      rw [ev]
      have rY : Ro wxb (Mut M (.blk gb 58 #[.string ⟨#[]⟩, .slice none 0 0, .int .i64 0, .slice none 0 0] :: KL)) (TeIn y2) := (te_apart ry (by rw [hy]; exact HST.out.va) hgB.now).less fun b hb => (mut_cons.1 hb).elim (fun hf => Or.inl (by have hf : some gb = some b := hf; injection hf with hf; exact hf.symm)) Or.inr
      have K3 := HB.add rY
      rw [HKL.out] at K3
      have HY2 := hid (And.intro hy hyo)
      clear ev e2 hy hyo ry hgB hgH HY _hrm HHb KN HF HX HKL HB rY
      have FB := K3.facts
      simp only [factsL, cellsF, Nat.reduceAdd, zf, zl] at FB
      have K4 := (((K3.store 1 rfl 0 (.string y2.nm)).store 1 rfl 1 (.slice y2.A y2.n y2.c)).store 1 rfl 2 (.int .i64 y2.nx)).store 1 rfl 3 (.slice y2.B y2.m y2.d)
      simp only [List.set_cons_zero, List.set_cons_succ, List.setIfInBounds_toArray] at K4
      obtain ⟨V9, hV9⟩ : ∃ v, v = Value.slice (some ⟨g, 0, none⟩) n c9 := ⟨_, rfl⟩
      rw [← hV9]
      have HV9 := hid hV9
      clear hV9
      go_wp2_with fail
      rw [HV9.out]
      clear HV9 FB
      generalize World.setCell _ _ _ = w12 at K4 ⊢
      have FC := K4.facts
      simp only [factsL, cellsF, Nat.reduceAdd, zf, zl] at FC
      have ho := K4.get 3 rfl
      have q0 : _ = some (Value.string x.nm) := (ho.cellAt (k * 4) (by omega)).trans (flat_get Te.cells 4 (fun _ => rfl) outs k 0 x (by omega) HXK.out)
      have q1 : _ = some (Value.slice x.A x.n x.c) := (ho.cellAt (k * 4 + 1) (by omega)).trans (flat_get Te.cells 4 (fun _ => rfl) outs k 1 x (by omega) HXK.out)
      have q2 : _ = some (Value.int .i64 x.nx) := (ho.cellAt (k * 4 + 2) (by omega)).trans (flat_get Te.cells 4 (fun _ => rfl) outs k 2 x (by omega) HXK.out)
      have q3 : _ = some (Value.slice x.B x.m x.d) := (ho.cellAt (k * 4 + 3) (by omega)).trans (flat_get Te.cells 4 (fun _ => rfl) outs k 3 x (by omega) HXK.out)
      have z0 := ho.frozenAt (k * 4)
      have z1 := ho.frozenAt (k * 4 + 1)
      have z2 := ho.frozenAt (k * 4 + 2)
      have z3 := ho.frozenAt (k * 4 + 3)
      have gl := (ho.lt g rfl).2
      have gne := K4.apart_ 1 3 rfl rfl (by omega) rfl rfl
      clear ho
      have KA1 := K4.put_ 3 rfl (k * 4) (.string y2.nm)
      have KA2 := KA1.put_ 3 rfl (k * 4 + 1) (.slice y2.A y2.n y2.c)
      have KA3 := KA2.put_ 3 rfl (k * 4 + 2) (.int .i64 y2.nx)
      have K5 := KA3.put_ 3 rfl (k * 4 + 3) (.slice y2.B y2.m y2.d)
      simp only [List.set_cons_zero, List.set_cons_succ, List.setIfInBounds_toArray] at KA1
      simp only [List.set_cons_zero, List.set_cons_succ, List.setIfInBounds_toArray] at KA2
      simp only [List.set_cons_zero, List.set_cons_succ, List.setIfInBounds_toArray] at KA3
      simp only [List.set_cons_zero, List.set_cons_succ, List.setIfInBounds_toArray] at K5
      have e1 : _ = some (Value.slice x.A x.n x.c) := ((KA1.get 3 rfl).cellAt (k * 4 + 1) (by omega)).trans ((List.getElem?_set_ne (by omega)).trans (flat_get Te.cells 4 (fun _ => rfl) outs k 1 x (by omega) HXK.out))
      have e2 : _ = some (Value.int .i64 x.nx) := ((KA2.get 3 rfl).cellAt (k * 4 + 2) (by omega)).trans ((List.getElem?_set_ne (by omega)).trans ((List.getElem?_set_ne (by omega)).trans (flat_get Te.cells 4 (fun _ => rfl) outs k 2 x (by omega) HXK.out)))
      have e3 : _ = some (Value.slice x.B x.m x.d) := ((KA3.get 3 rfl).cellAt (k * 4 + 3) (by omega)).trans ((List.getElem?_set_ne (by omega)).trans ((List.getElem?_set_ne (by omega)).trans ((List.getElem?_set_ne (by omega)).trans (flat_get Te.cells 4 (fun _ => rfl) outs k 3 x (by omega) HXK.out))))
      have y1 := (KA1.get 3 rfl).frozenAt (k * 4 + 1)
      have y2_ := (KA2.get 3 rfl).frozenAt (k * 4 + 2)
      have y3 := (KA3.get 3 rfl).frozenAt (k * 4 + 3)
      clear KA1 KA2 KA3
      rw [teCells_set y2 HXK.out] at K5
      have K6 := (K5.swapRo 2 rfl (teVals_set (k := k) (K5.ro 2 rfl) (K5.ro 0 rfl))).drop (.cons _ (List.sublist_cons_self _ _))
      simp only [List.set_cons_zero, List.set_cons_succ, List.setIfInBounds_toArray] at K6
      go_wp2_with fail
      iterate 4 (try simp only [Result.andThen_ok, e1, y1, e2, y2_, e3, y3, Bool.false_eq_true, if_false])
      go_wp2_with fail
      go_roundw
      case rel => exact ⟨r, outs.set k y2, by omega, by (rw [← HP.out] <;> first | rfl | go_num), hid ⟨by rw [List.map_set, HY2.out.1]; exact HBK.out, fun z hz => by
        rcases List.mem_or_eq_of_mem_set hz with hz | rfl
        · exact HO.out.1 z hz
        · exact ⟨HY2.out.2, by rw [HY2.out.1]; exact HST.out.va⟩, by rw [List.length_set]; exact HO.out.2⟩, K6⟩
      case measure => (have hp3 := HP.out; simp [intOf]; omega)
end Go.Proofs.YtedogodccblfeaaGreatDoor

namespace Go.Proofs.YtedogodccblfeaaGreatDoor
open Go.RowKit
set_option linter.unusedVariables false
set_option linter.unusedSimpArgs false

theorem teIn_of {w : World} {M : Nat → Prop} {A : Option Addr} {n : Nat} {cs : List Col} {B : Option Addr} {m : Nat} {l : List Rw} (nm : ByteArray) (c : Nat) (nx : Int) (d : Nat) (h : Ro w M (ColsIn A n cs)) (k : Ro w M (RwsIn B m l)) : Ro w M (TeIn ⟨nm, A, n, c, cs, nx, B, m, d, l⟩) := h.and k
theorem k9_findS (lc : List Col) : findS [⟨nmLog, lc, 1, []⟩] ⟨#[108, 111, 103]⟩ = 0 := by
  have e : nmLog = ⟨#[108, 111, 103]⟩ := by rfl
  rw [e]; unfold findS findB; rw [findFrom, if_pos (by simp)]; rfl
set_option maxHeartbeats 8000000 in
set_option maxRecDepth 100000 in
theorem known9 : Gives 23 #[] (.bool true) := by
  intro w
  have K0 := Hold.begin_ w
  go_enter Tryz.func23, Tryz.ntmps23
  go_wp2_with fail
  refine (schema_log _ _ K0.mutLt).mono ?_
  rintro e w1 ⟨A, n, c, rfl, h1, h2, r1, b1⟩
  have K1 := (K0.call b1).add r1
  clear K0 r1 b1
  have HBT := hid k9_bet
  have HST := hid k9_step
  have HBK := hid k9_back
  have HSA := hid k9_stoa
  have HSB := hid k9_stob
  have HVA := hid k9_va
  have HVB := hid k9_vb
  unfold k9a k9b at *
  generalize hU : nmLog = nl at *
  generalize hC : logCols = lc at *
  have HU := hid hU
  have HC := hid hC
  clear hU hC
  have hn2 : lc.length = n := cols_n (K1.ro 0 rfl).now
  have K2 := ((((K1.alloc_cst #[.string nl, .slice A n c] 49).alloc_cst #[.string nl, .slice A n c, .int .i64 1, .slice none 0 0] 58).alloc_cst #[.int .i64 0, .int .i64 0, .string ⟨#[]⟩, .int .i64 0, .int .i64 0, .string ⟨#[]⟩] 117).alloc_cst #[.int .i64 1, .slice (some ⟨w1.heap.size + 1 + 1, 0, none⟩) 2 2] 119).alloc_cst #[.string nl, .slice A n c, .int .i64 2, .slice (some ⟨w1.heap.size + 1 + 1 + 1, 0, none⟩) 1 1] 58
  simp only [World.size_alloc] at K2
  have F2 := K2.facts
  simp only [factsL, cellsF, Nat.reduceAdd, zf, zl] at F2
  go_wp2_with fail
  obtain ⟨g0, hg0⟩ : ∃ g, g = w1.heap.size := ⟨_, rfl⟩
  rw [← hg0] at K2 ⊢
  have HG0 := hid hg0
  clear hg0
  have q1 : Ro _ _ (VlsIn (some ⟨g0 + 1 + 1, 0, none⟩) 2 [vNil, vNil]) := ro_block (t := 117) (cs := #[.int .i64 0, .int .i64 0, .string ⟨#[]⟩, .int .i64 0, .int .i64 0, .string ⟨#[]⟩]) (K2.get 2 rfl) rfl
  have q2 : Ro _ _ (SlR 2 (some ⟨g0 + 1 + 1 + 1, 0, none⟩) 1 (rwCells [⟨1, some ⟨g0 + 1 + 1, 0, none⟩, 2, 2, [vNil, vNil]⟩])) := ro_block (t := 119) (cs := #[.int .i64 1, .slice (some ⟨g0 + 1 + 1, 0, none⟩) 2 2]) (K2.get 1 rfl) rfl
  have q3 : Ro _ _ (RwsIn (some ⟨g0 + 1 + 1 + 1, 0, none⟩) 1 [⟨1, some ⟨g0 + 1 + 1, 0, none⟩, 2, 2, [vNil, vNil]⟩]) := q2.and (fun w2 h1 h2 r hr => by
    simp only [List.mem_cons, List.not_mem_nil, or_false] at hr
    subst hr
    exact q1 w2 h1 h2)
  have tb : Ro _ _ (TeIn ⟨nl, A, n, c, lc, 2, some ⟨g0 + 1 + 1 + 1, 0, none⟩, 1, 1, [⟨1, some ⟨g0 + 1 + 1, 0, none⟩, 2, 2, [vNil, vNil]⟩]⟩) := teIn_of nl c 2 1 (K2.ro 5 rfl) q3
  have ta : Ro _ _ (TeIn ⟨nl, A, n, c, lc, 1, none, 0, 0, []⟩) := teIn_of nl c 1 0 (K2.ro 5 rfl) (fun _ _ _ => ⟨Rd.none_, fun r hr => nomatch hr⟩)
  have oa : Te.ok ⟨nl, A, n, c, lc, 1, none, 0, 0, []⟩ := ⟨h1, by show c ≤ _; omega, Nat.le_refl _, by show (0 : Nat) ≤ _; omega, fun r hr => nomatch hr⟩
  have ob : Te.ok ⟨nl, A, n, c, lc, 2, some ⟨g0 + 1 + 1 + 1, 0, none⟩, 1, 1, [⟨1, some ⟨g0 + 1 + 1, 0, none⟩, 2, 2, [vNil, vNil]⟩]⟩ := ⟨h1, by show c ≤ _; omega, Nat.le_refl _, by show (1 : Nat) ≤ _; omega, fun r hr => by
    simp only [List.mem_cons, List.not_mem_nil, or_false] at hr
    subst hr
    exact ⟨by show I64 1; unfold I64; omega, by simp, by simp, fun v hv => by
      simp only [List.mem_cons, List.not_mem_nil, or_false] at hv
      rcases hv with rfl | rfl <;> exact vNil_ok⟩⟩
  have HOA := hid oa
  have HOB := hid ob
  have K3 := (K2.add tb).add (ta.less (by simp [Mut, Hp.foot]))
  refine (record_any _ _ K3.mutLt none 0 0 10 10 [] ⟨nl, A, n, c, lc, 1, none, 0, 0, []⟩ ⟨nl, A, n, c, lc, 2, some ⟨g0 + 1 + 1 + 1, 0, none⟩, 1, 1, [⟨1, some ⟨g0 + 1 + 1, 0, none⟩, 2, 2, [vNil, vNil]⟩]⟩ k9d oa ob (K3.ro 0 rfl) (K3.ro 1 rfl) HVA.out.tbm HVB.out.tbm (fun _ _ _ => ⟨Rd.none_, fun r hr => nomatch hr⟩) (fun u hu => nomatch hu) (by omega) (by omega) (by omega) HBT.out (by decide) (by decide) (by decide) (by decide) (by decide) (by decide)).mono ?_
  rintro e w2 ⟨A5, n5, c5, l5, rfl, h3, h4, h5, h6, r5, b2⟩
  have K4 := (K3.call b2).add r5
  have HL5 := hid h5
  have HG5 := hid h6
  have hn5 : n5 = 1 := by have a := r5.now.len; have b := congrArg List.length h5; rw [List.length_map] at b; simp at b; omega
  subst hn5
  have hx5 : ∃ u, l5[0]? = some u := get_of r5.now.len (by omega)
  obtain ⟨u5, hu5⟩ := hx5
  obtain ⟨b5, o5, rfl, -⟩ := r5.now.at_ hu5
  clear K2 K3 q1 q2 q3 tb ta oa ob F2 h5 h6 r5 b2 hu5
  have F4 := K4.facts
  simp only [factsL, cellsF, Nat.reduceAdd, zf, zl] at F4
  go_wp2_with fail
  have K5 := K4.alloc_cst #[.string nl, .slice A n c, .int .i64 2, .slice (some ⟨g0 + 1 + 1 + 1, 0, none⟩) 1 1] 58
  have rb : Ro _ _ (TesIn (some ⟨w2.heap.size, 0, none⟩) [(⟨nl, A, n, c, lc, 2, some ⟨g0 + 1 + 1 + 1, 0, none⟩, 1, 1, [⟨1, some ⟨g0 + 1 + 1, 0, none⟩, 2, 2, [vNil, vNil]⟩]⟩ : Te)].length _) := tes_block (K5.get 0 rfl) rfl (fun x hx => by simp only [List.mem_singleton] at hx; subst hx; exact K5.ro 3 rfl)
  refine (srollA _ _ K5.mutLt (some ⟨w2.heap.size, 0, none⟩) 1 1 [⟨nl, A, n, c, lc, 2, some ⟨g0 + 1 + 1 + 1, 0, none⟩, 1, 1, [⟨1, some ⟨g0 + 1 + 1, 0, none⟩, 2, 2, [vNil, vNil]⟩]⟩] b5 o5 1 c5 l5 0 10 10 [⟨nl, lc, 1, []⟩] (by omega) (by omega) (by omega) (by omega) (by omega) (by omega) rb h3 h4 (K5.ro 1 rfl) (fun x hx => by simp only [List.mem_singleton] at hx; subst hx; exact ⟨HOB.out, HVB.out⟩) HG5.out HSB.out HSA.out (by rw [List.drop_zero, List.map_reverse, HL5.out]; exact HBK.out)).mono ?_
  rintro e w3 ⟨A6, n6, c6, l6, B6, m6, d6, g6, rfl, ⟨p1, p2, p3, p4, p5⟩, ⟨q1, q2, q3, q4, q5⟩, b3⟩
  have K6 := (K5.call b3).add p5
  have HL6 := hid p3
  have HO6 := hid p4
  have hm6 : m6 = 0 := by have a := q5.now.len; have b := congrArg List.length q3; simp only [List.length_map, List.length_take, Nat.zero_min] at b; omega
  subst hm6
  clear K4 K5 rb p3 p4 p5 q3 q4 q5 b3 F4
  have F6 := K6.facts
  simp only [factsL, cellsF, Nat.reduceAdd, zf, zl] at F6
  go_wp2_with fail
  have K7 := K6.alloc_cst #[.string nl, .slice A n c, .int .i64 1, .slice none 0 0] 58
  have ra : Ro _ _ (TesIn (some ⟨w3.heap.size, 0, none⟩) [(⟨nl, A, n, c, lc, 1, none, 0, 0, []⟩ : Te)].length _) := tes_block (K7.get 0 rfl) rfl (fun x hx => by simp only [List.mem_singleton] at hx; subst hx; exact K7.ro 4 rfl)
  have hn6 : n6 = 1 := by have a := (K7.ro 1 rfl).now.len; have b := congrArg List.length HL6.out; rw [List.length_map] at b; simp at b; omega
  subst hn6
  have hv6 : ∀ x ∈ l6, VTab x.tb := fun x hx => by
    have h := List.mem_map_of_mem (f := Te.tb) hx
    rw [HL6.out, List.mem_singleton] at h
    rw [h]; exact HVA.out
  have hl6 : ∀ r ∈ l6, r.n ≤ 4398046511104 ∧ r.m ≤ 4398046511104 ∧ ∀ q ∈ r.l, q.n ≤ 4398046511104 := fun r hr => by
    obtain ⟨a, b, c⟩ := VTab.lim (HO6.out r hr) ((K7.ro 1 rfl).now.2 r hr) (hv6 r hr)
    exact ⟨by omega, by omega, fun q hq => by have := (c q hq).2; omega⟩
  refine (sameTables_any _ _ K7.mutLt A6 1 c6 l6 (some ⟨w3.heap.size, 0, none⟩) 1 1 [⟨nl, A, n, c, lc, 1, none, 0, 0, []⟩] (K7.ro 1 rfl) ra (by omega) hl6 (fun r hr => by simp only [List.mem_singleton] at hr; subst hr; exact ⟨by show n ≤ _; omega, by show (0 : Nat) ≤ _; omega, fun q hq => nomatch hq⟩)).mono ?_
  rw [show decide (l6.map Te.tb = [(⟨nl, A, n, c, lc, 1, none, 0, 0, []⟩ : Te)].map Te.tb) = true from by rw [HL6.out]; simp [Te.tb]]
  rintro e w4 ⟨rfl, b4⟩
  have K8 := K7.call b4
  have HF := hid (show findS (l6.map Te.tb) ⟨#[108, 111, 103]⟩ = 0 from by rw [HL6.out, ← HU.out]; exact k9_findS lc)
  clear K6 K7 ra hv6 hl6 b4 F6
  go_wp2_with fail
  refine (stfind_any _ _ K8.mutLt A6 1 c6 l6 ⟨#[108, 111, 103]⟩ (K8.ro 1 rfl) (by omega)).mono ?_
  rw [HF.out]
  rintro e w5 ⟨rfl, b5_⟩
  have K9 := K8.call b5_
  clear K8 b5_
  go_wp2_with fail
  go_ret
  exact ⟨rfl, K9.below⟩
end Go.Proofs.YtedogodccblfeaaGreatDoor

namespace Go.Proofs.YtedogodccblfeaaGreatDoor
open Go.RowKit
set_option linter.unusedVariables false
set_option linter.unusedSimpArgs false

/-- a list of tables in memory -/
structure Lt where
  A : Option Addr
  n : Nat
  c : Nat
  l : List Te
def Lt.val (x : Lt) : Value := .slice x.A x.n x.c
def LtsIn (xs : List Lt) (w : World) : Prop := ∀ x ∈ xs, TesIn x.A x.n x.l w
structure Lt.ok (x : Lt) : Prop where
  nc : x.n ≤ x.c
  c : x.c ≤ 9223372036854775807
  n : x.n ≤ 1000
  l : ∀ z ∈ x.l, z.ok ∧ TbM z.tb
theorem ltsIn_nil (w : World) (M : Nat → Prop) : Ro w M (LtsIn []) := fun _ _ _ r hr => nomatch hr
theorem ltsIn_cons {w : World} {M : Nat → Prop} {x : Lt} {xs : List Lt} (h : Ro w M (TesIn x.A x.n x.l)) (k : Ro w M (LtsIn xs)) : Ro w M (LtsIn (x :: xs)) := fun w2 h1 h2 z hz => by
  rcases List.mem_cons.1 hz with rfl | hz
  · exact h w2 h1 h2
  · exact k w2 h1 h2 z hz
theorem tesIn_take {w : World} {b o n : Nat} {l : List Te} (h : TesIn (some ⟨b, o, none⟩) n l w) {k : Nat} (hk : k ≤ n) : TesIn (some ⟨b, o, none⟩) k (l.take k) w := by
  have hl := h.len
  refine ⟨?_, fun x hx => h.2 x (List.mem_of_mem_take hx)⟩
  have h1 : Rd w w.heap.size 4 (some ⟨b, o, none⟩) n (teCells l) := h.1
  refine ⟨by rw [teCells_len, List.length_take, Nat.min_eq_left (by omega)], fun h0 => ?_⟩
  obtain ⟨b', o', e, hb, hc⟩ := h1.2 (by omega)
  refine ⟨b', o', e, hb, fun j u hu => hc j u ?_⟩
  have e2 : teCells l = teCells (l.take k) ++ teCells (l.drop k) := by
    unfold teCells; rw [← List.flatMap_append, List.take_append_drop]
  rw [e2, List.getElem?_append_left (List.getElem?_eq_some_iff.1 hu).1]
  exact hu
set_option maxHeartbeats 32000000 in
set_option maxRecDepth 100000 in
theorem sdiffers_walk (pA : Option Addr) (pn pc : Nat) (pl : List Te) (qA : Option Addr) (qn qc : Nat) (ql : List Te) (A : Option Addr) (n c : Nat) (zs : List Int) (w : World) (hp : Ro w None_ (TesIn pA pn pl)) (hq : Ro w None_ (TesIn qA qn ql)) (okp : ∀ x ∈ pl, x.ok ∧ TbM x.tb) (okq : ∀ x ∈ ql, x.ok ∧ TbM x.tb) (hpc : pn ≤ pc) (hpm : pc ≤ 9223372036854775807) (hqc : qn ≤ qc) (hqm : qc ≤ 9223372036854775807)
    (hr : Rd w w.heap.size 1 A n (zs.map (Value.int .i64))) (hz : Ints zs) (hn : n ≤ c) (hc : c ≤ 9223372036854775807) (hw : Wds w) :
    Calls Tryz.prog 6 #[.slice pA pn pc, .slice qA qn qc, .slice A n c] w fun e w' => e = .returned (.bool true) ∧ Below w.heap.size w w' := by
  have hwl := hw.lt
  have HP := hid (And.intro hpc (And.intro hpm okp))
  have HQ := hid (And.intro hqc (And.intro hqm okq))
  have HLP := hid hp.now.len
  have HLQ := hid hq.now.len
  have wd0 := hw.ro2 (M := None_) (fun h => h)
  have hrz := (Rd.ro hr (Nat.le_refl _) (fun b _ h => h) : Ro w None_ (SlR 1 A n (zs.map (Value.int .i64))))
  have K0 := ((((Hold.begin_ w).add (hrz.less (by simp [Mut, None_]))).add (wd0.less (by simp [Mut, None_, Hp.foot]))).add (hq.less (by simp [Mut, None_, Hp.foot]))).add (hp.less (by simp [Mut, None_, Hp.foot]))
  clear hp hq okp okq hw hr wd0 hrz hpc hpm hqc hqm
  by_cases hp7 : 7 < pn
  · have d1 : decide ((pn : Int) > 7) = true := by simp; omega
    have d2 : (7 : Int) < (pn : Int) := by omega
    go_enter Tryz.func6, Tryz.ntmps6
    go_wp2_with fail
    refine (known9 _).mono ?_
    rintro e w8 ⟨rfl, b8⟩
    have HB := hid (K0.call b8).below
    clear K0 b8
    go_wp2_with fail
    (try simp only [Exit.inBlock, Exit.then])
    first | (go_ret; exact ⟨rfl, HB.out⟩) | exact bodyPost_ret (v := .bool true) (by simp [results, Tryz.results6, go_sem]) rfl ⟨rfl, HB.out⟩
  by_cases hq7 : 7 < qn
  · have d1 : decide ((pn : Int) > 7) = false := by simp; omega
    have d2 : ¬ (7 : Int) < (pn : Int) := by omega
    have d3 : decide ((qn : Int) > 7) = true := by simp; omega
    have d4 : (7 : Int) < (qn : Int) := by omega
    go_enter Tryz.func6, Tryz.ntmps6
    go_wp2_with fail
    refine (known9 _).mono ?_
    rintro e w8 ⟨rfl, b8⟩
    have HB := hid (K0.call b8).below
    clear K0 b8
    go_wp2_with fail
    (try simp only [Exit.inBlock, Exit.then])
    first | (go_ret; exact ⟨rfl, HB.out⟩) | exact bodyPost_ret (v := .bool true) (by simp [results, Tryz.results6, go_sem]) rfl ⟨rfl, HB.out⟩
  have d1 : decide ((pn : Int) > 7) = false := by simp; omega
  have d2 : ¬ (7 : Int) < (pn : Int) := by omega
  have d3 : decide ((qn : Int) > 7) = false := by simp; omega
  have d4 : ¬ (7 : Int) < (qn : Int) := by omega
  have K1 := K0.alloc_own #[] 58 4 0 (by unfold maxLen; omega) rfl
  have r1 := hid (show SlR 4 pA pn (teCells pl) _ from (K1.ro 1 rfl).now.1)
  have hcat : teCells pl ++ teCells ql = teCells (pl ++ ql) := by simp [teCells]
  have HCAT := hid hcat
  clear K0 hcat
  go_enter Tryz.func6, Tryz.ntmps6
  go_wp2_with (at_builtin; go_must (refine wpList_appAllH K1 0 rfl Tryz.elTe r1.out rfl (.tmp 34) (.tmp 35) rfl rfl rfl (one_tes pl) (by omega) (by omega) ?_); intro C' cap' w2 hc1 hm1 K2; simp only [Nat.zero_add, List.nil_append, List.set_cons_zero] at K2; (have r2 := hid (show SlR 4 qA qn (teCells ql) _ from (K2.ro 2 rfl).now.1)); clear r1 K1; go_wp2_with (at_builtin; go_must (refine wpList_appAllH K2 0 rfl Tryz.elTe r2.out rfl (.tmp 36) (.tmp 37) rfl rfl rfl (one_tes ql) (by omega) (by omega) ?_); intro C2 cap2 w3 hc2 hm2 K3; rw [HCAT.out] at K3; simp only [List.set_cons_zero] at K3; clear r2 K2))
  have KS := K3.sealRow 0 rfl
  simp only [List.set_cons_zero, List.set_cons_succ, List.setIfInBounds_toArray] at KS
  have K4 := (KS.add ((KS.ro 0 rfl).and (((KS.ro 1 rfl).and (KS.ro 2 rfl)).imp fun w2 h2 => (show ∀ x ∈ pl ++ ql, TeIn x w2 from fun x hx => (List.mem_append.1 hx).elim (h2.1.2 x) (h2.2.2 x))) : Ro w3 _ (TesIn C2 (pn + qn) (pl ++ ql)))).drop (.cons_cons _ (List.sublist_cons_self _ _))
  clear KS K3
  go_wp2_with fail
  go_loopw [6, 40] (fun r6 iv wr => ∃ (k : Nat), k ≤ pn + qn ∧ r6 = .bool false ∧ iv = .int .i64 k ∧ Hold None_ none w wr [.ro (TesIn C2 (pn + qn) (pl ++ ql)), .ro (TesIn pA pn pl), .ro (TesIn qA qn ql), .ro Wds, .ro (SlR 1 A n (zs.map (Value.int .i64)))]) (fun _ iv _ => (pn + qn) - (intOf iv).toNat)
  case atStart => exact ⟨0, by omega, rfl, rfl, K4⟩
  case round =>
    clear K4
    obtain ⟨k, hk, rfl, rfl, H⟩ := hrel
    by_cases hlt : k < pn + qn
    · have hd : decide ((k : Int) < ((pn + qn : Nat) : Int)) = true := by simp; omega
      have hd2 : (k : Int) < (pn : Int) + (qn : Int) := by omega
      have i0 : (0 : Int) ≤ (k : Int) := by omega
      have hlx := (H.ro 0 rfl).now.len
      obtain ⟨x, hx⟩ := get_of hlx hlt
      obtain ⟨b, o, rfl, hb, f0, f1, f2, f3, -⟩ := (H.ro 0 rfl).now.at_ hx
      clear hx hlx
      have K1 := H.alloc_cst #[.string x.nm, .slice x.A x.n x.c, .int .i64 x.nx, .slice x.B x.m x.d] 58
      have FA := K1.facts
      simp only [factsL, cellsF, Nat.reduceAdd, zf, zl] at FA
      clear H
      by_cases hm : 20 < x.m
      · have d1 : decide ((x.m : Int) > 20) = true := by simp; omega
        have d2 : (20 : Int) < (x.m : Int) := by omega
        go_wp2_with fail
        refine (known9 _).mono ?_
        rintro e w8 ⟨rfl, b8⟩
        have HB := hid (K1.call b8).below
        clear K1 b8 FA
        go_wp2_with fail
        (try simp only [Exit.inBlock, Exit.then])
        first | (go_ret; exact ⟨rfl, HB.out⟩) | exact bodyPost_ret (v := .bool true) (by simp [results, Tryz.results6, go_sem]) rfl ⟨rfl, HB.out⟩
      · have d1 : decide ((x.m : Int) > 20) = false := by simp; omega
        have d2 : ¬ (20 : Int) < (x.m : Int) := by omega
        have K2 := K1.drop (List.sublist_cons_self _ _)
        go_wp2_with fail
        go_roundw
        case rel => exact ⟨k + 1, by omega, rfl, by first | rfl | go_num, K2⟩
        case measure => simp [intOf] <;> omega
    · obtain rfl : k = pn + qn := by omega
      have hd : decide (((pn + qn : Nat) : Int) < ((pn + qn : Nat) : Int)) = false := by simp
      have hd2 : ¬ ((pn : Int) + (qn : Int) < (pn : Int) + (qn : Int)) := by omega
      go_wp2_with fail
      have hrz : Rd _ _ 1 A n (zs.map (Value.int .i64)) := (H.ro 4 rfl).now
      refine (new_any A n c zs _ hrz hz hn hc).mono ?_
      rintro e w1 ⟨T, rfl, hT, t1, b1⟩
      have hwl2 : 2 < T := by have := (H.ro 3 rfl).now.lt; omega
      have K1 := Hold.newTape (H.drop (L' := [_, _, _]) (.cons _ (.cons_cons _ (.cons_cons _ (.cons_cons _ (List.sublist_cons_self _ _)))))) b1 t1 hT (by simp [Mut, None_, Hp.foot])
      have K2 := K1.perm (L' := [.ro (TesIn pA pn pl), .ro (TesIn qA qn ql), .ro Wds, .tp T]) (List.perm_append_comm (l₁ := [_]) (l₂ := [_, _, _]))
      clear K1 H t1 b1 hT hrz
      go_wp2_with fail
      refine (tstore_any (Mut None_ _) T _ K2.mutLt (K2.tp_ 3 rfl) (K2.get 3 rfl).2 4 (by omega) ((K2.ro 2 rfl).less (mut_tp (i := 3) rfl)) hwl2).mono ?_
      rintro e w2 ⟨A0, c0, l, rfl, hc1, hc2, hS, r0, t2, g2⟩
      have K3 := (Hold.callT K2 3 rfl g2 t2).add r0
      have HS := hid hS
      have HC0 := hid (And.intro hc1 hc2)
      clear K2 t2 g2 r0 hS hc1 hc2
      have K4 := K3.alloc_own #[] 58 4 0 (by unfold maxLen; omega) rfl
      have r1 := hid (show SlR 4 A0 3 (teCells l) _ from (K4.ro 1 rfl).now.1)
      clear K3
      go_wp2_with (at_builtin; go_must (refine wpList_appAllH K4 0 rfl Tryz.elTe r1.out rfl (.tmp 54) (.tmp 55) rfl rfl rfl (one_tes l) (by omega) (by omega) ?_); intro C' cap' w4 hc1 hm1 K5; simp only [Nat.zero_add, List.nil_append, List.set_cons_zero] at K5)
      obtain ⟨g, rfl⟩ : ∃ g, C' = some ⟨g, 0, none⟩ := by
        rcases own_addr (K5.get 0 rfl) with ⟨-, h0, -⟩ | ⟨g, h, -⟩
        · omega
        · exact ⟨g, h⟩
      have K6 := (K5.add ((K5.ro 1 rfl).imp fun w2 h2 => h2.2 : Ro _ _ (TeVals l))).perm (L' := [_, _, .ro (TesIn A0 3 l), .ro (TesIn pA pn pl), .ro (TesIn qA qn ql), .ro Wds, .tp T]) (List.Perm.swap _ _ _)
      clear K4 K5 r1
      go_loopw [59] (fun iv wr => ∃ (i : Nat) (ms : List Te), i ≤ 3 ∧ iv = .int .i64 i ∧ Hid (ms.length = 3 ∧ ∀ x ∈ ms, x.ok ∧ VTab x.tb) ∧ Hold None_ none w wr [.own 58 4 (.slice (some ⟨g, 0, none⟩) 3 cap') 3 (teCells ms), .ro (TeVals ms), .ro (TesIn A0 3 l), .ro (TesIn pA pn pl), .ro (TesIn qA qn ql), .ro Wds, .tp T]) (fun iv _ => 3 - (intOf iv).toNat)
      case atStart => exact ⟨0, l, by omega, rfl, hid ⟨HS.out.len, fun x hx => ⟨(HS.out.ok x hx).1, (HS.out.ok x hx).2.1⟩⟩, K6⟩
      case round =>
        clear K6
        obtain ⟨i, ms, hi, rfl, HM, H⟩ := hrel
        by_cases hlt : i < 3
        · have hd : decide ((i : Int) < 3) = true := by simp; omega
          have i0 : (0 : Int) ≤ (i : Int) := by omega
          have i1 : (i : Int) < 3 := by omega
          obtain ⟨x, hx⟩ := get_of HM.out.1 hlt
          have HXK := hid hx
          have HXO := hid (HM.out.2 x (List.mem_of_getElem? hx))
          clear hx
          go_wp2_with fail
          obtain ⟨KL, hKL, KN⟩ := H.name
          have HF : Hid (∀ wv, Hold None_ none w wv KL → wv.cell? ⟨g, i * 4, none⟩ = some (.string x.nm) ∧ wv.cell? ⟨g, i * 4 + 1, none⟩ = some (.slice x.A x.n x.c) ∧ wv.cell? ⟨g, i * 4 + 2, none⟩ = some (.int .i64 x.nx) ∧ wv.cell? ⟨g, i * 4 + 3, none⟩ = some (.slice x.B x.m x.d) ∧ g < wv.heap.size) := hid fun wv HC => by
            rw [hKL] at HC
            have ho := HC.get 0 rfl
            exact ⟨(ho.cellAt _ (by omega)).trans (flat_get Te.cells 4 (fun _ => rfl) ms i 0 x (by omega) HXK.out), (ho.cellAt _ (by omega)).trans (flat_get Te.cells 4 (fun _ => rfl) ms i 1 x (by omega) HXK.out), (ho.cellAt _ (by omega)).trans (flat_get Te.cells 4 (fun _ => rfl) ms i 2 x (by omega) HXK.out), (ho.cellAt _ (by omega)).trans (flat_get Te.cells 4 (fun _ => rfl) ms i 3 x (by omega) HXK.out), (ho.lt g rfl).2⟩
          have HX : Hid (∀ wv, Hold None_ none w wv KL → TbAt wv (Mut None_ KL) (.agg #[.string x.nm, .slice x.A x.n x.c, .int .i64 x.nx, .slice x.B x.m x.d]) x.tb ∧ Tp wv T ∧ (∀ b, Mut None_ KL b → T ≤ b) ∧ Ro wv (Mut None_ KL) Wds) := hid fun wv HC => by
            rw [hKL] at HC ⊢
            exact ⟨te_tb HXO.out.1 ((HC.ro 1 rfl).imp fun w2 h2 => h2 x (List.mem_of_getElem? HXK.out)), HC.tp_ 6 rfl, (HC.get 6 rfl).2, HC.ro 5 rfl⟩
          have HTP := hid (show KL[6]? = some (.tp T) by rw [hKL]; rfl)
          have HKL := hid hKL
          clear hKL H
          obtain ⟨Hb, hHb⟩ : ∃ Hb, Hb = wr.drew.heap.size := ⟨_, rfl⟩
          have HHb := hid hHb
          clear hHb
          refine wp_region_any (by kernel_rfl) ?_
          refine wpAny_holdE [13] 15 143 (KL) (spL [(72, ChgSl (Mut None_ KL)), (73, ApE (Mut None_ KL) x.tb), (62, ApE (Mut None_ KL) x.tb), (13, NewSlot (Mut None_ KL) Hb 58 #[.string ⟨#[]⟩, .slice none 0 0, .int .i64 0, .slice none 0 0])]) (by kernel_rfl) (fun _ d _ _ _ h => by cases d <;> exact h) (by kernel_rfl) (by kernel_rfl) rfl ?_ (KN.drew) ?_
          · exact stays_cons chgSl_mono (stays_cons apE_mono (stays_cons apE_mono (stays_cons newSlot_mono (stays_nil _))))
          simp only [zd, Act.put, List.getElem_toArray, List.getElem_cons_zero, List.getElem_cons_succ, zl]
          repeat (first | (refine dw_skip rfl rfl rfl ?_; simp only [Act.put, zl]) | (refine dw_val rfl rfl rfl ?_; apply Exists.intro; refine ⟨fun wv HC => ?_, ?_⟩; (focus (obtain ⟨f0, f1, f2, f3, f4⟩ := HF.out _ HC; go_simp <;> rfl; done)); simp only [Act.put, zl]))
          refine dw_callR 72 (ChgSl (Mut None_ KL)) (f := 25) (args := #[.pointer (some ⟨T, 0, none⟩), .agg #[.string x.nm, .slice x.A x.n x.c, .int .i64 x.nx, .slice x.B x.m x.d]]) rfl rfl rfl rfl (fun wv => ?_) (fun wv HC hrm hD => ?_) ?_
          · go_simp <;> rfl
          · refine (chgof_slot (Mut None_ KL) T wv HC.mutLt (HX.out _ HC).2.1 (HX.out _ HC).2.2.1 _ x.tb (tbAt_less (HX.out _ HC).1 (mut_tp (i := 6) HTP.out)) HXO.out.2 ((HX.out _ HC).2.2.2.less (mut_tp (i := 6) HTP.out)) hwl2).mono ?_
            rintro e w5 ⟨v5, i5, d5, u5, rfl, hc5, hb1, hb2, hb3, t5, g5'⟩
            have hvr := HXO.out.2.rows
            exact ⟨_, rfl, ⟨i5, d5, u5, hc5, by omega, by omega, by omega⟩, Hold.callT HC 6 HTP.out g5' t5, RM.grown g5' (.inr ⟨_, List.mem_of_getElem? (i := 6) HTP.out, rfl⟩)⟩
          rintro s34 wx HCx hs34
          clear HCx hs34
          simp only [Act.put, zl]
          refine dw_callR 73 (ApE (Mut None_ KL) x.tb) (f := 24) (args := #[.agg #[.string x.nm, .slice x.A x.n x.c, .int .i64 x.nx, .slice x.B x.m x.d], s34]) rfl rfl rfl rfl (fun wv => ?_) (fun wv HC hrm hD => ?_) ?_
          · go_simp <;> rfl
          · have hsl : ChgSl (Mut None_ KL) s34 wv := deps_at hD 9 rfl (by kernel_rfl) rfl rfl
            obtain ⟨i5, d5, u5, h5, hb1, hb2, hb3⟩ := hsl
            have hvr := HXO.out.2.rows
            refine (rapply_slot _ wv HC.mutLt _ _ x.tb i5 d5 u5 (HX.out _ HC).1 h5 HXO.out.2.sch.nm HXO.out.2.sch.cs (by omega) (fun r hr => by have := HXO.out.2.len r hr; omega) (by omega) (by omega) (by omega)).mono ?_
            rintro e w6 ⟨u6, rfl, hv6, b6⟩
            exact ⟨_, rfl, ⟨i5, d5, u5, hv6⟩, HC.call b6, RM.below b6⟩
          rintro u_ wx HCx ⟨i5, d5, u5, ⟨v5, rfl, hv5⟩⟩
          obtain ⟨y, rfl, -, -, -⟩ := tb_te hv5
          obtain ⟨e5, he5⟩ : ∃ e5, e5 = (applyC x.tb.nm x.tb.cs x.tb.nx x.tb.rs i5 d5 u5).1 := ⟨_, rfl⟩
          rw [← he5]
          clear HCx hv5 he5 i5 d5 u5
          have hyv : y.val = .agg #[.string y.nm, .slice y.A y.n y.c, .int .i64 y.nx, .slice y.B y.m y.d] := rfl
          rw [hyv]
          clear hyv
          simp only [Act.put, zl]
          refine dw_valC 62 (ApE (Mut None_ KL) x.tb) rfl rfl rfl rfl (.tuple #[.agg #[.string y.nm, .slice y.A y.n y.c, .int .i64 y.nx, .slice y.B y.m y.d], .int .i64 e5]) (fun wv HC => ?_) (fun wv HC hD => ?_) ?_
          · go_simp <;> rfl
          · exact deps_at hD 10 rfl (by kernel_rfl) rfl rfl
          simp only [Act.put, zl]
          refine dw_val rfl rfl rfl ?_; apply Exists.intro; refine ⟨fun wv HC => ?_, ?_⟩
          ·  go_simp <;> rfl
          simp only [Act.put, zl]
          refine dw_val rfl rfl rfl ?_; apply Exists.intro; refine ⟨fun wv HC => ?_, ?_⟩
          ·  go_simp <;> rfl
          simp only [Act.put, zl]
          refine dw_new #[.string ⟨#[]⟩, .slice none 0 0, .int .i64 0, .slice none 0 0] 58 13 (NewSlot (Mut None_ KL) Hb 58 #[.string ⟨#[]⟩, .slice none 0 0, .int .i64 0, .slice none 0 0]) (fun g => .pointer (some ⟨g, 0, none⟩)) rfl rfl rfl rfl (fun wv => ?_) (fun wv HC hrm hD hro => ?_) ?_
          · go_simp <;> rfl
          · exact ⟨_, rfl, by have := hrm.1; rw [HHb.out]; exact this, hro _ HC.mutLt⟩
          rintro gb wg HCg hsl
          simp only [Act.put, zl]
          clear hsl HCg
          refine rel_nil ?_
          rintro wxb HY
          rintro _hrm HGW
          have hap : ApE (Mut None_ KL) x.tb (.tuple #[.agg #[.string y.nm, .slice y.A y.n y.c, .int .i64 y.nx, .slice y.B y.m y.d], .int .i64 e5]) wxb := (GW_on (d := 62) rfl).1 (HGW 11 _ rfl (by omega))
          have hns : NewSlot (Mut None_ KL) Hb 58 #[.string ⟨#[]⟩, .slice none 0 0, .int .i64 0, .slice none 0 0] (.pointer (some ⟨gb, 0, none⟩)) wxb := (GW_on (d := 13) rfl).1 (HGW 14 _ rfl (by omega))
          clear HGW
          obtain ⟨g7, hg7, hgH, hgB⟩ := hns
          obtain rfl : gb = g7 := by injection hg7 with hg7; injection hg7 with hg7; injection hg7
          clear hg7
          rw [HHb.out] at hgH
          have HB := Hold.addFreshBlk KN.drew HY _hrm hgH hgB.now
          have hgn := hgB.now
          obtain ⟨i6, d6, u6, ⟨v6, hv6, TT⟩⟩ := hap
          obtain ⟨E6, hE6⟩ : ∃ E6 : Int × Tb, E6 = applyC x.tb.nm x.tb.cs x.tb.nx x.tb.rs i6 d6 u6 := ⟨_, rfl⟩
          rw [← hE6] at hv6 TT
          obtain ⟨e6, T6⟩ := E6
          dsimp only at hv6 TT
          obtain ⟨rfl, rfl⟩ : _ = v6 ∧ e5 = e6 := by injection hv6 with hv6; simpa using hv6
          clear hv6
          obtain ⟨y2, ev, rfl, hyo, ry⟩ := tb_te TT
          have ev : Value.agg #[.string y.nm, .slice y.A y.n y.c, .int .i64 y.nx, .slice y.B y.m y.d] = .agg #[.string y2.nm, .slice y2.A y2.n y2.c, .int .i64 y2.nx, .slice y2.B y2.m y2.d] := ev
          rw [ev]
          clear ev TT hgH HY _hrm HHb KN HF HX hgB
          by_cases h0 : e5 = 0
          · subst h0
            have hap := apOk_of hE6.symm
            have HY2 := hid (show y2.ok ∧ VTab y2.tb from ⟨hyo, hap.vtab HXO.out.2⟩)
            clear hap hE6 hyo
            have K3 := HB.add ((te_apart ry HY2.out.2 hgn).less fun b hb => (mut_cons.1 hb).elim (fun hf => Or.inl (by have hf : some gb = some b := hf; injection hf with hf; exact hf.symm)) Or.inr)
            clear ry hgn
            rw [HKL.out] at K3
            clear HB HKL HTP
            have FB := K3.facts
            simp only [factsL, cellsF, Nat.reduceAdd, zf, zl] at FB
            have K4 := (((K3.store 1 rfl 0 (.string y2.nm)).store 1 rfl 1 (.slice y2.A y2.n y2.c)).store 1 rfl 2 (.int .i64 y2.nx)).store 1 rfl 3 (.slice y2.B y2.m y2.d)
            simp only [List.set_cons_zero, List.set_cons_succ, List.setIfInBounds_toArray] at K4
            obtain ⟨V9, hV9⟩ : ∃ v, v = Value.slice (some ⟨g, 0, none⟩) 3 cap' := ⟨_, rfl⟩
            rw [← hV9]
            have HV9 := hid hV9
            clear hV9
            go_wp2_with fail
            rw [HV9.out]
            clear HV9 FB
            generalize World.setCell _ _ _ = w12 at K4 ⊢
            have FC := K4.facts
            simp only [factsL, cellsF, Nat.reduceAdd, zf, zl] at FC
            have gne := K4.apart_ 1 2 rfl rfl (by omega) rfl rfl
            have ho := K4.get 2 rfl
            have pq0 : _ = some (Value.string x.nm) := (ho.cellAt (i * 4) (by omega)).trans (flat_get Te.cells 4 (fun _ => rfl) ms i 0 x (by omega) HXK.out)
            have pq1 : _ = some (Value.slice x.A x.n x.c) := (ho.cellAt (i * 4 + 1) (by omega)).trans (flat_get Te.cells 4 (fun _ => rfl) ms i 1 x (by omega) HXK.out)
            have pq2 : _ = some (Value.int .i64 x.nx) := (ho.cellAt (i * 4 + 2) (by omega)).trans (flat_get Te.cells 4 (fun _ => rfl) ms i 2 x (by omega) HXK.out)
            have pq3 : _ = some (Value.slice x.B x.m x.d) := (ho.cellAt (i * 4 + 3) (by omega)).trans (flat_get Te.cells 4 (fun _ => rfl) ms i 3 x (by omega) HXK.out)
            have pz0 := ho.frozenAt (i * 4)
            have pz1 := ho.frozenAt (i * 4 + 1)
            have pz2 := ho.frozenAt (i * 4 + 2)
            have pz3 := ho.frozenAt (i * 4 + 3)
            have pgl := (ho.lt g rfl).2
            clear ho
            have pKA1 := K4.put_ 2 rfl (i * 4) (.string y2.nm)
            have pKA2 := pKA1.put_ 2 rfl (i * 4 + 1) (.slice y2.A y2.n y2.c)
            have pKA3 := pKA2.put_ 2 rfl (i * 4 + 2) (.int .i64 y2.nx)
            have K5 := pKA3.put_ 2 rfl (i * 4 + 3) (.slice y2.B y2.m y2.d)
            simp only [List.set_cons_zero, List.set_cons_succ, List.setIfInBounds_toArray] at pKA1
            simp only [List.set_cons_zero, List.set_cons_succ, List.setIfInBounds_toArray] at pKA2
            simp only [List.set_cons_zero, List.set_cons_succ, List.setIfInBounds_toArray] at pKA3
            simp only [List.set_cons_zero, List.set_cons_succ, List.setIfInBounds_toArray] at K5
            have pe1 : _ = some (Value.slice x.A x.n x.c) := ((pKA1.get 2 rfl).cellAt (i * 4 + 1) (by omega)).trans ((List.getElem?_set_ne (by omega)).trans (flat_get Te.cells 4 (fun _ => rfl) ms i 1 x (by omega) HXK.out))
            have pe2 : _ = some (Value.int .i64 x.nx) := ((pKA2.get 2 rfl).cellAt (i * 4 + 2) (by omega)).trans ((List.getElem?_set_ne (by omega)).trans ((List.getElem?_set_ne (by omega)).trans (flat_get Te.cells 4 (fun _ => rfl) ms i 2 x (by omega) HXK.out)))
            have pe3 : _ = some (Value.slice x.B x.m x.d) := ((pKA3.get 2 rfl).cellAt (i * 4 + 3) (by omega)).trans ((List.getElem?_set_ne (by omega)).trans ((List.getElem?_set_ne (by omega)).trans ((List.getElem?_set_ne (by omega)).trans (flat_get Te.cells 4 (fun _ => rfl) ms i 3 x (by omega) HXK.out))))
            have py1 := (pKA1.get 2 rfl).frozenAt (i * 4 + 1)
            have py2 := (pKA2.get 2 rfl).frozenAt (i * 4 + 2)
            have py3 := (pKA3.get 2 rfl).frozenAt (i * 4 + 3)
            clear pKA1 pKA2 pKA3
            rw [teCells_set y2 HXK.out] at K5
            have K6 := (K5.swapRo 3 rfl (teVals_set (k := i) (K5.ro 3 rfl) (K5.ro 0 rfl))).drop (.cons _ (List.sublist_cons_self _ _))
            simp only [List.set_cons_zero, List.set_cons_succ, List.setIfInBounds_toArray] at K6
            go_wp2_with fail
            iterate 4 (try simp only [Result.andThen_ok, pe1, py1, pe2, py2, pe3, py3, Bool.false_eq_true, if_false])
            go_wp2_with fail
            go_roundw
            case rel => exact ⟨i + 1, ms.set i y2, by omega, by first | rfl | go_num, hid ⟨by rw [List.length_set]; exact HM.out.1, fun z hz => (List.mem_or_eq_of_mem_set hz).elim (HM.out.2 z) (fun h => h ▸ HY2.out)⟩, K6⟩
            case measure => simp [intOf] <;> omega
          · have hb0 : (e5 == 0) = false := by simpa using h0
            have hb1 : decide (e5 = 0) = false := by simpa using h0
            clear hE6 hyo ry hgn
            rw [HKL.out] at HB
            have FB := HB.facts
            simp only [factsL, cellsF, Nat.reduceAdd, zf, zl] at FB
            have K4 := (((HB.store 0 rfl 0 (.string y2.nm)).store 0 rfl 1 (.slice y2.A y2.n y2.c)).store 0 rfl 2 (.int .i64 y2.nx)).store 0 rfl 3 (.slice y2.B y2.m y2.d)
            simp only [List.set_cons_zero, List.set_cons_succ, List.setIfInBounds_toArray] at K4
            have K5 := K4.drop (List.sublist_cons_self _ _)
            go_wp2_with fail
            go_roundw
            case rel => exact ⟨i + 1, ms, by omega, by first | rfl | go_num, HM, K5⟩
            case measure => simp [intOf] <;> omega
        · obtain rfl : i = 3 := by omega
          have hd : decide (((3 : Nat) : Int) < 3) = false := by decide
          have hcap := own_caps (H.get 0 rfl)
          have KS := H.sealRow 0 rfl
          simp only [List.set_cons_zero, List.set_cons_succ, List.setIfInBounds_toArray] at KS
          have K1 := (KS.add ((KS.ro 0 rfl).and (KS.ro 1 rfl) : Ro wr _ (TesIn (some ⟨g, 0, none⟩) 3 ms))).drop (L' := [_, .ro (TesIn A0 3 l), .ro (TesIn pA pn pl), .ro (TesIn qA qn ql), .ro Wds, .tp T]) (.cons_cons _ (.cons _ (List.sublist_cons_self _ _)))
          clear H KS
          go_wp2_with fail
          refine (sspoil9_any (Mut None_ _) T _ K1.mutLt (K1.tp_ 5 rfl) (K1.get 5 rfl).2 A0 c0 l HC0.out.1 HC0.out.2 ((K1.ro 1 rfl).less (mut_tp (i := 5) rfl)) (fun x hx => ⟨(HS.out.ok x hx).1, (HS.out.ok x hx).2.1⟩) ((K1.ro 4 rfl).less (mut_tp (i := 5) rfl)) hwl2).mono ?_
          rintro e w5 ⟨sA, sn, sc, sl, rfl, s1, s2, s3, s4, s5, rs, t5, g5⟩
          have K2 := (Hold.callT K1 5 rfl g5 t5).add rs
          clear K1 rs t5 g5
          obtain ⟨xs, hxs⟩ : ∃ xs : List Lt, xs = [⟨pA, pn, pc, pl⟩, ⟨A0, 3, c0, l⟩, ⟨sA, sn, sc, sl⟩] := ⟨_, rfl⟩
          obtain ⟨ys, hys⟩ : ∃ ys : List Lt, ys = [⟨qA, qn, qc, ql⟩, ⟨some ⟨g, 0, none⟩, 3, cap', ms⟩, ⟨A0, 3, c0, l⟩, ⟨some ⟨g, 0, none⟩, 2, cap', ms.take 2⟩] := ⟨_, rfl⟩
          have hl9 : ∀ z ∈ l, z.ok ∧ TbM z.tb := fun z hz => ⟨(HS.out.ok z hz).1, (HS.out.ok z hz).2.1.tbm⟩
          have HXS : Hid (∀ (j : Nat) (x : Lt), xs[j]? = some x → (#[Value.slice pA pn pc, .slice A0 3 c0, .slice sA sn sc] : Array Value)[j]? = some (.slice x.A x.n x.c)) := hid fun j x h => by
            rw [show (#[Value.slice pA pn pc, .slice A0 3 c0, .slice sA sn sc] : Array Value) = (xs.map Lt.val).toArray by rw [hxs]; rfl]
            rw [List.getElem?_toArray, List.getElem?_map, h]; rfl
          have HYS : Hid (∀ (j : Nat) (x : Lt), ys[j]? = some x → (#[Value.slice qA qn qc, .slice (some ⟨g, 0, none⟩) 3 cap', .slice A0 3 c0, .slice (some ⟨g, 0, none⟩) 2 cap'] : Array Value)[j]? = some (.slice x.A x.n x.c)) := hid fun j x h => by
            rw [show (#[Value.slice qA qn qc, .slice (some ⟨g, 0, none⟩) 3 cap', .slice A0 3 c0, .slice (some ⟨g, 0, none⟩) 2 cap'] : Array Value) = (ys.map Lt.val).toArray by rw [hys]; rfl]
            rw [List.getElem?_toArray, List.getElem?_map, h]; rfl
          have HXO : Hid (xs.length = 3 ∧ ∀ x ∈ xs, x.ok) := hid ⟨by rw [hxs]; rfl, fun x hx => by
            rw [hxs] at hx
            simp only [List.mem_cons, List.not_mem_nil, or_false] at hx
            rcases hx with rfl | rfl | rfl
            · exact ⟨HP.out.1, HP.out.2.1, by show pn ≤ 1000; omega, HP.out.2.2⟩
            · exact ⟨HC0.out.1, HC0.out.2, by show 3 ≤ 1000; omega, hl9⟩
            · exact ⟨s1, s2, by show sn ≤ 1000; omega, fun z hz => ⟨(s5 z hz).1, (s5 z hz).2.tbm⟩⟩⟩
          have HYO : Hid (ys.length = 4 ∧ ∀ x ∈ ys, x.ok) := hid ⟨by rw [hys]; rfl, fun x hx => by
            rw [hys] at hx
            simp only [List.mem_cons, List.not_mem_nil, or_false] at hx
            rcases hx with rfl | rfl | rfl | rfl
            · exact ⟨HQ.out.1, HQ.out.2.1, by show qn ≤ 1000; omega, HQ.out.2.2⟩
            · exact ⟨hcap.1, hcap.2.1, by show 3 ≤ 1000; omega, fun z hz => ⟨(HM.out.2 z hz).1, (HM.out.2 z hz).2.tbm⟩⟩
            · exact ⟨HC0.out.1, HC0.out.2, by show 3 ≤ 1000; omega, hl9⟩
            · exact ⟨by show 2 ≤ cap'; omega, hcap.2.1, by show 2 ≤ 1000; omega, fun z hz => ⟨(HM.out.2 z (List.mem_of_mem_take hz)).1, (HM.out.2 z (List.mem_of_mem_take hz)).2.tbm⟩⟩⟩
          have rX := (show ∀ Q, Ro w5 Q (TesIn pA pn pl) → Ro w5 Q (TesIn A0 3 l) → Ro w5 Q (TesIn sA sn sl) → Ro w5 Q (LtsIn xs) from fun Q a b c => by rw [hxs]; exact ltsIn_cons a (ltsIn_cons b (ltsIn_cons c (ltsIn_nil _ _)))) _ (K2.ro 3 rfl) (K2.ro 2 rfl) (K2.ro 0 rfl)
          have rY := (show ∀ Q, Ro w5 Q (TesIn qA qn ql) → Ro w5 Q (TesIn (some ⟨g, 0, none⟩) 3 ms) → Ro w5 Q (TesIn A0 3 l) → Ro w5 Q (LtsIn ys) from fun Q a b c => by rw [hys]; exact ltsIn_cons a (ltsIn_cons b (ltsIn_cons c (ltsIn_cons (b.imp fun w2 h2 => tesIn_take h2 (show 2 ≤ 3 by omega)) (ltsIn_nil _ _))))) _ (K2.ro 4 rfl) (K2.ro 1 rfl) (K2.ro 2 rfl)
          have K3 := ((K2.add rY).add (rX.less (mut_none rfl))).alloc_cst #[Value.slice pA pn pc, .slice A0 3 c0, .slice sA sn sc] 29
          have K4 := K3.drop (L' := [_, .ro (LtsIn xs), .ro (LtsIn ys), .ro (TesIn A0 3 l)]) (.cons_cons _ (.cons_cons _ (.cons_cons _ (.cons _ (.cons _ (.cons_cons _ (.cons _ (.cons _ (.cons _ (List.sublist_cons_self _ _))))))))))
          have HCP := hid hcap
          have hc2 : (2 : Int) ≤ (cap' : Int) := by have := hcap.1; omega
          clear K2 K3 rX rY s1 s2 s3 s4 s5 hxs hys hl9 hcap
          obtain ⟨gX, hgX⟩ : ∃ g, g = w5.heap.size := ⟨_, rfl⟩
          rw [← hgX] at K4
          go_wp2_with fail
          rw [← hgX]
          clear hgX
          go_loopw [6, 90] (fun r6 jv wr => ∃ (j : Nat), j ≤ 3 ∧ r6 = .bool false ∧ jv = .int .i64 j ∧ Hold None_ none w wr [.cst gX 29 #[Value.slice pA pn pc, .slice A0 3 c0, .slice sA sn sc], .ro (LtsIn xs), .ro (LtsIn ys), .ro (TesIn A0 3 l)]) (fun _ jv _ => 3 - (intOf jv).toNat)
          case atStart => exact ⟨0, by omega, rfl, rfl, K4⟩
          case round =>
            clear K4 hd hlt
            obtain ⟨j, hj, rfl, rfl, H⟩ := hrel
            by_cases hlt : j < 3
            · have hd : decide ((j : Int) < 3) = true := by simp; omega
              have j0 : (0 : Int) ≤ (j : Int) := by omega
              have j1 : (j : Int) < 3 := by omega
              obtain ⟨x, hx⟩ := get_of HXO.out.1 hlt
              have HX1 := hid hx
              have hbl := H.cst_ 0 rfl
              have cX := (cell_of_row _ _ j _ _ _ hbl).trans (HXS.out j x hx)
              have glX := Blk.lt hbl
              clear hbl hx
              have K1 := H.alloc_cst #[Value.slice qA qn qc, .slice (some ⟨g, 0, none⟩) 3 cap', .slice A0 3 c0, .slice (some ⟨g, 0, none⟩) 2 cap'] 29
              obtain ⟨gY, hgY⟩ : ∃ g, g = wr.heap.size := ⟨_, rfl⟩
              rw [← hgY] at K1
              clear H
              go_wp2_with fail
              rw [← hgY]
              clear hgY cX glX
              go_loopw [6, 101] (fun r6 iv wr => ∃ (i : Nat), i ≤ 4 ∧ r6 = .bool false ∧ iv = .int .i64 i ∧ Hold None_ none w wr [.cst gY 29 #[Value.slice qA qn qc, .slice (some ⟨g, 0, none⟩) 3 cap', .slice A0 3 c0, .slice (some ⟨g, 0, none⟩) 2 cap'], .cst gX 29 #[Value.slice pA pn pc, .slice A0 3 c0, .slice sA sn sc], .ro (LtsIn xs), .ro (LtsIn ys), .ro (TesIn A0 3 l)]) (fun _ iv _ => 4 - (intOf iv).toNat)
              case atStart => exact ⟨0, by omega, rfl, rfl, K1⟩
              case round =>
                clear K1 hd
                obtain ⟨i, hi, rfl, rfl, H⟩ := hrel
                by_cases hlt4 : i < 4
                · have hd : decide ((i : Int) < 4) = true := by simp; omega
                  have i0 : (0 : Int) ≤ (i : Int) := by omega
                  have i1 : (i : Int) < 4 := by omega
                  obtain ⟨y, hy⟩ := get_of HYO.out.1 hlt4
                  have HY1 := hid hy
                  have hbl := H.cst_ 0 rfl
                  have cY := (cell_of_row _ _ i _ _ _ hbl).trans (HYS.out i y hy)
                  have glY := Blk.lt hbl
                  clear hbl hy
                  have HXo := hid (HXO.out.2 x (List.mem_of_getElem? HX1.out))
                  have HYo := hid (HYO.out.2 y (List.mem_of_getElem? HY1.out))
                  have hk1 := hid (sdeltas_any (Mut None_ _) _ H.mutLt x.A x.n x.c x.l y.A y.n y.c y.l ((H.ro 2 rfl).imp fun w2 h2 => h2 x (List.mem_of_getElem? HX1.out)) ((H.ro 3 rfl).imp fun w2 h2 => h2 y (List.mem_of_getElem? HY1.out)) HXo.out.l HYo.out.l HXo.out.n HYo.out.n)
                  obtain ⟨E, hE⟩ : ∃ E, E = delsC (x.l.map Te.tb) (y.l.map Te.tb) := ⟨_, rfl⟩
                  rw [← hE] at hk1
                  have hlen : x.l.length = x.n := ((H.ro 2 rfl).now x (List.mem_of_getElem? HX1.out)).len
                  have HEL := hid (show E.2.length ≤ 1000 by
                    have a := delsC_len (x.l.map Te.tb) (y.l.map Te.tb)
                    rw [← hE, List.length_map] at a
                    have b := HXo.out.n
                    omega)
                  have HE := hid hE
                  clear hE hlen
                  obtain ⟨b9, ds⟩ := E
                  go_wp2_with fail
                  refine hk1.out.mono ?_
                  rintro e w1 ⟨B1, m1, c1, l1, rfl, a1, a2, a3, a4, ra, b1⟩
                  have K1 := (H.call b1).add ra
                  have HA := hid (And.intro a1 (And.intro a2 (And.intro a3 a4)))
                  clear H b1 ra hk1 cY glY a1 a2 a3 a4
                  dsimp only
                  go_wp2_with fail
                  have hk2 := rsdeltas_any (Mut None_ _) _ K1.mutLt x.A x.n x.c x.l y.A y.n y.c y.l ((K1.ro 3 rfl).imp fun w2 h2 => h2 x (List.mem_of_getElem? HX1.out)) ((K1.ro 4 rfl).imp fun w2 h2 => h2 y (List.mem_of_getElem? HY1.out)) HXo.out.l HYo.out.l HXo.out.n HYo.out.n
                  rw [← HE.out] at hk2
                  refine hk2.mono ?_
                  clear hk2
                  rintro e w2 ⟨B2, m2, c2, l2, rfl, a1, a2, a3, a4, ra, b1⟩
                  have K2 := (K1.call b1).add ra
                  have HB := hid (And.intro a1 (And.intro a2 (And.intro a3 a4)))
                  clear K1 b1 ra a1 a2 a3 a4
                  dsimp only
                  have hbb : (b9 != b9) = false := by cases b9 <;> rfl
                  have hbb2 : (b9 == b9) = true := by cases b9 <;> rfl
                  go_wp2_with fail
                  have hm1 : l1.length = m1 := (K2.ro 1 rfl).now.len
                  have hk3 := sameDeltas_any (Mut None_ _) _ K2.mutLt B1 m1 c1 l1 B2 m2 c2 l2 (K2.ro 1 rfl) (K2.ro 0 rfl) (by
                    have a := congrArg List.length HA.out.2.2.1
                    rw [List.length_map] at a
                    have b := HEL.out
                    (try dsimp only at a)
                    (try dsimp only at b)
                    omega) (fun r hr => (HA.out.2.2.2 r hr).more (by have := (HA.out.2.2.2 r hr).i; omega) (by have := (HA.out.2.2.2 r hr).d; omega) (by have := (HA.out.2.2.2 r hr).u; omega) (by omega)) (fun r hr => (HB.out.2.2.2 r hr).more (by have := (HB.out.2.2.2 r hr).i; omega) (by have := (HB.out.2.2.2 r hr).d; omega) (by have := (HB.out.2.2.2 r hr).u; omega) (by omega))
                  rw [decide_eq_true (HA.out.2.2.1.trans HB.out.2.2.1.symm)] at hk3
                  refine hk3.mono ?_
                  clear hk3 hm1
                  rintro e w3 ⟨rfl, b3⟩
                  have K3 := (K2.call b3).drop (.cons _ (List.sublist_cons_self _ _))
                  clear K2 b3
                  go_wp2_with fail
                  go_roundw
                  case rel => exact ⟨i + 1, by omega, rfl, by first | rfl | go_num, K3⟩
                  case measure => simp [intOf] <;> omega
                · obtain rfl : i = 4 := by omega
                  have hd : decide (((4 : Nat) : Int) < 4) = false := by decide
                  have K2 := H.drop (List.sublist_cons_self _ _)
                  clear H
                  go_wp2_with fail
                  go_roundw
                  case rel => exact ⟨j + 1, by omega, rfl, by first | rfl | go_num, K2⟩
                  case measure => simp [intOf] <;> omega
            · obtain rfl : j = 3 := by omega
              have hd : decide (((3 : Nat) : Int) < 3) = false := by decide
              go_wp2_with fail
              have hk1 := sdeltas_any (Mut None_ _) _ H.mutLt A0 3 c0 l A0 3 c0 l (H.ro 3 rfl) (H.ro 3 rfl) (fun z hz => ⟨(HS.out.ok z hz).1, (HS.out.ok z hz).2.1.tbm⟩) (fun z hz => ⟨(HS.out.ok z hz).1, (HS.out.ok z hz).2.1.tbm⟩) (by omega) (by omega)
              rw [delsC_self HS.out.st.stor] at hk1
              refine hk1.mono ?_
              clear hk1
              rintro e w1 ⟨B1, m1, c1, l1, rfl, a1, a2, a3, a4, ra, b1⟩
              have hm0 : m1 = 0 := by
                have a := congrArg List.length a3
                rw [List.length_map] at a
                have b : l1.length = m1 := ra.now.len
                have a : l1.length = 0 := a
                omega
              subst hm0
              have K1 := H.call b1
              clear H b1 ra a1 a2 a3 a4
              dsimp only
              go_wp2_with fail
              refine (known9 _).mono ?_
              rintro e w8 ⟨rfl, b8⟩
              have HB := hid (K1.call b8).below
              clear K1 b8
              go_wp2_with fail
              (try simp only [Exit.inBlock, Exit.then])
              first | (go_ret; exact ⟨rfl, HB.out⟩) | exact bodyPost_ret (v := .bool true) (by simp [results, Tryz.results6, go_sem]) rfl ⟨rfl, HB.out⟩
end Go.Proofs.YtedogodccblfeaaGreatDoor

namespace Go.Proofs.YtedogodccblfeaaGreatDoor
open Go.Joins Go.ChangeShapes Go.WideShapes Go.ChangeAt Go.RowKit Go.Deep
set_option linter.unusedVariables false
section
variable {H : Type} {enc : TypeId × Value → H} {P : Program} {W : World}
/-- each slice and text in the data is within the reach -/
def Sz (P : Program) (t : TypeId) (d : DataW H) : Prop := ∀ n ∈ d.weights P t, n ≤ reachBytes
theorem sz_arg {ts : List TypeId} {ds : List (DataW H)} (h : (DataW.weightsEach P ts ds).all (· ≤ reachBytes) = true) {j : Nat} {t : TypeId} {d : DataW H} (ht : ts[j]? = some t) (hd : ds[j]? = some d) : Sz P t d := fun n hn => by
  have := List.all_eq_true.1 h n (DataW.weights_mem_each ht hd n hn)
  simpa using this
theorem sz_part {t : TypeId} {fs : Array Field} {ys : List (DataW H)} (ht : P.underlying t = some (.struct fs)) (h : Sz P t (.agg ys)) {j : Nat} {f : Field} {y : DataW H} (hf : fs[j]? = some f) (hy : ys[j]? = some y) : Sz P f.type y := fun n hn => by
  refine h n ?_
  simp only [DataW.weights, ht]
  exact DataW.weights_mem_each (ts := fs.toList.map (·.type)) (j := j) (by simp [hf]) hy n hn
theorem mem_weightsAll {e : TypeId} {d : DataW H} {n : Nat} (hn : n ∈ d.weights P e) : ∀ {l : List (DataW H)}, d ∈ l → n ∈ DataW.weightsAll P e l
  | x :: l, h => by
    simp only [DataW.weightsAll, List.mem_append]
    rcases List.mem_cons.1 h with rfl | h
    · exact .inl hn
    · exact .inr (mem_weightsAll hn h)
theorem sz_elem {t e : TypeId} {el sp : List (DataW H)} (ht : P.underlying t = some (.slice e)) (h : Sz P t (.slice el sp)) {d : DataW H} (hd : d ∈ el ∨ d ∈ sp) : Sz P e d := fun n hn => by
  refine h n ?_
  simp only [DataW.weights, ht, List.mem_cons, List.mem_append]
  exact .inr (hd.imp (mem_weightsAll hn) (mem_weightsAll hn))
theorem sz_slice {t e : TypeId} {el sp : List (DataW H)} (ht : P.underlying t = some (.slice e)) (h : Sz P t (.slice el sp)) : (el.length + sp.length) * P.bytesOf e ≤ reachBytes := h _ (by simp [DataW.weights, ht])
/-- the cells of a value of type t are those of some a -/
def OpensAt (enc : TypeId × Value → H) (P : Program) (W : World) (t : TypeId) {α : Type} (k : Nat) (cel : α → List Value) (Ok : α → Prop) : Prop :=
  (∀ a, (cel a).length = k) ∧ ∀ fuel cs x, DataW.trod enc P W 0 (fun _ => true) true fuel t cs = some x → Sz P t x.1 → ∃ a, Ok a ∧ cs = cel a
/-- a slice: address, length, room, elements -/
structure SlV (α : Type) where
  A : Option Addr
  n : Nat
  c : Nat
  l : List α
def SlV.cells {α : Type} (s : SlV α) : List Value := [.slice s.A s.n s.c]
structure SlV.Ok {α : Type} (W : World) (k : Nat) (cel : α → List Value) (Okx : α → Prop) (by_ : Nat) (s : SlV α) : Prop where
  rd : Rd W W.heap.size k s.A s.n (s.l.flatMap cel)
  ok : ∀ z ∈ s.l, Okx z
  nc : s.n ≤ s.c
  max : s.c ≤ maxLen
  reach : s.c * by_ ≤ 140737488351232
theorem opens_int {t : TypeId} (u : P.underlying t = some (.int .i64)) : OpensAt enc P W t 1 (fun z : Int => [.int .i64 z]) I64 := ⟨fun _ => rfl, fun fuel cs x h _ => by
  obtain ⟨k, e, _, w⟩ := DataW.trod_int u h
  exact ⟨k, i64_wf w, e⟩⟩
theorem opens_str {t : TypeId} (u : P.underlying t = some .string) : OpensAt enc P W t 1 (fun s : ByteArray => [.string s]) (fun s => s.size ≤ maxLen) := ⟨fun _ => rfl, fun fuel cs x h _ => by
  obtain ⟨s, e, _, w⟩ := DataW.trod_string u h
  exact ⟨s, w, e⟩⟩
theorem opens_bool {t : TypeId} (u : P.underlying t = some .bool) : OpensAt enc P W t 1 (fun b : Bool => [.bool b]) (fun _ => True) := ⟨fun _ => rfl, fun fuel cs x h _ => by
  obtain ⟨b, e, _⟩ := DataW.trod_bool u h
  exact ⟨b, trivial, e⟩⟩
theorem opens_struct {α : Type} {t : TypeId} {fs : Array Field} {k : Nat} {cel : α → List Value} {Ok : α → Prop} (ht : P.underlying t = some (.struct fs)) (hk : P.cellsOf t = k) (hl : ∀ a, (cel a).length = k)
    (hb : ∀ cs : List Value, cs.length = k → (∀ (j : Nat) (f : Field), fs[j]? = some f → ∃ fuel y, DataW.trod enc P W 0 (fun _ => true) true fuel f.type ((cs.drop f.offset).take (P.cellsOf f.type)) = some y ∧ Sz P f.type y.1) → ∃ a, Ok a ∧ cs = cel a) : OpensAt enc P W t k cel Ok :=
  ⟨hl, fun fuel cs x h hz => by
    obtain ⟨xs, n, hn, hx, hlen, hxl, hf⟩ := DataW.trod_struct ht h
    refine hb cs (hlen.trans hk) fun j f hj => ?_
    have hjl : j < xs.length := by rw [hxl]; exact (Array.getElem?_eq_some_iff.1 hj).1
    have hy : xs[j]? = some xs[j] := List.getElem?_eq_getElem hjl
    rw [hx] at hz
    exact ⟨n, _, (hf j f hj).trans hy, sz_part ht hz hj (by simp [hy])⟩⟩
theorem opens_slice {α : Type} (dflt : α) {t e : TypeId} {k : Nat} {cel : α → List Value} {Ok : α → Prop} {by_ : Nat} (ht : P.underlying t = some (.slice e)) (hC : P.cellsOf e = k) (hk : 0 < k) (hby : P.bytesOf e = by_) (he : OpensAt enc P W e k cel Ok) :
    OpensAt enc P W t 1 (SlV.cells (α := α)) (SlV.Ok W k cel Ok by_) := ⟨fun _ => rfl, fun fuel cs x h hz => by
  obtain ⟨hcl, hop⟩ := he
  rcases open_slice ht h with ⟨rfl, rfl⟩ | ⟨a, len, cap, m, n, D, Pl, rfl, _, hl, hm, hmm, hx, hi⟩
  · exact ⟨⟨none, 0, 0, []⟩, ⟨Rd.none_, (fun _ h => (nomatch h)), Nat.le_refl _, Nat.zero_le _, by simp⟩, rfl⟩
  · simp only [if_true] at hmm
    subst hmm
    subst hx
    have hmem : ∀ i, i < m → D i ∈ (List.range len).map D ∨ D i ∈ (List.range (m - len)).map fun j => D (len + j) := fun i hi' => by
      rcases Nat.lt_or_ge i len with h1 | h1
      · exact .inl (List.mem_map.2 ⟨i, List.mem_range.2 h1, rfl⟩)
      · exact .inr (List.mem_map.2 ⟨i - len, List.mem_range.2 (by omega), by rw [show len + (i - len) = i by omega]⟩)
    have hcol : ∀ i, i < m → ∃ z : α, Ok z ∧ ∀ j, j < k → W.cell? (a.add (i * k + j)) = (cel z)[j]? := by
      intro i hi'
      obtain ⟨cs', hc, ht'⟩ := hi i hi'
      rw [hC] at hc
      obtain ⟨_, hcl', hat⟩ := World.cells?_some hc
      obtain ⟨z, hz1, rfl⟩ := hop _ _ _ ht' (sz_elem ht hz (hmem i hi'))
      refine ⟨z, hz1, fun j hj => ?_⟩
      rw [← Go.Deep.add_add]
      exact hat j hj
    obtain ⟨F, hF⟩ : ∃ F : Nat → α, ∀ i, i < m → Ok (F i) ∧ ∀ j, j < k → W.cell? (a.add (i * k + j)) = (cel (F i))[j]? := by
      refine ⟨fun i => if h : i < m then Classical.choose (hcol i h) else dflt, fun i hi => ?_⟩
      simp only [hi, dif_pos]
      exact Classical.choose_spec (hcol i hi)
    have hre := sz_slice ht hz
    refine ⟨⟨some a, len, m, (List.range len).map F⟩, ⟨⟨by rw [flat_len cel k hcl]; simp, fun hn => ?_⟩, fun z hz => ?_, hl, hm, ?_⟩, rfl⟩
    · obtain ⟨b, off, spot⟩ := a
      have h0 : ∃ u, W.cell? ((⟨b, off, spot⟩ : Addr).add (0 * k + 0)) = some u := by
        rw [(hF 0 (Nat.lt_of_lt_of_le hn hl)).2 0 hk]
        exact ⟨_, List.getElem?_eq_getElem (by rw [hcl]; exact hk)⟩
      obtain ⟨u0, hu0⟩ := h0
      have hspot : spot = none := by simpa [Addr.add] using World.cell?_spot hu0
      subst hspot
      refine ⟨b, off, rfl, World.block_lt_of_cell? W ⟨b, off, none⟩ (by simpa [Addr.add] using hu0), fun j u hu => ?_⟩
      obtain ⟨z, hz, hzu⟩ := flat_inv cel k hk hcl _ j u hu
      have hj : j / k < len := by have := (List.getElem?_eq_some_iff.1 hz).1; simpa using this
      simp only [List.getElem?_map, List.getElem?_range hj, Option.map_some, Option.some.injEq] at hz
      subst hz
      rw [← Go.WideShapes.add_plain]
      have hjd : j = j / k * k + j % k := by rw [Nat.mul_comm]; exact (Nat.div_add_mod j k).symm
      rw [hjd, (hF (j / k) (Nat.lt_of_lt_of_le hj hl)).2 (j % k) (Nat.mod_lt _ hk)]
      exact hzu
    · simp only [List.mem_map, List.mem_range] at hz
      obtain ⟨i, hi', rfl⟩ := hz
      exact (hF i (Nat.lt_of_lt_of_le hi' hl)).1
    · have : ((List.range len).map D).length + ((List.range (m - len)).map fun j => D (len + j)).length = m := by simp; omega
      rw [this, hby] at hre
      exact hre⟩
/-- an argument's value, opened -/
theorem OpensAt.agg {α : Type} {t : TypeId} {fs : Array Field} {k : Nat} {cel : α → List Value} {Ok : α → Prop} (he : OpensAt enc P W t k cel Ok) (hs : P.underlying t = some (.struct fs)) {r : Reach} {b0 : Nat} {v : Value} {d : DataW H} {p : List MemPlace} (hok : Value.okWide P W r b0 t v) (h : DataW.Trod enc P W 0 (fun _ => true) true t v d p) (hz : Sz P t d) : ∃ a, Ok a ∧ v = .agg (cel a).toArray := by
  obtain ⟨cs, rfl, _⟩ := okWide_struct hs hok
  obtain ⟨fuel, hf⟩ := h
  obtain ⟨a, h1, h2⟩ := he.2 _ _ _ hf hz
  refine ⟨a, h1, ?_⟩
  have h3 : cs.toList = cel a := by simpa [Value.cells] using h2
  rw [← h3]
theorem OpensAt.slice {α : Type} {t e : TypeId} {k : Nat} {cel : α → List Value} {Ok : α → Prop} {by_ : Nat} (he : OpensAt enc P W t 1 (SlV.cells (α := α)) (SlV.Ok W k cel Ok by_)) (hs : P.underlying t = some (.slice e)) {r : Reach} {b0 : Nat} {v : Value} {d : DataW H} {p : List MemPlace} (hok : Value.okWide P W r b0 t v) (h : DataW.Trod enc P W 0 (fun _ => true) true t v d p) (hz : Sz P t d) : ∃ s : SlV α, SlV.Ok W k cel Ok by_ s ∧ v = .slice s.A s.n s.c := by
  obtain ⟨A, n, c, rfl⟩ := okWide_slice hs hok
  obtain ⟨fuel, hf⟩ := h
  obtain ⟨a, h1, h2⟩ := he.2 _ _ _ hf hz
  refine ⟨a, h1, ?_⟩
  have h3 : [Value.slice A n c] = [.slice a.A a.n a.c] := by simpa [Value.cells, SlV.cells] using h2
  injection h3
theorem split2 {α : Type} {cs : List α} {a b : Nat} (h : cs.length = a + b) : cs = cs.take a ++ (cs.drop a).take b := by
  rw [List.take_of_length_le (l := cs.drop a) (by simp; omega), List.take_append_drop]
theorem opens_struct2 {α α0 α1 : Type} {t : TypeId} {f0 f1 : Field} {k0 k1 : Nat} {cel : α → List Value} {Ok : α → Prop} {cel0 : α0 → List Value} {Ok0 : α0 → Prop} {cel1 : α1 → List Value} {Ok1 : α1 → Prop} (ht : P.underlying t = some (.struct #[f0, f1])) (hk : P.cellsOf t = k0 + k1) (hl : ∀ a, (cel a).length = k0 + k1)
    (o0 : f0.offset = 0) (o1 : f1.offset = k0) (c0 : P.cellsOf f0.type = k0) (c1 : P.cellsOf f1.type = k1) (h0 : OpensAt enc P W f0.type k0 cel0 Ok0) (h1 : OpensAt enc P W f1.type k1 cel1 Ok1)
    (hmk : ∀ a0 a1, Ok0 a0 → Ok1 a1 → ∃ a, Ok a ∧ cel a = cel0 a0 ++ cel1 a1) : OpensAt enc P W t (k0 + k1) cel Ok := by
  refine opens_struct ht hk hl fun cs hlen hf => ?_
  obtain ⟨u0, y0, t0, z0⟩ := hf 0 f0 rfl
  obtain ⟨a0, p0, e0⟩ := h0.2 _ _ _ t0 z0
  rw [o0, c0] at e0
  obtain ⟨u1, y1, t1, z1⟩ := hf 1 f1 rfl
  obtain ⟨a1, p1, e1⟩ := h1.2 _ _ _ t1 z1
  rw [o1, c1] at e1
  obtain ⟨a, q1, q2⟩ := hmk a0 a1 p0 p1
  refine ⟨a, q1, ?_⟩
  rw [q2, ← e0, ← e1]
  rw [List.drop_zero]; exact split2 hlen
theorem opens_struct3 {α α0 α1 α2 : Type} {t : TypeId} {f0 f1 f2 : Field} {k0 k1 k2 : Nat} {cel : α → List Value} {Ok : α → Prop} {cel0 : α0 → List Value} {Ok0 : α0 → Prop} {cel1 : α1 → List Value} {Ok1 : α1 → Prop} {cel2 : α2 → List Value} {Ok2 : α2 → Prop} (ht : P.underlying t = some (.struct #[f0, f1, f2])) (hk : P.cellsOf t = k0 + k1 + k2) (hl : ∀ a, (cel a).length = k0 + k1 + k2)
    (o0 : f0.offset = 0) (o1 : f1.offset = k0) (o2 : f2.offset = k0 + k1) (c0 : P.cellsOf f0.type = k0) (c1 : P.cellsOf f1.type = k1) (c2 : P.cellsOf f2.type = k2) (h0 : OpensAt enc P W f0.type k0 cel0 Ok0) (h1 : OpensAt enc P W f1.type k1 cel1 Ok1) (h2 : OpensAt enc P W f2.type k2 cel2 Ok2)
    (hmk : ∀ a0 a1 a2, Ok0 a0 → Ok1 a1 → Ok2 a2 → ∃ a, Ok a ∧ cel a = cel0 a0 ++ (cel1 a1 ++ (cel2 a2))) : OpensAt enc P W t (k0 + k1 + k2) cel Ok := by
  refine opens_struct ht hk hl fun cs hlen hf => ?_
  obtain ⟨u0, y0, t0, z0⟩ := hf 0 f0 rfl
  obtain ⟨a0, p0, e0⟩ := h0.2 _ _ _ t0 z0
  rw [o0, c0] at e0
  obtain ⟨u1, y1, t1, z1⟩ := hf 1 f1 rfl
  obtain ⟨a1, p1, e1⟩ := h1.2 _ _ _ t1 z1
  rw [o1, c1] at e1
  obtain ⟨u2, y2, t2, z2⟩ := hf 2 f2 rfl
  obtain ⟨a2, p2, e2⟩ := h2.2 _ _ _ t2 z2
  rw [o2, c2] at e2
  obtain ⟨a, q1, q2⟩ := hmk a0 a1 a2 p0 p1 p2
  refine ⟨a, q1, ?_⟩
  rw [q2, ← e0, ← e1, ← e2]
  rw [List.drop_zero, ← List.drop_drop]
  have g1 := split2 (cs := cs) (a := k0) (b := k1 + k2) (by omega)
  have g2 := split2 (cs := cs.drop k0) (a := k1) (b := k2) (by simp; omega)
  rw [List.take_of_length_le (l := cs.drop k0) (by simp; omega)] at g1
  rw [← g2]; exact g1
theorem opens_struct4 {α α0 α1 α2 α3 : Type} {t : TypeId} {f0 f1 f2 f3 : Field} {k0 k1 k2 k3 : Nat} {cel : α → List Value} {Ok : α → Prop} {cel0 : α0 → List Value} {Ok0 : α0 → Prop} {cel1 : α1 → List Value} {Ok1 : α1 → Prop} {cel2 : α2 → List Value} {Ok2 : α2 → Prop} {cel3 : α3 → List Value} {Ok3 : α3 → Prop} (ht : P.underlying t = some (.struct #[f0, f1, f2, f3])) (hk : P.cellsOf t = k0 + k1 + k2 + k3) (hl : ∀ a, (cel a).length = k0 + k1 + k2 + k3)
    (o0 : f0.offset = 0) (o1 : f1.offset = k0) (o2 : f2.offset = k0 + k1) (o3 : f3.offset = k0 + k1 + k2) (c0 : P.cellsOf f0.type = k0) (c1 : P.cellsOf f1.type = k1) (c2 : P.cellsOf f2.type = k2) (c3 : P.cellsOf f3.type = k3) (h0 : OpensAt enc P W f0.type k0 cel0 Ok0) (h1 : OpensAt enc P W f1.type k1 cel1 Ok1) (h2 : OpensAt enc P W f2.type k2 cel2 Ok2) (h3 : OpensAt enc P W f3.type k3 cel3 Ok3)
    (hmk : ∀ a0 a1 a2 a3, Ok0 a0 → Ok1 a1 → Ok2 a2 → Ok3 a3 → ∃ a, Ok a ∧ cel a = cel0 a0 ++ (cel1 a1 ++ (cel2 a2 ++ (cel3 a3)))) : OpensAt enc P W t (k0 + k1 + k2 + k3) cel Ok := by
  refine opens_struct ht hk hl fun cs hlen hf => ?_
  obtain ⟨u0, y0, t0, z0⟩ := hf 0 f0 rfl
  obtain ⟨a0, p0, e0⟩ := h0.2 _ _ _ t0 z0
  rw [o0, c0] at e0
  obtain ⟨u1, y1, t1, z1⟩ := hf 1 f1 rfl
  obtain ⟨a1, p1, e1⟩ := h1.2 _ _ _ t1 z1
  rw [o1, c1] at e1
  obtain ⟨u2, y2, t2, z2⟩ := hf 2 f2 rfl
  obtain ⟨a2, p2, e2⟩ := h2.2 _ _ _ t2 z2
  rw [o2, c2] at e2
  obtain ⟨u3, y3, t3, z3⟩ := hf 3 f3 rfl
  obtain ⟨a3, p3, e3⟩ := h3.2 _ _ _ t3 z3
  rw [o3, c3] at e3
  obtain ⟨a, q1, q2⟩ := hmk a0 a1 a2 a3 p0 p1 p2 p3
  refine ⟨a, q1, ?_⟩
  rw [q2, ← e0, ← e1, ← e2, ← e3]
  rw [List.drop_zero, ← List.drop_drop, ← List.drop_drop, ← List.drop_drop]
  have g1 := split2 (cs := cs) (a := k0) (b := k1 + k2 + k3) (by omega)
  have g2 := split2 (cs := cs.drop k0) (a := k1) (b := k2 + k3) (by simp; omega)
  have g3 := split2 (cs := (cs.drop k0).drop k1) (a := k2) (b := k3) (by simp; omega)
  rw [List.take_of_length_le (l := cs.drop k0) (by simp; omega)] at g1
  rw [List.take_of_length_le (l := (cs.drop k0).drop k1) (by simp; omega)] at g2
  rw [← g3, ← g2]; exact g1
end
end Go.Proofs.YtedogodccblfeaaGreatDoor

namespace Go.Proofs.YtedogodccblfeaaGreatDoor
open Go.Joins Go.ChangeShapes Go.WideShapes Go.ChangeAt Go.RowKit Go.Deep
set_option linter.unusedVariables false
section
variable {H : Type} {enc : TypeId × Value → H} {W : World}
theorem opens_vl : OpensAt enc Tryz.prog W 117 3 Vl.cells Vl.ok :=
  opens_struct3 Tryz.underlying117 (by kernel_rfl) (fun _ => rfl) rfl rfl rfl (by kernel_rfl) (by kernel_rfl) (by kernel_rfl) (opens_int Tryz.underlying3) (opens_int Tryz.underlying2) (opens_str Tryz.underlying9)
    fun a b c ha hb hc => ⟨⟨a, b, c⟩, ⟨ha, hb, hc⟩, rfl⟩
theorem opens_col : OpensAt enc Tryz.prog W 147 4 Col.cells (fun c => I64 c.ty ∧ c.name.size ≤ maxLen) :=
  opens_struct4 Tryz.underlying147 (by kernel_rfl) (fun _ => rfl) rfl rfl rfl rfl (by kernel_rfl) (by kernel_rfl) (by kernel_rfl) (by kernel_rfl) (opens_str Tryz.underlying9) (opens_int Tryz.underlying3) (opens_bool Tryz.underlying4) (opens_bool Tryz.underlying4)
    fun a b c d ha hb hc hd => ⟨⟨a, b, c, d⟩, ⟨hb, ha⟩, rfl⟩
theorem opens_vls : OpensAt enc Tryz.prog W 51 1 (SlV.cells (α := Vl)) (SlV.Ok W 3 Vl.cells Vl.ok 32) :=
  opens_slice ⟨0, 0, ⟨#[]⟩⟩ Tryz.underlying51 (by kernel_rfl) (by omega) (by kernel_rfl) opens_vl
theorem opens_cols : OpensAt enc Tryz.prog W 47 1 (SlV.cells (α := Col)) (SlV.Ok W 4 Col.cells (fun c => I64 c.ty ∧ c.name.size ≤ maxLen) 32) :=
  opens_slice ⟨⟨#[]⟩, 0, false, false⟩ Tryz.underlying47 (by kernel_rfl) (by omega) (by kernel_rfl) opens_col
theorem maxLen_le : maxLen ≤ 9223372036854775807 := by unfold maxLen; omega
/-- a row of the arguments: its values stand in memory -/
structure RwAt (W : World) (r : Rw) : Prop where
  ok : r.ok
  vs : VlsIn r.A r.n r.vs W
  n : r.n ≤ 4398046511104
theorem opens_row : OpensAt enc Tryz.prog W 119 2 Rw.cells (RwAt W) :=
  opens_struct2 Tryz.underlying119 (by kernel_rfl) (fun _ => rfl) rfl rfl (by kernel_rfl) (by kernel_rfl) (opens_int Tryz.underlying3) opens_vls
    fun a s ha hs => ⟨⟨a, s.A, s.n, s.c, s.l⟩, ⟨⟨ha, hs.nc, Nat.le_trans hs.max maxLen_le, hs.ok⟩, hs.rd, by have h1 := hs.reach; have h2 := hs.nc; show s.n ≤ _; omega⟩, rfl⟩
theorem opens_rows : OpensAt enc Tryz.prog W 41 1 (SlV.cells (α := Rw)) (SlV.Ok W 2 Rw.cells (RwAt W) 32) :=
  opens_slice ⟨0, none, 0, 0, []⟩ Tryz.underlying41 (by kernel_rfl) (by omega) (by kernel_rfl) opens_row
/-- a list without a number -/
structure SlAt (W : World) (r : Sl) : Prop where
  ok : r.ok
  vs : VlsIn r.A r.n r.vs W
  n : r.n ≤ 4398046511104
/-- an update of the arguments -/
structure PrAt (W : World) (r : Pr) : Prop where
  ok : r.ok
  old : VlsIn r.oA r.on r.old W
  new : VlsIn r.nA r.nn r.new W
  on : r.on ≤ 4398046511104
  nn : r.nn ≤ 4398046511104
/-- a table of the arguments -/
structure TbV where
  nm : ByteArray
  cs : SlV Col
  nx : Int
  rs : SlV Rw
def TbV.cells (t : TbV) : List Value := [.string t.nm, .slice t.cs.A t.cs.n t.cs.c, .int .i64 t.nx, .slice t.rs.A t.rs.n t.rs.c]
structure TbV.Ok (W : World) (t : TbV) : Prop where
  nm : t.nm.size ≤ maxLen
  nx : I64 t.nx
  cs : SlV.Ok W 4 Col.cells (fun c => I64 c.ty ∧ c.name.size ≤ maxLen) 32 t.cs
  rs : SlV.Ok W 2 Rw.cells (RwAt W) 32 t.rs
theorem opens_sch : OpensAt enc Tryz.prog W 49 2 (fun x : ByteArray × SlV Col => [.string x.1, .slice x.2.A x.2.n x.2.c]) (fun x => x.1.size ≤ maxLen ∧ SlV.Ok W 4 Col.cells (fun c => I64 c.ty ∧ c.name.size ≤ maxLen) 32 x.2) :=
  opens_struct2 Tryz.underlying49 (by kernel_rfl) (fun _ => rfl) rfl rfl (by kernel_rfl) (by kernel_rfl) (opens_str Tryz.underlying9) opens_cols
    fun a s ha hs => ⟨(a, s), ⟨ha, hs⟩, rfl⟩
theorem opens_tb : OpensAt enc Tryz.prog W 58 4 TbV.cells (TbV.Ok W) :=
  opens_struct3 Tryz.underlying58 (by kernel_rfl) (fun _ => rfl) rfl rfl rfl (by kernel_rfl) (by kernel_rfl) (by kernel_rfl) opens_sch (opens_int Tryz.underlying3) opens_rows
    fun a b c ha hb hc => ⟨⟨a.1, a.2, b, c⟩, ⟨ha.1, hb, ha.2, hc⟩, rfl⟩
/-- a change of the arguments -/
structure ChV where
  ins : SlV Sl
  dels : SlV Int
  us : SlV Pr
def ChV.cells (t : ChV) : List Value := [.slice t.ins.A t.ins.n t.ins.c, .slice t.dels.A t.dels.n t.dels.c, .slice t.us.A t.us.n t.us.c]
structure ChV.Ok (W : World) (t : ChV) : Prop where
  ins : SlV.Ok W 1 Sl.cells (SlAt W) 24 t.ins
  dels : SlV.Ok W 1 (fun z : Int => [.int .i64 z]) I64 8 t.dels
  us : SlV.Ok W 3 Pr.cells (PrAt W) 56 t.us
end
/-- what stands in the arguments stays -/
theorem ro_rows {W : World} {A : Option Addr} {n c : Nat} {l : List Rw} (h : SlV.Ok W 2 Rw.cells (RwAt W) 32 ⟨A, n, c, l⟩) {M : Nat → Prop} (hM : ∀ b, b < W.heap.size → ¬ M b) : Ro W M (RwsIn A n l) :=
  (Rd.ro h.rd (Nat.le_refl _) hM : Ro W M (SlR 2 A n (rwCells l))).and fun w2 h1 h2 r hr => (Rd.ro (h.ok r hr).vs (Nat.le_refl _) hM : Ro W M (VlsIn r.A r.n r.vs)) w2 h1 h2
theorem ro_cols {W : World} {A : Option Addr} {n c : Nat} {l : List Col} {Ok : Col → Prop} (h : SlV.Ok W 4 Col.cells Ok 32 ⟨A, n, c, l⟩) {M : Nat → Prop} (hM : ∀ b, b < W.heap.size → ¬ M b) : Ro W M (SlR 4 A n (colCells l)) :=
  (Rd.ro h.rd (Nat.le_refl _) hM : Ro W M (SlR 4 A n (colCells l)))
end Go.Proofs.YtedogodccblfeaaGreatDoor

namespace Go.Proofs.YtedogodccblfeaaGreatDoor
open Go.RowKit
set_option linter.unusedVariables false
theorem tbArg_rows {W : World} {t : TbV} (h : TbV.Ok W t) : ∀ r ∈ t.rs.l.map Rw.row, r.2.length ≤ 4398046511104 := fun r hr => by
  obtain ⟨x, hx, rfl⟩ := List.mem_map.1 hr
  have h1 := h.rs.ok x hx
  have h2 : x.vs.length = x.n := VlsIn.len h1.vs
  have h3 := h1.n
  show x.vs.length ≤ _
  omega
theorem tbArg_cs {W : World} {t : TbV} (h : TbV.Ok W t) : ∀ x ∈ t.cs.l, x.name.size ≤ maxLen := fun x hx => (h.cs.ok x hx).2
end Go.Proofs.YtedogodccblfeaaGreatDoor

namespace Go.Proofs.YtedogodccblfeaaGreatDoor
open Go.RowKit
set_option linter.unusedVariables false
theorem tbM_arg {W : World} {t : TbV} (h : TbV.Ok W t) : TbM ⟨t.nm, t.cs.l, t.nx, t.rs.l.map Rw.row⟩ := by
  refine ⟨h.nm, tbArg_cs h, ?_, tbArg_rows h⟩
  have h1 : (rwCells t.rs.l).length = t.rs.n * 2 := h.rs.rd.1
  rw [rwCells_len] at h1
  have h2 := h.rs.reach
  have h3 := h.rs.nc
  show (t.rs.l.map Rw.row).length ≤ _
  rw [List.length_map]
  omega
end Go.Proofs.YtedogodccblfeaaGreatDoor

namespace Go.Proofs.YtedogodccblfeaaGreatDoor
open Go.Joins Go.ChangeShapes Go.WideShapes Go.ChangeAt Go.RowKit Go.Deep
set_option linter.unusedVariables false
def teOf (t : TbV) : Te := ⟨t.nm, t.cs.A, t.cs.n, t.cs.c, t.cs.l, t.nx, t.rs.A, t.rs.n, t.rs.c, t.rs.l⟩
/-- a table of the arguments -/
def TeArg (W : World) (x : Te) : Prop := ∃ t : TbV, TbV.Ok W t ∧ x = teOf t
theorem TeArg.good {W : World} {x : Te} (h : TeArg W x) : x.ok ∧ TbM x.tb := by
  obtain ⟨t, h, rfl⟩ := h
  exact ⟨⟨h.cs.nc, Nat.le_trans h.cs.max maxLen_le, h.rs.nc, Nat.le_trans h.rs.max maxLen_le, fun r hr => (h.rs.ok r hr).ok⟩, tbM_arg h⟩
theorem TeArg.ro {W : World} {x : Te} (h : TeArg W x) {M : Nat → Prop} (hM : ∀ b, b < W.heap.size → ¬ M b) : Ro W M (TeIn x) := by
  obtain ⟨t, h, rfl⟩ := h
  exact (ro_cols h.cs hM).and (ro_rows h.rs hM)
section
variable {H : Type} {enc : TypeId × Value → H} {W : World}
theorem opens_te : OpensAt enc Tryz.prog W 58 4 Te.cells (TeArg W) := ⟨fun _ => rfl, fun fuel cs x h hz => by
  obtain ⟨s, hs, rfl⟩ := opens_tb.2 fuel cs x h hz
  exact ⟨teOf s, ⟨s, hs, rfl⟩, rfl⟩⟩
theorem opens_tbs : OpensAt enc Tryz.prog W 29 1 (SlV.cells (α := Te)) (SlV.Ok W 4 Te.cells (TeArg W) 72) :=
  opens_slice ⟨⟨#[]⟩, none, 0, 0, [], 0, none, 0, 0, []⟩ Tryz.underlying29 (by kernel_rfl) (by omega) (by kernel_rfl) opens_te
end
theorem ro_tes {W : World} {s : SlV Te} (h : SlV.Ok W 4 Te.cells (TeArg W) 72 s) {M : Nat → Prop} (hM : ∀ b, b < W.heap.size → ¬ M b) : Ro W M (TesIn s.A s.n s.l) :=
  (Rd.ro h.rd (Nat.le_refl _) hM : Ro W M (SlR 4 s.A s.n (teCells s.l))).and fun w2 h1 h2 x hx => (h.ok x hx).ro hM w2 h1 h2
end Go.Proofs.YtedogodccblfeaaGreatDoor

namespace Go.Proofs.YtedogodccblfeaaGreatDoor
open Go.ChangeShapes Go.WideShapes Go.ChangeAt Go.RowKit
set_option linter.unusedVariables false
set_option linter.unusedSimpArgs false

namespace LawStoreDiffers
set_option maxRecDepth 100000 in
theorem contract (H : Type) (enc : TypeId × Value → H) (W : World) (base : Nat) (args : Array Value) (ds gs : List (DataW H)) (before : List MemPlace)
    (hval0 : ∀ (j : Nat) t v, Tryz.f6.params[j]? = some t → args[j]? = some v → Value.okWide Tryz.prog W .any base t v)
    (hsz0 : (DataW.weightsEach Tryz.prog (Tryz.f6.params.toList ++ Rows.storeDiffersSpec.plain.varTypes Tryz.prog) (ds ++ gs)).all (· ≤ reachBytes) = true)
    (hW : DataW.Whole enc Tryz.prog Tryz.f6.params.toList Rows.storeDiffersSpec.vars false W args.toList ds gs before) (hL : laidMetH Tryz.prog Rows.storeDiffersRow.laid W) (hsh : W.ShapedOpen Tryz.prog) :
    Calls Tryz.prog 6 args W fun e W' => ∃ v, e = .returned v ∧ Rows.storeDiffersSpec.post enc Tryz.prog Tryz.f6 false true false false W args v W' := by
  have hsz : (DataW.weightsEach Tryz.prog (Tryz.f6.params.toList ++ Rows.storeDiffersSpec.plain.varTypes Tryz.prog) (ds ++ gs)).all (· ≤ reachBytes) = true := hsz0
  have hval : ∀ (j : Nat) t v, Tryz.f6.params[j]? = some t → args[j]? = some v → Value.okWide Tryz.prog W .any base t v := hval0
  have hW' := hW
  obtain ⟨p, q, hA0, hV, rfl, hfz, hnd⟩ := hW
  have hA : DataW.TrodAll enc Tryz.prog W 0 (fun _ => true) true Tryz.f6.params.toList args.toList ds p := hA0
  rw [Tryz.params6] at hA hval hsz
  obtain ⟨v0, vs0, d0, ds0, p0, q0, hargs, rfl, rfl, h0, r0⟩ := trodAll_cons hA
  obtain ⟨v1, vs1, d1, ds1, p1, q1, rfl, rfl, rfl, h1, r1⟩ := trodAll_cons r0
  obtain ⟨v2, vs2, d2, ds2, p2, q2, rfl, rfl, rfl, h2, r2⟩ := trodAll_cons r1
  obtain ⟨rfl, rfl, rfl⟩ := trodAll_nil r2
  obtain rfl : args = #[v0, v1, v2] := by cases args; simp_all
  obtain ⟨rfl, rfl⟩ := trodVars_none hV
  obtain ⟨sl0, ok0, rfl⟩ := opens_tbs.slice Tryz.underlying29 (hval 0 29 v0 rfl rfl) h0 (sz_arg hsz (j := 0) rfl rfl)
  obtain ⟨sl1, ok1, rfl⟩ := opens_tbs.slice Tryz.underlying29 (hval 1 29 v1 rfl rfl) h1 (sz_arg hsz (j := 1) rfl rfl)
  obtain ⟨A2, n2, c2, zs2, rfl, k2, z2, l2, m2, e2⟩ := open_i64s Tryz.underlying22 Tryz.underlying3 (by kernel_rfl) (hval 2 22 v2 rfl rfl) h2
  refine (sdiffers_walk sl0.A sl0.n sl0.c sl0.l sl1.A sl1.n sl1.c sl1.l A2 n2 c2 zs2 W (ro_tes ok0 (fun b _ h => h)) (ro_tes ok1 (fun b _ h => h)) (fun x hx => (ok0.ok x hx).good) (fun x hx => (ok1.ok x hx).good) ok0.nc (Nat.le_trans ok0.max maxLen_le) ok1.nc (Nat.le_trans ok1.max maxLen_le) k2 z2 l2 (by unfold maxLen at m2; omega) (wds_of_laid (rest := []) hL)).mono fun e W' ⟨he, hb⟩ => ?_
  exact ⟨_, he, law_post rfl laidOut (by kernel_rfl) (by kernel_rfl) Tryz.underlying4 rfl hW' hb⟩

theorem laid_met (os : Os) : laidMet Tryz.prog Rows.storeDiffersRow.laid ((wordsWorld os).forCall (fun _ _ => 0) ⟨#[], #[.slice none 0 0, .slice none 0 0, .slice none 0 0], []⟩).memory :=
  laidMet_of_run' 16 (by kernel_rfl) (by kernel_rfl)
theorem reads (os : Os) {H : Type} (enc : TypeId × Value → H) : ∃ places, DataW.whole enc Tryz.prog ((wordsWorld os).forCall (fun _ _ => 0) ⟨#[], #[.slice none 0 0, .slice none 0 0, .slice none 0 0], []⟩).memory Tryz.f6.params.toList Rows.storeDiffersSpec.vars false #[.slice none 0 0, .slice none 0 0, .slice none 0 0].toList 8 = some ([.nil, .nil, .nil], [], places) :=
  ⟨[], by kernel_rfl⟩

set_option maxRecDepth 100000 in
theorem lifted (os : Os) (started : os.Started) (H : Type) (enc : TypeId × Value → H) (F : Stop.Interp) :
    ReturnsInHanded {} Tryz.checked os 6 .any ((OpenSpec.ofChange Rows.storeDiffersSpec).preRow enc Tryz.prog Tryz.f6 Rows.storeDiffersRow.domain false Rows.storeDiffersRow.laid) (((OpenSpec.ofChange Rows.storeDiffersSpec).at F).post enc Tryz.prog Tryz.f6 false true false false) := by
  obtain ⟨places, hx⟩ := reads os enc
  refine returnsInHanded_of_row (C := Tryz.checked) (s := OpenSpec.ofChange Rows.storeDiffersSpec) own started (by kernel_rfl) Tryz.func6
    (witness_row_at (enc := enc) (C := Tryz.checked) false (wordsWorld os) #[.slice none 0 0, .slice none 0 0, .slice none 0 0] rfl (by kernel_rfl) (by kernel_rfl) (by kernel_rfl)
      (OpenSpec.preRow_of_cond 8 hx (by kernel_rfl) (fun k hk => by cases hk) (by kernel_rfl) (laid_met os))) ?_
  intro W base args ds gs before hval hW _ _ hsz0 hL hsh _
  exact contract H enc W base args ds gs before hval hsz0 hW hL hsh

theorem said : Rows.StoreDiffersSaid :=
  OpenClaim.holds_of_cond 6 Tryz.f6 rfl rfl rfl rfl rfl rfl rfl ⟨rfl, rfl, rfl, rfl, rfl⟩ rfl rfl rfl rfl rfl (by kernel_rfl) Tryz.func6 (by kernel_rfl)
    (of_decide_eq_true (by kernel_rfl)) (by unfold Func.isWrapper; first | (rw [if_pos (by decide +kernel)]; kernel_rfl) | (rw [if_neg (by decide +kernel)]; exact ⟨rfl, rfl⟩))
    (fun os started H enc _ F => by rw [OpenClaim.pre_eq_preRow]; exact lifted os started H enc F)

theorem plain (f : FuncId) (fn : Func) (hf : Tryz.pinned.checked.prog.funcNamed "triggerstore/triggerstorelaw9.StoreDiffers" = some f) (hfn : Tryz.pinned.checked.prog.funcs[f]? = some fn) :
    false = Tryz.pinned.checked.prog.looks [] ∧ ∀ (j : Nat) t, fn.params[j]? = some t → Tryz.pinned.checked.prog.wantsStandIn t = false := by
  obtain rfl : f = 6 := Option.some.inj ((show Tryz.prog.funcNamed "triggerstore/triggerstorelaw9.StoreDiffers" = some 6 by kernel_rfl).symm.trans hf) |>.symm
  obtain rfl : fn = Tryz.f6 := (Option.some.inj (Tryz.func6.symm.trans hfn)).symm
  refine ⟨by kernel_rfl, fun j t ht => ?_⟩
  rw [Tryz.params6] at ht
  have hm := Array.mem_of_getElem? ht
  simp only [List.mem_toArray, List.mem_cons, List.not_mem_nil, or_false] at hm
  rcases hm with rfl | rfl | rfl
  · exact (show Tryz.prog.wantsStandIn 29 = false by kernel_rfl)
  · exact (show Tryz.prog.wantsStandIn 29 = false by kernel_rfl)
  · exact (show Tryz.prog.wantsStandIn 22 = false by kernel_rfl)
end LawStoreDiffers

theorem storeDiffers_holds : Rows.StoreDiffersCardSaid :=
  Claim7.holds_tied_plain_at .later [] _ _ _ _ LawStoreDiffers.said (fun _ h => by cases h) (by kernel_rfl) (fun _ h => by cases h) storeDiffers_row_tie rfl ⟨rfl, rfl⟩ (by kernel_rfl) rfl LawStoreDiffers.plain (by kernel_rfl)
#print axioms storeDiffers_holds
end Go.Proofs.YtedogodccblfeaaGreatDoor

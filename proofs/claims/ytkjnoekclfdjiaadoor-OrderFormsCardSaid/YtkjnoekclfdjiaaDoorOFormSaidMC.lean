/- OrderForms answers true for every list of links, names and tape. Condition: the row's own, the laid table of letters; the tied card. -/
import Derived.Test.YtkjnoekclfdjiaaDoorOFormSaidMB
import Derived.Test.YtkjnoekclfdjiaaDoorCards
import Derived.Test.YtkjnoekclfdjiaaDoorTie
import Derived.Test.YtkjnoekclfdjiaaDoorOFormSaidMA
namespace Go.Proofs.YtkjnoekclfdjiaaDoor
open Go.RowKit
set_option linter.unusedVariables false
set_option linter.unusedSimpArgs false

set_option maxHeartbeats 4000000 in
set_option maxRecDepth 100000 in
theorem rremove_any (M : Nat → Prop) (w : World) (hM : ∀ b, M b → b < w.heap.size) (A : Option Addr) (n c : Nat) (l : List Lk) (s : ByteArray) (hD : Ro w M (LksIn A n l)) (hn : n ≤ 1000000) :
    Calls Tryd.prog 32 #[.slice A n c, .string s] w fun e w' => LksRet w M (remL l s) e w' := by
  have HL := hid hD.now.len
  have K0 := ((Hold.start M w hM).add (hD.less (by simp [Mut]))).nil 41 2
  clear hD
  go_enter Tryd.func32, Tryd.ntmps32
  go_wp2_with fail
  go_loopw [5, 10] (fun ov iv wr => ∃ (k q cap : Nat) (O : Option Addr), k ≤ n ∧ q ≤ k ∧ iv = .int .i64 k ∧ ov = .slice O q cap ∧ Hold M none w wr [.own 41 2 (.slice O q cap) q (lkCells (remL (l.take k) s)), .ro (LksIn A n l)]) (fun _ iv _ => n - (intOf iv).toNat)
  case atStart => exact ⟨0, 0, 0, none, by omega, by omega, rfl, rfl, K0⟩
  case round =>
    clear K0
    obtain ⟨k, q, cap, O, hk, hq, rfl, rfl, H⟩ := hrel
    by_cases hlt : k < n
    · have hdd : decide ((k : Int) < (n : Int)) = true := by simp; omega
      obtain ⟨x, hx⟩ := get_of HL.out hlt
      obtain ⟨g, o, rfl, hb, c0, c1⟩ := (H.ro 1 rfl).now.at_ hx
      have HX := hid hx
      clear hx
      have K1 := H.alloc_cst #[.string x.a, .string x.b] 41
      have FA := K1.facts
      simp only [World.size_alloc, World.size_drew, factsL, cellsF, Nat.reduceAdd, List.toList_toArray, List.set_cons_zero, List.set_cons_succ, List.setIfInBounds_toArray, and_true, true_and] at FA
      cases h1 : (x.a.toList == s.toList)
      · have n1 : (x.a.toList != s.toList) = true := by simp [bne, h1]
        cases h2 : (x.b.toList == s.toList)
        · have n2 : (x.b.toList != s.toList) = true := by simp [bne, h2]
          have HT := hid (show lkCells (remL (l.take k) s) ++ (#[Value.string x.a, .string x.b]).toList = lkCells (remL (l.take (k + 1)) s) by
            rw [rem_snoc HX.out, show touL s x = false by unfold touL; rw [h1, h2]; rfl]; simp [lkCells, Lk.cells])
          go_wp2_with (at_builtin; go_must (refine wpList_appH K1 1 rfl Tryd.elLink #[.string x.a, .string x.b] rfl (.tmp 24) (.tmp 26) rfl rfl _ (by first | rfl | simp) rfl rfl (by intro u hu; simp at hu; rcases hu with rfl | rfl <;> rfl) (by omega) (by omega) ?_); intro g9 cap9 w9 hc9 hm9 KB; rw [HT.out] at KB; simp only [List.set_cons_zero, List.set_cons_succ] at KB)
          go_roundw
          case rel => exact ⟨k + 1, q + 1, cap9, _, by omega, by omega, by go_num, by first | rfl | go_num, KB.drop (List.sublist_cons_self _ _)⟩
          case measure => simp [intOf]; omega
        · have n2 : (x.b.toList != s.toList) = false := by simp [bne, h2]
          have HT := hid (show remL (l.take k) s = remL (l.take (k + 1)) s by
            rw [rem_snoc HX.out, show touL s x = true by unfold touL; rw [h1, h2]; rfl]; simp)
          go_wp2_with fail
          go_roundw
          case rel => exact ⟨k + 1, q, cap, O, by omega, by omega, by go_num, rfl, by rw [← HT.out]; exact K1.drop (List.sublist_cons_self _ _)⟩
          case measure => simp [intOf]; omega
      · have n1 : (x.a.toList != s.toList) = false := by simp [bne, h1]
        have HT := hid (show remL (l.take k) s = remL (l.take (k + 1)) s by
          rw [rem_snoc HX.out, show touL s x = true by unfold touL; rw [h1]; rfl]; simp)
        go_wp2_with fail
        go_roundw
        case rel => exact ⟨k + 1, q, cap, O, by omega, by omega, by go_num, rfl, by rw [← HT.out]; exact K1.drop (List.sublist_cons_self _ _)⟩
        case measure => simp [intOf]; omega
    · obtain rfl : n = k := by omega
      have hdd : decide ((n : Int) < (n : Int)) = false := by simp
      have HQ := hid (show q = (remL l s).length by
        have := (H.get 0 rfl).1
        rw [lkCells_len, List.take_of_length_le (by rw [HL.out]; exact Nat.le_refl _)] at this; omega)
      have hcap := own_caps (H.get 0 rfl)
      have KS := H.sealRow 0 rfl
      simp only [List.set_cons_zero] at KS
      have r0 := KS.roOut 0 rfl
      rw [List.take_of_length_le (by rw [HL.out]; exact Nat.le_refl _)] at r0
      go_wp2_with fail
      go_ret
      exact ⟨O, q, cap, rfl, HQ.out, hcap.1, hcap.2.1, r0, KS.below⟩
end Go.Proofs.YtkjnoekclfdjiaaDoor

namespace Go.Proofs.YtkjnoekclfdjiaaDoor
open Go.RowKit
set_option linter.unusedVariables false
set_option linter.unusedSimpArgs false

instance lkDec : DecidableEq Lk := fun x y => if h : x.a = y.a ∧ x.b = y.b then isTrue (lk_ext h.1 h.2) else isFalse fun e => h ⟨by rw [e], by rw [e]⟩
def eqLk (xs ys : List Lk) : Bool := decide (xs = ys)
theorem takeK_succ {l l' : List Lk} {k : Nat} {x y : Lk} (hx : l[k]? = some x) (hy : l'[k]? = some y) (h : l.take k = l'.take k) (e : x = y) : l.take (k + 1) = l'.take (k + 1) := by
  rw [List.take_add_one, List.take_add_one, hx, hy, h, e]
theorem beqK_no {xs ys : List Lk} {k : Nat} {x y : Lk} (hx : xs[k]? = some x) (hy : ys[k]? = some y) (h : x ≠ y) : eqLk xs ys = false := by
  unfold eqLk
  rw [decide_eq_false_iff_not]
  rintro rfl
  rw [hx] at hy
  exact h (by injection hy)
set_option maxHeartbeats 4000000 in
set_option maxRecDepth 100000 in
theorem eqLks_any (w : World) (A : Option Addr) (n c : Nat) (xs : List Lk) (B : Option Addr) (m d : Nat) (ys : List Lk) (hD : LksIn A n xs w) (hE : LksIn B m ys w) (hn : n ≤ 1000000) :
    Calls Tryd.prog 31 #[.slice A n c, .slice B m d] w fun e w' => e = .returned (.bool (eqLk xs ys)) ∧ ∃ q, w' = w.drewN q := by
  have HL := hid hD.len
  have HK := hid hE.len
  by_cases hnm : n = m
  · subst hnm
    have hb : ((n : Int) != (n : Int)) = false := by simp
    go_enter Tryd.func31, Tryd.ntmps31
    go_wp2_with fail
    go_loopw [13] (fun i wr => ∃ (k q : Nat), k ≤ n ∧ i = .int .i64 k ∧ wr = w.drewN q ∧ Hid (xs.take k = ys.take k)) (fun i _ => n - (intOf i).toNat)
    case atStart => exact ⟨0, 0, by omega, rfl, rfl, hid (by simp)⟩
    case round =>
      obtain ⟨k, q, hk, rfl, rfl, HTK⟩ := hrel
      by_cases hlt : k < n
      · have hd : decide ((k : Int) < (n : Int)) = true := by simp; omega
        have i0 : (0 : Int) ≤ (k : Int) := by omega
        have i1 : (k : Int) < (n : Int) := by omega
        obtain ⟨x, hx⟩ := get_of HL.out hlt
        obtain ⟨y, hy⟩ := get_of HK.out hlt
        obtain ⟨g, o, rfl, hbx, x0, x1⟩ := hD.at_ hx
        obtain ⟨g', o', rfl, hby, y0, y1⟩ := hE.at_ hy
        have HX := hid hx; have HY := hid hy; clear hx hy
        by_cases hf : x.a = y.a
        · by_cases ht : x.b = y.b
          · have e1 : (x.a.toList == y.a.toList) = true := by simp [hf]
            have e2 : (x.b.toList == y.b.toList) = true := by simp [ht]
            have HXY := hid (lk_ext hf ht)
            clear hf ht
            go_wp2_with fail
            go_quiet (fail)
            go_wp2_with fail
            go_roundw
            case rel => exact ⟨k + 1, q + nq, by omega, by go_num, by first | rfl | exact World.drewN_drewN .., hid (takeK_succ HX.out HY.out HTK.out HXY.out)⟩
            case measure => simp [intOf]; omega
          · have e1 : (x.a.toList == y.a.toList) = true := by simp [hf]
            have e2 : (x.b.toList == y.b.toList) = false := by rw [beq_eq_false_iff_ne]; exact fun h => ht (ba_ext h)
            have HN := hid (beqK_no HX.out HY.out (by intro h; exact ht (by rw [h])))
            clear hf ht
            go_wp2_with fail
            go_quiet (fail)
            go_wp2_with fail
            go_ret
            exact ⟨by rw [HN.out] <;> rfl, q + nq, World.drewN_drewN ..⟩
        · have e1 : (x.a.toList == y.a.toList) = false := by rw [beq_eq_false_iff_ne]; exact fun h => hf (ba_ext h)
          have HN := hid (beqK_no HX.out HY.out (by intro h; exact hf (by rw [h])))
          clear hf
          go_wp2_with fail
          go_quiet (fail)
          go_wp2_with fail
          go_ret
          exact ⟨by rw [HN.out] <;> rfl, q + nq, World.drewN_drewN ..⟩
      · obtain rfl : n = k := by omega
        have hd : decide ((n : Int) < (n : Int)) = false := by simp
        have HE := hid (show eqLk xs ys = true by
          unfold eqLk
          have h := HTK.out
          rw [List.take_of_length_le (by rw [HL.out]; exact Nat.le_refl _), List.take_of_length_le (by rw [HK.out]; exact Nat.le_refl _)] at h
          simp [h])
        go_wp2_with fail
        go_ret
        exact ⟨by rw [HE.out] <;> rfl, q, rfl⟩
  · have hb : ((n : Int) != (m : Int)) = true := by simp; omega
    have HB := hid (show eqLk xs ys = false by
      unfold eqLk
      rw [decide_eq_false_iff_not]; rintro rfl; have := HL.out; have := HK.out; omega)
    go_enter Tryd.func31, Tryd.ntmps31
    go_wp2_with fail
    go_ret
    exact ⟨by rw [HB.out] <;> rfl, 0, rfl⟩
theorem eqLk_self (l : List Lk) : eqLk l l = true := by unfold eqLk; simp
theorem clos_names' {l r : List Lk} {ns : List ByteArray} (h : ClosOf l r) (hn : NamesIn ns l) : NamesIn ns r := fun z hz => Tr.names hn ((h.2 z.a z.b).1 hz)
/-- What Add answers, as data: its code, its links. -/
def OKind (l : List Lk) (nm : ByteArray) (ps fs : List ByteArray) (ec : Int) (r : List Lk) : Prop :=
  (ec = 17 ∧ validLk l = false ∧ r = []) ∨ (validLk l = true ∧ ((ec = 13 ∧ (∃ s, Tr (allO l nm ps fs) s s) ∧ r = []) ∨ (ec = 0 ∧ ClosOf (allO l nm ps fs) r ∧ validLk r = true)))
theorem okind_one {l : List Lk} {nm : ByteArray} {ps fs : List ByteArray} {ec ec' : Int} {r r' : List Lk} (h : OKind l nm ps fs ec r) (k : OKind l nm ps fs ec' r') : ec = ec' ∧ r = r' := by
  rcases h with ⟨h1, h2, h3⟩ | ⟨hv, ⟨h1, ⟨s, h2⟩, h3⟩ | ⟨h1, h2, h3⟩⟩ <;> rcases k with ⟨k1, k2, k3⟩ | ⟨kv, ⟨k1, ⟨s', k2⟩, k3⟩ | ⟨k1, k2, k3⟩⟩
  · exact ⟨by rw [h1, k1], by rw [h3, k3]⟩
  · rw [h2] at kv; cases kv
  · rw [h2] at kv; cases kv
  · rw [k2] at hv; cases hv
  · exact ⟨by rw [h1, k1], by rw [h3, k3]⟩
  · rw [clos_self k2 h2] at k3; cases k3
  · rw [k2] at hv; cases hv
  · rw [clos_self h2 k2] at h3; cases h3
  · exact ⟨by rw [h1, k1], clos_same (fun z => Iff.rfl) h2 k2⟩
theorem okind_code {l : List Lk} {nm : ByteArray} {ps fs : List ByteArray} {ec : Int} {r : List Lk} (h : OKind l nm ps fs ec r) : ec = 0 ∨ ec = 13 ∨ ec = 17 := by
  rcases h with ⟨h1, _⟩ | ⟨_, ⟨h1, _⟩ | ⟨h1, _⟩⟩
  · exact .inr (.inr h1)
  · exact .inr (.inl h1)
  · exact .inl h1
theorem okind_valid {l : List Lk} {nm : ByteArray} {ps fs : List ByteArray} {ec : Int} {r : List Lk} (h : OKind l nm ps fs ec r) (h0 : ec = 0) : validLk r = true ∧ ClosOf (allO l nm ps fs) r := by
  rcases h with ⟨h1, _⟩ | ⟨_, ⟨h1, _⟩ | ⟨h1, h2, h3⟩⟩
  · omega
  · omega
  · exact ⟨h3, h2⟩
theorem okind_ok {l : List Lk} {nm : ByteArray} {ps fs : List ByteArray} {ec : Int} {r : List Lk} (h : OKind l nm ps fs ec r) (ok : ∀ x ∈ allO l nm ps fs, x.ok) : ∀ x ∈ r, x.ok := by
  rcases h with ⟨_, _, h3⟩ | ⟨_, ⟨_, _, h3⟩ | ⟨_, h2, h3⟩⟩
  · rw [h3]; exact fun x hx => nomatch hx
  · rw [h3]; exact fun x hx => nomatch hx
  · exact fun x hx => tr_ok ok ((h2.2 x.a x.b).1 hx)
def KindRet (w : World) (M : Nat → Prop) (l : List Lk) (nm : ByteArray) (ps fs : List ByteArray) (e : Ending) (w' : World) : Prop :=
  ∃ (ec : Int) (r : List Lk) (A : Option Addr) (n c : Nat), e = .returned (.tuple #[.slice A n c, .int .i64 ec]) ∧ OKind l nm ps fs ec r ∧ n ≤ c ∧ c ≤ 9223372036854775807 ∧ Ro w' M (LksIn A n r) ∧ Below w.heap.size w w'
theorem oadd_kind {w : World} {M : Nat → Prop} {l : List Lk} {nm : ByteArray} {ps fs : List ByteArray} {e : Ending} {w' : World} (h : OAddRet w M l nm ps fs e w') : KindRet w M l nm ps fs e w' := by
  obtain ⟨b, ⟨hv, rfl⟩ | ⟨hv, ⟨hs, rfl⟩ | ⟨r, hc, hr, A, n, c, rfl, hn, hnc, hcm, ro⟩⟩⟩ := h
  · exact ⟨17, [], none, 0, 0, rfl, .inl ⟨rfl, hv, rfl⟩, by omega, by omega, ro_nil, b⟩
  · exact ⟨13, [], none, 0, 0, rfl, .inr ⟨hv, .inl ⟨rfl, hs, rfl⟩⟩, by omega, by omega, ro_nil, b⟩
  · exact ⟨0, r, A, n, c, rfl, .inr ⟨hv, .inr ⟨rfl, hc, hr⟩⟩, hnc, hcm, ro, b⟩
theorem radd_kind {w : World} {M : Nat → Prop} {l : List Lk} {nm : ByteArray} {ps fs : List ByteArray} {e : Ending} {w' : World} (h : AddRet w M l nm ps fs e w') : KindRet w M l nm ps fs e w' := by
  obtain ⟨b, ⟨hv, rfl⟩ | ⟨hv, r, hc, hr⟩⟩ := h
  · exact ⟨17, [], none, 0, 0, rfl, .inl ⟨rfl, hv, rfl⟩, by omega, by omega, ro_nil, b⟩
  have hc2 : ClosOf (allO l nm ps fs) r := ⟨hc.1, fun x y => (hc.2 x y).trans (tr_of_mem (fun z => allO_mem (valid_sorted hv) nm ps fs z) x y)⟩
  rcases hr with ⟨hr, rfl⟩ | ⟨hr, A, n, c, rfl, hn, hnc, hcm, ro⟩
  · refine ⟨13, [], none, 0, 0, rfl, .inr ⟨hv, .inl ⟨rfl, ?_, rfl⟩⟩, by omega, by omega, ro_nil, b⟩
    apply Classical.byContradiction
    intro hne
    have := (clos_valid hc2).2 fun z hz e => hne ⟨z.a, by have := (hc2.2 z.a z.b).1 hz; rwa [← e] at this⟩
    rw [hr] at this; cases this
  · exact ⟨0, r, A, n, c, rfl, .inr ⟨hv, .inr ⟨rfl, hc2, hr⟩⟩, hnc, hcm, ro, b⟩
set_option maxHeartbeats 16000000 in
set_option maxRecDepth 100000 in
theorem oalike_any (M : Nat → Prop) (w : World) (hM : ∀ b, M b → b < w.heap.size) (A : Option Addr) (n c : Nat) (l : List Lk) (nm nb : ByteArray) (A1 : Option Addr) (n1 c1 : Nat) (ps : List ByteArray) (A2 : Option Addr) (n2 c2 : Nat) (fs : List ByteArray)
    (hD : Ro w M (LksIn A n l)) (hP : Ro w M (StrsIn A1 n1 ps)) (hF : Ro w M (StrsIn A2 n2 fs)) (hn : n ≤ 40) (hn1 : n1 ≤ 20) (hn2 : n2 ≤ 20) (ol : ∀ x ∈ l, x.ok) (onm : nm.size ≤ maxLen) (op : ∀ s ∈ ps, s.size ≤ maxLen) (of : ∀ s ∈ fs, s.size ≤ maxLen) :
    Calls Tryd.prog 18 #[.slice A n c, .string nm, .string nb, .slice A1 n1 c1, .slice A2 n2 c2] w fun e w' => e = .returned (.bool true) ∧ Below w.heap.size w w' := by
  have HL := hid hD.now.len
  have HP := hid hP.now.len
  have HF := hid hF.now.len
  have HOL := hid (And.intro ol (And.intro onm (And.intro op of)))
  have HO := hid (allO_ok (nm := nm) (ps := ps) (fs := fs) ol onm op of)
  obtain ⟨ns, hns⟩ : ∃ ns, ns = namesL (allO l nm ps fs) ++ [nm] ++ ps ++ fs := ⟨_, rfl⟩
  have HNS : Hid (NamesIn ns l ∧ nm ∈ ns ∧ (∀ s ∈ ps, s ∈ ns) ∧ (∀ s ∈ fs, s ∈ ns) ∧ ns.length * ns.length ≤ 1000000) := hid (by
    have hall : ∀ z ∈ allO l nm ps fs, z.a ∈ ns ∧ z.b ∈ ns := fun z hz => by
      have h1 := namesL_in (allO l nm ps fs) (ns := namesL (allO l nm ps fs)) (fun s => Iff.rfl) z hz
      rw [hns]
      simp only [List.mem_append]
      exact ⟨.inl (.inl (.inl h1.1)), .inl (.inl (.inl h1.2))⟩
    have hlen : ns.length ≤ 1000 := by
      have h1 : (namesL (allO l nm ps fs)).length = (allO l nm ps fs).length * 2 := flat_len _ 2 (fun _ => rfl) _
      have h2 : (allO l nm ps fs).length = l.length + ps.length + fs.length := by simp [allO] <;> omega
      have := HL.out
      have := HP.out
      have := HF.out
      rw [hns]
      simp only [List.length_append, List.length_cons, List.length_nil]
      omega
    refine ⟨fun z hz => hall z (by simp [allO, hz]), by rw [hns]; simp, fun s hs => by rw [hns]; simp [hs], fun s hs => by rw [hns]; simp [hs], ?_⟩
    exact Nat.le_trans (Nat.mul_le_mul hlen hlen) (by decide))
  clear hns
  clear ol onm op of
  have K0 := ((((Hold.start M w hM).add (hF.less (by simp [Mut]))).add (hP.less (by simp [Mut, Hp.foot]))).add (hD.less (by simp [Mut, Hp.foot])))
  clear hD hP hF
  go_enter Tryd.func18, Tryd.ntmps18
  go_wp2_with fail
  refine (oadd_any _ _ K0.mutLt A n c l nm A1 n1 c1 ps A2 n2 c2 fs (K0.ro 0 rfl) (K0.ro 1 rfl) (K0.ro 2 rfl) hn hn1 hn2 HOL.out.1 HOL.out.2.1 HOL.out.2.2.1 HOL.out.2.2.2).mono ?_
  intro e w1 h
  obtain ⟨ec, r, B, m, d, rfl, hk, hmd, hd, hr, b1⟩ := oadd_kind h
  have K1 := (K0.call b1).add hr
  have HK := hid hk
  clear K0 b1 hr h hk
  go_wp2_with fail
  refine (radd_any _ _ K1.mutLt A n c l nm A1 n1 c1 ps A2 n2 c2 fs ns (K1.ro 1 rfl) (K1.ro 2 rfl) (K1.ro 3 rfl) HNS.out.1 HNS.out.2.1 HNS.out.2.2.1 HNS.out.2.2.2.1 HNS.out.2.2.2.2 (by omega) (by omega) (by omega)).mono ?_
  intro e w2 h
  obtain ⟨ec2, r2, B2, m2, d2, rfl, hk2, hmd2, hd2, hr2, b2⟩ := radd_kind h
  obtain ⟨e1, e2⟩ := okind_one HK.out hk2
  subst e1 e2
  have K2 := (K1.call b2).add hr2
  clear K1 b2 hr2 h hk2 HNS
  have HM1 := hid (K2.ro 1 rfl).now.len
  have HM2 := hid (K2.ro 0 rfl).now.len
  have hm : m = m2 := HM1.out.symm.trans HM2.out
  subst hm
  have hm5 : m ≤ 1000000 := by
    have h1 := okind_code HK.out
    rcases HK.out with ⟨_, _, h3⟩ | ⟨_, ⟨_, _, h3⟩ | ⟨_, h2, h3⟩⟩
    · have := HM1.out; rw [h3] at this; simp at this; omega
    · have := HM1.out; rw [h3] at this; simp at this; omega
    · rw [← HM1.out]
      have hni : NamesIn (namesL (allO l nm ps fs)) r := clos_names' h2 (namesL_in _ fun s => Iff.rfl)
      refine Nat.le_trans (hni.len h2.1) ?_
      have h1 : (namesL (allO l nm ps fs)).length = (allO l nm ps fs).length * 2 := flat_len _ 2 (fun _ => rfl) _
      have h2 : (allO l nm ps fs).length = l.length + ps.length + fs.length := by simp [allO] <;> omega
      have := HL.out
      have := HP.out
      have := HF.out
      exact Nat.le_trans (Nat.mul_le_mul (show _ ≤ 1000 by omega) (show _ ≤ 1000 by omega)) (by decide)
  go_wp2_with fail
  refine (ovalid_any _ _ K2.mutLt A n c l (K2.ro 2 rfl) (by omega) HOL.out.1).mono ?_
  rintro e w3 ⟨rfl, b3⟩
  have K3 := K2.call b3
  clear K2 b3
  obtain ⟨vl, hvl⟩ : ∃ vl, vl = validLk l := ⟨_, rfl⟩
  rw [← hvl]
  have HVL := hid hvl
  clear hvl
  go_wp2_with fail
  refine (rvalid_any _ _ K3.mutLt A n c l (K3.ro 2 rfl) (by omega)).mono ?_
  rintro e w4 ⟨rfl, b4⟩
  rw [← HVL.out]
  have K4 := K3.call b4
  clear K3 b4
  have hvv : (vl == vl) = true := by simp
  go_wp2_with fail
  refine (prec_any _ _ K4.mutLt A n c l nm nb (K4.ro 2 rfl) (by omega)).mono ?_
  rintro e w5 ⟨rfl, b5⟩
  have K5 := K4.call b5
  clear K4 b5
  obtain ⟨pl, hpl⟩ : ∃ pl, pl = precB l nm nb := ⟨_, rfl⟩
  rw [← hpl]
  have HPL := hid hpl
  clear hpl
  go_wp2_with fail
  refine (rprec_any _ _ K5.mutLt A n c l nm nb (K5.ro 2 rfl) (by omega)).mono ?_
  rintro e w6 ⟨rfl, b6⟩
  rw [← HPL.out]
  have K6 := K5.call b6
  clear K5 b6
  have hpp : (pl == pl) = true := by simp
  have hee : (ec == ec) = true := by simp
  go_wp2_with fail
  refine (eqLks_any _ B m d r B2 m d2 r (K6.ro 1 rfl).now (K6.ro 0 rfl).now hm5).mono ?_
  rintro e w7 ⟨rfl, q7, rfl⟩
  have K7 := K6.drewN q7
  clear K6
  have HE := hid (eqLk_self r)
  rw [HE.out]
  go_wp2_with fail
  refine (oremove_any _ _ K7.mutLt A n c l nm (K7.ro 2 rfl) (by omega)).mono ?_
  rintro e w8 ⟨C, k, f, rfl, hk, hkf, hf, r8, b8⟩
  have K8 := (K7.call b8).add r8
  have HKL := hid hk
  clear K7 b8 r8 hk
  go_wp2_with fail
  refine (rremove_any _ _ K8.mutLt A n c l nm (K8.ro 3 rfl) (by omega)).mono ?_
  rintro e w9 ⟨C2, k2, f2, rfl, hk2, hkf2, hf2, r9, b9⟩
  have K9 := (K8.call b9).add r9
  have hkk : k2 = k := by rw [hk2, HKL.out]
  subst hkk
  clear K8 b9 r9 hk2
  have hk3 : k2 ≤ 1000000 := by
    have h1 : (remL l nm).length ≤ l.length := List.length_filter_le _ _
    have := HL.out
    have := HKL.out
    omega
  go_wp2_with fail
  refine (eqLks_any _ C k2 f (remL l nm) C2 k2 f2 (remL l nm) (K9.ro 1 rfl).now (K9.ro 0 rfl).now hk3).mono ?_
  rintro e wa ⟨rfl, qa, rfl⟩
  have Ka := K9.drewN qa
  clear K9
  have HE2 := hid (eqLk_self (remL l nm))
  rw [HE2.out]
  by_cases h0 : ec = 0
  · have hne : (ec != 0) = false := by simp [h0]
    have HV := hid (okind_valid HK.out h0).1
    clear h0
    go_wp2_with fail
    refine (ovalid_any _ _ Ka.mutLt B m d r (Ka.ro 3 rfl) hm5 (okind_ok HK.out HO.out)).mono ?_
    rintro e wb ⟨rfl, bb⟩
    have Kb := Ka.call bb
    rw [HV.out]
    go_wp2_with fail
    go_ret
    exact ⟨rfl, Kb.below⟩
  · have hne : (ec != 0) = true := by simp [h0]
    clear h0
    go_wp2_with fail
    go_ret
    exact ⟨rfl, Ka.below⟩
end Go.Proofs.YtkjnoekclfdjiaaDoor

namespace Go.Proofs.YtkjnoekclfdjiaaDoor
open Go.RowKit
set_option linter.unusedVariables false
set_option linter.unusedSimpArgs false

theorem names5_ok {l : List Lk} (h : NamesIn lets5 l) : ∀ x ∈ l, x.ok := fun x hx => ⟨lets5_small _ (h x hx).1, lets5_small _ (h x hx).2⟩
def OwnLk (b0 : Nat) (l : List Lk) (u : Value) (w : World) : Prop := ∃ (A : Option Addr) (n c : Nat), u = .slice A n c ∧ n = l.length ∧ w.ownsRow b0 41 2 (.slice A n c) n (lkCells l)
theorem ownLk_mono {b0 : Nat} {M : Nat → Prop} (hM : ∀ b, M b → b < b0) {l : List Lk} (u : Value) (w w' : World) (hr : RM M w w') (h : OwnLk b0 l u w) : OwnLk b0 l u w' := by
  obtain ⟨A, n, c, h1, h2, h3⟩ := h
  exact ⟨A, n, c, h1, h2, own_RM hM hr h3⟩
def LkBox (M : Nat → Prop) (x : Lk) (u : Value) (w : World) : Prop := ∃ g : Nat, u = .slice (some ⟨g, 0, none⟩) 1 1 ∧ Ro w M (LksIn (some ⟨g, 0, none⟩) 1 [x])
theorem lkBox_mono {M : Nat → Prop} {x : Lk} (u : Value) (w w' : World) (hr : RM M w w') (h : LkBox M x u w) : LkBox M x u w' := by
  obtain ⟨g, h1, h2⟩ := h
  exact ⟨g, h1, hr.ro h2⟩
set_option maxHeartbeats 16000000 in
set_option maxRecDepth 100000 in
theorem orderForms_walk (A : Option Addr) (n c : Nat) (l : List Lk) (nm nb : ByteArray) (A1 : Option Addr) (n1 c1 : Nat) (ps : List ByteArray) (A2 : Option Addr) (n2 c2 : Nat) (fs : List ByteArray) (C : Option Addr) (q qc : Nat) (ts : List Int) (w : World)
    (hD : LksIn A n l w) (hP : StrsIn A1 n1 ps w) (hF : StrsIn A2 n2 fs w) (ol : ∀ x ∈ l, x.ok) (onm : nm.size ≤ maxLen) (op : ∀ s ∈ ps, s.size ≤ maxLen) (of : ∀ s ∈ fs, s.size ≤ maxLen)
    (hr : Rd w w.heap.size 1 C q (ts.map (Value.int .i64))) (hz : Ints ts) (hq : q ≤ qc) (hqc : qc ≤ 9223372036854775807) (hw : Lts w) :
    Calls Tryd.prog 5 #[.slice A n c, .string nm, .string nb, .slice A1 n1 c1, .slice A2 n2 c2, .slice C q qc] w fun e w' => e = .returned (.bool true) ∧ Below w.heap.size w w' := by
  have HQ := hid (And.intro ol (And.intro onm (And.intro op of)))
  have hwl := hw.lt
  clear ol onm op of
  have K0 := (((Hold.begin_ w).add (show Ro w _ (LksIn A n l) from Rd.ro hD (Nat.le_refl _) (by simp [Mut, None_]))).add (show Ro w _ (StrsIn A1 n1 ps) from Rd.ro hP (Nat.le_refl _) (by simp [Mut, None_, Hp.foot]))).add (show Ro w _ (StrsIn A2 n2 fs) from Rd.ro hF (Nat.le_refl _) (by simp [Mut, None_, Hp.foot]))
  clear hD hP hF
  by_cases hbig : 20 < n ∨ 20 < n1 ∨ 20 < n2
  · have fin : ∀ (b1 b2 b3 : Bool), decide ((n : Int) > 20) = b1 → decide ((n1 : Int) > 20) = b2 → decide ((n2 : Int) > 20) = b3 → decide (20 < n) = b1 → decide (20 < n1) = b2 → decide (20 < n2) = b3 → (b1 || b2 || b3) = true → Calls Tryd.prog 5 #[.slice A n c, .string nm, .string nb, .slice A1 n1 c1, .slice A2 n2 c2, .slice C q qc] w fun e w' => e = .returned (.bool true) ∧ Below w.heap.size w w' := by
      clear hbig
      rintro (_ | _) (_ | _) (_ | _) e1 e2 e3 e4 e5 e6 hb <;> first | (cases hb; done) | skip
      all_goals
        go_enter Tryd.func5, Tryd.ntmps5
        go_wp2_with fail
        refine (known18 _).mono ?_
        rintro e w1 ⟨rfl, b1⟩
        have K1 := K0.call b1
        go_wp2_with fail
        go_ret
        exact ⟨rfl, K1.below⟩
    refine fin (decide (20 < n)) (decide (20 < n1)) (decide (20 < n2)) ?_ ?_ ?_ rfl rfl rfl ?_
    · simp <;> omega
    · simp <;> omega
    · simp <;> omega
    · simpa [or_assoc] using hbig
  have f1 : decide ((n : Int) > 20) = false := by simp; omega
  have f2 : decide ((n1 : Int) > 20) = false := by simp; omega
  have f3 : decide ((n2 : Int) > 20) = false := by simp; omega
  have f4 : decide (20 < n) = false := by simp; omega
  have f5 : decide (20 < n1) = false := by simp; omega
  have f6 : decide (20 < n2) = false := by simp; omega
  go_enter Tryd.func5, Tryd.ntmps5
  go_wp2_with fail
  clear f1 f2 f3 f4 f5 f6
  refine (new_any C q qc ts _ hr hz hq hqc).mono ?_
  rintro e w1 ⟨T, rfl, hT, t1, b1⟩
  have K1 := Hold.newTape K0 b1 t1 hT (by simp [Mut, None_, Hp.foot])
  have wd0 : Lts w1 := hw.below b1 hwl
  have K2 := K1.add (wd0.ro (show ¬ Mut None_ _ 0 from fun h => by simp [Mut, None_, Hp.foot] at h; omega))
  clear K1 K0 wd0 t1 b1 hr hT hw hwl
  go_wp2_with fail
  refine (omade_any (Mut None_ _) T _ K2.mutLt (K2.tp_ 1 rfl) (K2.get 1 rfl).2 ((K2.ro 0 rfl).less (mut_tpO (i := 1) rfl))).mono ?_
  rintro e w2 ⟨B2, m2, d2, l2, rfl, hm2, hd2, hd22, hv2, hn2, r2, t2, g2⟩
  have K3 := (Hold.callT K2 1 rfl g2 t2).add r2
  have HV := hid (And.intro hv2 hn2)
  have HL2 := hid r2.now.len
  clear K2 t2 g2 r2 hv2 hn2
  go_wp2_with fail
  have hb0 := K3.mutLt
  have HB0 := hid hb0
  clear hb0
  refine wp_region_any (by kernel_rfl) ?_
  refine wpAny_hold 12 86 ([.ro (LksIn B2 m2 l2), .ro Lts, .tp T, .ro (StrsIn A2 n2 fs), .ro (StrsIn A1 n1 ps), .ro (LksIn A n l)]) (spL [(35, OwnLk w2.heap.size l2), (37, fun u _ => NatB 5 u), (41, fun u _ => NatB 5 u), (45, fun u w => ∃ x : Lk, x.a ∈ lets5 ∧ x.b ∈ lets5 ∧ LkBox (Mut None_ [.ro (LksIn B2 m2 l2), .ro Lts, .tp T, .ro (StrsIn A2 n2 fs), .ro (StrsIn A1 n1 ps), .ro (LksIn A n l)]) x u w)]) (by kernel_rfl) (by kernel_rfl) (by kernel_rfl) rfl ?_ (K3.drew) ?_
  · exact stays_cons (ownLk_mono HB0.out) (stays_cons (fun _ _ _ _ h => h) (stays_cons (fun _ _ _ _ h => h) (stays_cons (fun u w w' hr h => by obtain ⟨x, h1, h2, h3⟩ := h; exact ⟨x, h1, h2, lkBox_mono u w w' hr h3⟩) (stays_nil _))))
  simp only [List.take_succ_cons, List.take_zero, List.drop_succ_cons, List.drop_zero, Act.put, List.getElem_toArray, List.getElem_cons_zero, List.getElem_cons_succ, List.setIfInBounds_toArray, List.set_cons_succ, List.set_cons_zero]
  repeat (first | (refine dw_skip rfl rfl rfl ?_; simp only [Act.put, List.setIfInBounds_toArray, List.set_cons_succ, List.set_cons_zero]) | (refine dw_val rfl rfl rfl ?_; apply Exists.intro; refine ⟨fun wv HC => ?_, ?_⟩; (focus ( go_simp <;> rfl; done)); simp only [Act.put, List.setIfInBounds_toArray, List.set_cons_succ, List.set_cons_zero]))
  refine dw_callR 35 (OwnLk w2.heap.size l2) (f := 17) (args := #[.slice B2 m2 d2]) rfl rfl rfl rfl (fun wv => ?_) (fun wv HC hrm hD => ?_) ?_
  · go_simp <;> rfl
  · refine (cloneLks_any wv B2 m2 d2 l2 (HC.ro 0 rfl).now (by omega)).mono ?_
    rintro e w5 ⟨A5, n5, c5, rfl, h51, h52, b5⟩
    exact ⟨_, rfl, ⟨A5, n5, c5, rfl, h51, own_base (show w2.heap.size ≤ wv.heap.size from hrm.1) h52⟩, HC.call b5, RM.below b5⟩
  rintro u_ wx HCx ⟨A5, n5, c5, rfl, -, -⟩
  clear HCx
  simp only [Act.put, List.setIfInBounds_toArray, List.set_cons_succ, List.set_cons_zero]
  repeat (first | (refine dw_skip rfl rfl rfl ?_; simp only [Act.put, List.setIfInBounds_toArray, List.set_cons_succ, List.set_cons_zero]) | (refine dw_val rfl rfl rfl ?_; apply Exists.intro; refine ⟨fun wv HC => ?_, ?_⟩; (focus ( go_simp <;> rfl; done)); simp only [Act.put, List.setIfInBounds_toArray, List.set_cons_succ, List.set_cons_zero]))
  refine dw_next 5 2 rfl 37 rfl rfl rfl rfl (fun wv => ?_) ?_
  · go_simp <;> rfl
  rintro r hr
  simp only [Act.put, List.setIfInBounds_toArray, List.set_cons_succ, List.set_cons_zero]
  have r4 : (r : Int) < 5 := by omega
  have r0 : (0 : Int) ≤ (r : Int) := by omega
  repeat (first | (refine dw_skip rfl rfl rfl ?_; simp only [Act.put, List.setIfInBounds_toArray, List.set_cons_succ, List.set_cons_zero]) | (refine dw_val rfl rfl rfl ?_; apply Exists.intro; refine ⟨fun wv HC => ?_, ?_⟩; (focus (have hc := (HC.ro 1 rfl).now r hr; go_simp <;> rfl; done)); simp only [Act.put, List.setIfInBounds_toArray, List.set_cons_succ, List.set_cons_zero]))
  refine dw_next 5 2 rfl 41 rfl rfl rfl rfl (fun wv => ?_) ?_
  · go_simp <;> rfl
  rintro s hs
  simp only [Act.put, List.setIfInBounds_toArray, List.set_cons_succ, List.set_cons_zero]
  have s4 : (s : Int) < 5 := by omega
  have s0 : (0 : Int) ≤ (s : Int) := by omega
  repeat (first | (refine dw_skip rfl rfl rfl ?_; simp only [Act.put, List.setIfInBounds_toArray, List.set_cons_succ, List.set_cons_zero]) | (refine dw_val rfl rfl rfl ?_; apply Exists.intro; refine ⟨fun wv HC => ?_, ?_⟩; (focus (have hc := (HC.ro 1 rfl).now s hs; go_simp <;> rfl; done)); simp only [Act.put, List.setIfInBounds_toArray, List.set_cons_succ, List.set_cons_zero]))
  refine dw_new #[.string (let5 r), .string (let5 s)] 41 45 (fun u w => ∃ x : Lk, x.a ∈ lets5 ∧ x.b ∈ lets5 ∧ LkBox (Mut None_ [.ro (LksIn B2 m2 l2), .ro Lts, .tp T, .ro (StrsIn A2 n2 fs), .ro (StrsIn A1 n1 ps), .ro (LksIn A n l)]) x u w) (fun g => .slice (some ⟨g, 0, none⟩) 1 1) rfl rfl rfl rfl (fun wv => ?_) (fun wv HC _hrm hD hro => ?_) ?_
  · go_simp <;> rfl
  · exact ⟨⟨let5 r, let5 s⟩, let5_mem hr, let5_mem hs, _, rfl, ro_block (hro _ HC.mutLt) rfl⟩
  rintro gq wg HCg hsl
  simp only [Act.put, List.setIfInBounds_toArray, List.set_cons_succ, List.set_cons_zero]
  clear hsl HCg
  refine rel_nil ?_
  rintro wx2 HX
  rintro hrm HG
  have hb2 : OwnLk w2.heap.size l2 (.slice A5 n5 c5) wx2 := (GW_on (d := 35) rfl).1 (HG 1 _ rfl (by omega))
  obtain ⟨x, hx1, hx2, g3, e3, k3⟩ : (fun (u : Value) (w : World) => ∃ x : Lk, x.a ∈ lets5 ∧ x.b ∈ lets5 ∧ LkBox (Mut None_ [.ro (LksIn B2 m2 l2), .ro Lts, .tp T, .ro (StrsIn A2 n2 fs), .ro (StrsIn A1 n1 ps), .ro (LksIn A n l)]) x u w) (.slice (some ⟨gq, 0, none⟩) 1 1) wx2 := (GW_on (d := 45) rfl).1 (HG 11 _ rfl (by omega))
  obtain rfl : gq = g3 := by injection e3 with e3; injection e3 with e3; injection e3
  obtain ⟨A9, n9, c9, e9, h91, h92⟩ := hb2
  obtain ⟨rfl, rfl, rfl⟩ := Value.slice.inj e9
  have K4 := K3.drew.addOwn HX hrm h92
  have HI := hid k3.now
  have hn9 : n5 = m2 := h91.trans HL2.out
  have HX5 := hid (show x.ok from ⟨lets5_small _ hx1, lets5_small _ hx2⟩)
  clear e3 e9 hrm h92 HX HG k3 hx1 hx2 K3 h91
  subst hn9
  go_wp2_with (first
    | (at_builtin; refine wpList_appAllH K4 0 rfl Tryd.elLink HI.out rfl (.tmp 35) (.tmp 45) rfl rfl rfl (one_lks _) (by omega) (by omega) ?_; intro C6 c6 w6 hc6 hm6 K5)
    | fail)
  simp only [List.set_cons_zero] at K5
  have e10 : lkCells l2 ++ lkCells [x] = lkCells (l2 ++ [x]) := by simp [lkCells]
  rw [e10] at K5
  have K6 := K5.sealRow 0 rfl
  simp only [List.set_cons_zero] at K6
  obtain ⟨l6, hl6⟩ : ∃ l6, l6 = l2 ++ [x] := ⟨_, rfl⟩
  rw [← hl6] at K6
  have H6 : Hid (∀ y ∈ l6, y.ok) := hid (by
    rw [hl6]
    intro y hy
    rcases List.mem_append.1 hy with hy | hy
    · exact names5_ok HV.out.2 y hy
    · simp at hy; rw [hy]; exact HX5.out)
  have K6 : Hold None_ none w w6 [.ro (LksIn C6 (n5 + 1) l6), .ro (LksIn B2 n5 l2), .ro Lts, .tp T, .ro (StrsIn A2 n2 fs), .ro (StrsIn A1 n1 ps), .ro (LksIn A n l)] := K6
  clear K5 K4 e10 hl6 HX5 HI
  refine wp_region_any (by kernel_rfl) ?_
  refine wpAny_hold 39 86 ([.ro (LksIn C6 (n5 + 1) l6), .ro (LksIn B2 n5 l2), .ro Lts, .tp T, .ro (StrsIn A2 n2 fs), .ro (StrsIn A1 n1 ps), .ro (LksIn A n l)]) (spL [(52, IsV (.bool true)), (56, fun u _ => NatB 5 u), (60, fun u _ => NatB 5 u), (64, SomeSlot (Mut None_ [.ro (LksIn C6 (n5 + 1) l6), .ro (LksIn B2 n5 l2), .ro Lts, .tp T, .ro (StrsIn A2 n2 fs), .ro (StrsIn A1 n1 ps), .ro (LksIn A n l)])), (66, SomeSlot (Mut None_ [.ro (LksIn C6 (n5 + 1) l6), .ro (LksIn B2 n5 l2), .ro Lts, .tp T, .ro (StrsIn A2 n2 fs), .ro (StrsIn A1 n1 ps), .ro (LksIn A n l)])), (67, IsV (.bool true)), (72, SomeSlot (Mut None_ [.ro (LksIn C6 (n5 + 1) l6), .ro (LksIn B2 n5 l2), .ro Lts, .tp T, .ro (StrsIn A2 n2 fs), .ro (StrsIn A1 n1 ps), .ro (LksIn A n l)])), (73, IsV (.bool true)), (81, IsV (.bool true)), (84, IsV (.bool true))]) (by kernel_rfl) (by kernel_rfl) (by kernel_rfl) rfl ?_ (K6.drew) ?_
  · exact stays_cons isV_mono (stays_cons (fun _ _ _ _ h => h) (stays_cons (fun _ _ _ _ h => h) (stays_cons someSlot_mono (stays_cons someSlot_mono (stays_cons isV_mono (stays_cons someSlot_mono (stays_cons isV_mono (stays_cons isV_mono (stays_cons isV_mono (stays_nil _))))))))))
  simp only [List.take_succ_cons, List.take_zero, List.drop_succ_cons, List.drop_zero, Act.put, List.getElem_toArray, List.getElem_cons_zero, List.getElem_cons_succ, List.setIfInBounds_toArray, List.set_cons_succ, List.set_cons_zero]
  repeat (first | (refine dw_skip rfl rfl rfl ?_; simp only [Act.put, List.setIfInBounds_toArray, List.set_cons_succ, List.set_cons_zero]) | (refine dw_val rfl rfl rfl ?_; apply Exists.intro; refine ⟨fun wv HC => ?_, ?_⟩; (focus ( go_simp <;> rfl; done)); simp only [Act.put, List.setIfInBounds_toArray, List.set_cons_succ, List.set_cons_zero]))
  refine dw_callR 52 (IsV (.bool true)) (f := 18) (args := #[.slice A n c, .string nm, .string nb, .slice A1 n1 c1, .slice A2 n2 c2]) rfl rfl rfl rfl (fun wv => ?_) (fun wv HC hrm hD => ?_) ?_
  · go_simp <;> rfl
  · refine (oalike_any _ wv HC.mutLt A n c l nm nb A1 n1 c1 ps A2 n2 c2 fs (HC.ro 6 rfl) (HC.ro 5 rfl) (HC.ro 4 rfl) (by omega) (by omega) (by omega) HQ.out.1 HQ.out.2.1 HQ.out.2.2.1 HQ.out.2.2.2).mono ?_
    rintro e w5 ⟨rfl, b5⟩
    exact ⟨_, rfl, rfl, HC.call b5, RM.below b5⟩
  rintro u_ wx HCx hu_
  obtain rfl : u_ = .bool true := hu_
  clear HCx
  simp only [Act.put, List.setIfInBounds_toArray, List.set_cons_succ, List.set_cons_zero]
  repeat (first | (refine dw_skip rfl rfl rfl ?_; simp only [Act.put, List.setIfInBounds_toArray, List.set_cons_succ, List.set_cons_zero]) | (refine dw_val rfl rfl rfl ?_; apply Exists.intro; refine ⟨fun wv HC => ?_, ?_⟩; (focus ( go_simp <;> rfl; done)); simp only [Act.put, List.setIfInBounds_toArray, List.set_cons_succ, List.set_cons_zero]))
  refine dw_next 5 3 rfl 56 rfl rfl rfl rfl (fun wv => ?_) ?_
  · go_simp <;> rfl
  rintro r hr
  simp only [Act.put, List.setIfInBounds_toArray, List.set_cons_succ, List.set_cons_zero]
  have r4 : (r : Int) < 5 := by omega
  have r0 : (0 : Int) ≤ (r : Int) := by omega
  repeat (first | (refine dw_skip rfl rfl rfl ?_; simp only [Act.put, List.setIfInBounds_toArray, List.set_cons_succ, List.set_cons_zero]) | (refine dw_val rfl rfl rfl ?_; apply Exists.intro; refine ⟨fun wv HC => ?_, ?_⟩; (focus (have hc := (HC.ro 2 rfl).now r hr; go_simp <;> rfl; done)); simp only [Act.put, List.setIfInBounds_toArray, List.set_cons_succ, List.set_cons_zero]))
  refine dw_next 5 3 rfl 60 rfl rfl rfl rfl (fun wv => ?_) ?_
  · go_simp <;> rfl
  rintro s hs
  simp only [Act.put, List.setIfInBounds_toArray, List.set_cons_succ, List.set_cons_zero]
  have s4 : (s : Int) < 5 := by omega
  have s0 : (0 : Int) ≤ (s : Int) := by omega
  repeat (first | (refine dw_skip rfl rfl rfl ?_; simp only [Act.put, List.setIfInBounds_toArray, List.set_cons_succ, List.set_cons_zero]) | (refine dw_val rfl rfl rfl ?_; apply Exists.intro; refine ⟨fun wv HC => ?_, ?_⟩; (focus (have hc := (HC.ro 2 rfl).now s hs; go_simp <;> rfl; done)); simp only [Act.put, List.setIfInBounds_toArray, List.set_cons_succ, List.set_cons_zero]))
  refine dw_callR 64 (SomeSlot (Mut None_ [.ro (LksIn C6 (n5 + 1) l6), .ro (LksIn B2 n5 l2), .ro Lts, .tp T, .ro (StrsIn A2 n2 fs), .ro (StrsIn A1 n1 ps), .ro (LksIn A n l)])) (f := 10) (args := #[.pointer (some ⟨T, 0, none⟩)]) rfl rfl rfl rfl (fun wv => ?_) (fun wv HC hrm hD => ?_) ?_
  · go_simp <;> rfl
  · refine (some_any (Mut None_ _) T wv HC.mutLt (HC.tp_ 3 rfl) (HC.get 3 rfl).2 ((HC.ro 2 rfl).less (mut_tpO (i := 3) rfl))).mono ?_
    rintro e w5 ⟨A5, n5, c5, ss5, rfl, h1, h2, h3, t5, g5⟩
    exact ⟨_, rfl, ⟨A5, n5, c5, ss5, rfl, h1, h2, h3⟩, Hold.callT HC 3 rfl g5 t5, RM.grown g5 (.inr ⟨_, List.mem_of_getElem? (i := 3) rfl, rfl⟩)⟩
  rintro u_ wx HCx ⟨P1, p1, d1, ss1, rfl, -, -, -⟩
  clear HCx
  simp only [Act.put, List.setIfInBounds_toArray, List.set_cons_succ, List.set_cons_zero]
  repeat (first | (refine dw_skip rfl rfl rfl ?_; simp only [Act.put, List.setIfInBounds_toArray, List.set_cons_succ, List.set_cons_zero]) | (refine dw_val rfl rfl rfl ?_; apply Exists.intro; refine ⟨fun wv HC => ?_, ?_⟩; (focus ( go_simp <;> rfl; done)); simp only [Act.put, List.setIfInBounds_toArray, List.set_cons_succ, List.set_cons_zero]))
  refine dw_callR 66 (SomeSlot (Mut None_ [.ro (LksIn C6 (n5 + 1) l6), .ro (LksIn B2 n5 l2), .ro Lts, .tp T, .ro (StrsIn A2 n2 fs), .ro (StrsIn A1 n1 ps), .ro (LksIn A n l)])) (f := 10) (args := #[.pointer (some ⟨T, 0, none⟩)]) rfl rfl rfl rfl (fun wv => ?_) (fun wv HC hrm hD => ?_) ?_
  · go_simp <;> rfl
  · refine (some_any (Mut None_ _) T wv HC.mutLt (HC.tp_ 3 rfl) (HC.get 3 rfl).2 ((HC.ro 2 rfl).less (mut_tpO (i := 3) rfl))).mono ?_
    rintro e w5 ⟨A5, n5, c5, ss5, rfl, h1, h2, h3, t5, g5⟩
    exact ⟨_, rfl, ⟨A5, n5, c5, ss5, rfl, h1, h2, h3⟩, Hold.callT HC 3 rfl g5 t5, RM.grown g5 (.inr ⟨_, List.mem_of_getElem? (i := 3) rfl, rfl⟩)⟩
  rintro u_ wx HCx ⟨P2, p2, dd2, ss2, rfl, -, -, -⟩
  clear HCx
  simp only [Act.put, List.setIfInBounds_toArray, List.set_cons_succ, List.set_cons_zero]
  repeat (first | (refine dw_skip rfl rfl rfl ?_; simp only [Act.put, List.setIfInBounds_toArray, List.set_cons_succ, List.set_cons_zero]) | (refine dw_val rfl rfl rfl ?_; apply Exists.intro; refine ⟨fun wv HC => ?_, ?_⟩; (focus ( go_simp <;> rfl; done)); simp only [Act.put, List.setIfInBounds_toArray, List.set_cons_succ, List.set_cons_zero]))
  refine dw_callR 67 (IsV (.bool true)) (f := 18) (args := #[.slice B2 n5 d2, .string (let5 r), .string (let5 s), .slice P1 p1 d1, .slice P2 p2 dd2]) rfl rfl rfl rfl (fun wv => ?_) (fun wv HC hrm hD => ?_) ?_
  · go_simp <;> rfl
  · have hs1 : SomeSlot _ (.slice P1 p1 d1) wv := deps_at hD 17 rfl (by kernel_rfl) rfl rfl
    obtain ⟨X1, x1, y1, t1, e1, a1, b1, r1⟩ := hs1
    injection e1 with q1 q2 q3
    subst q1 q2 q3
    have hs2 : SomeSlot _ (.slice P2 p2 dd2) wv := deps_at hD 19 rfl (by kernel_rfl) rfl rfl
    obtain ⟨X2, x2, y2, t2, e2, a2, b2, r2⟩ := hs2
    injection e2 with q1 q2 q3
    subst q1 q2 q3
    refine (oalike_any _ wv HC.mutLt B2 n5 d2 l2 (let5 r) (let5 s) P1 p1 d1 t1 P2 p2 dd2 t2 (HC.ro 1 rfl) r1 r2 (by omega) (by omega) (by omega) (names5_ok HV.out.2) (lets5_small _ (let5_mem hr)) (fun s hs => lets5_small _ (b1 s hs)) (fun s hs => lets5_small _ (b2 s hs))).mono ?_
    rintro e w5 ⟨rfl, b5⟩
    exact ⟨_, rfl, rfl, HC.call b5, RM.below b5⟩
  rintro u_ wx HCx hu_
  obtain rfl : u_ = .bool true := hu_
  clear HCx
  simp only [Act.put, List.setIfInBounds_toArray, List.set_cons_succ, List.set_cons_zero]
  repeat (first | (refine dw_skip rfl rfl rfl ?_; simp only [Act.put, List.setIfInBounds_toArray, List.set_cons_succ, List.set_cons_zero]) | (refine dw_val rfl rfl rfl ?_; apply Exists.intro; refine ⟨fun wv HC => ?_, ?_⟩; (focus ( go_simp <;> rfl; done)); simp only [Act.put, List.setIfInBounds_toArray, List.set_cons_succ, List.set_cons_zero]))
  refine dw_callR 72 (SomeSlot (Mut None_ [.ro (LksIn C6 (n5 + 1) l6), .ro (LksIn B2 n5 l2), .ro Lts, .tp T, .ro (StrsIn A2 n2 fs), .ro (StrsIn A1 n1 ps), .ro (LksIn A n l)])) (f := 10) (args := #[.pointer (some ⟨T, 0, none⟩)]) rfl rfl rfl rfl (fun wv => ?_) (fun wv HC hrm hD => ?_) ?_
  · go_simp <;> rfl
  · refine (some_any (Mut None_ _) T wv HC.mutLt (HC.tp_ 3 rfl) (HC.get 3 rfl).2 ((HC.ro 2 rfl).less (mut_tpO (i := 3) rfl))).mono ?_
    rintro e w5 ⟨A5, n5, c5, ss5, rfl, h1, h2, h3, t5, g5⟩
    exact ⟨_, rfl, ⟨A5, n5, c5, ss5, rfl, h1, h2, h3⟩, Hold.callT HC 3 rfl g5 t5, RM.grown g5 (.inr ⟨_, List.mem_of_getElem? (i := 3) rfl, rfl⟩)⟩
  rintro u_ wx HCx ⟨P3, p3, d3, ss3, rfl, -, -, -⟩
  clear HCx
  simp only [Act.put, List.setIfInBounds_toArray, List.set_cons_succ, List.set_cons_zero]
  repeat (first | (refine dw_skip rfl rfl rfl ?_; simp only [Act.put, List.setIfInBounds_toArray, List.set_cons_succ, List.set_cons_zero]) | (refine dw_val rfl rfl rfl ?_; apply Exists.intro; refine ⟨fun wv HC => ?_, ?_⟩; (focus ( go_simp <;> rfl; done)); simp only [Act.put, List.setIfInBounds_toArray, List.set_cons_succ, List.set_cons_zero]))
  refine dw_callR 73 (IsV (.bool true)) (f := 18) (args := #[.slice C6 (n5 + 1) c6, .string ⟨#[97]⟩, .string ⟨#[98]⟩, .slice P3 p3 d3, .slice none 0 0]) rfl rfl rfl rfl (fun wv => ?_) (fun wv HC hrm hD => ?_) ?_
  · go_simp <;> rfl
  · have hs1 : SomeSlot _ (.slice P3 p3 d3) wv := deps_at hD 25 rfl (by kernel_rfl) rfl rfl
    obtain ⟨X1, x1, y1, t1, e1, a1, b1, r1⟩ := hs1
    injection e1 with q1 q2 q3
    subst q1 q2 q3
    refine (oalike_any _ wv HC.mutLt C6 (n5 + 1) c6 l6 ⟨#[97]⟩ ⟨#[98]⟩ P3 p3 d3 t1 none 0 0 [] (HC.ro 0 rfl) r1 ro_nil (by omega) (by omega) (by omega) H6.out (by decide) (fun s hs => lets5_small _ (b1 s hs)) (fun s hs => nomatch hs)).mono ?_
    rintro e w5 ⟨rfl, b5⟩
    exact ⟨_, rfl, rfl, HC.call b5, RM.below b5⟩
  rintro u_ wx HCx hu_
  obtain rfl : u_ = .bool true := hu_
  clear HCx
  simp only [Act.put, List.setIfInBounds_toArray, List.set_cons_succ, List.set_cons_zero]
  repeat (first | (refine dw_skip rfl rfl rfl ?_; simp only [Act.put, List.setIfInBounds_toArray, List.set_cons_succ, List.set_cons_zero]) | (refine dw_val rfl rfl rfl ?_; apply Exists.intro; refine ⟨fun wv HC => ?_, ?_⟩; (focus ( go_simp <;> rfl; done)); simp only [Act.put, List.setIfInBounds_toArray, List.set_cons_succ, List.set_cons_zero]))
  refine dw_callR 81 (IsV (.bool true)) (f := 18) (args := #[.slice B2 n5 d2, .string nm, .string nb, .slice A1 n1 c1, .slice A2 n2 c2]) rfl rfl rfl rfl (fun wv => ?_) (fun wv HC hrm hD => ?_) ?_
  · go_simp <;> rfl
  · refine (oalike_any _ wv HC.mutLt B2 n5 d2 l2 nm nb A1 n1 c1 ps A2 n2 c2 fs (HC.ro 1 rfl) (HC.ro 5 rfl) (HC.ro 4 rfl) (by omega) (by omega) (by omega) (names5_ok HV.out.2) HQ.out.2.1 HQ.out.2.2.1 HQ.out.2.2.2).mono ?_
    rintro e w5 ⟨rfl, b5⟩
    exact ⟨_, rfl, rfl, HC.call b5, RM.below b5⟩
  rintro u_ wx HCx hu_
  obtain rfl : u_ = .bool true := hu_
  clear HCx
  simp only [Act.put, List.setIfInBounds_toArray, List.set_cons_succ, List.set_cons_zero]
  repeat (first | (refine dw_skip rfl rfl rfl ?_; simp only [Act.put, List.setIfInBounds_toArray, List.set_cons_succ, List.set_cons_zero]) | (refine dw_val rfl rfl rfl ?_; apply Exists.intro; refine ⟨fun wv HC => ?_, ?_⟩; (focus ( go_simp <;> rfl; done)); simp only [Act.put, List.setIfInBounds_toArray, List.set_cons_succ, List.set_cons_zero]))
  refine dw_callR 84 (IsV (.bool true)) (f := 14) (args := #[]) rfl rfl rfl rfl (fun wv => ?_) (fun wv HC hrm hD => ?_) ?_
  · go_simp <;> rfl
  · refine (known18 wv).mono ?_
    rintro e w5 ⟨rfl, b5⟩
    exact ⟨_, rfl, rfl, HC.call b5, RM.below b5⟩
  rintro u_ wx HCx hu_
  obtain rfl : u_ = .bool true := hu_
  clear HCx
  simp only [Act.put, List.setIfInBounds_toArray, List.set_cons_succ, List.set_cons_zero]
  repeat (first | (refine dw_skip rfl rfl rfl ?_; simp only [Act.put, List.setIfInBounds_toArray, List.set_cons_succ, List.set_cons_zero]) | (refine dw_val rfl rfl rfl ?_; apply Exists.intro; refine ⟨fun wv HC => ?_, ?_⟩; (focus ( go_simp <;> rfl; done)); simp only [Act.put, List.setIfInBounds_toArray, List.set_cons_succ, List.set_cons_zero]))
  refine rel_nil ?_
  rintro wx9 HX9
  rintro _hrm _HG
  clear _hrm _HG
  go_wp2_with fail
  go_ret
  exact ⟨rfl, HX9.below⟩
end Go.Proofs.YtkjnoekclfdjiaaDoor

namespace Go.Proofs.YtkjnoekclfdjiaaDoor
open Go.ChangeShapes Go.WideShapes Go.ChangeAt Go.RowKit
set_option linter.unusedVariables false
set_option linter.unusedSimpArgs false

namespace LawOrderForms
set_option maxRecDepth 100000 in
theorem contract (H : Type) (enc : TypeId × Value → H) (W : World) (base : Nat) (args : Array Value) (ds gs : List (DataW H)) (before : List MemPlace)
    (hval0 : ∀ (j : Nat) t v, Tryd.f5.params[j]? = some t → args[j]? = some v → Value.okWide Tryd.prog W .any base t v)
    (hsz0 : (DataW.weightsEach Tryd.prog (Tryd.f5.params.toList ++ Rows.orderFormsSpec.plain.varTypes Tryd.prog) (ds ++ gs)).all (· ≤ reachBytes) = true)
    (hW : DataW.Whole enc Tryd.prog Tryd.f5.params.toList Rows.orderFormsSpec.vars false W args.toList ds gs before) (hL : laidMetH Tryd.prog Rows.orderFormsRow.laid W) (hsh : W.ShapedOpen Tryd.prog) :
    Calls Tryd.prog 5 args W fun e W' => ∃ v, e = .returned v ∧ Rows.orderFormsSpec.post enc Tryd.prog Tryd.f5 false true false false W args v W' := by
  have hsz : (DataW.weightsEach Tryd.prog (Tryd.f5.params.toList ++ Rows.orderFormsSpec.plain.varTypes Tryd.prog) (ds ++ gs)).all (· ≤ reachBytes) = true := hsz0
  have hval : ∀ (j : Nat) t v, Tryd.f5.params[j]? = some t → args[j]? = some v → Value.okWide Tryd.prog W .any base t v := hval0
  have hW' := hW
  obtain ⟨p, q, hA0, hV, rfl, hfz, hnd⟩ := hW
  have hA : DataW.TrodAll enc Tryd.prog W 0 (fun _ => true) true Tryd.f5.params.toList args.toList ds p := hA0
  rw [Tryd.params5] at hA hval hsz
  obtain ⟨v0, vs0, d0, ds0, p0, q0, hargs, rfl, rfl, h0, r0⟩ := trodAll_cons hA
  obtain ⟨v1, vs1, d1, ds1, p1, q1, rfl, rfl, rfl, h1, r1⟩ := trodAll_cons r0
  obtain ⟨v2, vs2, d2, ds2, p2, q2, rfl, rfl, rfl, h2, r2⟩ := trodAll_cons r1
  obtain ⟨v3, vs3, d3, ds3, p3, q3, rfl, rfl, rfl, h3, r3⟩ := trodAll_cons r2
  obtain ⟨v4, vs4, d4, ds4, p4, q4, rfl, rfl, rfl, h4, r4⟩ := trodAll_cons r3
  obtain ⟨v5, vs5, d5, ds5, p5, q5, rfl, rfl, rfl, h5, r5⟩ := trodAll_cons r4
  obtain ⟨rfl, rfl, rfl⟩ := trodAll_nil r5
  obtain rfl : args = #[v0, v1, v2, v3, v4, v5] := by cases args; simp_all
  obtain ⟨rfl, rfl⟩ := trodVars_none hV
  obtain ⟨sl0, ok0, rfl⟩ := opens_lks.slice Tryd.underlying25 (hval 0 25 v0 rfl rfl) h0 (sz_arg hsz (j := 0) rfl rfl)
  obtain ⟨s1, rfl, rfl, rfl, w1⟩ := Go.ChangeMaps.open_string Tryd.underlying9 (hval 1 9 v1 rfl rfl) h1
  have ss1 : s1.size ≤ 140737488351232 := by have h := sized_string hsz (j := 1) rfl rfl; simp only [reachBytes] at h; simpa using h
  obtain ⟨s2, rfl, rfl, rfl, w2⟩ := Go.ChangeMaps.open_string Tryd.underlying9 (hval 2 9 v2 rfl rfl) h2
  have ss2 : s2.size ≤ 140737488351232 := by have h := sized_string hsz (j := 2) rfl rfl; simp only [reachBytes] at h; simpa using h
  obtain ⟨sl3, ok3, rfl⟩ := opens_strs.slice Tryd.underlying32 (hval 3 32 v3 rfl rfl) h3 (sz_arg hsz (j := 3) rfl rfl)
  obtain ⟨sl4, ok4, rfl⟩ := opens_strs.slice Tryd.underlying32 (hval 4 32 v4 rfl rfl) h4 (sz_arg hsz (j := 4) rfl rfl)
  obtain ⟨A5, n5, c5, zs5, rfl, k5, z5, l5, m5, e5⟩ := open_i64s Tryd.underlying22 Tryd.underlying3 (by kernel_rfl) (hval 5 22 v5 rfl rfl) h5
  refine (orderForms_walk _ _ _ sl0.l s1 s2 _ _ _ sl3.l _ _ _ sl4.l A5 n5 c5 zs5 W ok0.rd (strs_of_rd ok3.rd) (strs_of_rd ok4.rd) ok0.ok (by unfold maxLen; omega) ok3.ok ok4.ok k5 z5 l5 (by unfold maxLen at m5; omega) (lts_of_laid (rest := []) hL)).mono fun e W' ⟨he, hb⟩ => ?_
  exact ⟨_, he, law_post rfl laidOut (by kernel_rfl) (by kernel_rfl) Tryd.underlying4 rfl hW' hb⟩

theorem laid_met (os : Os) : laidMet Tryd.prog Rows.orderFormsRow.laid ((letsWorld os).forCall (fun _ _ => 0) ⟨#[], #[.slice none 0 0, .string ⟨#[]⟩, .string ⟨#[]⟩, .slice none 0 0, .slice none 0 0, .slice none 0 0], []⟩).memory :=
  laidMet_of_run' 16 (by kernel_rfl) (by kernel_rfl)
theorem reads (os : Os) {H : Type} (enc : TypeId × Value → H) : ∃ places, DataW.whole enc Tryd.prog ((letsWorld os).forCall (fun _ _ => 0) ⟨#[], #[.slice none 0 0, .string ⟨#[]⟩, .string ⟨#[]⟩, .slice none 0 0, .slice none 0 0, .slice none 0 0], []⟩).memory Tryd.f5.params.toList Rows.orderFormsSpec.vars false #[.slice none 0 0, .string ⟨#[]⟩, .string ⟨#[]⟩, .slice none 0 0, .slice none 0 0, .slice none 0 0].toList 8 = some ([.nil, .lit (.string []), .lit (.string []), .nil, .nil, .nil], [], places) :=
  ⟨[], by kernel_rfl⟩

set_option maxRecDepth 100000 in
theorem lifted (os : Os) (started : os.Started) (H : Type) (enc : TypeId × Value → H) (F : Stop.Interp) :
    ReturnsInHanded {} Tryd.checked os 5 .any ((OpenSpec.ofChange Rows.orderFormsSpec).preRow enc Tryd.prog Tryd.f5 Rows.orderFormsRow.domain false Rows.orderFormsRow.laid) (((OpenSpec.ofChange Rows.orderFormsSpec).at F).post enc Tryd.prog Tryd.f5 false true false false) := by
  obtain ⟨places, hx⟩ := reads os enc
  refine returnsInHanded_of_row (C := Tryd.checked) (s := OpenSpec.ofChange Rows.orderFormsSpec) own started (by kernel_rfl) Tryd.func5
    (witness_row_at (enc := enc) (C := Tryd.checked) false (letsWorld os) #[.slice none 0 0, .string ⟨#[]⟩, .string ⟨#[]⟩, .slice none 0 0, .slice none 0 0, .slice none 0 0] rfl (by kernel_rfl) (by kernel_rfl) (by kernel_rfl)
      (OpenSpec.preRow_of_cond 8 hx (by kernel_rfl) (fun k hk => by cases hk) (by kernel_rfl) (laid_met os))) ?_
  intro W base args ds gs before hval hW _ _ hsz0 hL hsh _
  exact contract H enc W base args ds gs before hval hsz0 hW hL hsh

theorem said : Rows.OrderFormsSaid :=
  OpenClaim.holds_of_cond 5 Tryd.f5 rfl rfl rfl rfl rfl rfl rfl ⟨rfl, rfl, rfl, rfl, rfl⟩ rfl rfl rfl rfl rfl (by kernel_rfl) Tryd.func5 (by kernel_rfl)
    (of_decide_eq_true (by kernel_rfl)) (by unfold Func.isWrapper; first | (rw [if_pos (by decide +kernel)]; kernel_rfl) | (rw [if_neg (by decide +kernel)]; exact ⟨rfl, rfl⟩))
    (fun os started H enc _ F => by rw [OpenClaim.pre_eq_preRow]; exact lifted os started H enc F)

theorem plain (f : FuncId) (fn : Func) (hf : Tryd.pinned.checked.prog.funcNamed "triggerstore/triggerstorelaw18.OrderForms" = some f) (hfn : Tryd.pinned.checked.prog.funcs[f]? = some fn) :
    false = Tryd.pinned.checked.prog.looks [] ∧ ∀ (j : Nat) t, fn.params[j]? = some t → Tryd.pinned.checked.prog.wantsStandIn t = false := by
  obtain rfl : f = 5 := Option.some.inj ((show Tryd.prog.funcNamed "triggerstore/triggerstorelaw18.OrderForms" = some 5 by kernel_rfl).symm.trans hf) |>.symm
  obtain rfl : fn = Tryd.f5 := (Option.some.inj (Tryd.func5.symm.trans hfn)).symm
  refine ⟨by kernel_rfl, fun j t ht => ?_⟩
  rw [Tryd.params5] at ht
  have hm := Array.mem_of_getElem? ht
  simp only [List.mem_toArray, List.mem_cons, List.not_mem_nil, or_false] at hm
  rcases hm with rfl | rfl | rfl | rfl | rfl | rfl
  · exact (show Tryd.prog.wantsStandIn 25 = false by kernel_rfl)
  · exact (show Tryd.prog.wantsStandIn 9 = false by kernel_rfl)
  · exact (show Tryd.prog.wantsStandIn 9 = false by kernel_rfl)
  · exact (show Tryd.prog.wantsStandIn 32 = false by kernel_rfl)
  · exact (show Tryd.prog.wantsStandIn 32 = false by kernel_rfl)
  · exact (show Tryd.prog.wantsStandIn 22 = false by kernel_rfl)
end LawOrderForms

theorem orderForms_holds : Rows.OrderFormsCardSaid :=
  Claim7.holds_tied_plain_at .later [] _ _ _ _ LawOrderForms.said (fun _ h => by cases h) (by kernel_rfl) (fun _ h => by cases h) orderForms_row_tie rfl ⟨rfl, rfl⟩ (by kernel_rfl) rfl LawOrderForms.plain (by kernel_rfl)
#print axioms orderForms_holds
end Go.Proofs.YtkjnoekclfdjiaaDoor

/- Free: the contract of free, of pick's reference. -/
import Derived.Test.YtaefjgjojflppaaFull
import Derived.Deep.RegionWith
import Derived.StillTailTactics
import Derived.Deep.QuietTactic
import Derived.BigQuiet
namespace Go.Proofs.Ytaefjgjojflppaa
open Go.RowKit
set_option linter.unusedVariables false
set_option linter.unusedSimpArgs false

def BsIn (A : Option Addr) (n : Nat) (l : List Bool) : World → Prop := SlR 1 A n (bCells l)
theorem BsIn.len {w : World} {A : Option Addr} {n : Nat} {l : List Bool} (h : BsIn A n l w) : l.length = n := by
  have := (show Rd w w.heap.size 1 A n (bCells l) from h).1
  rw [bCells_len] at this
  omega
theorem BsIn.at_ {w : World} {A : Option Addr} {n : Nat} {l : List Bool} (h : BsIn A n l w) {k : Nat} {x : Bool} (hx : l[k]? = some x) :
    ∃ b o, A = some ⟨b, o, none⟩ ∧ b < w.heap.size ∧ w.cell? ⟨b, o + k, none⟩ = some (.bool x) := by
  have hk : k < n := by rw [← h.len]; exact (List.getElem?_eq_some_iff.1 hx).1
  obtain ⟨b, o, e, hb, hc⟩ := (show Rd w w.heap.size 1 A n (bCells l) from h).2 (by omega)
  exact ⟨b, o, e, hb, hc k _ (by rw [bCells_get, hx]; rfl)⟩
/-- does an item among the first m that is left come before item i? -/
def lefB (its : List It) (lf : List Bool) (l : List Lk) (i m : Nat) : Bool := (List.range m).any fun k => k != i && lf.getD k false && precB l (trAt its k) (trAt its i)
def freeB (its : List It) (lf : List Bool) (l : List Lk) (i : Nat) : Bool := lf.getD i false && !lefB its lf l i its.length
theorem lefB_succ (its : List It) (lf : List Bool) (l : List Lk) (i m : Nat) : lefB its lf l i (m + 1) = (lefB its lf l i m || (m != i && lf.getD m false && precB l (trAt its m) (trAt its i))) := by
  simp [lefB, List.range_succ]
theorem lefB_hit {its : List It} {lf : List Bool} {l : List Lk} {i m n : Nat} (hm : m < n) (h : (m != i && lf.getD m false && precB l (trAt its m) (trAt its i)) = true) : lefB its lf l i n = true := by
  unfold lefB; rw [List.any_eq_true]; exact ⟨m, by simpa using hm, h⟩
theorem getD_of {l : List Bool} {k : Nat} {x : Bool} (h : l[k]? = some x) : l.getD k false = x := by simp [List.getD, h]

set_option maxHeartbeats 4000000 in
set_option maxRecDepth 100000 in
theorem rfree_any (M : Nat → Prop) (w : World) (hM : ∀ b, M b → b < w.heap.size) (A : Option Addr) (n c : Nat) (its : List It) (C : Option Addr) (c2 : Nat) (lf : List Bool) (B : Option Addr) (m d : Nat) (l : List Lk) (i : Nat) (hi : i < n)
    (hD : Ro w M (ItsIn A n its)) (hF : Ro w M (BsIn C n lf)) (hE : Ro w M (LksIn B m l)) (hn : n ≤ 4398046511104) (hm : m ≤ 9223372036854775807) :
    Calls Try.prog 40 #[.slice A n c, .slice C n c2, .slice B m d, .int .i64 i] w fun e w' => e = .returned (.bool (freeB its lf l i)) ∧ Below w.heap.size w w' := by
  have HL := hid hD.now.len
  have HF := hid hF.now.len
  have K0 := (((Hold.start M w hM).add (hE.less (by simp [Mut]))).add (hF.less (by simp [Mut, Hp.foot]))).add (hD.less (by simp [Mut, Hp.foot]))
  obtain ⟨y, hy⟩ := get_of HL.out hi
  obtain ⟨z, hz⟩ := get_of HF.out hi
  obtain ⟨g, o, rfl, hb, e0, e1, e2, e3⟩ := hD.now.at_ hy
  obtain ⟨g2, o2, rfl, hb2, z0⟩ := hF.now.at_ hz
  clear hb e0 e1 e2 e3 hb2 z0 hD hE hF
  have HY := hid (show its[i]? = some y from hy); clear hy
  have HZ := hid (show lf[i]? = some z from hz); clear hz
  go_enter Try.func40, Try.ntmps40
  go_wp2_with fail
  go_loopw [12] (fun j wr => ∃ k : Nat, k ≤ n ∧ j = .int .i64 k ∧ Hid (lefB its lf l i k = false) ∧ Hold M none w wr [.ro (ItsIn (some ⟨g, o, none⟩) n its), .ro (BsIn (some ⟨g2, o2, none⟩) n lf), .ro (LksIn B m l)]) (fun j _ => n - (intOf j).toNat)
  case atStart => exact ⟨0, by omega, rfl, hid rfl, K0⟩
  case round =>
    obtain ⟨k, hk, rfl, HBK, H⟩ := hrel
    obtain ⟨g', o', ho', hb', y0, y1, y2, y3⟩ := (H.ro 0 rfl).now.at_ HY.out
    obtain ⟨rfl, rfl⟩ : g = g' ∧ o = o' := by injection ho' with ho'; injection ho' with a1 a2; exact ⟨a1, a2⟩
    obtain ⟨g', o', ho2', hb2', z0⟩ := (H.ro 1 rfl).now.at_ HZ.out
    obtain ⟨rfl, rfl⟩ : g2 = g' ∧ o2 = o' := by injection ho2' with ho'; injection ho' with a1 a2; exact ⟨a1, a2⟩
    clear ho' ho2'
    by_cases hlt : k < n
    · have hd : decide ((k : Int) < (n : Int)) = true := by simp; omega
      obtain ⟨x, hx⟩ := get_of HL.out hlt
      obtain ⟨u, hu⟩ := get_of HF.out hlt
      obtain ⟨g', o', ho', hb', x0, x1, x2, x3⟩ := (H.ro 0 rfl).now.at_ hx
      obtain ⟨rfl, rfl⟩ : g = g' ∧ o = o' := by injection ho' with ho'; injection ho' with a1 a2; exact ⟨a1, a2⟩
      obtain ⟨g', o', ho2', hb2', u0⟩ := (H.ro 1 rfl).now.at_ hu
      obtain ⟨rfl, rfl⟩ : g2 = g' ∧ o2 = o' := by injection ho2' with ho'; injection ho' with a1 a2; exact ⟨a1, a2⟩
      clear ho' ho2'
      have HX := hid (trAt_of hx); clear hx
      have HU := hid (getD_of hu); clear hu
      by_cases hpk : k = i
      · have hne : ((k : Int) != (i : Int)) = false := by rw [bne_eq_false_iff_eq]; omega
        have HN : Hid (lefB its lf l i (k + 1) = false) := by unfold Hid; rw [lefB_succ, HBK.out, hpk]; simp
        clear hpk
        go_wp2_with fail
        go_quiet (fail)
        go_wp2_with fail
        go_roundw
        case rel => exact ⟨k + 1, by omega, by go_num, HN, by first | exact H | exact H.drew | exact H.drewN _⟩
        case measure => simp [intOf]; omega
      · have hne : ((k : Int) != (i : Int)) = true := by rw [bne_iff_ne]; omega
        have hpk2 : (k != i) = true := by rw [bne_iff_ne]; exact hpk
        cases u
        · have HN : Hid (lefB its lf l i (k + 1) = false) := by unfold Hid; rw [lefB_succ, HBK.out, HU.out]; simp
          go_wp2_with fail
          go_quiet (fail)
          go_wp2_with fail
          go_roundw
          case rel => exact ⟨k + 1, by omega, by go_num, HN, by first | exact H | exact H.drew | exact H.drewN _⟩
          case measure => simp [intOf]; omega
        · cases hpr : precB l x.tr y.tr
          · have HN : Hid (lefB its lf l i (k + 1) = false) := by unfold Hid; rw [lefB_succ, HBK.out, HX.out, trAt_of HY.out, hpr]; simp
            go_wp2_with fail
            go_still_tail 21, (by kernel_rfl)
            change wpList _ _ _ _ _ wr.drew
            go_wp2_with (go_at_call 21; refine (rprec_any (Mut M _) _ H.drew.mutLt B m d l x.tr y.tr (H.drew.ro 2 rfl) hm).mono ?_; rintro e w5 ⟨rfl, b5⟩; have K5 := H.drew.call b5; rw [hpr])
            go_wp2_with fail
            go_roundw
            case rel => exact ⟨k + 1, by omega, by go_num, HN, K5⟩
            case measure => simp [intOf]; omega
          · have HN : Hid (lefB its lf l i its.length = true) := hid (lefB_hit (m := k) (by rw [HL.out]; exact hlt) (by rw [HX.out, HU.out, trAt_of HY.out, hpr, hpk2]; rfl))
            go_wp2_with fail
            go_still_tail 21, (by kernel_rfl)
            change wpList _ _ _ _ _ wr.drew
            go_wp2_with (go_at_call 21; refine (rprec_any (Mut M _) _ H.drew.mutLt B m d l x.tr y.tr (H.drew.ro 2 rfl) hm).mono ?_; rintro e w5 ⟨rfl, b5⟩; have K5 := H.drew.call b5; rw [hpr])
            go_wp2_with fail
            go_ret
            exact ⟨by rw [show freeB its lf l i = false from by unfold freeB; rw [HN.out]; simp] <;> rfl, K5.below⟩
    · obtain rfl : k = n := by omega
      go_wp2_with fail
      go_ret
      exact ⟨by rw [show freeB its lf l i = z from by unfold freeB; rw [HL.out, HBK.out, getD_of HZ.out]; simp] <;> rfl, H.below⟩
end Go.Proofs.Ytaefjgjojflppaa

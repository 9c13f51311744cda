/- Items: the contract of pick.Eligible. -/
import Derived.Test.YtaefjgjojflppaaLink
import Derived.Deep.LoopGhost
namespace Go.Proofs.Ytaefjgjojflppaa
open Go.RowKit
set_option linter.unusedVariables false
set_option linter.unusedSimpArgs false

structure It where
  tr : ByteArray
  row : Int
  oa : Option Addr
  on : Nat
  oc : Nat
  na : Option Addr
  nn : Nat
  nc : Nat
def It.cells (x : It) : List Value := [.string x.tr, .int .i64 x.row, .slice x.oa x.on x.oc, .slice x.na x.nn x.nc]
def itCells (l : List It) : List Value := l.flatMap It.cells
theorem itCells_len (l : List It) : (itCells l).length = l.length * 4 := flat_len _ 4 (fun _ => rfl) l
def ItsIn (A : Option Addr) (n : Nat) (l : List It) : World → Prop := SlR 4 A n (itCells l)
theorem ItsIn.len {w : World} {A : Option Addr} {n : Nat} {l : List It} (h : ItsIn A n l w) : l.length = n := by
  have := (show Rd w w.heap.size 4 A n (itCells l) from h).1
  rw [itCells_len] at this
  omega
theorem ItsIn.at_ {w : World} {A : Option Addr} {n : Nat} {l : List It} (h : ItsIn A n l w) {k : Nat} {x : It} (hx : l[k]? = some x) :
    ∃ b o, A = some ⟨b, o, none⟩ ∧ b < w.heap.size ∧ w.cell? ⟨b, o + k * 4, none⟩ = some (.string x.tr) ∧ w.cell? ⟨b, o + k * 4 + 1, none⟩ = some (.int .i64 x.row) ∧ w.cell? ⟨b, o + k * 4 + 2, none⟩ = some (.slice x.oa x.on x.oc) ∧ w.cell? ⟨b, o + k * 4 + 3, none⟩ = some (.slice x.na x.nn x.nc) := by
  have hk : k < n := by rw [← h.len]; exact (List.getElem?_eq_some_iff.1 hx).1
  obtain ⟨b, o, e, hb, hc⟩ := (show Rd w w.heap.size 4 A n (itCells l) from h).2 (by omega)
  exact ⟨b, o, e, hb, hc _ _ (flat_get It.cells 4 (fun _ => rfl) l k 0 x (by omega) hx), hc _ _ (flat_get It.cells 4 (fun _ => rfl) l k 1 x (by omega) hx), hc _ _ (flat_get It.cells 4 (fun _ => rfl) l k 2 x (by omega) hx), hc _ _ (flat_get It.cells 4 (fun _ => rfl) l k 3 x (by omega) hx)⟩

/-- the name at a place -/
def trAt (its : List It) (k : Nat) : ByteArray := (its.map It.tr).getD k ⟨#[]⟩
theorem trAt_of {its : List It} {k : Nat} {x : It} (h : its[k]? = some x) : trAt its k = x.tr := by simp [trAt, List.getD, h]
/-- does an item among the first m come before item i? -/
def blkB (its : List It) (l : List Lk) (i m : Nat) : Bool := (List.range m).any fun k => k != i && precB l (trAt its k) (trAt its i)
def eligN (its : List It) (l : List Lk) (k : Nat) : List Nat := (List.range k).filter fun i => !blkB its l i its.length
def eligL (its : List It) (l : List Lk) (k : Nat) : List Value := (eligN its l k).map fun (i : Nat) => Value.int .i64 (i : Int)
theorem blkB_succ (its : List It) (l : List Lk) (i m : Nat) : blkB its l i (m + 1) = (blkB its l i m || (m != i && precB l (trAt its m) (trAt its i))) := by
  simp [blkB, List.range_succ]
theorem blkB_hit {its : List It} {l : List Lk} {i m n : Nat} (hm : m < n) (h : (m != i && precB l (trAt its m) (trAt its i)) = true) : blkB its l i n = true := by
  unfold blkB; rw [List.any_eq_true]; exact ⟨m, by simpa using hm, h⟩
theorem eligN_succ (its : List It) (l : List Lk) (k : Nat) : eligN its l (k + 1) = eligN its l k ++ (if blkB its l k its.length then [] else [k]) := by
  unfold eligN
  rw [List.range_succ, List.filter_append]
  congr 1
  cases h : blkB its l k its.length <;> simp [h]
theorem eligN_no {its : List It} {l : List Lk} {k : Nat} (h : blkB its l k its.length = true) : eligN its l (k + 1) = eligN its l k := by rw [eligN_succ, h]; simp
theorem eligL_no {its : List It} {l : List Lk} {k : Nat} (h : blkB its l k its.length = true) : eligL its l (k + 1) = eligL its l k := by unfold eligL; rw [eligN_no h]
theorem eligL_yes {its : List It} {l : List Lk} {k : Nat} (h : blkB its l k its.length = false) : eligL its l (k + 1) = eligL its l k ++ [.int .i64 (k : Int)] := by
  unfold eligL; rw [eligN_succ, h]; simp
theorem eligL_le (its : List It) (l : List Lk) (k : Nat) : (eligL its l k).length ≤ k := by
  unfold eligL eligN
  rw [List.length_map]
  exact Nat.le_trans (List.length_filter_le _ _) (by simp)
theorem Try.infoInt : (Try.prog.info? 3).map (fun i => (i.zero, i.size, i.bytes)) = some (some (.int .i64 0), 1, 8) := by kernel_rfl

/-- A list of numbers returned, in memory that nobody writes. -/
def IntsRet (w : World) (M : Nat → Prop) (xs : List Value) (e : Ending) (w' : World) : Prop :=
  ∃ (A : Option Addr) (n c : Nat), e = .returned (.slice A n c) ∧ n = xs.length ∧ n ≤ c ∧ c ≤ 9223372036854775807 ∧ Ro w' M (SlR 1 A n xs) ∧ Below w.heap.size w w'

set_option maxHeartbeats 4000000 in
theorem elig_any (M : Nat → Prop) (w : World) (hM : ∀ b, M b → b < w.heap.size) (A : Option Addr) (n c : Nat) (its : List It) (B : Option Addr) (m d : Nat) (l : List Lk) (hD : Ro w M (ItsIn A n its)) (hE : Ro w M (LksIn B m l)) (hn : n ≤ 4398046511104) (hm : m ≤ 9223372036854775807) :
    Calls Try.prog 12 #[.slice A n c, .slice B m d] w fun e w' => IntsRet w M (eligL its l its.length) e w' := by
  have HL := hid hD.now.len
  have K0 := (((Hold.start M w hM).add (hE.less (by simp [Mut]))).add (hD.less (by simp [Mut, Hp.foot]))).nil 3 1
  go_enter Try.func12, Try.ntmps12
  go_wp2
  go_step3
  go_wp2
  go_step3
  go_wp2
  go_loopg [5, 12] n (fun gh out i wr => ∃ (k cap q : Nat) (C : Option Addr), k + gh = n ∧ i = .int .i64 k ∧ out = .slice C q cap ∧ q = (eligL its l k).length ∧ q ≤ cap ∧ cap ≤ 9223372036854775807 ∧
    Hold M none w wr [.own 3 1 (.slice C q cap) q (eligL its l k), .ro (ItsIn A n its), .ro (LksIn B m l)])
  case atStart => exact ⟨0, 0, 0, none, by omega, rfl, rfl, rfl, by omega, by omega, K0⟩
  case round =>
    obtain ⟨k, cap, q, C, hk, rfl, rfl, hq, hqc, hcap, H⟩ := hrel
    obtain ⟨wo, rfl⟩ : ∃ wo : World, wo = wr := ⟨_, rfl⟩
    have hqk : q ≤ k := by have := eligL_le its l k; omega
    have HQ := hid hq; clear hq
    cases gk with
    | succ go =>
      have hlt : k < n := by omega
      have hd : decide ((k : Int) < (n : Int)) = true := by simp; omega
      obtain ⟨x, hx⟩ := get_of HL.out hlt
      obtain ⟨g, o, rfl, hb, c0, c1, c2, c3⟩ := (H.ro 1 rfl).now.at_ hx
      have HX := hid (trAt_of hx); clear hx
      have KA := H.alloc_cst #[.string x.tr, .int .i64 x.row, .slice x.oa x.on x.oc, .slice x.na x.nn x.nc] 27
      go_wp2_with fail
      go_loopg [19] n (fun gh j wq => ∃ p : Nat, p + gh = n ∧ j = .int .i64 p ∧ Hid (blkB its l k p = false) ∧ Hold M none w wq [.cst wo.heap.size 27 #[.string x.tr, .int .i64 x.row, .slice x.oa x.on x.oc, .slice x.na x.nn x.nc], .own 3 1 (.slice C q cap) q (eligL its l k), .ro (ItsIn (some ⟨g, o, none⟩) n its), .ro (LksIn B m l)])
      case atStart => exact ⟨0, by omega, rfl, hid rfl, KA⟩
      case round =>
        obtain ⟨p, hp, rfl, HBK, H2⟩ := hrel
        cases gk with
        | succ gi =>
          have hlt2 : p < n := by omega
          have hd2 : decide ((p : Int) < (n : Int)) = true := by simp; omega
          obtain ⟨y, hy⟩ := get_of HL.out hlt2
          obtain ⟨g', o', ho', hb', e0, e1, e2, e3⟩ := (H2.ro 2 rfl).now.at_ hy
          obtain ⟨rfl, rfl⟩ : g = g' ∧ o = o' := by injection ho' with ho'; injection ho' with a1 a2; exact ⟨a1, a2⟩
          clear ho'
          have HY := hid (trAt_of hy); clear hy
          have KB := H2.alloc_cst #[.string y.tr, .int .i64 y.row, .slice y.oa y.on y.oc, .slice y.na y.nn y.nc] 27
          have F2 := H2.facts
          simp only [World.size_alloc, World.size_drew, factsL, cellsF, Nat.reduceAdd, List.toList_toArray, and_true, true_and] at F2
          by_cases hpk : p = k
          · have hne : ((p : Int) != (k : Int)) = false := by rw [bne_eq_false_iff_eq]; omega
            have HN : Hid (blkB its l k (p + 1) = false) := by unfold Hid; rw [blkB_succ, HBK.out, hpk]; simp
            clear hpk
            go_wp2_with fail
            go_roundg gi
            case measure => omega
            case rel => exact ⟨p + 1, by omega, by go_num, HN, KB.drop (List.sublist_cons_self _ _)⟩
          · have hne : ((p : Int) != (k : Int)) = true := by rw [bne_iff_ne]; omega
            have hpk2 : (p != k) = true := by rw [bne_iff_ne]; exact hpk
            cases hpr : precB l y.tr x.tr
            · have HN : Hid (blkB its l k (p + 1) = false) := by unfold Hid; rw [blkB_succ, HBK.out, HX.out, HY.out, hpr]; simp
              go_wp2_with ((go_at_call 35; refine (prec_any (Mut M _) _ KB.mutLt B m d l y.tr x.tr (KB.ro 4 rfl) hm).mono ?_; rintro e w5 ⟨rfl, b5⟩; have K5 := KB.call b5; rw [hpr]))
              go_roundg gi
              case measure => omega
              case rel => exact ⟨p + 1, by omega, by go_num, HN, K5.drop (List.sublist_cons_self _ _)⟩
            · have HN : Hid (blkB its l k its.length = true) := hid (blkB_hit (m := p) (by rw [HL.out]; exact hlt2) (by rw [HX.out, HY.out, hpr, hpk2]; rfl))
              go_wp2_with ((go_at_call 35; refine (prec_any (Mut M _) _ KB.mutLt B m d l y.tr x.tr (KB.ro 4 rfl) hm).mono ?_; rintro e w5 ⟨rfl, b5⟩; have K5 := KB.call b5; rw [hpr]))
              go_roundg go
              case measure => omega
              case rel => exact ⟨k + 1, cap, q, C, by omega, by go_num, rfl, by rw [eligL_no HN.out]; exact HQ.out, hqc, hcap, by rw [eligL_no HN.out]; exact (K5.drop (List.sublist_cons_self _ _)).drop (List.sublist_cons_self _ _)⟩
        | zero =>
          obtain rfl : p = n := by omega
          have HOWN := hid (H2.get 1 rfl)
          have HB := hid H2.grow.size
          have HN : Hid (blkB its l k its.length = false) := hid (by rw [HL.out]; exact HBK.out)
          go_wp2_with (at_builtin; go_must (refine wpList_app2 wr #[.int .i64 (k : Int)] rfl (.tmp 36) (.tmp 38) 33 rfl w.heap.size 3 1 8 _ Try.underlying33 Try.infoInt rfl (by omega) (.slice C q cap) q (eligL its l k) rfl HOWN.out wr.heap.size (by simp) rfl rfl (by intro u hu; simp at hu; subst hu; rfl) (by omega) (by omega) HB.out ?_); intro g' cap' w' ho hg hdj hl'; have hcap' := hid ho.2; have KA := Hold.append (H2.alloc_cst #[.int .i64 (k : Int)] 3) 2 rfl ho hg hdj hl')
          go_roundg go
          case measure => omega
          case rel =>
            have hcc : q + 1 ≤ cap' := by
              rcases hcap'.out with ⟨h, _⟩ | ⟨g2, c2, cur, hv, _, _, hle, _⟩
              · cases h
              · have h3 := (Value.slice.inj hv).2.2; omega
            have hcm : cap' ≤ 9223372036854775807 := by
              rcases hcap'.out with ⟨h, _⟩ | ⟨g2, c2, cur, hv, _, _, hle, hm2, _⟩
              · cases h
              · have h3 := (Value.slice.inj hv).2.2; unfold maxLen at hm2; omega
            exact ⟨k + 1, cap', q + 1, some ⟨g', 0, none⟩, by omega, by go_num, rfl, by rw [eligL_yes HN.out, HQ.out]; simp, hcc, hcm, by rw [eligL_yes HN.out]; exact ((KA.drop (List.sublist_cons_self _ _)).drop (List.sublist_cons_self _ _))⟩
    | zero =>
      obtain rfl : k = n := by omega
      have KS := H.sealRow 0 rfl
      go_wp2_with fail
      (try rw [Exit.noGoto_ret])
      go_ret
      have e : eligL its l its.length = eligL its l k := by rw [HL.out]
      exact ⟨C, q, cap, rfl, by rw [e]; exact HQ.out, hqc, hcap, by rw [e]; exact KS.roOut 0 rfl, KS.below⟩
end Go.Proofs.Ytaefjgjojflppaa

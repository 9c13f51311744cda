/- EvAll: event.Items. -/
import Derived.Test.YtdkebcfkchhlmaaGreatDoorEvNoneSaidMG
import Derived.Test.YtdkebcfkchhlmaaGreatDoorEvNoneSaidMA
import Derived.WalkLawsBesides
import Derived.StillTailTactics
import Derived.Deep.LoopGhost
import Derived.IntWalk
import Derived.WideShapes
import Derived.Test.YtdkebcfkchhlmaaGreatDoorEvNoneSaidME
import Derived.Test.YtdkebcfkchhlmaaGreatDoorEvNoneSaidMC
import Derived.Test.YtdkebcfkchhlmaaGreatDoorEvNoneSaidMB
import Derived.Deep.DeepCutAuto
import Derived.Deep.CutRange
import Derived.Test.YtdkebcfkchhlmaaGreatDoorEvNoneSaidMD
namespace Go.Proofs.YtdkebcfkchhlmaaGreatDoor
open Go.RowKit
set_option linter.unusedVariables false
set_option linter.unusedSimpArgs false

def befB (x y : Lk) : Bool := Op.bytesLess x.a.toList y.a.toList || (x.a.toList == y.a.toList && Op.bytesLess x.b.toList y.b.toList)
def lkEq (x y : Lk) : Bool := x.a.toList == y.a.toList && x.b.toList == y.b.toList
theorem Tryz.elLink : ElemT Tryz.prog 26 194 2 32 (.agg #[.string ⟨#[]⟩, .string ⟨#[]⟩]) := ⟨Tryz.underlying26, by kernel_rfl, rfl, by omega⟩
theorem one_lk (a b : ByteArray) : ∀ u ∈ (#[Value.string a, Value.string b]).toList, u.oneCell' = true := by intro u hu; simp at hu; rcases hu with rfl | rfl <;> rfl
theorem lkCells_snoc (l : List Lk) (x : Lk) : lkCells l ++ (#[Value.string x.a, Value.string x.b]).toList = lkCells (l ++ [x]) := by simp [lkCells, Lk.cells]

set_option maxHeartbeats 1000000 in
theorem before_any (x y : Lk) (w : World) :
  Calls Tryz.prog 171 #[.agg #[.string x.a, .string x.b], .agg #[.string y.a, .string y.b]] w fun e w' => e = .returned (.bool (befB x y)) ∧ Below w.heap.size w w' := by
 obtain ⟨xa, xb⟩ := x
 obtain ⟨ya, yb⟩ := y
 cases h1 : Op.bytesLess xa.toList ya.toList <;> cases h2 : (xa.toList == ya.toList) <;> cases h3 : Op.bytesLess xb.toList yb.toList
 all_goals
  go_enter Tryz.func171, Tryz.ntmps171
  go_wp2_with fail
  go_ret
  exact ⟨by simp only [befB, h1, h2, h3] <;> rfl, ext2 _ _ _⟩

def insStep (x : Lk) (s : List Lk × Bool) (y : Lk) : List Lk × Bool := ((if s.2 || befB y x then s.1 else s.1 ++ [x]) ++ (if lkEq y x then [] else [y]), s.2 || !befB y x)
def insS (x : Lk) (l : List Lk) (k : Nat) : List Lk × Bool := (l.take k).foldl (insStep x) ([], false)
def insL (x : Lk) (l : List Lk) : List Lk := if (insS x l l.length).2 then (insS x l l.length).1 else (insS x l l.length).1 ++ [x]
theorem insS_succ (x : Lk) {l : List Lk} {k : Nat} {y : Lk} (hy : l[k]? = some y) : insS x l (k + 1) = insStep x (insS x l k) y := by
 obtain ⟨hk, rfl⟩ := List.getElem?_eq_some_iff.1 hy
 unfold insS
 rw [List.take_succ_eq_append_getElem hk, List.foldl_append]
 rfl
theorem insS_le (x : Lk) (l : List Lk) : ∀ k, (insS x l k).1.length ≤ 2 * k
 | 0 => by simp [insS]
 | k + 1 => by
  by_cases h : k < l.length
  ·rw [insS_succ x (List.getElem?_eq_getElem h)]
   have := insS_le x l k
   unfold insStep
   split <;> split <;> simp <;> omega
  ·have : insS x l (k + 1) = insS x l k := by unfold insS; rw [List.take_of_length_le (by omega), List.take_of_length_le (by omega)]
   rw [this]; have := insS_le x l k; omega

/-- A list of links handed back, in memory that nobody writes. -/
def LksRet (w : World) (M : Nat → Prop) (l : List Lk) (e : Ending) (w' : World) : Prop :=
 ∃ (A : Option Addr) (n c : Nat), e = .returned (.slice A n c) ∧ n = l.length ∧ n ≤ c ∧ c ≤ 9223372036854775807 ∧ Ro w' M (LksIn A n l) ∧ Below w.heap.size w w'

set_option maxHeartbeats 4000000 in
theorem insert_any (M : Nat → Prop) (w : World) (hM : ∀ b, M b → b < w.heap.size) (A : Option Addr) (n c : Nat) (l : List Lk) (x : Lk) (hD : Ro w M (LksIn A n l)) (hn : n ≤ 1000000) :
  Calls Tryz.prog 113 #[.slice A n c, .agg #[.string x.a, .string x.b]] w fun e w' => LksRet w M (insL x l) e w' := by
 have HL := hid hD.now.len
 have K0 := ((((Hold.start M w hM).add (hD.less (by simp [Mut]))).nil 194 2)).alloc_cst #[.string x.a, .string x.b] 194
 go_enter Tryz.func113, Tryz.ntmps113
 go_wp2_with fail
 go_loopw [5, 6, 11] (fun out d i wr => ∃ (k cap q : Nat) (C : Option Addr) (o : List Lk) (dn : Bool), k ≤ n ∧ i = .int .i64 k ∧ out = .slice C q cap ∧ d = .bool dn ∧ Hid (q = o.length) ∧ Hid (insS x l k = (o, dn)) ∧
  Hold M none w wr [.cst w.heap.size 194 #[.string x.a, .string x.b], .own 194 2 (.slice C q cap) q (lkCells o), .ro (LksIn A n l)]) (fun _ _ i _ => n - (intOf i).toNat)
 case atStart => exact ⟨0, 0, 0, none, [], false, by omega, rfl, rfl, rfl, hid rfl, hid rfl, K0⟩
 case round =>
  obtain ⟨k, cap, q, C, o, dn, hk, rfl, rfl, rfl, HQ, HS, H⟩ := hrel
  have hqk : q ≤ 2 * k := by have := insS_le x l k; rw [HS.out] at this; have := HQ.out; simp at *; omega
  by_cases hlt : k < n
  ·have hd : decide ((k : Int) < (n : Int)) = true := by simp; omega
   obtain ⟨y, hy⟩ := get_of HL.out hlt
   obtain ⟨g, oo, rfl, hb, c0, c1⟩ := (H.ro 2 rfl).now.at_ hy
   have HN := hid (insS_succ x hy); clear hy
   have F := H.facts
   simp only [World.size_alloc, World.size_drew, factsL, cellsF, Nat.reduceAdd, List.toList_toArray, and_true, true_and] at F
   have K1 := H.alloc_cst #[.string y.a, .string y.b] 194
   have F1 := K1.facts
   simp only [World.size_alloc, World.size_drew, factsL, cellsF, Nat.reduceAdd, List.toList_toArray, and_true, true_and] at F1
   cases h1 : (y.a.toList == x.a.toList) <;> cases h2 : (y.b.toList == x.b.toList)
   all_goals
    have heq : lkEq y x = (y.a.toList == x.a.toList && y.b.toList == x.b.toList) := rfl
    rw [h1, h2] at heq
    simp only [Bool.and_true, Bool.and_false, Bool.and_self] at heq
    have HE := hid heq
    clear heq
    cases dn
    ·cases hbf : befB y x
     all_goals
      have HBF := hid hbf
      go_wp2_with fail
      refine (before_any y x _).mono ?_
      rintro e wb ⟨rfl, bb⟩
      rw [HBF.out]
      have KB := K1.call bb
      clear bb F F1
      have FB := KB.facts
      simp only [factsL, cellsF, Nat.reduceAdd, zf, zl] at FB
      clear hbf
      first
       | (go_wp2_with (first
         | (at_builtin; refine wpList_appH KB 2 rfl Tryz.elLink #[.string x.a, .string x.b] rfl (.tmp 23) (.tmp 25) rfl rfl wb.heap.size rfl rfl rfl (one_lk _ _) (by omega) (by omega) ?_; intro g2 cap2 w2 hc2 hm2 K2; (have F2 := K2.facts); simp only [World.size_alloc, World.size_drew, factsL, cellsF, Nat.reduceAdd, List.toList_toArray, List.set_cons_zero, List.set_cons_succ, and_true, true_and] at F2)
         | (at_builtin; refine wpList_appH KB 2 rfl Tryz.elLink #[.string y.a, .string y.b] rfl (.tmp 30) (.tmp 32) rfl rfl wb.heap.size rfl rfl rfl (one_lk _ _) (by omega) (by omega) ?_; intro g3 cap3 w3 hc3 hm3 K3)
         | (at_builtin; refine wpList_appH K2 2 rfl Tryz.elLink #[.string y.a, .string y.b] rfl (.tmp 30) (.tmp 32) rfl rfl w2.heap.size rfl rfl rfl (one_lk _ _) (by omega) (by omega) ?_; intro g3 cap3 w3 hc3 hm3 K3)))
      go_roundw
      case measure => simp [intOf]; omega
      case rel =>
       first
        | (refine ⟨k + 1, _, _, _, o ++ [x] ++ [y], true, by omega, by go_num, rfl, rfl, hid (by simp [HQ.out]), hid (by rw [HN.out, HS.out]; simp [insStep, HBF.out, HE.out]), ?_⟩; rw [← lkCells_snoc, ← lkCells_snoc]; exact K3.drop (List.sublist_cons_self _ _))
        | (refine ⟨k + 1, _, _, _, o ++ [x], true, by omega, by go_num, rfl, rfl, hid (by simp [HQ.out]), hid (by rw [HN.out, HS.out]; simp [insStep, HBF.out, HE.out]), ?_⟩; rw [← lkCells_snoc]; exact K2.drop (List.sublist_cons_self _ _))
        | (refine ⟨k + 1, _, _, _, o ++ [y], false, by omega, by go_num, rfl, rfl, hid (by simp [HQ.out]), hid (by rw [HN.out, HS.out]; simp [insStep, HBF.out, HE.out]), ?_⟩; rw [← lkCells_snoc]; exact K3.drop (List.sublist_cons_self _ _))
        | (refine ⟨k + 1, _, _, _, o, false, by omega, by go_num, rfl, rfl, hid (by simp [HQ.out]), hid (by rw [HN.out, HS.out]; simp [insStep, HBF.out, HE.out]), ?_⟩; exact KB.drop (List.sublist_cons_self _ _))
    ·go_wp2_with (at_builtin; refine wpList_appH K1 2 rfl Tryz.elLink #[.string y.a, .string y.b] rfl (.tmp 30) (.tmp 32) rfl rfl (wr.heap.size + 1) (by simp) rfl rfl (one_lk _ _) (by omega) (by omega) ?_; intro g3 cap3 w3 hc3 hm3 K3)
     go_roundw
     case measure => simp [intOf]; omega
     case rel =>
      first
       | (refine ⟨k + 1, _, _, _, o ++ [y], true, by omega, by go_num, rfl, rfl, hid (by simp [HQ.out]), hid (by rw [HN.out, HS.out]; simp [insStep, HE.out]), ?_⟩; rw [← lkCells_snoc]; exact K3.drop (List.sublist_cons_self _ _))
       | (refine ⟨k + 1, _, _, _, o, true, by omega, by go_num, rfl, rfl, hid (by simp [HQ.out]), hid (by rw [HN.out, HS.out]; simp [insStep, HE.out]), ?_⟩; exact K1.drop (List.sublist_cons_self _ _))
  ·obtain rfl : k = n := by omega
   have HI : Hid (insL x l = if dn then o else o ++ [x]) := by unfold Hid insL; rw [HL.out, HS.out]
   have F := H.facts
   simp only [World.size_alloc, World.size_drew, factsL, cellsF, Nat.reduceAdd, List.toList_toArray, and_true, true_and] at F
   have hcap := own_caps (H.get 1 rfl)
   cases dn
   ·go_wp2_with (at_builtin; refine wpList_appH H 1 rfl Tryz.elLink #[.string x.a, .string x.b] rfl (.tmp 37) (.tmp 39) rfl rfl wr.heap.size rfl rfl rfl (one_lk _ _) (by omega) (by omega) ?_; intro g3 cap3 w3 hc3 hm3 K3)
    have KS := K3.sealRow 1 rfl
    go_ret
    have e : insL x l = o ++ [x] := HI.out
    exact ⟨_, _, _, rfl, by rw [e, HQ.out]; simp, hc3, hm3, by rw [e]; unfold LksIn; rw [← lkCells_snoc]; exact KS.roOut 1 rfl, KS.below⟩
   ·have KS := H.sealRow 1 rfl
    go_wp2_with fail
    go_ret
    have e : insL x l = o := HI.out
    exact ⟨_, _, _, rfl, by rw [e]; exact HQ.out, hcap.1, hcap.2.1, by rw [e]; exact KS.roOut 1 rfl, KS.below⟩
end Go.Proofs.YtdkebcfkchhlmaaGreatDoor

namespace Go.Proofs.YtdkebcfkchhlmaaGreatDoor
open Go.RowKit
set_option linter.unusedVariables false
set_option linter.unusedSimpArgs false

def lkAt (l : List Lk) (i : Nat) : Lk := l.getD i ⟨⟨#[]⟩, ⟨#[]⟩⟩
theorem lkAt_of {l : List Lk} {i : Nat} {x : Lk} (h : l[i]? = some x) : lkAt l i = x := by simp [lkAt, List.getD, h]
/-- the link x follows on y, or the link that it asks is there -/
def trB (l : List Lk) (x y : Lk) : Bool := !(x.b.toList == y.a.toList) || precB l x.a y.b
def okAt (l : List Lk) (i : Nat) : Bool := !((lkAt l i).a.toList == (lkAt l i).b.toList) && (i == 0 || befB (lkAt l (i - 1)) (lkAt l i)) && l.all (trB l (lkAt l i))
def validLk (l : List Lk) : Bool := (List.range l.length).all (okAt l)
theorem all_succ {p : Nat → Bool} {k : Nat} (h : (List.range k).all p = true) (hp : p k = true) : (List.range (k + 1)).all p = true := by
 rw [List.range_succ, List.all_append, h]; simpa using hp
theorem all_no {p : Nat → Bool} {k n : Nat} (hk : k < n) (hp : p k = false) : (List.range n).all p = false := by
 rw [List.all_eq_false]; exact ⟨k, by simpa using hk, by simp [hp]⟩
theorem take_all {α : Type} {p : α → Bool} {l : List α} {k : Nat} {x : α} (h : (l.take k).all p = true) (hx : l[k]? = some x) (hp : p x = true) : (l.take (k + 1)).all p = true := by
 obtain ⟨hk, rfl⟩ := List.getElem?_eq_some_iff.1 hx
 rw [List.take_succ_eq_append_getElem hk, List.all_append, h]; simpa using hp
theorem all_miss {α : Type} {p : α → Bool} {l : List α} {k : Nat} {x : α} (hx : l[k]? = some x) (hp : p x = false) : l.all p = false := by
 rw [List.all_eq_false]; exact ⟨x, List.mem_of_getElem? hx, by simp [hp]⟩

set_option maxHeartbeats 4000000 in
set_option maxRecDepth 100000 in
theorem rvalidLk_any (M : Nat → Prop) (w : World) (hM : ∀ b, M b → b < w.heap.size) (A : Option Addr) (n c : Nat) (l : List Lk) (hD : Ro w M (LksIn A n l)) (hn : n ≤ 1000000) :
  Calls Tryz.prog 112 #[.slice A n c] w fun e w' => e = .returned (.bool (validLk l)) ∧ Below w.heap.size w w' := by
 have HL := hid hD.now.len
 have K0 := (Hold.start M w hM).add (hD.less (by simp [Mut]))
 go_enter Tryz.func112, Tryz.ntmps112
 go_wp2_with fail
 go_loopw [9] (fun i wr => ∃ (k : Nat), k ≤ n ∧ i = .int .i64 k ∧ Hid ((List.range k).all (okAt l) = true) ∧ Hold M none w wr [.ro (LksIn A n l)]) (fun i _ => n - (intOf i).toNat)
 case atStart => exact ⟨0, by omega, rfl, hid rfl, K0⟩
 case round =>
  obtain ⟨k, hk, rfl, HV, H⟩ := hrel
  obtain ⟨wo, rfl⟩ : ∃ wo : World, wo = wr := ⟨_, rfl⟩
  by_cases hlt : k < n
  ·have hd : decide ((k : Int) < (n : Int)) = true := by simp; omega
   obtain ⟨x, hx⟩ := get_of HL.out hlt
   obtain ⟨g, o, rfl, hb, c0, c1⟩ := (H.ro 0 rfl).now.at_ hx
   have HX := hid (lkAt_of hx); clear hx
   have K1 := H.alloc_cst #[.string x.a, .string x.b] 194
   have F1 := K1.facts
   simp only [World.size_alloc, World.size_drew, factsL, cellsF, Nat.reduceAdd, List.toList_toArray, and_true, true_and] at F1
   have HB0 := hid (And.intro c0 c1)
   cases hs : (x.a.toList == x.b.toList)
   ·by_cases hk0 : k = 0
    ·have hkd : decide (0 < k) = false := by simp; omega
     have HK0 := hid hk0
     have HSF := hid hs
     clear hk0
     go_wp2_with fail
     go_quiet (fail)
     go_wp2_with fail
     go_loopw [35] (fun j wq => ∃ p : Nat, p ≤ n ∧ j = .int .i64 p ∧ Hid ((l.take p).all (trB l x) = true) ∧ Hold M none w wq [.cst wo.heap.size 194 #[.string x.a, .string x.b], .ro (LksIn (some ⟨g, o, none⟩) n l)]) (fun j _ => n - (intOf j).toNat)
     case atStart => exact ⟨0, by omega, rfl, hid rfl, K1.drewN _⟩
     case round =>
      obtain ⟨p, hp, rfl, HP, H2⟩ := hrel
      by_cases hlt2 : p < n
      ·have hd2 : decide ((p : Int) < (n : Int)) = true := by simp; omega
       obtain ⟨y, hy⟩ := get_of HL.out hlt2
       obtain ⟨g', o', ho', hb', e0, e1⟩ := (H2.ro 1 rfl).now.at_ hy
       obtain ⟨rfl, rfl⟩ : g = g' ∧ o = o' := by injection ho' with ho'; injection ho' with a1 a2; exact ⟨a1, a2⟩
       clear ho'
       have HY := hid hy; clear hy
       have K2 := H2.alloc_cst #[.string y.a, .string y.b] 194
       have F2 := H2.facts
       simp only [World.size_alloc, World.size_drew, factsL, cellsF, Nat.reduceAdd, List.toList_toArray, and_true, true_and] at F2
       cases h4 : (x.b.toList == y.a.toList)
       ·have HT := hid (show trB l x y = true by simp only [trB, h4]; rfl)
        go_wp2_with fail
        go_roundw
        case rel => exact ⟨p + 1, by omega, by go_num, hid (take_all HP.out HY.out HT.out), K2.drop (List.sublist_cons_self _ _)⟩
        case measure => simp [intOf]; omega
       ·cases hpr : precB l x.a y.b
        ·have HT := hid (show trB l x y = false by simp only [trB, h4, hpr]; rfl)
         go_wp2_with (go_at_call 172; refine (rprec_any (Mut M _) _ K2.mutLt _ n c l x.a y.b (K2.ro 2 rfl) (by omega)).mono ?_; rintro e w5 ⟨rfl, b5⟩; have K5 := K2.call b5; rw [hpr])
         go_ret
         exact ⟨by rw [show validLk l = false from all_no (k := k) (by rw [HL.out]; exact hlt) (by unfold okAt; rw [HX.out, all_miss HY.out HT.out]; simp)] <;> rfl, K5.below⟩
        ·have HT := hid (show trB l x y = true by simp only [trB, h4, hpr]; rfl)
         go_wp2_with (go_at_call 172; refine (rprec_any (Mut M _) _ K2.mutLt _ n c l x.a y.b (K2.ro 2 rfl) (by omega)).mono ?_; rintro e w5 ⟨rfl, b5⟩; have K5 := K2.call b5; rw [hpr])
         go_roundw
         case rel => exact ⟨p + 1, by omega, by go_num, hid (take_all HP.out HY.out HT.out), K5.drop (List.sublist_cons_self _ _)⟩
         case measure => simp [intOf]; omega
      ·obtain rfl : n = p := by omega
       have HPA := HP.out
       rw [List.take_of_length_le (by rw [HL.out]; omega)] at HPA
       have HPB := hid HPA; clear HPA
       go_wp2_with fail
       go_roundw
       case rel => exact ⟨k + 1, by omega, by go_num, hid (all_succ HV.out (by unfold okAt; rw [HX.out, HPB.out, HSF.out]; simp [HK0.out])), H2.drop (List.sublist_cons_self _ _)⟩
       case measure => simp [intOf]; omega
    ·obtain ⟨k, rfl⟩ : ∃ m, k = m + 1 := ⟨k - 1, by omega⟩
     have HSF := hid hs
     have hw : IntKind.i64.wrap (k : Int) = (k : Int) := IntWalk.i64_in _ (by omega)
     have i0 : (0 : Int) ≤ (k : Int) := by omega
     have i1 : (k : Int) < (n : Int) := by omega
     have hkd : decide ((0 : Int) < (k : Int) + 1) = true := by simp
     clear hk0
     obtain ⟨z, hz⟩ := get_of HL.out (show k < n by omega)
     obtain ⟨g', o', ho', hb', e0, e1⟩ := (K1.ro 1 rfl).now.at_ hz
     obtain ⟨rfl, rfl⟩ : g = g' ∧ o = o' := by injection ho' with ho'; injection ho' with a1 a2; exact ⟨a1, a2⟩
     clear ho'
     have HZ := hid (lkAt_of hz); clear hz
     cases hbf : befB z x
     ·have HBF := hid hbf
      go_wp2_with fail
      generalize wo.alloc (.cells #[.string x.a, .string x.b] 194) = w1 at *
      go_still_tail 15, (by kernel_rfl)
      change wpList _ _ _ _ _ (World.drew _)
      go_wp2_with (go_at_call 171; refine (before_any z x _).mono ?_; rintro e w5 ⟨rfl, b5⟩; have K5 := K1.drew.call b5; rw [HBF.out])
      go_wp2_with fail
      go_ret
      exact ⟨by rw [show validLk l = false from all_no (k := (k + 1)) (by rw [HL.out]; exact hlt) (by unfold okAt; rw [HX.out]; simp only [HBF.out, lkAt_of, Nat.add_sub_cancel, HZ.out]; simp)] <;> rfl, by first | exact (K5).below | exact (K5).drew.below | exact ((K5).drewN _).below⟩
     ·have HBF := hid hbf
      go_wp2_with fail
      generalize wo.alloc (.cells #[.string x.a, .string x.b] 194) = w1 at *
      go_still_tail 15, (by kernel_rfl)
      change wpList _ _ _ _ _ (World.drew _)
      go_wp2_with (go_at_call 171; refine (before_any z x _).mono ?_; rintro e w5 ⟨rfl, b5⟩; have K5 := K1.drew.call b5; rw [HBF.out])
      go_loopw [35] (fun j wq => ∃ p : Nat, p ≤ n ∧ j = .int .i64 p ∧ Hid ((l.take p).all (trB l x) = true) ∧ Hold M none w wq [.cst wo.heap.size 194 #[.string x.a, .string x.b], .ro (LksIn (some ⟨g, o, none⟩) n l)]) (fun j _ => n - (intOf j).toNat)
      case atStart => exact ⟨0, by omega, rfl, hid rfl, K5⟩
      case round =>
       obtain ⟨p, hp, rfl, HP, H2⟩ := hrel
       by_cases hlt2 : p < n
       ·have hd2 : decide ((p : Int) < (n : Int)) = true := by simp; omega
        obtain ⟨y, hy⟩ := get_of HL.out hlt2
        obtain ⟨g', o', ho', hb', e0, e1⟩ := (H2.ro 1 rfl).now.at_ hy
        obtain ⟨rfl, rfl⟩ : g = g' ∧ o = o' := by injection ho' with ho'; injection ho' with a1 a2; exact ⟨a1, a2⟩
        clear ho'
        have HY := hid hy; clear hy
        have K2 := H2.alloc_cst #[.string y.a, .string y.b] 194
        have F2 := H2.facts
        simp only [World.size_alloc, World.size_drew, factsL, cellsF, Nat.reduceAdd, List.toList_toArray, and_true, true_and] at F2
        cases h4 : (x.b.toList == y.a.toList)
        ·have HT := hid (show trB l x y = true by simp only [trB, h4]; rfl)
         go_wp2_with fail
         go_roundw
         case rel => exact ⟨p + 1, by omega, by go_num, hid (take_all HP.out HY.out HT.out), K2.drop (List.sublist_cons_self _ _)⟩
         case measure => simp [intOf]; omega
        ·cases hpr : precB l x.a y.b
         ·have HT := hid (show trB l x y = false by simp only [trB, h4, hpr]; rfl)
          go_wp2_with (go_at_call 172; refine (rprec_any (Mut M _) _ K2.mutLt _ n c l x.a y.b (K2.ro 2 rfl) (by omega)).mono ?_; rintro e w5 ⟨rfl, b5⟩; have K5 := K2.call b5; rw [hpr])
          go_ret
          exact ⟨by rw [show validLk l = false from all_no (k := (k + 1)) (by rw [HL.out]; exact hlt) (by unfold okAt; rw [HX.out, all_miss HY.out HT.out]; simp)] <;> rfl, K5.below⟩
         ·have HT := hid (show trB l x y = true by simp only [trB, h4, hpr]; rfl)
          go_wp2_with (go_at_call 172; refine (rprec_any (Mut M _) _ K2.mutLt _ n c l x.a y.b (K2.ro 2 rfl) (by omega)).mono ?_; rintro e w5 ⟨rfl, b5⟩; have K5 := K2.call b5; rw [hpr])
          go_roundw
          case rel => exact ⟨p + 1, by omega, by go_num, hid (take_all HP.out HY.out HT.out), K5.drop (List.sublist_cons_self _ _)⟩
          case measure => simp [intOf]; omega
       ·obtain rfl : n = p := by omega
        have HPA := HP.out
        rw [List.take_of_length_le (by rw [HL.out]; omega)] at HPA
        have HPB := hid HPA; clear HPA
        go_wp2_with fail
        go_roundw
        case rel => exact ⟨(k + 1) + 1, by omega, by go_num, hid (all_succ HV.out (by unfold okAt; rw [HX.out, HPB.out, HSF.out]; simp [HZ.out, HBF.out])), H2.drop (List.sublist_cons_self _ _)⟩
        case measure => simp [intOf]; omega
   ·have HS := hid hs
    go_wp2_with fail
    go_quiet (fail)
    go_wp2_with fail
    go_ret
    exact ⟨by rw [show validLk l = false from all_no (k := k) (by rw [HL.out]; exact hlt) (by unfold okAt; rw [HX.out]; simp only [HS.out]; simp)] <;> rfl, by first | exact (K1).below | exact (K1).drew.below | exact ((K1).drewN _).below⟩
  ·obtain rfl : k = n := by omega
   go_wp2_with fail
   go_ret
   exact ⟨by rw [show validLk l = true from by unfold validLk; rw [HL.out]; exact HV.out] <;> rfl, H.below⟩
end Go.Proofs.YtdkebcfkchhlmaaGreatDoor

namespace Go.Proofs.YtdkebcfkchhlmaaGreatDoor
open Go.RowKit
set_option linter.unusedVariables false
set_option linter.unusedSimpArgs false

theorem less_irrefl : ∀ x : List UInt8, Op.bytesLess x x = false
 | [] => rfl
 | a :: x => by simp [Op.bytesLess, less_irrefl x]
theorem less_trans : ∀ x y z : List UInt8, Op.bytesLess x y = true → Op.bytesLess y z = true → Op.bytesLess x z = true
 | _, [], _ => by simp [Op.bytesLess]
 | [], b :: y, [] => by simp [Op.bytesLess]
 | [], b :: y, c :: z => by simp [Op.bytesLess]
 | a :: x, b :: y, [] => by simp [Op.bytesLess]
 | a :: x, b :: y, c :: z => by
  have ih := less_trans x y z
  simp only [Op.bytesLess, Bool.or_eq_true, Bool.and_eq_true, decide_eq_true_eq, beq_iff_eq]
  rintro (h1 | ⟨rfl, h1⟩) (h2 | ⟨rfl, h2⟩)
  ·exact .inl (UInt8.lt_trans h1 h2)
  ·exact .inl h1
  ·exact .inl h2
  ·exact .inr ⟨rfl, ih h1 h2⟩
theorem lless_tri : ∀ x y : List UInt8, x = y ∨ Op.bytesLess x y = true ∨ Op.bytesLess y x = true
 | [], [] => .inl rfl
 | [], b :: y => .inr (.inl rfl)
 | a :: x, [] => .inr (.inr rfl)
 | a :: x, b :: y => by
  simp only [Op.bytesLess, Bool.or_eq_true, Bool.and_eq_true, decide_eq_true_eq, beq_iff_eq, List.cons.injEq]
  rcases UInt8.lt_or_lt_of_ne (a := a) (b := b) |> fun h => Classical.em (a = b) with rfl | hne
  ·rcases lless_tri x y with rfl | h | h
   ·exact .inl ⟨rfl, rfl⟩
   ·exact .inr (.inl (.inr ⟨rfl, h⟩))
   ·exact .inr (.inr (.inr ⟨rfl, h⟩))
  ·rcases UInt8.lt_or_lt_of_ne hne with h | h
   ·exact .inr (.inl (.inl h))
   ·exact .inr (.inr (.inl h))
theorem ba_ext {a b : ByteArray} (h : a.toList = b.toList) : a = b := Go.WideShapes.bytes_inj (by rw [← ByteArray.toList_eq, ← ByteArray.toList_eq]; exact h)
theorem ba_beq {a b : ByteArray} : (a.toList == b.toList) = true ↔ a = b := by
 rw [beq_iff_eq]; exact ⟨ba_ext, fun h => by rw [h]⟩
theorem lk_ext {x y : Lk} (h1 : x.a = y.a) (h2 : x.b = y.b) : x = y := by
 obtain ⟨a, b⟩ := x; obtain ⟨c, d⟩ := y; simp only at h1 h2; rw [h1, h2]
theorem lkEq_iff {x y : Lk} : lkEq x y = true ↔ x = y := by
 unfold lkEq
 rw [Bool.and_eq_true, ba_beq, ba_beq]
 exact ⟨fun h => lk_ext h.1 h.2, fun h => by rw [h]; exact ⟨rfl, rfl⟩⟩
theorem bef_irrefl (x : Lk) : befB x x = false := by simp [befB, less_irrefl]
theorem bef_trans {x y z : Lk} (h1 : befB x y = true) (h2 : befB y z = true) : befB x z = true := by
 simp only [befB, Bool.or_eq_true, Bool.and_eq_true, beq_iff_eq] at *
 rcases h1 with h1 | ⟨e1, h1⟩ <;> rcases h2 with h2 | ⟨e2, h2⟩
 ·exact .inl (less_trans _ _ _ h1 h2)
 ·exact .inl (e2 ▸ h1)
 ·exact .inl (e1 ▸ h2)
 ·exact .inr ⟨e1.trans e2, less_trans _ _ _ h1 h2⟩
theorem bef_tri (x y : Lk) : x = y ∨ befB x y = true ∨ befB y x = true := by
 simp only [befB, Bool.or_eq_true, Bool.and_eq_true, beq_iff_eq]
 rcases lless_tri x.a.toList y.a.toList with h | h | h
 ·rcases lless_tri x.b.toList y.b.toList with h2 | h2 | h2
  ·exact .inl (lk_ext (ba_ext h) (ba_ext h2))
  ·exact .inr (.inl (.inr ⟨h, h2⟩))
  ·exact .inr (.inr (.inr ⟨h.symm, h2⟩))
 ·exact .inr (.inl (.inl h))
 ·exact .inr (.inr (.inl h))
theorem bef_ne {x y : Lk} (h : befB x y = true) : x ≠ y := by rintro rfl; rw [bef_irrefl] at h; cases h

def LkSorted (l : List Lk) : Prop := l.Pairwise fun x y => befB x y = true
theorem LkSorted.nodup {l : List Lk} (h : LkSorted l) : l.Nodup := List.Pairwise.imp (fun h => bef_ne h) h

/-- insert, once more: what is still to be laid behind what is laid. -/
def insF (x : Lk) : Bool → List Lk → List Lk
 | d, [] => if d then [] else [x]
 | d, y :: l => (if d || befB y x then [] else [x]) ++ (if lkEq y x then [] else [y]) ++ insF x (d || !befB y x) l
theorem ins_fold (x : Lk) : ∀ (l : List Lk) (o : List Lk) (d : Bool), (let s := l.foldl (insStep x) (o, d); if s.2 then s.1 else s.1 ++ [x]) = o ++ insF x d l
 | [], o, d => by cases d <;> simp [insF]
 | y :: l, o, d => by
  have ih := ins_fold x l (insStep x (o, d) y).1 (insStep x (o, d) y).2
  refine Eq.trans ih ?_
  simp only [insStep, insF]
  cases d <;> cases befB y x <;> cases lkEq y x <;> simp
theorem insL_eq (x : Lk) (l : List Lk) : insL x l = insF x false l := by
 have h := ins_fold x l [] false
 simp only [List.nil_append] at h
 rw [← h]
 unfold insL insS
 rw [List.take_of_length_le (Nat.le_refl _)]
theorem insF_true (x : Lk) : ∀ l : List Lk, (∀ y ∈ l, y ≠ x) → insF x true l = l
 | [], _ => rfl
 | y :: l, h => by
  have hy : lkEq y x = false := by
   cases e : lkEq y x
   ·rfl
   ·exact absurd (lkEq_iff.1 e) (h y (List.mem_cons_self ..))
  simp [insF, hy, insF_true x l (fun z hz => h z (List.mem_cons_of_mem _ hz))]
theorem insF_cons {x y : Lk} {l : List Lk} (h : LkSorted (y :: l)) : insF x false (y :: l) = if befB y x then y :: insF x false l else if lkEq y x then y :: l else x :: y :: l := by
 obtain ⟨h1, h2⟩ := List.pairwise_cons.1 h
 cases hb : befB y x
 ·have hn : ∀ z ∈ l, z ≠ x := fun z hz e => by
   subst e; rw [h1 z hz] at hb; cases hb
  cases he : lkEq y x
  ·simp [insF, hb, he, insF_true x l hn]
  ·obtain rfl := lkEq_iff.1 he
   simp [insF, hb, he, insF_true y l hn]
 ·have he : lkEq y x = false := by
   cases e : lkEq y x
   ·rfl
   ·exact absurd (lkEq_iff.1 e) (bef_ne hb)
  simp [insF, hb, he]
theorem insF_mem {x z : Lk} : ∀ {l : List Lk}, LkSorted l → (z ∈ insF x false l ↔ z = x ∨ z ∈ l)
 | [], _ => by simp [insF]
 | y :: l, h => by
  have ih := insF_mem (x := x) (z := z) (List.pairwise_cons.1 h).2
  rw [insF_cons h]
  split
  ·simp only [List.mem_cons, ih]
   constructor
   ·rintro (h | h | h)
    ·exact .inr (.inl h)
    ·exact .inl h
    ·exact .inr (.inr h)
   ·rintro (h | h | h)
    ·exact .inr (.inl h)
    ·exact .inl h
    ·exact .inr (.inr h)
  ·split
   ·rename_i _ he
    obtain rfl := lkEq_iff.1 he
    simp only [List.mem_cons]
    exact ⟨.inr, fun h => h.elim .inl id⟩
   ·simp only [List.mem_cons]
theorem insF_sorted {x : Lk} : ∀ {l : List Lk}, LkSorted l → LkSorted (insF x false l)
 | [], _ => by simp [insF, LkSorted]
 | y :: l, h => by
  have ih := insF_sorted (x := x) (List.pairwise_cons.1 h).2
  rw [insF_cons h]
  obtain ⟨h1, h2⟩ := List.pairwise_cons.1 h
  split
  ·rename_i hb
   refine List.pairwise_cons.2 ⟨fun z hz => ?_, ih⟩
   rcases (insF_mem h2).1 hz with rfl | hz
   ·exact hb
   ·exact h1 z hz
  ·split
   ·exact h
   ·rename_i hb he
    have hxy : befB x y = true := by
     rcases bef_tri x y with rfl | h | h
     ·exact absurd (lkEq_iff.2 rfl) he
     ·exact h
     ·exact absurd h hb
    refine List.pairwise_cons.2 ⟨fun z hz => ?_, h⟩
    rcases List.mem_cons.1 hz with rfl | hz
    ·exact hxy
    ·exact bef_trans hxy (h1 z hz)
theorem insL_mem {x z : Lk} {l : List Lk} (h : LkSorted l) : z ∈ insL x l ↔ z = x ∨ z ∈ l := by rw [insL_eq]; exact insF_mem h
theorem insL_sorted {x : Lk} {l : List Lk} (h : LkSorted l) : LkSorted (insL x l) := by rw [insL_eq]; exact insF_sorted h

/-- A list without repeats within another one is no longer than it. -/
theorem nodup_len {α : Type} : ∀ {l u : List α}, l.Nodup → (∀ x ∈ l, x ∈ u) → l.length ≤ u.length
 | [], u, _, _ => Nat.zero_le _
 | x :: l, u, h, hs => by
  obtain ⟨h1, h2⟩ := List.nodup_cons.1 h
  obtain ⟨p, q, rfl⟩ := List.append_of_mem (hs x (List.mem_cons_self ..))
  have := nodup_len (u := p ++ q) h2 fun z hz => by
   have hz' := hs z (List.mem_cons_of_mem _ hz)
   simp only [List.mem_append, List.mem_cons] at hz' ⊢
   rcases hz' with h | rfl | h
   ·exact .inl h
   ·exact absurd hz h1
   ·exact .inr h
  simp only [List.length_append, List.length_cons] at this ⊢
  omega
/-- all links of some names -/
def lkAll (ns : List ByteArray) : List Lk := ns.flatMap fun a => ns.map fun b => ⟨a, b⟩
theorem lkAll_len (ns : List ByteArray) : (lkAll ns).length = ns.length * ns.length := flat_len _ _ (fun _ => by simp) ns
def NamesIn (ns : List ByteArray) (l : List Lk) : Prop := ∀ z ∈ l, z.a ∈ ns ∧ z.b ∈ ns
theorem NamesIn.len {ns : List ByteArray} {l : List Lk} (h : NamesIn ns l) (hs : LkSorted l) : l.length ≤ ns.length * ns.length := by
 rw [← lkAll_len]
 refine nodup_len hs.nodup fun x hx => ?_
 obtain ⟨h1, h2⟩ := h x hx
 exact List.mem_flatMap.2 ⟨x.a, h1, List.mem_map.2 ⟨x.b, h2, rfl⟩⟩

/-- What follows from links. -/
inductive Tr (l : List Lk) : ByteArray → ByteArray → Prop
 | one {a b : ByteArray} : (⟨a, b⟩ : Lk) ∈ l → Tr l a b
 | step {a b c : ByteArray} : Tr l a b → Tr l b c → Tr l a c
theorem Tr.mono {l l' : List Lk} (h : ∀ z ∈ l, Tr l' z.a z.b) {a b : ByteArray} (ht : Tr l a b) : Tr l' a b := by
 induction ht with
 | one hm => exact h _ hm
 | step _ _ h1 h2 => exact .step h1 h2
theorem Tr.names {ns : List ByteArray} {l : List Lk} (h : NamesIn ns l) {a b : ByteArray} (ht : Tr l a b) : a ∈ ns ∧ b ∈ ns := by
 induction ht with
 | one hm => exact h _ hm
 | step _ _ h1 h2 => exact ⟨h1.1, h2.2⟩
/-- r is sorted, and says just what follows from l -/
def ClosOf (l r : List Lk) : Prop := LkSorted r ∧ ∀ a b, (⟨a, b⟩ : Lk) ∈ r ↔ Tr l a b

/-- between l and what follows from it -/
def Mid (l o : List Lk) : Prop := LkSorted o ∧ (∀ z ∈ l, z ∈ o) ∧ ∀ z ∈ o, Tr l z.a z.b
theorem Mid.self {l : List Lk} (h : LkSorted l) : Mid l l := ⟨h, fun _ h => h, fun z h => .one h⟩
theorem Mid.ins {l o : List Lk} (h : Mid l o) {x y : Lk} (hx : x ∈ l) (hy : y ∈ l) (he : x.b = y.a) : Mid l (insL ⟨x.a, y.b⟩ o) := by
 refine ⟨insL_sorted h.1, fun z hz => (insL_mem h.1).2 (.inr (h.2.1 z hz)), fun z hz => ?_⟩
 rcases (insL_mem h.1).1 hz with rfl | hz
 ·exact .step (b := x.b) (.one hx) (by rw [he]; exact .one hy)
 ·exact h.2.2 z hz
theorem Mid.names {ns : List ByteArray} {l o : List Lk} (h : Mid l o) (hn : NamesIn ns l) : NamesIn ns o := fun z hz => Tr.names hn (h.2.2 z hz)
/-- the compositions of x with the first j links are there -/
def Done1 (l o : List Lk) (x : Lk) (j : Nat) : Prop := ∀ y ∈ l.take j, x.b = y.a → (⟨x.a, y.b⟩ : Lk) ∈ o
def DoneN (l o : List Lk) (i : Nat) : Prop := ∀ x ∈ l.take i, Done1 l o x l.length
theorem mem_take_succ {α : Type} {l : List α} {k : Nat} {x y : α} (hx : l[k]? = some x) (h : y ∈ l.take (k + 1)) : y = x ∨ y ∈ l.take k := by
 obtain ⟨hk, rfl⟩ := List.getElem?_eq_some_iff.1 hx
 rw [List.take_succ_eq_append_getElem hk] at h
 rcases List.mem_append.1 h with h | h
 ·exact .inr h
 ·exact .inl (by simpa using h)
theorem Done1.succ {l o : List Lk} {x y : Lk} {j : Nat} (h : Done1 l o x j) (hy : l[j]? = some y) (hd : x.b = y.a → (⟨x.a, y.b⟩ : Lk) ∈ o) : Done1 l o x (j + 1) := fun z hz he => by
 rcases mem_take_succ hy hz with rfl | hz
 ·exact hd he
 ·exact h z hz he
theorem Done1.more {l o o' : List Lk} {x : Lk} {j : Nat} (h : Done1 l o x j) (hs : ∀ z ∈ o, z ∈ o') : Done1 l o' x j := fun z hz he => hs _ (h z hz he)
theorem DoneN.more {l o o' : List Lk} {i : Nat} (h : DoneN l o i) (hs : ∀ z ∈ o, z ∈ o') : DoneN l o' i := fun x hx => (h x hx).more hs
theorem DoneN.succ {l o : List Lk} {i : Nat} {x : Lk} (h : DoneN l o i) (hx : l[i]? = some x) (h1 : Done1 l o x l.length) : DoneN l o (i + 1) := fun z hz => by
 rcases mem_take_succ hx hz with rfl | hz
 ·exact h1
 ·exact h z hz
/-- nothing was added: l is closed -/
theorem clos_end {l0 l o : List Lk} (h : Mid l o) (hd : DoneN l o l.length) (hlen : o.length = l.length) (hl : LkSorted l) (h0 : ∀ z ∈ l0, z ∈ l) (h1 : ∀ z ∈ l, Tr l0 z.a z.b) : ClosOf l0 o := by
 have hsub : ∀ z ∈ o, z ∈ l := fun z hz => by
  refine Classical.byContradiction fun hn => ?_
  have := nodup_len (l := z :: l) (u := o) (List.nodup_cons.2 ⟨hn, hl.nodup⟩) fun y hy => by
   rcases List.mem_cons.1 hy with rfl | hy
   ·exact hz
   ·exact h.2.1 y hy
  simp only [List.length_cons] at this
  omega
 refine ⟨h.1, fun a b => ⟨fun hm => h1 _ (hsub _ hm), fun ht => ?_⟩⟩
 induction ht with
 | one hm => exact h.2.1 _ (h0 _ hm)
 | @step a b c _ _ i1 i2 => exact hd _ (by rw [List.take_length]; exact hsub _ i1) _ (by rw [List.take_length]; exact hsub _ i2) rfl
theorem Mid.len {l o : List Lk} (h : Mid l o) (hl : LkSorted l) : l.length ≤ o.length := nodup_len hl.nodup h.2.1
theorem Mid.trans {l0 l o : List Lk} (h : Mid l0 l) (k : Mid l o) : Mid l0 o := ⟨k.1, fun z hz => k.2.1 z (h.2.1 z hz), fun z hz => Tr.mono h.2.2 (k.2.2 z hz)⟩
end Go.Proofs.YtdkebcfkchhlmaaGreatDoor

namespace Go.Proofs.YtdkebcfkchhlmaaGreatDoor
open Go.RowKit
set_option linter.unusedVariables false
set_option linter.unusedSimpArgs false

def ClosRet (w : World) (M : Nat → Prop) (l : List Lk) (e : Ending) (w' : World) : Prop := ∃ r, ClosOf l r ∧ LksRet w M r e w'

set_option maxHeartbeats 4000000 in
set_option maxRecDepth 100000 in
theorem closure_any (M : Nat → Prop) (w : World) (hM : ∀ b, M b → b < w.heap.size) (A : Option Addr) (n c : Nat) (l0 : List Lk) (ns : List ByteArray) (hD : Ro w M (LksIn A n l0)) (hs : LkSorted l0) (hns : NamesIn ns l0) (hB : ns.length * ns.length ≤ 1000000) (hc : n ≤ c) (hcm : c ≤ 9223372036854775807) :
  Calls Tryz.prog 114 #[.slice A n c] w fun e w' => ClosRet w M l0 e w' := by
 have HB := hid hB
 obtain ⟨B, hBB⟩ : ∃ B, ns.length * ns.length = B := ⟨_, rfl⟩
 rw [hBB] at hB
 have HBB := hid hBB
 have K0 := (Hold.start M w hM).add (hD.less (by simp [Mut]))
 have HM0 := hid (Mid.self hs)
 have HNS := hid hns
 have HS0 := hid hs
 clear hBB hns hs
 go_enter Tryz.func114, Tryz.ntmps114
 go_wp2_with fail
 go_loopg [0] B (fun gh v wr => ∃ (A : Option Addr) (n c : Nat) (l : List Lk), v = .slice A n c ∧ B ≤ n + gh ∧ n ≤ c ∧ c ≤ 9223372036854775807 ∧ Hid (Mid l0 l) ∧ Hold M none w wr [.ro (LksIn A n l)])
 case atStart => exact ⟨A, n, c, l0, rfl, by omega, hc, hcm, HM0, K0⟩
 case round =>
  clear K0 hD hc hcm
  clear A n c
  obtain ⟨A, n, c, l, rfl, hgh, hc, hcm, HMl, H⟩ := hrel
  have hnl := (H.ro 0 rfl).now.len
  have hnB : n ≤ B := by rw [← hnl, ← HBB.out]; exact NamesIn.len (Mid.names HMl.out HNS.out) HMl.out.1
  have HL := hid hnl; clear hnl
  have KS := H.add (H.ro 0 rfl)
  go_wp2_with fail
  go_loopw [3, 11] (fun v i wq => ∃ (A' : Option Addr) (n' c' k : Nat) (o : List Lk), v = .slice A' n' c' ∧ k ≤ n ∧ i = .int .i64 k ∧ n' ≤ c' ∧ c' ≤ 9223372036854775807 ∧ Hid (Mid l o) ∧ Hid (DoneN l o k) ∧ Hold M none w wq [.ro (LksIn A' n' o), .ro (LksIn A n l)]) (fun _ i _ => n - (intOf i).toNat)
  case atStart => exact ⟨A, n, c, 0, l, rfl, by omega, rfl, hc, hcm, hid (Mid.self HMl.out.1), hid (fun x hx => by simp at hx), KS⟩
  case round =>
   clear KS H
   obtain ⟨A', n', c', k, o, rfl, hk, rfl, hc', hcm', HMo, HDN, H⟩ := hrel
   have hn'l := (H.ro 0 rfl).now.len
   have hn'B : n' ≤ B := by rw [← hn'l, ← HBB.out]; exact NamesIn.len (Mid.names (HMl.out.trans HMo.out) HNS.out) HMo.out.1
   have HL' := hid hn'l; clear hn'l
   have hnn : n ≤ n' := by have := HMo.out.len HMl.out.1; rw [HL.out, HL'.out] at this; exact this
   obtain ⟨wo, rfl⟩ : ∃ wo : World, wo = wr := ⟨_, rfl⟩
   by_cases hlt : k < n
   ·have hd : decide ((k : Int) < (n : Int)) = true := by simp; omega
    obtain ⟨x, hx⟩ := get_of HL.out hlt
    obtain ⟨g, oo, rfl, hb, c0, c1⟩ := (H.ro 1 rfl).now.at_ hx
    have HX := hid hx; clear hx
    have K1 := H.alloc_cst #[.string x.a, .string x.b] 194
    have K2 := (K1.add (K1.ro 1 rfl)).drop (L' := [.ro (LksIn A' n' o), .cst wo.heap.size 194 #[.string x.a, .string x.b], .ro (LksIn (some ⟨g, oo, none⟩) n l)]) (List.Sublist.cons_cons _ (List.Sublist.cons_cons _ (List.sublist_cons_self _ _)))
    clear K1
    go_wp2_with fail
    go_loopw [3, 17] (fun v j wq => ∃ (A' : Option Addr) (n' c' p : Nat) (o : List Lk), v = .slice A' n' c' ∧ p ≤ n ∧ j = .int .i64 p ∧ n' ≤ c' ∧ c' ≤ 9223372036854775807 ∧ Hid (Mid l o) ∧ Hid (DoneN l o k) ∧ Hid (Done1 l o x p) ∧ Hold M none w wq [.ro (LksIn A' n' o), .cst wo.heap.size 194 #[.string x.a, .string x.b], .ro (LksIn (some ⟨g, oo, none⟩) n l)]) (fun _ j _ => n - (intOf j).toNat)
    case atStart => exact ⟨A', n', c', 0, o, rfl, by omega, rfl, hc', hcm', HMo, HDN, hid (fun y hy => by simp at hy), K2⟩
    case round =>
     clear K2 H HL' HMo HDN hc' hcm' hn'B hnn
     obtain ⟨A', n', c', p, o, rfl, hp, rfl, hc', hcm', HMo, HDN, HD1, H⟩ := hrel
     have hn'l := (H.ro 0 rfl).now.len
     have hn'B : n' ≤ B := by rw [← hn'l, ← HBB.out]; exact NamesIn.len (Mid.names (HMl.out.trans HMo.out) HNS.out) HMo.out.1
     have HL' := hid hn'l; clear hn'l
     by_cases hlt2 : p < n
     ·have hd2 : decide ((p : Int) < (n : Int)) = true := by simp; omega
      obtain ⟨y, hy⟩ := get_of HL.out hlt2
      obtain ⟨g', o', ho', hb', e0, e1⟩ := (H.ro 2 rfl).now.at_ hy
      obtain ⟨rfl, rfl⟩ : g = g' ∧ oo = o' := by injection ho' with ho'; injection ho' with a1 a2; exact ⟨a1, a2⟩
      clear ho'
      have HY := hid hy; clear hy
      have K3 := H.alloc_cst #[.string y.a, .string y.b] 194
      have F := K3.facts
      simp only [World.size_alloc, World.size_drew, factsL, cellsF, Nat.reduceAdd, List.toList_toArray, and_true, true_and] at F
      have F0 := H.facts
      simp only [World.size_alloc, World.size_drew, factsL, cellsF, Nat.reduceAdd, List.toList_toArray, and_true, true_and] at F0
      cases h4 : (x.b.toList == y.a.toList)
      ·have HE := hid (show x.b ≠ y.a from fun e => by rw [e] at h4; simp at h4)
       go_wp2_with fail
       go_roundw
       case rel => exact ⟨A', n', c', p + 1, o, rfl, by omega, by go_num, hc', hcm', HMo, HDN, hid (HD1.out.succ HY.out fun e => absurd e HE.out), K3.drop (List.sublist_cons_self _ _)⟩
       case measure => simp [intOf]; omega
      ·have HE := hid (show x.b = y.a from ba_beq.1 h4)
       go_wp2_with fail
       refine (insert_any (Mut M _) _ K3.mutLt A' n' c' o ⟨x.a, y.b⟩ (K3.ro 1 rfl) (by omega)).mono ?_
       rintro e w5 ⟨A5, n5, c5, rfl, h51, h52, h53, r5, b5⟩
       have H51 := hid h51; clear h51
       have K5 := ((K3.call b5).add r5).drop (L' := [.ro (LksIn A5 n5 (insL ⟨x.a, y.b⟩ o)), .cst wo.heap.size 194 #[.string x.a, .string x.b], .ro (LksIn (some ⟨g, oo, none⟩) n l)]) (List.Sublist.cons_cons _ (List.Sublist.cons _ (List.sublist_cons_self _ _)))
       have HM5 := hid (HMo.out.ins (List.mem_of_getElem? HX.out) (List.mem_of_getElem? HY.out) HE.out)
       have HI5 := hid (fun z (hz : z ∈ o) => (insL_mem HMo.out.1).2 (Or.inr (b := z ∈ o) (a := z = ⟨x.a, y.b⟩) hz))
       clear r5 b5 F F0
       go_wp2_with fail
       go_roundw
       case rel => exact ⟨A5, n5, c5, p + 1, _, rfl, by omega, by go_num, h52, h53, HM5, hid (HDN.out.more HI5.out), hid ((HD1.out.more HI5.out).succ HY.out fun _ => (insL_mem HMo.out.1).2 (.inl rfl)), K5⟩
       case measure => simp [intOf]; omega
     ·obtain rfl : p = n := by omega
      go_wp2_with fail
      go_roundw
      case rel => exact ⟨A', n', c', k + 1, o, rfl, by omega, by go_num, hc', hcm', HMo, hid (HDN.out.succ HX.out (by rw [HL.out]; exact HD1.out)), H.drop (List.Sublist.cons_cons _ (List.sublist_cons_self _ _))⟩
      case measure => simp [intOf]; omega
   ·obtain rfl : k = n := by omega
    by_cases he : n' = k
    ·have hq : ((n' : Int) == (k : Int)) = true := by rw [beq_iff_eq]; omega
     have HE := hid he; clear he
     go_wp2_with fail
     go_ret
     exact ⟨o, clos_end HMo.out (by rw [HL.out]; exact HDN.out) (by rw [HL.out, HL'.out, HE.out]) HMl.out.1 HMl.out.2.1 HMl.out.2.2, A', n', c', rfl, HL'.out.symm, hc', hcm', H.roOut 0 rfl, H.below⟩
    ·have hq : ((n' : Int) == (k : Int)) = false := by rw [beq_eq_false_iff_ne]; omega
     cases gk with
     | succ go =>
      go_wp2_with fail
      go_roundg go
      case measure => omega
      case rel => exact ⟨A', n', c', o, rfl, by omega, hc', hcm', hid (HMl.out.trans HMo.out), H.drop (List.Sublist.cons_cons _ (List.nil_sublist _))⟩
     | zero => omega
end Go.Proofs.YtdkebcfkchhlmaaGreatDoor

namespace Go.Proofs.YtdkebcfkchhlmaaGreatDoor
open Go.RowKit
set_option linter.unusedVariables false
set_option linter.unusedSimpArgs false

/-- A list of strings in memory. -/
def strsCells (l : List ByteArray) : List Value := l.map .string
def StrsIn (A : Option Addr) (n : Nat) (l : List ByteArray) : World → Prop := SlR 1 A n (strsCells l)
theorem StrsIn.len {w : World} {A : Option Addr} {n : Nat} {l : List ByteArray} (h : StrsIn A n l w) : l.length = n := by
 have := (show Rd w w.heap.size 1 A n (strsCells l) from h).1
 simpa [strsCells] using this
theorem StrsIn.at_ {w : World} {A : Option Addr} {n : Nat} {l : List ByteArray} (h : StrsIn A n l w) {k : Nat} {x : ByteArray} (hx : l[k]? = some x) :
  ∃ b o, A = some ⟨b, o, none⟩ ∧ b < w.heap.size ∧ w.cell? ⟨b, o + k, none⟩ = some (.string x) := by
 have hk : k < n := by rw [← h.len]; exact (List.getElem?_eq_some_iff.1 hx).1
 obtain ⟨b, o, e, hb, hc⟩ := (show Rd w w.heap.size 1 A n (strsCells l) from h).2 (by omega)
 exact ⟨b, o, e, hb, hc k _ (by simp [strsCells, hx])⟩
theorem one_lks (l : List Lk) : ∀ u ∈ lkCells l, u.oneCell' = true := by
 intro u hu
 obtain ⟨x, _, hx⟩ := List.mem_flatMap.1 hu
 simp [Lk.cells] at hx
 rcases hx with rfl | rfl <;> rfl

theorem valid_at {l : List Lk} (h : validLk l = true) {i : Nat} (hi : i < l.length) : okAt l i = true := by
 unfold validLk at h
 rw [List.all_eq_true] at h
 exact h i (by simpa using hi)
theorem pair_of_step : ∀ {l : List Lk}, (∀ i, i + 1 < l.length → befB (lkAt l i) (lkAt l (i + 1)) = true) → LkSorted l
 | [], _ => List.Pairwise.nil
 | [x], _ => List.pairwise_singleton _ _
 | x :: y :: l, h => by
  have ih : LkSorted (y :: l) := pair_of_step fun i hi => by
   have := h (i + 1) (by simp at hi ⊢; omega)
   simpa [lkAt] using this
  have hxy : befB x y = true := by have := h 0 (by simp); simpa [lkAt] using this
  refine List.pairwise_cons.2 ⟨fun z hz => ?_, ih⟩
  rcases List.mem_cons.1 hz with rfl | hz
  ·exact hxy
  ·exact bef_trans hxy ((List.pairwise_cons.1 ih).1 z hz)
theorem valid_sorted {l : List Lk} (h : validLk l = true) : LkSorted l := pair_of_step fun i hi => by
 have := valid_at h hi
 unfold okAt at this
 simp only [Bool.and_eq_true, Bool.or_eq_true] at this
 rcases this.1.2 with h1 | h1
 ·simp at h1
 ·simpa using h1

def insMany (f : ByteArray → Lk) (o : List Lk) (ss : List ByteArray) : List Lk := ss.foldl (fun o s => insL (f s) o) o
theorem insMany_succ (f : ByteArray → Lk) (o : List Lk) {ss : List ByteArray} {k : Nat} {s : ByteArray} (h : ss[k]? = some s) : insMany f o (ss.take (k + 1)) = insL (f s) (insMany f o (ss.take k)) := by
 obtain ⟨hk, rfl⟩ := List.getElem?_eq_some_iff.1 h
 unfold insMany
 rw [List.take_succ_eq_append_getElem hk, List.foldl_append]
 rfl
theorem insMany_spec (f : ByteArray → Lk) : ∀ (ss : List ByteArray) (o : List Lk), LkSorted o → LkSorted (insMany f o ss) ∧ ∀ z, z ∈ insMany f o ss ↔ z ∈ o ∨ ∃ s ∈ ss, z = f s
 | [], o, h => ⟨h, fun z => by simp [insMany]⟩
 | s :: ss, o, h => by
  obtain ⟨h1, h2⟩ := insMany_spec f ss (insL (f s) o) (insL_sorted h)
  refine ⟨h1, fun z => ?_⟩
  show z ∈ insMany f (insL (f s) o) ss ↔ _
  rw [h2 z, insL_mem h]
  simp only [List.mem_cons, exists_eq_or_imp]
  constructor
  ·rintro ((h | h) | h)
   ·exact .inr (.inl h)
   ·exact .inl h
   ·exact .inr (.inr h)
  ·rintro (h | h | h)
   ·exact .inl (.inr h)
   ·exact .inl (.inl h)
   ·exact .inr h
theorem insMany_names {ns : List ByteArray} {f : ByteArray → Lk} {ss : List ByteArray} {o : List Lk} (hs : LkSorted o) (ho : NamesIn ns o) (hf : ∀ s ∈ ss, (f s).a ∈ ns ∧ (f s).b ∈ ns) : NamesIn ns (insMany f o ss) := fun z hz => by
 rcases ((insMany_spec f ss o hs).2 z).1 hz with h | ⟨s, h, rfl⟩
 ·exact ho z h
 ·exact hf s h
/-- the links from which Add starts -/
def addS (l : List Lk) (nm : ByteArray) (ps fs : List ByteArray) : List Lk := insMany (fun s => ⟨s, nm⟩) (insMany (fun s => ⟨nm, s⟩) l ps) fs

/-- What Add answers. -/
def AddRet (w : World) (M : Nat → Prop) (l : List Lk) (nm : ByteArray) (ps fs : List ByteArray) (e : Ending) (w' : World) : Prop :=
 Below w.heap.size w w' ∧ ((validLk l = false ∧ e = .returned (.tuple #[.slice none 0 0, .int .i64 17])) ∨
  (validLk l = true ∧ ∃ r, ClosOf (addS l nm ps fs) r ∧ ((validLk r = false ∧ e = .returned (.tuple #[.slice none 0 0, .int .i64 13])) ∨
   (validLk r = true ∧ ∃ (A : Option Addr) (n c : Nat), e = .returned (.tuple #[.slice A n c, .int .i64 0]) ∧ n = r.length ∧ n ≤ c ∧ c ≤ 9223372036854775807 ∧ Ro w' M (LksIn A n r)))))

set_option maxHeartbeats 4000000 in
set_option maxRecDepth 100000 in
theorem radd_any (M : Nat → Prop) (w : World) (hM : ∀ b, M b → b < w.heap.size) (A : Option Addr) (n c : Nat) (l : List Lk) (nm : ByteArray) (A1 : Option Addr) (n1 c1 : Nat) (ps : List ByteArray) (A2 : Option Addr) (n2 c2 : Nat) (fs : List ByteArray) (ns : List ByteArray)
  (hD : Ro w M (LksIn A n l)) (hP : Ro w M (StrsIn A1 n1 ps)) (hF : Ro w M (StrsIn A2 n2 fs)) (hl : NamesIn ns l) (hnm : nm ∈ ns) (hps : ∀ s ∈ ps, s ∈ ns) (hfs : ∀ s ∈ fs, s ∈ ns) (hB : ns.length * ns.length ≤ 1000000) (hn : n ≤ 1000000) (hn1 : n1 ≤ 1000000) (hn2 : n2 ≤ 1000000) :
  Calls Tryz.prog 48 #[.slice A n c, .string nm, .slice A1 n1 c1, .slice A2 n2 c2] w fun e w' => AddRet w M l nm ps fs e w' := by
 have HL := hid hD.now.len
 have HP := hid hP.now.len
 have HF := hid hF.now.len
 have K0 := ((((Hold.start M w hM).add (hF.less (by simp [Mut]))).add (hP.less (by simp [Mut, Hp.foot]))).add (hD.less (by simp [Mut, Hp.foot])))
 cases hv : validLk l
 ·have HV := hid hv; clear hv
  go_enter Tryz.func48, Tryz.ntmps48
  go_wp2_with fail
  refine (rvalidLk_any (Mut M _) _ K0.mutLt A n c l (K0.ro 0 rfl) hn).mono ?_
  rintro e w1 ⟨rfl, b1⟩
  rw [HV.out]
  have K1 := K0.call b1
  go_wp2_with fail
  go_ret2
  exact ⟨K1.below, .inl ⟨HV.out, rfl⟩⟩
 have HV := hid hv; clear hv
 have HS := hid (valid_sorted HV.out)
 have HNM := hid (And.intro hl (And.intro hnm (And.intro hps hfs)))
 clear hl hnm hps hfs
 go_enter Tryz.func48, Tryz.ntmps48
 go_wp2_with fail
 refine (rvalidLk_any (Mut M _) _ K0.mutLt A n c l (K0.ro 0 rfl) hn).mono ?_
 rintro e w1 ⟨rfl, b1⟩
 rw [HV.out]
 have K1 := (K0.call b1).nil 194 2
 have r1 := hid (K1.ro 1 rfl).now
 clear b1
 go_wp2_with (at_builtin; go_must (refine wpList_appAllH K1 0 rfl Tryz.elLink r1.out rfl (.const (.slice none 0 0)) (.tmp 18) rfl rfl rfl (one_lks _) (by omega) (by omega) ?_); intro C' cap' w2 hc1 hc2 K2)
 have K3 := K2.sealRow 0 rfl
 simp only [List.set_cons_zero, Nat.zero_add, List.nil_append] at K3 hc1
 have K3 : Hold M none w w2 [.ro (LksIn C' n l), .ro (LksIn A n l), .ro (StrsIn A1 n1 ps), .ro (StrsIn A2 n2 fs)] := K3
 have K4 := K3.drop (List.Sublist.cons_cons _ (List.sublist_cons_self _ _))
 clear K1 K2 K3 r1
 go_loopw [10, 22] (fun v i wr => ∃ (A' : Option Addr) (n' c' k : Nat) (o : List Lk), v = .slice A' n' c' ∧ k ≤ n1 ∧ i = .int .i64 k ∧ n' ≤ c' ∧ c' ≤ 9223372036854775807 ∧ Hid (o = insMany (fun s => ⟨nm, s⟩) l (ps.take k)) ∧ Hold M none w wr [.ro (LksIn A' n' o), .ro (StrsIn A1 n1 ps), .ro (StrsIn A2 n2 fs)]) (fun _ i _ => n1 - (intOf i).toNat)
 case atStart => exact ⟨_, _, _, 0, l, by first | rfl | simp, by omega, rfl, hc1, hc2, hid rfl, K4⟩
 case round =>
  clear K4 hc1 hc2
  obtain ⟨A', n', c', k, o, rfl, hk, rfl, hc', hcm', HO, H⟩ := hrel
  have hn'l := (H.ro 0 rfl).now.len
  have HSO := hid (show LkSorted o ∧ NamesIn ns o by rw [HO.out]; exact ⟨(insMany_spec _ _ l HS.out).1, insMany_names HS.out HNM.out.1 fun s hs => ⟨HNM.out.2.1, HNM.out.2.2.1 s (List.mem_of_mem_take hs)⟩⟩)
  have hn'B : n' ≤ 1000000 := by rw [← hn'l]; exact Nat.le_trans (NamesIn.len HSO.out.2 HSO.out.1) hB
  clear hn'l
  by_cases hlt : k < n1
  ·have hd : decide ((k : Int) < (n1 : Int)) = true := by simp; omega
   obtain ⟨s, hs⟩ := get_of HP.out hlt
   obtain ⟨g, oo, rfl, hb, c0⟩ := (H.ro 1 rfl).now.at_ hs
   have HX := hid (insMany_succ (fun s => (⟨nm, s⟩ : Lk)) l hs); clear hs
   go_wp2_with fail
   refine (insert_any (Mut M _) _ H.mutLt A' n' c' o ⟨nm, s⟩ (H.ro 0 rfl) hn'B).mono ?_
   rintro e w5 ⟨A5, n5, c5, rfl, h51, h52, h53, r5, b5⟩
   have H51 := hid h51; clear h51
   have K5 := ((H.call b5).add r5).drop (List.Sublist.cons_cons _ (List.sublist_cons_self _ _))
   clear r5 b5
   go_wp2_with fail
   go_roundw
   case rel => exact ⟨A5, n5, c5, k + 1, _, rfl, by omega, by go_num, h52, h53, hid (by rw [HX.out, ← HO.out]), K5⟩
   case measure => simp [intOf]; omega
  ·obtain rfl : n1 = k := by omega
   have HO1 := hid (show o = insMany (fun s => ⟨nm, s⟩) l ps by have := HO.out; rwa [List.take_of_length_le (by rw [HP.out]; omega)] at this)
   have HSO1 := HSO
   clear HO hlt
   have KN := H.drop (List.Sublist.cons_cons _ (List.sublist_cons_self _ _))
   clear H hn'B HSO
   go_wp2_with fail
   go_loopw [10, 34] (fun v i wr => ∃ (A' : Option Addr) (n' c' k : Nat) (o2 : List Lk), v = .slice A' n' c' ∧ k ≤ n2 ∧ i = .int .i64 k ∧ n' ≤ c' ∧ c' ≤ 9223372036854775807 ∧ Hid (o2 = insMany (fun s => ⟨s, nm⟩) o (fs.take k)) ∧ Hold M none w wr [.ro (LksIn A' n' o2), .ro (StrsIn A2 n2 fs)]) (fun _ i _ => n2 - (intOf i).toNat)
   case atStart => exact ⟨_, _, _, 0, o, rfl, by omega, rfl, hc', hcm', hid rfl, KN⟩
   case round =>
    clear KN hc' hcm'
    obtain ⟨A', n', c', k, o2, rfl, hk, rfl, hc', hcm', HO, H⟩ := hrel
    have hn'l := (H.ro 0 rfl).now.len
    have HSO := hid (show LkSorted o2 ∧ NamesIn ns o2 by rw [HO.out]; exact ⟨(insMany_spec _ _ o HSO1.out.1).1, insMany_names HSO1.out.1 HSO1.out.2 fun s hs => ⟨HNM.out.2.2.2 s (List.mem_of_mem_take hs), HNM.out.2.1⟩⟩)
    have hn'B : n' ≤ 1000000 := by rw [← hn'l]; exact Nat.le_trans (NamesIn.len HSO.out.2 HSO.out.1) hB
    clear hn'l
    by_cases hlt : k < n2
    ·have hd : decide ((k : Int) < (n2 : Int)) = true := by simp; omega
     obtain ⟨s, hs⟩ := get_of HF.out hlt
     obtain ⟨g, oo, rfl, hb, c0⟩ := (H.ro 1 rfl).now.at_ hs
     have HX := hid (insMany_succ (fun s => (⟨s, nm⟩ : Lk)) o hs); clear hs
     go_wp2_with fail
     refine (insert_any (Mut M _) _ H.mutLt A' n' c' o2 ⟨s, nm⟩ (H.ro 0 rfl) hn'B).mono ?_
     rintro e w5 ⟨A5, n5, c5, rfl, h51, h52, h53, r5, b5⟩
     have H51 := hid h51; clear h51
     have K5 := ((H.call b5).add r5).drop (List.Sublist.cons_cons _ (List.sublist_cons_self _ _))
     clear r5 b5
     go_wp2_with fail
     go_roundw
     case rel => exact ⟨A5, n5, c5, k + 1, _, rfl, by omega, by go_num, h52, h53, hid (by rw [HX.out, ← HO.out]), K5⟩
     case measure => simp [intOf]; omega
    ·obtain rfl : n2 = k := by omega
     have HO2 := hid (show o2 = addS l nm ps fs by have := HO.out; rw [List.take_of_length_le (by rw [HF.out]; omega), HO1.out] at this; exact this)
     clear HO hlt
     go_wp2_with fail
     refine (closure_any (Mut M _) _ H.mutLt A' n' c' o2 ns (H.ro 0 rfl) HSO.out.1 HSO.out.2 hB hc' hcm').mono ?_
     rintro e w6 ⟨r, hr, A6, n6, c6, rfl, h61, h62, h63, r6, b6⟩
     have hn6 : n6 ≤ 1000000 := by rw [h61]; exact Nat.le_trans (NamesIn.len (fun z hz => Tr.names HSO.out.2 ((hr.2 z.a z.b).1 hz)) hr.1) hB
     have HR := hid (show ClosOf (addS l nm ps fs) r by rw [← HO2.out]; exact hr)
     have H61 := hid h61
     have K6 := (H.call b6).add r6
     clear r6 b6 hr h61
     cases hvr : validLk r
     ·have HVR := hid hvr; clear hvr
      go_wp2_with fail
      refine (rvalidLk_any (Mut M _) _ K6.mutLt A6 n6 c6 r (K6.ro 0 rfl) hn6).mono ?_
      rintro e w7 ⟨rfl, b7⟩
      rw [HVR.out]
      have K7 := K6.call b7
      clear b7
      go_wp2_with fail
      go_ret2
      exact ⟨K7.below, .inr ⟨HV.out, r, HR.out, .inl ⟨HVR.out, rfl⟩⟩⟩
     ·have HVR := hid hvr; clear hvr
      go_wp2_with fail
      refine (rvalidLk_any (Mut M _) _ K6.mutLt A6 n6 c6 r (K6.ro 0 rfl) hn6).mono ?_
      rintro e w7 ⟨rfl, b7⟩
      rw [HVR.out]
      have K7 := K6.call b7
      clear b7
      go_wp2_with fail
      go_ret2
      exact ⟨K7.below, .inr ⟨HV.out, r, HR.out, .inr ⟨HVR.out, A6, n6, c6, rfl, H61.out, h62, h63, K7.roOut 0 rfl⟩⟩⟩
end Go.Proofs.YtdkebcfkchhlmaaGreatDoor

namespace Go.Proofs.YtdkebcfkchhlmaaGreatDoor
open Go.RowKit
set_option linter.unusedVariables false
set_option linter.unusedSimpArgs false
/-- the names of triggers -/
def trigN (j : Nat) : ByteArray := ⟨#[UInt8.ofNat (97 + j), UInt8.ofNat (97 + j)]⟩
def TNm (w : World) : Prop := ∀ j, j < 8 → w.cell? ⟨0, j, none⟩ = some (.string (trigN j))
def tgCells (l : List Tg) : List Value := l.flatMap Tg.cells
def TgsIn (d : Nat) (A : Option Addr) (n : Nat) (l : List Tg) (w : World) : Prop := SlR 11 A n (tgCells l) w ∧ ∀ t ∈ l, TgIn d t w
def TgsOf (d : Nat) (l : List Tg) (w : World) : Prop := ∀ t ∈ l, TgIn d t w
/-- the triggers drawn: their names are the first ones -/
def TgsOk (l : List Tg) : Prop := (∀ i t, l[i]? = some t → t.name = trigN i) ∧ ∀ t ∈ l, TgGd 5 t ∧ OneName t.tab
theorem tgsOk_nil : TgsOk [] := ⟨fun i t h => by simp at h, fun t h => (nomatch h)⟩
theorem TgsOk.snoc {l : List Tg} {t : Tg} (h : TgsOk l) (h1 : t.name = trigN l.length) (h2 : TgGd 5 t) (h3 : OneName t.tab) : TgsOk (l ++ [t]) := ⟨fun i x hx => by
 rcases Nat.lt_or_ge i l.length with hi | hi
 ·rw [List.getElem?_append_left hi] at hx
  exact h.1 i x hx
 ·rw [List.getElem?_append_right hi] at hx
  rcases Nat.eq_zero_or_pos (i - l.length) with h0 | h0
  ·rw [h0] at hx
   obtain rfl : t = x := by simpa using hx
   rw [h1]; congr 1; omega
  ·rw [List.getElem?_eq_none (by simp; omega)] at hx
   exact (nomatch hx), fun x hx => by
 rcases List.mem_append.1 hx with hx | hx
 ·exact h.2 x hx
 ·simp only [List.mem_cons, List.not_mem_nil, or_false] at hx
  subst hx
  exact ⟨h2, h3⟩⟩
theorem addS_namesT {l : List Lk} {nm : ByteArray} {ps fs ns : List ByteArray} (hl : LkSorted l) (h : NamesIn ns l) (hn : nm ∈ ns) (hp : ∀ s ∈ ps, s ∈ ns) (hf : ∀ s ∈ fs, s ∈ ns) : NamesIn ns (addS l nm ps fs) :=
 insMany_names (insMany_spec _ _ l hl).1 (insMany_names hl h fun y hy => ⟨hn, hp y hy⟩) fun y hy => ⟨hf y hy, hn⟩
theorem clos_namesT {l r : List Lk} {ns : List ByteArray} (h : ClosOf l r) (hn : NamesIn ns l) : NamesIn ns r := fun z hz => Tr.names hn ((h.2 z.a z.b).1 hz)
/-- an order whose names are few -/
def OrdOk (B : Nat) (ol : List Lk) : Prop := validLk ol = true ∧ LkSorted ol ∧ ∃ ns : List ByteArray, ns.length ≤ 17 * B ∧ NamesIn ns ol
theorem OrdOk.le {B B' : Nat} {ol : List Lk} (h : OrdOk B ol) (hb : B ≤ B') : OrdOk B' ol := by
 obtain ⟨h1, h2, ns, h3, h4⟩ := h
 exact ⟨h1, h2, ns, by omega, h4⟩
def TabSl (M : Nat → Prop) (u : Value) (w : World) : Prop := ∃ (A : Option Addr) (c : Nat) (l : List Te), u = .slice A 3 c ∧ (∀ x ∈ l, 1 ≤ x.n ∧ x.n ≤ 4) ∧ Ro w M (TesIn A 3 l)
theorem tabSl_mono {M : Nat → Prop} (u : Value) (w w' : World) (hr : RM M w w') (h : TabSl M u w) : TabSl M u w' := by
 obtain ⟨A, c, l, h1, h2, h3⟩ := h
 exact ⟨A, c, l, h1, h2, hr.ro h3⟩
theorem flat_strc : ∀ l : List ByteArray, l.flatMap strc = strsCells l
 | [] => rfl
 | x :: l => by
  have ih := flat_strc l
  simp only [List.flatMap_cons, strsCells, List.map_cons, strc, List.cons_append, List.nil_append] at ih ⊢
  rw [← ih]
theorem strsIn_of {A : Option Addr} {n : Nat} {l : List ByteArray} {w : World} (h : SlR 1 A n (l.flatMap strc) w) : StrsIn A n l w := by
 rw [flat_strc] at h
 exact h
def TrgsRet (w : World) (T : Nat) (M : Nat → Prop) (N : Nat) (e : Ending) (w' : World) : Prop := ∃ (A : Option Addr) (n c : Nat) (l : List Tg) (O : Option Addr) (on oc : Nat) (ol : List Lk), e = .returned (.tuple #[.slice A n c, .slice O on oc]) ∧ l.length = n ∧ n ≤ N ∧ n ≤ c ∧ c ≤ 9223372036854775807 ∧ TgsOk l ∧ OrdOk N ol ∧ Ro w' M (TgsIn 5 A n l) ∧ Ro w' M (LksIn O on ol) ∧ Tp w' T ∧ w.grownBy w' (some T)
theorem tgCells_snoc (l : List Tg) (x : Tg) : tgCells (l ++ [x]) = tgCells l ++ x.cells := by simp [tgCells]
theorem Tryz.elTg : ElemT Tryz.prog 25 40 11 200 (.agg #[.string ⟨#[]⟩, .string ⟨#[]⟩, .bool false, .int .i64 0, .slice none 0 0, .bool false, .slice none 0 0, .slice none 0 0, .slice none 0 0, .slice none 0 0, .slice none 0 0]) := ⟨Tryz.underlying25, by kernel_rfl, rfl, by omega⟩
set_option maxHeartbeats 16000000 in
set_option maxRecDepth 100000 in
theorem trigs_any (M : Nat → Prop) (T : Nat) (w : World) (hM : ∀ b, M b → b < w.heap.size) (ht : Tp w T) (hMT : ∀ b, M b → T ≤ b) (N : Nat) (hN : N ≤ 8) (hW : Ro w (Mut M [.tp T]) Wds) (hT : 1 < T) (hTN : Ro w (Mut M [.tp T]) TNm) : Calls Tryz.prog 10 #[.pointer (some ⟨T, 0, none⟩), .int .i64 N] w fun e w' => TrgsRet w T M N e w' := by
 have K0 := ((((Hold.startT M w T hM ht hMT).add hW).add (hTN.less (by simp [mut_cons, Mut, Hp.foot]))).add (S := TgsOf 5 []) (fun w2 _ _ x hx => (nomatch hx))).nil 40 11
 clear hW hTN
 have hw1 : IntKind.i64.wrap ((N : Int) + 1) = ((N + 1 : Nat) : Int) := by rw [IntWalk.i64_in _ (by omega)]; omega
 go_enter Tryz.func10, Tryz.ntmps10
 go_wp2_with fail
 refine (next_any T (N + 1) _ (K0.tp_ 4 rfl) (by omega) (by omega)).mono ?_
 rintro e w1 ⟨r, rfl, r0, r1, t1, g1⟩
 have K1 := Hold.callT K0 4 rfl g1 t1
 clear K0 t1 g1 hw1
 obtain ⟨q, rfl⟩ : ∃ q : Nat, r = (q : Int) := ⟨r.toNat, by omega⟩
 have hq : q ≤ N := by omega
 clear r0 r1
 go_wp2_with fail
 go_loopw [6, 7, 8] (fun lv ov iv wr => ∃ (i k cap : Nat) (A : Option Addr) (l : List Tg) (O : Option Addr) (on oc : Nat) (ol : List Lk), i ≤ q ∧ k + i ≤ q ∧ l.length = k ∧ lv = .slice A k cap ∧ ov = .slice O on oc ∧ iv = .int .i64 i ∧ Hid (TgsOk l ∧ OrdOk (q - i) ol) ∧ Ro wr (Mut M [.own 40 11 (.slice A k cap) k (tgCells l), .ro (TgsOf 5 l), .ro TNm, .ro Wds, .tp T]) (LksIn O on ol) ∧ Hold M (some T) w wr [.own 40 11 (.slice A k cap) k (tgCells l), .ro (TgsOf 5 l), .ro TNm, .ro Wds, .tp T]) (fun _ _ iv _ => (intOf iv).toNat)
 case atStart => exact ⟨q, 0, 0, none, [], none, 0, 0, [], by omega, by omega, rfl, rfl, rfl, rfl, hid ⟨tgsOk_nil, by
  refine ⟨by decide, List.Pairwise.nil, [], by simp, fun z hz => (nomatch hz)⟩⟩, fun w2 _ _ => slr_nil 2 w2, K1⟩
 case round =>
  clear K1
  obtain ⟨i, k, cap, A, l, O, on, oc, ol, hi, hki, hlk, rfl, rfl, rfl, HOK, ho, H⟩ := hrel
  have HLK := hid hlk
  clear hlk
  rcases Nat.eq_zero_or_pos i with h0 | h0
  ·subst h0
   have hcap := own_caps (H.get 0 rfl)
   have KZ := H.sealRow 0 rfl
   simp only [List.set_cons_zero] at KZ
   have hR : Ro _ _ (TgsIn 5 A k l) := ((KZ.ro 0 rfl).and (KZ.ro 1 rfl)).imp fun w2 h2 => ⟨h2.1, h2.2⟩
   have HR := hid (hR.less zm)
   have HO := hid (ho.less zm)
   have HT := hid (And.intro (KZ.tp_ 4 rfl) KZ.grow)
   clear KZ H hR ho
   go_wp2_with fail
   go_ret2
   exact ⟨A, k, cap, l, O, on, oc, ol, rfl, HLK.out, by omega, hcap.1, hcap.2.1, HOK.out.1, (by
    obtain ⟨h1, h2, ns, h3, h4⟩ := HOK.out.2
    exact ⟨h1, h2, ns, by omega, h4⟩), HR.out, HO.out, HT.out.1, HT.out.2⟩
  ·have hi0 : (0 : Int) < (i : Int) := by omega
   have hk8 : (k : Int) < 8 := by omega
   have hwi : IntKind.i64.wrap ((i : Int) - 1) = ((i - 1 : Nat) : Int) := by rw [IntWalk.i64_in _ (by omega)]; omega
   have c0 := (H.ro 2 rfl).now k (by omega)
   have hcap := own_caps (H.get 0 rfl)
   have KL := H.add ho
   have hsl : Ro wr (fun b => b = T) (SlR 11 A k (tgCells l)) := by
    have KZ := H.sealRow 0 rfl
    simp only [List.set_cons_zero] at KZ
    exact (KZ.ro 0 rfl).less (fun b hb => by subst hb; exact (mut_tpG (i := 4) rfl) _ (by simp [mut_cons, Hp.foot]))
   clear H ho
   go_wp2_with fail
   clear c0
   refine (trigger_any (Mut M _) T _ KL.mutLt (KL.tp_ 5 rfl) (KL.get 5 rfl).2 (trigN k) A k cap l hsl (by omega) ((KL.ro 4 rfl).less (mut_tpG (i := 5) rfl)) hT).mono ?_
   rintro e w2 ⟨x, rfl, hxg, hxn, hxt, rx, t2, g2⟩
   obtain ⟨xn, xt, xb, xe, ⟨oA, onn, occ, oll⟩, xch, ⟨pA, pn, pc, pl⟩, ⟨qA, qn, qc, ql⟩, ⟨rA, rn, rc, rl⟩, ⟨kA, kn, kc, kl⟩, ⟨aA, an, ac, al⟩⟩ := x
   have HXG := hid hxg
   have HXT := hid hxt
   have hxn : xn = trigN k := hxn
   subst hxn
   have KA := ((Hold.callT KL 5 rfl g2 t2).add rx).alloc_cst #[.string (trigN k), .string xt, .bool xb, .int .i64 xe, .slice oA onn occ, .bool xch, .slice pA pn pc, .slice qA qn qc, .slice rA rn rc, .slice kA kn kc, .slice aA an ac] 40
   clear KL hsl g2 t2 rx hxg hxt
   obtain ⟨gt, hgt⟩ : ∃ g, g = w2.heap.size := ⟨_, rfl⟩
   rw [← hgt] at KA
   rw [show (Tg.val ⟨trigN k, xt, xb, xe, ⟨oA, onn, occ, oll⟩, xch, ⟨pA, pn, pc, pl⟩, ⟨qA, qn, qc, ql⟩, ⟨rA, rn, rc, rl⟩, ⟨kA, kn, kc, kl⟩, ⟨aA, an, ac, al⟩⟩) = .agg #[.string (trigN k), .string xt, .bool xb, .int .i64 xe, .slice oA onn occ, .bool xch, .slice pA pn pc, .slice qA qn qc, .slice rA rn rc, .slice kA kn kc, .slice aA an ac] from rfl]
   obtain ⟨KM, hKM, K6⟩ := KA.name
   have H1 : ∀ wv : World, Hold M (some T) w wv KM → Blk wv gt 40 #[.string (trigN k), .string xt, .bool xb, .int .i64 xe, .slice oA onn occ, .bool xch, .slice pA pn pc, .slice qA qn qc, .slice rA rn rc, .slice kA kn kc, .slice aA an ac] := fun wv h => by rw [hKM] at h; exact h.cst_ 0 rfl
   have H2 : ∀ wv : World, Hold M (some T) w wv KM → Ro wv (Mut M KM) (TgIn 5 ⟨trigN k, xt, xb, xe, ⟨oA, onn, occ, oll⟩, xch, ⟨pA, pn, pc, pl⟩, ⟨qA, qn, qc, ql⟩, ⟨rA, rn, rc, rl⟩, ⟨kA, kn, kc, kl⟩, ⟨aA, an, ac, al⟩⟩) := fun wv h => by rw [hKM] at h ⊢; exact h.ro 1 rfl
   have HH1 := hid H1
   have HH2 := hid H2
   have HKM := hid hKM
   clear hKM H1 H2 KA
   go_upto_region 7 with fail
   rw [← hgt]
   have HGT := hid hgt
   clear hgt
   refine wp_region_any (by kernel_rfl) ?_
   refine wpAny_hold 3 51 (KM) (spL [(28, TabSl (Mut M KM)), (29, fun u _ => ∃ c : Int, u = .int .i64 c)]) (by kernel_rfl) (by kernel_rfl) (by kernel_rfl) rfl ?_ (K6.drew) ?_
   ·exact stays_cons tabSl_mono (stays_cons (fun _ _ _ _ h => h) (stays_nil _))
   simp only [zd, Act.put, List.getElem_toArray, List.getElem_cons_zero, List.getElem_cons_succ, zl]
   refine dw_val rfl rfl rfl ?_; apply Exists.intro; refine ⟨fun wv HC => ?_, ?_⟩
   ·obtain q0 := (HH1.out _ HC).cell 0; obtain q1 := (HH1.out _ HC).cell 1; obtain q2 := (HH1.out _ HC).cell 2; obtain q3 := (HH1.out _ HC).cell 3; obtain q4 := (HH1.out _ HC).cell 4; obtain q5 := (HH1.out _ HC).cell 5; obtain q6 := (HH1.out _ HC).cell 6; obtain q7 := (HH1.out _ HC).cell 7; obtain q8 := (HH1.out _ HC).cell 8; obtain q9 := (HH1.out _ HC).cell 9; obtain q10 := (HH1.out _ HC).cell 10; go_simp <;> rfl
   simp only [Act.put, zl]
   refine dw_callR 28 (TabSl (Mut M KM)) (f := 47) (args := #[.slice none 0 0]) rfl rfl rfl rfl (fun wv => ?_) (fun wv HC hrm hD => ?_) ?_
   ·go_simp <;> rfl
   ·refine (tablesOf_any (Mut M KM) wv HC.mutLt).mono ?_
    rintro e w5 ⟨yA, yc, yl, rfl, hyl, ry, b5⟩
    exact ⟨_, rfl, ⟨yA, yc, yl, rfl, hyl, ry⟩, HC.call b5, RM.below b5⟩
   rintro u wx HCx ⟨yA, yc, yl, rfl, hyl, ry⟩
   clear HCx hyl ry
   simp only [Act.put, zl]
   refine dw_callR 29 (fun u _ => ∃ c : Int, u = .int .i64 c) (f := 46) (args := #[.agg #[.string (trigN k), .string xt, .bool xb, .int .i64 xe, .slice oA onn occ, .bool xch, .slice pA pn pc, .slice qA qn qc, .slice rA rn rc, .slice kA kn kc, .slice aA an ac], .slice yA 3 yc]) rfl rfl rfl rfl (fun wv => ?_) (fun wv HC hrm hD => ?_) ?_
   ·go_simp <;> rfl
   ·have h1 : TabSl (Mut M KM) (.slice yA 3 yc) wv := deps_at hD 1 rfl (by kernel_rfl) rfl rfl
    obtain ⟨yA', yc', yl', e', hyl, ry⟩ := h1
    obtain ⟨rfl, rfl⟩ : yA = yA' ∧ yc = yc' := by injection e' with e1 e2 e3; exact ⟨e1, e3⟩
    refine (rtrgCheck_ret 5 (by omega) ⟨trigN k, xt, xb, xe, ⟨oA, onn, occ, oll⟩, xch, ⟨pA, pn, pc, pl⟩, ⟨qA, qn, qc, ql⟩, ⟨rA, rn, rc, rl⟩, ⟨kA, kn, kc, kl⟩, ⟨aA, an, ac, al⟩⟩ yA 3 yc yl' wv ((HH2.out _ HC).less zn) HXG.out (ry.less zn) (by omega) (fun x hx => ⟨(hyl x hx).1, by have := (hyl x hx).2; omega⟩)).mono ?_
    rintro e w5 ⟨cd, rfl, b5⟩
    exact ⟨_, rfl, ⟨_, rfl⟩, HC.call b5, RM.below b5⟩
   rintro u wx HCx ⟨cd, rfl⟩
   clear HCx
   simp only [Act.put, zl]
   refine rel_nil ?_
   rintro wx3 HX
   rintro _hrm HGW
   clear HGW _hrm
   rw [HKM.out] at HX
   clear HH1 HH2 HKM K6
   have F4 := HX.facts
   simp only [factsL, cellsF, Nat.reduceAdd, zf, zl] at F4
   have HQ := hid (show k + (i - 1) ≤ q ∧ i - 1 ≤ q by omega)
   obtain ⟨z, hz⟩ : ∃ z : Bool, (cd != 0) = z := ⟨_, rfl⟩
   cases z
   ·have HPL := hid (show pl.length = pn from SlP.In.len (s := ⟨pA, pn, pc, pl⟩) (k := 1) (cel := strc) (P := fun _ _ => True) (HX.ro 1 rfl).now.2.1 (by omega) (fun _ => rfl))
    have HQL := hid (show ql.length = qn from SlP.In.len (s := ⟨qA, qn, qc, ql⟩) (k := 1) (cel := strc) (P := fun _ _ => True) (HX.ro 1 rfl).now.2.2.1 (by omega) (fun _ => rfl))
    have HOL := hid (show ol.length = on from (show LksIn O on ol _ from (HX.ro 2 rfl).now).len)
    obtain ⟨hv, hs, ns, h3, h4⟩ := HOK.out.2
    have HNS := hid (show ∃ NS : List ByteArray, NS.length ≤ 17 * (q - (i - 1)) ∧ NamesIn NS ol ∧ trigN k ∈ NS ∧ (∀ s ∈ pl, s ∈ NS) ∧ ∀ s ∈ ql, s ∈ NS from by
     refine ⟨trigN k :: (pl ++ (ql ++ ns)), ?_, ?_, by simp, fun s hs => by simp [hs], fun s hs => by simp [hs]⟩
     ·have e1 : pl.length ≤ 8 := HXG.out.p.2.1
      have e2 : ql.length ≤ 8 := HXG.out.f.2.1
      simp only [List.length_cons, List.length_append]
      omega
     ·intro z hz
      have := h4 z hz
      exact ⟨by simp [this.1], by simp [this.2]⟩)
    have HSO := hid hs
    have HON := hid (show on ≤ 1000000 from by
     have e := h4.len hs
     have e2 : ns.length ≤ 136 := by omega
     have e3 := Nat.mul_le_mul e2 e2
     rw [← HOL.out]
     omega)
    clear hv hs h3 h4
    obtain ⟨NS, n1, n2, n3, n4, n5⟩ := HNS.out
    have HN1 := hid n1
    have HN2 := hid n2
    have HN3 := hid n3
    have HN4 := hid n4
    have HN5 := hid n5
    clear HNS n1 n2 n3 n4 n5
    go_wp2_with fail
    refine (radd_any (Mut M _) _ HX.mutLt O on oc ol (trigN k) pA pn pc pl qA qn qc ql NS (HX.ro 2 rfl) ((HX.ro 1 rfl).imp fun w2 h2 => strsIn_of h2.2.1.1) ((HX.ro 1 rfl).imp fun w2 h2 => strsIn_of h2.2.2.1.1) HN2.out HN3.out HN4.out HN5.out (by
     have e2 : NS.length ≤ 136 := by have := HN1.out; omega
     have e3 := Nat.mul_le_mul e2 e2
     omega) HON.out (by have e1 : pl.length ≤ 8 := HXG.out.p.2.1; have := HPL.out; omega) (by have e1 : ql.length ≤ 8 := HXG.out.f.2.1; have := HQL.out; omega)).mono ?_
    rintro e w9 ⟨b9, h9⟩
    rcases h9 with ⟨-, rfl⟩ | ⟨-, r, hr, ⟨-, rfl⟩ | ⟨hvr, RA, rn2, rc2, rfl, hrn, hrc, hrc2, rr⟩⟩
    ·have K9 : Hold M (some T) w w9 [.ro (LksIn O on ol), .own 40 11 (.slice A k cap) k (tgCells l), .ro (TgsOf 5 l), .ro TNm, .ro Wds, .tp T] := (HX.call b9).pick [2, 3, 4, 5, 6, 7] (by decide) rfl
     clear HX F4 b9
     go_wp2_with fail
     go_roundw
     case rel => exact ⟨i - 1, k, cap, A, l, O, on, oc, ol, HQ.out.2, HQ.out.1, HLK.out, rfl, rfl, by go_num, hid ⟨HOK.out.1, HOK.out.2.le (by omega)⟩, (K9.ro 0 rfl).less (fun b hb => mut_cons.2 (.inr hb)), K9.drop (List.sublist_cons_self _ _)⟩
     case measure => simp [intOf]; omega
    ·have K9 : Hold M (some T) w w9 [.ro (LksIn O on ol), .own 40 11 (.slice A k cap) k (tgCells l), .ro (TgsOf 5 l), .ro TNm, .ro Wds, .tp T] := (HX.call b9).pick [2, 3, 4, 5, 6, 7] (by decide) rfl
     clear HX F4 b9 hr
     go_wp2_with fail
     go_roundw
     case rel => exact ⟨i - 1, k, cap, A, l, O, on, oc, ol, HQ.out.2, HQ.out.1, HLK.out, rfl, rfl, by go_num, hid ⟨HOK.out.1, HOK.out.2.le (by omega)⟩, (K9.ro 0 rfl).less (fun b hb => mut_cons.2 (.inr hb)), K9.drop (List.sublist_cons_self _ _)⟩
     case measure => simp [intOf]; omega
    ·have K9 := (HX.call b9).add rr
     have HR := hid (And.intro hr hvr)
     clear HX F4 b9 rr hr hvr hrn hrc hrc2
     have F9 := K9.facts
     simp only [factsL, cellsF, Nat.reduceAdd, zf, zl] at F9
     go_wp2_with (at_builtin; go_must (refine wpList_appH K9 4 rfl Tryz.elTg #[.string (trigN k), .string xt, .bool xb, .int .i64 xe, .slice oA onn occ, .bool xch, .slice pA pn pc, .slice qA qn qc, .slice rA rn rc, .slice kA kn kc, .slice aA an ac] rfl (.tmp 45) (.tmp 47) rfl rfl _ (by first | rfl | simp) rfl rfl (by intro u hu; simp at hu; rcases hu with rfl | rfl | rfl | rfl | rfl | rfl | rfl | rfl | rfl | rfl | rfl <;> rfl) (by omega) (by omega) ?_); intro gA capA wA hcA hmA KB; simp only [zl] at KB)
     rw [show tgCells l ++ (#[.string (trigN k), .string xt, .bool xb, .int .i64 xe, .slice oA onn occ, .bool xch, .slice pA pn pc, .slice qA qn qc, .slice rA rn rc, .slice kA kn kc, .slice aA an ac] : Array Value).toList = tgCells (l ++ [⟨trigN k, xt, xb, xe, ⟨oA, onn, occ, oll⟩, xch, ⟨pA, pn, pc, pl⟩, ⟨qA, qn, qc, ql⟩, ⟨rA, rn, rc, rl⟩, ⟨kA, kn, kc, kl⟩, ⟨aA, an, ac, al⟩⟩]) from (tgCells_snoc l ⟨trigN k, xt, xb, xe, ⟨oA, onn, occ, oll⟩, xch, ⟨pA, pn, pc, pl⟩, ⟨qA, qn, qc, ql⟩, ⟨rA, rn, rc, rl⟩, ⟨kA, kn, kc, kl⟩, ⟨aA, an, ac, al⟩⟩).symm] at KB
     have hR : Ro _ _ (TgsOf 5 (l ++ [⟨trigN k, xt, xb, xe, ⟨oA, onn, occ, oll⟩, xch, ⟨pA, pn, pc, pl⟩, ⟨qA, qn, qc, ql⟩, ⟨rA, rn, rc, rl⟩, ⟨kA, kn, kc, kl⟩, ⟨aA, an, ac, al⟩⟩])) := ((KB.ro 5 rfl).and (KB.ro 2 rfl)).imp fun w2 h2 y hy => by
      rcases List.mem_append.1 hy with hy | hy
      ·exact h2.1 y hy
      ·simp only [List.mem_cons, List.not_mem_nil, or_false] at hy
       subst hy
       exact h2.2
     have KC := (KB.swapRo 5 rfl hR).pick [0, 4, 5, 6, 7, 8] (by decide) rfl
     simp only [List.set_cons_zero, List.set_cons_succ, List.filterMap_cons, List.filterMap_nil, List.getElem?_cons_zero, List.getElem?_cons_succ] at KC
     go_roundw
     case rel => exact ⟨i - 1, k + 1, capA, _, l ++ [⟨trigN k, xt, xb, xe, ⟨oA, onn, occ, oll⟩, xch, ⟨pA, pn, pc, pl⟩, ⟨qA, qn, qc, ql⟩, ⟨rA, rn, rc, rl⟩, ⟨kA, kn, kc, kl⟩, ⟨aA, an, ac, al⟩⟩], RA, rn2, rc2, r, HQ.out.2, by have := HQ.out.1; omega, by simp [HLK.out], by first | rfl | trivial, by first | rfl | trivial, by go_num, hid ⟨HOK.out.1.snoc (by rw [HLK.out]) HXG.out HXT.out, ⟨HR.out.2, HR.out.1.1, NS, HN1.out, clos_namesT HR.out.1 (addS_namesT HSO.out HN2.out HN3.out HN4.out HN5.out)⟩⟩, (KC.ro 0 rfl).less (fun b hb => mut_cons.2 (.inr hb)), KC.drop (List.sublist_cons_self _ _)⟩
     case measure => simp [intOf]; omega
   ·go_wp2_with fail
    go_roundw
    have K9 : Hold M (some T) w wx3 [.ro (LksIn O on ol), .own 40 11 (.slice A k cap) k (tgCells l), .ro (TgsOf 5 l), .ro TNm, .ro Wds, .tp T] := HX.pick [2, 3, 4, 5, 6, 7] (by decide) rfl
    case rel => exact ⟨i - 1, k, cap, A, l, O, on, oc, ol, HQ.out.2, HQ.out.1, HLK.out, rfl, rfl, by go_num, hid ⟨HOK.out.1, HOK.out.2.le (by omega)⟩, (K9.ro 0 rfl).less (fun b hb => mut_cons.2 (.inr hb)), K9.drop (List.sublist_cons_self _ _)⟩
    case measure => simp [intOf]; omega
end Go.Proofs.YtdkebcfkchhlmaaGreatDoor

namespace Go.Proofs.YtdkebcfkchhlmaaGreatDoor
open Go.ChangeShapes Go.WideShapes Go.ChangeAt Go.RowKit
set_option linter.unusedVariables false
set_option linter.unusedSimpArgs false

theorem laidMet_tailT {P : Program} {W : World} {x : String × DataW Unit} {rest : List (String × DataW Unit)} (h : laidMet P (x :: rest) W) : laidMet P rest W := by
 obtain ⟨ps, ⟨g, t, cs, fuel, p, q, _, _, _, _, hr, rfl⟩, hn, hb⟩ := h
 exact ⟨q, hr, (List.nodup_append.1 hn).2.1, fun b off hm => hb b off (List.mem_append_right _ hm)⟩
theorem gTn : Tryz.prog.globalNamed "triggerstore/triggerstoreworld.triggerNames" = some 0 := by kernel_rfl
theorem gTnType : (Tryz.prog.globals[0]?).map (·.type) = some 105 := by kernel_rfl
def tnBytes : List (List UInt8) := [[97, 97], [98, 98], [99, 99], [100, 100], [101, 101], [102, 102], [103, 103], [104, 104]]
theorem tn_all : ∀ j, j < 8 → tnBytes[j]? = some (trigN j).data.toList := by decide +kernel
theorem tnm_of_laid {W : World} {rest : List (String × DataW Unit)} (h : laidMet Tryz.prog (("triggerstore/triggerstoreworld.triggerNames", Rows.laid_triggerstore_triggerstoreworld_triggerNames) :: rest) W) : TNm W := by
 intro j hj
 obtain ⟨s, h1, h2, _⟩ := strs_of_head (bs := tnBytes) (rest := rest) gTn gTnType Tryz.underlying105 Tryz.underlying9 (by kernel_rfl) h j hj
 rw [tn_all j hj] at h2
 have h3 := Option.some.inj h2
 have h4 : s = trigN j := Go.WideShapes.bytes_inj h3.symm
 rw [h1, h4]
theorem tn_of_laid {W : World} (h : laidMet Tryz.prog [("triggerstore/triggerstoreworld.triggerNames", Rows.laid_triggerstore_triggerstoreworld_triggerNames), ("triggerstore/triggerstoreworld.words", Rows.laid_triggerstore_triggerstoreworld_words)] W) : Wds W ∧ TNm W := ⟨wds_of_laid (rest := []) (laidMet_tailT h), tnm_of_laid h⟩
/-- A world for the witness of a row: the settled one, both tables laid. -/
noncomputable def tnWorld (os : Os) : World :=
 { wordsWorld os with heap := (wordsWorld os).heap.modify 0 fun
   | .cells _ t frozen => .cells #[.string ⟨#[97, 97]⟩, .string ⟨#[98, 98]⟩, .string ⟨#[99, 99]⟩, .string ⟨#[100, 100]⟩, .string ⟨#[101, 101]⟩, .string ⟨#[102, 102]⟩, .string ⟨#[103, 103]⟩, .string ⟨#[104, 104]⟩] t frozen
   | o => o }
end Go.Proofs.YtdkebcfkchhlmaaGreatDoor

namespace Go.Proofs.YtdkebcfkchhlmaaGreatDoor
open Go.RowKit
set_option linter.unusedVariables false
set_option linter.unusedSimpArgs false
/-- a copy of values -/
def VlcSl (M : Nat → Prop) (l : List Vl) (u : Value) (w : World) : Prop := ∃ (C : Option Addr) (c : Nat), u = .slice C l.length c ∧ l.length ≤ c ∧ c ≤ 9223372036854775807 ∧ Ro w M (VlsIn C l.length l)
theorem vlcSl_mono {M : Nat → Prop} {l : List Vl} (u : Value) (w w' : World) (hr : RM M w w') (h : VlcSl M l u w) : VlcSl M l u w' := by
 obtain ⟨C, c, h1, h2, h3, h4⟩ := h
 exact ⟨C, c, h1, h2, h3, hr.ro h4⟩
def DRowRet (w : World) (M : Nat → Prop) (r : Rw) (e : Ending) (w' : World) : Prop := ∃ (C : Option Addr) (c : Nat), e = .returned (.agg #[.int .i64 r.id, .slice C r.vs.length c]) ∧ r.vs.length ≤ c ∧ c ≤ 9223372036854775807 ∧ Ro w' M (VlsIn C r.vs.length r.vs) ∧ Below w.heap.size w w'
set_option maxHeartbeats 8000000 in
set_option maxRecDepth 100000 in
theorem deepRow_any (M : Nat → Prop) (w : World) (hM : ∀ b, M b → b < w.heap.size) (r : Rw) (hr : Ro w M (VlsIn r.A r.n r.vs)) (hn : r.n ≤ 4398046511104) : Calls Tryz.prog 174 #[.agg #[.int .i64 r.id, .slice r.A r.n r.c]] w fun e w' => DRowRet w M r e w' := by
 obtain ⟨id, A, n, c, vs⟩ := r
 have hn : n ≤ 4398046511104 := hn
 have K0 := (((Hold.start M w hM).add (hr.less (by simp [Mut]))).alloc_cst #[.int .i64 id, .slice A n c] 125).alloc #[.int .i64 0, .slice none 0 0] 125
 rw [World.size_alloc] at K0
 obtain ⟨gx, hgx⟩ : ∃ g, g = w.heap.size := ⟨_, rfl⟩
 rw [← hgx] at K0
 obtain ⟨gr, hgr⟩ : ∃ g, g = gx + 1 := ⟨_, rfl⟩
 rw [← hgr] at K0
 clear hr
 go_enter Tryz.func174, Tryz.ntmps174
 go_upto_region 1 with fail
 rw [← hgx]
 try rw [← hgr]
 have HGX := hid (And.intro hgx hgr)
 clear hgx hgr
 generalize World.alloc _ _ = w1 at K0 ⊢
 obtain ⟨KM, hKM, K6⟩ := K0.name
 have H1 : ∀ wv : World, Hold M none w wv KM → Blk wv gx 125 #[.int .i64 id, .slice A n c] := fun wv h => by rw [hKM] at h; exact h.cst_ 1 rfl
 have H2 : ∀ wv : World, Hold M none w wv KM → Ro wv (Mut M KM) (VlsIn A n vs) := fun wv h => by rw [hKM] at h ⊢; exact h.ro 2 rfl
 have HH1 := hid H1
 have HH2 := hid H2
 have HKM := hid hKM
 clear hKM H1 H2 K0
 refine wp_region_any (by kernel_rfl) ?_
 refine wpAny_hold 6 9 (KM) (spL [(7, VlcSl (Mut M KM) vs)]) (by kernel_rfl) (by kernel_rfl) (by kernel_rfl) rfl ?_ (K6.drew) ?_
 ·exact stays_cons vlcSl_mono (stays_nil _)
 simp only [zd, Act.put, List.getElem_toArray, List.getElem_cons_zero, List.getElem_cons_succ, zl]
 refine dw_val rfl rfl rfl ?_; apply Exists.intro; refine ⟨fun wv HC => ?_, ?_⟩
 · go_simp <;> rfl
 simp only [Act.put, zl]
 refine dw_val rfl rfl rfl ?_; apply Exists.intro; refine ⟨fun wv HC => ?_, ?_⟩
 ·have q0 := (HH1.out _ HC).cell 0; go_simp <;> rfl
 simp only [Act.put, zl]
 refine dw_val rfl rfl rfl ?_; apply Exists.intro; refine ⟨fun wv HC => ?_, ?_⟩
 · go_simp <;> rfl
 simp only [Act.put, zl]
 refine dw_val rfl rfl rfl ?_; apply Exists.intro; refine ⟨fun wv HC => ?_, ?_⟩
 ·have q0 := (HH1.out _ HC).cell 1; go_simp <;> rfl
 simp only [Act.put, zl]
 refine dw_callR 7 (VlcSl (Mut M KM) vs) (f := 176) (args := #[.slice A n c]) rfl rfl rfl rfl (fun wv => ?_) (fun wv HC hrm hD => ?_) ?_
 ·go_simp <;> rfl
 ·refine (cloneVls_any (Mut M KM) wv HC.mutLt A n c vs (HH2.out _ HC) hn).mono ?_
  rintro e w5 ⟨C, q, cap, rfl, hq, hqc, hcap, rC, b5⟩
  subst hq
  exact ⟨_, rfl, ⟨C, cap, rfl, hqc, hcap, rC⟩, HC.call b5, RM.below b5⟩
 rintro u wx HCx ⟨C, cap, rfl, hc1, hc2, rC⟩
 clear HCx rC
 simp only [Act.put, zl]
 refine dw_val rfl rfl rfl ?_; apply Exists.intro; refine ⟨fun wv HC => ?_, ?_⟩
 · go_simp <;> rfl
 simp only [Act.put, zl]
 refine rel_nil ?_
 rintro wx3 HX
 rintro _hrm HGW
 have h1 : VlcSl (Mut M KM) vs (.slice C vs.length cap) wx3 := (GW_on (d := 7) rfl).1 (HGW 4 _ rfl (by omega))
 clear HGW _hrm
 obtain ⟨C', cap', e', -, -, rC⟩ := h1
 obtain ⟨rfl, rfl⟩ : C = C' ∧ cap = cap' := by injection e' with e1 e2 e3; exact ⟨e1, e3⟩
 have K7 := HX.add rC
 rw [HKM.out] at K7
 have K8 := (K7.store 1 rfl 0 (.int .i64 id)).store 1 rfl 1 (.slice C vs.length cap)
 simp only [zl] at K8
 have F7 := K7.facts
 simp only [factsL, cellsF, Nat.reduceAdd, zf, zl] at F7
 have F8 := K8.facts
 simp only [factsL, cellsF, Nat.reduceAdd, zf, zl] at F8
 have HR := hid ((K8.ro 0 rfl).less zm)
 have HB := hid K8.below
 clear K8 K7 HX rC HH1 HH2 HKM K6 e'
 go_wp2_with fail
 refine bodyPost_ret (v := .agg #[.int .i64 id, .slice C vs.length cap]) ?_ rfl ?_
 ·clear HR HB
  simp [results, Tryz.results174, go_sem, F8]
 ·exact ⟨C, cap, rfl, hc1, hc2, HR.out, HB.out⟩
def DPairRet (w : World) (M : Nat → Prop) (r : Pr) (e : Ending) (w' : World) : Prop := ∃ (C : Option Addr) (c : Nat) (D : Option Addr) (d : Nat), e = .returned (.agg #[.int .i64 r.id, .slice C r.old.length c, .slice D r.new.length d]) ∧ (r.old.length ≤ c ∧ c ≤ 9223372036854775807) ∧ (r.new.length ≤ d ∧ d ≤ 9223372036854775807) ∧ Ro w' M (VlsIn C r.old.length r.old) ∧ Ro w' M (VlsIn D r.new.length r.new) ∧ Below w.heap.size w w'
set_option maxHeartbeats 8000000 in
set_option maxRecDepth 100000 in
theorem deepPair_any (M : Nat → Prop) (w : World) (hM : ∀ b, M b → b < w.heap.size) (r : Pr) (hr : Ro w M (VlsIn r.oA r.on r.old)) (hr2 : Ro w M (VlsIn r.nA r.nn r.new)) (hn : r.on ≤ 4398046511104) (hn2 : r.nn ≤ 4398046511104) : Calls Tryz.prog 121 #[.agg #[.int .i64 r.id, .slice r.oA r.on r.oc, .slice r.nA r.nn r.nc]] w fun e w' => DPairRet w M r e w' := by
 obtain ⟨id, oA, on, oc, old, nA, nn, nc, new⟩ := r
 have hn : on ≤ 4398046511104 := hn
 have hn2 : nn ≤ 4398046511104 := hn2
 have K0 := ((((Hold.start M w hM).add (hr2.less (by simp [Mut]))).add (hr.less (by simp [Mut, Hp.foot]))).alloc_cst #[.int .i64 id, .slice oA on oc, .slice nA nn nc] 116).alloc #[.int .i64 0, .slice none 0 0, .slice none 0 0] 116
 rw [World.size_alloc] at K0
 obtain ⟨gx, hgx⟩ : ∃ g, g = w.heap.size := ⟨_, rfl⟩
 rw [← hgx] at K0
 obtain ⟨gr, hgr⟩ : ∃ g, g = gx + 1 := ⟨_, rfl⟩
 rw [← hgr] at K0
 clear hr hr2
 go_enter Tryz.func121, Tryz.ntmps121
 go_upto_region 1 with fail
 rw [← hgx]
 try rw [← hgr]
 have HGX := hid (And.intro hgx hgr)
 clear hgx hgr
 generalize World.alloc _ _ = w1 at K0 ⊢
 obtain ⟨KM, hKM, K6⟩ := K0.name
 have H1 : ∀ wv : World, Hold M none w wv KM → Blk wv gx 116 #[.int .i64 id, .slice oA on oc, .slice nA nn nc] := fun wv h => by rw [hKM] at h; exact h.cst_ 1 rfl
 have H2 : ∀ wv : World, Hold M none w wv KM → Ro wv (Mut M KM) (VlsIn oA on old) := fun wv h => by rw [hKM] at h ⊢; exact h.ro 2 rfl
 have H3 : ∀ wv : World, Hold M none w wv KM → Ro wv (Mut M KM) (VlsIn nA nn new) := fun wv h => by rw [hKM] at h ⊢; exact h.ro 3 rfl
 have HH1 := hid H1
 have HH2 := hid H2
 have HH3 := hid H3
 have HKM := hid hKM
 clear hKM H1 H2 H3 K0
 refine wp_region_any (by kernel_rfl) ?_
 refine wpAny_hold 9 12 (KM) (spL [(7, VlcSl (Mut M KM) old), (10, VlcSl (Mut M KM) new)]) (by kernel_rfl) (by kernel_rfl) (by kernel_rfl) rfl ?_ (K6.drew) ?_
 ·exact stays_cons vlcSl_mono (stays_cons vlcSl_mono (stays_nil _))
 simp only [zd, Act.put, List.getElem_toArray, List.getElem_cons_zero, List.getElem_cons_succ, zl]
 refine dw_val rfl rfl rfl ?_; apply Exists.intro; refine ⟨fun wv HC => ?_, ?_⟩
 · go_simp <;> rfl
 simp only [Act.put, zl]
 refine dw_val rfl rfl rfl ?_; apply Exists.intro; refine ⟨fun wv HC => ?_, ?_⟩
 ·have q0 := (HH1.out _ HC).cell 0; go_simp <;> rfl
 simp only [Act.put, zl]
 refine dw_val rfl rfl rfl ?_; apply Exists.intro; refine ⟨fun wv HC => ?_, ?_⟩
 · go_simp <;> rfl
 simp only [Act.put, zl]
 refine dw_val rfl rfl rfl ?_; apply Exists.intro; refine ⟨fun wv HC => ?_, ?_⟩
 ·have q0 := (HH1.out _ HC).cell 1; go_simp <;> rfl
 simp only [Act.put, zl]
 refine dw_callR 7 (VlcSl (Mut M KM) old) (f := 176) (args := #[.slice oA on oc]) rfl rfl rfl rfl (fun wv => ?_) (fun wv HC hrm hD => ?_) ?_
 ·go_simp <;> rfl
 ·refine (cloneVls_any (Mut M KM) wv HC.mutLt oA on oc old (HH2.out _ HC) hn).mono ?_
  rintro e w5 ⟨C, q, cap, rfl, hq, hqc, hcap, rC, b5⟩
  subst hq
  exact ⟨_, rfl, ⟨C, cap, rfl, hqc, hcap, rC⟩, HC.call b5, RM.below b5⟩
 rintro u wx HCx ⟨C, cap, rfl, hc1, hc2, rC⟩
 clear HCx rC
 simp only [Act.put, zl]
 refine dw_val rfl rfl rfl ?_; apply Exists.intro; refine ⟨fun wv HC => ?_, ?_⟩
 · go_simp <;> rfl
 simp only [Act.put, zl]
 refine dw_val rfl rfl rfl ?_; apply Exists.intro; refine ⟨fun wv HC => ?_, ?_⟩
 ·have q0 := (HH1.out _ HC).cell 2; go_simp <;> rfl
 simp only [Act.put, zl]
 refine dw_callR 10 (VlcSl (Mut M KM) new) (f := 176) (args := #[.slice nA nn nc]) rfl rfl rfl rfl (fun wv => ?_) (fun wv HC hrm hD => ?_) ?_
 ·go_simp <;> rfl
 ·refine (cloneVls_any (Mut M KM) wv HC.mutLt nA nn nc new (HH3.out _ HC) hn2).mono ?_
  rintro e w5 ⟨D, q, dap, rfl, hq, hqc, hcap, rC, b5⟩
  subst hq
  exact ⟨_, rfl, ⟨D, dap, rfl, hqc, hcap, rC⟩, HC.call b5, RM.below b5⟩
 rintro u wx HCx ⟨D, dap, rfl, hd1, hd2, rC⟩
 clear HCx rC
 simp only [Act.put, zl]
 refine dw_val rfl rfl rfl ?_; apply Exists.intro; refine ⟨fun wv HC => ?_, ?_⟩
 · go_simp <;> rfl
 simp only [Act.put, zl]
 refine rel_nil ?_
 rintro wx3 HX
 rintro _hrm HGW
 have h1 : VlcSl (Mut M KM) old (.slice C old.length cap) wx3 := (GW_on (d := 7) rfl).1 (HGW 4 _ rfl (by omega))
 have h2 : VlcSl (Mut M KM) new (.slice D new.length dap) wx3 := (GW_on (d := 10) rfl).1 (HGW 7 _ rfl (by omega))
 clear HGW _hrm
 obtain ⟨C', cap', e', -, -, rC⟩ := h1
 obtain ⟨rfl, rfl⟩ : C = C' ∧ cap = cap' := by injection e' with e1 e2 e3; exact ⟨e1, e3⟩
 obtain ⟨D', dap', e2', -, -, rD⟩ := h2
 obtain ⟨rfl, rfl⟩ : D = D' ∧ dap = dap' := by injection e2' with e1 e2 e3; exact ⟨e1, e3⟩
 have K7 := (HX.add rC).add (rD.less (by simp [mut_cons, Hp.foot]))
 rw [HKM.out] at K7
 have K8 := ((K7.store 2 rfl 0 (.int .i64 id)).store 2 rfl 1 (.slice C old.length cap)).store 2 rfl 2 (.slice D new.length dap)
 simp only [zl] at K8
 have F7 := K7.facts
 simp only [factsL, cellsF, Nat.reduceAdd, zf, zl] at F7
 have F8 := K8.facts
 simp only [factsL, cellsF, Nat.reduceAdd, zf, zl] at F8
 have HR := hid ((K8.ro 1 rfl).less zm)
 have HR2 := hid ((K8.ro 0 rfl).less zm)
 have HB := hid K8.below
 clear K8 K7 HX rC rD HH1 HH2 HH3 HKM K6 e' e2'
 go_wp2_with fail
 refine bodyPost_ret (v := .agg #[.int .i64 id, .slice C old.length cap, .slice D new.length dap]) ?_ rfl ?_
 ·clear HR HR2 HB
  simp [results, Tryz.results121, go_sem, F8]
 ·exact ⟨C, cap, D, dap, rfl, ⟨hc1, hc2⟩, ⟨hd1, hd2⟩, HR.out, HR2.out, HB.out⟩
end Go.Proofs.YtdkebcfkchhlmaaGreatDoor

namespace Go.Proofs.YtdkebcfkchhlmaaGreatDoor
open Go.RowKit
set_option linter.unusedVariables false
set_option linter.unusedSimpArgs false
/-- each row's slice is as long as its values -/
def RwsLen (l : List Rw) : Prop := ∀ x ∈ l, x.n = x.vs.length
def DRowsRet (w : World) (M : Nat → Prop) (l : List Rw) (e : Ending) (w' : World) : Prop := ∃ (A : Option Addr) (n c : Nat) (k : List Rw), e = .returned (.slice A n c) ∧ k.map Rw.row = l.map Rw.row ∧ (n ≤ c ∧ c ≤ 9223372036854775807) ∧ RwsLen k ∧ Ro w' M (RwsIn A n k) ∧ Below w.heap.size w w'
theorem rwsLen_snoc {l : List Rw} {x : Rw} (h : RwsLen l) (hx : x.n = x.vs.length) : RwsLen (l ++ [x]) := fun y hy => by
 rcases List.mem_append.1 hy with hy | hy
 ·exact h y hy
 ·simp only [List.mem_cons, List.not_mem_nil, or_false] at hy
  subst hy
  exact hx
theorem map_take_snoc {α β : Type} {f : α → β} {l : List α} {k : List α} {j : Nat} {x y : α} (h : k.map f = (l.take j).map f) (hx : l[j]? = some x) (hy : f y = f x) : (k ++ [y]).map f = (l.take (j + 1)).map f := by
 obtain ⟨hl, e⟩ := List.getElem?_eq_some_iff.1 hx
 rw [List.take_succ_eq_append_getElem hl, List.map_append, List.map_append, h, e]
 simp [hy]
set_option maxHeartbeats 8000000 in
set_option maxRecDepth 100000 in
theorem deepList_any (M : Nat → Prop) (w : World) (hM : ∀ b, M b → b < w.heap.size) (A : Option Addr) (n c : Nat) (l : List Rw) (hD : Ro w M (RwsIn A n l)) (hn : n ≤ 1000000) (hr : ∀ x ∈ l, x.n ≤ 4398046511104) : Calls Tryz.prog 173 #[.slice A n c, .func (.func 174) #[] #[]] w fun e w' => DRowsRet w M l e w' := by
 have HL := hid hD.now.len
 have HR := hid hr
 have K0 := (((Hold.start M w hM).add (hD.less (by simp [Mut]))).add (S := ValsIn []) (fun w2 _ _ x hx => (nomatch hx))).nil 125 2
 clear hD hr
 go_enter Tryz.func173, Tryz.ntmps173
 go_wp2_with fail
 go_loopw [5, 10] (fun ov iv wr => ∃ (j cap : Nat) (O : Option Addr) (outs : List Rw), j ≤ n ∧ iv = .int .i64 j ∧ ov = .slice O j cap ∧ Hid (outs.map Rw.row = (l.take j).map Rw.row ∧ RwsLen outs) ∧ Hold M none w wr [.own 125 2 (.slice O j cap) j (rwCells outs), .ro (ValsIn outs), .ro (RwsIn A n l)]) (fun _ iv _ => n - (intOf iv).toNat)
 case atStart => exact ⟨0, 0, none, [], by omega, rfl, rfl, hid ⟨rfl, fun x hx => (nomatch hx)⟩, K0⟩
 case round =>
  clear K0
  obtain ⟨j, cap, O, outs, hj, rfl, rfl, HO, H⟩ := hrel
  by_cases hlt : j < n
  ·obtain ⟨x, hx⟩ := get_of HL.out hlt
   obtain ⟨b, o, rfl, hb, c0, c1, -⟩ := (H.ro 2 rfl).now.at_ hx
   have hm := List.mem_of_getElem? hx
   have HX := hid hx
   clear hx
   have K1 := H.alloc_cst #[.int .i64 x.id, .slice x.A x.n x.c] 125
   have F1 := K1.facts
   simp only [factsL, cellsF, Nat.reduceAdd, zf, zl] at F1
   clear H
   go_wp2_with fail
   clear F1 c0 c1
   refine (deepRow_any (Mut M _) _ K1.mutLt x ((K1.ro 3 rfl).imp fun w2 h2 => h2.2 x hm) (HR.out x hm)).mono ?_
   rintro e w2 ⟨C, cc, rfl, hc1, hc2, rC, b2⟩
   have K2 := (K1.call b2).add rC
   clear K1 b2 rC
   obtain ⟨cn, hcn⟩ : ∃ k, k = x.vs.length := ⟨_, rfl⟩
   rw [← hcn] at K2 hc1 ⊢
   have HCN := hid hcn
   clear hcn
   go_wp2_with (at_builtin; go_must (refine wpList_appH K2 2 rfl Tryz.elRw #[.int .i64 x.id, .slice C cn cc] rfl (.tmp 14) (.tmp 18) rfl rfl _ (by first | rfl | simp) rfl rfl (by intro u hu; simp at hu; rcases hu with rfl | rfl <;> rfl) (by omega) (by omega) ?_); intro gA capA wA hcA hmA KA; simp only [zl] at KA)
   rw [show rwCells outs ++ (#[.int .i64 x.id, .slice C cn cc] : Array Value).toList = rwCells (outs ++ [⟨x.id, C, cn, cc, x.vs⟩]) from (rwCells_snoc outs ⟨x.id, C, cn, cc, x.vs⟩).symm] at KA
   have KB := (KA.swapRo 3 rfl (vals_snoc (r := ⟨x.id, C, cn, cc, x.vs⟩) (KA.ro 3 rfl) (KA.ro 0 rfl))).drop (List.Sublist.cons _ (List.sublist_cons_self _ _))
   simp only [zl] at KB
   go_roundw
   case rel => exact ⟨j + 1, capA, _, outs ++ [⟨x.id, C, cn, cc, x.vs⟩], by omega, by go_num, by first | rfl | trivial, hid ⟨map_take_snoc HO.out.1 HX.out rfl, rwsLen_snoc HO.out.2 HCN.out⟩, KB⟩
   case measure => simp [intOf]; omega
  ·obtain rfl : n = j := by omega
   have hcap := own_caps (H.get 0 rfl)
   have KZ := H.sealRow 0 rfl
   simp only [List.set_cons_zero] at KZ
   have hR : Ro _ _ (RwsIn O n outs) := ((KZ.ro 0 rfl).and (KZ.ro 1 rfl)).imp fun w2 h2 => ⟨h2.1, h2.2⟩
   have HRO := hid (hR.less zm)
   have HB := hid KZ.below
   clear KZ H hR
   go_wp2_with fail
   go_ret
   exact ⟨O, n, cap, outs, rfl, by rw [HO.out.1, List.take_of_length_le (by rw [HL.out]; exact Nat.le_refl _)], ⟨hcap.1, hcap.2.1⟩, HO.out.2, HRO.out, HB.out⟩
set_option maxHeartbeats 8000000 in
theorem deepRows_any (M : Nat → Prop) (w : World) (hM : ∀ b, M b → b < w.heap.size) (A : Option Addr) (n c : Nat) (l : List Rw) (hD : Ro w M (RwsIn A n l)) (hn : n ≤ 1000000) (hr : ∀ x ∈ l, x.n ≤ 4398046511104) : Calls Tryz.prog 119 #[.slice A n c] w fun e w' => DRowsRet w M l e w' := by
 have HR := hid hr
 have K0 := ((Hold.start M w hM).add (hD.less (by simp [Mut])))
 clear hD hr
 go_enter Tryz.func119, Tryz.ntmps119
 go_wp2_with fail
 refine (deepList_any (Mut M _) _ K0.mutLt A n c l (K0.ro 0 rfl) hn HR.out).mono ?_
 rintro e w2 ⟨C, q, cap, k, rfl, hk, hc, hl, rC, b2⟩
 have HB := hid (K0.call b2).below
 have HC := hid (rC.less zm)
 clear K0 rC b2
 go_wp2_with fail
 go_ret
 exact ⟨C, q, cap, k, rfl, hk, hc, hl, HC.out, HB.out⟩
end Go.Proofs.YtdkebcfkchhlmaaGreatDoor

namespace Go.Proofs.YtdkebcfkchhlmaaGreatDoor
open Go.RowKit
set_option linter.unusedVariables false
set_option linter.unusedSimpArgs false
/-- an item with its places -/
structure Itm where
 tr : ByteArray
 row : Int
 oA : Option Addr
 on : Nat
 oc : Nat
 nA : Option Addr
 nn : Nat
 nc : Nat
def Itm.cells (x : Itm) : List Value := [.string x.tr, .int .i64 x.row, .slice x.oA x.on x.oc, .slice x.nA x.nn x.nc]
def itCells (l : List Itm) : List Value := l.flatMap Itm.cells
theorem itCells_len (l : List Itm) : (itCells l).length = l.length * 4 := flat_len _ 4 (fun _ => rfl) l
theorem itCells_snoc (l : List Itm) (x : Itm) : itCells (l ++ [x]) = itCells l ++ x.cells := by simp [itCells]
/-- an item: its trigger, its row, and how many values it has -/
abbrev Sh := ByteArray × Int × Nat × Nat
def Itm.sh (x : Itm) : Sh := (x.tr, x.row, x.on, x.nn)
def rowI (nm : ByteArray) (r : Row) : Sh := (nm, r.1, 0, r.2.length)
def rowD (nm : ByteArray) (r : Row) : Sh := (nm, r.1, r.2.length, 0)
def rowU (nm : ByteArray) (p : Upd) : Sh := (nm, p.1, p.2.1.length, p.2.2.length)
theorem vls_len {A : Option Addr} {n : Nat} {l : List Vl} {w : World} (h : VlsIn A n l w) : l.length = n := by
 have := (show Rd w w.heap.size 3 A n (vlCells l) from h).1
 rw [vlCells_len] at this
 omega
theorem map_take_snoc2 {α β γ : Type} {f : α → γ} {g : β → γ} {l : List α} {k : List β} {p : List γ} {j : Nat} {x : α} {y : β} (h : k.map g = p ++ (l.take j).map f) (hx : l[j]? = some x) (hy : g y = f x) : (k ++ [y]).map g = p ++ (l.take (j + 1)).map f := by
 obtain ⟨hl, e⟩ := List.getElem?_eq_some_iff.1 hx
 rw [List.take_succ_eq_append_getElem hl, List.map_append, List.map_append, h, e]
 simp [hy]
def ItmsRet (w : World) (M : Nat → Prop) (s : List Sh) (e : Ending) (w' : World) : Prop := ∃ (A : Option Addr) (n c : Nat) (l : List Itm), e = .returned (.slice A n c) ∧ l.map Itm.sh = s ∧ (n ≤ c ∧ c ≤ 9223372036854775807) ∧ Ro w' M (SlR 4 A n (itCells l)) ∧ Below w.heap.size w w'
theorem Tryz.elItm : ElemT Tryz.prog 33 53 4 72 (.agg #[.string ⟨#[]⟩, .int .i64 0, .slice none 0 0, .slice none 0 0]) := ⟨Tryz.underlying33, by kernel_rfl, rfl, by omega⟩
set_option maxHeartbeats 8000000 in
set_option maxRecDepth 100000 in
theorem evRows_any (M : Nat → Prop) (w : World) (hM : ∀ b, M b → b < w.heap.size) (t : Tg) (dn : ByteArray) (I : Option Addr) (ni ci : Nat) (li : List Rw) (D : Option Addr) (nd cd : Nat) (ld : List Rw) (U : Option Addr) (nu cu : Nat) (lu : List Pr) (hI : Ro w M (RwsIn I ni li)) (hD : Ro w M (RwsIn D nd ld)) (hU : Ro w M (PrsIn U nu lu)) (h1 : ni ≤ 1000000) (h2 : nd ≤ 1000000) (h3 : nu ≤ 1000000) : Calls Tryz.prog 52 #[t.val, .agg #[.string dn, .slice I ni ci, .slice D nd cd, .slice U nu cu]] w fun e w' => ItmsRet w M (li.map (rowI t.name ∘ Rw.row) ++ ld.map (rowD t.name ∘ Rw.row) ++ lu.map (rowU t.name ∘ Pr.upd)) e w' := by
 obtain ⟨tn, tt, tb, te, ⟨oA, on, oc, ol⟩, tch, ⟨pA, pn, pc, pl⟩, ⟨qA, qn, qc, ql⟩, ⟨rA, rn, rc, rl⟩, ⟨kA, kn, kc, kl⟩, ⟨aA, an, ac, al⟩⟩ := t
 have HL0 := hid (show li.length = ni from hI.now.len)
 have HL1 := hid (show ld.length = nd from hD.now.len)
 have HL2 := hid (show lu.length = nu from hU.now.len)
 have KS := ((((((Hold.start M w hM).add (hU.less (by simp [Mut]))).add (hD.less (by simp [Mut, Hp.foot]))).add (hI.less (by simp [Mut, Hp.foot]))).alloc_cst #[.string tn, .string tt, .bool tb, .int .i64 te, .slice oA on oc, .bool tch, .slice pA pn pc, .slice qA qn qc, .slice rA rn rc, .slice kA kn kc, .slice aA an ac] 40).alloc_cst #[.string dn, .slice I ni ci, .slice D nd cd, .slice U nu cu] 44).nil 53 4
 rw [World.size_alloc] at KS
 obtain ⟨gt, hgt⟩ : ∃ g, g = w.heap.size := ⟨_, rfl⟩
 rw [← hgt] at KS
 obtain ⟨gd, hgd⟩ : ∃ g, g = gt + 1 := ⟨_, rfl⟩
 rw [← hgd] at KS
 clear hI hD hU
 simp only [Tg.val]
 go_enter Tryz.func52, Tryz.ntmps52
 go_upto_region 1 with fail
 rw [← hgt]
 try rw [← hgd]
 have HG := hid (And.intro hgt hgd)
 clear hgt hgd
 generalize World.alloc _ _ = w1 at KS ⊢
 obtain ⟨O0, hO0⟩ : ∃ O : Option Addr, O = none := ⟨_, rfl⟩
 have K0 : Hold M none w w1 [.own 53 4 (.slice none 0 0) 0 (itCells []), .cst gd 44 #[.string dn, .slice I ni ci, .slice D nd cd, .slice U nu cu], .cst gt 40 #[.string tn, .string tt, .bool tb, .int .i64 te, .slice oA on oc, .bool tch, .slice pA pn pc, .slice qA qn qc, .slice rA rn rc, .slice kA kn kc, .slice aA an ac], .ro (RwsIn I ni li), .ro (RwsIn D nd ld), .ro (PrsIn U nu lu)] := KS
 clear KS hO0
 have F0 := K0.facts
 simp only [factsL, cellsF, Nat.reduceAdd, zf, zl] at F0
 go_wp2_with fail
 clear F0
 go_loopw [5, 15] (fun ov iv wr => ∃ (j cap : Nat) (O : Option Addr) (outs : List Itm), j ≤ ni ∧ iv = .int .i64 j ∧ ov = .slice O (j) cap ∧ Hid (outs.map Itm.sh = [] ++ (li.take j).map (rowI tn ∘ Rw.row)) ∧ Hold M none w wr [.own 53 4 (.slice O (j) cap) (j) (itCells outs), .cst gd 44 #[.string dn, .slice I ni ci, .slice D nd cd, .slice U nu cu], .cst gt 40 #[.string tn, .string tt, .bool tb, .int .i64 te, .slice oA on oc, .bool tch, .slice pA pn pc, .slice qA qn qc, .slice rA rn rc, .slice kA kn kc, .slice aA an ac], .ro (RwsIn I ni li), .ro (RwsIn D nd ld), .ro (PrsIn U nu lu)]) (fun _ iv _ => ni - (intOf iv).toNat)
 case atStart => exact ⟨0, 0, none, [], by omega, rfl, rfl, hid rfl, K0⟩
 case round =>
  clear K0
  obtain ⟨j, cap, O, outs, hj, rfl, rfl, HO, H⟩ := hrel
  by_cases hlt : j < ni
  ·obtain ⟨x, hx⟩ := get_of HL0.out hlt
   obtain ⟨b, o, rfl, hb, c0, c1, hv⟩ := (H.ro 3 rfl).now.at_ hx
   have hxn : x.n = x.vs.length := (vls_len hv).symm
   have HXN := hid hxn
   have HX := hid hx
   clear hx hxn hv
   have K1 := H.alloc_cst #[.int .i64 x.id, .slice x.A x.n x.c] 125
   have F1 := K1.facts
   simp only [factsL, cellsF, Nat.reduceAdd, zf, zl] at F1
   clear H
   go_wp2_with (at_builtin; go_must (refine wpList_appH K1 1 rfl Tryz.elItm #[.string tn, .int .i64 x.id, .slice none 0 0, .slice x.A x.n x.c] rfl (.tmp 19) (.tmp 27) rfl rfl (wr.heap.size + 1) (by first | rfl | simp) rfl rfl (by intro u hu; simp at hu; rcases hu with rfl | rfl | rfl | rfl <;> rfl) (by omega) (by omega) ?_); intro gA capA wA hcA hmA KA; simp only [zl] at KA)
   rw [show itCells outs ++ (#[.string tn, .int .i64 x.id, .slice none 0 0, .slice x.A x.n x.c] : Array Value).toList = itCells (outs ++ [⟨tn, x.id, none, 0, 0, x.A, x.n, x.c⟩]) from (itCells_snoc outs ⟨tn, x.id, none, 0, 0, x.A, x.n, x.c⟩).symm] at KA
   have KB := KA.drop (List.sublist_cons_self _ _)
   go_roundw
   case rel => exact ⟨j + 1, capA, _, outs ++ [⟨tn, x.id, none, 0, 0, x.A, x.n, x.c⟩], by omega, by go_num, by first | rfl | trivial, hid (map_take_snoc2 HO.out HX.out (by simp only [Function.comp, Itm.sh, Rw.row, rowI]; rw [HXN.out])), KB⟩
   case measure => simp [intOf]; omega
  ·obtain rfl : ni = j := by omega
   have F4 := H.facts
   simp only [factsL, cellsF, Nat.reduceAdd, zf, zl] at F4
   go_wp2_with fail
   clear F4
   have HE0 := hid (show outs.map Itm.sh = li.map (rowI tn ∘ Rw.row) from by
    rw [HO.out, List.take_of_length_le (by rw [HL0.out]; exact Nat.le_refl _)] <;> simp only [List.nil_append, List.append_assoc])
   clear HO
   go_loopw [5, 33] (fun ov iv wr => ∃ (j cap : Nat) (O : Option Addr) (outs : List Itm), j ≤ nd ∧ iv = .int .i64 j ∧ ov = .slice O (ni + j) cap ∧ Hid (outs.map Itm.sh = li.map (rowI tn ∘ Rw.row) ++ (ld.take j).map (rowD tn ∘ Rw.row)) ∧ Hold M none w wr [.own 53 4 (.slice O (ni + j) cap) (ni + j) (itCells outs), .cst gd 44 #[.string dn, .slice I ni ci, .slice D nd cd, .slice U nu cu], .cst gt 40 #[.string tn, .string tt, .bool tb, .int .i64 te, .slice oA on oc, .bool tch, .slice pA pn pc, .slice qA qn qc, .slice rA rn rc, .slice kA kn kc, .slice aA an ac], .ro (RwsIn I ni li), .ro (RwsIn D nd ld), .ro (PrsIn U nu lu)]) (fun _ iv _ => nd - (intOf iv).toNat)
   case atStart => exact ⟨0, cap, O, outs, by omega, rfl, rfl, hid (by rw [HE0.out]; simp), H⟩
   case round =>
    clear H HE0
    obtain ⟨j, cap, O, outs, hj, rfl, rfl, HO, H⟩ := hrel
    by_cases hlt : j < nd
    ·obtain ⟨x, hx⟩ := get_of HL1.out hlt
     obtain ⟨b, o, rfl, hb, c0, c1, hv⟩ := (H.ro 4 rfl).now.at_ hx
     have hxn : x.n = x.vs.length := (vls_len hv).symm
     have HXN := hid hxn
     have HX := hid hx
     clear hx hxn hv
     have K1 := H.alloc_cst #[.int .i64 x.id, .slice x.A x.n x.c] 125
     have F1 := K1.facts
     simp only [factsL, cellsF, Nat.reduceAdd, zf, zl] at F1
     clear H
     go_wp2_with (at_builtin; go_must (refine wpList_appH K1 1 rfl Tryz.elItm #[.string tn, .int .i64 x.id, .slice x.A x.n x.c, .slice none 0 0] rfl (.tmp 37) (.tmp 45) rfl rfl (wr.heap.size + 1) (by first | rfl | simp) rfl rfl (by intro u hu; simp at hu; rcases hu with rfl | rfl | rfl | rfl <;> rfl) (by omega) (by omega) ?_); intro gA capA wA hcA hmA KA; simp only [zl] at KA)
     rw [show itCells outs ++ (#[.string tn, .int .i64 x.id, .slice x.A x.n x.c, .slice none 0 0] : Array Value).toList = itCells (outs ++ [⟨tn, x.id, x.A, x.n, x.c, none, 0, 0⟩]) from (itCells_snoc outs ⟨tn, x.id, x.A, x.n, x.c, none, 0, 0⟩).symm] at KA
     have KB := KA.drop (List.sublist_cons_self _ _)
     go_roundw
     case rel => exact ⟨j + 1, capA, _, outs ++ [⟨tn, x.id, x.A, x.n, x.c, none, 0, 0⟩], by omega, by go_num, by first | rfl | trivial, hid (map_take_snoc2 HO.out HX.out (by simp only [Function.comp, Itm.sh, Rw.row, rowD]; rw [HXN.out])), KB⟩
     case measure => simp [intOf]; omega
    ·obtain rfl : nd = j := by omega
     have F4 := H.facts
     simp only [factsL, cellsF, Nat.reduceAdd, zf, zl] at F4
     go_wp2_with fail
     clear F4
     have HE1 := hid (show outs.map Itm.sh = li.map (rowI tn ∘ Rw.row) ++ ld.map (rowD tn ∘ Rw.row) from by
      rw [HO.out, List.take_of_length_le (by rw [HL1.out]; exact Nat.le_refl _)] <;> simp only [List.nil_append, List.append_assoc])
     clear HO
     go_loopw [5, 51] (fun ov iv wr => ∃ (j cap : Nat) (O : Option Addr) (outs : List Itm), j ≤ nu ∧ iv = .int .i64 j ∧ ov = .slice O (ni + nd + j) cap ∧ Hid (outs.map Itm.sh = li.map (rowI tn ∘ Rw.row) ++ ld.map (rowD tn ∘ Rw.row) ++ (lu.take j).map (rowU tn ∘ Pr.upd)) ∧ Hold M none w wr [.own 53 4 (.slice O (ni + nd + j) cap) (ni + nd + j) (itCells outs), .cst gd 44 #[.string dn, .slice I ni ci, .slice D nd cd, .slice U nu cu], .cst gt 40 #[.string tn, .string tt, .bool tb, .int .i64 te, .slice oA on oc, .bool tch, .slice pA pn pc, .slice qA qn qc, .slice rA rn rc, .slice kA kn kc, .slice aA an ac], .ro (RwsIn I ni li), .ro (RwsIn D nd ld), .ro (PrsIn U nu lu)]) (fun _ iv _ => nu - (intOf iv).toNat)
     case atStart => exact ⟨0, cap, O, outs, by omega, rfl, rfl, hid (by rw [HE1.out]; simp), H⟩
     case round =>
      clear H HE1
      obtain ⟨j, cap, O, outs, hj, rfl, rfl, HO, H⟩ := hrel
      by_cases hlt : j < nu
      ·obtain ⟨x, hx⟩ := get_of HL2.out hlt
       obtain ⟨b, o, rfl, hb, c0, c1, c2, hv, hv2⟩ := (H.ro 5 rfl).now.at_ hx
       have hxn : x.on = x.old.length ∧ x.nn = x.new.length := ⟨(vls_len hv).symm, (vls_len hv2).symm⟩
       have HXN := hid hxn
       have HX := hid hx
       clear hx hxn hv hv2
       have K1 := H.alloc_cst #[.int .i64 x.id, .slice x.oA x.on x.oc, .slice x.nA x.nn x.nc] 116
       have F1 := K1.facts
       simp only [factsL, cellsF, Nat.reduceAdd, zf, zl] at F1
       clear H
       go_wp2_with (at_builtin; go_must (refine wpList_appH K1 1 rfl Tryz.elItm #[.string tn, .int .i64 x.id, .slice x.oA x.on x.oc, .slice x.nA x.nn x.nc] rfl (.tmp 55) (.tmp 65) rfl rfl (wr.heap.size + 1) (by first | rfl | simp) rfl rfl (by intro u hu; simp at hu; rcases hu with rfl | rfl | rfl | rfl <;> rfl) (by omega) (by omega) ?_); intro gA capA wA hcA hmA KA; simp only [zl] at KA)
       rw [show itCells outs ++ (#[.string tn, .int .i64 x.id, .slice x.oA x.on x.oc, .slice x.nA x.nn x.nc] : Array Value).toList = itCells (outs ++ [⟨tn, x.id, x.oA, x.on, x.oc, x.nA, x.nn, x.nc⟩]) from (itCells_snoc outs ⟨tn, x.id, x.oA, x.on, x.oc, x.nA, x.nn, x.nc⟩).symm] at KA
       have KB := KA.drop (List.sublist_cons_self _ _)
       go_roundw
       case rel => exact ⟨j + 1, capA, _, outs ++ [⟨tn, x.id, x.oA, x.on, x.oc, x.nA, x.nn, x.nc⟩], by omega, by go_num, by first | rfl | trivial, hid (map_take_snoc2 HO.out HX.out (by simp only [Function.comp, Itm.sh, Pr.upd, rowU]; rw [HXN.out.1, HXN.out.2])), KB⟩
       case measure => simp [intOf]; omega
      ·obtain rfl : nu = j := by omega
       have hcap := own_caps (H.get 0 rfl)
       have KZ := H.sealRow 0 rfl
       simp only [List.set_cons_zero] at KZ
       have HR := hid ((KZ.ro 0 rfl).less zm)
       have HB := hid KZ.below
       clear KZ H
       go_wp2_with fail
       go_ret
       exact ⟨O, ni + nd + nu, cap, outs, rfl, by
        rw [HO.out, List.take_of_length_le (by rw [HL2.out]; exact Nat.le_refl _)]
        simp only [List.append_assoc], ⟨hcap.1, hcap.2.1⟩, HR.out, HB.out⟩
end Go.Proofs.YtdkebcfkchhlmaaGreatDoor

namespace Go.Proofs.YtdkebcfkchhlmaaGreatDoor
open Go.RowKit
set_option linter.unusedVariables false
set_option linter.unusedSimpArgs false

/-- do an update's rows differ in a column that both have? -/
def difU (i : Nat) (u : Upd) : Bool := match u.2.1[i]?, u.2.2[i]? with
 | some a, some b => decide (a ≠ b)
 | _, _ => false
theorem difU_left {i : Nat} {u : Upd} (h : u.2.1.length ≤ i) : difU i u = false := by unfold difU; rw [List.getElem?_eq_none h]
theorem difU_right {i : Nat} {u : Upd} (h : u.2.2.length ≤ i) : difU i u = false := by
 unfold difU; rw [List.getElem?_eq_none h]
 split <;> simp_all
theorem difU_both {i : Nat} {u : Upd} {a b : Vl} (h1 : u.2.1[i]? = some a) (h2 : u.2.2[i]? = some b) : difU i u = decide (a ≠ b) := by unfold difU; rw [h1, h2]
/-- texts in memory -/
def txCells (l : List ByteArray) : List Value := l.map Value.string
def StrsTx (A : Option Addr) (n : Nat) (l : List ByteArray) : World → Prop := SlR 1 A n (txCells l)
theorem StrsTx.len {w : World} {A : Option Addr} {n : Nat} {l : List ByteArray} (h : StrsTx A n l w) : l.length = n := by
 have := (show Rd w w.heap.size 1 A n (txCells l) from h).1
 rw [txCells, List.length_map] at this
 omega
theorem StrsTx.at_ {w : World} {A : Option Addr} {n : Nat} {l : List ByteArray} (h : StrsTx A n l w) {k : Nat} {x : ByteArray} (hx : l[k]? = some x) : ∃ b o, A = some ⟨b, o, none⟩ ∧ b < w.heap.size ∧ w.cell? ⟨b, o + k, none⟩ = some (.string x) := by
 have hk : k < n := by rw [← h.len]; exact (List.getElem?_eq_some_iff.1 hx).1
 obtain ⟨b, o, e, hb, hc⟩ := (show Rd w w.heap.size 1 A n (txCells l) from h).2 (by omega)
 exact ⟨b, o, e, hb, hc k _ (by rw [txCells, List.getElem?_map, hx]; rfl)⟩
end Go.Proofs.YtdkebcfkchhlmaaGreatDoor

namespace Go.Proofs.YtdkebcfkchhlmaaGreatDoor
open Go.RowKit
set_option linter.unusedVariables false
set_option linter.unusedSimpArgs false
/-- does an update change the column of a name? -/
def difC (cl : List Col) (s : ByteArray) (u : Upd) : Bool := if 0 ≤ findB (named s) cl then difU (findB (named s) cl).toNat u else false
/-- what a closure over a schema and a pair has in memory -/
def DifIn (gs gp : Nat) (snm : ByteArray) (cA : Option Addr) (cn cc : Nat) (cl : List Col) (p : Pr) (w : World) : Prop := w.heap[gs]? = some (.cells #[.string snm, .slice cA cn cc] 49 (0, 0)) ∧ w.heap[gp]? = some (.cells #[.int .i64 p.id, .slice p.oA p.on p.oc, .slice p.nA p.nn p.nc] 116 (0, 0)) ∧ SlR 4 cA cn (colCells cl) w ∧ VlsIn p.oA p.on p.old w ∧ VlsIn p.nA p.nn p.new w
set_option maxHeartbeats 8000000 in
set_option maxRecDepth 100000 in
theorem difc_any (w : World) (gs gp : Nat) (snm : ByteArray) (cA : Option Addr) (cn cc : Nat) (cl : List Col) (p : Pr) (s : ByteArray) (hx : Ro w None_ (DifIn gs gp snm cA cn cc cl p)) (hn : cn ≤ 1000) : Calls Tryz.prog 175 #[.string s, .pointer (some ⟨gs, 0, none⟩), .pointer (some ⟨gp, 0, none⟩)] w fun e w' => e = .returned (.bool (difC cl s p.upd)) ∧ Below w.heap.size w w' := by
 obtain ⟨id, oA, on, oc, old, nA, nn, nc, new⟩ := p
 dsimp only [Pr.upd] at *
 have K0 := (Hold.start None_ w zn).add (hx.less (by simp [Mut]))
 clear hx
 obtain ⟨q1, q2, q3, hv1, hv2⟩ := (K0.ro 0 rfl).now
 have HQ1 := hid q1
 have HQ2 := hid q2
 have s0 := cell_of_row _ _ 0 _ _ _ q1
 have s1 := cell_of_row _ _ 1 _ _ _ q1
 clear q1 q2 q3
 go_enter Tryz.func175, Tryz.ntmps175
 go_wp2_with fail
 refine (find_any (Mut None_ _) _ K0.mutLt snm cA cn cc cl s ((K0.ro 0 rfl).imp fun w2 h2 => h2.2.2.1) (by omega)).mono ?_
 rintro e w2 ⟨rfl, b2⟩
 have KZ := K0.call b2
 clear K0 hv1 hv2 s0 s1 HQ1 HQ2
 have K0 := KZ
 clear KZ b2
 obtain ⟨q1, q2, q3, hv1, hv2⟩ := (K0.ro 0 rfl).now
 dsimp only at q2 hv1 hv2
 have p0 := cell_of_row _ _ 0 _ _ _ q2
 have p1 := cell_of_row _ _ 1 _ _ _ q2
 have p2 := cell_of_row _ _ 2 _ _ _ q2
 clear q1 q2 q3
 obtain ⟨kf, hkf⟩ : ∃ z : Int, findB (named s) cl = z := ⟨_, rfl⟩
 rw [hkf]
 have HKF := hid hkf
 clear hkf
 go_upto_region 2 with fail
 by_cases hneg : kf < 0
 ·have e0 : decide ((0 : Int) ≤ kf) = false := by simp; omega
  have HD := hid (show difC cl s (id, old, new) = false from by unfold difC; rw [HKF.out, if_neg (by omega)])
  clear hneg hv1 hv2
  go_quiet (fail)
  go_wp2_with fail
  go_ret
  exact ⟨by rw [HD.out] <;> rfl, (K0.drewN nq).below⟩
 ·obtain ⟨k, rfl⟩ : ∃ k : Nat, kf = (k : Int) := ⟨kf.toNat, by omega⟩
  have HDC := hid (show difC cl s (id, old, new) = difU k (id, old, new) from by unfold difC; rw [HKF.out]; simp)
  have k0 : (0 : Int) ≤ (k : Int) := by omega
  have k0' : decide ((0 : Int) ≤ (k : Int)) = true := by simp
  clear hneg
  by_cases hk1 : k < on
  ·have e1 : decide ((k : Int) < (on : Int)) = true := by simp; omega
   have e1' : decide (k < on) = true := by simp; omega
   have j1 : (k : Int) < (on : Int) := by omega
   by_cases hk2 : k < nn
   ·have e2 : decide ((k : Int) < (nn : Int)) = true := by simp; omega
    have e2' : decide (k < nn) = true := by simp; omega
    have j2 : (k : Int) < (nn : Int) := by omega
    obtain ⟨a, ha⟩ := get_of hv1.len hk1
    obtain ⟨b, hb⟩ := get_of hv2.len hk2
    obtain ⟨ga, oa, rfl, hga, a0, a1, a2⟩ := hv1.at_ ha
    obtain ⟨gb, ob, rfl, hgb, b0, b1, b2⟩ := hv2.at_ hb
    have HAB := hid (show difC cl s (id, old, new) = decide (a ≠ b) from (HDC.out).trans (difU_both ha hb))
    clear ha hb hv1 hv2 HDC
    by_cases h0 : a.k = b.k
    ·have q0 : (a.k == b.k) = true := by simp [h0]
     have q0' : (a.k != b.k) = false := by simp [h0]
     by_cases h1 : a.i = b.i
     ·have q1 : (a.i == b.i) = true := by simp [h1]
      by_cases h2 : a.s = b.s
      ·have q2 : (a.s.toList == b.s.toList) = true := by simp [h2]
       have HD := hid (show difC cl s (id, old, new) = false by rw [HAB.out]; simpa using vl_ext h0 h1 h2)
       clear h0 h1 h2 hk1 hk2
       go_quiet (fail)
       go_wp2_with fail
       go_ret
       exact ⟨by rw [HD.out] <;> rfl, (K0.drewN nq).below⟩
      ·have q2 : (a.s.toList == b.s.toList) = false := by rw [beq_eq_false_iff_ne]; exact fun h => h2 (bytesEq h)
       have HD := hid (show difC cl s (id, old, new) = true by rw [HAB.out]; simpa using fun h => h2 (by rw [h]))
       clear h0 h1 h2 hk1 hk2
       go_quiet (fail)
       go_wp2_with fail
       go_ret
       exact ⟨by rw [HD.out] <;> rfl, (K0.drewN nq).below⟩
     ·have q1 : (a.i == b.i) = false := by simpa using h1
      have HD := hid (show difC cl s (id, old, new) = true by rw [HAB.out]; simpa using fun h => h1 (by rw [h]))
      clear h0 h1 hk1 hk2
      go_quiet (fail)
      go_wp2_with fail
      go_ret
      exact ⟨by rw [HD.out] <;> rfl, (K0.drewN nq).below⟩
    ·have q0 : (a.k == b.k) = false := by simpa using h0
     have HD := hid (show difC cl s (id, old, new) = true by rw [HAB.out]; simpa using fun h => h0 (by rw [h]))
     clear h0 hk1 hk2
     go_quiet (fail)
     go_wp2_with fail
     go_ret
     exact ⟨by rw [HD.out] <;> rfl, (K0.drewN nq).below⟩
   ·have e2 : decide ((k : Int) < (nn : Int)) = false := by simp; omega
    have e2' : decide (k < nn) = false := by simp; omega
    have HD := hid (show difC cl s (id, old, new) = false from HDC.out.trans (difU_right (by have := hv2.len; dsimp only; omega)))
    clear hk1 hk2 hv1 hv2
    go_quiet (fail)
    go_wp2_with fail
    go_ret
    exact ⟨by rw [HD.out] <;> rfl, (K0.drewN nq).below⟩
  ·have e1 : decide ((k : Int) < (on : Int)) = false := by simp; omega
   have e1' : decide (k < on) = false := by simp; omega
   have HD := hid (show difC cl s (id, old, new) = false from HDC.out.trans (difU_left (by have := hv1.len; dsimp only; omega)))
   clear hk1 hv1 hv2
   go_quiet (fail)
   go_wp2_with fail
   go_ret
   exact ⟨by rw [HD.out] <;> rfl, (K0.drewN nq).below⟩
set_option maxHeartbeats 8000000 in
set_option maxRecDepth 100000 in
theorem difIx_any (w : World) (gs gp : Nat) (snm : ByteArray) (cA : Option Addr) (cn cc : Nat) (cl : List Col) (p : Pr) (A : Option Addr) (n c : Nat) (l : List ByteArray) (hx : Ro w None_ (DifIn gs gp snm cA cn cc cl p)) (hl : Ro w None_ (SlR 1 A n (txCells l))) (hn : cn ≤ 1000) (hn2 : n ≤ 1000) : Calls Tryz.prog 182 #[.slice A n c, .func (.func 175) #[] #[.pointer (some ⟨gs, 0, none⟩), .pointer (some ⟨gp, 0, none⟩)]] w fun e w' => (∃ r : Int, e = .returned (.int .i64 r) ∧ decide (0 ≤ r) = l.any fun s => difC cl s p.upd) ∧ Below w.heap.size w w' := by
 have HL := hid (show l.length = n from StrsTx.len hl.now)
 have K0 := ((Hold.start None_ w zn).add (hl.less (by simp [Mut]))).add (hx.less (by simp [Mut, Hp.foot]))
 clear hx hl
 go_enter Tryz.func182, Tryz.ntmps182
 go_wp2_with fail
 go_loopw [8] (fun iv wr => ∃ j : Nat, j ≤ n ∧ iv = .int .i64 j ∧ Hid (((l.take j).any fun s => difC cl s p.upd) = false) ∧ Hold None_ none w wr [.ro (DifIn gs gp snm cA cn cc cl p), .ro (SlR 1 A n (txCells l))]) (fun iv _ => n - (intOf iv).toNat)
 case atStart => exact ⟨0, by omega, rfl, hid rfl, K0⟩
 case round =>
  clear K0
  obtain ⟨j, hj, rfl, HP, H⟩ := hrel
  by_cases hlt : j < n
  ·have j0 : (0 : Int) ≤ (j : Int) := by omega
   have j1 : (j : Int) < (n : Int) := by omega
   obtain ⟨x, hx⟩ := get_of HL.out hlt
   obtain ⟨b, o, rfl, hb, c0⟩ := StrsTx.at_ (H.ro 1 rfl).now hx
   have HX := hid hx
   clear hx
   go_wp2_with fail
   refine (difc_any wr gs gp snm cA cn cc cl p x ((H.ro 0 rfl).less zn) hn).mono ?_
   rintro e w2 ⟨rfl, b2⟩
   have K1 := H.call b2
   clear H b2 c0
   obtain ⟨z, hz⟩ : ∃ z : Bool, difC cl x p.upd = z := ⟨_, rfl⟩
   rw [hz]
   have HZ := hid hz
   clear hz
   cases z
   ·go_wp2_with fail
    go_roundw
    case rel => exact ⟨j + 1, by omega, by go_num, hid (by rw [List.take_add_one, HX.out, List.any_append, HP.out]; simp [HZ.out]), K1⟩
    case measure => simp [intOf]; omega
   ·go_wp2_with fail
    go_ret
    exact ⟨⟨_, rfl, by rw [show (l.any fun s => difC cl s p.upd) = true from List.any_eq_true.2 ⟨x, List.mem_of_getElem? HX.out, HZ.out⟩]; simp⟩, K1.below⟩
  ·obtain rfl : n = j := by omega
   go_wp2_with fail
   go_ret
   exact ⟨⟨_, rfl, by
    have h := HP.out
    rw [List.take_of_length_le (by rw [HL.out]; exact Nat.le_refl _)] at h
    rw [h]
    rfl⟩, H.below⟩
set_option maxHeartbeats 8000000 in
theorem difCf_any (w : World) (gs gp : Nat) (snm : ByteArray) (cA : Option Addr) (cn cc : Nat) (cl : List Col) (p : Pr) (A : Option Addr) (n c : Nat) (l : List ByteArray) (hx : Ro w None_ (DifIn gs gp snm cA cn cc cl p)) (hl : Ro w None_ (SlR 1 A n (txCells l))) (hn : cn ≤ 1000) (hn2 : n ≤ 1000) : Calls Tryz.prog 125 #[.slice A n c, .func (.func 175) #[] #[.pointer (some ⟨gs, 0, none⟩), .pointer (some ⟨gp, 0, none⟩)]] w fun e w' => e = .returned (.bool (l.any fun s => difC cl s p.upd)) ∧ Below w.heap.size w w' := by
 go_enter Tryz.func125, Tryz.ntmps125
 go_wp2_with fail
 refine (difIx_any w gs gp snm cA cn cc cl p A n c l hx hl hn hn2).mono ?_
 rintro e w2 ⟨⟨r, rfl, hr⟩, b2⟩
 have HR := hid hr
 clear hr
 go_wp2_with fail
 go_ret
 exact ⟨by rw [← HR.out] <;> rfl, b2⟩
set_option maxHeartbeats 8000000 in
theorem differs_any (w : World) (snm : ByteArray) (cA : Option Addr) (cn cc : Nat) (cl : List Col) (p : Pr) (A : Option Addr) (n c : Nat) (l : List ByteArray) (hC : Ro w None_ (SlR 4 cA cn (colCells cl))) (h1 : Ro w None_ (VlsIn p.oA p.on p.old)) (h2 : Ro w None_ (VlsIn p.nA p.nn p.new)) (hl : Ro w None_ (SlR 1 A n (txCells l))) (hn : cn ≤ 1000) (hn2 : n ≤ 1000) : Calls Tryz.prog 120 #[.agg #[.int .i64 p.id, .slice p.oA p.on p.oc, .slice p.nA p.nn p.nc], .slice A n c, .agg #[.string snm, .slice cA cn cc]] w fun e w' => e = .returned (.bool (l.any fun s => difC cl s p.upd)) ∧ Below w.heap.size w w' := by
 have K0 := ((((((Hold.start None_ w zn).add (h2.less (by simp [Mut]))).add (h1.less (by simp [Mut, Hp.foot]))).add (hC.less (by simp [Mut, Hp.foot]))).add (hl.less (by simp [Mut, Hp.foot]))).alloc_cst #[.int .i64 p.id, .slice p.oA p.on p.oc, .slice p.nA p.nn p.nc] 116).alloc_cst #[.string snm, .slice cA cn cc] 49
 rw [World.size_alloc] at K0
 clear hC h1 h2 hl
 have hD : Ro _ _ (DifIn (w.heap.size + 1) w.heap.size snm cA cn cc cl p) := ((K0.get 0 rfl).and ((K0.get 1 rfl).and ((K0.ro 3 rfl).and ((K0.ro 4 rfl).and (K0.ro 5 rfl))))).imp fun w2 h2 => h2
 go_enter Tryz.func120, Tryz.ntmps120
 go_wp2_with fail
 refine (difCf_any _ _ _ snm cA cn cc cl p A n c l (hD.less zn) ((K0.ro 2 rfl).less zn) hn hn2).mono ?_
 rintro e w2 ⟨rfl, b2⟩
 have HB := hid (K0.call b2).below
 clear K0 b2 hD
 go_wp2_with fail
 go_ret
 exact ⟨rfl, HB.out⟩
end Go.Proofs.YtdkebcfkchhlmaaGreatDoor

namespace Go.Proofs.YtdkebcfkchhlmaaGreatDoor
open Go.RowKit
set_option linter.unusedVariables false
set_option linter.unusedSimpArgs false
/-- does an update concern a trigger? -/
def hitU (ol : List ByteArray) (cl : List Col) (u : Upd) : Bool := ol.isEmpty || ol.any fun s => difC cl s u
/-- the part of a difference that concerns a trigger on an event -/
def matchD (ev : Int) (ol : List ByteArray) (cl : List Col) (ins del : List Row) (upd : List Upd) : List Row × List Row × List Upd :=
 if ev = 1 then (ins, [], []) else if ev = 3 then ([], del, []) else if ev = 2 then ([], [], upd.filter (hitU ol cl)) else ([], [], [])
theorem take_next {α : Type} {l : List α} {j : Nat} {x : α} (hx : l[j]? = some x) : l.take (j + 1) = l.take j ++ [x] := by
 obtain ⟨hl, e⟩ := List.getElem?_eq_some_iff.1 hx
 rw [List.take_succ_eq_append_getElem hl, e]
def PairSl (M : Nat → Prop) (x : Pr) (u : Value) (w : World) : Prop := ∃ (C : Option Addr) (c : Nat) (E : Option Addr) (d : Nat), u = .agg #[.int .i64 x.id, .slice C x.old.length c, .slice E x.new.length d] ∧ (x.old.length ≤ c ∧ c ≤ 9223372036854775807) ∧ (x.new.length ≤ d ∧ d ≤ 9223372036854775807) ∧ Ro w M (VlsIn C x.old.length x.old) ∧ Ro w M (VlsIn E x.new.length x.new)
theorem pairSl_mono {M : Nat → Prop} {x : Pr} (u : Value) (w w' : World) (hr : RM M w w') (h : PairSl M x u w) : PairSl M x u w' := by
 obtain ⟨C, c, E, d, h1, h2, h3, h4, h5⟩ := h
 exact ⟨C, c, E, d, h1, h2, h3, hr.ro h4, hr.ro h5⟩
def PairOne (M : Nat → Prop) (x : Pr) (u : Value) (w : World) : Prop := ∃ (g : Nat) (C : Option Addr) (c : Nat) (E : Option Addr) (d : Nat), u = .slice (some ⟨g, 0, none⟩) 1 1 ∧ (x.old.length ≤ c ∧ c ≤ 9223372036854775807) ∧ (x.new.length ≤ d ∧ d ≤ 9223372036854775807) ∧ Ro w M (SlR 3 (some ⟨g, 0, none⟩) 1 [.int .i64 x.id, .slice C x.old.length c, .slice E x.new.length d]) ∧ Ro w M (VlsIn C x.old.length x.old) ∧ Ro w M (VlsIn E x.new.length x.new)
theorem pairOne_mono {M : Nat → Prop} {x : Pr} (u : Value) (w w' : World) (hr : RM M w w') (h : PairOne M x u w) : PairOne M x u w' := by
 obtain ⟨g, C, c, E, d, h1, h2, h3, h4, h5, h6⟩ := h
 exact ⟨g, C, c, E, d, h1, h2, h3, hr.ro h4, hr.ro h5, hr.ro h6⟩
def MatRet (w : World) (M : Nat → Prop) (dn : ByteArray) (r : List Row × List Row × List Upd) (e : Ending) (w' : World) : Prop := ∃ (I : Option Addr) (ni ci : Nat) (li : List Rw) (D : Option Addr) (nd cd : Nat) (ld : List Rw) (U : Option Addr) (nu cu : Nat) (lu : List Pr), e = .returned (.agg #[.string dn, .slice I ni ci, .slice D nd cd, .slice U nu cu]) ∧ (li.map Rw.row, ld.map Rw.row, lu.map Pr.upd) = r ∧ (ni ≤ ci ∧ ci ≤ 9223372036854775807) ∧ (nd ≤ cd ∧ cd ≤ 9223372036854775807) ∧ (nu ≤ cu ∧ cu ≤ 9223372036854775807) ∧ Ro w' M (RwsIn I ni li) ∧ Ro w' M (RwsIn D nd ld) ∧ Ro w' M (PrsIn U nu lu) ∧ Below w.heap.size w w'
set_option maxHeartbeats 16000000 in
set_option maxRecDepth 100000 in
theorem matching_any (M : Nat → Prop) (w : World) (hM : ∀ b, M b → b < w.heap.size) (t : Tg) (snm : ByteArray) (cA : Option Addr) (cn cc : Nat) (cl : List Col) (dn : ByteArray) (I : Option Addr) (ni ci : Nat) (li : List Rw) (D : Option Addr) (nd cd : Nat) (ld : List Rw) (U : Option Addr) (nu cu : Nat) (lu : List Pr) (hO : Ro w M (SlR 1 t.cols.A t.cols.n (txCells t.cols.l))) (hC : Ro w M (SlR 4 cA cn (colCells cl))) (hI : Ro w M (RwsIn I ni li)) (hD : Ro w M (RwsIn D nd ld)) (hU : Ro w M (PrsIn U nu lu)) (h0 : t.cols.n ≤ 1000) (h0c : cn ≤ 1000) (h1 : ni ≤ 1000000) (h2 : nd ≤ 1000000) (h3 : nu ≤ 1000000) (hb : (∀ x ∈ li, x.n ≤ 4398046511104) ∧ ∀ x ∈ ld, x.n ≤ 4398046511104) (hbp : ∀ x ∈ lu, x.on ≤ 4398046511104 ∧ x.nn ≤ 4398046511104) : Calls Tryz.prog 51 #[t.val, .agg #[.string snm, .slice cA cn cc], .agg #[.string dn, .slice I ni ci, .slice D nd cd, .slice U nu cu]] w fun e w' => MatRet w M dn (matchD t.event t.cols.l cl (li.map Rw.row) (ld.map Rw.row) (lu.map Pr.upd)) e w' := by
 obtain ⟨tn, tt, tb, te, ⟨oA, on, oc, ol⟩, tch, ⟨pA, pn, pc, pl⟩, ⟨qA, qn, qc, ql⟩, ⟨rA, rn, rc, rl⟩, ⟨kA, kn, kc, kl⟩, ⟨aA, an, ac, al⟩⟩ := t
 have hon : on ≤ 1000 := h0
 have HB := hid hb
 have HBP := hid hbp
 have HLO := hid (show ol.length = on from StrsTx.len hO.now)
 have HL2 := hid (show lu.length = nu from hU.now.len)
 have KS := (Hold.start M w hM) |>.add (hU.less (by simp [Mut])) |>.add (hD.less (by simp [Mut, Hp.foot])) |>.add (hI.less (by simp [Mut, Hp.foot])) |>.add (hC.less (by simp [Mut, Hp.foot])) |>.add (hO.less (by simp [Mut, Hp.foot])) |>.alloc_cst #[.string tn, .string tt, .bool tb, .int .i64 te, .slice oA on oc, .bool tch, .slice pA pn pc, .slice qA qn qc, .slice rA rn rc, .slice kA kn kc, .slice aA an ac] 40 |>.alloc_cst #[.string snm, .slice cA cn cc] 49 |>.alloc_cst #[.string dn, .slice I ni ci, .slice D nd cd, .slice U nu cu] 44 |>.alloc #[.string ⟨#[]⟩, .slice none 0 0, .slice none 0 0, .slice none 0 0] 44 |>.alloc #[.string dn, .slice none 0 0, .slice none 0 0, .slice none 0 0] 44
 simp only [World.size_alloc] at KS
 obtain ⟨gt, hgt⟩ : ∃ g, g = w.heap.size := ⟨_, rfl⟩
 rw [← hgt] at KS
 obtain ⟨gs, hgs⟩ : ∃ g, g = gt + 1 := ⟨_, rfl⟩
 obtain ⟨gd, hgd⟩ : ∃ g, g = gs + 1 := ⟨_, rfl⟩
 obtain ⟨gr, hgr⟩ : ∃ g, g = gd + 1 := ⟨_, rfl⟩
 obtain ⟨g7, hg7⟩ : ∃ g, g = gr + 1 := ⟨_, rfl⟩
 rw [← hgs, ← hgd, ← hgr, ← hg7] at KS
 have K1 : Hold M none w _ [.blk g7 44 #[.string dn, .slice none 0 0, .slice none 0 0, .slice none 0 0], .cst gt 40 #[.string tn, .string tt, .bool tb, .int .i64 te, .slice oA on oc, .bool tch, .slice pA pn pc, .slice qA qn qc, .slice rA rn rc, .slice kA kn kc, .slice aA an ac], .cst gs 49 #[.string snm, .slice cA cn cc], .cst gd 44 #[.string dn, .slice I ni ci, .slice D nd cd, .slice U nu cu], .blk gr 44 #[.string ⟨#[]⟩, .slice none 0 0, .slice none 0 0, .slice none 0 0], .ro (SlR 1 oA on (txCells ol)), .ro (SlR 4 cA cn (colCells cl)), .ro (RwsIn I ni li), .ro (RwsIn D nd ld), .ro (PrsIn U nu lu)] := KS.pick [0, 4, 3, 2, 1, 5, 6, 7, 8, 9] (by decide) rfl
 clear hO hC hI hD hU KS hb hbp h0
 simp only [Tg.val]
 have F1 := K1.facts
 simp only [factsL, cellsF, Nat.reduceAdd, zf, zl] at F1
 rw [hg7, hgr, hgd, hgs, hgt] at F1
 go_enter Tryz.func51, Tryz.ntmps51
 go_upto_region 2 with fail
 rw [← hgt, ← hgs, ← hgd, ← hgr, ← hg7] at F1 ⊢
 have HG := hid (And.intro hgt (And.intro hgs (And.intro hgd (And.intro hgr hg7))))
 clear hgt hgs hgd hgr hg7
 generalize World.alloc _ _ = w1 at K1 F1 ⊢
 by_cases e1 : te = 1
 ·subst e1
  go_wp2_with fail
  refine (deepRows_any (Mut M _) _ K1.mutLt I ni ci li (K1.ro 7 rfl) (by omega) (HB.out.1)).mono ?_
  rintro e w2 ⟨C, q, cap, k, rfl, hk, hc, hlen, rC, b2⟩
  have HK := hid (And.intro hk hlen)
  have HCP := hid hc
  have K2 := (K1.call b2).add rC
  clear K1 F1 b2 rC hk hc hlen
  have K3 := K2.store 1 rfl 1 (.slice C q cap)
  simp only [zl] at K3
  have K4 := (((K3.store 5 rfl 0 (.string dn)).store 5 rfl 1 (.slice C q cap)).store 5 rfl 2 (.slice none 0 0)).store 5 rfl 3 (.slice none 0 0)
  simp only [zl] at K4
  have F2 := K2.facts
  simp only [factsL, cellsF, Nat.reduceAdd, zf, zl] at F2
  have F3 := K3.facts
  simp only [factsL, cellsF, Nat.reduceAdd, zf, zl] at F3
  have F4 := K4.facts
  simp only [factsL, cellsF, Nat.reduceAdd, zf, zl] at F4
  have HR := hid ((K4.ro 0 rfl).less zm)
  have HBL := hid K4.below
  clear K2 K3 K4
  go_wp2_with fail
  refine bodyPost_ret (v := .agg #[.string dn, .slice C q cap, .slice none 0 0, .slice none 0 0]) ?_ rfl ?_
  ·clear HR HBL
   simp [results, Tryz.results51, go_sem, F4]
  ·exact ⟨C, q, cap, k, none, 0, 0, [], none, 0, 0, [], rfl, by simp [matchD, HK.out.1], HCP.out, ⟨Nat.le_refl _, by simp⟩, ⟨Nat.le_refl _, by simp⟩, HR.out, (fun w2 _ _ => ⟨slr_nil 2 w2, fun _ hx => (nomatch hx)⟩), (fun w2 _ _ => ⟨slr_nil 3 w2, fun _ hx => (nomatch hx)⟩), HBL.out⟩
 ·have b1 : (te == 1) = false := by simpa using e1
  by_cases e3 : te = 3
  ·subst e3
   go_wp2_with fail
   refine (deepRows_any (Mut M _) _ K1.mutLt D nd cd ld (K1.ro 8 rfl) (by omega) (HB.out.2)).mono ?_
   rintro e w2 ⟨C, q, cap, k, rfl, hk, hc, hlen, rC, b2⟩
   have HK := hid (And.intro hk hlen)
   have HCP := hid hc
   have K2 := (K1.call b2).add rC
   clear K1 F1 b2 rC hk hc hlen
   have K3 := K2.store 1 rfl 2 (.slice C q cap)
   simp only [zl] at K3
   have K4 := (((K3.store 5 rfl 0 (.string dn)).store 5 rfl 1 (.slice none 0 0)).store 5 rfl 2 (.slice C q cap)).store 5 rfl 3 (.slice none 0 0)
   simp only [zl] at K4
   have F2 := K2.facts
   simp only [factsL, cellsF, Nat.reduceAdd, zf, zl] at F2
   have F3 := K3.facts
   simp only [factsL, cellsF, Nat.reduceAdd, zf, zl] at F3
   have F4 := K4.facts
   simp only [factsL, cellsF, Nat.reduceAdd, zf, zl] at F4
   have HR := hid ((K4.ro 0 rfl).less zm)
   have HBL := hid K4.below
   clear K2 K3 K4
   go_wp2_with fail
   refine bodyPost_ret (v := .agg #[.string dn, .slice none 0 0, .slice C q cap, .slice none 0 0]) ?_ rfl ?_
   ·clear HR HBL
    simp [results, Tryz.results51, go_sem, F4]
   ·exact ⟨none, 0, 0, [], C, q, cap, k, none, 0, 0, [], rfl, by simp [matchD, HK.out.1], ⟨Nat.le_refl _, by simp⟩, HCP.out, ⟨Nat.le_refl _, by simp⟩, (fun w2 _ _ => ⟨slr_nil 2 w2, fun _ hx => (nomatch hx)⟩), HR.out, (fun w2 _ _ => ⟨slr_nil 3 w2, fun _ hx => (nomatch hx)⟩), HBL.out⟩
  ·have b3 : (te == 3) = false := by simpa using e3
   by_cases e2 : te = 2
   ·subst e2
    clear e1 e3 b1 b3
    have K2 : Hold M none w _ [.blk g7 44 #[.string dn, .slice none 0 0, .slice none 0 0, .slice none 0 0], .cst gt 40 #[.string tn, .string tt, .bool tb, .int .i64 2, .slice oA on oc, .bool tch, .slice pA pn pc, .slice qA qn qc, .slice rA rn rc, .slice kA kn kc, .slice aA an ac], .cst gs 49 #[.string snm, .slice cA cn cc], .cst gd 44 #[.string dn, .slice I ni ci, .slice D nd cd, .slice U nu cu], .blk gr 44 #[.string ⟨#[]⟩, .slice none 0 0, .slice none 0 0, .slice none 0 0], .ro (SlR 1 oA on (txCells ol)), .ro (SlR 4 cA cn (colCells cl)), .ro (RwsIn I ni li), .ro (RwsIn D nd ld), .ro (PrsIn U nu lu), .own 116 3 (.slice none 0 0) 0 (prCells []), .ro (PrVals [])] := ((K1.add (S := PrVals []) (fun w2 _ _ x hx => (nomatch hx))).nil 116 3).pick [2, 3, 4, 5, 6, 7, 8, 9, 10, 11, 0, 1] (by decide) rfl
    clear K1 F1
    have F2 := K2.facts
    simp only [factsL, cellsF, Nat.reduceAdd, zf, zl] at F2
    go_wp2_with fail
    clear F2
    go_loopw [32] (fun iv wr => ∃ (j k cap : Nat) (O : Option Addr) (outs : List Pr), j ≤ nu ∧ k ≤ j ∧ iv = .int .i64 j ∧ Hid (outs.map Pr.upd = ((lu.take j).map Pr.upd).filter (hitU ol cl)) ∧ Hold M none w wr [.blk g7 44 #[.string dn, .slice none 0 0, .slice none 0 0, .slice O k cap], .cst gt 40 #[.string tn, .string tt, .bool tb, .int .i64 2, .slice oA on oc, .bool tch, .slice pA pn pc, .slice qA qn qc, .slice rA rn rc, .slice kA kn kc, .slice aA an ac], .cst gs 49 #[.string snm, .slice cA cn cc], .cst gd 44 #[.string dn, .slice I ni ci, .slice D nd cd, .slice U nu cu], .blk gr 44 #[.string ⟨#[]⟩, .slice none 0 0, .slice none 0 0, .slice none 0 0], .ro (SlR 1 oA on (txCells ol)), .ro (SlR 4 cA cn (colCells cl)), .ro (RwsIn I ni li), .ro (RwsIn D nd ld), .ro (PrsIn U nu lu), .own 116 3 (.slice O k cap) k (prCells outs), .ro (PrVals outs)]) (fun iv _ => nu - (intOf iv).toNat)
    case atStart => exact ⟨0, 0, 0, none, [], by omega, by omega, rfl, hid rfl, K2⟩
    case round =>
     clear K2
     obtain ⟨j, k, cap, O, outs, hj, hkj, rfl, HO, H⟩ := hrel
     by_cases hlt : j < nu
     ·obtain ⟨x, hx⟩ := get_of HL2.out hlt
      obtain ⟨bU, oU, rfl, hb, c0, c1, c2, hv, hv2⟩ := (H.ro 9 rfl).now.at_ hx
      have hmx := List.mem_of_getElem? hx
      have HX := hid hx
      have hxb := HBP.out x hmx
      clear hx hv hv2
      have K3 := ((H.add (S := VlsIn x.nA x.nn x.new) ((H.ro 9 rfl).imp fun w2 h2 => (h2.2 x hmx).2)).add (S := VlsIn x.oA x.on x.old) (((H.ro 9 rfl).imp fun w2 h2 => (h2.2 x hmx).1).less (by simp [mut_cons, Mut, Hp.foot]))).alloc_cst #[.int .i64 x.id, .slice x.oA x.on x.oc, .slice x.nA x.nn x.nc] 116
      obtain ⟨g9, hg9⟩ : ∃ g, g = wr.heap.size := ⟨_, rfl⟩
      rw [← hg9] at K3
      clear H
      go_upto_region 11 with fail
      rw [← hg9]
      have HG9 := hid hg9
      clear hg9 c0 c1 c2
      generalize World.alloc _ _ = w4 at K3 ⊢
      have F3 := K3.facts
      simp only [factsL, cellsF, Nat.reduceAdd, zf, zl] at F3
      go_cut [46] from 36 to 46 (fun v wx => v = .bool (hitU ol cl x.upd) ∧ Hold M none w wx (.cst g9 116 #[.int .i64 x.id, .slice x.oA x.on x.oc, .slice x.nA x.nn x.nc] :: .ro (VlsIn x.oA x.on x.old) :: .ro (VlsIn x.nA x.nn x.new) :: [.blk g7 44 #[.string dn, .slice none 0 0, .slice none 0 0, .slice O k cap], .cst gt 40 #[.string tn, .string tt, .bool tb, .int .i64 2, .slice oA on oc, .bool tch, .slice pA pn pc, .slice qA qn qc, .slice rA rn rc, .slice kA kn kc, .slice aA an ac], .cst gs 49 #[.string snm, .slice cA cn cc], .cst gd 44 #[.string dn, .slice I ni ci, .slice D nd cd, .slice (some ⟨bU, oU, none⟩) nu cu], .blk gr 44 #[.string ⟨#[]⟩, .slice none 0 0, .slice none 0 0, .slice none 0 0], .ro (SlR 1 oA on (txCells ol)), .ro (SlR 4 cA cn (colCells cl)), .ro (RwsIn I ni li), .ro (RwsIn D nd ld), .ro (PrsIn (some ⟨bU, oU, none⟩) nu lu), .own 116 3 (.slice O k cap) k (prCells outs), .ro (PrVals outs)]))
      case first =>
       by_cases h0 : on = 0
       ·have h0b : ((on : Int) == 0) = true := by simp [h0]
        have HH := hid (show hitU ol cl x.upd = true from by
         have : ol = [] := List.eq_nil_of_length_eq_zero (by rw [HLO.out, h0])
         rw [this]; rfl)
        clear h0
        go_wp2_with fail
        go_meet
        exact ⟨by rw [HH.out], K3⟩
       ·have h0b : ((on : Int) == 0) = false := by simp; omega
        have HH := hid (show hitU ol cl x.upd = (ol.any fun s => difC cl s x.upd) from by
         have : ol ≠ [] := fun h => h0 (by rw [← HLO.out, h]; rfl)
         unfold hitU
         rw [show ol.isEmpty = false from by cases ol with | nil => exact absurd rfl this | cons _ _ => rfl]
         simp)
        clear h0
        go_wp2_with (go_at_call 120; go_must (refine (differs_any _ snm cA cn cc cl x oA on oc ol ((K3.ro 9 rfl).less zn) ((K3.ro 1 rfl).less zn) ((K3.ro 2 rfl).less zn) ((K3.ro 8 rfl).less zn) (by omega) (by omega)).mono ?_); rintro e w5 ⟨rfl, b5⟩; replace K3 := K3.call b5; clear b5)
        go_meet
        exact ⟨by rw [HH.out], K3⟩
      case rest =>
       obtain ⟨rfl, K4⟩ := hcut
       clear K3 F3
       obtain ⟨z, hz⟩ : ∃ z : Bool, hitU ol cl x.upd = z := ⟨_, rfl⟩
       rw [hz]
       have HZ := hid hz
       clear hz
       cases z
       ·go_wp2_with fail
        go_roundw
        case rel => exact ⟨j + 1, k, cap, O, outs, by omega, by omega, by go_num, hid (by rw [HO.out, take_next HX.out, List.map_append, List.filter_append]; simp [HZ.out]), K4.drop (((List.sublist_cons_self _ _).cons _).cons _)⟩
        case measure => simp [intOf]; omega
       ·obtain ⟨KM, hKM, K6⟩ := K4.name
        have H1 : ∀ wv : World, Hold M none w wv KM → Blk wv g9 116 #[.int .i64 x.id, .slice x.oA x.on x.oc, .slice x.nA x.nn x.nc] := fun wv h => by rw [hKM] at h; exact h.cst_ 0 rfl
        have H2 : ∀ wv : World, Hold M none w wv KM → Ro wv (Mut M KM) (VlsIn x.oA x.on x.old) := fun wv h => by rw [hKM] at h ⊢; exact h.ro 1 rfl
        have H3 : ∀ wv : World, Hold M none w wv KM → Ro wv (Mut M KM) (VlsIn x.nA x.nn x.new) := fun wv h => by rw [hKM] at h ⊢; exact h.ro 2 rfl
        have H4 : ∀ wv : World, Hold M none w wv KM → Blk wv g7 44 #[.string dn, .slice none 0 0, .slice none 0 0, .slice O k cap] := fun wv h => by rw [hKM] at h; exact h.blk_ 3 rfl
        have HH1 := hid H1
        have HH2 := hid H2
        have HH3 := hid H3
        have HH4 := hid H4
        have HKM := hid hKM
        clear hKM H1 H2 H3 H4 K4
        go_upto_region 12 with fail
        refine wp_region_any (by kernel_rfl) ?_
        refine wpAny_hold 5 56 (KM) (spL [(50, PairSl (Mut M KM) x), (51, PairOne (Mut M KM) x)]) (by kernel_rfl) (by kernel_rfl) (by kernel_rfl) rfl ?_ (K6.drew) ?_
        ·exact stays_cons pairSl_mono (stays_cons pairOne_mono (stays_nil _))
        simp only [zd, Act.put, List.getElem_toArray, List.getElem_cons_zero, List.getElem_cons_succ, zl]
        refine dw_val rfl rfl rfl ?_; apply Exists.intro; refine ⟨fun wv HC => ?_, ?_⟩
        · go_simp <;> rfl
        simp only [Act.put, zl]
        refine dw_val rfl rfl rfl ?_; apply Exists.intro; refine ⟨fun wv HC => ?_, ?_⟩
        ·have q0 := (HH4.out _ HC).cell 3; go_simp <;> rfl
        simp only [Act.put, zl]
        refine dw_val rfl rfl rfl ?_; apply Exists.intro; refine ⟨fun wv HC => ?_, ?_⟩
        ·obtain q0 := (HH1.out _ HC).cell 0; obtain q1 := (HH1.out _ HC).cell 1; obtain q2 := (HH1.out _ HC).cell 2; go_simp <;> rfl
        simp only [Act.put, zl]
        refine dw_callR 50 (PairSl (Mut M KM) x) (f := 121) (args := #[.agg #[.int .i64 x.id, .slice x.oA x.on x.oc, .slice x.nA x.nn x.nc]]) rfl rfl rfl rfl (fun wv => ?_) (fun wv HC hrm hD => ?_) ?_
        ·go_simp <;> rfl
        ·refine (deepPair_any (Mut M KM) wv HC.mutLt x (HH2.out _ HC) (HH3.out _ HC) hxb.1 hxb.2).mono ?_
         rintro e w5 ⟨C, c, E, d, rfl, hc, hd, rC, rE, b5⟩
         exact ⟨_, rfl, ⟨C, c, E, d, rfl, hc, hd, rC, rE⟩, HC.call b5, RM.below b5⟩
        rintro u wx HCx ⟨C, c, E, d, rfl, hc, hd, rC, rE⟩
        clear HCx rC rE
        simp only [Act.put, zl]
        refine dw_new #[.int .i64 x.id, .slice C x.old.length c, .slice E x.new.length d] 116 51 (PairOne (Mut M KM) x) (fun g => .slice (some ⟨g, 0, none⟩) 1 1) rfl rfl rfl rfl (fun wv => ?_) (fun wv HC hrm hD hro => ?_) ?_
        ·go_simp <;> rfl
        ·have h1 : PairSl (Mut M KM) x (.agg #[.int .i64 x.id, .slice C x.old.length c, .slice E x.new.length d]) wv := deps_at hD 3 rfl (by kernel_rfl) rfl rfl
         obtain ⟨C', c', E', d', e', hc, hd, rC, rE⟩ := h1
         obtain ⟨rfl, rfl, rfl, rfl⟩ : C = C' ∧ c = c' ∧ E = E' ∧ d = d' := by
          injection e' with e'
          have h1 := congrArg (fun a : Array Value => a[1]?) e'
          have h2 := congrArg (fun a : Array Value => a[2]?) e'
          simp only [List.getElem?_toArray, List.getElem?_cons_zero, List.getElem?_cons_succ, Option.some.injEq, Value.slice.injEq] at h1 h2
          exact ⟨h1.1, h1.2.2, h2.1, h2.2.2⟩
         exact ⟨_, C, c, E, d, rfl, hc, hd, ro_block (hro _ HC.mutLt) rfl, (RM.alloc (Mut M KM) wv _).ro rC, (RM.alloc (Mut M KM) wv _).ro rE⟩
        rintro g51 wg HCg h51
        simp only [Act.put, zl]
        clear HCg h51
        refine rel_nil ?_
        rintro wx3 HX3
        rintro _hrm HGW
        have h1 : PairOne (Mut M KM) x (.slice (some ⟨g51, 0, none⟩) 1 1) wx3 := (GW_on (d := 51) rfl).1 (HGW 4 _ rfl (by omega))
        clear HGW _hrm hc hd
        obtain ⟨g', C', c', E', d', e', hc, hd, rG, rC, rE⟩ := h1
        obtain rfl : g51 = g' := by injection e' with e'; injection e' with e'; injection e'
        have K7 := (HX3.add rC).add (rE.less (by simp [mut_cons, Hp.foot]))
        have HG := hid rG.now
        rw [HKM.out] at K7
        clear HX3 rG rC rE HH1 HH2 HH3 HH4 HKM K6 e'
        have F7 := K7.facts
        simp only [factsL, cellsF, Nat.reduceAdd, zf, zl] at F7
        go_wp2_with (at_builtin; go_must (refine wpList_appAllH K7 15 rfl Tryz.elPr HG.out rfl (.tmp 48) (.tmp 51) rfl rfl rfl (by intro u hu; simp at hu; rcases hu with rfl | rfl | rfl <;> rfl) (by omega) (by omega) ?_); intro G1 gc1 wB hcB hmB KE; simp only [zl] at KE; (have FE := KE.facts); simp only [factsL, cellsF, Nat.reduceAdd, zf, zl] at FE)
        rw [show prCells outs ++ [.int .i64 x.id, .slice C' x.old.length c', .slice E' x.new.length d'] = prCells (outs ++ [⟨x.id, C', x.old.length, c', x.old, E', x.new.length, d', x.new⟩]) by simp [prCells, Pr.cells]] at KE
        have hR : Ro _ _ (PrVals (outs ++ [⟨x.id, C', x.old.length, c', x.old, E', x.new.length, d', x.new⟩])) := ((KE.ro 16 rfl).and ((KE.ro 1 rfl).and (KE.ro 0 rfl))).imp fun w2 h2 y hy => by
         rcases List.mem_append.1 hy with hy | hy
         ·exact h2.1 y hy
         ·simp only [List.mem_cons, List.not_mem_nil, or_false] at hy
          subst hy
          exact ⟨h2.2.1, h2.2.2⟩
        have KF := ((KE.swapRo 16 rfl hR).store 5 rfl 3 (.slice G1 (k + 1) gc1)).drop (((((List.sublist_cons_self _ _).cons _).cons _).cons _).cons _)
        simp only [zl] at KF
        go_roundw
        case rel => exact ⟨j + 1, k + 1, gc1, G1, outs ++ [⟨x.id, C', x.old.length, c', x.old, E', x.new.length, d', x.new⟩], by omega, by omega, by go_num, hid (by rw [List.map_append, HO.out, take_next HX.out, List.map_append, List.filter_append]; simp [show hitU ol cl (x.id, x.old, x.new) = true from HZ.out, Pr.upd]), KF⟩
        case measure => simp [intOf]; omega
     ·obtain rfl : nu = j := by omega
      have hcap := own_caps (H.get 10 rfl)
      have K4 := (((H.store 4 rfl 0 (.string dn)).store 4 rfl 1 (.slice none 0 0)).store 4 rfl 2 (.slice none 0 0)).store 4 rfl 3 (.slice O k cap)
      simp only [zl] at K4
      have F2 := H.facts
      simp only [factsL, cellsF, Nat.reduceAdd, zf, zl] at F2
      have F4 := K4.facts
      simp only [factsL, cellsF, Nat.reduceAdd, zf, zl] at F4
      have KZ := K4.sealRow 10 rfl
      simp only [zl] at KZ
      have hR : Ro _ _ (PrsIn O k outs) := ((KZ.ro 10 rfl).and (KZ.ro 11 rfl)).imp fun w2 h2 => ⟨h2.1, h2.2⟩
      have HR := hid (hR.less zm)
      have HBL := hid KZ.below
      clear KZ K4 H hR
      go_wp2_with fail
      refine bodyPost_ret (v := .agg #[.string dn, .slice none 0 0, .slice none 0 0, .slice O k cap]) ?_ rfl ?_
      ·clear HR HBL
       simp [results, Tryz.results51, go_sem, F4]
      ·exact ⟨none, 0, 0, [], none, 0, 0, [], O, k, cap, outs, rfl, by
        have h := HO.out
        rw [List.take_of_length_le (by rw [HL2.out]; exact Nat.le_refl _)] at h
        simp [matchD, h], ⟨Nat.le_refl _, by simp⟩, ⟨Nat.le_refl _, by simp⟩, ⟨hcap.1, hcap.2.1⟩, (fun w2 _ _ => ⟨slr_nil 2 w2, fun _ hx => (nomatch hx)⟩), (fun w2 _ _ => ⟨slr_nil 2 w2, fun _ hx => (nomatch hx)⟩), HR.out, HBL.out⟩
   ·have b2 : (te == 2) = false := by simpa using e2
    have HM := hid (show matchD te ol cl (li.map Rw.row) (ld.map Rw.row) (lu.map Pr.upd) = ([], [], []) from by unfold matchD; rw [if_neg e1, if_neg e3, if_neg e2])
    have K4 := (((K1.store 4 rfl 0 (.string dn)).store 4 rfl 1 (.slice none 0 0)).store 4 rfl 2 (.slice none 0 0)).store 4 rfl 3 (.slice none 0 0)
    simp only [zl] at K4
    have F4 := K4.facts
    simp only [factsL, cellsF, Nat.reduceAdd, zf, zl] at F4
    have HBL := hid K4.below
    clear K4 K1 e1 e2 e3
    go_wp2_with fail
    refine bodyPost_ret (v := .agg #[.string dn, .slice none 0 0, .slice none 0 0, .slice none 0 0]) ?_ rfl ?_
    ·clear HBL
     simp [results, Tryz.results51, go_sem, F4]
    ·exact ⟨none, 0, 0, [], none, 0, 0, [], none, 0, 0, [], rfl, by rw [HM.out]; rfl, ⟨Nat.le_refl _, by simp⟩, ⟨Nat.le_refl _, by simp⟩, ⟨Nat.le_refl _, by simp⟩, (fun w2 _ _ => ⟨slr_nil 2 w2, fun _ hx => (nomatch hx)⟩), (fun w2 _ _ => ⟨slr_nil 2 w2, fun _ hx => (nomatch hx)⟩), (fun w2 _ _ => ⟨slr_nil 3 w2, fun _ hx => (nomatch hx)⟩), HBL.out⟩
end Go.Proofs.YtdkebcfkchhlmaaGreatDoor

namespace Go.Proofs.YtdkebcfkchhlmaaGreatDoor
open Go.RowKit
set_option linter.unusedVariables false
set_option linter.unusedSimpArgs false
/-- a difference in memory as an element -/
structure De where
 nm : ByteArray
 I : Option Addr
 ni : Nat
 ci : Nat
 li : List Rw
 D : Option Addr
 nd : Nat
 cd : Nat
 ld : List Rw
 U : Option Addr
 nu : Nat
 cu : Nat
 lu : List Pr
def De.cells (x : De) : List Value := [.string x.nm, .slice x.I x.ni x.ci, .slice x.D x.nd x.cd, .slice x.U x.nu x.cu]
def De.val (x : De) : Value := .agg #[.string x.nm, .slice x.I x.ni x.ci, .slice x.D x.nd x.cd, .slice x.U x.nu x.cu]
def deCells (l : List De) : List Value := l.flatMap De.cells
theorem deCells_len (l : List De) : (deCells l).length = l.length * 4 := flat_len _ 4 (fun _ => rfl) l
theorem deCells_snoc (l : List De) (x : De) : deCells (l ++ [x]) = deCells l ++ x.cells := by simp [deCells]
def DeIn (x : De) (w : World) : Prop := RwsIn x.I x.ni x.li w ∧ RwsIn x.D x.nd x.ld w ∧ PrsIn x.U x.nu x.lu w
def DesIn (A : Option Addr) (n : Nat) (l : List De) (w : World) : Prop := SlR 4 A n (deCells l) w ∧ ∀ x ∈ l, DeIn x w
theorem DesIn.len {w : World} {A : Option Addr} {n : Nat} {l : List De} (h : DesIn A n l w) : l.length = n := by
 have := (show Rd w w.heap.size 4 A n (deCells l) from h.1).1
 rw [deCells_len] at this
 omega
theorem DesIn.at_ {w : World} {A : Option Addr} {n : Nat} {l : List De} (h : DesIn A n l w) {k : Nat} {x : De} (hx : l[k]? = some x) :
  ∃ b o, A = some ⟨b, o, none⟩ ∧ b < w.heap.size ∧ w.cell? ⟨b, o + k * 4, none⟩ = some (.string x.nm) ∧ w.cell? ⟨b, o + k * 4 + 1, none⟩ = some (.slice x.I x.ni x.ci) ∧ w.cell? ⟨b, o + k * 4 + 2, none⟩ = some (.slice x.D x.nd x.cd) ∧ w.cell? ⟨b, o + k * 4 + 3, none⟩ = some (.slice x.U x.nu x.cu) := by
 have hk : k < n := by rw [← h.len]; exact (List.getElem?_eq_some_iff.1 hx).1
 obtain ⟨b, o, e, hb, hc⟩ := (show Rd w w.heap.size 4 A n (deCells l) from h.1).2 (by omega)
 exact ⟨b, o, e, hb, hc _ _ (flat_get De.cells 4 (fun _ => rfl) l k 0 x (by omega) hx), hc _ _ (flat_get De.cells 4 (fun _ => rfl) l k 1 x (by omega) hx), hc _ _ (flat_get De.cells 4 (fun _ => rfl) l k 2 x (by omega) hx), hc _ _ (flat_get De.cells 4 (fun _ => rfl) l k 3 x (by omega) hx)⟩
def isDe (s : ByteArray) (x : De) : Bool := x.nm.toList == s.toList
set_option maxHeartbeats 2000000 in
theorem evfind1_any (w : World) (x : De) (b : Nat) (s : ByteArray) (t : TypeId) (hb : w.heap[b]? = some (.cells #[.string s] t (0, 0))) :
  Calls Tryz.prog 116 #[x.val, .pointer (some ⟨b, 0, none⟩)] w fun e w' => e = .returned (.bool (isDe s x)) ∧ Below w.heap.size w w' := by
 have hbl : b < w.heap.size := Blk.lt (t := t) (cs := #[.string s]) hb
 have K0 := ((Hold.begin_ w).addCst (g := b) (t := t) (cs := #[.string s]) (fun w2 h1 h2 => (h2 b hbl (by simp [Mut, None_])).trans hb)).alloc_cst #[.string x.nm, .slice x.I x.ni x.ci, .slice x.D x.nd x.cd, .slice x.U x.nu x.cu] 44
 have F0 := K0.facts
 simp only [factsL, cellsF, Nat.reduceAdd, zf, zl] at F0
 simp only [De.val]
 go_enter Tryz.func116, Tryz.ntmps116
 go_wp2_with fail
 go_ret
 exact ⟨rfl, K0.below⟩
set_option maxHeartbeats 4000000 in
set_option maxRecDepth 100000 in
theorem evfindI_any (M : Nat → Prop) (w : World) (hM : ∀ b, M b → b < w.heap.size) (A : Option Addr) (n c : Nat) (l : List De) (b : Nat) (s : ByteArray) (t : TypeId) (hB : Ro w M (fun w => w.heap[b]? = some (.cells #[.string s] t (0, 0)))) (hD : Ro w M (DesIn A n l)) (hn : n ≤ 1000000) :
  Calls Tryz.prog 115 #[.slice A n c, .func (.func 116) #[] #[.pointer (some ⟨b, 0, none⟩)]] w fun e w' => e = .returned (.int .i64 (findB (isDe s) l)) ∧ Below w.heap.size w w' := by
 have HL := hid hD.now.len
 have K0 := (((Hold.start M w hM).add (hB.less (by simp [Mut]))).add (hD.less (by simp [Mut, Hp.foot])))
 go_enter Tryz.func115, Tryz.ntmps115
 go_wp2_with fail
 go_loopw [8] (fun iv wr => ∃ (k : Nat), k ≤ n ∧ iv = .int .i64 k ∧ Hid (findB (isDe s) l = findFrom (isDe s) k (l.drop k)) ∧ Hold M none w wr [.ro (DesIn A n l), .ro (fun w => w.heap[b]? = some (.cells #[.string s] t (0, 0)))]) (fun iv _ => n - (intOf iv).toNat)
 case atStart => exact ⟨0, by omega, rfl, hid rfl, K0⟩
 case round =>
  clear K0
  obtain ⟨k, hk, rfl, HC, H⟩ := hrel
  by_cases hlt : k < n
  ·have hd : decide ((k : Int) < (n : Int)) = true := by simp; omega
   have i0 : (0 : Int) ≤ (k : Int) := by omega
   have i1 : (k : Int) < (n : Int) := by omega
   obtain ⟨x, hx⟩ := get_of HL.out hlt
   obtain ⟨g, o, rfl, hb, c0, c1, c2, c3⟩ := (H.ro 0 rfl).now.at_ hx
   have HX := hid hx
   clear hx
   go_wp2_with fail
   refine (evfind1_any wr x b s t (H.ro 1 rfl).now).mono ?_
   rintro e w1 ⟨rfl, b1⟩
   have K1 := H.call b1
   clear H b1
   cases hz : isDe s x
   ·have HN := hid (find_miss HC.out HX.out hz)
    clear hz
    go_wp2_with fail
    go_roundw
    case rel => exact ⟨k + 1, by omega, by go_num, HN, K1⟩
    case measure => simp [intOf]; omega
   ·have HN := hid (show findB (isDe s) l = (k : Int) from find_hit HC.out HX.out hz)
    clear hz
    go_wp2_with fail
    go_ret
    exact ⟨by rw [HN.out] <;> rfl, K1.below⟩
  ·obtain rfl : n = k := by omega
   have hd : decide ((n : Int) < (n : Int)) = false := by simp
   have HN := hid (show findB (isDe s) l = -1 from find_end HC.out (by rw [HL.out]; exact Nat.le_refl _))
   go_wp2_with fail
   go_ret
   exact ⟨by rw [HN.out] <;> rfl, H.below⟩
/-- What Find answers. -/
def FndRet (w : World) (l : List De) (s : ByteArray) (e : Ending) (w' : World) : Prop := Below w.heap.size w w' ∧ ((l.find? (isDe s) = none ∧ e = .returned (.tuple #[.agg #[.string ⟨#[]⟩, .slice none 0 0, .slice none 0 0, .slice none 0 0], .bool false])) ∨ ∃ x, l.find? (isDe s) = some x ∧ x ∈ l ∧ e = .returned (.tuple #[x.val, .bool true]))
theorem find_none_of {α : Type} {p : α → Bool} {l : List α} (h : findB p l = -1) : l.find? p = none := by
 rw [List.find?_eq_none]
 intro x hx hp
 obtain ⟨i, hi⟩ := List.mem_iff_getElem?.1 hx
 have := (find_le hp hi).1
 omega
theorem find_some_of {α : Type} {p : α → Bool} : ∀ {l : List α} {k : Nat}, findB p l = (k : Int) → ∃ x, l[k]? = some x ∧ l.find? p = some x := by
 intro l k h
 have hlt : k < l.length := by
  have h2 := find_range p l
  rcases l with _ | ⟨x, l⟩
  ·have : findB p ([] : List α) = -1 := find_end (k := 0) rfl (Nat.le_refl _)
   omega
  ·simp only [List.length_cons] at h2 ⊢
   omega
 cases hf : l.find? p with
 | none =>
  exfalso
  have hall : ∀ j, j ≤ l.length → findB p l = findFrom p j (l.drop j) := by
   intro j hj
   induction j with
   | zero => rfl
   | succ j ih =>
    have hj' : j < l.length := by omega
    exact find_miss (ih (by omega)) (List.getElem?_eq_getElem hj') (by
     have := List.find?_eq_none.1 hf l[j] (List.getElem_mem hj')
     simpa using this)
  have := find_end (hall l.length (Nat.le_refl _)) (Nat.le_refl _)
  omega
 | some x =>
  obtain ⟨i, hi, hix, hmin⟩ := List.find?_eq_some_iff_getElem.1 hf |>.2
  have hfi : findB p l = (i : Int) := by
   have hall : ∀ j, j ≤ i → findB p l = findFrom p j (l.drop j) := by
    intro j hj
    induction j with
    | zero => rfl
    | succ j ih =>
     have hj' : j < l.length := by omega
     exact find_miss (ih (by omega)) (List.getElem?_eq_getElem hj') (by
      have := hmin j (by omega)
      simpa using this)
   exact find_hit (hall i (Nat.le_refl _)) (List.getElem?_eq_getElem hi) (by rw [hix]; exact (List.find?_eq_some_iff_getElem.1 hf).1)
  have : i = k := by omega
  subst this
  exact ⟨x, by rw [List.getElem?_eq_getElem hi, hix], rfl⟩
set_option maxHeartbeats 4000000 in
set_option maxRecDepth 100000 in
theorem evfind_any (M : Nat → Prop) (w : World) (hM : ∀ b, M b → b < w.heap.size) (A : Option Addr) (n c : Nat) (l : List De) (s : ByteArray) (hD : Ro w M (DesIn A n l)) (hn : n ≤ 1000000) :
  Calls Tryz.prog 49 #[.slice A n c, .string s] w fun e w' => FndRet w l s e w' := by
 have K0 := (((Hold.start M w hM).add (hD.less (by simp [Mut]))).alloc_cst #[.string s] 9).alloc #[.string ⟨#[]⟩, .slice none 0 0, .slice none 0 0, .slice none 0 0] 44
 simp only [World.size_alloc] at K0
 have HL := hid hD.now.len
 have hce := evfindI_any _ _ K0.mutLt A n c l w.heap.size s 9 (K0.get 1 rfl) (K0.ro 2 rfl) hn
 obtain ⟨gr, hgr⟩ : ∃ g, g = w.heap.size + 1 := ⟨_, rfl⟩
 rw [← hgr] at K0
 have F0 := K0.facts
 simp only [factsL, cellsF, Nat.reduceAdd, zf, zl] at F0
 clear hD
 go_enter Tryz.func49, Tryz.ntmps49
 go_wp2_with fail
 refine hce.mono ?_
 rintro e w1 ⟨rfl, b1⟩
 have K1 := K0.call b1
 clear K0 F0 hce b1
 rw [← hgr]
 have HGR := hid hgr
 clear hgr
 obtain ⟨kf, hkf⟩ : ∃ z : Int, findB (isDe s) l = z := ⟨_, rfl⟩
 rw [hkf]
 have hrg := find_range (isDe s) l
 rw [hkf] at hrg
 by_cases hneg : kf < 0
 ·have HF := hid (find_none_of (show findB (isDe s) l = -1 by omega))
  clear hkf hrg
  have F1 := K1.facts
  simp only [factsL, cellsF, Nat.reduceAdd, zf, zl] at F1
  have K2 := (((K1.store 0 rfl 0 (.string ⟨#[]⟩)).store 0 rfl 1 (.slice none 0 0)).store 0 rfl 2 (.slice none 0 0)).store 0 rfl 3 (.slice none 0 0)
  simp only [zl] at K2
  have F2 := K2.facts
  simp only [factsL, cellsF, Nat.reduceAdd, zf, zl] at F2
  have HB := hid K2.below
  clear K1 K2
  go_wp2_with fail
  refine bodyPost_ret (v := .tuple #[.agg #[.string ⟨#[]⟩, .slice none 0 0, .slice none 0 0, .slice none 0 0], .bool false]) ?_ rfl ?_
  ·clear HB
   simp [results, Tryz.results49, go_sem, F2]
  ·exact ⟨HB.out, .inl ⟨HF.out, rfl⟩⟩
 ·obtain ⟨k, rfl⟩ : ∃ k : Nat, kf = (k : Int) := ⟨kf.toNat, by omega⟩
  obtain ⟨x, hx, hf⟩ := find_some_of hkf
  have HF := hid (And.intro hf (List.mem_of_getElem? hx))
  have hkn : k < n := by rw [← HL.out]; exact (List.getElem?_eq_some_iff.1 hx).1
  have hki : (k : Int) < (n : Int) := by omega
  have hk0 : ¬ ((k : Int) < 0) := by omega
  obtain ⟨b, o, rfl, hb, c0, c1, c2, c3⟩ := (K1.ro 2 rfl).now.at_ hx
  clear hkf hrg hneg hx hf
  have F1 := K1.facts
  simp only [factsL, cellsF, Nat.reduceAdd, zf, zl] at F1
  have K2 := (((K1.store 0 rfl 0 (.string x.nm)).store 0 rfl 1 (.slice x.I x.ni x.ci)).store 0 rfl 2 (.slice x.D x.nd x.cd)).store 0 rfl 3 (.slice x.U x.nu x.cu)
  simp only [zl] at K2
  have F2 := K2.facts
  simp only [factsL, cellsF, Nat.reduceAdd, zf, zl] at F2
  have HB := hid K2.below
  clear K1 K2
  go_wp2_with fail
  refine bodyPost_ret (v := .tuple #[.agg #[.string x.nm, .slice x.I x.ni x.ci, .slice x.D x.nd x.cd, .slice x.U x.nu x.cu], .bool true]) ?_ rfl ?_
  ·clear HB
   simp [results, Tryz.results49, go_sem, F2]
  ·exact ⟨HB.out, .inr ⟨x, HF.out.1, HF.out.2, rfl⟩⟩
/-- how many rows a difference has for an event -/
def cntD (ni nd nu : Nat) (ev : Int) : Int := if ev = 1 then ni else if ev = 2 then nu else if ev = 3 then nd else 0
set_option maxHeartbeats 4000000 in
theorem evcnt_any (w : World) (s : ByteArray) (I : Option Addr) (ni ci : Nat) (D : Option Addr) (nd cd : Nat) (U : Option Addr) (nu cu : Nat) (ev : Int) : Calls Tryz.prog 53 #[.agg #[.string s, .slice I ni ci, .slice D nd cd, .slice U nu cu], .int .i64 ev] w fun e w' => e = .returned (.int .i64 (cntD ni nd nu ev)) ∧ Below w.heap.size w w' := by
 have K0 := (Hold.begin_ w).alloc_cst #[.string s, .slice I ni ci, .slice D nd cd, .slice U nu cu] 44
 have F0 := K0.facts
 simp only [factsL, cellsF, Nat.reduceAdd, zf, zl] at F0
 go_enter Tryz.func53, Tryz.ntmps53
 by_cases e1 : ev = 1
 ·subst e1
  go_wp2_with fail
  go_ret
  exact ⟨rfl, K0.below⟩
 ·have b1 : (ev == 1) = false := by simpa using e1
  by_cases e2 : ev = 2
  ·subst e2
   go_wp2_with fail
   go_ret
   exact ⟨rfl, K0.below⟩
  ·have b2 : (ev == 2) = false := by simpa using e2
   by_cases e3 : ev = 3
   ·subst e3
    go_wp2_with fail
    go_ret
    exact ⟨rfl, K0.below⟩
   ·have b3 : (ev == 3) = false := by simpa using e3
    have HC := hid (show cntD ni nd nu ev = 0 from by unfold cntD; rw [if_neg e1, if_neg e2, if_neg e3])
    clear e1 e2 e3
    go_wp2_with fail
    go_ret
    exact ⟨by rw [HC.out] <;> rfl, K0.below⟩
end Go.Proofs.YtdkebcfkchhlmaaGreatDoor

namespace Go.Proofs.YtdkebcfkchhlmaaGreatDoor
open Go.RowKit
set_option linter.unusedVariables false
set_option linter.unusedSimpArgs false

def isTe (s : ByteArray) (x : Te) : Bool := x.nm.toList == s.toList
def ESrcRet (w : World) (M : Nat → Prop) (nm : ByteArray) (cs : List Col) (e : Ending) (w' : World) : Prop := ∃ (C : Option Addr) (q cap : Nat), e = .returned (.tuple #[.agg #[.string nm, .slice C q cap], .bool true]) ∧ q = cs.length ∧ Ro w' M (ColsIn C q cs) ∧ Below w.heap.size w w'
set_option maxHeartbeats 2000000 in
theorem esrc1_any (w : World) (x : Te) (b : Nat) (s : ByteArray) (t : TypeId) (hb : w.heap[b]? = some (.cells #[.string s] t (0, 0))) :
  Calls Tryz.prog 117 #[.agg #[.string x.nm, .slice x.A x.n x.c, .int .i64 x.nx, .slice x.B x.m x.d], .pointer (some ⟨b, 0, none⟩)] w fun e w' => e = .returned (.bool (isTe s x)) ∧ Below w.heap.size w w' := by
 have hbl : b < w.heap.size := Blk.lt (t := t) (cs := #[.string s]) hb
 have K0 := ((Hold.begin_ w).addCst (g := b) (t := t) (cs := #[.string s]) (fun w2 h1 h2 => (h2 b hbl (by simp [Mut, None_])).trans hb)).alloc_cst #[.string x.nm, .slice x.A x.n x.c, .int .i64 x.nx, .slice x.B x.m x.d] 58
 have F0 := K0.facts
 simp only [factsL, cellsF, Nat.reduceAdd, zf, zl] at F0
 go_enter Tryz.func117, Tryz.ntmps117
 go_wp2_with fail
 go_ret
 exact ⟨rfl, K0.below⟩
set_option maxHeartbeats 2000000 in
set_option maxRecDepth 100000 in
theorem esrcI_any (M : Nat → Prop) (w : World) (hM : ∀ b, M b → b < w.heap.size) (A : Option Addr) (n c : Nat) (l : List Te) (b : Nat) (s : ByteArray) (t : TypeId) (hB : Ro w M (fun w => w.heap[b]? = some (.cells #[.string s] t (0, 0)))) (hD : Ro w M (TesIn A n l)) (hn : n ≤ 4611686018427387904) :
  Calls Tryz.prog 94 #[.slice A n c, .func (.func 117) #[] #[.pointer (some ⟨b, 0, none⟩)]] w fun e w' => e = .returned (.int .i64 (findB (isTe s) l)) ∧ Below w.heap.size w w' := by
 have HL := hid hD.now.len
 have K0 := (((Hold.start M w hM).add (hB.less (by simp [Mut]))).add (hD.less (by simp [Mut, Hp.foot])))
 go_enter Tryz.func94, Tryz.ntmps94
 go_wp2_with fail
 go_loopw [8] (fun iv wr => ∃ (k : Nat), k ≤ n ∧ iv = .int .i64 k ∧ Hid (findB (isTe s) l = findFrom (isTe s) k (l.drop k)) ∧ Hold M none w wr [.ro (TesIn A n l), .ro (fun w => w.heap[b]? = some (.cells #[.string s] t (0, 0)))]) (fun iv _ => n - (intOf iv).toNat)
 case atStart => exact ⟨0, by omega, rfl, hid rfl, K0⟩
 case round =>
  clear K0
  obtain ⟨k, hk, rfl, HC, H⟩ := hrel
  by_cases hlt : k < n
  ·have hd : decide ((k : Int) < (n : Int)) = true := by simp; omega
   have i0 : (0 : Int) ≤ (k : Int) := by omega
   have i1 : (k : Int) < (n : Int) := by omega
   obtain ⟨x, hx⟩ := get_of HL.out hlt
   obtain ⟨g, o, rfl, hb, c0, c1, c2, c3, -⟩ := (H.ro 0 rfl).now.at_ hx
   have HX := hid hx
   clear hx
   go_wp2_with fail
   refine (esrc1_any wr x b s t (H.ro 1 rfl).now).mono ?_
   rintro e w1 ⟨rfl, b1⟩
   have K1 := H.call b1
   clear H b1
   cases hz : isTe s x
   ·have HN := hid (find_miss HC.out HX.out hz)
    clear hz
    go_wp2_with fail
    go_roundw
    case rel => exact ⟨k + 1, by omega, by go_num, HN, K1⟩
    case measure => simp [intOf]; omega
   ·have HN := hid (show findB (isTe s) l = (k : Int) from find_hit HC.out HX.out hz)
    clear hz
    go_wp2_with fail
    go_ret
    exact ⟨by rw [HN.out] <;> rfl, K1.below⟩
  ·obtain rfl : n = k := by omega
   have hd : decide ((n : Int) < (n : Int)) = false := by simp
   have HN := hid (show findB (isTe s) l = -1 from find_end HC.out (by rw [HL.out]; exact Nat.le_refl _))
   go_wp2_with fail
   go_ret
   exact ⟨by rw [HN.out] <;> rfl, H.below⟩
set_option maxHeartbeats 2000000 in
set_option maxRecDepth 100000 in
theorem esource0_any (M : Nat → Prop) (w : World) (hM : ∀ b, M b → b < w.heap.size) (A : Option Addr) (n c : Nat) (l : List Te) (s : ByteArray) (hD : Ro w M (TesIn A n l)) (hn : n ≤ 4611686018427387904) (hf : findB (isTe s) l = -1) :
  Calls Tryz.prog 50 #[.slice A n c, .string s] w fun e w' => e = .returned (.tuple #[.agg #[.string ⟨#[]⟩, .slice none 0 0], .bool false]) ∧ Below w.heap.size w w' := by
 have K0 := (((Hold.start M w hM).add (hD.less (by simp [Mut]))).alloc_cst #[.string s] 9).alloc #[.string ⟨#[]⟩, .slice none 0 0] 49
 simp only [World.size_alloc] at K0
 have F0 := K0.facts
 simp only [factsL, cellsF, Nat.reduceAdd, zf, zl] at F0
 have hce := esrcI_any _ _ K0.mutLt A n c l w.heap.size s 9 (K0.get 1 rfl) (K0.ro 2 rfl) hn
 rw [hf] at hce
 go_enter Tryz.func50, Tryz.ntmps50
 go_wp2_with fail
 refine hce.mono ?_
 rintro e w1 ⟨rfl, b1⟩
 have K1 := K0.call b1
 clear K0 F0 hce b1
 have F1 := K1.facts
 simp only [factsL, cellsF, Nat.reduceAdd, zf, zl] at F1
 have K2 := (K1.store 0 rfl 0 (.string ⟨#[]⟩)).store 0 rfl 1 (.slice none 0 0)
 simp only [zl] at K2
 have F2 := K2.facts
 simp only [factsL, cellsF, Nat.reduceAdd, zf, zl] at F2
 have HB := hid K2.below
 clear K1 K2
 go_wp2_with fail
 exact bodyPost_ret (v := .tuple #[.agg #[.string ⟨#[]⟩, .slice none 0 0], .bool false]) (by simp [results, Tryz.results50, go_sem, F2]) rfl ⟨rfl, HB.out⟩
set_option maxHeartbeats 2000000 in
set_option maxRecDepth 100000 in
theorem esource1_any (M : Nat → Prop) (w : World) (hM : ∀ b, M b → b < w.heap.size) (A : Option Addr) (n c : Nat) (l : List Te) (s : ByteArray) (hD : Ro w M (TesIn A n l)) (hn : n ≤ 4611686018427387904) (k : Nat) (x : Te) (hx : l[k]? = some x) (hf : findB (isTe s) l = (k : Int)) (hxn : x.n ≤ 4398046511104) :
  Calls Tryz.prog 50 #[.slice A n c, .string s] w fun e w' => ESrcRet w M x.nm x.cs e w' := by
 have K0 := (((Hold.start M w hM).add (hD.less (by simp [Mut]))).alloc_cst #[.string s] 9).alloc #[.string ⟨#[]⟩, .slice none 0 0] 49
 simp only [World.size_alloc] at K0
 have F0 := K0.facts
 simp only [factsL, cellsF, Nat.reduceAdd, zf, zl] at F0
 have hce := esrcI_any _ _ K0.mutLt A n c l w.heap.size s 9 (K0.get 1 rfl) (K0.ro 2 rfl) hn
 rw [hf] at hce
 have hkn : k < n := by rw [← hD.now.len]; exact (List.getElem?_eq_some_iff.1 hx).1
 have HX := hid hx
 clear hx hf
 go_enter Tryz.func50, Tryz.ntmps50
 go_wp2_with fail
 refine hce.mono ?_
 rintro e w1 ⟨rfl, b1⟩
 have KA := K0.call b1
 clear K0 F0 hce b1 hD
 obtain ⟨b, o, rfl, hb, c0, c1, -, -, -⟩ := (KA.ro 2 rfl).now.at_ HX.out
 have KB := (KA.add (S := ColsIn x.A x.n x.cs) ((KA.ro 2 rfl).imp fun w2 h2 => (h2.2 x (List.mem_of_getElem? HX.out)).1)).alloc #[.string x.nm, .slice x.A x.n x.c] 49
 have K1 := KB
 have F1 := K1.facts
 simp only [factsL, cellsF, Nat.reduceAdd, zf, zl] at F1
 clear KA K1
 obtain ⟨xnm, xA, xn, xc, xcs, xnx, xB, xm, xd, xl⟩ := x
 go_wp2_with fail
 refine (cloneCols_any _ _ KB.mutLt xA xn xc xcs (KB.ro 1 rfl) hxn).mono ?_
 rintro e w2 ⟨C, q, cap, rfl, hq, hqc, hcap, rC, b2⟩
 have K2 := (KB.call b2).add rC
 clear F1 KB b2 rC c0 c1
 have HQ := hid hq
 clear hq
 obtain ⟨g, hg⟩ : ∃ g, g = w1.heap.size := ⟨_, rfl⟩
 rw [← hg] at K2 ⊢
 have HG := hid hg
 clear hg
 have F2 := K2.facts
 simp only [factsL, cellsF, Nat.reduceAdd, zf, zl] at F2
 have K3 := K2.store 1 rfl 1 (.slice C q cap)
 simp only [zl] at K3
 have F3 := K3.facts
 simp only [factsL, cellsF, Nat.reduceAdd, zf, zl] at F3
 have K4 := (K3.store 3 rfl 0 (.string xnm)).store 3 rfl 1 (.slice C q cap)
 simp only [zl] at K4
 have F4 := K4.facts
 simp only [factsL, cellsF, Nat.reduceAdd, zf, zl] at F4
 have HR := hid ((K4.ro 0 rfl).less zm)
 have HB := hid K4.below
 clear K2 K3 K4
 go_wp2_with fail
 refine bodyPost_ret (v := .tuple #[.agg #[.string xnm, .slice C q cap], .bool true]) ?_ rfl ?_
 ·clear HR HB
  simp [results, Tryz.results50, go_sem, F4]
 ·exact ⟨C, q, cap, rfl, HQ.out, HR.out, HB.out⟩
end Go.Proofs.YtdkebcfkchhlmaaGreatDoor

namespace Go.Proofs.YtdkebcfkchhlmaaGreatDoor
open Go.RowKit
set_option linter.unusedVariables false
set_option linter.unusedSimpArgs false
/-- the triggers as far as items need them -/
def TgsRo (A : Option Addr) (n : Nat) (l : List Tg) (w : World) : Prop := SlR 11 A n (l.flatMap Tg.cells) w ∧ ∀ t ∈ l, SlR 1 t.cols.A t.cols.n (txCells t.cols.l) w
def DeB (x : De) : Prop := x.ni ≤ 1000 ∧ x.nd ≤ 1000 ∧ x.nu ≤ 1000 ∧ (∀ r ∈ x.li, r.n ≤ 4398046511104) ∧ (∀ r ∈ x.ld, r.n ≤ 4398046511104) ∧ ∀ p ∈ x.lu, p.on ≤ 4398046511104 ∧ p.nn ≤ 4398046511104
/-- the items that the matching part of a difference gives -/
def itemsM (t : Tg) (m : List Row × List Row × List Upd) : List Sh :=
 if t.each then m.1.map (rowI t.name) ++ m.2.1.map (rowD t.name) ++ m.2.2.map (rowU t.name) else if 0 < cntD m.1.length m.2.1.length m.2.2.length t.event then [(t.name, 0, 0, 0)] else []
/-- the items of one trigger -/
def itemsT (tl : List Te) (l : List De) (t : Tg) : List Sh :=
 match l.find? (isDe t.tab), tl.find? (isTe t.tab) with
 | some d, some y => if t.before then [] else itemsM t (matchD t.event t.cols.l y.cs (d.li.map Rw.row) (d.ld.map Rw.row) (d.lu.map Pr.upd))
 | _, _ => []
theorem items_skip {tl : List Te} {l : List De} {gl : List Tg} {j : Nat} {outs : List Itm} {t : Tg} (h : outs.map Itm.sh = (gl.take j).flatMap (itemsT tl l)) (hx : gl[j]? = some t) (hz : itemsT tl l t = []) : outs.map Itm.sh = (gl.take (j + 1)).flatMap (itemsT tl l) := by
 rw [h, take_next hx, List.flatMap_append]
 simp [hz]
theorem items_next {tl : List Te} {l : List De} {gl : List Tg} {j : Nat} {outs more : List Itm} {t : Tg} (h : outs.map Itm.sh = (gl.take j).flatMap (itemsT tl l)) (hx : gl[j]? = some t) (hz : more.map Itm.sh = itemsT tl l t) : (outs ++ more).map Itm.sh = (gl.take (j + 1)).flatMap (itemsT tl l) := by
 rw [List.map_append, h, take_next hx, List.flatMap_append, hz]
 simp
theorem matchD_len (ev : Int) (ol : List ByteArray) (cl : List Col) (ins del : List Row) (upd : List Upd) : (matchD ev ol cl ins del upd).1.length ≤ ins.length ∧ (matchD ev ol cl ins del upd).2.1.length ≤ del.length ∧ (matchD ev ol cl ins del upd).2.2.length ≤ upd.length := by
 unfold matchD
 split
 ·exact ⟨Nat.le_refl _, Nat.zero_le _, Nat.zero_le _⟩
 ·split
  ·exact ⟨Nat.zero_le _, Nat.le_refl _, Nat.zero_le _⟩
  ·split
   ·exact ⟨Nat.zero_le _, Nat.zero_le _, List.length_filter_le _ _⟩
   ·exact ⟨Nat.zero_le _, Nat.zero_le _, Nat.zero_le _⟩
theorem one_itm (l : List Itm) : ∀ u ∈ itCells l, u.oneCell' = true := fun u hu => by
 unfold itCells at hu
 rw [List.mem_flatMap] at hu
 obtain ⟨x, _, hx⟩ := hu
 simp only [Itm.cells, List.mem_cons, List.not_mem_nil, or_false] at hx
 rcases hx with rfl | rfl | rfl | rfl <;> rfl
theorem evfind_ret (M : Nat → Prop) (w : World) (hM : ∀ b, M b → b < w.heap.size) (A : Option Addr) (n c : Nat) (l : List De) (s : ByteArray) (hD : Ro w M (DesIn A n l)) (hn : n ≤ 1000000) :
  Calls Tryz.prog 49 #[.slice A n c, .string s] w fun e w' => ∃ (d : De) (ok : Bool), e = .returned (.tuple #[d.val, .bool ok]) ∧ (ok = false → l.find? (isDe s) = none) ∧ (ok = true → l.find? (isDe s) = some d ∧ d ∈ l) ∧ Below w.heap.size w w' := (evfind_any M w hM A n c l s hD hn).mono fun e w' ⟨hb, h⟩ => by
 rcases h with ⟨hf, rfl⟩ | ⟨x, hf, hm, rfl⟩
 ·exact ⟨⟨⟨#[]⟩, none, 0, 0, [], none, 0, 0, [], none, 0, 0, []⟩, false, rfl, fun _ => hf, fun h => (nomatch h), hb⟩
 ·exact ⟨x, true, rfl, fun h => (nomatch h), fun _ => ⟨hf, hm⟩, hb⟩
theorem esource_ret (M : Nat → Prop) (w : World) (hM : ∀ b, M b → b < w.heap.size) (A : Option Addr) (n c : Nat) (l : List Te) (s : ByteArray) (hD : Ro w M (TesIn A n l)) (hn : n ≤ 4611686018427387904) (hb : ∀ x ∈ l, x.n ≤ 1000) :
  Calls Tryz.prog 50 #[.slice A n c, .string s] w fun e w' => ∃ (nm : ByteArray) (C : Option Addr) (q cap : Nat) (ok : Bool) (cs : List Col), e = .returned (.tuple #[.agg #[.string nm, .slice C q cap], .bool ok]) ∧ (ok = false → l.find? (isTe s) = none) ∧ (ok = true → (l.find? (isTe s)).map Te.cs = some cs) ∧ q ≤ 1000 ∧ Ro w' M (SlR 4 C q (colCells cs)) ∧ Below w.heap.size w w' := by
 obtain ⟨kt, hkt⟩ : ∃ z : Int, findB (isTe s) l = z := ⟨_, rfl⟩
 have hrg := find_range (isTe s) l
 by_cases hneg : kt < 0
 ·have h1 : findB (isTe s) l = -1 := by omega
  refine (esource0_any M w hM A n c l s hD hn h1).mono ?_
  rintro e w3 ⟨rfl, b3⟩
  exact ⟨_, _, _, _, false, [], rfl, fun _ => find_none_of h1, fun h => (nomatch h), by omega, fun w2 _ _ => slr_nil 4 w2, b3⟩
 ·obtain ⟨k, rfl⟩ : ∃ k : Nat, kt = (k : Int) := ⟨kt.toNat, by omega⟩
  obtain ⟨x, hx, hf⟩ := find_some_of hkt
  have hxb := hb x (List.mem_of_getElem? hx)
  have hl := (RdC.of_sl (show SlR 4 x.A x.n (colCells x.cs) _ from (hD.now.2 x (List.mem_of_getElem? hx)).1)).len
  refine (esource1_any M w hM A n c l s hD hn k x hx hkt (by omega)).mono ?_
  rintro e w3 ⟨C, q, cap, rfl, hq, rC, b3⟩
  exact ⟨_, C, q, cap, true, x.cs, rfl, fun h => (nomatch h), fun _ => by rw [hf]; rfl, by omega, rC, b3⟩
set_option maxHeartbeats 16000000 in
set_option maxRecDepth 100000 in
theorem items_any (M : Nat → Prop) (w : World) (hM : ∀ b, M b → b < w.heap.size) (gA : Option Addr) (gn gc : Nat) (gl : List Tg) (tA : Option Addr) (tn_ tc : Nat) (tl : List Te) (A : Option Addr) (n c : Nat) (l : List De) (hG : Ro w M (TgsRo gA gn gl)) (hT : Ro w M (TesIn tA tn_ tl)) (hD : Ro w M (DesIn A n l)) (hgn : gn ≤ 1000) (hgb : ∀ t ∈ gl, t.cols.n ≤ 1000) (htn : tn_ ≤ 1000) (htb : ∀ x ∈ tl, x.n ≤ 1000) (hn : n ≤ 1000) (hb : ∀ x ∈ l, DeB x) : Calls Tryz.prog 12 #[.slice gA gn gc, .slice tA tn_ tc, .slice A n c] w fun e w' => ItmsRet w M (gl.flatMap (itemsT tl l)) e w' := by
 have HL := hid (show gl.length = gn from by
  have h := (show Rd _ _ 11 gA gn (gl.flatMap Tg.cells) from hG.now.1).1
  rw [flat_len Tg.cells 11 (fun _ => rfl)] at h
  omega)
 have HGB := hid hgb
 have HTB := hid htb
 have HB := hid hb
 have K0 := (((Hold.start M w hM).add (hD.less (by simp [Mut]))).add (hT.less (by simp [Mut, Hp.foot]))).add (hG.less (by simp [Mut, Hp.foot])) |>.nil 53 4
 clear hG hT hD hgb htb hb
 go_enter Tryz.func12, Tryz.ntmps12
 go_wp2_with fail
 go_loopw [7, 16] (fun ov iv wr => ∃ (j k cap : Nat) (O : Option Addr) (outs : List Itm), j ≤ gn ∧ k ≤ 3000 * j ∧ iv = .int .i64 j ∧ ov = .slice O k cap ∧ Hid (outs.map Itm.sh = (gl.take j).flatMap (itemsT tl l)) ∧ Hold M none w wr [.own 53 4 (.slice O k cap) k (itCells outs), .ro (TgsRo gA gn gl), .ro (TesIn tA tn_ tl), .ro (DesIn A n l)]) (fun _ iv _ => gn - (intOf iv).toNat)
 case atStart => exact ⟨0, 0, 0, none, [], by omega, by omega, rfl, rfl, hid rfl, K0⟩
 case round =>
  clear K0
  obtain ⟨j, k, cap, O, outs, hj, hk, rfl, rfl, HO, H⟩ := hrel
  by_cases hlt : j < gn
  ·skip
   obtain ⟨⟨tn, tt, tb, te, ⟨oA, on, oc, ol⟩, tch, ⟨pA, pn, pc, pl⟩, ⟨qA, qn, qc, ql⟩, ⟨rA, rn, rc, rl⟩, ⟨kA, kn, kc, kl⟩, ⟨aA, an, ac, al⟩⟩, hx⟩ : ∃ x, gl[j]? = some x := get_of HL.out hlt
   obtain ⟨b, o, rfl, hb, hcl⟩ := (show ∃ b o, gA = some ⟨b, o, none⟩ ∧ b < wr.heap.size ∧ ∀ q u, q < 11 → (Tg.cells ⟨tn, tt, tb, te, ⟨oA, on, oc, ol⟩, tch, ⟨pA, pn, pc, pl⟩, ⟨qA, qn, qc, ql⟩, ⟨rA, rn, rc, rl⟩, ⟨kA, kn, kc, kl⟩, ⟨aA, an, ac, al⟩⟩)[q]? = some u → World.cell? wr ⟨b, o + j * 11 + q, none⟩ = some u from by
    obtain ⟨b, o, e, hb, hcl⟩ := (show Rd _ _ 11 gA gn (gl.flatMap Tg.cells) from (H.ro 1 rfl).now.1).2 (by omega)
    refine ⟨b, o, e, hb, fun q u hq hu => ?_⟩
    rw [Nat.add_assoc]
    exact hcl _ _ ((flat_get Tg.cells 11 (fun _ => rfl) gl j q _ hq hx).trans hu))
   have x0 := hcl 0 _ (by omega) rfl
   have x1 := hcl 1 _ (by omega) rfl
   have x2 := hcl 2 _ (by omega) rfl
   have x3 := hcl 3 _ (by omega) rfl
   have x4 := hcl 4 _ (by omega) rfl
   have x5 := hcl 5 _ (by omega) rfl
   have x6 := hcl 6 _ (by omega) rfl
   have x7 := hcl 7 _ (by omega) rfl
   have x8 := hcl 8 _ (by omega) rfl
   have x9 := hcl 9 _ (by omega) rfl
   have x10 := hcl 10 _ (by omega) rfl
   simp only [Nat.add_zero, SlP.v] at x0 x1 x2 x3 x4 x5 x6 x7 x8 x9 x10
   have hmx := List.mem_of_getElem? hx
   have hon : on ≤ 1000 := HGB.out _ hmx
   have HX := hid hx
   clear hcl hx
   have K1 := H.alloc_cst #[.string tn, .string tt, .bool tb, .int .i64 te, .slice oA on oc, .bool tch, .slice pA pn pc, .slice qA qn qc, .slice rA rn rc, .slice kA kn kc, .slice aA an ac] 40
   obtain ⟨g9, hg9⟩ : ∃ g, g = wr.heap.size := ⟨_, rfl⟩
   rw [← hg9] at K1
   clear H
   go_upto_region 5 with fail
   rw [← hg9]
   have HG9 := hid hg9
   clear hg9 x0 x1 x2 x3 x4 x5 x6 x7 x8 x9 x10
   generalize World.alloc _ _ = w1 at K1 ⊢
   have F1 := K1.facts
   simp only [factsL, cellsF, Nat.reduceAdd, zf, zl] at F1
   go_wp2_with fail
   clear F1
   refine (evfind_ret (Mut M _) _ K1.mutLt A n c l tt (K1.ro 4 rfl) (by omega)).mono ?_
   rintro e w2 ⟨d, fd, rfl, hfd1, hfd2, b2⟩
   have K2 := (K1.call b2).alloc #[.string d.nm, .slice d.I d.ni d.ci, .slice d.D d.nd d.cd, .slice d.U d.nu d.cu] 44
   obtain ⟨g10, hg10⟩ : ∃ g, g = w2.heap.size := ⟨_, rfl⟩
   rw [← hg10] at K2
   clear K1 b2
   have F2 := K2.facts
   simp only [factsL, cellsF, Nat.reduceAdd, zf, zl] at F2
   rw [hg10] at F2
   simp only [De.val]
   go_upto_region 6 with fail
   rw [← hg10]
   have HG10 := hid hg10
   clear hg10 F2
   generalize World.alloc _ _ = w2b at K2 ⊢
   have F2 := K2.facts
   simp only [factsL, cellsF, Nat.reduceAdd, zf, zl] at F2
   go_wp2_with fail
   clear F2
   refine (esource_ret (Mut M _) _ K2.mutLt tA tn_ tc tl tt (K2.ro 4 rfl) (by omega) HTB.out).mono ?_
   rintro e w3 ⟨ynm, C3, q3, cap3, kb, ycs, rfl, hk1, hk2, hq3b, r3, b3⟩
   have K3 := ((K2.call b3).add r3).alloc_cst #[.string ynm, .slice C3 q3 cap3] 49
   clear K2 b3 r3
   obtain ⟨g12, hg12⟩ : ∃ g, g = w3.heap.size := ⟨_, rfl⟩
   rw [← hg12] at K3
   have F3 := K3.facts
   simp only [factsL, cellsF, Nat.reduceAdd, zf, zl] at F3
   rw [hg12] at F3
   go_upto_region 7 with fail
   rw [← hg12]
   have HG12 := hid hg12
   clear hg12 F3
   generalize World.alloc _ _ = w3b at K3 ⊢
   have F3 := K3.facts
   simp only [factsL, cellsF, Nat.reduceAdd, zf, zl] at F3
   cases kb
   ·have HT0 := hid (hk1 rfl)
    have HZ := hid (show itemsT tl l ⟨tn, tt, tb, te, ⟨oA, on, oc, ol⟩, tch, ⟨pA, pn, pc, pl⟩, ⟨qA, qn, qc, ql⟩, ⟨rA, rn, rc, rl⟩, ⟨kA, kn, kc, kl⟩, ⟨aA, an, ac, al⟩⟩ = [] from by unfold itemsT; rw [HT0.out]; cases l.find? (isDe tt) <;> rfl)
    clear hfd1 hfd2 hk1 hk2
    cases tb <;> cases fd <;> (go_wp2_with fail; go_roundw; (case rel => exact ⟨j + 1, k, cap, O, outs, by omega, by omega, by go_num, by first | rfl | trivial, hid (items_skip HO.out HX.out HZ.out), K3.pick [4, 5, 6, 7] (by decide) rfl⟩); (case measure => simp [intOf]; omega))
   ·have HT1 := hid (hk2 rfl)
    clear hk1 hk2
    cases tb
    ·cases fd
     ·have HZ := hid (show itemsT tl l ⟨tn, tt, false, te, ⟨oA, on, oc, ol⟩, tch, ⟨pA, pn, pc, pl⟩, ⟨qA, qn, qc, ql⟩, ⟨rA, rn, rc, rl⟩, ⟨kA, kn, kc, kl⟩, ⟨aA, an, ac, al⟩⟩ = [] from by unfold itemsT; rw [hfd1 rfl])
      clear hfd1 hfd2
      (go_wp2_with fail; go_roundw; (case rel => exact ⟨j + 1, k, cap, O, outs, by omega, by omega, by go_num, by first | rfl | trivial, hid (items_skip HO.out HX.out HZ.out), K3.pick [4, 5, 6, 7] (by decide) rfl⟩); (case measure => simp [intOf]; omega))
     ·skip
      have HF := hid (hfd2 rfl)
      have HDB := hid (HB.out d (hfd2 rfl).2)
      have hdb := HDB.out
      have hdb1 : d.ni ≤ 1000 := hdb.1
      have hdb2 : d.nd ≤ 1000 := hdb.2.1
      have hdb3 : d.nu ≤ 1000 := hdb.2.2.1
      have hmd := (hfd2 rfl).2
      have HI := hid (show itemsT tl l ⟨tn, tt, false, te, ⟨oA, on, oc, ol⟩, tch, ⟨pA, pn, pc, pl⟩, ⟨qA, qn, qc, ql⟩, ⟨rA, rn, rc, rl⟩, ⟨kA, kn, kc, kl⟩, ⟨aA, an, ac, al⟩⟩ = itemsM ⟨tn, tt, false, te, ⟨oA, on, oc, ol⟩, tch, ⟨pA, pn, pc, pl⟩, ⟨qA, qn, qc, ql⟩, ⟨rA, rn, rc, rl⟩, ⟨kA, kn, kc, kl⟩, ⟨aA, an, ac, al⟩⟩ (matchD te ol ycs (d.li.map Rw.row) (d.ld.map Rw.row) (d.lu.map Pr.upd)) from by unfold itemsT; have h := HT1.out; revert h; rw [HF.out.1]; cases tl.find? (isTe tt) with | none => intro h; cases h | some y => intro h; obtain rfl := (Option.some.inj h); rfl)
      clear hfd1 hfd2
      have K4 := ((K3.add (S := SlR 1 oA on (txCells ol)) ((K3.ro 5 rfl).imp fun w2 h2 => h2.2 _ hmx)).add (S := DeIn d) (((K3.ro 7 rfl).imp fun w2 h2 => h2.2 d hmd).less (by simp [mut_cons, Mut, Hp.foot])))
      clear K3 F3
      have F4 := K4.facts
      simp only [factsL, cellsF, Nat.reduceAdd, zf, zl] at F4
      -- 0 DeIn 1 of 2 cst g12 3 cols 4 blk g10 5 cst g9 6 own 7 TgsRo 8 Tes 9 Des
      go_wp2_with fail
      clear F4
      refine (matching_any (Mut M _) _ K4.mutLt ⟨tn, tt, false, te, ⟨oA, on, oc, ol⟩, tch, ⟨pA, pn, pc, pl⟩, ⟨qA, qn, qc, ql⟩, ⟨rA, rn, rc, rl⟩, ⟨kA, kn, kc, kl⟩, ⟨aA, an, ac, al⟩⟩ ynm C3 q3 cap3 ycs d.nm d.I d.ni d.ci d.li d.D d.nd d.cd d.ld d.U d.nu d.cu d.lu (K4.ro 1 rfl) (K4.ro 3 rfl) ((K4.ro 0 rfl).imp fun w2 h2 => h2.1) ((K4.ro 0 rfl).imp fun w2 h2 => h2.2.1) ((K4.ro 0 rfl).imp fun w2 h2 => h2.2.2) hon hq3b (by omega) (by omega) (by omega) ⟨hdb.2.2.2.1, hdb.2.2.2.2.1⟩ hdb.2.2.2.2.2).mono ?_
      rintro e w4 ⟨I2, ni2, ci2, li2, D2, nd2, cd2, ld2, U2, nu2, cu2, lu2, rfl, hm, hc1, hc2, hc3, rI, rD, rU, b4⟩
      have hl1 : li2.length = ni2 := rI.now.len
      have hl2 : ld2.length = nd2 := rD.now.len
      have hl3 : lu2.length = nu2 := rU.now.len
      have hle := matchD_len te ol ycs (d.li.map Rw.row) (d.ld.map Rw.row) (d.lu.map Pr.upd)
      rw [← hm] at hle
      simp only [List.length_map] at hle
      have hdl : d.li.length = d.ni ∧ d.ld.length = d.nd ∧ d.lu.length = d.nu := ⟨(K4.ro 0 rfl).now.1.len, (K4.ro 0 rfl).now.2.1.len, (K4.ro 0 rfl).now.2.2.len⟩
      have hN2 : ni2 ≤ 1000 ∧ nd2 ≤ 1000 ∧ nu2 ≤ 1000 := ⟨by omega, by omega, by omega⟩
      have HN2 := hid hN2
      have HM := hid hm
      have HLL := hid (And.intro hl1 (And.intro hl2 hl3))
      have K5 := ((((K4.call b4).add rI).add (rD.less (by simp [mut_cons, Hp.foot]))).add (rU.less (by simp [mut_cons, Hp.foot])))
      clear K4 b4 rI rD rU hm hc1 hc2 hc3 hle hdl hl1 hl2 hl3 hN2 hdb
      have F5 := K5.facts
      simp only [factsL, cellsF, Nat.reduceAdd, zf, zl] at F5
      -- 0 U 1 D 2 I 3 DeIn 4 of 5 cst g12 6 cols 7 blk g10 8 cst g9 9 own 10 TgsRo 11 Tes 12 Des
      have K6 := (((K5.store 7 rfl 0 (.string d.nm)).store 7 rfl 1 (.slice I2 ni2 ci2)).store 7 rfl 2 (.slice D2 nd2 cd2)).store 7 rfl 3 (.slice U2 nu2 cu2)
      simp only [zl] at K6
      have F6 := K6.facts
      simp only [factsL, cellsF, Nat.reduceAdd, zf, zl] at F6
      clear K5
      cases tch
      ·go_wp2_with fail
       clear F5
       refine (evcnt_any _ d.nm I2 ni2 ci2 D2 nd2 cd2 U2 nu2 cu2 te).mono ?_
       rintro e w5 ⟨rfl, b5⟩
       have K7 := K6.call b5
       clear K6 b5 F6
       have F7 := K7.facts
       simp only [factsL, cellsF, Nat.reduceAdd, zf, zl] at F7
       obtain ⟨cz, hcz⟩ : ∃ z : Int, cntD ni2 nd2 nu2 te = z := ⟨_, rfl⟩
       rw [hcz]
       have HCZ := hid (show cntD (li2.map Rw.row).length (ld2.map Rw.row).length (lu2.map Pr.upd).length te = cz from by rw [List.length_map, List.length_map, List.length_map, HLL.out.1, HLL.out.2.1, HLL.out.2.2]; exact hcz)
       clear hcz
       by_cases hpos : 0 < cz
       ·have hpb : decide (0 < cz) = true := by simpa using hpos
        have HZ := hid (show itemsT tl l ⟨tn, tt, false, te, ⟨oA, on, oc, ol⟩, false, ⟨pA, pn, pc, pl⟩, ⟨qA, qn, qc, ql⟩, ⟨rA, rn, rc, rl⟩, ⟨kA, kn, kc, kl⟩, ⟨aA, an, ac, al⟩⟩ = [(tn, 0, 0, 0)] from by rw [HI.out, ← HM.out]; unfold itemsM; simp only [Bool.false_eq_true, if_false]; rw [HCZ.out, if_pos hpos])
        go_wp2_with (at_builtin; go_must (refine wpList_appH K7 9 rfl Tryz.elItm #[.string tn, .int .i64 0, .slice none 0 0, .slice none 0 0] rfl (.tmp 62) (.tmp 66) rfl rfl _ (by first | rfl | simp) rfl rfl (by intro u hu; simp at hu; rcases hu with rfl | rfl | rfl | rfl <;> rfl) (by omega) (by omega) ?_); intro gA2 capA wA hcA hmA KA; simp only [zl] at KA)
        rw [show itCells outs ++ (#[.string tn, .int .i64 0, .slice none 0 0, .slice none 0 0] : Array Value).toList = itCells (outs ++ [⟨tn, 0, none, 0, 0, none, 0, 0⟩]) from (itCells_snoc outs ⟨tn, 0, none, 0, 0, none, 0, 0⟩).symm] at KA
        go_roundw
        case rel => exact ⟨j + 1, k + 1, capA, _, outs ++ [⟨tn, 0, none, 0, 0, none, 0, 0⟩], by omega, by omega, by go_num, by first | rfl | trivial, hid (items_next HO.out HX.out (by rw [HZ.out]; rfl)), KA.pick [9, 10, 11, 12] (by decide) rfl⟩
        case measure => simp [intOf]; omega
       ·have hpb : decide (0 < cz) = false := by simpa using hpos
        have HZ := hid (show itemsT tl l ⟨tn, tt, false, te, ⟨oA, on, oc, ol⟩, false, ⟨pA, pn, pc, pl⟩, ⟨qA, qn, qc, ql⟩, ⟨rA, rn, rc, rl⟩, ⟨kA, kn, kc, kl⟩, ⟨aA, an, ac, al⟩⟩ = [] from by rw [HI.out, ← HM.out]; unfold itemsM; simp only [Bool.false_eq_true, if_false]; rw [HCZ.out, if_neg hpos])
        go_wp2_with fail
        go_roundw
        case rel => exact ⟨j + 1, k, cap, O, outs, by omega, by omega, by go_num, by first | rfl | trivial, hid (items_skip HO.out HX.out HZ.out), K7.pick [9, 10, 11, 12] (by decide) rfl⟩
        case measure => simp [intOf]; omega
      ·go_wp2_with fail
       clear F5
       refine (evRows_any (Mut M _) _ K6.mutLt ⟨tn, tt, false, te, ⟨oA, on, oc, ol⟩, true, ⟨pA, pn, pc, pl⟩, ⟨qA, qn, qc, ql⟩, ⟨rA, rn, rc, rl⟩, ⟨kA, kn, kc, kl⟩, ⟨aA, an, ac, al⟩⟩ d.nm I2 ni2 ci2 li2 D2 nd2 cd2 ld2 U2 nu2 cu2 lu2 (K6.ro 2 rfl) (K6.ro 1 rfl) (K6.ro 0 rfl) (by have := HN2.out; omega) (by have := HN2.out; omega) (by have := HN2.out; omega)).mono ?_
       rintro e w5 ⟨RA, rn2, rc2, rl2, rfl, hrl, hrc, rR, b5⟩
       have hrn : rl2.length = rn2 := by
        have h := (show Rd _ _ 4 RA rn2 (itCells rl2) from rR.now).1
        rw [itCells_len] at h
        omega
       have hrb : rn2 ≤ 3000 := by
        have h := congrArg List.length hrl
        simp only [List.length_map, List.length_append] at h
        have h2 := HN2.out
        have h3 := HLL.out
        omega
       have HRL := hid hrl
       have K7 := (K6.call b5).add rR
       have HSR := hid rR.now
       clear K6 b5 F6 rR hrl hrc hrn
       have F7 := K7.facts
       simp only [factsL, cellsF, Nat.reduceAdd, zf, zl] at F7
       have HZ := hid (show itemsT tl l ⟨tn, tt, false, te, ⟨oA, on, oc, ol⟩, true, ⟨pA, pn, pc, pl⟩, ⟨qA, qn, qc, ql⟩, ⟨rA, rn, rc, rl⟩, ⟨kA, kn, kc, kl⟩, ⟨aA, an, ac, al⟩⟩ = rl2.map Itm.sh from by rw [HI.out, ← HM.out, HRL.out]; simp only [itemsM, if_true, List.map_map])
       go_wp2_with (at_builtin; go_must (refine wpList_appAllH K7 10 rfl Tryz.elItm HSR.out rfl (.tmp 51) (.tmp 54) rfl rfl rfl (one_itm rl2) (by omega) (by omega) ?_); intro G1 gc1 wB hcB hmB KE; simp only [zl] at KE)
       rw [show itCells outs ++ itCells rl2 = itCells (outs ++ rl2) by simp [itCells]] at KE
       go_roundw
       case rel => exact ⟨j + 1, k + rn2, gc1, G1, outs ++ rl2, by omega, by omega, by go_num, by first | rfl | trivial, hid (items_next HO.out HX.out HZ.out.symm), KE.pick [10, 11, 12, 13] (by decide) rfl⟩
       case measure => simp [intOf]; omega
    ·have HZ := hid (show itemsT tl l ⟨tn, tt, true, te, ⟨oA, on, oc, ol⟩, tch, ⟨pA, pn, pc, pl⟩, ⟨qA, qn, qc, ql⟩, ⟨rA, rn, rc, rl⟩, ⟨kA, kn, kc, kl⟩, ⟨aA, an, ac, al⟩⟩ = [] from by unfold itemsT; cases l.find? (isDe tt) <;> cases tl.find? (isTe tt) <;> rfl)
     clear hfd1 hfd2
     cases fd <;> (go_wp2_with fail; go_roundw; (case rel => exact ⟨j + 1, k, cap, O, outs, by omega, by omega, by go_num, by first | rfl | trivial, hid (items_skip HO.out HX.out HZ.out), K3.pick [4, 5, 6, 7] (by decide) rfl⟩); (case measure => simp [intOf]; omega))
  ·obtain rfl : gn = j := by omega
   have hcap := own_caps (H.get 0 rfl)
   have KZ := H.sealRow 0 rfl
   simp only [List.set_cons_zero] at KZ
   have HR := hid ((KZ.ro 0 rfl).less zm)
   have HBL := hid KZ.below
   clear KZ H
   go_wp2_with fail
   go_ret
   exact ⟨O, k, cap, outs, rfl, by rw [HO.out, List.take_of_length_le (by rw [HL.out]; exact Nat.le_refl _)], ⟨hcap.1, hcap.2.1⟩, HR.out, HBL.out⟩
end Go.Proofs.YtdkebcfkchhlmaaGreatDoor

/- RLink: the contracts of before and insert, of order's reference. -/
import Derived.Test.YtaefjgjojflppaaLink
import Derived.Test.YtaefjgjojflppaaAppH
import Derived.WalkLawsBesides
namespace Go.Proofs.Ytaefjgjojflppaa
open Go.RowKit
set_option linter.unusedVariables false
set_option linter.unusedSimpArgs false

def befB (x y : Lk) : Bool := Op.bytesLess x.a.toList y.a.toList || (x.a.toList == y.a.toList && Op.bytesLess x.b.toList y.b.toList)
def lkEq (x y : Lk) : Bool := x.a.toList == y.a.toList && x.b.toList == y.b.toList
theorem Try.elLink : ElemT Try.prog 24 30 2 32 (.agg #[.string ⟨#[]⟩, .string ⟨#[]⟩]) := ⟨Try.underlying24, by kernel_rfl, rfl, by omega⟩
theorem one_lk (a b : ByteArray) : ∀ u ∈ (#[Value.string a, Value.string b]).toList, u.oneCell' = true := by intro u hu; simp at hu; rcases hu with rfl | rfl <;> rfl
theorem lkCells_snoc (l : List Lk) (x : Lk) : lkCells l ++ (#[Value.string x.a, Value.string x.b]).toList = lkCells (l ++ [x]) := by simp [lkCells, Lk.cells]

set_option maxHeartbeats 1000000 in
theorem before_any (x y : Lk) (w : World) :
    Calls Try.prog 63 #[.agg #[.string x.a, .string x.b], .agg #[.string y.a, .string y.b]] w fun e w' => e = .returned (.bool (befB x y)) ∧ Below w.heap.size w w' := by
  obtain ⟨xa, xb⟩ := x
  obtain ⟨ya, yb⟩ := y
  cases h1 : Op.bytesLess xa.toList ya.toList <;> cases h2 : (xa.toList == ya.toList) <;> cases h3 : Op.bytesLess xb.toList yb.toList
  all_goals
    go_enter Try.func63, Try.ntmps63
    go_wp2_with fail
    go_ret
    exact ⟨by simp only [befB, h1, h2, h3] <;> rfl, ext2 _ _ _⟩

def insStep (x : Lk) (s : List Lk × Bool) (y : Lk) : List Lk × Bool := ((if s.2 || befB y x then s.1 else s.1 ++ [x]) ++ (if lkEq y x then [] else [y]), s.2 || !befB y x)
def insS (x : Lk) (l : List Lk) (k : Nat) : List Lk × Bool := (l.take k).foldl (insStep x) ([], false)
def insL (x : Lk) (l : List Lk) : List Lk := if (insS x l l.length).2 then (insS x l l.length).1 else (insS x l l.length).1 ++ [x]
theorem insS_succ (x : Lk) {l : List Lk} {k : Nat} {y : Lk} (hy : l[k]? = some y) : insS x l (k + 1) = insStep x (insS x l k) y := by
  obtain ⟨hk, rfl⟩ := List.getElem?_eq_some_iff.1 hy
  unfold insS
  rw [List.take_succ_eq_append_getElem hk, List.foldl_append]
  rfl
theorem insS_le (x : Lk) (l : List Lk) : ∀ k, (insS x l k).1.length ≤ 2 * k
  | 0 => by simp [insS]
  | k + 1 => by
    by_cases h : k < l.length
    · rw [insS_succ x (List.getElem?_eq_getElem h)]
      have := insS_le x l k
      unfold insStep
      split <;> split <;> simp <;> omega
    · have : insS x l (k + 1) = insS x l k := by unfold insS; rw [List.take_of_length_le (by omega), List.take_of_length_le (by omega)]
      rw [this]; have := insS_le x l k; omega

/-- A list of links handed back, in memory that nobody writes. -/
def LksRet (w : World) (M : Nat → Prop) (l : List Lk) (e : Ending) (w' : World) : Prop :=
  ∃ (A : Option Addr) (n c : Nat), e = .returned (.slice A n c) ∧ n = l.length ∧ n ≤ c ∧ c ≤ 9223372036854775807 ∧ Ro w' M (LksIn A n l) ∧ Below w.heap.size w w'

set_option maxHeartbeats 4000000 in
theorem insert_any (M : Nat → Prop) (w : World) (hM : ∀ b, M b → b < w.heap.size) (A : Option Addr) (n c : Nat) (l : List Lk) (x : Lk) (hD : Ro w M (LksIn A n l)) (hn : n ≤ 1000000) :
    Calls Try.prog 57 #[.slice A n c, .agg #[.string x.a, .string x.b]] w fun e w' => LksRet w M (insL x l) e w' := by
  have HL := hid hD.now.len
  have K0 := ((((Hold.start M w hM).add (hD.less (by simp [Mut]))).nil 30 2)).alloc_cst #[.string x.a, .string x.b] 30
  go_enter Try.func57, Try.ntmps57
  go_wp2_with fail
  go_loopw [5, 6, 11] (fun out d i wr => ∃ (k cap q : Nat) (C : Option Addr) (o : List Lk) (dn : Bool), k ≤ n ∧ i = .int .i64 k ∧ out = .slice C q cap ∧ d = .bool dn ∧ Hid (q = o.length) ∧ Hid (insS x l k = (o, dn)) ∧
    Hold M none w wr [.cst w.heap.size 30 #[.string x.a, .string x.b], .own 30 2 (.slice C q cap) q (lkCells o), .ro (LksIn A n l)]) (fun _ _ i _ => n - (intOf i).toNat)
  case atStart => exact ⟨0, 0, 0, none, [], false, by omega, rfl, rfl, rfl, hid rfl, hid rfl, K0⟩
  case round =>
    obtain ⟨k, cap, q, C, o, dn, hk, rfl, rfl, rfl, HQ, HS, H⟩ := hrel
    have hqk : q ≤ 2 * k := by have := insS_le x l k; rw [HS.out] at this; have := HQ.out; simp at *; omega
    by_cases hlt : k < n
    · have hd : decide ((k : Int) < (n : Int)) = true := by simp; omega
      obtain ⟨y, hy⟩ := get_of HL.out hlt
      obtain ⟨g, oo, rfl, hb, c0, c1⟩ := (H.ro 2 rfl).now.at_ hy
      have HN := hid (insS_succ x hy); clear hy
      have F := H.facts
      simp only [World.size_alloc, World.size_drew, factsL, cellsF, Nat.reduceAdd, List.toList_toArray, and_true, true_and] at F
      have K1 := H.alloc_cst #[.string y.a, .string y.b] 30
      have F1 := K1.facts
      simp only [World.size_alloc, World.size_drew, factsL, cellsF, Nat.reduceAdd, List.toList_toArray, and_true, true_and] at F1
      cases h1 : (y.a.toList == x.a.toList) <;> cases h2 : (y.b.toList == x.b.toList)
      all_goals
        have heq : lkEq y x = (y.a.toList == x.a.toList && y.b.toList == x.b.toList) := rfl
        rw [h1, h2] at heq
        simp only [Bool.and_true, Bool.and_false, Bool.and_self] at heq
        have HE := hid heq
        clear heq
        cases dn
        · cases hbf : befB y x
          all_goals
            have HBF := hid hbf
            go_wp2_with fail
            refine (before_any y x _).mono ?_
            rintro e wb ⟨rfl, bb⟩
            rw [HBF.out]
            have KB := K1.call bb
            clear bb F F1
            have FB := KB.facts
            simp only [World.size_alloc, World.size_drew, factsL, cellsF, Nat.reduceAdd, List.toList_toArray, List.set_cons_zero, List.set_cons_succ, List.setIfInBounds_toArray, and_true, true_and] at FB
            clear hbf
            first
              | (go_wp2_with (first
                  | (at_builtin; refine wpList_appH KB 2 rfl Try.elLink #[.string x.a, .string x.b] rfl (.tmp 23) (.tmp 25) rfl rfl wb.heap.size rfl rfl rfl (one_lk _ _) (by omega) (by omega) ?_; intro g2 cap2 w2 hc2 hm2 K2; (have F2 := K2.facts); simp only [World.size_alloc, World.size_drew, factsL, cellsF, Nat.reduceAdd, List.toList_toArray, List.set_cons_zero, List.set_cons_succ, and_true, true_and] at F2)
                  | (at_builtin; refine wpList_appH KB 2 rfl Try.elLink #[.string y.a, .string y.b] rfl (.tmp 30) (.tmp 32) rfl rfl wb.heap.size rfl rfl rfl (one_lk _ _) (by omega) (by omega) ?_; intro g3 cap3 w3 hc3 hm3 K3)
                  | (at_builtin; refine wpList_appH K2 2 rfl Try.elLink #[.string y.a, .string y.b] rfl (.tmp 30) (.tmp 32) rfl rfl w2.heap.size rfl rfl rfl (one_lk _ _) (by omega) (by omega) ?_; intro g3 cap3 w3 hc3 hm3 K3)))
            go_roundw
            case measure => simp [intOf]; omega
            case rel =>
              first
                | (refine ⟨k + 1, _, _, _, o ++ [x] ++ [y], true, by omega, by go_num, rfl, rfl, hid (by simp [HQ.out]), hid (by rw [HN.out, HS.out]; simp [insStep, HBF.out, HE.out]), ?_⟩; rw [← lkCells_snoc, ← lkCells_snoc]; exact K3.drop (List.sublist_cons_self _ _))
                | (refine ⟨k + 1, _, _, _, o ++ [x], true, by omega, by go_num, rfl, rfl, hid (by simp [HQ.out]), hid (by rw [HN.out, HS.out]; simp [insStep, HBF.out, HE.out]), ?_⟩; rw [← lkCells_snoc]; exact K2.drop (List.sublist_cons_self _ _))
                | (refine ⟨k + 1, _, _, _, o ++ [y], false, by omega, by go_num, rfl, rfl, hid (by simp [HQ.out]), hid (by rw [HN.out, HS.out]; simp [insStep, HBF.out, HE.out]), ?_⟩; rw [← lkCells_snoc]; exact K3.drop (List.sublist_cons_self _ _))
                | (refine ⟨k + 1, _, _, _, o, false, by omega, by go_num, rfl, rfl, hid (by simp [HQ.out]), hid (by rw [HN.out, HS.out]; simp [insStep, HBF.out, HE.out]), ?_⟩; exact KB.drop (List.sublist_cons_self _ _))
        · go_wp2_with (at_builtin; refine wpList_appH K1 2 rfl Try.elLink #[.string y.a, .string y.b] rfl (.tmp 30) (.tmp 32) rfl rfl (wr.heap.size + 1) (by simp) rfl rfl (one_lk _ _) (by omega) (by omega) ?_; intro g3 cap3 w3 hc3 hm3 K3)
          go_roundw
          case measure => simp [intOf]; omega
          case rel =>
            first
              | (refine ⟨k + 1, _, _, _, o ++ [y], true, by omega, by go_num, rfl, rfl, hid (by simp [HQ.out]), hid (by rw [HN.out, HS.out]; simp [insStep, HE.out]), ?_⟩; rw [← lkCells_snoc]; exact K3.drop (List.sublist_cons_self _ _))
              | (refine ⟨k + 1, _, _, _, o, true, by omega, by go_num, rfl, rfl, hid (by simp [HQ.out]), hid (by rw [HN.out, HS.out]; simp [insStep, HE.out]), ?_⟩; exact K1.drop (List.sublist_cons_self _ _))
    · obtain rfl : k = n := by omega
      have HI : Hid (insL x l = if dn then o else o ++ [x]) := by unfold Hid insL; rw [HL.out, HS.out]
      have F := H.facts
      simp only [World.size_alloc, World.size_drew, factsL, cellsF, Nat.reduceAdd, List.toList_toArray, and_true, true_and] at F
      have hcap := own_caps (H.get 1 rfl)
      cases dn
      · go_wp2_with (at_builtin; refine wpList_appH H 1 rfl Try.elLink #[.string x.a, .string x.b] rfl (.tmp 37) (.tmp 39) rfl rfl wr.heap.size rfl rfl rfl (one_lk _ _) (by omega) (by omega) ?_; intro g3 cap3 w3 hc3 hm3 K3)
        have KS := K3.sealRow 1 rfl
        go_ret
        have e : insL x l = o ++ [x] := HI.out
        exact ⟨_, _, _, rfl, by rw [e, HQ.out]; simp, hc3, hm3, by rw [e]; unfold LksIn; rw [← lkCells_snoc]; exact KS.roOut 1 rfl, KS.below⟩
      · have KS := H.sealRow 1 rfl
        go_wp2_with fail
        go_ret
        have e : insL x l = o := HI.out
        exact ⟨_, _, _, rfl, by rw [e]; exact HQ.out, hcap.1, hcap.2.1, by rw [e]; exact KS.roOut 1 rfl, KS.below⟩
end Go.Proofs.Ytaefjgjojflppaa

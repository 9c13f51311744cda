/- Choose: the contract of Choose, of pick's reference. -/
import Derived.Test.YtaefjgjojflppaaRElig
import Derived.Deep.AppendLies
import Derived.IntWalk
namespace Go.Proofs.Ytaefjgjojflppaa
open Go.RowKit
set_option linter.unusedVariables false
set_option linter.unusedSimpArgs false

/-- Nothing appended to nothing. -/
theorem run_append_zero {P : Program} {w : World} (t ty e : TypeId) (i : TypeInfo) (z : Value) (ht : P.underlying t = some (.slice e)) (hi : P.info? e = some i) (hz : i.zero = some z) (A : Option Addr) (c : Nat) :
    (Builtin.append_ #[t, t] ty #[.slice none 0 0, .slice A 0 c]).run P w = .ok (.slice none 0 0) w := by
  cases A <;> simp [Builtin.append_, run_underlying ht, sizeOf, typeInfo, zeroValue, hi, hz, Builtin.lenOf, Question.forced, Builtin.firstCells, loadCells, loadCellsFrom]
theorem wpList_append_zero {P : Program} {w : World} {ops : Array Oper} {rest : List Oper} {o : Oper} {a : Act} {Q : Exit → Act → World → Prop} (hgd : o.guard = none) (s x : Operand) (t : TypeId)
    (ho : o.op = .call { callee := .builtin .append, args := #[s, x], argTypes := #[t, t] }) (e : TypeId) (i : TypeInfo) (z : Value) (ht : P.underlying t = some (.slice e)) (hi : P.info? e = some i) (hz : i.zero = some z) (A : Option Addr) (c : Nat)
    (hs : a.eval s = .slice none 0 0) (hx : a.eval x = .slice A 0 c)
    (h : wpList P ops Q rest (a.put o.dst (.slice none 0 0)) w) : wpList P ops Q (o :: rest) a w := by
  refine wpList_plain hgd fun K hK' => ?_
  have hr := run_append_zero (P := P) (w := w) t o.type e i z ht hi hz A c
  unfold Oper.wp execOp
  simp only [ho, resolve, invoke, builtin, Sem.run_bind, Sem.run_pure, Result.andThen_ok, List.map_toArray, List.map_cons, List.map_nil, hs, hx, hr]
  exact hK' _ _ h

def iCells (l : List Int) : List Value := l.map (.int .i64)
theorem iCells_len (l : List Int) : (iCells l).length = l.length := by simp [iCells]
theorem iCells_one (l : List Int) : ∀ u ∈ iCells l, u.oneCell' = true := by
  intro u hu
  obtain ⟨x, _, rfl⟩ := List.mem_map.1 hu
  rfl
def IsIn (A : Option Addr) (n : Nat) (l : List Int) : World → Prop := SlR 1 A n (iCells l)
theorem IsIn.len {w : World} {A : Option Addr} {n : Nat} {l : List Int} (h : IsIn A n l w) : l.length = n := by
  have := (show Rd w w.heap.size 1 A n (iCells l) from h).1
  rw [iCells_len] at this
  omega
/-- Two results: a number, and a list in memory that nobody writes. -/
def Chosen (w : World) (M : Nat → Prop) (k : Int) (xs : List Int) (e : Ending) (w' : World) : Prop :=
  ∃ (A : Option Addr) (n c : Nat), e = .returned (.tuple #[.int .i64 k, .slice A n c]) ∧ n = xs.length ∧ n ≤ c ∧ c ≤ 9223372036854775807 ∧ Ro w' M (IsIn A n xs) ∧ Below w.heap.size w w'

set_option maxHeartbeats 4000000 in
set_option maxRecDepth 100000 in
/-- n below 2. -/
theorem rchoose_low (M : Nat → Prop) (w : World) (hM : ∀ b, M b → b < w.heap.size) (N : Int) (hN : N < 2) (A : Option Addr) (n c : Nat) (xs : List Int) (hD : Ro w M (IsIn A n xs)) (hn : n ≤ 17592186044416) :
    Calls Try.prog 17 #[.int .i64 N, .slice A n c] w fun e w' => Chosen w M 0 xs e w' := by
  have HL := hid hD.now.len
  have K0 := ((Hold.start M w hM).add (hD.less (by simp [Mut]))).nil 3 1
  obtain ⟨i0, hi1, hi2, hi3, hi4⟩ := info_parts Try.infoInt
  have hd : decide (N < 2) = true := by simp; omega
  by_cases h0 : 0 < n
  · obtain ⟨b, o, rfl, hb, hc⟩ := (show Rd w w.heap.size 1 A n (iCells xs) from hD.now).2 h0
    have HC : Hid (∀ (j : Nat) (u : Value), (iCells xs)[j]? = some u → w.cell? ((⟨b, o, none⟩ : Addr).add j) = some u) := hid (fun j u h => by
      have q := hc j u h
      by_cases hj : j = 0
      · subst hj; simpa [Addr.add] using q
      · simpa [Addr.add, hj] using q)
    clear hc
    have HO := hid (K0.get 0 rfl)
    go_enter Try.func17, Try.ntmps17
    go_wp2_with (at_builtin; go_must (refine wpList_append_lies (w := w) rfl (.const (.slice none 0 0)) (.tmp 14) 33 rfl w.heap.size 3 i0 (.int .i64 0) 1 8 Try.underlying33 hi1 hi2 hi3 hi4 rfl (by omega) (.slice none 0 0) 0 [] rfl HO.out ⟨b, o, none⟩ n c (iCells xs) rfl (by rw [iCells_len, HL.out, Nat.mul_one]) HC.out (iCells_one xs) h0 (by unfold maxLen; omega) (by omega) (Nat.le_refl _) w.heap.size rfl ?_); intro g cap w1 ho hg hdj hl; have hcap := hid ho.2; have KA := Hold.append K0 0 rfl ho hg (hdj.imp id fun e => by omega) hl)
    have KS := KA.sealRow 0 rfl
    have hcc : 0 + n ≤ cap ∧ cap ≤ 9223372036854775807 := by
      rcases hcap.out with ⟨h, _⟩ | ⟨g2, c2, cur, hv, _, _, hle, hm2, _⟩
      · cases h
      · have h3 := (Value.slice.inj hv).2.2; unfold maxLen at hm2; omega
    simp only [Nat.zero_add, List.nil_append, List.set_cons_zero] at KS hcc
    go_ret2
    refine ⟨_, _, _, rfl, ?_, hcc.1, hcc.2, KS.roOut 0 rfl, KS.below⟩
    exact HL.out.symm
  · obtain rfl : n = 0 := by omega
    obtain rfl : xs = [] := List.length_eq_zero_iff.1 HL.out
    go_enter Try.func17, Try.ntmps17
    go_wp2_with (at_builtin; go_must (refine wpList_append_zero rfl (.const (.slice none 0 0)) (.tmp 14) 33 rfl 3 i0 (.int .i64 0) Try.underlying33 hi1 hi2 A c rfl rfl ?_))
    have KS := K0.sealRow 0 rfl
    go_ret2
    exact ⟨none, 0, 0, rfl, rfl, Nat.le_refl _, by omega, KS.roOut 0 rfl, KS.below⟩

set_option maxHeartbeats 4000000 in
set_option maxRecDepth 100000 in
/-- No picks. -/
theorem rchoose_none (M : Nat → Prop) (w : World) (hM : ∀ b, M b → b < w.heap.size) (N : Int) (A : Option Addr) (c : Nat) (xs : List Int) (hD : Ro w M (IsIn A 0 xs)) :
    Calls Try.prog 17 #[.int .i64 N, .slice A 0 c] w fun e w' => Chosen w M 0 xs e w' := by
  by_cases hN : N < 2
  · exact rchoose_low M w hM N hN A 0 c xs hD (by omega)
  have HL := hid hD.now.len
  have K0 := ((Hold.start M w hM).add (hD.less (by simp [Mut]))).nil 3 1
  obtain ⟨i0, hi1, hi2, hi3, hi4⟩ := info_parts Try.infoInt
  have hd : decide (N < 2) = false := by simp; omega
  obtain rfl : xs = [] := List.length_eq_zero_iff.1 HL.out
  go_enter Try.func17, Try.ntmps17
  go_wp2_with (at_builtin; go_must (refine wpList_append_zero rfl (.const (.slice none 0 0)) (.tmp 14) 33 rfl 3 i0 (.int .i64 0) Try.underlying33 hi1 hi2 A c rfl rfl ?_))
  have KS := K0.sealRow 0 rfl
  go_ret2
  exact ⟨none, 0, 0, rfl, rfl, Nat.le_refl _, by omega, KS.roOut 0 rfl, KS.below⟩

def pickK (N x : Int) : Int := if x.tmod N < 0 then x.tmod N + N else x.tmod N
set_option maxHeartbeats 4000000 in
set_option maxRecDepth 100000 in
/-- One pick is taken, others are left. -/
theorem rchoose_take (M : Nat → Prop) (w : World) (hM : ∀ b, M b → b < w.heap.size) (N : Int) (hN : 2 ≤ N) (hN2 : N ≤ 9223372036854775807) (A : Option Addr) (n c : Nat) (hc : n + 1 ≤ c) (x : Int) (xs : List Int) (hD : Ro w M (IsIn A (n + 1) (x :: xs))) (hn : n ≤ 17592186044415) :
    Calls Try.prog 17 #[.int .i64 N, .slice A (n + 1 : Nat) c] w fun e w' => Chosen w M (pickK N x) xs e w' := by
  have HL := hid (show xs.length = n from by have := hD.now.len; simpa using this)
  have K0 := ((Hold.start M w hM).add (hD.less (by simp [Mut]))).nil 3 1
  obtain ⟨i0, hi1, hi2, hi3, hi4⟩ := info_parts Try.infoInt
  have hd : decide (N < 2) = false := by simp; omega
  obtain ⟨b, o, rfl, hb, hcl⟩ := (show Rd w w.heap.size 1 A (n + 1) (iCells (x :: xs)) from hD.now).2 (by omega)
  have c0 : w.cell? ⟨b, o, none⟩ = some (.int .i64 x) := by simpa using hcl 0 _ rfl
  have hz : ((n : Int) + 1 == 0) = false := by rw [beq_eq_false_iff_ne]; omega
  have hNz : (N == 0) = false := by rw [beq_eq_false_iff_ne]; omega
  have hr1 : x.tmod N < N := Int.tmod_lt_of_pos x (by omega)
  have hr2 : -N < x.tmod N := by have := Int.tmod_lt_of_pos (-x) (show 0 < N by omega); rw [Int.neg_tmod] at this; omega
  obtain ⟨r, hr⟩ : ∃ r, x.tmod N = r := ⟨_, rfl⟩
  rw [hr] at hr1 hr2
  have HK := hid (show pickK N x = if r < 0 then r + N else r by unfold pickK; rw [hr])
  rcases n with _ | n
  · obtain rfl : xs = [] := List.length_eq_zero_iff.1 HL.out
    have hcc : c = 1 ∨ 1 < c := by omega
    have KS := K0.sealRow 0 rfl
    by_cases hs : r < 0
    · have hsd : decide (r < 0) = true := by simpa using hs
      have hw : wrap64 (r + N) = r + N := IntWalk.wrap64_in _ (by omega)
      rcases hcc with rfl | hcc
      · go_enter Try.func17, Try.ntmps17
        go_wp2_with (at_builtin; go_must (refine wpList_append_zero rfl (.const (.slice none 0 0)) (.tmp 28) 33 rfl 3 i0 (.int .i64 0) Try.underlying33 hi1 hi2 _ _ rfl rfl ?_))
        go_ret2
        exact ⟨none, 0, 0, by rw [HK.out, if_pos hs] <;> rfl, rfl, Nat.le_refl _, by omega, KS.roOut 0 rfl, KS.below⟩
      · go_enter Try.func17, Try.ntmps17
        go_wp2_with (at_builtin; go_must (refine wpList_append_zero rfl (.const (.slice none 0 0)) (.tmp 28) 33 rfl 3 i0 (.int .i64 0) Try.underlying33 hi1 hi2 _ _ rfl rfl ?_))
        go_ret2
        exact ⟨none, 0, 0, by rw [HK.out, if_pos hs] <;> rfl, rfl, Nat.le_refl _, by omega, KS.roOut 0 rfl, KS.below⟩
    · have hsd : decide (r < 0) = false := by simpa using hs
      rcases hcc with rfl | hcc
      · go_enter Try.func17, Try.ntmps17
        go_wp2_with (at_builtin; go_must (refine wpList_append_zero rfl (.const (.slice none 0 0)) (.tmp 28) 33 rfl 3 i0 (.int .i64 0) Try.underlying33 hi1 hi2 _ _ rfl rfl ?_))
        go_ret2
        exact ⟨none, 0, 0, by rw [HK.out, if_neg (by omega)] <;> rfl, rfl, Nat.le_refl _, by omega, KS.roOut 0 rfl, KS.below⟩
      · go_enter Try.func17, Try.ntmps17
        go_wp2_with (at_builtin; go_must (refine wpList_append_zero rfl (.const (.slice none 0 0)) (.tmp 28) 33 rfl 3 i0 (.int .i64 0) Try.underlying33 hi1 hi2 _ _ rfl rfl ?_))
        go_ret2
        exact ⟨none, 0, 0, by rw [HK.out, if_neg (by omega)] <;> rfl, rfl, Nat.le_refl _, by omega, KS.roOut 0 rfl, KS.below⟩
  · have HC : Hid (∀ (j : Nat) (u : Value), (iCells xs)[j]? = some u → w.cell? ((⟨b, o + 1, none⟩ : Addr).add j) = some u) := hid (fun j u h => by
      have q := hcl (j + 1) u (by simpa [iCells] using h)
      have e : o + (j + 1) = o + 1 + j := by omega
      rw [e] at q
      by_cases hj : j = 0
      · subst hj; simpa [Addr.add] using q
      · simpa [Addr.add, hj] using q)
    have HO := hid (K0.get 0 rfl)
    clear hcl
    by_cases hs : r < 0
    · have hsd : decide (r < 0) = true := by simpa using hs
      have hw : wrap64 (r + N) = r + N := IntWalk.wrap64_in _ (by omega)
      go_enter Try.func17, Try.ntmps17
      go_wp2_with (at_builtin; go_must (refine wpList_append_lies (w := w) rfl (.const (.slice none 0 0)) (.tmp 28) 33 rfl w.heap.size 3 i0 (.int .i64 0) 1 8 Try.underlying33 hi1 hi2 hi3 hi4 rfl (by omega) (.slice none 0 0) 0 [] rfl HO.out ⟨b, o + 1, none⟩ (n + 1) _ (iCells xs) rfl (by rw [iCells_len, HL.out, Nat.mul_one]) HC.out (iCells_one xs) (by omega) (by unfold maxLen; omega) (by omega) (Nat.le_refl _) w.heap.size rfl ?_); intro g cap w1 ho hg hdj hl; have hcap := hid ho.2; have KA := Hold.append K0 0 rfl ho hg (hdj.imp id fun e => by omega) hl)
      have KS := KA.sealRow 0 rfl
      have hcq : 0 + (n + 1) ≤ cap ∧ cap ≤ 9223372036854775807 := by
        rcases hcap.out with ⟨h, _⟩ | ⟨g2, c2, cur, hv, _, _, hle, hm2, _⟩
        · cases h
        · have h3 := (Value.slice.inj hv).2.2; unfold maxLen at hm2; omega
      simp only [Nat.zero_add, List.nil_append, List.set_cons_zero] at KS hcq
      go_ret2
      exact ⟨some ⟨g, 0, none⟩, n + 1, cap, by rw [HK.out, if_pos hs] <;> rfl, HL.out.symm, hcq.1, hcq.2, KS.roOut 0 rfl, KS.below⟩
    · have hsd : decide (r < 0) = false := by simpa using hs
      go_enter Try.func17, Try.ntmps17
      go_wp2_with (at_builtin; go_must (refine wpList_append_lies (w := w) rfl (.const (.slice none 0 0)) (.tmp 28) 33 rfl w.heap.size 3 i0 (.int .i64 0) 1 8 Try.underlying33 hi1 hi2 hi3 hi4 rfl (by omega) (.slice none 0 0) 0 [] rfl HO.out ⟨b, o + 1, none⟩ (n + 1) _ (iCells xs) rfl (by rw [iCells_len, HL.out, Nat.mul_one]) HC.out (iCells_one xs) (by omega) (by unfold maxLen; omega) (by omega) (Nat.le_refl _) w.heap.size rfl ?_); intro g cap w1 ho hg hdj hl; have hcap := hid ho.2; have KA := Hold.append K0 0 rfl ho hg (hdj.imp id fun e => by omega) hl)
      have KS := KA.sealRow 0 rfl
      have hcq : 0 + (n + 1) ≤ cap ∧ cap ≤ 9223372036854775807 := by
        rcases hcap.out with ⟨h, _⟩ | ⟨g2, c2, cur, hv, _, _, hle, hm2, _⟩
        · cases h
        · have h3 := (Value.slice.inj hv).2.2; unfold maxLen at hm2; omega
      simp only [Nat.zero_add, List.nil_append, List.set_cons_zero] at KS hcq
      go_ret2
      exact ⟨some ⟨g, 0, none⟩, n + 1, cap, by rw [HK.out, if_neg (by omega)] <;> rfl, HL.out.symm, hcq.1, hcq.2, KS.roOut 0 rfl, KS.below⟩
end Go.Proofs.Ytaefjgjojflppaa

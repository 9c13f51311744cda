/- The contracts of the tape from which the statements make their inputs: a number in range, and nothing but the tape's own block turns. -/
import Derived.Test.YtaefjgjojflppaaMem
import Derived.Test.YtaefjgjojflppaaProg
import Derived.WalkSpells
import Derived.Deep.QuietTactic
import Derived.BigQuiet
namespace Go.Proofs.Ytaefjgjojflppaa
open Go.RowKit
set_option linter.unusedVariables false

/-- Block T is a tape: a list of numbers that lies in older blocks, and a place in it. -/
def Tp (w : World) (T : Nat) : Prop :=
  ∃ (A : Option Addr) (n c p : Nat) (zs : List Int), w.heap[T]? = some (.cells #[.slice A n c, .int .i64 p] 71 (0, 0)) ∧ p ≤ n ∧ n ≤ 500 ∧ Rd w T 1 A n (zs.map (Value.int .i64)) ∧ Ints zs

theorem Tp.lt {w : World} {T : Nat} (h : Tp w T) : T < w.heap.size := by
  obtain ⟨A, n, c, p, zs, h, _⟩ := h
  rcases Nat.lt_or_ge T w.heap.size with hlt | hge
  · exact hlt
  · rw [Array.getElem?_eq_none hge] at h; cases h
theorem Tp.keep {w w' : World} {T : Nat} (h : Tp w T) (hk : ∀ k, k ≤ T → w'.heap[k]? = w.heap[k]?) : Tp w' T := by
  obtain ⟨A, n, c, p, zs, h1, h2, h3, h4, h5⟩ := h
  exact ⟨A, n, c, p, zs, (hk T (Nat.le_refl _)).trans h1, h2, h3, h4.keep fun q hq => World.cell?_of_block (w := w) (hk q.block (by omega)), h5⟩
theorem Tp.below {w w' : World} {T B : Nat} (h : Tp w T) (hb : Below B w w') (hT : T < B) : Tp w' T := h.keep fun k hk => hb.block k (by omega)
theorem Tp.grown {w w' : World} {T : Nat} {row : Option Nat} (h : Tp w T) (hg : w.grownBy w' row) (hr : ∀ g, row = some g → T < g) : Tp w' T :=
  h.keep fun k hk => hg.block k (by have := h.lt; omega) (fun e => by have := hr k e.symm; omega)
theorem Tp.alloc {w : World} {T : Nat} (h : Tp w T) (o : Obj) : Tp (w.alloc o) T := h.keep fun k hk => Below.heap_alloc w o k (by have := h.lt; omega)
theorem Tp.drew {w : World} {T : Nat} (h : Tp w T) : Tp w.drew T := h
theorem Tp.drewN {w : World} {T : Nat} (h : Tp w T) (n : Nat) : Tp (w.drewN n) T := h
theorem Tp.setCell {w : World} {T : Nat} (h : Tp w T) {p : Addr} (hp : T < p.block) (u : Value) : Tp (w.setCell p u) T := h.keep fun k hk => Below.heap_setCell w p u k (by omega)

theorem mod_eq (v n : Int) (h : 0 < n) : (if v.tmod n < 0 then v.tmod n + n else v.tmod n) = v % n := by
  have h1 : -n < v.tmod n := Int.lt_tmod_of_pos v h
  have h2 : v.tmod n < n := Int.tmod_lt_of_pos v h
  have h3 : v = n * (v.tdiv n) + v.tmod n := (Int.mul_tdiv_add_tmod v n).symm
  split
  · rename_i hlt
    have : v = (v.tmod n + n) + n * (v.tdiv n - 1) := by rw [Int.mul_sub, Int.mul_one]; omega
    conv => rhs; rw [this]
    rw [Int.add_mul_emod_self_left, Int.emod_eq_of_lt (by omega) (by omega)]
  · conv => rhs; rw [h3]
    rw [Int.add_comm, Int.add_mul_emod_self_left, Int.emod_eq_of_lt (by omega) (by omega)]

theorem ret_i64 {a b : Int} (h : a = b) : Ending.returned (.int .i64 a) = .returned (.int .i64 b) := by rw [h]

set_option maxHeartbeats 400000 in
theorem wmod_any (v n : Int) (w : World) (hv : I64 v) (h0 : 0 < n) (h1 : n ≤ 9223372036854775807) :
    Calls Try.prog 10 #[.int .i64 v, .int .i64 n] w fun e w' => e = .returned (.int .i64 (v % n)) ∧ w = w' := by
  have hm := mod_eq v n h0
  have b1 : -n < v.tmod n := Int.lt_tmod_of_pos v h0
  have b2 : v.tmod n < n := Int.tmod_lt_of_pos v h0
  have hn : (n == 0) = false := by simp; omega
  obtain ⟨t, ht, ht'⟩ : ∃ t, IntKind.i64.wrap (v.tmod n) = t ∧ v.tmod n = t := ⟨_, IntWalk.i64_in _ (by omega), rfl⟩
  rw [ht'] at hm b1 b2
  obtain ⟨hv0, hv1⟩ := hv
  by_cases hlt : t < 0
  · have HM : Hid (t + n = v % n) := by rw [if_pos hlt] at hm; exact hm
    clear hm
    go_enter Try.func10, Try.ntmps10
    go_wp2
    go_ret
    exact ⟨ret_i64 HM.out, rfl⟩
  · have HM : Hid (t = v % n) := by rw [if_neg hlt] at hm; exact hm
    clear hm
    go_enter Try.func10, Try.ntmps10
    go_wp2
    go_ret
    exact ⟨ret_i64 HM.out, rfl⟩

/-- What a draw from the tape leaves: a number from 0 to n - 1; the tape's block alone has turned. -/
def Drawn (w : World) (T : Nat) (n : Int) (e : Ending) (w' : World) : Prop :=
  ∃ r : Int, e = .returned (.int .i64 r) ∧ 0 ≤ r ∧ r < n ∧ Tp w' T ∧ w.grownBy w' (some T)

set_option maxHeartbeats 1000000 in
theorem next_any (T : Nat) (n : Int) (w : World) (ht : Tp w T) (h0 : 0 < n) (h1 : n ≤ 9223372036854775807) :
    Calls Try.prog 28 #[.pointer (some ⟨T, 0, none⟩), .int .i64 n] w fun e w' => Drawn w T n e w' := by
  obtain ⟨A, m, c, p, zs, hb, hp, hm, hr, hz⟩ := ht
  have hc0 : w.cell? ⟨T, 0, none⟩ = some (.slice A m c) := cell_of_row w T 0 _ _ _ hb
  have hc1 : w.cell? ⟨T, 1, none⟩ = some (.int .i64 p) := cell_of_row w T 1 _ _ _ hb
  have hf : w.frozen? ⟨T, 1, none⟩ = false := by simp [World.frozen?, hb]
  have hl : zs.length = m := by simpa using hr.1
  have HL := hid hl; clear hl
  have HB := hid hb; clear hb
  by_cases hlt : p < m
  · obtain ⟨b, o, rfl, hbT, hc⟩ := hr.at1 hlt
    rw [ints_get _ _ _ (by rw [HL.out]; omega)] at hc
    have bz := hz.at_ p
    have HZ := hid bz; clear bz
    go_enter Try.func28, Try.ntmps28
    go_wp2_with fail
    go_quiet (fail)
    go_wp2_with fail
    go_quiet ((go_at_call 10; first | exact quiet_left (wmod_any _ _ _ HZ.out h0 h1) | exact quiet_add_left (wmod_any _ _ _ HZ.out h0 h1)))
    go_wp2_with fail
    go_ret
    refine ⟨zs.getD p 0 % n, by simp [List.getD], Int.emod_nonneg _ (by omega), Int.emod_lt_of_pos _ h0, Tp.drewN ⟨_, m, c, p + 1, zs, blk_set (g := T) (w := World.drewN _ _) HB.out 1 _, by omega, hm, Rd.setCell (Rd.drewN hr _) (Nat.le_refl _) _, hz⟩ _, ?_⟩
    exact only_drewN (only_setCell (only_drewN (World.grownBy.refl _ _) _) (.inl rfl) _) _
  · go_enter Try.func28, Try.ntmps28
    go_wp2_with fail
    go_quiet (fail)
    go_wp2_with fail
    go_ret
    exact ⟨0, rfl, by omega, h0, Tp.drewN ⟨A, m, c, p, zs, HB.out, hp, hm, hr, hz⟩ _, only_drewN (World.grownBy.refl _ _) _⟩

/-- '1<<n' of the draws: one in n. -/
def Drawn64 (w : World) (T : Nat) (e : Ending) (w' : World) : Prop :=
  ∃ r : Int, e = .returned (.int .i64 r) ∧ I64 r ∧ Tp w' T ∧ w.grownBy w' (some T)


/-- What New leaves: a pointer to a new tape. -/
def NewTape (w : World) (e : Ending) (w' : World) : Prop :=
  ∃ T, e = .returned (.pointer (some ⟨T, 0, none⟩)) ∧ w.heap.size ≤ T ∧ Tp w' T ∧ Below w.heap.size w w'

set_option maxHeartbeats 1000000 in
theorem new_any (A : Option Addr) (n c : Nat) (zs : List Int) (w : World) (hr : Rd w w.heap.size 1 A n (zs.map (Value.int .i64))) (hz : Ints zs) (hn : n ≤ c) (hc : c ≤ 9223372036854775807) :
    Calls Try.prog 14 #[.slice A n c] w fun e w' => NewTape w e w' := by
  by_cases hlt : 500 < n
  · go_enter Try.func14, Try.ntmps14
    go_wp2
    go_ret
    refine ⟨w.heap.size, rfl, Nat.le_refl _, ⟨A, 500, c, 0, zs.take 500, heap_alloc_new w _, by omega, by omega, ?_, fun x hx => hz x (List.mem_of_mem_take hx)⟩, (Below.refl _ _).alloc (Nat.le_refl _) _⟩
    have := (hr.take_ (k := 500) (by omega)).alloc (Nat.le_refl _) (.cells #[.slice A 500 c, .int .i64 0] 71)
    simpa [List.map_take] using this
  · go_enter Try.func14, Try.ntmps14
    go_wp2
    go_ret
    exact ⟨w.heap.size, rfl, Nat.le_refl _, ⟨A, n, c, 0, zs, heap_alloc_new w _, by omega, by omega, hr.alloc (Nat.le_refl _) _, hz⟩, (Below.refl _ _).alloc (Nat.le_refl _) _⟩
end Go.Proofs.Ytaefjgjojflppaa

/- DeltaNets answers true for every tape: the bag before with the rows that came is the bag after with the rows that left. Condition: the row's own, the laid table of words; the tied card. -/
import Derived.Test.YtljmclbedpceoaaDoorDNetsSaidMA
import Derived.Test.YtljmclbedpceoaaDoorDNetsSaidMB
import Derived.OrdersHeld
import Derived.Test.YtljmclbedpceoaaDoorDNetsSaidMF
import Derived.Test.YtljmclbedpceoaaDoorDNetsSaidME
import Derived.Test.YtljmclbedpceoaaDoorDNetsSaidMC
import Derived.Test.YtljmclbedpceoaaDoorCards
import Derived.Test.YtljmclbedpceoaaDoorTie
namespace Go.Proofs.YtljmclbedpceoaaDoor
open Go.RowKit
set_option linter.unusedVariables false
set_option linter.unusedSimpArgs false

section
variable {P : Program} {M : Nat → Prop} {row : Option Nat} {w0 w : World} {L : List Hp} {ops : Array Oper} {Q : Exit → Act → World → Prop} {Kn : Act → World → Prop} {a : Act}
theorem wpOp_newH {i : Nat} {o : Oper} (hi : ops[i]? = some o) (hw : Region.wanted o (yielded ops a.tmps) = true) (K : Hold M row w0 w L) (cs : Array Value) (t : TypeId) (mk : Nat → Value)
    (hrun : ∀ w, (execOp a.eval o).run P w = .ok (.value (mk w.heap.size)) (w.alloc (.cells cs t))) (h : ∀ g w', Hold M row w0 w' (.cst g t cs :: L) → Kn (a.put o.dst (mk g)) w') : wpOp P ops Q i Kn a w := by
  unfold wpOp
  simp only [hi, hw, if_true, Oper.wp, hrun, Oper.upon]
  exact .inl (h _ _ (K.alloc_cst cs t))
theorem run_appH (K : Hold M row w0 w L) (i : Nat) {t e ty : TypeId} {size bytes q cap : Nat} {C : Option Addr} {xs : List Value} {z : Value} (hi : L[i]? = some (.own e size (.slice C q cap) q xs)) (hE : ElemT P t e size bytes z)
    {A : Option Addr} {m c : Nat} {ys : List Value} (hr : SlR size A m ys w) (h1 : ∀ u ∈ ys, u.oneCell' = true) (hq : q + m < 140737488355328) (hb : (q + m) * bytes ≤ 140737488355328) :
    ∃ C' cap' w', (Builtin.append_ #[t, t] ty #[.slice C q cap, .slice A m c]).run P w = .ok (.slice C' (q + m) cap') w' ∧ q + m ≤ cap' ∧ cap' ≤ 9223372036854775807 ∧ Hold M row w0 w' (L.set i (.own e size (.slice C' (q + m) cap') (q + m) (xs ++ ys))) := by
  obtain ⟨i0, hi1, hi2, hi3, hi4⟩ := info_parts hE.hi
  have hown := K.get i hi
  have hz : A = none → m = 0 := fun hA => by
    rcases Nat.eq_zero_or_pos m with h0 | h0
    · exact h0
    · obtain ⟨b, o, h, _⟩ := hr.2 h0
      rw [hA] at h; cases h
  rcases A with _ | ad
  · obtain rfl := hz rfl
    have hn : ys = [] := List.eq_nil_of_length_eq_zero (by simpa using hr.1)
    subst hn
    have hc := own_caps hown
    have e : L.set i (.own e size (.slice C (q + 0) cap) (q + 0) (xs ++ [])) = L := by
      rw [Nat.add_zero, List.append_nil]
      apply List.ext_getElem?
      intro j
      rw [List.getElem?_set]
      split
      · subst i; split
        · exact hi.symm
        · rw [List.getElem?_eq_none (by omega)]
      · rfl
    exact ⟨C, cap, w, run_append_self w _ t _ _ i0 size hE.ht hi1 _ _ _ hown c, hc.1, hc.2.1, by rw [e]; exact K⟩
  · have hcells : ∀ j u, ys[j]? = some u → w.cell? (ad.add j) = some u := by
      intro j u hu
      have hpos : 0 < m := by
        rcases Nat.eq_zero_or_pos m with h0 | h0
        · have hn : ys = [] := List.eq_nil_of_length_eq_zero (by have := hr.1; rw [h0] at this; simpa using this)
          rw [hn] at hu; simp at hu
        · exact h0
      obtain ⟨b, o', hA, _, hc⟩ := hr.2 hpos
      injection hA with hA
      subst hA
      have := hc j u hu
      rwa [Addr.add_lit]
    obtain ⟨v', w', hrun, h2, h3, _, h5⟩ := run_append_own_at (P := P) w w0.heap.size t ty e i0 z size bytes hE.ht hi1 hi2 hi3 hi4 hE.hzs hE.hsz _ q xs hown ad m c ys hr.1 hcells h1 (by unfold maxLen; omega) hb K.grow.size
    obtain ⟨C', cap', rfl⟩ := own_form h2
    have hc := own_caps h2
    refine ⟨C', cap', w', hrun, hc.1, hc.2.1, ?_⟩
    refine K.turn i hi h3.size ⟨h3.os, h3.tape, h3.output⟩ (fun b hl hne => h3.block b hl fun e => hne e.symm) (fun b hf => ?_) h2 (fun T hT => by cases hT)
    have hlt := (h2.lt b hf).2
    refine ⟨?_, hlt⟩
    have hf' : Value.ownBlock (.slice C' (q + m) cap') = some b := hf
    rcases h5 with h5 | h5
    · left; rw [h5] at hf'; exact hf'
    · right; rw [h5] at hf'; injection hf' with hf'; omega
theorem wpOp_appH {k : Nat} {o : Oper} (hk : ops[k]? = some o) (hw : Region.wanted o (yielded ops a.tmps) = true) (K : Hold M row w0 w L) (i : Nat) {t e : TypeId} {size bytes q cap : Nat} {C : Option Addr} {xs : List Value} {z : Value} (hi : L[i]? = some (.own e size (.slice C q cap) q xs)) (hE : ElemT P t e size bytes z)
    {A : Option Addr} {m c : Nat} {ys : List Value} (hr : SlR size A m ys w) (s x : Operand) (ho : o.op = .call { callee := .builtin .append, args := #[s, x], argTypes := #[t, t] })
    (hs : a.eval s = .slice C q cap) (hx : a.eval x = .slice A m c) (h1 : ∀ u ∈ ys, u.oneCell' = true) (hq : q + m < 140737488355328) (hb : (q + m) * bytes ≤ 140737488355328)
    (h : ∀ C' cap' w', q + m ≤ cap' → cap' ≤ 9223372036854775807 → Hold M row w0 w' (L.set i (.own e size (.slice C' (q + m) cap') (q + m) (xs ++ ys))) → Kn (a.put o.dst (.slice C' (q + m) cap')) w') :
    wpOp P ops Q k Kn a w := by
  obtain ⟨C', cap', w', hr', c1, c2, hK⟩ := run_appH (ty := o.type) (c := c) K i hi hE hr h1 hq hb
  unfold wpOp
  simp only [hk, hw, if_true, Oper.wp]
  left
  unfold execOp
  simp only [ho, resolve, invoke, builtin, Sem.run_bind, Sem.run_pure, Result.andThen_ok, List.map_toArray, List.map_cons, List.map_nil, hs, hx, hr', Oper.upon]
  exact h _ _ _ c1 c2 hK
/-- append(s, xs...) behind a guard that lets it run. -/
theorem wpList_appAllHg (K : Hold M row w0 w L) (i : Nat) {t e : TypeId} {size bytes q cap : Nat} {C : Option Addr} {xs : List Value} {z : Value} (hi : L[i]? = some (.own e size (.slice C q cap) q xs)) (hE : ElemT P t e size bytes z)
    {A : Option Addr} {m c : Nat} {ys : List Value} (hr : SlR size A m ys w) {rest : List Oper} {o : Oper} (hw : Region.wanted o (yielded ops a.tmps) = true) (s x : Operand) (ho : o.op = .call { callee := .builtin .append, args := #[s, x], argTypes := #[t, t] })
    (hs : a.eval s = .slice C q cap) (hx : a.eval x = .slice A m c) (h1 : ∀ u ∈ ys, u.oneCell' = true) (hq : q + m < 140737488355328) (hb : (q + m) * bytes ≤ 140737488355328)
    (h : ∀ C' cap' w', q + m ≤ cap' → cap' ≤ 9223372036854775807 → Hold M row w0 w' (L.set i (.own e size (.slice C' (q + m) cap') (q + m) (xs ++ ys))) → wpList P ops Q rest (a.put o.dst (.slice C' (q + m) cap')) w') :
    wpList P ops Q (o :: rest) a w := by
  obtain ⟨C', cap', w', hr', c1, c2, hK⟩ := run_appH (ty := o.type) (c := c) K i hi hE hr h1 hq hb
  unfold wpList
  rw [if_pos hw]
  left
  unfold Oper.wp execOp
  simp only [ho, resolve, invoke, builtin, Sem.run_bind, Sem.run_pure, Result.andThen_ok, List.map_toArray, List.map_cons, List.map_nil, hs, hx, hr', Oper.upon]
  exact h _ _ _ c1 c2 hK
end
end Go.Proofs.YtljmclbedpceoaaDoor

namespace Go.Proofs.YtljmclbedpceoaaDoor
open Go.RowKit
set_option linter.unusedVariables false
set_option linter.unusedSimpArgs false

def Pr.osl (p : Pr) : Sl := ⟨p.oA, p.on, p.oc, p.old⟩
def Pr.nsl (p : Pr) : Sl := ⟨p.nA, p.nn, p.nc, p.new⟩
theorem slv_of_prsO {w : World} {B : Option Addr} {m : Nat} {l : List Pr} (h : PrsIn B m l w) : SlVals (l.map Pr.osl) w := fun s hs => by
  obtain ⟨r, hr, rfl⟩ := List.mem_map.1 hs
  exact (h.2 r hr).1
theorem slv_of_prsN {w : World} {B : Option Addr} {m : Nat} {l : List Pr} (h : PrsIn B m l w) : SlVals (l.map Pr.nsl) w := fun s hs => by
  obtain ⟨r, hr, rfl⟩ := List.mem_map.1 hs
  exact (h.2 r hr).2
theorem slVals_app {w : World} {a b : List Sl} (h : SlVals a w) (k : SlVals b w) : SlVals (a ++ b) w := fun s hs => (List.mem_append.1 hs).elim (h s) (k s)
/-- two lists handed back -/
def BagsRet (w : World) (M : Nat → Prop) (L1 L2 : List (List Vl)) (e : Ending) (w' : World) : Prop := ∃ (A : Option Addr) (n c : Nat) (l : List Sl) (A' : Option Addr) (n' c' : Nat) (l' : List Sl), e = .returned (.tuple #[.slice A n c, .slice A' n' c']) ∧ (n ≤ c ∧ c ≤ 9223372036854775807) ∧ (n' ≤ c' ∧ c' ≤ 9223372036854775807) ∧ Ro w' M (SlsIn A n l) ∧ Ro w' M (SlsIn A' n' l') ∧ (∀ s ∈ l, s.ok) ∧ (∀ s ∈ l', s.ok) ∧ (∀ s ∈ l, s.n ≤ 4398046511104) ∧ (∀ s ∈ l', s.n ≤ 4398046511104) ∧ l.map Sl.vs = L1 ∧ l'.map Sl.vs = L2 ∧ Below w.heap.size w w'
set_option maxHeartbeats 8000000 in
set_option maxRecDepth 100000 in
theorem dbags_any (M : Nat → Prop) (w : World) (hM : ∀ b, M b → b < w.heap.size) (s : ByteArray) (I : Option Addr) (ni ci : Nat) (D : Option Addr) (nd cd : Nat) (U : Option Addr) (nu cu : Nat) (li ld : List Rw) (lu : List Pr) (hI : Ro w M (RwsIn I ni li)) (hD : Ro w M (RwsIn D nd ld)) (hU : Ro w M (PrsIn U nu lu)) (bi : ni ≤ 1000000) (bd : nd ≤ 1000000) (bu : nu ≤ 1000000)
    (oi : ∀ r ∈ li, r.ok ∧ r.n ≤ 4398046511104) (od : ∀ r ∈ ld, r.ok ∧ r.n ≤ 4398046511104) (ou : ∀ p ∈ lu, p.ok ∧ p.on ≤ 4398046511104 ∧ p.nn ≤ 4398046511104) :
    Calls Tryd.prog 23 #[.agg #[.string s, .slice I ni ci, .slice D nd cd, .slice U nu cu]] w fun e w' => BagsRet w M (sortV (ld.map Rw.vs ++ lu.map Pr.old)) (sortV (li.map Rw.vs ++ lu.map Pr.new)) e w' := by
  have HLI := hid hI.now.len
  have HLD := hid hD.now.len
  have HLU := hid hU.now.len
  have HQ := hid (And.intro oi (And.intro od ou))
  clear oi od ou
  have K0 := (((((((Hold.start M w hM).add (hU.less (by simp [Mut]))).add (hD.less (by simp [Mut, Hp.foot]))).add (hI.less (by simp [Mut, Hp.foot]))).alloc_cst #[.string s, .slice I ni ci, .slice D nd cd, .slice U nu cu] 47).nil 27 1).nil 27 1)
  clear hI hD hU
  have F0 := K0.facts
  simp only [World.size_alloc, World.size_drew, factsL, cellsF, Nat.reduceAdd, List.toList_toArray, List.set_cons_zero, List.set_cons_succ, List.setIfInBounds_toArray, and_true, true_and] at F0
  go_enter Tryd.func23, Tryd.ntmps23
  go_wp2_with fail
  clear F0
  go_loopw [4, 15] (fun ov iv wr => ∃ (k cap : Nat) (C : Option Addr), k ≤ nd ∧ ov = .slice C k cap ∧ iv = .int .i64 k ∧ Hold M none w wr [.own 27 1 (.slice C k cap) (k) (slCells ((ld.map Rw.sl).take k)), .own 27 1 (.slice none 0 0) (0) (slCells ([])), .cst w.heap.size 47 #[.string s, .slice I ni ci, .slice D nd cd, .slice U nu cu], .ro (RwsIn I ni li), .ro (RwsIn D nd ld), .ro (PrsIn U nu lu)]) (fun _ iv _ => nd - (intOf iv).toNat)
  case atStart => exact ⟨0, 0, none, by omega, rfl, rfl, K0⟩
  case round =>
    clear K0
    obtain ⟨k, cap, C, hk, rfl, rfl, H⟩ := hrel
    by_cases hlt : k < nd
    · skip
      have hdd : decide ((k : Int) < (nd : Int)) = true := by simp; omega
      have j0 : (0 : Int) ≤ (k : Int) := by omega
      have j1 : (k : Int) < (nd : Int) := by omega
      obtain ⟨x, hx⟩ := get_of HLD.out hlt
      obtain ⟨g, o, rfl, hgb, c0, c1, hvi⟩ := (H.ro 4 rfl).now.at_ hx
      have K2 := H.alloc_cst #[.int .i64 x.id, .slice x.A x.n x.c] 61
      have HCE := hid (show slCells ((ld.map Rw.sl).take k) ++ (#[Value.slice x.A x.n x.c]).toList = slCells ((ld.map Rw.sl).take (k + 1)) by rw [List.take_add_one, List.getElem?_map, hx]; simp [slCells, Sl.cells, Rw.sl])
      clear hx hvi
      have FA := K2.facts
      simp only [World.size_alloc, World.size_drew, factsL, cellsF, Nat.reduceAdd, List.toList_toArray, List.set_cons_zero, List.set_cons_succ, List.setIfInBounds_toArray, and_true, true_and] at FA
      go_wp2_with (at_builtin; go_must (refine wpList_appH K2 1 rfl Tryd.elSlc #[.slice x.A x.n x.c] rfl (.tmp 19) (.tmp 22) rfl rfl _ (by first | rfl | simp) rfl rfl (by intro u hu; simp at hu; rcases hu with rfl; rfl) (by omega) (by omega) ?_); intro g9 cap9 w9 hc9 hm9 KB; rw [HCE.out] at KB; simp only [List.set_cons_zero, List.set_cons_succ] at KB)
      have KC := KB.drop (List.sublist_cons_self _ _)
      go_roundw
      case rel => exact ⟨k + 1, cap9, _, by omega, by first | rfl | go_num, by first | rfl | go_num, KC⟩
      case measure => simp [intOf]; omega
    · skip
      obtain rfl : nd = k := by omega
      have hdd : decide ((nd : Int) < (nd : Int)) = false := by simp
      have HTD := hid (show (ld.map Rw.sl).take nd = ld.map Rw.sl from List.take_of_length_le (by rw [List.length_map, HLD.out]; exact Nat.le_refl _))
      rw [HTD.out] at H
      have FH := H.facts
      simp only [World.size_alloc, World.size_drew, factsL, cellsF, Nat.reduceAdd, List.toList_toArray, List.set_cons_zero, List.set_cons_succ, List.setIfInBounds_toArray, and_true, true_and] at FH
      go_wp2_with fail
      clear FH
      go_loopw [5, 28] (fun ov iv wr => ∃ (k cp : Nat) (E : Option Addr), k ≤ ni ∧ ov = .slice E k cp ∧ iv = .int .i64 k ∧ Hold M none w wr [.own 27 1 (.slice C nd cap) (nd) (slCells (ld.map Rw.sl)), .own 27 1 (.slice E k cp) (k) (slCells ((li.map Rw.sl).take k)), .cst w.heap.size 47 #[.string s, .slice I ni ci, .slice D nd cd, .slice U nu cu], .ro (RwsIn I ni li), .ro (RwsIn D nd ld), .ro (PrsIn U nu lu)]) (fun _ iv _ => ni - (intOf iv).toNat)
      case atStart => exact ⟨0, 0, none, by omega, rfl, rfl, H⟩
      case round =>
        clear H hlt hk
        obtain ⟨k, cp, E, hk, rfl, rfl, H⟩ := hrel
        by_cases hlt : k < ni
        · skip
          have hdd : decide ((k : Int) < (ni : Int)) = true := by simp; omega
          have j0 : (0 : Int) ≤ (k : Int) := by omega
          have j1 : (k : Int) < (ni : Int) := by omega
          obtain ⟨x, hx⟩ := get_of HLI.out hlt
          obtain ⟨g, o, rfl, hgb, c0, c1, hvi⟩ := (H.ro 3 rfl).now.at_ hx
          have K2 := H.alloc_cst #[.int .i64 x.id, .slice x.A x.n x.c] 61
          have HCE := hid (show slCells ((li.map Rw.sl).take k) ++ (#[Value.slice x.A x.n x.c]).toList = slCells ((li.map Rw.sl).take (k + 1)) by rw [List.take_add_one, List.getElem?_map, hx]; simp [slCells, Sl.cells, Rw.sl])
          clear hx hvi
          have FA := K2.facts
          simp only [World.size_alloc, World.size_drew, factsL, cellsF, Nat.reduceAdd, List.toList_toArray, List.set_cons_zero, List.set_cons_succ, List.setIfInBounds_toArray, and_true, true_and] at FA
          go_wp2_with (at_builtin; go_must (refine wpList_appH K2 2 rfl Tryd.elSlc #[.slice x.A x.n x.c] rfl (.tmp 32) (.tmp 35) rfl rfl _ (by first | rfl | simp) rfl rfl (by intro u hu; simp at hu; rcases hu with rfl; rfl) (by omega) (by omega) ?_); intro g9 cap9 w9 hc9 hm9 KB; rw [HCE.out] at KB; simp only [List.set_cons_zero, List.set_cons_succ] at KB)
          have KC := KB.drop (List.sublist_cons_self _ _)
          go_roundw
          case rel => exact ⟨k + 1, cap9, _, by omega, by first | rfl | go_num, by first | rfl | go_num, KC⟩
          case measure => simp [intOf]; omega
        · skip
          obtain rfl : ni = k := by omega
          have hdi : decide ((ni : Int) < (ni : Int)) = false := by simp
          have HTI := hid (show (li.map Rw.sl).take ni = li.map Rw.sl from List.take_of_length_le (by rw [List.length_map, HLI.out]; exact Nat.le_refl _))
          rw [HTI.out] at H
          have FH := H.facts
          simp only [World.size_alloc, World.size_drew, factsL, cellsF, Nat.reduceAdd, List.toList_toArray, List.set_cons_zero, List.set_cons_succ, List.setIfInBounds_toArray, and_true, true_and] at FH
          go_wp2_with fail
          clear FH
          have H9 : Hold M none w wr [.own 27 1 (.slice C (nd + 0) cap) (nd + 0) (slCells (ld.map Rw.sl ++ (lu.map Pr.osl).take 0)), .own 27 1 (.slice E (ni + 0) cp) (ni + 0) (slCells (li.map Rw.sl ++ (lu.map Pr.nsl).take 0)), .cst w.heap.size 47 #[.string s, .slice I ni ci, .slice D nd cd, .slice U nu cu], .ro (RwsIn I ni li), .ro (RwsIn D nd ld), .ro (PrsIn U nu lu)] := by rw [List.take_zero, List.take_zero, List.append_nil, List.append_nil]; exact H
          go_loopw [4, 5, 41] (fun ov nv iv wr => ∃ (k cap1 cap2 : Nat) (C1 C2 : Option Addr), k ≤ nu ∧ ov = .slice C1 (nd + k) cap1 ∧ nv = .slice C2 (ni + k) cap2 ∧ iv = .int .i64 k ∧ Hold M none w wr [.own 27 1 (.slice C1 (nd + k) cap1) (nd + k) (slCells (ld.map Rw.sl ++ (lu.map Pr.osl).take k)), .own 27 1 (.slice C2 (ni + k) cap2) (ni + k) (slCells (li.map Rw.sl ++ (lu.map Pr.nsl).take k)), .cst w.heap.size 47 #[.string s, .slice I ni ci, .slice D nd cd, .slice U nu cu], .ro (RwsIn I ni li), .ro (RwsIn D nd ld), .ro (PrsIn U nu lu)]) (fun _ _ iv _ => nu - (intOf iv).toNat)
          case atStart => exact ⟨0, cap, cp, C, E, by omega, rfl, rfl, rfl, H9⟩
          case round =>
            clear H H9 hlt hk
            obtain ⟨k, cap1, cap2, C1, C2, hk, rfl, rfl, rfl, H⟩ := hrel
            by_cases hlt : k < nu
            · skip
              have hdd : decide ((k : Int) < (nu : Int)) = true := by simp; omega
              have j0 : (0 : Int) ≤ (k : Int) := by omega
              have j1 : (k : Int) < (nu : Int) := by omega
              obtain ⟨x, hx⟩ := get_of HLU.out hlt
              obtain ⟨g, o, rfl, hgb, c0, c1, c2, hv1, hv2⟩ := (H.ro 5 rfl).now.at_ hx
              have K2 := H.alloc_cst #[.int .i64 x.id, .slice x.oA x.on x.oc, .slice x.nA x.nn x.nc] 99
              have HCE1 := hid (show slCells (ld.map Rw.sl ++ (lu.map Pr.osl).take k) ++ (#[Value.slice x.oA x.on x.oc]).toList = slCells (ld.map Rw.sl ++ (lu.map Pr.osl).take (k + 1)) by rw [List.take_add_one, List.getElem?_map, hx]; simp [slCells, Sl.cells, Pr.osl])
              have HCE2 := hid (show slCells (li.map Rw.sl ++ (lu.map Pr.nsl).take k) ++ (#[Value.slice x.nA x.nn x.nc]).toList = slCells (li.map Rw.sl ++ (lu.map Pr.nsl).take (k + 1)) by rw [List.take_add_one, List.getElem?_map, hx]; simp [slCells, Sl.cells, Pr.nsl])
              clear hx hv1 hv2
              have FA := K2.facts
              simp only [World.size_alloc, World.size_drew, factsL, cellsF, Nat.reduceAdd, List.toList_toArray, List.set_cons_zero, List.set_cons_succ, List.setIfInBounds_toArray, and_true, true_and] at FA
              go_wp2_with fail
              obtain ⟨gb, hgb0⟩ : ∃ g, g = wr.heap.size := ⟨_, rfl⟩
              rw [← hgb0] at K2 ⊢
              clear hgb0 FA
              generalize World.alloc wr _ = w1 at K2 ⊢
              refine wp_region_held (S := fun w' => w'.cell? ⟨gb, 1, none⟩ = some (.slice x.oA x.on x.oc) ∧ w'.cell? ⟨gb, 2, none⟩ = some (.slice x.nA x.nn x.nc) ∧ gb < w'.heap.size) (by kernel_rfl) ?_
              have K50 : Hold M none w w1.drew _ := (K2.perm ((List.Perm.swap _ _ _).trans (List.Perm.cons _ (List.Perm.swap _ _ _)))).drew
              clear K2
              have HS0 : w1.drew.cell? ⟨gb, 1, none⟩ = some (.slice x.oA x.on x.oc) ∧ w1.drew.cell? ⟨gb, 2, none⟩ = some (.slice x.nA x.nn x.nc) ∧ gb < w1.drew.heap.size := ⟨cell_of_row _ _ 1 _ _ _ (K50.cst_ 2 rfl), cell_of_row _ _ 2 _ _ _ (K50.cst_ 2 rfl), Blk.lt (K50.cst_ 2 rfl)⟩
              refine wpAnyH_take (i := 0) (v := .slice C1 (nd + k) cap1) rfl (by kernel_rfl) (by kernel_rfl) (by kernel_rfl) (fun _ _ _ h => h) (.inl ⟨by rfl, fun wv HS => ?_⟩) HS0 ?_
              · obtain ⟨f0, f1, f2⟩ := HS; go_simp <;> rfl
              simp only [Act.put, List.getElem_toArray, List.getElem_cons_zero, List.getElem_cons_succ, List.setIfInBounds_toArray, List.set_cons_succ, List.set_cons_zero]
              refine wpAnyH_take (i := 1) (v := .pointer (some ⟨gb, 1, none⟩)) rfl (by kernel_rfl) (by kernel_rfl) (by kernel_rfl) (fun _ _ _ h => h) (.inl ⟨by rfl, fun wv HS => ?_⟩) HS0 ?_
              · obtain ⟨f0, f1, f2⟩ := HS; go_simp <;> rfl
              simp only [Act.put, List.getElem_toArray, List.getElem_cons_zero, List.getElem_cons_succ, List.setIfInBounds_toArray, List.set_cons_succ, List.set_cons_zero]
              refine wpAnyH_take (i := 2) (v := .slice x.oA x.on x.oc) rfl (by kernel_rfl) (by kernel_rfl) (by kernel_rfl) (fun _ _ _ h => h) (.inl ⟨by rfl, fun wv HS => ?_⟩) HS0 ?_
              · obtain ⟨f0, f1, f2⟩ := HS; go_simp <;> rfl
              simp only [Act.put, List.getElem_toArray, List.getElem_cons_zero, List.getElem_cons_succ, List.setIfInBounds_toArray, List.set_cons_succ, List.set_cons_zero]
              refine wpAnyH_take (i := 5) (v := .slice C2 (ni + k) cap2) rfl (by kernel_rfl) (by kernel_rfl) (by kernel_rfl) (fun _ _ _ h => h) (.inl ⟨by rfl, fun wv HS => ?_⟩) HS0 ?_
              · obtain ⟨f0, f1, f2⟩ := HS; go_simp <;> rfl
              simp only [Act.put, List.getElem_toArray, List.getElem_cons_zero, List.getElem_cons_succ, List.setIfInBounds_toArray, List.set_cons_succ, List.set_cons_zero]
              refine wpAnyH_take (i := 6) (v := .pointer (some ⟨gb, 2, none⟩)) rfl (by kernel_rfl) (by kernel_rfl) (by kernel_rfl) (fun _ _ _ h => h) (.inl ⟨by rfl, fun wv HS => ?_⟩) HS0 ?_
              · obtain ⟨f0, f1, f2⟩ := HS; go_simp <;> rfl
              simp only [Act.put, List.getElem_toArray, List.getElem_cons_zero, List.getElem_cons_succ, List.setIfInBounds_toArray, List.set_cons_succ, List.set_cons_zero]
              refine wpAnyH_take (i := 7) (v := .slice x.nA x.nn x.nc) rfl (by kernel_rfl) (by kernel_rfl) (by kernel_rfl) (fun _ _ _ h => h) (.inl ⟨by rfl, fun wv HS => ?_⟩) HS0 ?_
              · obtain ⟨f0, f1, f2⟩ := HS; go_simp <;> rfl
              simp only [Act.put, List.getElem_toArray, List.getElem_cons_zero, List.getElem_cons_succ, List.setIfInBounds_toArray, List.set_cons_succ, List.set_cons_zero]
              refine wpAnyH_all (rs := [3, 8]) (by kernel_rfl) (by simp) (fun ii hii => ?_)
              simp only [List.mem_cons, List.not_mem_nil, or_false] at hii
              rcases hii with rfl | rfl
              · skip
                refine wpOp_newH rfl rfl K50 #[.slice x.oA x.on x.oc] 27 (fun g => .slice (some ⟨g, 0, none⟩) 1 1) (fun wv => ?_) ?_
                · go_simp <;> rfl
                intro gA wK101 K101
                simp only [Act.put, List.getElem_toArray, List.getElem_cons_zero, List.getElem_cons_succ, List.setIfInBounds_toArray, List.set_cons_succ, List.set_cons_zero]
                refine ⟨⟨cell_of_row _ _ 1 _ _ _ (K101.cst_ 3 rfl), cell_of_row _ _ 2 _ _ _ (K101.cst_ 3 rfl), Blk.lt (K101.cst_ 3 rfl)⟩, ?_⟩
                refine wpAnyH_all (rs := [4, 8]) (by kernel_rfl) (by simp) (fun ii hii => ?_)
                simp only [List.mem_cons, List.not_mem_nil, or_false] at hii
                rcases hii with rfl | rfl
                · skip
                  refine wpOp_appH (A := some ⟨gA, 0, none⟩) (m := 1) (c := 1) (ys := [.slice x.oA x.on x.oc]) rfl rfl K101 1 rfl Tryd.elSlc (ro_block (size := 1) (n := 1) (K101.get 0 rfl) rfl).now (.tmp 45) (.tmp 48) rfl rfl rfl (by intro u hu; simp at hu; subst hu; rfl) (by omega) (by omega) ?_
                  intro Cl cpl wK102 hK1021 hK1022 K102a
                  simp only [List.set_cons_zero, List.set_cons_succ] at K102a
                  have K102 := K102a.drop (List.sublist_cons_self _ _)
                  clear K102a
                  simp only [Act.put, List.getElem_toArray, List.getElem_cons_zero, List.getElem_cons_succ, List.setIfInBounds_toArray, List.set_cons_succ, List.set_cons_zero]
                  refine ⟨⟨cell_of_row _ _ 1 _ _ _ (K102.cst_ 2 rfl), cell_of_row _ _ 2 _ _ _ (K102.cst_ 2 rfl), Blk.lt (K102.cst_ 2 rfl)⟩, ?_⟩
                  refine wpAnyH_all (rs := [8]) (by kernel_rfl) (by simp) (fun ii hii => ?_)
                  simp only [List.mem_cons, List.not_mem_nil, or_false] at hii
                  subst hii
                  · skip
                    refine wpOp_newH rfl rfl K102 #[.slice x.nA x.nn x.nc] 27 (fun g => .slice (some ⟨g, 0, none⟩) 1 1) (fun wv => ?_) ?_
                    · go_simp <;> rfl
                    intro gB wK103 K103
                    simp only [Act.put, List.getElem_toArray, List.getElem_cons_zero, List.getElem_cons_succ, List.setIfInBounds_toArray, List.set_cons_succ, List.set_cons_zero]
                    refine ⟨⟨cell_of_row _ _ 1 _ _ _ (K103.cst_ 3 rfl), cell_of_row _ _ 2 _ _ _ (K103.cst_ 3 rfl), Blk.lt (K103.cst_ 3 rfl)⟩, ?_⟩
                    refine wpAnyH_all (rs := [9]) (by kernel_rfl) (by simp) (fun ii hii => ?_)
                    simp only [List.mem_cons, List.not_mem_nil, or_false] at hii
                    subst hii
                    · skip
                      refine wpOp_appH (A := some ⟨gB, 0, none⟩) (m := 1) (c := 1) (ys := [.slice x.nA x.nn x.nc]) rfl rfl K103 2 rfl Tryd.elSlc (ro_block (size := 1) (n := 1) (K103.get 0 rfl) rfl).now (.tmp 50) (.tmp 53) rfl rfl rfl (by intro u hu; simp at hu; subst hu; rfl) (by omega) (by omega) ?_
                      intro Cr cpr wK104 hK1041 hK1042 K104a
                      simp only [List.set_cons_zero, List.set_cons_succ] at K104a
                      have K104 := K104a.drop (List.sublist_cons_self _ _)
                      clear K104a
                      simp only [Act.put, List.getElem_toArray, List.getElem_cons_zero, List.getElem_cons_succ, List.setIfInBounds_toArray, List.set_cons_succ, List.set_cons_zero]
                      refine ⟨⟨cell_of_row _ _ 1 _ _ _ (K104.cst_ 2 rfl), cell_of_row _ _ 2 _ _ _ (K104.cst_ 2 rfl), Blk.lt (K104.cst_ 2 rfl)⟩, ?_⟩
                      refine wpAnyH_take (i := 10) (v := .slice Cl (nd + k + 1) cpl) rfl (by kernel_rfl) (by kernel_rfl) (by kernel_rfl) (fun _ _ _ h => h) (.inl ⟨by rfl, fun wv HS => ?_⟩) ⟨cell_of_row _ _ 1 _ _ _ (K104.cst_ 2 rfl), cell_of_row _ _ 2 _ _ _ (K104.cst_ 2 rfl), Blk.lt (K104.cst_ 2 rfl)⟩ ?_
                      · go_simp <;> rfl
                      simp only [Act.put, List.getElem_toArray, List.getElem_cons_zero, List.getElem_cons_succ, List.setIfInBounds_toArray, List.set_cons_succ, List.set_cons_zero]
                      refine wpAnyH_take (i := 11) (v := .slice Cr (ni + k + 1) cpr) rfl (by kernel_rfl) (by kernel_rfl) (by kernel_rfl) (fun _ _ _ h => h) (.inl ⟨by rfl, fun wv HS => ?_⟩) ⟨cell_of_row _ _ 1 _ _ _ (K104.cst_ 2 rfl), cell_of_row _ _ 2 _ _ _ (K104.cst_ 2 rfl), Blk.lt (K104.cst_ 2 rfl)⟩ ?_
                      · go_simp <;> rfl
                      simp only [Act.put, List.getElem_toArray, List.getElem_cons_zero, List.getElem_cons_succ, List.setIfInBounds_toArray, List.set_cons_succ, List.set_cons_zero]
                      refine wpAnyH_done (by kernel_rfl) ?_ _
                      rw [HCE1.out, HCE2.out] at K104
                      go_wp2_with fail
                      go_roundw
                      case rel => exact ⟨k + 1, cpl, cpr, Cl, Cr, by omega, by first | rfl | go_num, by first | rfl | go_num, by first | rfl | go_num, K104.drop (List.Sublist.cons_cons _ (List.Sublist.cons_cons _ (List.sublist_cons_self _ _)))⟩
                      case measure => simp [intOf]; omega
                · skip
                  refine wpOp_newH rfl rfl K101 #[.slice x.nA x.nn x.nc] 27 (fun g => .slice (some ⟨g, 0, none⟩) 1 1) (fun wv => ?_) ?_
                  · go_simp <;> rfl
                  intro gB wK105 K105
                  simp only [Act.put, List.getElem_toArray, List.getElem_cons_zero, List.getElem_cons_succ, List.setIfInBounds_toArray, List.set_cons_succ, List.set_cons_zero]
                  refine ⟨⟨cell_of_row _ _ 1 _ _ _ (K105.cst_ 4 rfl), cell_of_row _ _ 2 _ _ _ (K105.cst_ 4 rfl), Blk.lt (K105.cst_ 4 rfl)⟩, ?_⟩
                  refine wpAnyH_all (rs := [4]) (by kernel_rfl) (by simp) (fun ii hii => ?_)
                  simp only [List.mem_cons, List.not_mem_nil, or_false] at hii
                  subst hii
                  · skip
                    refine wpOp_appH (A := some ⟨gA, 0, none⟩) (m := 1) (c := 1) (ys := [.slice x.oA x.on x.oc]) rfl rfl K105 2 rfl Tryd.elSlc (ro_block (size := 1) (n := 1) (K105.get 1 rfl) rfl).now (.tmp 45) (.tmp 48) rfl rfl rfl (by intro u hu; simp at hu; subst hu; rfl) (by omega) (by omega) ?_
                    intro Cl cpl wK106 hK1061 hK1062 K106a
                    simp only [List.set_cons_zero, List.set_cons_succ] at K106a
                    have K106 := K106a.drop (List.Sublist.cons_cons _ (List.sublist_cons_self _ _))
                    clear K106a
                    simp only [Act.put, List.getElem_toArray, List.getElem_cons_zero, List.getElem_cons_succ, List.setIfInBounds_toArray, List.set_cons_succ, List.set_cons_zero]
                    refine ⟨⟨cell_of_row _ _ 1 _ _ _ (K106.cst_ 3 rfl), cell_of_row _ _ 2 _ _ _ (K106.cst_ 3 rfl), Blk.lt (K106.cst_ 3 rfl)⟩, ?_⟩
                    refine wpAnyH_all (rs := [9]) (by kernel_rfl) (by simp) (fun ii hii => ?_)
                    simp only [List.mem_cons, List.not_mem_nil, or_false] at hii
                    subst hii
                    · skip
                      refine wpOp_appH (A := some ⟨gB, 0, none⟩) (m := 1) (c := 1) (ys := [.slice x.nA x.nn x.nc]) rfl rfl K106 2 rfl Tryd.elSlc (ro_block (size := 1) (n := 1) (K106.get 0 rfl) rfl).now (.tmp 50) (.tmp 53) rfl rfl rfl (by intro u hu; simp at hu; subst hu; rfl) (by omega) (by omega) ?_
                      intro Cr cpr wK107 hK1071 hK1072 K107a
                      simp only [List.set_cons_zero, List.set_cons_succ] at K107a
                      have K107 := K107a.drop (List.sublist_cons_self _ _)
                      clear K107a
                      simp only [Act.put, List.getElem_toArray, List.getElem_cons_zero, List.getElem_cons_succ, List.setIfInBounds_toArray, List.set_cons_succ, List.set_cons_zero]
                      refine ⟨⟨cell_of_row _ _ 1 _ _ _ (K107.cst_ 2 rfl), cell_of_row _ _ 2 _ _ _ (K107.cst_ 2 rfl), Blk.lt (K107.cst_ 2 rfl)⟩, ?_⟩
                      refine wpAnyH_take (i := 10) (v := .slice Cl (nd + k + 1) cpl) rfl (by kernel_rfl) (by kernel_rfl) (by kernel_rfl) (fun _ _ _ h => h) (.inl ⟨by rfl, fun wv HS => ?_⟩) ⟨cell_of_row _ _ 1 _ _ _ (K107.cst_ 2 rfl), cell_of_row _ _ 2 _ _ _ (K107.cst_ 2 rfl), Blk.lt (K107.cst_ 2 rfl)⟩ ?_
                      · go_simp <;> rfl
                      simp only [Act.put, List.getElem_toArray, List.getElem_cons_zero, List.getElem_cons_succ, List.setIfInBounds_toArray, List.set_cons_succ, List.set_cons_zero]
                      refine wpAnyH_take (i := 11) (v := .slice Cr (ni + k + 1) cpr) rfl (by kernel_rfl) (by kernel_rfl) (by kernel_rfl) (fun _ _ _ h => h) (.inl ⟨by rfl, fun wv HS => ?_⟩) ⟨cell_of_row _ _ 1 _ _ _ (K107.cst_ 2 rfl), cell_of_row _ _ 2 _ _ _ (K107.cst_ 2 rfl), Blk.lt (K107.cst_ 2 rfl)⟩ ?_
                      · go_simp <;> rfl
                      simp only [Act.put, List.getElem_toArray, List.getElem_cons_zero, List.getElem_cons_succ, List.setIfInBounds_toArray, List.set_cons_succ, List.set_cons_zero]
                      refine wpAnyH_done (by kernel_rfl) ?_ _
                      rw [HCE1.out, HCE2.out] at K107
                      go_wp2_with fail
                      go_roundw
                      case rel => exact ⟨k + 1, cpl, cpr, Cl, Cr, by omega, by first | rfl | go_num, by first | rfl | go_num, by first | rfl | go_num, K107.drop (List.Sublist.cons_cons _ (List.Sublist.cons_cons _ (List.sublist_cons_self _ _)))⟩
                      case measure => simp [intOf]; omega
              · skip
                refine wpOp_newH rfl rfl K50 #[.slice x.nA x.nn x.nc] 27 (fun g => .slice (some ⟨g, 0, none⟩) 1 1) (fun wv => ?_) ?_
                · go_simp <;> rfl
                intro gB wK108 K108
                simp only [Act.put, List.getElem_toArray, List.getElem_cons_zero, List.getElem_cons_succ, List.setIfInBounds_toArray, List.set_cons_succ, List.set_cons_zero]
                refine ⟨⟨cell_of_row _ _ 1 _ _ _ (K108.cst_ 3 rfl), cell_of_row _ _ 2 _ _ _ (K108.cst_ 3 rfl), Blk.lt (K108.cst_ 3 rfl)⟩, ?_⟩
                refine wpAnyH_all (rs := [3]) (by kernel_rfl) (by simp) (fun ii hii => ?_)
                simp only [List.mem_cons, List.not_mem_nil, or_false] at hii
                subst hii
                · skip
                  refine wpOp_newH rfl rfl K108 #[.slice x.oA x.on x.oc] 27 (fun g => .slice (some ⟨g, 0, none⟩) 1 1) (fun wv => ?_) ?_
                  · go_simp <;> rfl
                  intro gA wK109 K109
                  simp only [Act.put, List.getElem_toArray, List.getElem_cons_zero, List.getElem_cons_succ, List.setIfInBounds_toArray, List.set_cons_succ, List.set_cons_zero]
                  refine ⟨⟨cell_of_row _ _ 1 _ _ _ (K109.cst_ 4 rfl), cell_of_row _ _ 2 _ _ _ (K109.cst_ 4 rfl), Blk.lt (K109.cst_ 4 rfl)⟩, ?_⟩
                  refine wpAnyH_all (rs := [4]) (by kernel_rfl) (by simp) (fun ii hii => ?_)
                  simp only [List.mem_cons, List.not_mem_nil, or_false] at hii
                  subst hii
                  · skip
                    refine wpOp_appH (A := some ⟨gA, 0, none⟩) (m := 1) (c := 1) (ys := [.slice x.oA x.on x.oc]) rfl rfl K109 2 rfl Tryd.elSlc (ro_block (size := 1) (n := 1) (K109.get 0 rfl) rfl).now (.tmp 45) (.tmp 48) rfl rfl rfl (by intro u hu; simp at hu; subst hu; rfl) (by omega) (by omega) ?_
                    intro Cl cpl wK110 hK1101 hK1102 K110a
                    simp only [List.set_cons_zero, List.set_cons_succ] at K110a
                    have K110 := K110a.drop (List.sublist_cons_self _ _)
                    clear K110a
                    simp only [Act.put, List.getElem_toArray, List.getElem_cons_zero, List.getElem_cons_succ, List.setIfInBounds_toArray, List.set_cons_succ, List.set_cons_zero]
                    refine ⟨⟨cell_of_row _ _ 1 _ _ _ (K110.cst_ 3 rfl), cell_of_row _ _ 2 _ _ _ (K110.cst_ 3 rfl), Blk.lt (K110.cst_ 3 rfl)⟩, ?_⟩
                    refine wpAnyH_all (rs := [9]) (by kernel_rfl) (by simp) (fun ii hii => ?_)
                    simp only [List.mem_cons, List.not_mem_nil, or_false] at hii
                    subst hii
                    · skip
                      refine wpOp_appH (A := some ⟨gB, 0, none⟩) (m := 1) (c := 1) (ys := [.slice x.nA x.nn x.nc]) rfl rfl K110 2 rfl Tryd.elSlc (ro_block (size := 1) (n := 1) (K110.get 0 rfl) rfl).now (.tmp 50) (.tmp 53) rfl rfl rfl (by intro u hu; simp at hu; subst hu; rfl) (by omega) (by omega) ?_
                      intro Cr cpr wK111 hK1111 hK1112 K111a
                      simp only [List.set_cons_zero, List.set_cons_succ] at K111a
                      have K111 := K111a.drop (List.sublist_cons_self _ _)
                      clear K111a
                      simp only [Act.put, List.getElem_toArray, List.getElem_cons_zero, List.getElem_cons_succ, List.setIfInBounds_toArray, List.set_cons_succ, List.set_cons_zero]
                      refine ⟨⟨cell_of_row _ _ 1 _ _ _ (K111.cst_ 2 rfl), cell_of_row _ _ 2 _ _ _ (K111.cst_ 2 rfl), Blk.lt (K111.cst_ 2 rfl)⟩, ?_⟩
                      refine wpAnyH_take (i := 10) (v := .slice Cl (nd + k + 1) cpl) rfl (by kernel_rfl) (by kernel_rfl) (by kernel_rfl) (fun _ _ _ h => h) (.inl ⟨by rfl, fun wv HS => ?_⟩) ⟨cell_of_row _ _ 1 _ _ _ (K111.cst_ 2 rfl), cell_of_row _ _ 2 _ _ _ (K111.cst_ 2 rfl), Blk.lt (K111.cst_ 2 rfl)⟩ ?_
                      · go_simp <;> rfl
                      simp only [Act.put, List.getElem_toArray, List.getElem_cons_zero, List.getElem_cons_succ, List.setIfInBounds_toArray, List.set_cons_succ, List.set_cons_zero]
                      refine wpAnyH_take (i := 11) (v := .slice Cr (ni + k + 1) cpr) rfl (by kernel_rfl) (by kernel_rfl) (by kernel_rfl) (fun _ _ _ h => h) (.inl ⟨by rfl, fun wv HS => ?_⟩) ⟨cell_of_row _ _ 1 _ _ _ (K111.cst_ 2 rfl), cell_of_row _ _ 2 _ _ _ (K111.cst_ 2 rfl), Blk.lt (K111.cst_ 2 rfl)⟩ ?_
                      · go_simp <;> rfl
                      simp only [Act.put, List.getElem_toArray, List.getElem_cons_zero, List.getElem_cons_succ, List.setIfInBounds_toArray, List.set_cons_succ, List.set_cons_zero]
                      refine wpAnyH_done (by kernel_rfl) ?_ _
                      rw [HCE1.out, HCE2.out] at K111
                      go_wp2_with fail
                      go_roundw
                      case rel => exact ⟨k + 1, cpl, cpr, Cl, Cr, by omega, by first | rfl | go_num, by first | rfl | go_num, by first | rfl | go_num, K111.drop (List.Sublist.cons_cons _ (List.Sublist.cons_cons _ (List.sublist_cons_self _ _)))⟩
                      case measure => simp [intOf]; omega
            · skip
              obtain rfl : nu = k := by omega
              have hdu : decide ((nu : Int) < (nu : Int)) = false := by simp
              obtain ⟨hc1, hc2, _⟩ := own_caps (H.get 0 rfl)
              obtain ⟨hc3, hc4, _⟩ := own_caps (H.get 1 rfl)
              have HT1 := hid (show (lu.map Pr.osl).take nu = lu.map Pr.osl from List.take_of_length_le (by rw [List.length_map, HLU.out]; exact Nat.le_refl _))
              have HT2 := hid (show (lu.map Pr.nsl).take nu = lu.map Pr.nsl from List.take_of_length_le (by rw [List.length_map, HLU.out]; exact Nat.le_refl _))
              rw [HT1.out, HT2.out] at H
              have KS0 := H.sealRow 0 rfl
              simp only [List.set_cons_zero] at KS0
              have KS := KS0.sealRow 1 rfl
              simp only [List.set_cons_zero, List.set_cons_succ] at KS
              have KV0 := KS.swapRo 0 rfl (((KS.ro 0 rfl).and ((KS.ro 4 rfl).and (KS.ro 5 rfl))).imp fun w2 h => (⟨h.1, slVals_app (slv_of_rws h.2.1) (slv_of_prsO h.2.2)⟩ : SlsIn C1 (nd + nu) (ld.map Rw.sl ++ lu.map Pr.osl) w2))
              simp only [List.set_cons_zero] at KV0
              have KV := KV0.swapRo 1 rfl (((KV0.ro 1 rfl).and ((KV0.ro 3 rfl).and (KV0.ro 5 rfl))).imp fun w2 h => (⟨h.1, slVals_app (slv_of_rws h.2.1) (slv_of_prsN h.2.2)⟩ : SlsIn C2 (ni + nu) (li.map Rw.sl ++ lu.map Pr.nsl) w2))
              simp only [List.set_cons_zero, List.set_cons_succ] at KV
              clear H KS KS0 KV0 hlt hk
              have HB1 := hid (show ∀ s ∈ ld.map Rw.sl ++ lu.map Pr.osl, s.n ≤ 4398046511104 ∧ s.ok from fun s hs => by
                rcases List.mem_append.1 hs with hs | hs
                · obtain ⟨r, hr, rfl⟩ := List.mem_map.1 hs; exact ⟨(HQ.out.2.1 r hr).2, rw_sl_ok (HQ.out.2.1 r hr).1⟩
                · obtain ⟨r, hr, rfl⟩ := List.mem_map.1 hs; have h := HQ.out.2.2 r hr; exact ⟨h.2.1, ⟨h.1.oc, h.1.oc2, h.1.old⟩⟩)
              have HB2 := hid (show ∀ s ∈ li.map Rw.sl ++ lu.map Pr.nsl, s.n ≤ 4398046511104 ∧ s.ok from fun s hs => by
                rcases List.mem_append.1 hs with hs | hs
                · obtain ⟨r, hr, rfl⟩ := List.mem_map.1 hs; exact ⟨(HQ.out.1 r hr).2, rw_sl_ok (HQ.out.1 r hr).1⟩
                · obtain ⟨r, hr, rfl⟩ := List.mem_map.1 hs; have h := HQ.out.2.2 r hr; exact ⟨h.2.2, ⟨h.1.nc, h.1.nc2, h.1.new⟩⟩)
              go_wp2_with fail
              refine (tsort_any _ _ KV.mutLt C1 (nd + nu) cap1 _ (KV.ro 0 rfl) (by omega) (fun s hs => (HB1.out s hs).1) (fun s hs => (HB1.out s hs).2)).mono ?_
              rintro e w3 ⟨A3, n3, c3, l3, rfl, h31, h32, r3, o3, m3, e3, b3⟩
              have K5 := (KV.call b3).add r3
              have HE3 := hid (And.intro o3 (And.intro m3 e3))
              clear KV b3 r3 o3 m3 e3
              go_wp2_with fail
              refine (tsort_any _ _ K5.mutLt C2 (ni + nu) cap2 _ (K5.ro 2 rfl) (by omega) (fun s hs => (HB2.out s hs).1) (fun s hs => (HB2.out s hs).2)).mono ?_
              rintro e w4 ⟨A4, n4, c4, l4, rfl, h41, h42, r4, o4, m4, e4, b4⟩
              have K6 := (K5.call b4).add r4
              have HE4 := hid (And.intro o4 (And.intro m4 e4))
              clear K5 b4 r4 o4 m4 e4
              have q1 := K6.roOut 0 rfl
              have q2 := K6.roOut 1 rfl
              have q3 := K6.below
              clear K6
              go_wp2_with fail
              go_ret2
              exact ⟨A3, n3, c3, l3, A4, n4, c4, l4, rfl, ⟨h31, h32⟩, ⟨h41, h42⟩, q2, q1, HE3.out.1, HE4.out.1, HE3.out.2.1, HE4.out.2.1, by rw [HE3.out.2.2, List.map_append, List.map_map, List.map_map]; rfl, by rw [HE4.out.2.2, List.map_append, List.map_map, List.map_map]; rfl, q3⟩
end Go.Proofs.YtljmclbedpceoaaDoor

namespace Go.Proofs.YtljmclbedpceoaaDoor
open Go.RowKit
set_option linter.unusedVariables false
set_option linter.unusedSimpArgs false
set_option linter.unusedSectionVars false

theorem turnR_cons (rs : List Row) (y : Row) (l : List Row) : turnR rs (y :: l) = (match getR rs y.1 with | some o => if o = y.2 then none else some (y.1, o, y.2) | none => none).toList ++ turnR rs l := by
  unfold turnR
  rw [List.filterMap_cons]
  cases getR rs y.1 with
  | none => rfl
  | some o => by_cases ho : o = y.2 <;> simp [ho]
def betD (a b : Tb) : Dl := ⟨a.nm, offR a.rs b.rs, offR b.rs a.rs, turnR a.rs b.rs⟩
section
variable {a b : Tb} (ha : tabB a.nm a.cs a.nx a.rs = true) (hb : tabB b.nm b.cs b.nx b.rs = true) (hl : LaterOk a b)
include ha hb hl
theorem betC_later : betweenC a b = (true, betD a b) := by
  obtain ⟨h1, h2, h3, h4⟩ := hl
  have : betB a b = true := by
    unfold betB
    rw [ha, hb, decide_eq_true (show a.nm = b.nm ∧ a.cs = b.cs from ⟨h1.symm, h2.symm⟩), decide_eq_true h3]
    simp only [Bool.and_self, Bool.true_and, List.all_eq_true, Bool.or_eq_true, decide_eq_true_eq]
    exact h4
  unfold betweenC
  rw [this]; rfl
end
end Go.Proofs.YtljmclbedpceoaaDoor

namespace Go.Proofs.YtljmclbedpceoaaDoor
open Go.RowKit
set_option linter.unusedVariables false
set_option linter.unusedSimpArgs false

def sameBagV (a b : List (List Vl)) : Bool := decide (sortV a = sortV b)
def countV (l : List (List Vl)) (t : List Vl) : Nat := l.countP fun x => decide (x = t)
end Go.Proofs.YtljmclbedpceoaaDoor

namespace Go.Proofs.YtljmclbedpceoaaDoor
open Go.RowKit
set_option linter.unusedVariables false
set_option linter.unusedSimpArgs false

section
variable {a b : List (List Vl)} {k p : Nat} {t s : List Vl}
end
end Go.Proofs.YtljmclbedpceoaaDoor

namespace Go.Proofs.YtljmclbedpceoaaDoor
open Go.RowKit
set_option linter.unusedVariables false
set_option linter.unusedSimpArgs false

theorem countV_cons (x : List Vl) (l : List (List Vl)) (r : List Vl) : countV (x :: l) r = countV l r + (if x = r then 1 else 0) := by
  unfold countV
  by_cases h : x = r <;> simp [List.countP_cons, h]
theorem countV_perm {a b : List (List Vl)} (h : a.Perm b) (r : List Vl) : countV a r = countV b r := h.countP_eq _
theorem countV_count (l : List (List Vl)) (r : List Vl) : l.count r = countV l r := by
  unfold countV
  rw [List.count_eq_countP]
  exact List.countP_congr fun x _ => by simp
theorem countV_app (a b : List (List Vl)) (r : List Vl) : countV (a ++ b) r = countV a r + countV b r := by unfold countV; rw [List.countP_append]
theorem perm_of_countV {a b : List (List Vl)} (h : ∀ r, countV a r = countV b r) : a.Perm b := List.perm_iff_count.2 fun r => by rw [countV_count, countV_count, h]
theorem sameBag_perm (a b : List (List Vl)) : sameBagV a b = true ↔ a.Perm b := by
  unfold sameBagV
  rw [decide_eq_true_iff]
  exact ⟨fun h => (sortV_perm a).symm.trans (h ▸ sortV_perm b), fun h => sorted_uniq ((sortV_perm a).trans (h.trans (sortV_perm b).symm)) (sortV_sorted a) (sortV_sorted b)⟩
end Go.Proofs.YtljmclbedpceoaaDoor

namespace Go.Proofs.YtljmclbedpceoaaDoor
open Go.RowKit
set_option linter.unusedVariables false
set_option linter.unusedSimpArgs false

def bagR (rs : List Row) : List (List Vl) := rs.map (·.2)
def leftD (d : Dl) : List (List Vl) := d.del.map (·.2) ++ d.upd.map (·.2.1)
def cameD (d : Dl) : List (List Vl) := d.ins.map (·.2) ++ d.upd.map (·.2.2)
/-- the rows of l that rs has too, with both values -/
def pairsR (rs l : List Row) : List Upd := l.filterMap fun r => (getR rs r.1).map fun o => (r.1, o, r.2)
theorem nodup_ids {l : List Row} (h : (l.map (·.1)).Pairwise (· < ·)) : l.Nodup := (List.pairwise_map.1 h).imp fun hlt e => by subst e; omega
theorem off_split (rs l : List Row) : (offR rs l ++ l.filter fun r => (getR rs r.1).isSome).Perm l := by
  have h := List.filter_append_perm (fun r : Row => (getR rs r.1).isNone) l
  have e : l.filter (fun r => !(getR rs r.1).isNone) = l.filter fun r => (getR rs r.1).isSome := List.filter_congr fun r _ => by cases getR rs r.1 <;> rfl
  rw [e] at h
  exact h
theorem pairsR_cons (rs : List Row) (r : Row) (l : List Row) : pairsR rs (r :: l) = ((getR rs r.1).map fun o => (r.1, o, r.2)).toList ++ pairsR rs l := by
  unfold pairsR
  rw [List.filterMap_cons]
  cases getR rs r.1 <;> rfl
theorem pairs_new (rs : List Row) : ∀ l : List Row, (pairsR rs l).map (·.2.2) = (l.filter fun r => (getR rs r.1).isSome).map (·.2)
  | [] => rfl
  | r :: l => by
    rw [pairsR_cons, List.map_append, pairs_new rs l, List.filter_cons]
    cases getR rs r.1 <;> rfl
theorem turn_pairs (rs : List Row) : ∀ l : List Row, turnR rs l = (pairsR rs l).filter fun u => decide (u.2.1 ≠ u.2.2)
  | [] => rfl
  | r :: l => by
    rw [turnR_cons, pairsR_cons, List.filter_append, turn_pairs rs l]
    cases getR rs r.1 with
    | none => rfl
    | some o =>
      by_cases h : o = r.2
      · simp [h]
      · simp [h]
theorem pairs_ids (rs : List Row) : ∀ l : List Row, ((pairsR rs l).map (·.1)).Sublist (l.map (·.1))
  | [] => List.Sublist.refl _
  | r :: l => by
    rw [pairsR_cons, List.map_append, List.map_cons]
    cases getR rs r.1 with
    | none => exact (pairs_ids rs l).cons _
    | some o => exact (pairs_ids rs l).cons_cons _
theorem pairs_mem {rs l : List Row} {u : Upd} : u ∈ pairsR rs l ↔ (u.1, u.2.2) ∈ l ∧ getR rs u.1 = some u.2.1 := by
  unfold pairsR
  rw [List.mem_filterMap]
  constructor
  · rintro ⟨r, hr, h⟩
    obtain ⟨o, ho, rfl⟩ := Option.map_eq_some_iff.1 h
    exact ⟨hr, ho⟩
  · rintro ⟨h1, h2⟩
    exact ⟨_, h1, by rw [h2]; rfl⟩
theorem pairs_old {rs l : List Row} (hr : (rs.map (·.1)).Pairwise (· < ·)) (hl : (l.map (·.1)).Pairwise (· < ·)) : ((pairsR rs l).map fun u => (u.1, u.2.1)).Perm (rs.filter fun r => (getR l r.1).isSome) := by
  have n1 : ((pairsR rs l).map fun u => (u.1, u.2.1)).Nodup := nodup_ids (by
    rw [List.map_map]
    exact hl.sublist (pairs_ids rs l))
  have n2 : (rs.filter fun r => (getR l r.1).isSome).Nodup := (nodup_ids hr).sublist List.filter_sublist
  refine (List.perm_ext_iff_of_nodup n1 n2).2 fun x => ?_
  rw [List.mem_map, List.mem_filter]
  constructor
  · rintro ⟨u, hu, rfl⟩
    obtain ⟨h1, h2⟩ := pairs_mem.1 hu
    exact ⟨getR_out h2, getR_isSome (rs := l) (List.mem_map.2 ⟨(u.1, u.2.2), h1, rfl⟩)⟩
  · rintro ⟨h1, h2⟩
    obtain ⟨v, hv⟩ := Option.isSome_iff_exists.1 h2
    exact ⟨(x.1, x.2, v), pairs_mem.2 ⟨getR_out hv, getR_of_mem hr h1⟩, rfl⟩
theorem swap_pairs (r : List Vl) : ∀ P : List Upd, countV (P.map (·.2.1)) r + countV ((P.filter fun u => decide (u.2.1 ≠ u.2.2)).map (·.2.2)) r = countV (P.map (·.2.2)) r + countV ((P.filter fun u => decide (u.2.1 ≠ u.2.2)).map (·.2.1)) r
  | [] => rfl
  | u :: P => by
    have ih := swap_pairs r P
    rw [List.filter_cons]
    by_cases h : u.2.1 = u.2.2
    · rw [if_neg (by simp [h]), List.map_cons, List.map_cons, countV_cons, countV_cons, h]
      omega
    · rw [if_pos (by simp [h]), List.map_cons, List.map_cons, List.map_cons, List.map_cons, countV_cons, countV_cons, countV_cons, countV_cons]
      omega
theorem nets {a b : Tb} (ha : (a.rs.map (·.1)).Pairwise (· < ·)) (hb : (b.rs.map (·.1)).Pairwise (· < ·)) : (bagR a.rs ++ cameD (betD a b)).Perm (bagR b.rs ++ leftD (betD a b)) := perm_of_countV fun r => by
  have e1 := countV_perm ((off_split b.rs a.rs).map (·.2)) r
  have e2 := countV_perm ((off_split a.rs b.rs).map (·.2)) r
  have e3 := countV_perm ((pairs_old ha hb).map (·.2)) r
  have e4 := swap_pairs r (pairsR a.rs b.rs)
  rw [← turn_pairs, pairs_new] at e4
  rw [List.map_map] at e3
  rw [List.map_append, countV_app] at e1 e2
  have e5 : countV ((pairsR a.rs b.rs).map ((fun x : Row => x.2) ∘ fun u => (u.1, u.2.1))) r = countV ((pairsR a.rs b.rs).map (·.2.1)) r := rfl
  rw [e5] at e3
  unfold bagR cameD leftD betD
  simp only [countV_app]
  clear e5
  obtain ⟨f1, hf1⟩ : ∃ f1, f1 = countV (List.map (fun x => x.2) (List.filter (fun r => (getR b.rs r.1).isSome) a.rs)) r := ⟨_, rfl⟩
  obtain ⟨f2, hf2⟩ : ∃ f2, f2 = countV (List.map (fun x => x.2) (List.filter (fun r => (getR a.rs r.1).isSome) b.rs)) r := ⟨_, rfl⟩
  have e1' := e1.trans rfl
  replace e3 := e3.trans hf1.symm
  replace e1 : countV (List.map (fun x => x.2) (offR b.rs a.rs)) r + f1 = countV (List.map (fun x => x.2) a.rs) r := by rw [hf1]; exact e1
  replace e2 : countV (List.map (fun x => x.2) (offR a.rs b.rs)) r + f2 = countV (List.map (fun x => x.2) b.rs) r := by rw [hf2]; exact e2
  replace e4 : countV (List.map (fun x => x.2.1) (pairsR a.rs b.rs)) r + countV (List.map (fun x => x.2.2) (turnR a.rs b.rs)) r = f2 + countV (List.map (fun x => x.2.1) (turnR a.rs b.rs)) r := by rw [hf2]; exact e4
  clear hf1 hf2 e1'
  omega
end Go.Proofs.YtljmclbedpceoaaDoor

namespace Go.Proofs.YtljmclbedpceoaaDoor
open Go.RowKit
set_option linter.unusedVariables false
set_option linter.unusedSimpArgs false

set_option maxHeartbeats 4000000 in
set_option maxRecDepth 100000 in
theorem rsamebag_any (M : Nat → Prop) (w : World) (hM : ∀ b, M b → b < w.heap.size) (A : Option Addr) (n c : Nat) (xs : List Sl) (B : Option Addr) (m d : Nat) (ys : List Sl) (hD : Ro w M (SlsIn A n xs)) (hE : Ro w M (SlsIn B m ys)) (hn : n ≤ 4398046511104) (hm : m ≤ 4398046511104) (hr : ∀ r ∈ xs, r.n ≤ 4398046511104) (hs : ∀ r ∈ ys, r.n ≤ 4398046511104) (hox : ∀ r ∈ xs, r.ok) (hoy : ∀ r ∈ ys, r.ok) :
    Calls Tryd.prog 25 #[.slice A n c, .slice B m d] w fun e w' => e = .returned (.bool (sameBagV (xs.map Sl.vs) (ys.map Sl.vs))) ∧ Below w.heap.size w w' := by
  have HQ := hid (And.intro hr (And.intro hs (And.intro hox hoy)))
  have K0 := ((Hold.start M w hM).add (hE.less (by simp [Mut]))).add (hD.less (by simp [Mut, Hp.foot]))
  clear hD hE hr hs hox hoy
  go_enter Tryd.func25, Tryd.ntmps25
  go_wp2_with fail
  refine (rsort_any _ _ K0.mutLt A n c xs (K0.ro 0 rfl) hn HQ.out.1 HQ.out.2.2.1).mono ?_
  rintro e w1 ⟨A1, n1, c1, la, rfl, h11, h12, r1, o1, m1, e1, b1⟩
  have K1 := (K0.call b1).add r1
  have HAO := hid o1
  have HAN := hid m1
  have HAE := hid e1
  have HAL := hid (show la.length = n1 from r1.now.len)
  clear K0 b1 r1 o1 m1 e1
  go_wp2_with fail
  refine (rsort_any _ _ K1.mutLt B m d ys (K1.ro 2 rfl) hm HQ.out.2.1 HQ.out.2.2.2).mono ?_
  rintro e w2 ⟨A2, n2, c2, lb, rfl, h21, h22, r2, o2, m2, e2, b2⟩
  have K2 := (K1.call b2).add r2
  have HBO := hid o2
  have HBN := hid m2
  have HBE := hid e2
  have HBL := hid (show lb.length = n2 from r2.now.len)
  have hn1 : n1 ≤ 4398046511104 := by
    have h1 := HAL.out
    have h2 := congrArg List.length HAE.out
    have h3 := (K2.ro 2 rfl).now.len
    rw [List.length_map, sortV_len, List.length_map] at h2
    omega
  have hn2 : n2 ≤ 4398046511104 := by
    have h1 := HBL.out
    have h2 := congrArg List.length HBE.out
    have h3 := (K2.ro 3 rfl).now.len
    rw [List.length_map, sortV_len, List.length_map] at h2
    omega
  clear K1 b2 r2 o2 m2 e2
  have HV := hid (show sameBagV (xs.map Sl.vs) (ys.map Sl.vs) = decide (la.map Sl.vs = lb.map Sl.vs) by rw [HAE.out, HBE.out]; rfl)
  by_cases hnn : n1 = n2
  · subst hnn
    have hb : ((n1 : Int) != (n1 : Int)) = false := by simp
    go_wp2_with fail
    go_loopw [19] (fun iv wr => ∃ (k : Nat), k ≤ n1 ∧ iv = .int .i64 k ∧ Hid ((la.map Sl.vs).take k = (lb.map Sl.vs).take k) ∧ Hold M none w wr [.ro (SlsIn A2 n1 lb), .ro (SlsIn A1 n1 la), .ro (SlsIn A n xs), .ro (SlsIn B m ys)]) (fun iv _ => n1 - (intOf iv).toNat)
    case atStart => exact ⟨0, by omega, rfl, hid (by simp), K2⟩
    case round =>
      clear K2
      obtain ⟨k, hk, rfl, HTK, H⟩ := hrel
      by_cases hlt : k < n1
      · have hd : decide ((k : Int) < (n1 : Int)) = true := by simp; omega
        have i0 : (0 : Int) ≤ (k : Int) := by omega
        have i1 : (k : Int) < (n1 : Int) := by omega
        obtain ⟨x, hx⟩ := get_of HAL.out hlt
        obtain ⟨y, hy⟩ := get_of HBL.out hlt
        have HX := hid (show (la.map Sl.vs)[k]? = some x.vs by simp [hx])
        have HY := hid (show (lb.map Sl.vs)[k]? = some y.vs by simp [hy])
        have HXN := hid (HAN.out x (List.mem_of_getElem? hx))
        have HYN := hid (HBN.out y (List.mem_of_getElem? hy))
        obtain ⟨g, o, rfl, hbx, x0, _⟩ := (H.ro 1 rfl).now.at_ hx
        obtain ⟨g', o', rfl, hby, y0, _⟩ := (H.ro 0 rfl).now.at_ hy
        have HXM := hid (List.mem_of_getElem? hx)
        have HYM := hid (List.mem_of_getElem? hy)
        have HXI := hid hx
        have HYI := hid hy
        clear hx hy x0 y0 hbx hby
        obtain ⟨KL, hKL, KN⟩ := H.name
        have HF : Hid (∀ wv, Hold M none w wv KL → wv.cell? ⟨g, o + k, none⟩ = some (.slice x.A x.n x.c) ∧ wv.cell? ⟨g', o' + k, none⟩ = some (.slice y.A y.n y.c) ∧ Ro wv (Mut M KL) (VlsIn x.A x.n x.vs) ∧ Ro wv (Mut M KL) (VlsIn y.A y.n y.vs)) := hid fun wv HC => by
          rw [hKL] at HC ⊢
          obtain ⟨_, _, e1, _, q1, _⟩ := (HC.ro 1 rfl).now.at_ HXI.out
          obtain ⟨_, _, e2, _, q2, _⟩ := (HC.ro 0 rfl).now.at_ HYI.out
          injection e1 with e1; injection e1 with e3 e4; subst e3 e4
          injection e2 with e2; injection e2 with e5 e6; subst e5 e6
          exact ⟨q1, q2, (HC.ro 1 rfl).imp fun w2 h => h.2 x HXM.out, (HC.ro 0 rfl).imp fun w2 h => h.2 y HYM.out⟩
        have HKL := hid hKL
        clear hKL H
        go_wp2_with fail
        refine wp_region_any (by kernel_rfl) ?_
        refine wpAny_hold 9 33 (KL) (spL [(30, IsV (.int .i64 (rowC x.vs y.vs)))]) (by kernel_rfl) (by kernel_rfl) (by kernel_rfl) rfl ?_ (KN.drew) ?_
        · exact stays_cons isV_mono (stays_nil _)
        simp only [List.take_succ_cons, List.take_zero, List.drop_succ_cons, List.drop_zero, Act.put, List.getElem_toArray, List.getElem_cons_zero, List.getElem_cons_succ, List.setIfInBounds_toArray, List.set_cons_succ, List.set_cons_zero]
        refine dw_val rfl rfl rfl ?_; apply Exists.intro; refine ⟨fun wv HC => ?_, ?_⟩
        ·  go_simp <;> rfl
        simp only [Act.put, List.setIfInBounds_toArray, List.set_cons_succ, List.set_cons_zero]
        refine dw_val rfl rfl rfl ?_; apply Exists.intro; refine ⟨fun wv HC => ?_, ?_⟩
        ·  go_simp <;> rfl
        simp only [Act.put, List.setIfInBounds_toArray, List.set_cons_succ, List.set_cons_zero]
        refine dw_val rfl rfl rfl ?_; apply Exists.intro; refine ⟨fun wv HC => ?_, ?_⟩
        ·  go_simp <;> rfl
        simp only [Act.put, List.setIfInBounds_toArray, List.set_cons_succ, List.set_cons_zero]
        refine dw_val rfl rfl rfl ?_; apply Exists.intro; refine ⟨fun wv HC => ?_, ?_⟩
        · obtain ⟨f0, f1, _, _⟩ := HF.out _ HC; go_simp <;> rfl
        simp only [Act.put, List.setIfInBounds_toArray, List.set_cons_succ, List.set_cons_zero]
        refine dw_val rfl rfl rfl ?_; apply Exists.intro; refine ⟨fun wv HC => ?_, ?_⟩
        ·  go_simp <;> rfl
        simp only [Act.put, List.setIfInBounds_toArray, List.set_cons_succ, List.set_cons_zero]
        refine dw_val rfl rfl rfl ?_; apply Exists.intro; refine ⟨fun wv HC => ?_, ?_⟩
        ·  go_simp <;> rfl
        simp only [Act.put, List.setIfInBounds_toArray, List.set_cons_succ, List.set_cons_zero]
        refine dw_val rfl rfl rfl ?_; apply Exists.intro; refine ⟨fun wv HC => ?_, ?_⟩
        ·  go_simp <;> rfl
        simp only [Act.put, List.setIfInBounds_toArray, List.set_cons_succ, List.set_cons_zero]
        refine dw_val rfl rfl rfl ?_; apply Exists.intro; refine ⟨fun wv HC => ?_, ?_⟩
        · obtain ⟨f0, f1, _, _⟩ := HF.out _ HC; go_simp <;> rfl
        simp only [Act.put, List.setIfInBounds_toArray, List.set_cons_succ, List.set_cons_zero]
        refine dw_callR 30 (IsV (.int .i64 (rowC x.vs y.vs))) (f := 12) (args := #[.slice x.A x.n x.c, .slice y.A y.n y.c]) rfl rfl rfl rfl (fun wv => ?_) (fun wv HC hrm hD => ?_) ?_
        · go_simp <;> rfl
        · obtain ⟨_, _, f2, f3⟩ := HF.out _ HC
          refine (rcmprows_ex _ wv HC.mutLt x.A x.n x.c x.vs y.A y.n y.c y.vs f2 f3 (by have := HXN.out; omega) (by have := HYN.out; omega)).mono ?_
          rintro e w5 ⟨rfl, b5⟩
          exact ⟨_, rfl, rfl, HC.call b5, RM.below b5⟩
        rintro u_ wx HCx rfl
        clear HCx
        simp only [Act.put, List.setIfInBounds_toArray, List.set_cons_succ, List.set_cons_zero]
        refine rel_nil ?_
        rintro wx9 HX9
        rintro _hrm _HG
        clear _hrm _HG
        rw [HKL.out] at HX9
        clear HKL HF KN
        obtain ⟨r, hr0⟩ : ∃ r, r = rowC x.vs y.vs := ⟨_, rfl⟩
        rw [← hr0]
        by_cases hz : x.vs = y.vs
        · have hb0 : (r != 0) = false := by rw [hr0, (rowC_eq _ _).2 hz]; rfl
          have HB := hid (takeEq_succ HX.out HY.out HTK.out hz)
          clear hz hr0
          go_wp2_with fail
          go_roundw
          case rel => exact ⟨k + 1, by omega, by go_num, HB, HX9⟩
          case measure => simp [intOf]; omega
        · have hb0 : (r != 0) = true := by
            have : r ≠ 0 := fun h => hz ((rowC_eq _ _).1 (hr0 ▸ h))
            simpa using this
          have HB := hid (beqL_no HX.out HY.out hz)
          clear hz hr0
          go_wp2_with fail
          go_ret
          exact ⟨by rw [HV.out, HB.out] <;> rfl, HX9.below⟩
      · obtain rfl : n1 = k := by omega
        have hd : decide ((n1 : Int) < (n1 : Int)) = false := by simp
        have HB := hid (show decide (la.map Sl.vs = lb.map Sl.vs) = true by
          have h := HTK.out
          rw [List.take_of_length_le (by rw [List.length_map, HAL.out]; exact Nat.le_refl _), List.take_of_length_le (by rw [List.length_map, HBL.out]; exact Nat.le_refl _)] at h
          simp [h])
        go_wp2_with fail
        go_ret
        exact ⟨by rw [HV.out, HB.out] <;> rfl, H.below⟩
  · have hb : ((n1 : Int) != (n2 : Int)) = true := by simp; omega
    have HB := hid (show decide (la.map Sl.vs = lb.map Sl.vs) = false by
      rw [decide_eq_false_iff_not]; intro h; have h1 := congrArg List.length h; rw [List.length_map, List.length_map, HAL.out, HBL.out] at h1; exact hnn h1)
    go_wp2_with fail
    go_ret
    exact ⟨by rw [HV.out, HB.out] <;> rfl, K2.below⟩
end Go.Proofs.YtljmclbedpceoaaDoor

namespace Go.Proofs.YtljmclbedpceoaaDoor
open Go.RowKit
set_option linter.unusedVariables false
set_option linter.unusedSimpArgs false

end Go.Proofs.YtljmclbedpceoaaDoor

namespace Go.Proofs.YtljmclbedpceoaaDoor
open Go.RowKit
set_option linter.unusedVariables false
set_option linter.unusedSimpArgs false

end Go.Proofs.YtljmclbedpceoaaDoor

namespace Go.Proofs.YtljmclbedpceoaaDoor
open Go.RowKit
set_option linter.unusedVariables false
set_option linter.unusedSimpArgs false

theorem slCells_app (a b : List Sl) : slCells a ++ slCells b = slCells (a ++ b) := by simp [slCells]
theorem slCells_ones (l : List Sl) : ∀ u ∈ slCells l, u.oneCell' = true := fun u hu => by
  obtain ⟨s, hs, hu'⟩ := List.mem_flatMap.1 hu
  simp [Sl.cells] at hu'
  subst hu'
  rfl
theorem all_app {α : Type} {P : α → Prop} {a b : List α} (h : ∀ x ∈ a, P x) (k : ∀ x ∈ b, P x) : ∀ x ∈ a ++ b, P x := fun x hx => (List.mem_append.1 hx).elim (h x) (k x)
end Go.Proofs.YtljmclbedpceoaaDoor

namespace Go.Proofs.YtljmclbedpceoaaDoor
open Go.RowKit
set_option linter.unusedVariables false
set_option linter.unusedSimpArgs false

def rowsN (ni nd nu : Nat) (e : Int) : Int := if e = 1 then ni else if e = 2 then nu else if e = 3 then nd else 0
set_option maxHeartbeats 1000000 in
theorem drows_any (w : World) (s : ByteArray) (I : Option Addr) (ni ci : Nat) (D : Option Addr) (nd cd : Nat) (U : Option Addr) (nu cu : Nat) (e : Int) : Calls Tryd.prog 59 #[.agg #[.string s, .slice I ni ci, .slice D nd cd, .slice U nu cu], .int .i64 e] w fun e' w' => e' = .returned (.int .i64 (rowsN ni nd nu e)) ∧ Below w.heap.size w w' := by
  have K0 := (Hold.begin_ w).alloc_cst #[.string s, .slice I ni ci, .slice D nd cd, .slice U nu cu] 47
  have F0 := K0.facts
  simp only [World.size_alloc, World.size_drew, factsL, cellsF, Nat.reduceAdd, List.toList_toArray, List.set_cons_zero, List.set_cons_succ, List.setIfInBounds_toArray, and_true, true_and] at F0
  by_cases h1 : e = 1
  · subst h1
    have HN := hid (show rowsN ni nd nu 1 = ni from rfl)
    go_enter Tryd.func59, Tryd.ntmps59
    go_wp2_with fail
    go_ret
    exact ⟨by rw [HN.out] <;> rfl, K0.below⟩
  · have e1 : (e == 1) = false := by simpa using h1
    by_cases h2 : e = 2
    · subst h2
      have HN := hid (show rowsN ni nd nu 2 = nu from rfl)
      clear h1
      go_enter Tryd.func59, Tryd.ntmps59
      go_wp2_with fail
      go_ret
      exact ⟨by rw [HN.out] <;> rfl, K0.below⟩
    · have e2 : (e == 2) = false := by simpa using h2
      by_cases h3 : e = 3
      · subst h3
        have HN := hid (show rowsN ni nd nu 3 = nd from rfl)
        clear h1 h2
        go_enter Tryd.func59, Tryd.ntmps59
        go_wp2_with fail
        go_ret
        exact ⟨by rw [HN.out] <;> rfl, K0.below⟩
      · have e3 : (e == 3) = false := by simpa using h3
        have HN := hid (show rowsN ni nd nu e = 0 by unfold rowsN; rw [if_neg h1, if_neg h2, if_neg h3])
        clear h1 h2 h3
        go_enter Tryd.func59, Tryd.ntmps59
        go_wp2_with fail
        go_ret
        exact ⟨by rw [HN.out] <;> rfl, K0.below⟩
set_option maxHeartbeats 1000000 in
theorem dempty_any (w : World) (s : ByteArray) (I : Option Addr) (ni ci : Nat) (D : Option Addr) (nd cd : Nat) (U : Option Addr) (nu cu : Nat) : Calls Tryd.prog 60 #[.agg #[.string s, .slice I ni ci, .slice D nd cd, .slice U nu cu]] w fun e' w' => e' = .returned (.bool (decide (ni = 0 ∧ nd = 0 ∧ nu = 0))) ∧ Below w.heap.size w w' := by
  have K0 := (Hold.begin_ w).alloc_cst #[.string s, .slice I ni ci, .slice D nd cd, .slice U nu cu] 47
  have F0 := K0.facts
  simp only [World.size_alloc, World.size_drew, factsL, cellsF, Nat.reduceAdd, List.toList_toArray, List.set_cons_zero, List.set_cons_succ, List.setIfInBounds_toArray, and_true, true_and] at F0
  by_cases h1 : ni = 0
  · have e1 : ((ni : Int) == 0) = true := by simp [h1]
    have HN1 := hid h1
    clear h1
    by_cases h2 : nd = 0
    · have e2 : ((nd : Int) == 0) = true := by simp [h2]
      have HN2 := hid h2
      clear h2
      by_cases h3 : nu = 0
      · have e3 : ((nu : Int) == 0) = true := by simp [h3]
        have HN := hid (show decide (ni = 0 ∧ nd = 0 ∧ nu = 0) = true by simp [HN1.out, HN2.out, h3])
        clear h3
        go_enter Tryd.func60, Tryd.ntmps60
        go_wp2_with fail
        go_ret
        exact ⟨by rw [HN.out] <;> first | rfl | simp, K0.below⟩
      · have e3 : ((nu : Int) == 0) = false := by simp; omega
        have HN := hid (show decide (ni = 0 ∧ nd = 0 ∧ nu = 0) = false by simp [h3])
        clear h3
        go_enter Tryd.func60, Tryd.ntmps60
        go_wp2_with fail
        go_ret
        exact ⟨by rw [HN.out] <;> first | rfl | simp, K0.below⟩
    · have e2 : ((nd : Int) == 0) = false := by simp; omega
      have HN := hid (show decide (ni = 0 ∧ nd = 0 ∧ nu = 0) = false by simp [h2])
      clear h2
      go_enter Tryd.func60, Tryd.ntmps60
      go_wp2_with fail
      go_ret
      exact ⟨by rw [HN.out] <;> first | rfl | simp, K0.below⟩
  · have e1 : ((ni : Int) == 0) = false := by simp; omega
    have HN := hid (show decide (ni = 0 ∧ nd = 0 ∧ nu = 0) = false by simp [h1])
    clear h1
    go_enter Tryd.func60, Tryd.ntmps60
    go_wp2_with fail
    go_ret
    exact ⟨by rw [HN.out] <;> first | rfl | simp, K0.below⟩
theorem k8_bet : betweenC ⟨nmLog, logCols, 2, [(1, [vNil, vNil])]⟩ ⟨nmLog, logCols, 3, [(2, [vNil, vNil])]⟩ = (true, ⟨nmLog, [(2, [vNil, vNil])], [(1, [vNil, vNil])], []⟩) := by decide +kernel
set_option maxHeartbeats 4000000 in
set_option maxRecDepth 100000 in
theorem known8 : Gives 26 #[] (.bool true) := by
  intro w
  have K0 := Hold.begin_ w
  have HS := hid small_u
  have HB := hid k8_bet
  go_enter Tryd.func26, Tryd.ntmps26
  go_wp2_with fail
  refine (schema_log _ _ K0.mutLt).mono ?_
  rintro e w1 ⟨A, n, c, rfl, h1, h2, r1, b1⟩
  have K1 := (K0.call b1).add r1
  clear K0 r1 b1
  generalize hU : nmLog = nl at *
  generalize hC : logCols = lc at *
  have HU := hid hU
  have HC := hid hC
  clear hU hC
  have hn2 : lc.length = n := cols_n (K1.ro 0 rfl).now
  have K2 := (((K1.alloc_cst #[.string nl, .slice A n c] 37).alloc_cst #[.int .i64 0, .int .i64 0, .string ⟨#[]⟩, .int .i64 0, .int .i64 0, .string ⟨#[]⟩] 66).alloc_cst #[.int .i64 1, .slice (some ⟨w1.heap.size + 1, 0, none⟩) 2 2] 61).alloc_cst #[.int .i64 2, .slice (some ⟨w1.heap.size + 1, 0, none⟩) 2 2] 61
  simp only [World.size_alloc] at K2
  have q1 : Ro _ _ (VlsIn (some ⟨w1.heap.size + 1, 0, none⟩) 2 [vNil, vNil]) := ro_block (t := 66) (cs := #[.int .i64 0, .int .i64 0, .string ⟨#[]⟩, .int .i64 0, .int .i64 0, .string ⟨#[]⟩]) (K2.get 2 rfl) rfl
  have q2 : Ro _ _ (SlR 2 (some ⟨w1.heap.size + 1 + 1, 0, none⟩) 1 (rwCells [⟨1, some ⟨w1.heap.size + 1, 0, none⟩, 2, 2, [vNil, vNil]⟩])) := ro_block (t := 61) (cs := #[.int .i64 1, .slice (some ⟨w1.heap.size + 1, 0, none⟩) 2 2]) (K2.get 1 rfl) rfl
  have q3 : Ro _ _ (SlR 2 (some ⟨w1.heap.size + 1 + 1 + 1, 0, none⟩) 1 (rwCells [⟨2, some ⟨w1.heap.size + 1, 0, none⟩, 2, 2, [vNil, vNil]⟩])) := ro_block (t := 61) (cs := #[.int .i64 2, .slice (some ⟨w1.heap.size + 1, 0, none⟩) 2 2]) (K2.get 0 rfl) rfl
  have q4 : Ro _ _ (RwsIn (some ⟨w1.heap.size + 1 + 1, 0, none⟩) 1 [⟨1, some ⟨w1.heap.size + 1, 0, none⟩, 2, 2, [vNil, vNil]⟩]) := q2.and (fun w2 h1 h2 r hr => by
    simp only [List.mem_cons, List.not_mem_nil, or_false] at hr
    subst hr
    exact q1 w2 h1 h2)
  have q5 : Ro _ _ (RwsIn (some ⟨w1.heap.size + 1 + 1 + 1, 0, none⟩) 1 [⟨2, some ⟨w1.heap.size + 1, 0, none⟩, 2, 2, [vNil, vNil]⟩]) := q3.and (fun w2 h1 h2 r hr => by
    simp only [List.mem_cons, List.not_mem_nil, or_false] at hr
    subst hr
    exact q1 w2 h1 h2)
  have F2 := K2.facts
  simp only [World.size_alloc, World.size_drew, factsL, cellsF, Nat.reduceAdd, List.toList_toArray, List.set_cons_zero, List.set_cons_succ, List.setIfInBounds_toArray, and_true, true_and] at F2
  have hok : ∀ (i : Int) (hi : I64 i), (Rw.ok ⟨i, some ⟨w1.heap.size + 1, 0, none⟩, 2, 2, [vNil, vNil]⟩) := fun i hi => ⟨hi, by simp, by simp, fun v hv => by
    simp only [List.mem_cons, List.not_mem_nil, or_false] at hv
    rcases hv with rfl | rfl <;> exact vNil_ok⟩
  have ha : TbAt _ (Mut None_ _) (.agg #[.string nl, .slice A n c, .int .i64 2, .slice (some ⟨w1.heap.size + 1 + 1, 0, none⟩) 1 1]) ⟨nl, lc, 2, [(1, [vNil, vNil])]⟩ := ⟨A, n, c, _, 1, 1, _, rfl, h1, by omega, by omega, by omega, K2.ro 4 rfl, q4, fun r hr => by simp only [List.mem_cons, List.not_mem_nil, or_false] at hr; subst hr; exact hok 1 (by unfold I64; omega), rfl⟩
  have hb : TbAt _ (Mut None_ _) (.agg #[.string nl, .slice A n c, .int .i64 3, .slice (some ⟨w1.heap.size + 1 + 1 + 1, 0, none⟩) 1 1]) ⟨nl, lc, 3, [(2, [vNil, vNil])]⟩ := ⟨A, n, c, _, 1, 1, _, rfl, h1, by omega, by omega, by omega, K2.ro 4 rfl, q5, fun r hr => by simp only [List.mem_cons, List.not_mem_nil, or_false] at hr; subst hr; exact hok 2 (by unfold I64; omega), rfl⟩
  go_wp2_with fail
  have hk := dbetw_any _ _ K2.mutLt _ _ _ _ ha hb HS.out.2.2.1 HS.out.2.2.2 (by show (1 : Nat) ≤ _; omega) HS.out.2.2.1 HS.out.2.2.2 (by show (1 : Nat) ≤ _; omega)
  rw [HB.out] at hk
  refine hk.mono ?_
  clear hk ha hb q1 q2 q3 q4 q5 hok F2
  rintro e w2 ⟨v, rfl, ⟨I, ni, ci, D, nd, cd, U, nu, cu, li, ld, lu, rfl, -, -, -, r1, r2, r3, -, -, -, e1, e2, e3⟩, b2⟩
  dsimp only at e1 e2 e3 ⊢
  obtain rfl : 1 = ni := by have h := r1.now.len; have h2 := congrArg List.length e1; rw [List.length_map] at h2; simp at h2; omega
  obtain rfl : 1 = nd := by have h := r2.now.len; have h2 := congrArg List.length e2; rw [List.length_map] at h2; simp at h2; omega
  obtain rfl : 0 = nu := by have h := r3.now.len; have h2 := congrArg List.length e3; rw [List.length_map] at h2; have h3 : lu.length = 0 := h2; omega
  have K3 := (K2.call b2).alloc_cst #[.string nl, .slice I 1 ci, .slice D 1 cd, .slice U 0 cu] 47
  clear K2 b2 r1 r2 r3 e1 e2 e3
  have F3 := K3.facts
  simp only [World.size_alloc, World.size_drew, factsL, cellsF, Nat.reduceAdd, List.toList_toArray, List.set_cons_zero, List.set_cons_succ, List.setIfInBounds_toArray, and_true, true_and] at F3
  go_wp2_with fail
  refine (drows_any _ nl I 1 ci D 1 cd U 0 cu 1).mono ?_
  rintro e w3 ⟨rfl, b3⟩
  have K4 := K3.call b3
  have F4 := K4.facts
  simp only [World.size_alloc, World.size_drew, factsL, cellsF, Nat.reduceAdd, List.toList_toArray, List.set_cons_zero, List.set_cons_succ, List.setIfInBounds_toArray, and_true, true_and] at F4
  rw [show rowsN 1 1 0 1 = 1 from rfl]
  clear K3 F3 b3
  go_wp2_with fail
  refine (drows_any _ nl I 1 ci D 1 cd U 0 cu 3).mono ?_
  rintro e w4 ⟨rfl, b3⟩
  have K5 := K4.call b3
  have F5 := K5.facts
  simp only [World.size_alloc, World.size_drew, factsL, cellsF, Nat.reduceAdd, List.toList_toArray, List.set_cons_zero, List.set_cons_succ, List.setIfInBounds_toArray, and_true, true_and] at F5
  rw [show rowsN 1 1 0 3 = 1 from rfl]
  clear K4 F4 b3
  go_wp2_with fail
  refine (drows_any _ nl I 1 ci D 1 cd U 0 cu 2).mono ?_
  rintro e w5 ⟨rfl, b3⟩
  have K6 := K5.call b3
  have F6 := K6.facts
  simp only [World.size_alloc, World.size_drew, factsL, cellsF, Nat.reduceAdd, List.toList_toArray, List.set_cons_zero, List.set_cons_succ, List.setIfInBounds_toArray, and_true, true_and] at F6
  rw [show rowsN 1 1 0 2 = 0 from rfl]
  clear K5 F5 b3
  go_wp2_with fail
  refine (dempty_any _ nl I 1 ci D 1 cd U 0 cu).mono ?_
  rintro e w6 ⟨rfl, b3⟩
  have K7 := K6.call b3
  rw [show decide (1 = 0 ∧ 1 = 0 ∧ 0 = 0) = false from rfl]
  clear K6 F6 b3
  go_wp2_with fail
  go_ret
  exact ⟨by first | rfl | simp, K7.below⟩
end Go.Proofs.YtljmclbedpceoaaDoor

namespace Go.Proofs.YtljmclbedpceoaaDoor
open Go.RowKit
set_option linter.unusedVariables false
set_option linter.unusedSimpArgs false

theorem betD_lens {a b : Tb} (ha : VTab a) (hb : VTab b) : (betD a b).ins.length ≤ 100 ∧ (betD a b).del.length ≤ 100 ∧ (betD a b).upd.length ≤ 100 ∧ (∀ r ∈ (betD a b).ins, r.2.length ≤ 4) ∧ (∀ r ∈ (betD a b).del, r.2.length ≤ 4) ∧ ∀ u ∈ (betD a b).upd, u.2.1.length ≤ 4 ∧ u.2.2.length ≤ 4 := by
  have h1 := ha.rows
  have h2 := hb.rows
  refine ⟨?_, ?_, ?_, fun r hr => hb.len r (List.mem_filter.1 hr).1, fun r hr => ha.len r (List.mem_filter.1 hr).1, fun u hu => ?_⟩
  · have := List.length_filter_le (fun r : Row => (getR a.rs r.1).isNone) b.rs
    show (offR a.rs b.rs).length ≤ _
    unfold offR
    omega
  · have := List.length_filter_le (fun r : Row => (getR b.rs r.1).isNone) a.rs
    show (offR b.rs a.rs).length ≤ _
    unfold offR
    omega
  · have : (turnR a.rs b.rs).length ≤ b.rs.length := List.length_filterMap_le _ _
    show (turnR a.rs b.rs).length ≤ _
    omega
  · obtain ⟨r, hr, h3⟩ := List.mem_filterMap.1 hu
    cases hg : getR a.rs r.1 with
    | none => rw [hg] at h3; cases h3
    | some o =>
      rw [hg] at h3
      dsimp only at h3
      split at h3
      · cases h3
      · injection h3 with h3
        rw [← h3]
        exact ⟨ha.len _ (getR_out hg), hb.len r hr⟩
theorem VTab.asc {t : Tb} (h : VTab t) : (t.rs.map (·.1)).Pairwise (· < ·) := (okR_asc (tabB_ok h.val).2.2.2.2.1).1
theorem vs_of_row {l : List Rw} {rs : List Row} (h : l.map Rw.row = rs) : l.map Rw.vs = rs.map (·.2) := by
  rw [← h, List.map_map]; rfl
theorem old_of_upd {l : List Pr} {us : List Upd} (h : l.map Pr.upd = us) : l.map Pr.old = us.map (·.2.1) := by
  rw [← h, List.map_map]; rfl
theorem new_of_upd {l : List Pr} {us : List Upd} (h : l.map Pr.upd = us) : l.map Pr.new = us.map (·.2.2) := by
  rw [← h, List.map_map]; rfl
theorem rows_n {w : World} {B : Option Addr} {m : Nat} {l : List Rw} {rs : List Row} (h : RwsIn B m l w) (e : l.map Rw.row = rs) (hl : ∀ r ∈ rs, r.2.length ≤ 4) : ∀ r ∈ l, r.n ≤ 4 := fun r hr => by
  have h1 := (h.2 r hr).len
  have h2 := hl r.row (by rw [← e]; exact List.mem_map_of_mem hr)
  simp only [Rw.row] at h2
  omega
theorem prs_n {w : World} {B : Option Addr} {m : Nat} {l : List Pr} {us : List Upd} (h : PrsIn B m l w) (e : l.map Pr.upd = us) (hl : ∀ u ∈ us, u.2.1.length ≤ 4 ∧ u.2.2.length ≤ 4) : ∀ r ∈ l, r.on ≤ 4 ∧ r.nn ≤ 4 := fun r hr => by
  have h1 := (h.2 r hr).1.len
  have h1' := (h.2 r hr).2.len
  have h2 := hl r.upd (by rw [← e]; exact List.mem_map_of_mem hr)
  simp only [Pr.upd] at h2
  omega
theorem sls_n {w : World} {B : Option Addr} {m : Nat} {l : List Sl} {L : List (List Vl)} {N : Nat} (h : SlsIn B m l w) (e : l.map Sl.vs = L) (hl : ∀ r ∈ L, r.length ≤ N) : ∀ r ∈ l, r.n ≤ N := fun r hr => by
  have h1 := (h.2 r hr).len
  have h2 := hl r.vs (by rw [← e]; exact List.mem_map_of_mem hr)
  omega
theorem sameBag_nets {t u : Tb} (ht : VTab t) (hu : VTab u) {x y l c : List (List Vl)} (hx : x = sortV (bagR t.rs)) (hy : y = sortV (bagR u.rs)) (hl : l = sortV (leftD (betD t u))) (hc : c = sortV (cameD (betD t u))) : sameBagV (x ++ c) (y ++ l) = true := by
  rw [sameBag_perm, hx, hy, hl, hc]
  exact (((sortV_perm _).append (sortV_perm _)).trans (nets ht.asc hu.asc)).trans ((sortV_perm _).append (sortV_perm _)).symm
set_option maxHeartbeats 2000000 in
set_option maxRecDepth 100000 in
theorem dnforms_walk (A : Option Addr) (n c : Nat) (zs : List Int) (w : World) (hr : Rd w w.heap.size 1 A n (zs.map (Value.int .i64))) (hz : Ints zs) (hn : n ≤ c) (hc : c ≤ 9223372036854775807) (hw : Wds w) :
    Calls Tryd.prog 4 #[.slice A n c] w fun e w' => e = .returned (.bool true) ∧ Below w.heap.size w w' := by
  have hwl := hw.lt
  have K0 := Hold.begin_ w
  go_enter Tryd.func4, Tryd.ntmps4
  go_wp2_with fail
  refine (new_any A n c zs _ hr hz hn hc).mono ?_
  rintro e w1 ⟨T, rfl, hT, t1, b1⟩
  have K1 := Hold.newTape K0 b1 t1 hT (by simp [Mut, None_, Hp.foot])
  have wd0 : Wds w1 := hw.below b1 hwl
  have hT1 : 1 < T := by omega
  have K2 := K1.add (wd0.ro2 (show ¬ Mut None_ [.tp T] 1 by simp [Mut, None_, Hp.foot]; omega))
  clear K1 K0 wd0 t1 b1 hw hr hwl hT
  go_wp2_with fail
  refine (tname_any (Mut None_ _) T _ K2.mutLt (K2.tp_ 1 rfl) (K2.get 1 rfl).2).mono ?_
  rintro e w2 ⟨s, rfl, hs, t2, g2⟩
  have K3 := Hold.callT K2 1 rfl g2 t2
  clear K2 t2 g2
  have HSO0 := hid (schOk_name hs)
  clear hs
  go_wp2_with fail
  refine (schema_any (Mut None_ _) _ K3.mutLt s).mono ?_
  rintro e w3 ⟨A2, n2, c2, rfl, hc1, hc2, r3, b3⟩
  have K4 := (K3.call b3).add r3
  clear K3 b3 r3
  go_wp2_with fail
  have hn2 : (schemaOf s).2.length = n2 := cols_n (K4.ro 0 rfl).now
  have hl2 := HSO0.out.len
  refine (tof_slot (Mut None_ _) T _ K4.mutLt (K4.tp_ 2 rfl) (K4.get 2 rfl).2 _ A2 n2 c2 _ 7 ((K4.ro 0 rfl).less (mut_tp (i := 2) rfl)) hc1 (by omega) HSO0.out ((K4.ro 1 rfl).less (mut_tp (i := 2) rfl)) hT1 (by omega)).mono ?_
  clear hn2 hl2
  rintro e w5 ⟨v, t, rfl, ⟨A3, n3, c3, B, m, d, l, rfl, h31, h32, hmd, hd2, r4c, r4, hlk, hlr⟩, htv, -, -, hrl, t4, g4'⟩
  dsimp only at r4c hlr ⊢
  have K5 := ((Hold.callT K4 2 rfl g4' t4).add r4).add (r4c.less (mut_none rfl))
  have HVT := hid htv
  have HT3 := hid (And.intro h31 (And.intro h32 (And.intro hmd (And.intro hd2 (And.intro hlk hlr)))))
  have HBX := hid (show t.rs.length ≤ 4398046511104 from by omega)
  clear K4 t4 g4' hc1 hc2 r4 r4c hlk hlr htv hrl hmd hd2 h31 h32
  have K6 := K5.alloc_cst #[.string t.nm, .slice A3 n3 c3, .int .i64 t.nx, .slice B m d] 40
  clear K5
  obtain ⟨g8, hg8⟩ : ∃ g8, g8 = w5.heap.size := ⟨_, rfl⟩
  rw [← hg8] at K6
  have FA := K6.facts
  simp only [World.size_alloc, World.size_drew, factsL, cellsF, Nat.reduceAdd, List.toList_toArray, List.set_cons_zero, List.set_cons_succ, List.setIfInBounds_toArray, and_true, true_and] at FA
  go_wp2_with fail
  rw [← hg8]
  have HG8 := hid hg8
  clear hg8
  generalize World.alloc w5 _ = w5' at K6 FA ⊢
  have hT : TbAt w5' (Mut (Mut None_ _) [.tp T]) (.agg #[.string t.nm, .slice A3 n3 c3, .int .i64 t.nx, .slice B m d]) t := ⟨A3, n3, c3, B, m, d, l, rfl, HT3.out.1, HT3.out.2.1, HT3.out.2.2.1, HT3.out.2.2.2.1, (K6.ro 1 rfl).less (mut_tp (i := 5) rfl), (K6.ro 2 rfl).less (mut_tp (i := 5) rfl), HT3.out.2.2.2.2.1, HT3.out.2.2.2.2.2⟩
  refine (later_any (Mut None_ _) T _ K6.mutLt (K6.tp_ 5 rfl) (K6.get 5 rfl).2 _ t hT HVT.out ((K6.ro 4 rfl).less (mut_tp (i := 5) rfl)) hT1).mono ?_
  clear hT
  rintro e w6 ⟨v, u, rfl, ⟨A5, n5, c5, B5, m5, d5, l5, rfl, h51, h52, h53, h54, r5c, r5, h57, h58⟩, huv, hlt, t5, g5'⟩
  have K7 := (((Hold.callT K6 5 rfl g5' t5).add r5).add (r5c.less (mut_none rfl))).alloc_cst #[.string u.nm, .slice A5 n5 c5, .int .i64 u.nx, .slice B5 m5 d5] 40
  have HVU := hid huv
  have HLT := hid hlt
  have HT5 := hid (And.intro h51 (And.intro h52 (And.intro h53 (And.intro h54 (And.intro h57 h58)))))
  have HBY := hid (show u.rs.length ≤ 4398046511104 from by have := huv.rows; omega)
  clear K6 FA t5 g5' r5c r5 h51 h52 h53 h54 h57 h58 huv hlt
  obtain ⟨g9, hg9⟩ : ∃ g9, g9 = w6.heap.size := ⟨_, rfl⟩
  rw [← hg9] at K7
  have FA := K7.facts
  simp only [World.size_alloc, World.size_drew, factsL, cellsF, Nat.reduceAdd, List.toList_toArray, List.set_cons_zero, List.set_cons_succ, List.setIfInBounds_toArray, and_true, true_and] at FA
  go_wp2_with fail
  rw [← hg9]
  have HG9 := hid hg9
  clear hg9
  generalize World.alloc w6 _ = w6' at K7 FA ⊢
  have hT : TbAt w6' (Mut (Mut None_ _) [.tp T]) (.agg #[.string u.nm, .slice A5 n5 c5, .int .i64 u.nx, .slice B5 m5 d5]) u := ⟨A5, n5, c5, B5, m5, d5, l5, rfl, HT5.out.1, HT5.out.2.1, HT5.out.2.2.1, HT5.out.2.2.2.1, (K7.ro 1 rfl).less (mut_tp (i := 8) rfl), (K7.ro 2 rfl).less (mut_tp (i := 8) rfl), HT5.out.2.2.2.2.1, HT5.out.2.2.2.2.2⟩
  refine (later_any (Mut None_ _) T _ K7.mutLt (K7.tp_ 8 rfl) (K7.get 8 rfl).2 _ u hT HVU.out ((K7.ro 7 rfl).less (mut_tp (i := 8) rfl)) hT1).mono ?_
  clear hT
  rintro e w7 ⟨v, z, rfl, ⟨A7, n7, c7, B7, m7, d7, l7, rfl, h71, h72, h73, h74, r7c, r7, h77, h78⟩, hzv, hlt2, t7, g7'⟩
  have K8 := (((Hold.callT K7 8 rfl g7' t7).add r7).add (r7c.less (mut_none rfl))).alloc_cst #[.string z.nm, .slice A7 n7 c7, .int .i64 z.nx, .slice B7 m7 d7] 40
  have HVZ := hid hzv
  have HLZ := hid (HLT.out.trans hlt2)
  have HT7 := hid (And.intro h71 (And.intro h72 (And.intro h73 (And.intro h74 (And.intro h77 h78)))))
  have HBZ := hid (show z.rs.length ≤ 4398046511104 from by have := hzv.rows; omega)
  clear K7 FA t7 g7' r7c r7 h71 h72 h73 h74 h77 h78 hzv hlt2
  obtain ⟨g10, hg10⟩ : ∃ g10, g10 = w7.heap.size := ⟨_, rfl⟩
  rw [← hg10] at K8
  have FA := K8.facts
  simp only [World.size_alloc, World.size_drew, factsL, cellsF, Nat.reduceAdd, List.toList_toArray, List.set_cons_zero, List.set_cons_succ, List.setIfInBounds_toArray, and_true, true_and] at FA
  go_wp2_with fail
  rw [← hg10]
  have HG10 := hid hg10
  clear hg10 FA
  generalize World.alloc w7 _ = w7' at K8 ⊢
  have hTt : TbAt w7' (Mut None_ _) (.agg #[.string t.nm, .slice A3 n3 c3, .int .i64 t.nx, .slice B m d]) t := ⟨A3, n3, c3, B, m, d, l, rfl, HT3.out.1, HT3.out.2.1, HT3.out.2.2.1, HT3.out.2.2.2.1, K8.ro 7 rfl, K8.ro 8 rfl, HT3.out.2.2.2.2.1, HT3.out.2.2.2.2.2⟩
  have hTu : TbAt w7' (Mut None_ _) (.agg #[.string z.nm, .slice A7 n7 c7, .int .i64 z.nx, .slice B7 m7 d7]) z := ⟨A7, n7, c7, B7, m7, d7, l7, rfl, HT7.out.1, HT7.out.2.1, HT7.out.2.2.1, HT7.out.2.2.2.1, K8.ro 1 rfl, K8.ro 2 rfl, HT7.out.2.2.2.2.1, HT7.out.2.2.2.2.2⟩
  have hk := dbetw_any _ _ K8.mutLt _ _ t z hTt hTu HVT.out.sch.nm HVT.out.sch.cs HBX.out HVZ.out.sch.nm HVZ.out.sch.cs HBZ.out
  rw [betC_later HVT.out.val HVZ.out.val HLZ.out] at hk
  refine hk.mono ?_
  clear hk hTt hTu
  rintro e w8 ⟨v, rfl, ⟨I1, ni1, ci1, D1, nd1, cd1, U1, nu1, cu1, li1, ld1, lu1, rfl, q11, q12, q13, r1, r2, r3, o11, o12, o13, e11, e12, e13⟩, b1⟩
  dsimp only at e11 e12 e13 ⊢
  have hbl := betD_lens HVT.out HVZ.out
  have n1_ := rows_n r1.now e11 hbl.2.2.2.1
  have n2_ := rows_n r2.now e12 hbl.2.2.2.2.1
  have n3_ := prs_n r3.now e13 hbl.2.2.2.2.2
  have HNN := hid (And.intro n1_ (And.intro n2_ n3_))
  have m1_ : ni1 ≤ 100 := by have h1 := r1.now.len; have h2 := congrArg List.length e11; rw [List.length_map] at h2; have := hbl.1; omega
  have m2_ : nd1 ≤ 100 := by have h1 := r2.now.len; have h2 := congrArg List.length e12; rw [List.length_map] at h2; have := hbl.2.1; omega
  have m3_ : nu1 ≤ 100 := by have h1 := r3.now.len; have h2 := congrArg List.length e13; rw [List.length_map] at h2; have := hbl.2.2.1; omega
  have K9 := (((K8.call b1).add r3).add (r2.less (mut_none rfl))).add ((r1.less (mut_none rfl)).less (mut_none rfl)) |>.alloc_cst #[.string (betD t z).nm, .slice I1 ni1 ci1, .slice D1 nd1 cd1, .slice U1 nu1 cu1] 47
  have HD1 := hid (And.intro o11 (And.intro o12 (And.intro o13 (And.intro e11 (And.intro e12 e13)))))
  clear K8 b1 r1 r2 r3 q11 q12 q13 o11 o12 o13 e11 e12 e13 n1_ n2_ n3_ hbl
  have FA := K9.facts
  simp only [World.size_alloc, World.size_drew, factsL, cellsF, Nat.reduceAdd, List.toList_toArray, List.set_cons_zero, List.set_cons_succ, List.setIfInBounds_toArray, and_true, true_and] at FA
  go_wp2_with fail
  obtain ⟨ga, hga⟩ : ∃ g, g = w8.heap.size := ⟨_, rfl⟩
  rw [← hga] at K9 FA ⊢
  have HGA := hid hga
  clear hga FA
  generalize World.alloc w8 _ = w8' at K9 ⊢
  refine (dbags_any _ _ K9.mutLt _ I1 ni1 ci1 D1 nd1 cd1 U1 nu1 cu1 li1 ld1 lu1 (K9.ro 1 rfl) (K9.ro 2 rfl) (K9.ro 3 rfl) (by omega) (by omega) (by omega) (fun r hr => ⟨HD1.out.1 r hr, by have := HNN.out.1 r hr; omega⟩) (fun r hr => ⟨HD1.out.2.1 r hr, by have := HNN.out.2.1 r hr; omega⟩) (fun r hr => ⟨HD1.out.2.2.1 r hr, by have := HNN.out.2.2 r hr; omega, by have := HNN.out.2.2 r hr; omega⟩)).mono ?_
  rintro e w9 ⟨F1, nf, cf, lf, G1, ng, cg, lg, rfl, ⟨x1, x2⟩, ⟨x3, x4⟩, rf, rg, of_, og_, nf_, ng_, ef, eg, b1⟩
  have K10 := ((K9.call b1).add rf).add (rg.less (mut_none rfl))
  have HFG := hid (And.intro of_ (And.intro og_ (And.intro nf_ (And.intro ng_ (And.intro (show lf.map Sl.vs = sortV (leftD (betD t z)) by rw [ef, vs_of_row HD1.out.2.2.2.2.1, old_of_upd HD1.out.2.2.2.2.2]; rfl) (show lg.map Sl.vs = sortV (cameD (betD t z)) by rw [eg, vs_of_row HD1.out.2.2.2.1, new_of_upd HD1.out.2.2.2.2.2]; rfl))))))
  have hnf : nf ≤ 1000 := by
    have h1 := rf.now.len
    have h2 := congrArg List.length ef
    rw [sortV_len, List.length_append, List.length_map, List.length_map, List.length_map] at h2
    have h3 := (K9.ro 2 rfl).now.len
    have h4 := (K9.ro 3 rfl).now.len
    omega
  have hng : ng ≤ 1000 := by
    have h1 := rg.now.len
    have h2 := congrArg List.length eg
    rw [sortV_len, List.length_append, List.length_map, List.length_map, List.length_map] at h2
    have h3 := (K9.ro 1 rfl).now.len
    have h4 := (K9.ro 3 rfl).now.len
    omega
  clear K9 b1 rf rg of_ og_ nf_ ng_ ef eg
  go_wp2_with fail
  obtain ⟨KL, hKL, KN⟩ := K10.name
  have HF : Hid (∀ wv, Hold None_ none w wv KL → (wv.cell? ⟨g8, 0, none⟩ = some (.string t.nm) ∧ wv.cell? ⟨g8, 1, none⟩ = some (.slice A3 n3 c3) ∧ wv.cell? ⟨g8, 2, none⟩ = some (.int .i64 t.nx) ∧ wv.cell? ⟨g8, 3, none⟩ = some (.slice B m d) ∧ g8 < wv.heap.size) ∧ (wv.cell? ⟨g10, 0, none⟩ = some (.string z.nm) ∧ wv.cell? ⟨g10, 1, none⟩ = some (.slice A7 n7 c7) ∧ wv.cell? ⟨g10, 2, none⟩ = some (.int .i64 z.nx) ∧ wv.cell? ⟨g10, 3, none⟩ = some (.slice B7 m7 d7) ∧ g10 < wv.heap.size)) := hid fun wv HC => by
    rw [hKL] at HC
    have y0 := HC.cst_ 12 rfl
    have y1 := HC.cst_ 6 rfl
    exact ⟨⟨cell_of_row _ _ 0 _ _ _ y0, cell_of_row _ _ 1 _ _ _ y0, cell_of_row _ _ 2 _ _ _ y0, cell_of_row _ _ 3 _ _ _ y0, Blk.lt y0⟩, ⟨cell_of_row _ _ 0 _ _ _ y1, cell_of_row _ _ 1 _ _ _ y1, cell_of_row _ _ 2 _ _ _ y1, cell_of_row _ _ 3 _ _ _ y1, Blk.lt y1⟩⟩
  have HX : Hid (∀ wv, Hold None_ none w wv KL → Ro wv (Mut None_ KL) (RwsIn B m l) ∧ Ro wv (Mut None_ KL) (RwsIn B7 m7 l7)) := hid fun wv HC => by
    rw [hKL] at HC ⊢
    exact ⟨HC.ro 14 rfl, HC.ro 8 rfl⟩
  have HKL := hid hKL
  clear hKL K10
  have HML := hid (show m ≤ 100 ∧ m7 ≤ 100 from by
    have h1 := (HX.out _ KN).1.now.len
    have h2 := (HX.out _ KN).2.now.len
    have h3 := congrArg List.length HT3.out.2.2.2.2.2
    have h4 := congrArg List.length HT7.out.2.2.2.2.2
    have h5 := HVT.out.rows
    have h6 := HVZ.out.rows
    rw [List.length_map] at h3 h4
    omega)
  refine wp_region_any (by kernel_rfl) ?_
  refine wpAny_hold 6 58 (KL) (spL [(38, SlsSlot (Mut None_ KL) (sortV (l.map Rw.vs))), (40, SlsSlot (Mut None_ KL) (sortV (l7.map Rw.vs)))]) (by kernel_rfl) (by kernel_rfl) (by kernel_rfl) rfl ?_ (KN.drew) ?_
  · exact stays_cons slsSlot_mono (stays_cons slsSlot_mono (stays_nil _))
  simp only [List.take_succ_cons, List.take_zero, List.drop_succ_cons, List.drop_zero, Act.put, List.getElem_toArray, List.getElem_cons_zero, List.getElem_cons_succ, List.setIfInBounds_toArray, List.set_cons_succ, List.set_cons_zero]
  refine dw_val rfl rfl rfl ?_; apply Exists.intro; refine ⟨fun wv HC => ?_, ?_⟩
  · obtain ⟨⟨f0, f1, f2, f3, f4⟩, _⟩ := HF.out _ HC; go_simp <;> rfl
  simp only [Act.put, List.setIfInBounds_toArray, List.set_cons_succ, List.set_cons_zero]
  refine dw_callR 38 (SlsSlot (Mut None_ KL) (sortV (l.map Rw.vs))) (f := 24) (args := #[.agg #[.string t.nm, .slice A3 n3 c3, .int .i64 t.nx, .slice B m d]]) rfl rfl rfl rfl (fun wv => ?_) (fun wv HC hrm hD => ?_) ?_
  · go_simp <;> rfl
  · have hx := (HX.out _ HC).1
    have hnn := rows_n hx.now HT3.out.2.2.2.2.2 HVT.out.len
    have hml := HML.out
    refine (rtbagt_any _ wv HC.mutLt _ _ _ B m d l hx (by omega) HT3.out.2.2.2.2.1 (fun r hr => by have := hnn r hr; omega)).mono ?_
    rintro e w5 ⟨A5, n5_, c5_, l5_, rfl, h50, h51, h52, h53, h54, h55, b5⟩
    exact ⟨_, rfl, ⟨A5, n5_, c5_, l5_, rfl, h50, h51, h55, h53, h52⟩, HC.call b5, RM.below b5⟩
  rintro x_ wx HCx ⟨XA, Xn, Xc, l5_, rfl, -, -, -, -, -⟩
  clear HCx
  simp only [Act.put, List.setIfInBounds_toArray, List.set_cons_succ, List.set_cons_zero]
  refine dw_val rfl rfl rfl ?_; apply Exists.intro; refine ⟨fun wv HC => ?_, ?_⟩
  · obtain ⟨_, ⟨f0, f1, f2, f3, f4⟩⟩ := HF.out _ HC; go_simp <;> rfl
  simp only [Act.put, List.setIfInBounds_toArray, List.set_cons_succ, List.set_cons_zero]
  refine dw_callR 40 (SlsSlot (Mut None_ KL) (sortV (l7.map Rw.vs))) (f := 24) (args := #[.agg #[.string z.nm, .slice A7 n7 c7, .int .i64 z.nx, .slice B7 m7 d7]]) rfl rfl rfl rfl (fun wv => ?_) (fun wv HC hrm hD => ?_) ?_
  · go_simp <;> rfl
  · have hx := (HX.out _ HC).2
    have hnn := rows_n hx.now HT7.out.2.2.2.2.2 HVZ.out.len
    have hml := HML.out
    refine (rtbagt_any _ wv HC.mutLt _ _ _ B7 m7 d7 l7 hx (by omega) HT7.out.2.2.2.2.1 (fun r hr => by have := hnn r hr; omega)).mono ?_
    rintro e w5 ⟨A5, n5_, c5_, l5_, rfl, h50, h51, h52, h53, h54, h55, b5⟩
    exact ⟨_, rfl, ⟨A5, n5_, c5_, l5_, rfl, h50, h51, h55, h53, h52⟩, HC.call b5, RM.below b5⟩
  rintro x_ wx HCx ⟨YA, Yn, Yc, l5_, rfl, -, -, -, -, -⟩
  clear HCx
  simp only [Act.put, List.setIfInBounds_toArray, List.set_cons_succ, List.set_cons_zero]
  refine dw_val rfl rfl rfl ?_; apply Exists.intro; refine ⟨fun wv HC => ?_, ?_⟩
  ·  go_simp <;> rfl
  simp only [Act.put, List.setIfInBounds_toArray, List.set_cons_succ, List.set_cons_zero]
  refine dw_val rfl rfl rfl ?_; apply Exists.intro; refine ⟨fun wv HC => ?_, ?_⟩
  ·  go_simp <;> rfl
  simp only [Act.put, List.setIfInBounds_toArray, List.set_cons_succ, List.set_cons_zero]
  refine rel_nil ?_
  rintro wx9 HX9
  rintro _hrm HGW
  have hb1 : SlsSlot (Mut None_ KL) (sortV (l.map Rw.vs)) (.slice XA Xn Xc) wx9 := (GW_on (d := 38) rfl).1 (HGW 1 _ rfl (by omega))
  have hb2 : SlsSlot (Mut None_ KL) (sortV (l7.map Rw.vs)) (.slice YA Yn Yc) wx9 := (GW_on (d := 40) rfl).1 (HGW 3 _ rfl (by omega))
  clear HGW _hrm
  obtain ⟨XA', Xn', Xc', lx, ex, x5, x6, ex2, ox, rx⟩ := hb1
  obtain ⟨rfl, rfl, rfl⟩ : XA = XA' ∧ Xn = Xn' ∧ Xc = Xc' := by injection ex with h1 h2 h3; exact ⟨h1, h2, h3⟩
  obtain ⟨YA', Yn', Yc', ly, ey, y5, y6, ey2, oy, ry⟩ := hb2
  obtain ⟨rfl, rfl, rfl⟩ : YA = YA' ∧ Yn = Yn' ∧ Yc = Yc' := by injection ey with h1 h2 h3; exact ⟨h1, h2, h3⟩
  clear ex ey
  have hXn : Xn ≤ 100 := by
    have h1 := rx.now.len
    have h2 := congrArg List.length ex2
    rw [sortV_len, List.length_map, List.length_map] at h2
    have h3 := (HX.out _ HX9).1.now.len
    have := HML.out
    omega
  have hYn : Yn ≤ 100 := by
    have h1 := ry.now.len
    have h2 := congrArg List.length ey2
    rw [sortV_len, List.length_map, List.length_map] at h2
    have h3 := (HX.out _ HX9).2.now.len
    have := HML.out
    omega
  have hx4 : ∀ s ∈ lx, s.n ≤ 4 := sls_n rx.now ex2 (fun r hr => by
    have h1 := (sortV_perm _).mem_iff.1 hr
    rw [vs_of_row HT3.out.2.2.2.2.2] at h1
    obtain ⟨q, hq, rfl⟩ := List.mem_map.1 h1
    exact HVT.out.len q hq)
  have hy4 : ∀ s ∈ ly, s.n ≤ 4 := sls_n ry.now ey2 (fun r hr => by
    have h1 := (sortV_perm _).mem_iff.1 hr
    rw [vs_of_row HT7.out.2.2.2.2.2] at h1
    obtain ⟨q, hq, rfl⟩ := List.mem_map.1 h1
    exact HVZ.out.len q hq)
  have HXY := hid (And.intro ox (And.intro oy (And.intro hx4 (And.intro hy4 (And.intro (show lx.map Sl.vs = sortV (bagR t.rs) by rw [ex2, vs_of_row HT3.out.2.2.2.2.2]; rfl) (show ly.map Sl.vs = sortV (bagR z.rs) by rw [ey2, vs_of_row HT7.out.2.2.2.2.2]; rfl))))))
  rw [HKL.out] at HX9 rx ry
  have K11 := (HX9.add rx).add (ry.less (mut_none rfl))
  clear rx ry ex2 ey2 ox oy hx4 hy4 HX9 HF HX HKL KN HML
  have K12 := K11.alloc_own #[] 27 1 0 (by unfold maxLen; omega) rfl
  clear K11
  have ka := hid ((K12.ro 2 rfl).now.1)
  have h1x := hid (slCells_ones lx)
  have h1y := hid (slCells_ones ly)
  have h1f := hid (slCells_ones lf)
  have h1g := hid (slCells_ones lg)
  go_wp2_with (first
    | (at_builtin; refine wpList_appAllHg K12 0 rfl Tryd.elSlc ka.out rfl (.tmp 43) (.tmp 44) rfl rfl rfl h1x.out (by omega) (by omega) ?_; intro C1 d1 w11 hc11 hc12 K13; simp only [List.nil_append, List.set_cons_zero] at K13; (try simp only [Nat.zero_add] at K13 hc11 ⊢); have kb := hid ((K13.ro 3 rfl).now.1); clear K12 ka)
    | (at_builtin; refine wpList_appAllHg K13 0 rfl Tryd.elSlc kb.out rfl (.tmp 45) (.tmp 46) rfl rfl rfl h1g.out (by omega) (by omega) ?_; intro C2 d2 w12 hc21 hc22 K14; rw [slCells_app] at K14; simp only [List.set_cons_zero] at K14; (have K15 := K14.alloc_own #[] 27 1 0 (by unfold maxLen; omega) rfl); have kc := hid ((K15.ro 2 rfl).now.1); clear K13 kb)
    | (at_builtin; refine wpList_appAllHg K15 0 rfl Tryd.elSlc kc.out rfl (.tmp 48) (.tmp 49) rfl rfl rfl h1y.out (by omega) (by omega) ?_; intro C3 d3 w13 hc31 hc32 K16; simp only [List.nil_append, List.set_cons_zero] at K16; (try simp only [Nat.zero_add] at K16 hc31 ⊢); have kd := hid ((K16.ro 5 rfl).now.1); clear K15 kc)
    | (at_builtin; go_must (refine wpList_appAllHg K16 0 rfl Tryd.elSlc kd.out rfl (.tmp 50) (.tmp 51) rfl rfl rfl h1f.out (by omega) (by omega) ?_); intro C4 d4 w14 hc41 hc42 K17; rw [slCells_app] at K17; simp only [List.set_cons_zero] at K17))
  have KS0 := K17.sealRow 0 rfl
  simp only [List.set_cons_zero] at KS0
  have KS := KS0.sealRow 1 rfl
  simp only [List.set_cons_zero, List.set_cons_succ] at KS
  have KV0 := KS.swapRo 0 rfl (((KS.ro 0 rfl).and ((KS.ro 2 rfl).and (KS.ro 5 rfl))).imp fun w2 h => (⟨h.1, all_app h.2.1.2 h.2.2.2⟩ : SlsIn C4 (Yn + nf) (ly ++ lf) w2))
  simp only [List.set_cons_zero] at KV0
  have KV := KV0.swapRo 1 rfl (((KV0.ro 1 rfl).and ((KV0.ro 3 rfl).and (KV0.ro 4 rfl))).imp fun w2 h => (⟨h.1, all_app h.2.1.2 h.2.2.2⟩ : SlsIn C2 (Xn + ng) (lx ++ lg) w2))
  simp only [List.set_cons_zero, List.set_cons_succ] at KV
  clear K17 KS0 KS KV0 kd
  refine (rsamebag_any _ _ KV.mutLt C2 (Xn + ng) d2 (lx ++ lg) C4 (Yn + nf) d4 (ly ++ lf) (KV.ro 1 rfl) (KV.ro 0 rfl) (by omega) (by omega) (all_app (fun s hs => by have := HXY.out.2.2.1 s hs; omega) HFG.out.2.2.2.1) (all_app (fun s hs => by have := HXY.out.2.2.2.1 s hs; omega) HFG.out.2.2.1) (all_app HXY.out.1 HFG.out.2.1) (all_app HXY.out.2.1 HFG.out.1)).mono ?_
  rw [List.map_append, List.map_append, sameBag_nets HVT.out HVZ.out HXY.out.2.2.2.2.1 HXY.out.2.2.2.2.2 HFG.out.2.2.2.2.1 HFG.out.2.2.2.2.2]
  rintro e w15 ⟨rfl, b15⟩
  have K18 := KV.call b15
  clear KV b15
  go_wp2_with fail
  refine (known8 _).mono ?_
  rintro e w16 ⟨rfl, b16⟩
  have K19 := K18.call b16
  clear K18 b16
  go_wp2_with fail
  go_ret
  exact ⟨by first | rfl | simp, K19.below⟩
end Go.Proofs.YtljmclbedpceoaaDoor

namespace Go.Proofs.YtljmclbedpceoaaDoor
open Go.ChangeShapes Go.WideShapes Go.ChangeAt Go.RowKit
set_option linter.unusedVariables false
set_option linter.unusedSimpArgs false

namespace LawDeltaNets
set_option maxRecDepth 100000 in
theorem contract (H : Type) (enc : TypeId × Value → H) (W : World) (base : Nat) (args : Array Value) (ds gs : List (DataW H)) (before : List MemPlace)
    (hval0 : ∀ (j : Nat) t v, Tryd.f4.params[j]? = some t → args[j]? = some v → Value.okWide Tryd.prog W .any base t v)
    (hsz0 : (DataW.weightsEach Tryd.prog (Tryd.f4.params.toList ++ Rows.deltaNetsSpec.plain.varTypes Tryd.prog) (ds ++ gs)).all (· ≤ reachBytes) = true)
    (hW : DataW.Whole enc Tryd.prog Tryd.f4.params.toList Rows.deltaNetsSpec.vars false W args.toList ds gs before) (hL : laidMetH Tryd.prog Rows.deltaNetsRow.laid W) (hsh : W.ShapedOpen Tryd.prog) :
    Calls Tryd.prog 4 args W fun e W' => ∃ v, e = .returned v ∧ Rows.deltaNetsSpec.post enc Tryd.prog Tryd.f4 false true false false W args v W' := by
  have hsz : (DataW.weightsEach Tryd.prog (Tryd.f4.params.toList ++ Rows.deltaNetsSpec.plain.varTypes Tryd.prog) (ds ++ gs)).all (· ≤ reachBytes) = true := hsz0
  have hval : ∀ (j : Nat) t v, Tryd.f4.params[j]? = some t → args[j]? = some v → Value.okWide Tryd.prog W .any base t v := hval0
  have hW' := hW
  obtain ⟨p, q, hA0, hV, rfl, hfz, hnd⟩ := hW
  have hA : DataW.TrodAll enc Tryd.prog W 0 (fun _ => true) true Tryd.f4.params.toList args.toList ds p := hA0
  rw [Tryd.params4] at hA hval hsz
  obtain ⟨v0, vs0, d0, ds0, p0, q0, hargs, rfl, rfl, h0, r0⟩ := trodAll_cons hA
  obtain ⟨rfl, rfl, rfl⟩ := trodAll_nil r0
  obtain rfl : args = #[v0] := by cases args; simp_all
  obtain ⟨rfl, rfl⟩ := trodVars_none hV
  obtain ⟨A0, n0, c0, zs0, rfl, k0, z0, l0, m0, e0⟩ := open_i64s Tryd.underlying22 Tryd.underlying3 (by kernel_rfl) (hval 0 22 v0 rfl rfl) h0
  refine (dnforms_walk A0 n0 c0 zs0 W k0 z0 l0 (by unfold maxLen at m0; omega) (wds_of_laid (rest := []) hL)).mono fun e W' ⟨he, hb⟩ => ?_
  exact ⟨_, he, law_post rfl laidOut (by kernel_rfl) (by kernel_rfl) Tryd.underlying4 rfl hW' hb⟩

theorem laid_met (os : Os) : laidMet Tryd.prog Rows.deltaNetsRow.laid ((wordsWorld os).forCall (fun _ _ => 0) ⟨#[], #[.slice none 0 0], []⟩).memory :=
  laidMet_of_run' 16 (by kernel_rfl) (by kernel_rfl)
theorem reads (os : Os) {H : Type} (enc : TypeId × Value → H) : ∃ places, DataW.whole enc Tryd.prog ((wordsWorld os).forCall (fun _ _ => 0) ⟨#[], #[.slice none 0 0], []⟩).memory Tryd.f4.params.toList Rows.deltaNetsSpec.vars false #[.slice none 0 0].toList 8 = some ([.nil], [], places) :=
  ⟨[], by kernel_rfl⟩

set_option maxRecDepth 100000 in
theorem lifted (os : Os) (started : os.Started) (H : Type) (enc : TypeId × Value → H) (F : Stop.Interp) :
    ReturnsInHanded {} Tryd.checked os 4 .any ((OpenSpec.ofChange Rows.deltaNetsSpec).preRow enc Tryd.prog Tryd.f4 Rows.deltaNetsRow.domain false Rows.deltaNetsRow.laid) (((OpenSpec.ofChange Rows.deltaNetsSpec).at F).post enc Tryd.prog Tryd.f4 false true false false) := by
  obtain ⟨places, hx⟩ := reads os enc
  refine returnsInHanded_of_row (C := Tryd.checked) (s := OpenSpec.ofChange Rows.deltaNetsSpec) own started (by kernel_rfl) Tryd.func4
    (witness_row_at (enc := enc) (C := Tryd.checked) false (wordsWorld os) #[.slice none 0 0] rfl (by kernel_rfl) (by kernel_rfl) (by kernel_rfl)
      (OpenSpec.preRow_of_cond 8 hx (by kernel_rfl) (fun k hk => by cases hk) (by kernel_rfl) (laid_met os))) ?_
  intro W base args ds gs before hval hW _ _ hsz0 hL hsh _
  exact contract H enc W base args ds gs before hval hsz0 hW hL hsh

theorem said : Rows.DeltaNetsSaid :=
  OpenClaim.holds_of_cond 4 Tryd.f4 rfl rfl rfl rfl rfl rfl rfl ⟨rfl, rfl, rfl, rfl, rfl⟩ rfl rfl rfl rfl rfl (by kernel_rfl) Tryd.func4 (by kernel_rfl)
    (of_decide_eq_true (by kernel_rfl)) (by unfold Func.isWrapper; first | (rw [if_pos (by decide +kernel)]; kernel_rfl) | (rw [if_neg (by decide +kernel)]; exact ⟨rfl, rfl⟩))
    (fun os started H enc _ F => by rw [OpenClaim.pre_eq_preRow]; exact lifted os started H enc F)

theorem plain (f : FuncId) (fn : Func) (hf : Tryd.pinned.checked.prog.funcNamed "triggerstore/triggerstorelaw8.DeltaNets" = some f) (hfn : Tryd.pinned.checked.prog.funcs[f]? = some fn) :
    false = Tryd.pinned.checked.prog.looks [] ∧ ∀ (j : Nat) t, fn.params[j]? = some t → Tryd.pinned.checked.prog.wantsStandIn t = false := by
  obtain rfl : f = 4 := Option.some.inj ((show Tryd.prog.funcNamed "triggerstore/triggerstorelaw8.DeltaNets" = some 4 by kernel_rfl).symm.trans hf) |>.symm
  obtain rfl : fn = Tryd.f4 := (Option.some.inj (Tryd.func4.symm.trans hfn)).symm
  refine ⟨by kernel_rfl, fun j t ht => ?_⟩
  rw [Tryd.params4] at ht
  have hm := Array.mem_of_getElem? ht
  simp only [List.mem_toArray, List.mem_cons, List.not_mem_nil, or_false] at hm
  subst hm
  · exact (show Tryd.prog.wantsStandIn 22 = false by kernel_rfl)
end LawDeltaNets

theorem deltaNets_holds : Rows.DeltaNetsCardSaid :=
  Claim7.holds_tied_plain_at .later [] _ _ _ _ LawDeltaNets.said (fun _ h => by cases h) (by kernel_rfl) (fun _ h => by cases h) deltaNets_row_tie rfl ⟨rfl, rfl⟩ (by kernel_rfl) rfl LawDeltaNets.plain (by kernel_rfl)
#print axioms deltaNets_holds
end Go.Proofs.YtljmclbedpceoaaDoor

/- DWown: lists of rows whose values the call owns: copies in a drawn region that are known as own rows; a store into one of them. No program in sight. -/
import Derived.Test.YtkpbnlbhfhkhcaaRkSaidMA
import Derived.StillTailTactics
import Derived.Shelf.SlGeneric
import Derived.Shelf.SlSortCmp.NoneTotal
import Derived.Shelf.SlSortCmp.WholeK
import Derived.Shelf.SortM.Plain
import Derived.Shelf.SortM.SortNone
import Derived.Shelf.SlicesG.CompactS
import Derived.Ground.SlsfProg
import Derived.Ground.SlgmProg
import Derived.Ground.SlgnProg
import Derived.Test.YtkpbnlbhfhkhcaaProg
import Derived.Shelf.SlSortCmp.QuietGrown
import Derived.Shelf.SlSortCmp.InsertionK
import Derived.WalkSpells
import Derived.Deep.QuietTactic
import Derived.BigQuiet
import Derived.WalkLawsBesides
import Derived.Deep.LoopGhost
import Derived.IntWalk
import Derived.WideShapes
import Derived.Maps.OwnOps
import Derived.Maps.Views
import Derived.DeepKeys4
import Derived.Maps.RangeWalk
import Derived.Deep.RegionHeld3
import Derived.Sort.Statements
import Derived.Shelf.SlSortCmp.Insertion
import Derived.Lib.ConvBytes
namespace Go.Proofs.Ytkpbnlbhfhkhcaa
open Go.RowKit
set_option linter.unusedVariables false
set_option linter.unusedSimpArgs false

theorem res_tmp3 {fn : Func} {t u v : Tmp} (h : fn.results = #[.tmp t, .tmp u, .tmp v]) (tmps : Array Value) (P : Program) (w : World) :
    (results fn tmps).run P w = .ok (.tuple #[tmps.getD t undef, tmps.getD u undef, tmps.getD v undef]) w := by
  simp [results, h]
theorem frstE_in {w : World} : ∀ {d : Nat} {e : Ex}, ExIn d e w → ExIn d (frstE d e) w
  | 0, _, h => h.elim
  | d + 1, e, h => by
    unfold frstE
    split
    · split
      · rename_i a l hl
        exact (frstE_in ((ExIn.succ.1 h).1.2 a (by rw [hl]; exact List.mem_cons_self ..))).more
      · exact h
    · exact h
theorem constE_not {e : Ex} (h : ¬ (e.kind = 4 ∧ ∃ a, e.args = [a] ∧ a.kind = 1)) : constE e = (e.v.i, (e.kind == 1) && (e.v.k == 1)) := by
  have hb : ((e.kind == 1) && (e.v.k == 1)) = (decide (e.kind = 1) && decide (e.v.k = 1)) := by
    cases h1 : (e.kind == 1) <;> cases h2 : (e.v.k == 1) <;> simp at h1 h2 <;> simp [h1, h2]
  unfold constE
  split
  · rename_i a ha
    rw [if_neg (fun hc => h ⟨hc.1, a, ha, hc.2⟩), hb]
  · rw [hb]
theorem constE_minus {e a : Ex} (h : e.kind = 4) (ha : e.args = [a]) (hk : a.kind = 1) : constE e = (IntKind.i64.wrap (-a.v.i), a.v.k == 1) := by
  have hb : (a.v.k == 1) = decide (a.v.k = 1) := by cases h2 : (a.v.k == 1) <;> simp at h2 <;> simp [h2]
  simp [constE, ha, h, hk, hb]
set_option maxRecDepth 100000 in
set_option maxHeartbeats 2000000 in
theorem const_any (M : Nat → Prop) (w : World) (hM : ∀ b, M b → b < w.heap.size) (e : Ex) (d : Nat) (he : Ro w M (ExIn (d + 1) e)) : Calls Try.prog 36 #[e.val] w fun r w' => r = .returned (.tuple #[.int .i64 (constE e).1, .bool (constE e).2]) ∧ Below w.heap.size w w' := by
  by_cases h : e.kind = 4
  · by_cases h2 : ∃ a, e.args = [a] ∧ a.kind = 1
    · obtain ⟨a, ha, hk⟩ := h2
      rw [constE_minus h ha hk]
      exact const1_any M w hM e a d he h ha hk
    · rw [constE_not (fun hc => h2 hc.2)]
      have hlen := (ExIn.succ.1 he.now).1.len
      obtain ⟨k, op, nt, ⟨vk, vi, vs⟩, tab, nm, A, n, c, args, B, m, d, sub⟩ := e
      simp only [Ex.val] at h h2 hlen ⊢
      subst h
      have K0 := ((Hold.start M w hM).add (he.less (by simp [Mut]))).alloc_cst #[.int .i64 4, .int .i64 op, .bool nt, .int .i64 vk, .int .i64 vi, .string vs, .string tab, .string nm, .slice A n c, .slice B m d] 38
      have F0 := K0.facts
      simp only [World.size_alloc, World.size_drew, factsL, cellsF, Nat.reduceAdd, List.toList_toArray, List.set_cons_zero, List.set_cons_succ, List.setIfInBounds_toArray, and_true, true_and] at F0
      have hB := fun q => (K0.drewN q).below
      have HB := hid hB
      clear hB
      by_cases hn : (n : Int) = 1
      · obtain ⟨a, ha⟩ : ∃ a, args = [a] := by
          match args, hlen with
          | [a], _ => exact ⟨a, rfl⟩
          | [], hlen => simp at hlen; omega
          | _ :: _ :: _, hlen => simp at hlen; omega
        subst ha
        obtain ⟨b2, o2, rfl, hb2, hc, -⟩ := (ExIn.succ.1 (K0.ro 1 rfl).now).1.at_ (k := 0) (x := a) rfl
        have y0 := hc 0 _ (by omega) rfl
        simp only [Nat.zero_mul, Nat.add_zero] at y0
        clear hc K0 he
        have hak : ¬ a.kind = 1 := fun hk => h2 ⟨a, rfl, hk⟩
        obtain ⟨ka, hka⟩ : ∃ ka, ka = a.kind := ⟨_, rfl⟩
        rw [← hka] at y0 hak
        clear hka h2 hlen
        have h0 : 0 < n := by omega
        go_enter Try.func36, Try.ntmps36
        go_wp2_with fail
        go_quiet (fail)
        go_wp2_with fail
        refine bodyPost_ret (results_tmp2 rfl _ _ _) rfl ?_
        exact ⟨rfl, HB.out _⟩
      · clear K0 he h2 hlen
        go_enter Try.func36, Try.ntmps36
        go_wp2_with fail
        go_quiet (fail)
        go_wp2_with fail
        refine bodyPost_ret (results_tmp2 rfl _ _ _) rfl ?_
        exact ⟨rfl, HB.out _⟩
  · rw [constE_not (fun hc => h hc.1)]
    exact const0_any w e h
def guardR (d : Nat) (a : Ac) (col : ByteArray) : Int × Int × Bool := match guardA d a col with | some (x, y) => (x, y, true) | none => (0, 0, false)
theorem guardR_end {d : Nat} {a : Ac} {col : ByteArray} {x : Ex} {l : List Ex} (hw : a.wh.l = x :: l) : guardR d a col = (if a.kind = 2 ∧ (frstE d x).kind = 7 then (match (frstE d x).args with | [x, y, z] => (if isColB x a.tab col ∧ (constE y).2 ∧ (constE z).2 then ((constE y).1, (constE z).1, true) else (0, 0, false)) | _ => (0, 0, false)) else (0, 0, false)) := by
  unfold guardR guardA
  simp only [hw]
  generalize frstE d x = E
  by_cases h : a.kind = 2 ∧ E.kind = 7
  · rw [if_pos h, if_pos h]
    match hE : E.args with
    | [x, y, z] =>
      simp only
      by_cases h2 : isColB x a.tab col = true ∧ (constE y).2 = true ∧ (constE z).2 = true
      · rw [if_pos h2, if_pos h2]
      · rw [if_neg h2, if_neg h2]
    | [] => rfl
    | [_] => rfl
    | [_, _] => rfl
    | _ :: _ :: _ :: _ :: _ => rfl
  · rw [if_neg h, if_neg h]
set_option maxRecDepth 100000 in
set_option maxHeartbeats 2000000 in
/-- where there is no condition -/
theorem guard0_any (w : World) (a : Ac) (col : ByteArray) (hn : a.wh.n = 0) : Calls Try.prog 27 #[a.val, .string col] w fun r w' => r = .returned (.tuple #[.int .i64 0, .int .i64 0, .bool false]) ∧ Below w.heap.size w w' := by
  obtain ⟨ak, atab, ⟨rA, rn, rc, rl⟩, ⟨qA, qn, qc, ql⟩, ⟨sA, sn, sc, sl⟩, ⟨wA, wn, wc, wl⟩, text⟩ := a
  simp only [Ac.val] at hn ⊢
  subst hn
  have K0 := (Hold.begin_ w).alloc_cst #[.int .i64 ak, .string atab, .slice rA rn rc, .slice qA qn qc, .slice sA sn sc, .slice wA 0 wc, .string text] 43
  have F0 := K0.facts
  simp only [World.size_alloc, World.size_drew, factsL, cellsF, Nat.reduceAdd, List.toList_toArray, List.set_cons_zero, List.set_cons_succ, List.setIfInBounds_toArray, and_true, true_and] at F0
  by_cases hk : ak = 2
  · subst hk
    go_enter Try.func27, Try.ntmps27
    go_wp2_with fail
    refine (first_nil _ wA wc).mono ?_
    rintro e w1 ⟨rfl, b1⟩
    have K1 := (K0.call b1).alloc_cst #[.int .i64 0, .int .i64 0, .bool false, .int .i64 0, .int .i64 0, .string ⟨#[]⟩, .string ⟨#[]⟩, .string ⟨#[]⟩, .slice none 0 0, .slice none 0 0] 38
    have F1 := K1.facts
    simp only [World.size_alloc, World.size_drew, factsL, cellsF, Nat.reduceAdd, List.toList_toArray, List.set_cons_zero, List.set_cons_succ, List.setIfInBounds_toArray, and_true, true_and] at F1
    have hB := fun q => (K1.drewN q).below
    have HB := hid hB
    clear hB K0 K1 F0
    go_wp2_with fail
    go_quiet (fail)
    go_wp2_with fail
    refine bodyPost_ret (res_tmp3 rfl _ _ _) rfl ?_
    exact ⟨rfl, HB.out _⟩
  · have hk2 : (ak != 2) = true := by simpa using hk
    go_enter Try.func27, Try.ntmps27
    go_wp2_with fail
    refine (first_nil _ wA wc).mono ?_
    rintro e w1 ⟨rfl, b1⟩
    have K1 := (K0.call b1).alloc_cst #[.int .i64 0, .int .i64 0, .bool false, .int .i64 0, .int .i64 0, .string ⟨#[]⟩, .string ⟨#[]⟩, .string ⟨#[]⟩, .slice none 0 0, .slice none 0 0] 38
    have F1 := K1.facts
    simp only [World.size_alloc, World.size_drew, factsL, cellsF, Nat.reduceAdd, List.toList_toArray, List.set_cons_zero, List.set_cons_succ, List.setIfInBounds_toArray, and_true, true_and] at F1
    have hB := fun q => (K1.drewN q).below
    have HB := hid hB
    clear hB K0 K1 F0
    go_wp2_with fail
    go_quiet (fail)
    go_wp2_with fail
    refine bodyPost_ret (res_tmp3 rfl _ _ _) rfl ?_
    exact ⟨rfl, HB.out _⟩
set_option maxRecDepth 100000 in
set_option maxHeartbeats 2000000 in
theorem guard1_any (M : Nat → Prop) (w : World) (hM : ∀ b, M b → b < w.heap.size) (a : Ac) (col : ByteArray) (d : Nat) (ha : Ro w M (AcIn (d + 1) a)) (hn : a.wh.n ≤ 9223372036854775807) (x : Ex) (l : List Ex) (hl : a.wh.l = x :: l) : Calls Try.prog 27 #[a.val, .string col] w fun r w' => r = .returned (.tuple #[.int .i64 (guardR (d + 1) a col).1, .int .i64 (guardR (d + 1) a col).2.1, .bool (guardR (d + 1) a col).2.2]) ∧ Below w.heap.size w w' := by
  have hD : Ro w M (ExsIn (d + 1) a.wh.A a.wh.n a.wh.l) := ha.imp fun w2 h2 => h2.2.2.2
  rw [hl] at hD
  have HR := hid (guardR_end (d := d + 1) (col := col) hl)
  generalize guardR (d + 1) a col = R at *
  obtain ⟨ak, atab, ⟨rA, rn, rc, rl⟩, ⟨qA, qn, qc, ql⟩, ⟨sA, sn, sc, sl⟩, ⟨wA, wn, wc, wl⟩, text⟩ := a
  simp only [Ac.val] at hD hn HR ⊢
  clear ha hl
  have K0 := ((Hold.start M w hM).add (hD.less (by simp [Mut]))).alloc_cst #[.int .i64 ak, .string atab, .slice rA rn rc, .slice qA qn qc, .slice sA sn sc, .slice wA wn wc, .string text] 43
  have F0 := K0.facts
  simp only [World.size_alloc, World.size_drew, factsL, cellsF, Nat.reduceAdd, List.toList_toArray, List.set_cons_zero, List.set_cons_succ, List.setIfInBounds_toArray, and_true, true_and] at F0
  go_enter Try.func27, Try.ntmps27
  go_wp2_with fail
  refine (first_any _ _ K0.mutLt wA wn wc (d + 1) x l (K0.ro 1 rfl) hn).mono ?_
  rintro e w1 ⟨rfl, b1⟩
  have KA := K0.call b1
  have KB := KA.add (S := ExIn (d + 1) (frstE (d + 1) x)) ((KA.ro 1 rfl).imp fun w2 h2 => frstE_in (h2.2 x (List.mem_cons_self ..)))
  clear KA K0 F0 b1
  obtain ⟨E, hE⟩ : ∃ E, E = frstE (d + 1) x := ⟨_, rfl⟩
  rw [← hE] at KB
  have HR2 := hid (show R = _ from HR.out)
  clear HR
  rw [← hE] at HR2 ⊢
  clear hE
  obtain ⟨ek, eop, ent, ⟨evk, evi, evs⟩, etab, enm, eA, en, ec, eargs, eB, em, ed, esub⟩ := E
  simp only [Ex.val] at HR2 ⊢
  have K1 := KB.alloc_cst #[.int .i64 ek, .int .i64 eop, .bool ent, .int .i64 evk, .int .i64 evi, .string evs, .string etab, .string enm, .slice eA en ec, .slice eB em ed] 38
  clear KB
  have F1 := K1.facts
  simp only [World.size_alloc, World.size_drew, factsL, cellsF, Nat.reduceAdd, List.toList_toArray, List.set_cons_zero, List.set_cons_succ, List.setIfInBounds_toArray, and_true, true_and] at F1
  have hlen := (ExIn.succ.1 (K1.ro 1 rfl).now).1.len
  simp only at hlen
  have hB := fun q => (K1.drewN q).below
  have HB := hid hB
  clear hB
  have HR := hid (show R = _ from HR2.out)
  clear HR2
  by_cases hk : ak = 2
  · subst hk
    by_cases h7 : ek = 7
    · subst h7
      by_cases h3 : (en : Int) = 3
      · obtain ⟨X, Y, Z, rfl⟩ : ∃ X Y Z, eargs = [X, Y, Z] := by
          match eargs, hlen with
          | [a, b, c], _ => exact ⟨a, b, c, rfl⟩
          | [], hlen => simp at hlen; omega
          | [_], hlen => simp at hlen; omega
          | [_, _], hlen => simp at hlen; omega
          | _ :: _ :: _ :: _ :: _, hlen => simp at hlen; omega
        obtain rfl : en = 3 := by omega
        have hx := (ExIn.succ.1 (K1.ro 1 rfl).now).1
        obtain _ | d := d
        · exact (hx.2 X (List.mem_cons_self ..)).elim
        obtain ⟨xk, xop, xnt, ⟨xvk, xvi, xvs⟩, xtab, xnm, xA, xn, xc, xargs, xB, xm, xd, xsub⟩ := X
        obtain ⟨yk, yop, ynt, ⟨yvk, yvi, yvs⟩, ytab, ynm, yA, yn, yc, yargs, yB, ym, yd, ysub⟩ := Y
        obtain ⟨zk, zop, znt, ⟨zvk, zvi, zvs⟩, ztab, znm, zA, zn, zc, zargs, zB, zm, zd, zsub⟩ := Z
        obtain ⟨b2, o2, rfl, hb2, hcx, -⟩ := hx.at_ (k := 0) (x := ⟨xk, xop, xnt, ⟨xvk, xvi, xvs⟩, xtab, xnm, xA, xn, xc, xargs, xB, xm, xd, xsub⟩) rfl
        obtain ⟨b3, o3, e3, -, hcy, -⟩ := hx.at_ (k := 1) (x := ⟨yk, yop, ynt, ⟨yvk, yvi, yvs⟩, ytab, ynm, yA, yn, yc, yargs, yB, ym, yd, ysub⟩) rfl
        obtain ⟨b4, o4, e4, -, hcz, -⟩ := hx.at_ (k := 2) (x := ⟨zk, zop, znt, ⟨zvk, zvi, zvs⟩, ztab, znm, zA, zn, zc, zargs, zB, zm, zd, zsub⟩) rfl
        simp only [Option.some.injEq, Addr.mk.injEq, and_true] at e3 e4
        obtain ⟨rfl, rfl⟩ := e3
        obtain ⟨rfl, rfl⟩ := e4
        have x0 := hcx 0 _ (by omega) rfl
        have y0 := hcy 0 _ (by omega) rfl
        have z0 := hcz 0 _ (by omega) rfl
        have x1 := hcx 1 _ (by omega) rfl
        have y1 := hcy 1 _ (by omega) rfl
        have z1 := hcz 1 _ (by omega) rfl
        have x2 := hcx 2 _ (by omega) rfl
        have y2 := hcy 2 _ (by omega) rfl
        have z2 := hcz 2 _ (by omega) rfl
        have x3 := hcx 3 _ (by omega) rfl
        have y3 := hcy 3 _ (by omega) rfl
        have z3 := hcz 3 _ (by omega) rfl
        have x4 := hcx 4 _ (by omega) rfl
        have y4 := hcy 4 _ (by omega) rfl
        have z4 := hcz 4 _ (by omega) rfl
        have x5 := hcx 5 _ (by omega) rfl
        have y5 := hcy 5 _ (by omega) rfl
        have z5 := hcz 5 _ (by omega) rfl
        have x6 := hcx 6 _ (by omega) rfl
        have y6 := hcy 6 _ (by omega) rfl
        have z6 := hcz 6 _ (by omega) rfl
        have x7 := hcx 7 _ (by omega) rfl
        have y7 := hcy 7 _ (by omega) rfl
        have z7 := hcz 7 _ (by omega) rfl
        have x8 := hcx 8 _ (by omega) rfl
        have y8 := hcy 8 _ (by omega) rfl
        have z8 := hcz 8 _ (by omega) rfl
        have x9 := hcx 9 _ (by omega) rfl
        have y9 := hcy 9 _ (by omega) rfl
        have z9 := hcz 9 _ (by omega) rfl
        simp only [Nat.zero_mul, Nat.one_mul, Nat.add_zero, Nat.reduceMul] at x0 y0 z0 x1 y1 z1 x2 y2 z2 x3 y3 z3 x4 y4 z4 x5 y5 z5 x6 y6 z6 x7 y7 z7 x8 y8 z8 x9 y9 z9
        have RX : ∀ q ∈ [⟨xk, xop, xnt, ⟨xvk, xvi, xvs⟩, xtab, xnm, xA, xn, xc, xargs, xB, xm, xd, xsub⟩, ⟨yk, yop, ynt, ⟨yvk, yvi, yvs⟩, ytab, ynm, yA, yn, yc, yargs, yB, ym, yd, ysub⟩, ⟨zk, zop, znt, ⟨zvk, zvi, zvs⟩, ztab, znm, zA, zn, zc, zargs, zB, zm, zd, zsub⟩], Ro _ _ (ExIn (d + 1) q) := fun q hq => (K1.ro 1 rfl).imp fun w2 h2 => (ExIn.succ.1 h2).1.2 q hq
        have K2 := (K1.add (RX ⟨yk, yop, ynt, ⟨yvk, yvi, yvs⟩, ytab, ynm, yA, yn, yc, yargs, yB, ym, yd, ysub⟩ (by simp))).add (S := ExIn (d + 1) ⟨zk, zop, znt, ⟨zvk, zvi, zvs⟩, ztab, znm, zA, zn, zc, zargs, zB, zm, zd, zsub⟩) ((RX ⟨zk, zop, znt, ⟨zvk, zvi, zvs⟩, ztab, znm, zA, zn, zc, zargs, zB, zm, zd, zsub⟩ (by simp)).less (by simp [mut_cons, Hp.foot]))
        have hR : R = if isColB ⟨xk, xop, xnt, ⟨xvk, xvi, xvs⟩, xtab, xnm, xA, xn, xc, xargs, xB, xm, xd, xsub⟩ atab col ∧ (constE ⟨yk, yop, ynt, ⟨yvk, yvi, yvs⟩, ytab, ynm, yA, yn, yc, yargs, yB, ym, yd, ysub⟩).2 ∧ (constE ⟨zk, zop, znt, ⟨zvk, zvi, zvs⟩, ztab, znm, zA, zn, zc, zargs, zB, zm, zd, zsub⟩).2 then ((constE ⟨yk, yop, ynt, ⟨yvk, yvi, yvs⟩, ytab, ynm, yA, yn, yc, yargs, yB, ym, yd, ysub⟩).1, (constE ⟨zk, zop, znt, ⟨zvk, zvi, zvs⟩, ztab, znm, zA, zn, zc, zargs, zB, zm, zd, zsub⟩).1, true) else (0, 0, false) := by rw [HR.out, if_pos ⟨rfl, rfl⟩]
        clear HR hlen HB RX hx hcx hcy hcz
        cases hI : isColB ⟨xk, xop, xnt, ⟨xvk, xvi, xvs⟩, xtab, xnm, xA, xn, xc, xargs, xB, xm, xd, xsub⟩ atab col
        · have hr : R = (0, 0, false) := by rw [hR, if_neg (by simp [hI])]
          clear hR K1
          subst hr
          go_wp2_with fail
          generalize w1.alloc (.cells #[.int .i64 7, .int .i64 eop, .bool ent, .int .i64 evk, .int .i64 evi, .string evs, .string etab, .string enm, .slice (some ⟨b2, o2, none⟩) 3 ec, .slice eB em ed] 38) = wk at *
          go_still_tail 26, (by kernel_rfl)
          change wpList _ _ _ _ _ wk.drew
          go_wp2_with (go_at_call 35; refine (iscol_any _ ⟨xk, xop, xnt, ⟨xvk, xvi, xvs⟩, xtab, xnm, xA, xn, xc, xargs, xB, xm, xd, xsub⟩ atab col).mono ?_; rintro e w2 ⟨rfl, bb2⟩; have K3 := K2.drew.call bb2; rw [hI])
          go_wp2_with fail
          refine bodyPost_ret (res_tmp3 rfl _ _ _) rfl ?_
          exact ⟨rfl, K3.below⟩
        · clear K1
          have HR := hid (show R = _ from hR)
          clear hR
          go_wp2_with fail
          generalize w1.alloc (.cells #[.int .i64 7, .int .i64 eop, .bool ent, .int .i64 evk, .int .i64 evi, .string evs, .string etab, .string enm, .slice (some ⟨b2, o2, none⟩) 3 ec, .slice eB em ed] 38) = wk at *
          go_still_tail 26, (by kernel_rfl)
          change wpList _ _ _ _ _ wk.drew
          go_wp2_with (go_at_call 35; refine (iscol_any _ ⟨xk, xop, xnt, ⟨xvk, xvi, xvs⟩, xtab, xnm, xA, xn, xc, xargs, xB, xm, xd, xsub⟩ atab col).mono ?_; rintro e w2 ⟨rfl, bb2⟩; have K3 := K2.drew.call bb2; have F3 := K3.facts; simp only [World.size_alloc, World.size_drew, factsL, cellsF, Nat.reduceAdd, List.toList_toArray, List.set_cons_zero, List.set_cons_succ, List.setIfInBounds_toArray, and_true, true_and] at F3; obtain ⟨b3, o3, e3, hb3, hcy, -⟩ := (ExIn.succ.1 (K3.ro 3 rfl).now).1.at_ (k := 1) (x := ⟨yk, yop, ynt, ⟨yvk, yvi, yvs⟩, ytab, ynm, yA, yn, yc, yargs, yB, ym, yd, ysub⟩) rfl; simp only [Option.some.injEq, Addr.mk.injEq, and_true] at e3; obtain ⟨rfl, rfl⟩ := e3; have y0 := hcy 0 _ (by omega) rfl; have y1 := hcy 1 _ (by omega) rfl; have y2 := hcy 2 _ (by omega) rfl; have y3 := hcy 3 _ (by omega) rfl; have y4 := hcy 4 _ (by omega) rfl; have y5 := hcy 5 _ (by omega) rfl; have y6 := hcy 6 _ (by omega) rfl; have y7 := hcy 7 _ (by omega) rfl; have y8 := hcy 8 _ (by omega) rfl; have y9 := hcy 9 _ (by omega) rfl; simp only [Nat.one_mul, Nat.add_zero, Nat.reduceMul] at y0 y1 y2 y3 y4 y5 y6 y7 y8 y9; clear hcy; rw [hI])
          have HI := hid hI
          clear hI
          clear x0 y0 z0 x1 y1 z1 x2 y2 z2 x3 y3 z3 x4 y4 z4 x5 y5 z5 x6 y6 z6 x7 y7 z7 x8 y8 z8 x9 y9 z9 F1 hb2 K2
          refine (const_any _ _ K3.mutLt ⟨yk, yop, ynt, ⟨yvk, yvi, yvs⟩, ytab, ynm, yA, yn, yc, yargs, yB, ym, yd, ysub⟩ d (K3.ro 1 rfl)).mono ?_
          rintro e w3 ⟨rfl, bb3⟩
          have K4 := K3.call bb3
          clear y0 y1 y2 y3 y4 y5 y6 y7 y8 y9 F3 hb3 K3 bb3 bb2
          have F4 := K4.facts
          simp only [World.size_alloc, World.size_drew, factsL, cellsF, Nat.reduceAdd, List.toList_toArray, List.set_cons_zero, List.set_cons_succ, List.setIfInBounds_toArray, and_true, true_and] at F4
          obtain ⟨b3, o3, e3, hb3, hcz, -⟩ := (ExIn.succ.1 (K4.ro 3 rfl).now).1.at_ (k := 2) (x := ⟨zk, zop, znt, ⟨zvk, zvi, zvs⟩, ztab, znm, zA, zn, zc, zargs, zB, zm, zd, zsub⟩) rfl
          simp only [Option.some.injEq, Addr.mk.injEq, and_true] at e3
          obtain ⟨rfl, rfl⟩ := e3
          have z0 := hcz 0 _ (by omega) rfl
          have z1 := hcz 1 _ (by omega) rfl
          have z2 := hcz 2 _ (by omega) rfl
          have z3 := hcz 3 _ (by omega) rfl
          have z4 := hcz 4 _ (by omega) rfl
          have z5 := hcz 5 _ (by omega) rfl
          have z6 := hcz 6 _ (by omega) rfl
          have z7 := hcz 7 _ (by omega) rfl
          have z8 := hcz 8 _ (by omega) rfl
          have z9 := hcz 9 _ (by omega) rfl
          simp only [Nat.one_mul, Nat.add_zero, Nat.reduceMul] at z0 z1 z2 z3 z4 z5 z6 z7 z8 z9
          clear hcz
          go_wp2_with fail
          refine (const_any _ _ K4.mutLt ⟨zk, zop, znt, ⟨zvk, zvi, zvs⟩, ztab, znm, zA, zn, zc, zargs, zB, zm, zd, zsub⟩ d (K4.ro 0 rfl)).mono ?_
          rintro e w4 ⟨rfl, bb4⟩
          have K5 := K4.call bb4
          clear z0 z1 z2 z3 z4 z5 z6 z7 z8 z9 F4 hb3 K4 bb4
          have HB := hid K5.below
          clear K5
          obtain ⟨⟨cy, oy⟩, hcy⟩ : ∃ q, q = constE ⟨yk, yop, ynt, ⟨yvk, yvi, yvs⟩, ytab, ynm, yA, yn, yc, yargs, yB, ym, yd, ysub⟩ := ⟨_, rfl⟩
          obtain ⟨⟨cz, oz⟩, hcz⟩ : ∃ q, q = constE ⟨zk, zop, znt, ⟨zvk, zvi, zvs⟩, ztab, znm, zA, zn, zc, zargs, zB, zm, zd, zsub⟩ := ⟨_, rfl⟩
          rw [← hcy, ← hcz] at HR
          rw [← hcy, ← hcz]
          clear hcy hcz
          have hr : R = if oy = true ∧ oz = true then (cy, cz, true) else (0, 0, false) := by rw [HR.out]; simp [HI.out]
          clear HR
          cases oy <;> cases oz
          all_goals
            simp only [Bool.false_eq_true, false_and, and_false, and_self, if_false, if_true] at hr
            subst hr
            go_wp2_with fail
            refine bodyPost_ret (res_tmp3 rfl _ _ _) rfl ?_
            exact ⟨rfl, HB.out⟩
      · have h3b : ((en : Int) != 3) = true := by simpa using h3
        have hr : R = (0, 0, false) := by
          rw [HR.out, if_pos ⟨rfl, rfl⟩]
          match eargs, hlen with
          | [a, b, c], hlen => simp at hlen; omega
          | [], _ => rfl
          | [_], _ => rfl
          | [_, _], _ => rfl
          | _ :: _ :: _ :: _ :: _, _ => rfl
        clear K1 HR hlen
        subst hr
        go_wp2_with fail
        go_quiet (fail)
        go_wp2_with fail
        refine bodyPost_ret (res_tmp3 rfl _ _ _) rfl ?_
        exact ⟨by rfl, HB.out _⟩
    · have h7b : (ek != 7) = true := by simpa using h7
      have hr : R = (0, 0, false) := by rw [HR.out, if_neg (fun h => h7 h.2)]
      clear K1 HR
      subst hr
      go_wp2_with fail
      go_quiet (fail)
      go_wp2_with fail
      refine bodyPost_ret (res_tmp3 rfl _ _ _) rfl ?_
      exact ⟨by rfl, HB.out _⟩
  · have hk2 : (ak != 2) = true := by simpa using hk
    have hr : R = (0, 0, false) := by rw [HR.out, if_neg (fun h => hk h.1)]
    clear K1 HR
    subst hr
    go_wp2_with fail
    go_quiet (fail)
    go_wp2_with fail
    refine bodyPost_ret (res_tmp3 rfl _ _ _) rfl ?_
    exact ⟨by rfl, HB.out _⟩
end Go.Proofs.Ytkpbnlbhfhkhcaa

namespace Go.Proofs.Ytkpbnlbhfhkhcaa
open Go.RowKit
set_option linter.unusedVariables false
set_option linter.unusedSimpArgs false

def Rk.val (r : Rk) : Value := .agg #[.string r.tab, .string r.col, .int .i64 r.lo, .int .i64 r.hi]
def Tg.val (t : Tg) : Value := .agg #[.string t.name, .string t.tab, .bool t.before, .int .i64 t.event, .slice t.cols.A t.cols.n t.cols.c, .bool t.each, .slice t.prec.A t.prec.n t.prec.c, .slice t.foll.A t.foll.n t.foll.c, .slice t.rank.A t.rank.n t.rank.c, .slice t.cond.A t.cond.n t.cond.c, .slice t.acts.A t.acts.n t.acts.c]
def AcsIn (d : Nat) (A : Option Addr) (n : Nat) (l : List Ac) (w : World) : Prop := SlR 7 A n (l.flatMap Ac.cells) w ∧ ∀ x ∈ l, AcIn d x w
theorem AcsIn.len {d : Nat} {A : Option Addr} {n : Nat} {l : List Ac} {w : World} (h : AcsIn d A n l w) : l.length = n := SlP.In.len (s := ⟨A, n, 0, l⟩) (k := 7) (cel := Ac.cells) (P := AcIn d) h (by omega) (fun _ => rfl)
theorem AcsIn.at_ {d : Nat} {w : World} {A : Option Addr} {n : Nat} {l : List Ac} (h : AcsIn d A n l w) {k : Nat} {x : Ac} (hx : l[k]? = some x) :
    ∃ b o, A = some ⟨b, o, none⟩ ∧ b < w.heap.size ∧ (∀ j u, j < 7 → x.cells[j]? = some u → w.cell? ⟨b, o + k * 7 + j, none⟩ = some u) ∧ AcIn d x w := SlP.In.at_ (s := ⟨A, n, 0, l⟩) (k := 7) (cel := Ac.cells) (P := AcIn d) h (by omega) (fun _ => rfl) hx
theorem all_next {α : Type} {f : α → Bool} {l : List α} {k : Nat} {x : α} (hx : l[k]? = some x) (hf : f x = true) (h : l.all f = (l.drop k).all f) : l.all f = (l.drop (k + 1)).all f := by
  have hk : k < l.length := (List.getElem?_eq_some_iff.1 hx).1
  rw [h, List.drop_eq_getElem_cons hk]
  have : l[k] = x := (List.getElem?_eq_some_iff.1 hx).2
  simp [this, hf]
theorem all_here {α : Type} {f : α → Bool} {l : List α} {k : Nat} {x : α} (hx : l[k]? = some x) (hf : f x = false) : l.all f = false := by
  rw [List.all_eq_false]
  exact ⟨x, List.mem_of_getElem? hx, by simp [hf]⟩
theorem ownAct_iff {d : Nat} {r : Rk} {a : Ac} {lk glo ghi : Int} {lb gb : Bool} (h1 : lowR a r.col = (lk, lb)) (h2 : guardR d a r.col = (glo, ghi, gb)) (h4 : ¬ a.kind = 4) : ownAct d r a = true ↔ (a.tab.toList = r.tab.toList ∧ lb = true ∧ ¬ lk < 1 ∧ gb = true ∧ ¬ glo < r.lo ∧ ¬ r.hi < ghi) := by
  have e : a.tab.toList = r.tab.toList ↔ a.tab = r.tab := ⟨bytesEq, fun h => by rw [h]⟩
  rw [e]
  unfold ownAct
  unfold lowR at h1
  unfold guardR at h2
  simp only [h4, decide_false, Bool.false_or, Bool.and_eq_true, decide_eq_true_eq]
  cases hl : lowersA a r.col with
  | none =>
    rw [hl] at h1
    have : lb = false := (congrArg Prod.snd h1).symm
    subst this
    simp
  | some k =>
    rw [hl] at h1
    obtain ⟨rfl, rfl⟩ := Prod.mk.inj h1
    cases hg : guardA d a r.col with
    | none =>
      rw [hg] at h2
      have : gb = false := (congrArg (fun q => q.2.2) h2).symm
      subst this
      simp
    | some q =>
      obtain ⟨x, y⟩ := q
      rw [hg] at h2
      obtain ⟨rfl, h3⟩ := Prod.mk.inj h2
      obtain ⟨rfl, rfl⟩ := Prod.mk.inj h3
      simp only [Bool.and_eq_true, decide_eq_true_eq, true_and]
      constructor
      · rintro ⟨a1, ⟨a2, a3⟩, a4⟩; exact ⟨a1, by omega, by omega, by omega⟩
      · rintro ⟨a1, a2, a3, a4⟩; exact ⟨a1, ⟨by omega, by omega⟩, by omega⟩
theorem guard_any (M : Nat → Prop) (w : World) (hM : ∀ b, M b → b < w.heap.size) (a : Ac) (col : ByteArray) (d : Nat) (ha : Ro w M (AcIn (d + 1) a)) (hn : a.wh.n ≤ 9223372036854775807) : Calls Try.prog 27 #[a.val, .string col] w fun r w' => r = .returned (.tuple #[.int .i64 (guardR (d + 1) a col).1, .int .i64 (guardR (d + 1) a col).2.1, .bool (guardR (d + 1) a col).2.2]) ∧ Below w.heap.size w w' := by
  match hl : a.wh.l with
  | [] =>
    have h0 : a.wh.n = 0 := by
      have h2 : ExsIn (d + 1) a.wh.A a.wh.n a.wh.l w := ha.now.2.2.2
      have := h2.len
      rw [hl] at this
      exact this.symm
    have hr : guardR (d + 1) a col = (0, 0, false) := by simp [guardR, guardA, hl]
    rw [hr]
    exact guard0_any w a col h0
  | x :: l => exact guard1_any M w hM a col d ha hn x l hl
set_option maxRecDepth 100000 in
set_option maxHeartbeats 4000000 in
theorem own_any (M : Nat → Prop) (w : World) (hM : ∀ b, M b → b < w.heap.size) (t : Tg) (r : Rk) (d : Nat) (ht : Ro w M (AcsIn (d + 1) t.acts.A t.acts.n t.acts.l)) (hn : t.acts.n ≤ 9223372036854775807) (hok : ∀ a ∈ t.acts.l, a.sets.n ≤ 9223372036854775807 ∧ a.wh.n ≤ 9223372036854775807) : Calls Try.prog 13 #[t.val, r.val] w fun e w' => e = .returned (.bool (ownT (d + 1) t r)) ∧ Below w.heap.size w w' := by
  obtain ⟨tname, ttab, tbef, tev, ⟨cA, cn, cc, cl⟩, teach, ⟨pA, pn, pc, pl⟩, ⟨fA, fn, fc, fl⟩, ⟨kA, kn, kc, kl⟩, ⟨oA, on, oc, ol⟩, ⟨uA, un, uc, ul⟩⟩ := t
  obtain ⟨rtab, rcol, rlo, rhi⟩ := r
  simp only [Tg.val, Rk.val, ownT] at ht hn hok ⊢
  have HL := hid ht.now.len
  have HOK := hid hok
  have K0 := (((Hold.start M w hM).add (ht.less (by simp [Mut]))).alloc_cst #[.string tname, .string ttab, .bool tbef, .int .i64 tev, .slice cA cn cc, .bool teach, .slice pA pn pc, .slice fA fn fc, .slice kA kn kc, .slice oA on oc, .slice uA un uc] 28).alloc_cst #[.string rtab, .string rcol, .int .i64 rlo, .int .i64 rhi] 48
  simp only [World.size_alloc] at K0
  have F0 := K0.facts
  simp only [World.size_alloc, World.size_drew, factsL, cellsF, Nat.reduceAdd, List.toList_toArray, List.set_cons_zero, List.set_cons_succ, List.setIfInBounds_toArray, and_true, true_and] at F0
  clear ht hok
  go_enter Try.func13, Try.ntmps13
  go_wp2_with fail
  clear F0
  go_loopw [15] (fun i wr => ∃ k : Nat, k ≤ un ∧ i = .int .i64 k ∧ Hid (ul.all (ownAct (d + 1) ⟨rtab, rcol, rlo, rhi⟩) = (ul.drop k).all (ownAct (d + 1) ⟨rtab, rcol, rlo, rhi⟩)) ∧ Hold M none w wr [.cst (w.heap.size + 1) 48 #[.string rtab, .string rcol, .int .i64 rlo, .int .i64 rhi], .cst w.heap.size 28 #[.string tname, .string ttab, .bool tbef, .int .i64 tev, .slice cA cn cc, .bool teach, .slice pA pn pc, .slice fA fn fc, .slice kA kn kc, .slice oA on oc, .slice uA un uc], .ro (AcsIn (d + 1) uA un ul)]) (fun i _ => un - (intOf i).toNat)
  case atStart => exact ⟨0, by omega, rfl, hid rfl, K0⟩
  case round =>
    clear K0
    obtain ⟨k, hk, rfl, HF, H⟩ := hrel
    by_cases hlt : k < un
    · obtain ⟨⟨ak, atab, ⟨arA, arn, arc, arl⟩, ⟨aqA, aqn, aqc, aql⟩, ⟨asA, asn, asc, asl⟩, ⟨awA, awn, awc, awl⟩, atext⟩, hc⟩ := get_any HL.out hlt
      obtain ⟨b, o, rfl, hb, hcl, -⟩ := (H.ro 2 rfl).now.at_ hc
      have c0 := hcl 0 _ (by omega) rfl
      have c1 := hcl 1 _ (by omega) rfl
      have c2 := hcl 2 _ (by omega) rfl
      have c3 := hcl 3 _ (by omega) rfl
      have c4 := hcl 4 _ (by omega) rfl
      have c5 := hcl 5 _ (by omega) rfl
      have c6 := hcl 6 _ (by omega) rfl
      simp only [Nat.add_zero] at c0
      simp only [SlP.v] at c2 c3 c4 c5
      clear hcl
      have HC := hid hc; clear hc
      have HO := HOK.out _ (List.mem_of_getElem? HC.out)
      simp only at HO
      have K1 := (H.add (S := AcIn (d + 1) ⟨ak, atab, ⟨arA, arn, arc, arl⟩, ⟨aqA, aqn, aqc, aql⟩, ⟨asA, asn, asc, asl⟩, ⟨awA, awn, awc, awl⟩, atext⟩) ((H.ro 2 rfl).imp fun w2 h2 => h2.2 _ (List.mem_of_getElem? HC.out))).alloc_cst #[.int .i64 ak, .string atab, .slice arA arn arc, .slice aqA aqn aqc, .slice asA asn asc, .slice awA awn awc, .string atext] 43
      have F1 := K1.facts
      simp only [World.size_alloc, World.size_drew, factsL, cellsF, Nat.reduceAdd, List.toList_toArray, List.set_cons_zero, List.set_cons_succ, List.setIfInBounds_toArray, and_true, true_and] at F1
      by_cases h4 : ak = 4
      · have HW := hid (show ownAct (d + 1) ⟨rtab, rcol, rlo, rhi⟩ ⟨ak, atab, ⟨arA, arn, arc, arl⟩, ⟨aqA, aqn, aqc, aql⟩, ⟨asA, asn, asc, asl⟩, ⟨awA, awn, awc, awl⟩, atext⟩ = true by simp [ownAct, h4])
        subst h4
        go_wp2_with fail
        go_roundw
        case rel => exact ⟨k + 1, by omega, by go_num, hid (all_next HC.out HW.out HF.out), K1.drop (List.Sublist.cons _ (List.Sublist.cons _ (List.Sublist.refl _)))⟩
        case measure => simp [intOf]; omega
      · obtain ⟨⟨lk, lb⟩, h1⟩ : ∃ q, lowR ⟨ak, atab, ⟨arA, arn, arc, arl⟩, ⟨aqA, aqn, aqc, aql⟩, ⟨asA, asn, asc, asl⟩, ⟨awA, awn, awc, awl⟩, atext⟩ rcol = q := ⟨_, rfl⟩
        obtain ⟨⟨glo, ghi, gb⟩, h2⟩ : ∃ q, guardR (d + 1) ⟨ak, atab, ⟨arA, arn, arc, arl⟩, ⟨aqA, aqn, aqc, aql⟩, ⟨asA, asn, asc, asl⟩, ⟨awA, awn, awc, awl⟩, atext⟩ rcol = q := ⟨_, rfl⟩
        have HW := hid (ownAct_iff (r := ⟨rtab, rcol, rlo, rhi⟩) h1 h2 h4)
        have hc1 := lowers_any _ _ K1.mutLt ⟨ak, atab, ⟨arA, arn, arc, arl⟩, ⟨aqA, aqn, aqc, aql⟩, ⟨asA, asn, asc, asl⟩, ⟨awA, awn, awc, awl⟩, atext⟩ rcol d (K1.ro 1 rfl) HO.1
        rw [h1] at hc1
        have H2 := hid h2
        clear h1 h2
        go_wp2_with fail
        refine hc1.mono ?_
        rintro e w1 ⟨rfl, b1⟩
        have K2 := K1.call b1
        clear K1 F1 b1 c0 c1 c2 c3 c4 c5 c6
        have F2 := K2.facts
        simp only [World.size_alloc, World.size_drew, factsL, cellsF, Nat.reduceAdd, List.toList_toArray, List.set_cons_zero, List.set_cons_succ, List.setIfInBounds_toArray, and_true, true_and] at F2
        have hc2 := guard_any _ _ K2.mutLt ⟨ak, atab, ⟨arA, arn, arc, arl⟩, ⟨aqA, aqn, aqc, aql⟩, ⟨asA, asn, asc, asl⟩, ⟨awA, awn, awc, awl⟩, atext⟩ rcol d (K2.ro 1 rfl) HO.2
        rw [H2.out] at hc2
        go_wp2_with fail
        refine hc2.mono ?_
        rintro e w2 ⟨rfl, b2⟩
        have K3 := K2.call b2
        clear K2 F2 b2 H2 hc2 hc1
        have F3 := K3.facts
        simp only [World.size_alloc, World.size_drew, factsL, cellsF, Nat.reduceAdd, List.toList_toArray, List.set_cons_zero, List.set_cons_succ, List.setIfInBounds_toArray, and_true, true_and] at F3
        go_wp2_with fail
        all_goals clear F3
        all_goals first
          | (refine ⟨⟨k + 1, by omega, by go_num, hid (all_next HC.out (HW.out.2 ⟨by assumption, by assumption, by omega, by assumption, by omega, by omega⟩) HF.out), K3.drop (List.Sublist.cons _ (List.Sublist.cons _ (List.Sublist.refl _)))⟩, by simp [intOf]; omega⟩)
          | (go_ret; exact ⟨by rw [all_here HC.out (Bool.eq_false_iff.2 fun hw => by obtain ⟨q1, q2, q3, q4, q5, q6⟩ := HW.out.1 hw; first | contradiction | omega)] <;> rfl, K3.below⟩)
    · have F := H.facts
      simp only [World.size_alloc, World.size_drew, factsL, cellsF, Nat.reduceAdd, List.toList_toArray, List.set_cons_zero, List.set_cons_succ, List.setIfInBounds_toArray, and_true, true_and] at F
      have hks : k = un := by omega
      go_wp2_with fail
      go_ret
      exact ⟨by rw [HF.out, List.drop_eq_nil_of_le (by rw [HL.out]; omega)] <;> rfl, H.below⟩
end Go.Proofs.Ytkpbnlbhfhkhcaa

namespace Go.Proofs
open Go.Shelf
def Try.sortStr_ren : Go.Shelf.Ren := ⟨fun | 6 => 43 | 8 => 49 | 9 => 48 | 19 => 60 | 20 => 61 | 21 => 51 | 22 => 52 | 23 => 53 | 24 => 54 | 25 => 55 | 26 => 56 | 27 => 57 | 28 => 58 | 29 => 59 | 36 => 62 | 31 => 63 | 32 => 64 | 37 => 65 | 38 => 66 | 39 => 67 | 41 => 68 | n => n, fun | 27 => 23 | 29 => 9 | 3 => 3 | 32 => 106 | 26 => 23 | 0 => 0 | 44 => 117 | 46 => 59 | 4 => 4 | 36 => 110 | 35 => 109 | 41 => 87 | 5 => 5 | 9 => 9 | 53 => 121 | 57 => 125 | 63 => 128 | 64 => 129 | n => n, fun | n => n⟩
theorem Try.sortStr : Go.Proofs.SlLaysM.n6 Try.prog Try.sortStr_ren := {
  mixed := by kernel_rfl
  f6 := ⟨Try.f43.name, by decide, Try.func43.trans (congrArg some (by kernel_rfl))⟩
  f8 := Try.func49.trans (congrArg some (by kernel_rfl))
  f9 := ⟨Try.f48.name, by decide, Try.func48.trans (congrArg some (by kernel_rfl))⟩
  f19 := Try.func60.trans (congrArg some (by kernel_rfl))
  f20 := Try.func61.trans (congrArg some (by kernel_rfl))
  f21 := ⟨Try.f51.name, by decide, Try.func51.trans (congrArg some (by kernel_rfl))⟩
  f22 := ⟨Try.f52.name, by decide, Try.func52.trans (congrArg some (by kernel_rfl))⟩
  f23 := ⟨Try.f53.name, by decide, Try.func53.trans (congrArg some (by kernel_rfl))⟩
  f24 := ⟨Try.f54.name, by decide, Try.func54.trans (congrArg some (by kernel_rfl))⟩
  f25 := ⟨Try.f55.name, by decide, Try.func55.trans (congrArg some (by kernel_rfl))⟩
  f26 := ⟨Try.f56.name, by decide, Try.func56.trans (congrArg some (by kernel_rfl))⟩
  f27 := ⟨Try.f57.name, by decide, Try.func57.trans (congrArg some (by kernel_rfl))⟩
  f28 := ⟨Try.f58.name, by decide, Try.func58.trans (congrArg some (by kernel_rfl))⟩
  f29 := ⟨Try.f59.name, by decide, Try.func59.trans (congrArg some (by kernel_rfl))⟩
  f31 := Try.func63.trans (congrArg some (by kernel_rfl))
  f32 := Try.func64.trans (congrArg some (by kernel_rfl))
  f36 := ⟨Try.f62.name, by decide, Try.func62.trans (congrArg some (by kernel_rfl))⟩
  f37 := ⟨Try.f65.name, by decide, Try.func65.trans (congrArg some (by kernel_rfl))⟩
  f38 := ⟨Try.f66.name, by decide, Try.func66.trans (congrArg some (by kernel_rfl))⟩
  f39 := ⟨Try.f67.name, by decide, Try.func67.trans (congrArg some (by kernel_rfl))⟩
  f41 := ⟨Try.f68.name, by decide, Try.func68.trans (congrArg some (by kernel_rfl))⟩
  t0 := Try.underlying0
  a0 := Try.isAgg0
  z0 := Try.sizeOf0
  v0 := Try.zeroValue0
  t3 := Try.underlying3
  a3 := Try.isAgg3
  z3 := Try.sizeOf3
  v3 := Try.zeroValue3
  t4 := Try.underlying4
  a4 := Try.isAgg4
  z4 := Try.sizeOf4
  v4 := Try.zeroValue4
  t5 := Try.underlying5
  a5 := Try.isAgg5
  z5 := Try.sizeOf5
  v5 := Try.zeroValue5
  t9 := Try.underlying9
  a9 := Try.isAgg9
  z9 := Try.sizeOf9
  v9 := Try.zeroValue9
  t26 := Try.underlying23
  a26 := Try.isAgg23
  z26 := Try.sizeOf23
  v26 := Try.zeroValue23
  t27 := Try.underlying23
  a27 := Try.isAgg23
  z27 := Try.sizeOf23
  v27 := Try.zeroValue23
  t29 := Try.underlying9
  a29 := Try.isAgg9
  z29 := Try.sizeOf9
  v29 := Try.zeroValue9
  t32 := Try.underlying106
  a32 := Try.isAgg106
  z32 := Try.sizeOf106
  v32 := Try.zeroValue106
  t35 := Try.underlying109
  a35 := Try.isAgg109
  z35 := Try.sizeOf109
  v35 := Try.zeroValue109
  t36 := Try.underlying110
  a36 := Try.isAgg110
  z36 := Try.sizeOf110
  v36 := Try.zeroValue110
  t41 := Try.underlying87
  a41 := Try.isAgg87
  z41 := Try.sizeOf87
  v41 := Try.zeroValue87
  t44 := Try.underlying117
  a44 := Try.isAgg117
  z44 := Try.sizeOf117
  v44 := Try.zeroValue117
  t46 := Try.underlying59
  a46 := Try.isAgg59
  z46 := Try.sizeOf59
  v46 := Try.zeroValue59
  t53 := Try.underlying121
  a53 := Try.isAgg121
  z53 := Try.sizeOf121
  v53 := Try.zeroValue121
  t57 := Try.underlying125
  a57 := Try.isAgg125
  z57 := Try.sizeOf125
  v57 := Try.zeroValue125
  t63 := Try.underlying128
  a63 := Try.isAgg128
  z63 := Try.sizeOf128
  v63 := Try.zeroValue128
  t64 := Try.underlying129
  a64 := Try.isAgg129
  z64 := Try.sizeOf129
  v64 := Try.zeroValue129 }
def Try.compStr_ren : Go.Shelf.Ren := ⟨fun | 44 => 44 | n => n, fun | 25 => 23 | 26 => 9 | 3 => 3 | 4 => 4 | 0 => 0 | n => n, fun | n => n⟩
theorem Try.compStr : Go.Proofs.SlLaysN.n44 Try.prog Try.compStr_ren := {
  mixed := by kernel_rfl
  f44 := ⟨Try.f44.name, by decide, Try.func44.trans (congrArg some (by kernel_rfl))⟩
  t0 := Try.underlying0
  a0 := Try.isAgg0
  z0 := Try.sizeOf0
  v0 := Try.zeroValue0
  t3 := Try.underlying3
  a3 := Try.isAgg3
  z3 := Try.sizeOf3
  v3 := Try.zeroValue3
  t4 := Try.underlying4
  a4 := Try.isAgg4
  z4 := Try.sizeOf4
  v4 := Try.zeroValue4
  t25 := Try.underlying23
  a25 := Try.isAgg23
  z25 := Try.sizeOf23
  v25 := Try.zeroValue23
  t26 := Try.underlying9
  a26 := Try.isAgg9
  z26 := Try.sizeOf9
  v26 := Try.zeroValue9
  i26 := by kernel_rfl }
end Go.Proofs

namespace Go.Proofs.Ytkpbnlbhfhkhcaa
open Go.RowKit Go.Sort
set_option linter.unusedVariables false

/-- from w to w' nothing but draws and new blocks -/
def Gr (w w' : World) : Prop := ∃ (q : Nat) (os : Array Obj), w' = grow (w.drewN q) os
theorem Gr.refl (w : World) : Gr w w := ⟨0, #[], by rw [grow_empty]; rfl⟩
theorem Gr.trans {a b c : World} (h : Gr a b) (k : Gr b c) : Gr a c := by
  obtain ⟨q, os, rfl⟩ := h
  obtain ⟨q2, os2, rfl⟩ := k
  exact ⟨q + q2, os ++ os2, by show grow (grow ((a.drewN q).drewN q2) os) os2 = _; rw [grow_grow, World.drewN_drewN]⟩
theorem Gr.alloc (w : World) (o : Obj) : Gr w (w.alloc o) := ⟨0, #[o], by rw [alloc_eq_grow]; rfl⟩
theorem Gr.drew (w : World) : Gr w w.drew := ⟨1, #[], by rw [grow_empty]; rfl⟩
theorem Gr.drewN (w : World) (n : Nat) : Gr w (w.drewN n) := ⟨n, #[], by rw [grow_empty]⟩
theorem Gr.size {w w' : World} (h : Gr w w') : w.heap.size ≤ w'.heap.size := by
  obtain ⟨q, os, rfl⟩ := h
  rw [size_grow]
  exact Nat.le_add_right _ _
theorem Gr.block {w w' : World} (h : Gr w w') {k : Nat} (hk : k < w.heap.size) : w'.heap[k]? = w.heap[k]? := by
  obtain ⟨q, os, rfl⟩ := h
  exact heap_grow_old (w.drewN q) os hk
theorem Gr.below {w w' : World} (h : Gr w w') : Below w.heap.size w w' := by
  have h1 := h.size
  have h2 := fun k (hk : k < w.heap.size) => h.block hk
  obtain ⟨q, os, rfl⟩ := h
  exact ⟨rfl, rfl, rfl, h1, h2⟩
theorem Gr.ro {w w' : World} {M : Nat → Prop} {S : World → Prop} (h : Gr w w') (hs : Ro w M S) : Ro w' M S := hs.below h.below
end Go.Proofs.Ytkpbnlbhfhkhcaa

namespace Go.Proofs.Ytkpbnlbhfhkhcaa
open Go.RowKit Go.Sort
set_option linter.unusedVariables false
set_option linter.unusedSimpArgs false

theorem sortWd_heap {α : Type} [Inhabited α] (enc : α → Value) (w : World) (g m : Nat) (d : Array α) (os : Array Obj) {b : Nat} (hb : b < w.heap.size) (hne : b ≠ g) : (sortWorld enc w g 0 m d os).heap[b]? = w.heap[b]? := by
  show ((w.heap.modify g _) ++ os)[b]? = _
  rw [Array.getElem?_append, if_pos (by simpa using hb), Array.getElem?_modify, if_neg (fun e => hne e.symm)]
theorem sortWd_size {α : Type} [Inhabited α] (enc : α → Value) (w : World) (g m : Nat) (d : Array α) (os : Array Obj) : w.heap.size ≤ (sortWorld enc w g 0 m d os).heap.size := by
  show _ ≤ ((w.heap.modify g _) ++ os).size
  simp
theorem sortWd_at {α : Type} [Inhabited α] (enc : α → Value) (w : World) (g m : Nat) (d : Array α) (os : Array Obj) {cs : Array Value} {t : TypeId} (h : w.heap[g]? = some (.cells cs t (0, 0))) : (sortWorld enc w g 0 m d os).heap[g]? = some (.cells (Go.Sort.putCells enc 0 d cs) t (0, 0)) := by
  have hb : g < w.heap.size := (Array.getElem?_eq_some_iff.1 h).1
  show ((w.heap.modify g _) ++ os)[g]? = _
  rw [Array.getElem?_append, if_pos (by simpa using hb), Array.getElem?_modify, if_pos rfl, h]
  rfl
section
variable {α : Type} [Inhabited α] (enc : α → List Value) (k : Nat) (hk : ∀ x, (enc x).length = k)
include hk
end
end Go.Proofs.Ytkpbnlbhfhkhcaa

namespace Go.Proofs.Ytkpbnlbhfhkhcaa
open Go.RowKit
set_option linter.unusedVariables false
set_option linter.unusedSimpArgs false

structure Lk where
  a : ByteArray
  b : ByteArray
def Lk.cells (x : Lk) : List Value := [.string x.a, .string x.b]
def lkCells (l : List Lk) : List Value := l.flatMap Lk.cells
theorem lkCells_len (l : List Lk) : (lkCells l).length = l.length * 2 := flat_len _ 2 (fun _ => rfl) l
/-- The slice with address A and n elements reads as the links l. -/
def LksIn (A : Option Addr) (n : Nat) (l : List Lk) : World → Prop := SlR 2 A n (lkCells l)
theorem LksIn.len {w : World} {A : Option Addr} {n : Nat} {l : List Lk} (h : LksIn A n l w) : l.length = n := by
  have := (show Rd w w.heap.size 2 A n (lkCells l) from h).1
  rw [lkCells_len] at this
  omega
theorem LksIn.at_ {w : World} {A : Option Addr} {n : Nat} {l : List Lk} (h : LksIn A n l w) {k : Nat} {x : Lk} (hx : l[k]? = some x) :
    ∃ b o, A = some ⟨b, o, none⟩ ∧ b < w.heap.size ∧ w.cell? ⟨b, o + k * 2, none⟩ = some (.string x.a) ∧ w.cell? ⟨b, o + k * 2 + 1, none⟩ = some (.string x.b) := by
  have hk : k < n := by rw [← h.len]; exact (List.getElem?_eq_some_iff.1 hx).1
  obtain ⟨b, o, e, hb, hc⟩ := (show Rd w w.heap.size 2 A n (lkCells l) from h).2 (by omega)
  exact ⟨b, o, e, hb, hc _ _ (flat_get Lk.cells 2 (fun _ => rfl) l k 0 x (by omega) hx), hc _ _ (flat_get Lk.cells 2 (fun _ => rfl) l k 1 x (by omega) hx)⟩
end Go.Proofs.Ytkpbnlbhfhkhcaa

namespace Go.Proofs.Ytkpbnlbhfhkhcaa
open Go.RowKit
set_option linter.unusedVariables false
set_option linter.unusedSimpArgs false

def befB (x y : Lk) : Bool := Op.bytesLess x.a.toList y.a.toList || (x.a.toList == y.a.toList && Op.bytesLess x.b.toList y.b.toList)
def lkEq (x y : Lk) : Bool := x.a.toList == y.a.toList && x.b.toList == y.b.toList
def insStep (x : Lk) (s : List Lk × Bool) (y : Lk) : List Lk × Bool := ((if s.2 || befB y x then s.1 else s.1 ++ [x]) ++ (if lkEq y x then [] else [y]), s.2 || !befB y x)
def insS (x : Lk) (l : List Lk) (k : Nat) : List Lk × Bool := (l.take k).foldl (insStep x) ([], false)
def insL (x : Lk) (l : List Lk) : List Lk := if (insS x l l.length).2 then (insS x l l.length).1 else (insS x l l.length).1 ++ [x]
end Go.Proofs.Ytkpbnlbhfhkhcaa

namespace Go.Proofs.Ytkpbnlbhfhkhcaa
open Go.RowKit
set_option linter.unusedVariables false
set_option linter.unusedSimpArgs false

end Go.Proofs.Ytkpbnlbhfhkhcaa

namespace Go.Proofs.Ytkpbnlbhfhkhcaa
open Go.RowKit
set_option linter.unusedVariables false
set_option linter.unusedSimpArgs false

theorem less_irrefl : ∀ x : List UInt8, Op.bytesLess x x = false
  | [] => rfl
  | a :: x => by simp [Op.bytesLess, less_irrefl x]
theorem less_trans : ∀ x y z : List UInt8, Op.bytesLess x y = true → Op.bytesLess y z = true → Op.bytesLess x z = true
  | _, [], _ => by simp [Op.bytesLess]
  | [], b :: y, [] => by simp [Op.bytesLess]
  | [], b :: y, c :: z => by simp [Op.bytesLess]
  | a :: x, b :: y, [] => by simp [Op.bytesLess]
  | a :: x, b :: y, c :: z => by
    have ih := less_trans x y z
    simp only [Op.bytesLess, Bool.or_eq_true, Bool.and_eq_true, decide_eq_true_eq, beq_iff_eq]
    rintro (h1 | ⟨rfl, h1⟩) (h2 | ⟨rfl, h2⟩)
    · exact .inl (UInt8.lt_trans h1 h2)
    · exact .inl h1
    · exact .inl h2
    · exact .inr ⟨rfl, ih h1 h2⟩
theorem lless_tri : ∀ x y : List UInt8, x = y ∨ Op.bytesLess x y = true ∨ Op.bytesLess y x = true
  | [], [] => .inl rfl
  | [], b :: y => .inr (.inl rfl)
  | a :: x, [] => .inr (.inr rfl)
  | a :: x, b :: y => by
    simp only [Op.bytesLess, Bool.or_eq_true, Bool.and_eq_true, decide_eq_true_eq, beq_iff_eq, List.cons.injEq]
    rcases UInt8.lt_or_lt_of_ne (a := a) (b := b) |> fun h => Classical.em (a = b) with rfl | hne
    · rcases lless_tri x y with rfl | h | h
      · exact .inl ⟨rfl, rfl⟩
      · exact .inr (.inl (.inr ⟨rfl, h⟩))
      · exact .inr (.inr (.inr ⟨rfl, h⟩))
    · rcases UInt8.lt_or_lt_of_ne hne with h | h
      · exact .inr (.inl (.inl h))
      · exact .inr (.inr (.inl h))
theorem ba_ext {a b : ByteArray} (h : a.toList = b.toList) : a = b := Go.WideShapes.bytes_inj (by rw [← ByteArray.toList_eq, ← ByteArray.toList_eq]; exact h)
theorem ba_beq {a b : ByteArray} : (a.toList == b.toList) = true ↔ a = b := by
  rw [beq_iff_eq]; exact ⟨ba_ext, fun h => by rw [h]⟩
theorem lk_ext {x y : Lk} (h1 : x.a = y.a) (h2 : x.b = y.b) : x = y := by
  obtain ⟨a, b⟩ := x; obtain ⟨c, d⟩ := y; simp only at h1 h2; rw [h1, h2]
theorem lkEq_iff {x y : Lk} : lkEq x y = true ↔ x = y := by
  unfold lkEq
  rw [Bool.and_eq_true, ba_beq, ba_beq]
  exact ⟨fun h => lk_ext h.1 h.2, fun h => by rw [h]; exact ⟨rfl, rfl⟩⟩
theorem bef_irrefl (x : Lk) : befB x x = false := by simp [befB, less_irrefl]
theorem bef_trans {x y z : Lk} (h1 : befB x y = true) (h2 : befB y z = true) : befB x z = true := by
  simp only [befB, Bool.or_eq_true, Bool.and_eq_true, beq_iff_eq] at *
  rcases h1 with h1 | ⟨e1, h1⟩ <;> rcases h2 with h2 | ⟨e2, h2⟩
  · exact .inl (less_trans _ _ _ h1 h2)
  · exact .inl (e2 ▸ h1)
  · exact .inl (e1 ▸ h2)
  · exact .inr ⟨e1.trans e2, less_trans _ _ _ h1 h2⟩
theorem bef_tri (x y : Lk) : x = y ∨ befB x y = true ∨ befB y x = true := by
  simp only [befB, Bool.or_eq_true, Bool.and_eq_true, beq_iff_eq]
  rcases lless_tri x.a.toList y.a.toList with h | h | h
  · rcases lless_tri x.b.toList y.b.toList with h2 | h2 | h2
    · exact .inl (lk_ext (ba_ext h) (ba_ext h2))
    · exact .inr (.inl (.inr ⟨h, h2⟩))
    · exact .inr (.inr (.inr ⟨h.symm, h2⟩))
  · exact .inr (.inl (.inl h))
  · exact .inr (.inr (.inl h))
theorem bef_ne {x y : Lk} (h : befB x y = true) : x ≠ y := by rintro rfl; rw [bef_irrefl] at h; cases h

def LkSorted (l : List Lk) : Prop := l.Pairwise fun x y => befB x y = true
theorem LkSorted.nodup {l : List Lk} (h : LkSorted l) : l.Nodup := List.Pairwise.imp (fun h => bef_ne h) h

/-- insert, once more: what is still to be laid behind what is laid. -/
def insF (x : Lk) : Bool → List Lk → List Lk
  | d, [] => if d then [] else [x]
  | d, y :: l => (if d || befB y x then [] else [x]) ++ (if lkEq y x then [] else [y]) ++ insF x (d || !befB y x) l
theorem ins_fold (x : Lk) : ∀ (l : List Lk) (o : List Lk) (d : Bool), (let s := l.foldl (insStep x) (o, d); if s.2 then s.1 else s.1 ++ [x]) = o ++ insF x d l
  | [], o, d => by cases d <;> simp [insF]
  | y :: l, o, d => by
    have ih := ins_fold x l (insStep x (o, d) y).1 (insStep x (o, d) y).2
    refine Eq.trans ih ?_
    simp only [insStep, insF]
    cases d <;> cases befB y x <;> cases lkEq y x <;> simp
theorem insL_eq (x : Lk) (l : List Lk) : insL x l = insF x false l := by
  have h := ins_fold x l [] false
  simp only [List.nil_append] at h
  rw [← h]
  unfold insL insS
  rw [List.take_of_length_le (Nat.le_refl _)]
theorem insF_true (x : Lk) : ∀ l : List Lk, (∀ y ∈ l, y ≠ x) → insF x true l = l
  | [], _ => rfl
  | y :: l, h => by
    have hy : lkEq y x = false := by
      cases e : lkEq y x
      · rfl
      · exact absurd (lkEq_iff.1 e) (h y (List.mem_cons_self ..))
    simp [insF, hy, insF_true x l (fun z hz => h z (List.mem_cons_of_mem _ hz))]
theorem insF_cons {x y : Lk} {l : List Lk} (h : LkSorted (y :: l)) : insF x false (y :: l) = if befB y x then y :: insF x false l else if lkEq y x then y :: l else x :: y :: l := by
  obtain ⟨h1, h2⟩ := List.pairwise_cons.1 h
  cases hb : befB y x
  · have hn : ∀ z ∈ l, z ≠ x := fun z hz e => by
      subst e; rw [h1 z hz] at hb; cases hb
    cases he : lkEq y x
    · simp [insF, hb, he, insF_true x l hn]
    · obtain rfl := lkEq_iff.1 he
      simp [insF, hb, he, insF_true y l hn]
  · have he : lkEq y x = false := by
      cases e : lkEq y x
      · rfl
      · exact absurd (lkEq_iff.1 e) (bef_ne hb)
    simp [insF, hb, he]
theorem insF_mem {x z : Lk} : ∀ {l : List Lk}, LkSorted l → (z ∈ insF x false l ↔ z = x ∨ z ∈ l)
  | [], _ => by simp [insF]
  | y :: l, h => by
    have ih := insF_mem (x := x) (z := z) (List.pairwise_cons.1 h).2
    rw [insF_cons h]
    split
    · simp only [List.mem_cons, ih]
      constructor
      · rintro (h | h | h)
        · exact .inr (.inl h)
        · exact .inl h
        · exact .inr (.inr h)
      · rintro (h | h | h)
        · exact .inr (.inl h)
        · exact .inl h
        · exact .inr (.inr h)
    · split
      · rename_i _ he
        obtain rfl := lkEq_iff.1 he
        simp only [List.mem_cons]
        exact ⟨.inr, fun h => h.elim .inl id⟩
      · simp only [List.mem_cons]
theorem insF_sorted {x : Lk} : ∀ {l : List Lk}, LkSorted l → LkSorted (insF x false l)
  | [], _ => by simp [insF, LkSorted]
  | y :: l, h => by
    have ih := insF_sorted (x := x) (List.pairwise_cons.1 h).2
    rw [insF_cons h]
    obtain ⟨h1, h2⟩ := List.pairwise_cons.1 h
    split
    · rename_i hb
      refine List.pairwise_cons.2 ⟨fun z hz => ?_, ih⟩
      rcases (insF_mem h2).1 hz with rfl | hz
      · exact hb
      · exact h1 z hz
    · split
      · exact h
      · rename_i hb he
        have hxy : befB x y = true := by
          rcases bef_tri x y with rfl | h | h
          · exact absurd (lkEq_iff.2 rfl) he
          · exact h
          · exact absurd h hb
        refine List.pairwise_cons.2 ⟨fun z hz => ?_, h⟩
        rcases List.mem_cons.1 hz with rfl | hz
        · exact hxy
        · exact bef_trans hxy (h1 z hz)
theorem insL_mem {x z : Lk} {l : List Lk} (h : LkSorted l) : z ∈ insL x l ↔ z = x ∨ z ∈ l := by rw [insL_eq]; exact insF_mem h
theorem insL_sorted {x : Lk} {l : List Lk} (h : LkSorted l) : LkSorted (insL x l) := by rw [insL_eq]; exact insF_sorted h

/-- A list without repeats within another one is no longer than it. -/
theorem nodup_len {α : Type} : ∀ {l u : List α}, l.Nodup → (∀ x ∈ l, x ∈ u) → l.length ≤ u.length
  | [], u, _, _ => Nat.zero_le _
  | x :: l, u, h, hs => by
    obtain ⟨h1, h2⟩ := List.nodup_cons.1 h
    obtain ⟨p, q, rfl⟩ := List.append_of_mem (hs x (List.mem_cons_self ..))
    have := nodup_len (u := p ++ q) h2 fun z hz => by
      have hz' := hs z (List.mem_cons_of_mem _ hz)
      simp only [List.mem_append, List.mem_cons] at hz' ⊢
      rcases hz' with h | rfl | h
      · exact .inl h
      · exact absurd hz h1
      · exact .inr h
    simp only [List.length_append, List.length_cons] at this ⊢
    omega
/-- all links of some names -/
def lkAll (ns : List ByteArray) : List Lk := ns.flatMap fun a => ns.map fun b => ⟨a, b⟩
theorem lkAll_len (ns : List ByteArray) : (lkAll ns).length = ns.length * ns.length := flat_len _ _ (fun _ => by simp) ns
def NamesIn (ns : List ByteArray) (l : List Lk) : Prop := ∀ z ∈ l, z.a ∈ ns ∧ z.b ∈ ns
theorem NamesIn.len {ns : List ByteArray} {l : List Lk} (h : NamesIn ns l) (hs : LkSorted l) : l.length ≤ ns.length * ns.length := by
  rw [← lkAll_len]
  refine nodup_len hs.nodup fun x hx => ?_
  obtain ⟨h1, h2⟩ := h x hx
  exact List.mem_flatMap.2 ⟨x.a, h1, List.mem_map.2 ⟨x.b, h2, rfl⟩⟩

/-- What follows from links. -/
inductive Tr (l : List Lk) : ByteArray → ByteArray → Prop
  | one {a b : ByteArray} : (⟨a, b⟩ : Lk) ∈ l → Tr l a b
  | step {a b c : ByteArray} : Tr l a b → Tr l b c → Tr l a c
theorem Tr.mono {l l' : List Lk} (h : ∀ z ∈ l, Tr l' z.a z.b) {a b : ByteArray} (ht : Tr l a b) : Tr l' a b := by
  induction ht with
  | one hm => exact h _ hm
  | step _ _ h1 h2 => exact .step h1 h2
theorem Tr.names {ns : List ByteArray} {l : List Lk} (h : NamesIn ns l) {a b : ByteArray} (ht : Tr l a b) : a ∈ ns ∧ b ∈ ns := by
  induction ht with
  | one hm => exact h _ hm
  | step _ _ h1 h2 => exact ⟨h1.1, h2.2⟩
/-- between l and what follows from it -/
def Mid (l o : List Lk) : Prop := LkSorted o ∧ (∀ z ∈ l, z ∈ o) ∧ ∀ z ∈ o, Tr l z.a z.b
theorem Mid.ins {l o : List Lk} (h : Mid l o) {x y : Lk} (hx : x ∈ l) (hy : y ∈ l) (he : x.b = y.a) : Mid l (insL ⟨x.a, y.b⟩ o) := by
  refine ⟨insL_sorted h.1, fun z hz => (insL_mem h.1).2 (.inr (h.2.1 z hz)), fun z hz => ?_⟩
  rcases (insL_mem h.1).1 hz with rfl | hz
  · exact .step (b := x.b) (.one hx) (by rw [he]; exact .one hy)
  · exact h.2.2 z hz
theorem Mid.names {ns : List ByteArray} {l o : List Lk} (h : Mid l o) (hn : NamesIn ns l) : NamesIn ns o := fun z hz => Tr.names hn (h.2.2 z hz)
/-- the compositions of x with the first j links are there -/
def Done1 (l o : List Lk) (x : Lk) (j : Nat) : Prop := ∀ y ∈ l.take j, x.b = y.a → (⟨x.a, y.b⟩ : Lk) ∈ o
def DoneN (l o : List Lk) (i : Nat) : Prop := ∀ x ∈ l.take i, Done1 l o x l.length
theorem mem_take_succ {α : Type} {l : List α} {k : Nat} {x y : α} (hx : l[k]? = some x) (h : y ∈ l.take (k + 1)) : y = x ∨ y ∈ l.take k := by
  obtain ⟨hk, rfl⟩ := List.getElem?_eq_some_iff.1 hx
  rw [List.take_succ_eq_append_getElem hk] at h
  rcases List.mem_append.1 h with h | h
  · exact .inr h
  · exact .inl (by simpa using h)
theorem Done1.succ {l o : List Lk} {x y : Lk} {j : Nat} (h : Done1 l o x j) (hy : l[j]? = some y) (hd : x.b = y.a → (⟨x.a, y.b⟩ : Lk) ∈ o) : Done1 l o x (j + 1) := fun z hz he => by
  rcases mem_take_succ hy hz with rfl | hz
  · exact hd he
  · exact h z hz he
theorem Done1.more {l o o' : List Lk} {x : Lk} {j : Nat} (h : Done1 l o x j) (hs : ∀ z ∈ o, z ∈ o') : Done1 l o' x j := fun z hz he => hs _ (h z hz he)
theorem DoneN.more {l o o' : List Lk} {i : Nat} (h : DoneN l o i) (hs : ∀ z ∈ o, z ∈ o') : DoneN l o' i := fun x hx => (h x hx).more hs
theorem DoneN.succ {l o : List Lk} {i : Nat} {x : Lk} (h : DoneN l o i) (hx : l[i]? = some x) (h1 : Done1 l o x l.length) : DoneN l o (i + 1) := fun z hz => by
  rcases mem_take_succ hx hz with rfl | hz
  · exact h1
  · exact h z hz
theorem Mid.len {l o : List Lk} (h : Mid l o) (hl : LkSorted l) : l.length ≤ o.length := nodup_len hl.nodup h.2.1
theorem Mid.trans {l0 l o : List Lk} (h : Mid l0 l) (k : Mid l o) : Mid l0 o := ⟨k.1, fun z hz => k.2.1 z (h.2.1 z hz), fun z hz => Tr.mono h.2.2 (k.2.2 z hz)⟩
end Go.Proofs.Ytkpbnlbhfhkhcaa

namespace Go.Proofs.Ytkpbnlbhfhkhcaa
open Go.RowKit
set_option linter.unusedVariables false
set_option linter.unusedSimpArgs false

end Go.Proofs.Ytkpbnlbhfhkhcaa

namespace Go.Proofs.Ytkpbnlbhfhkhcaa
open Go.RowKit
set_option linter.unusedVariables false
set_option linter.unusedSimpArgs false

/-- A list of strings in memory. -/
def strsCells (l : List ByteArray) : List Value := l.map .string
def StrsIn (A : Option Addr) (n : Nat) (l : List ByteArray) : World → Prop := SlR 1 A n (strsCells l)
theorem StrsIn.len {w : World} {A : Option Addr} {n : Nat} {l : List ByteArray} (h : StrsIn A n l w) : l.length = n := by
  have := (show Rd w w.heap.size 1 A n (strsCells l) from h).1
  simpa [strsCells] using this
theorem StrsIn.at_ {w : World} {A : Option Addr} {n : Nat} {l : List ByteArray} (h : StrsIn A n l w) {k : Nat} {x : ByteArray} (hx : l[k]? = some x) :
    ∃ b o, A = some ⟨b, o, none⟩ ∧ b < w.heap.size ∧ w.cell? ⟨b, o + k, none⟩ = some (.string x) := by
  have hk : k < n := by rw [← h.len]; exact (List.getElem?_eq_some_iff.1 hx).1
  obtain ⟨b, o, e, hb, hc⟩ := (show Rd w w.heap.size 1 A n (strsCells l) from h).2 (by omega)
  exact ⟨b, o, e, hb, hc k _ (by simp [strsCells, hx])⟩
end Go.Proofs.Ytkpbnlbhfhkhcaa

namespace Go.Proofs.Ytkpbnlbhfhkhcaa
open Go.RowKit Go.Sort
set_option linter.unusedVariables false
set_option linter.unusedSimpArgs false

/-- an own row of one-cell elements behind the sort -/
theorem own_sort1 {α : Type} [Inhabited α] (enc : α → Value) {w : World} {base : Nat} {e : TypeId} {g q cap : Nat} {xs : List Value} (ho : w.ownsRow base e 1 (.slice (some ⟨g, 0, none⟩) q cap) q xs) {d' : Array α} (hs : d'.size = q) (m : Nat) (os : Array Obj) : (sortWorld enc w g 0 m d' os).ownsRow base e 1 (.slice (some ⟨g, 0, none⟩) q cap) q (d'.toList.map enc) := by
  have hl : (d'.toList.map enc).length = q * 1 := by simp [hs]
  obtain ⟨hlen2, ⟨hv0, _⟩ | ⟨g', cap', cur, hveq, hbase, hcell, hqc, hcm, hcs, htk⟩⟩ := ho
  · cases hv0
  · injection hveq with e1 e2 e3
    injection e1 with e1
    injection e1 with e1
    subst e1; subst e3
    refine ⟨hl, .inr ⟨g, cap, _, rfl, hbase, sortWd_at enc w g m d' os hcell, hqc, hcm, ?_, ?_⟩⟩
    · rw [← hcs]
      show (cur.mapIdx _).size = _
      simp
    · refine List.ext_getElem? fun j => ?_
      by_cases hj : j < q
      · have hj2 : j < d'.size := by omega
        have hr : (d'.toList.map enc)[j]? = some (enc d'[j]!) := by
          rw [List.getElem?_map, Array.getElem?_toList, Array.getElem?_eq_getElem hj2, getElem!_pos d' j hj2]; rfl
        rw [List.getElem?_take, if_pos (by omega), hr]
        have hjc : j < cur.size := by rw [hcs]; omega
        show ((cur.mapIdx fun i x => if 0 ≤ i ∧ i < 0 + d'.size then enc d'[i - 0]! else x).toList)[j]? = _
        rw [Array.getElem?_toList, Array.getElem?_mapIdx, Array.getElem?_eq_getElem hjc]
        simp only [Option.map_some, Nat.zero_add, Nat.sub_zero, Nat.zero_le, true_and]
        rw [if_pos hj2]
      · rw [List.getElem?_eq_none (by rw [List.length_take]; omega), List.getElem?_eq_none (by rw [hl]; omega)]
theorem Hold.sort1 {α : Type} [Inhabited α] (enc : α → Value) {M : Nat → Prop} {row : Option Nat} {w0 w : World} {L : List Hp} (K : Hold M row w0 w L) (i : Nat) {e : TypeId} {g q cap : Nat} {xs : List Value} (hi : L[i]? = some (.own e 1 (.slice (some ⟨g, 0, none⟩) q cap) q xs)) {d' : Array α} (hs : d'.size = q) (m : Nat) (os : Array Obj) : Hold M row w0 (sortWorld enc w g 0 m d' os) (L.set i (.own e 1 (.slice (some ⟨g, 0, none⟩) q cap) q (d'.toList.map enc))) := by
  have hg : g < w.heap.size := (K.fresh _ (List.mem_of_getElem? hi) g rfl).2
  exact K.append (w' := sortWorld enc w g 0 m d' os) i hi (own_sort1 enc (K.get i hi) hs m os) ⟨rfl, rfl, rfl, sortWd_size enc w g m d' os, fun b hb hne => sortWd_heap enc w g m d' os hb fun e => hne (by rw [e]; rfl)⟩ (.inl rfl) (Nat.lt_of_lt_of_le hg (sortWd_size enc w g m d' os))
def bytesOf (s : ByteArray) : List UInt8 := s.data.toList
def strOf (z : List UInt8) : ByteArray := ⟨z.toArray⟩
theorem strOf_bytesOf (s : ByteArray) : strOf (bytesOf s) = s := by simp [strOf, bytesOf]
theorem strs_enc (ss : List ByteArray) : (ss.map bytesOf).map encStr = strsCells ss := by
  unfold strsCells
  rw [List.map_map]
  refine List.map_congr_left fun s _ => ?_
  show Value.string (strOf (bytesOf s)) = _
  rw [strOf_bytesOf]
theorem enc_strs (zs : List (List UInt8)) : zs.map encStr = strsCells (zs.map strOf) := by
  unfold strsCells
  rw [List.map_map]; rfl
theorem strs_back (ss : List ByteArray) : (ss.map bytesOf).map strOf = ss := by
  rw [List.map_map]
  conv => rhs; rw [← List.map_id ss]
  exact List.map_congr_left fun s _ => strOf_bytesOf s
theorem holds_strs {w : World} {base : Nat} {e : TypeId} {g q cap : Nat} {ss : List ByteArray} (ho : w.ownsRow base e 1 (.slice (some ⟨g, 0, none⟩) q cap) q (strsCells ss)) : Holds encStr w g 0 (ss.map bytesOf).toArray := fun j hj => by
  have hl : ss.length = q := by have := ho.1; simpa [strsCells] using this
  have hj2 : j < q := by simpa [hl] using hj
  rw [Nat.zero_add]
  refine ⟨(ho.cellAt j (by omega)).trans ?_, ho.frozenAt j⟩
  have hx : (ss.map bytesOf).toArray[j]! = (ss.map bytesOf)[j]'(by simpa using hj) := by rw [getElem!_pos (ss.map bytesOf).toArray j hj]; simp
  rw [← strs_enc, List.getElem?_map, hx, List.getElem?_eq_getElem (by simpa using hj)]
  rfl
theorem sortstr_any {M : Nat → Prop} {row : Option Nat} {w0 w : World} {L : List Hp} (K : Hold M row w0 w L) (i : Nat) {e : TypeId} {g q cap : Nat} {ss : List ByteArray} (hi : L[i]? = some (.own e 1 (.slice (some ⟨g, 0, none⟩) q cap) q (strsCells ss))) (hq : q < 4611686018427387904) :
    Calls Try.prog 43 #[.slice (some ⟨g, 0, none⟩) q cap] w fun e' w' => e' = .returned (.tuple #[]) ∧ ∃ ss' : List ByteArray, ss'.Perm ss ∧ Hold M row w0 w' (L.set i (.own e 1 (.slice (some ⟨g, 0, none⟩) q cap) q (strsCells ss'))) := by
  have ho := K.get i hi
  have hg : g < w.heap.size := (K.fresh _ (List.mem_of_getElem? hi) g rfl).2
  have hl : ss.length = q := by have := ho.1; simpa [strsCells] using this
  have hc := AnyM.slices_Sort_string Try.sortStr g 0 cap (ss.map bytesOf) w (holds_strs ho) hg (by rw [List.length_map, hl]; exact hq)
  rw [List.length_map, hl] at hc
  refine Calls.mono (show Calls Try.prog 43 _ w _ from hc) ?_
  rintro e' w' ⟨rfl, n, os, rfl⟩
  refine ⟨rfl, ((ss.map bytesOf).mergeSort fun x y => decide (x ≤ y)).map strOf, ?_, ?_⟩
  · have := (List.mergeSort_perm (ss.map bytesOf) fun x y => decide (x ≤ y)).map strOf
    rwa [strs_back] at this
  · rw [← enc_strs]
    exact K.sort1 encStr i hi (d' := ((ss.map bytesOf).mergeSort fun x y => decide (x ≤ y)).toArray) (by simp [hl]) n os
theorem compact_has {α : Type} [Inhabited α] [DecidableEq α] (d : Array α) (m : Nat) : ∀ j, j < m → d[j]! ∈ Lib.compactUpTo d m
  | 0, h => List.mem_map.2 ⟨0, List.mem_filter.2 ⟨List.mem_range.2 h, by simp [Lib.keeps]⟩, rfl⟩
  | j + 1, h => by
    by_cases hk : Lib.keeps d (j + 1) = true
    · exact List.mem_map.2 ⟨j + 1, List.mem_filter.2 ⟨List.mem_range.2 h, hk⟩, rfl⟩
    · have he : d[j + 1]! = d[j]! := by simpa [Lib.keeps] using hk
      rw [he]
      exact compact_has d m j (by omega)
theorem compact_mem {α : Type} [Inhabited α] [DecidableEq α] (zs : List α) (z : α) : z ∈ Lib.compact zs ↔ z ∈ zs := by
  constructor
  · intro h
    obtain ⟨j, hj, rfl⟩ := List.mem_map.1 h
    have hj2 := List.mem_range.1 (List.mem_filter.1 hj).1
    rw [getElem!_pos _ _ (by simpa using hj2)]
    simp
  · intro h
    obtain ⟨j, hj, rfl⟩ := List.getElem_of_mem h
    have := compact_has zs.toArray zs.length j hj
    rwa [getElem!_pos _ _ (by simpa using hj)] at this
theorem compstr_any {M : Nat → Prop} {row : Option Nat} {w0 w : World} {L : List Hp} (K : Hold M row w0 w L) (i : Nat) {e : TypeId} {g q cap : Nat} {ss : List ByteArray} (hi : L[i]? = some (.own e 1 (.slice (some ⟨g, 0, none⟩) q cap) q (strsCells ss))) (hq : q ≤ 9223372036854775807) :
    Calls Try.prog 44 #[.slice (some ⟨g, 0, none⟩) q cap] w fun e' w' => ∃ (q' : Nat) (ss' : List ByteArray), e' = .returned (.slice (some ⟨g, 0, none⟩) q' cap) ∧ q' ≤ q ∧ (∀ s, s ∈ ss' ↔ s ∈ ss) ∧ Hold M row w0 w' (L.set i (.own e 1 (.slice (some ⟨g, 0, none⟩) q' cap) q' (strsCells ss'))) := by
  have ho := K.get i hi
  have hl : ss.length = q := by have := ho.1; simpa [strsCells] using this
  have hcap := own_caps ho
  have hc := AnyG.slices_Compact_string Try.compStr g 0 cap (ss.map bytesOf) w (holds_strs ho) (by rw [List.length_map, hl]; exact hq) (by rw [List.length_map, hl]; exact hcap.1)
  rw [List.length_map, hl] at hc
  refine Calls.mono (show Calls Try.prog 44 _ w _ from hc) ?_
  rintro e' w' ⟨rfl, n, rfl⟩
  have hle : (Lib.compact (ss.map bytesOf)).length ≤ q := by
    have h1 : (Lib.compact (ss.map bytesOf)).length ≤ (ss.map bytesOf).length := by
      unfold Lib.compact Lib.compactUpTo
      rw [List.length_map]
      exact Nat.le_trans (List.length_filter_le _ _) (by simp)
    rwa [List.length_map, hl] at h1
  refine ⟨_, (Lib.compact (ss.map bytesOf)).map strOf, rfl, hle, fun s => ?_, ?_⟩
  · rw [List.mem_map]
    constructor
    · rintro ⟨z, hz, rfl⟩
      obtain ⟨x, hx, rfl⟩ := List.mem_map.1 ((compact_mem _ _).1 hz)
      rwa [strOf_bytesOf]
    · intro hs
      exact ⟨bytesOf s, (compact_mem _ _).2 (List.mem_map_of_mem hs), strOf_bytesOf s⟩
  · have K1 := K.sort1 encStr i hi (d' := (Lib.compact (ss.map bytesOf) ++ List.replicate (q - (Lib.compact (ss.map bytesOf)).length) []).toArray) (by simp; omega) n #[]
    have hi2 : (L.set i (.own e 1 (.slice (some ⟨g, 0, none⟩) q cap) q ((Lib.compact (ss.map bytesOf) ++ List.replicate (q - (Lib.compact (ss.map bytesOf)).length) []).toArray.toList.map encStr)))[i]? = some (.own e 1 (.slice (some ⟨g, 0, none⟩) q cap) q ((Lib.compact (ss.map bytesOf) ++ List.replicate (q - (Lib.compact (ss.map bytesOf)).length) []).toArray.toList.map encStr)) := List.getElem?_set_self (List.getElem?_eq_some_iff.1 hi).1
    have K2 := K1.cutRow i (n := (Lib.compact (ss.map bytesOf)).length) hi2 hle
    rw [List.set_set, List.map_append, Nat.mul_one, List.take_left' (by simp), enc_strs] at K2
    have e : sortWorld encStr w g 0 n (Lib.compact (ss.map bytesOf) ++ List.replicate (q - (Lib.compact (ss.map bytesOf)).length) []).toArray #[] = putRow encStr (Sort.ahead w n) g 0 (Lib.compact (ss.map bytesOf) ++ List.replicate (q - (Lib.compact (ss.map bytesOf)).length) []).toArray := grow_empty _
    rw [e] at K2
    exact K2
end Go.Proofs.Ytkpbnlbhfhkhcaa

namespace Go.Proofs.Ytkpbnlbhfhkhcaa
open Go.RowKit Go.Maps
set_option linter.unusedVariables false

/-- Keys of one type, said by plain data. -/
structure KeyFam (P : Program) (k : TypeId) (κ : Type) where
  val : κ → Value
  ok : κ → Prop
  key : ∀ x, ok x → ∃ kl, keyOf P k (val x) = some kl
  inj : ∀ x y, val x = val y → x = y
/-- The map's type: key, element, its laws. -/
structure SetT (P : Program) (t k e : TypeId) : Prop where
  ht : P.underlying t = some (.map k e)
  he : P.underlying e = some .bool
  hz : ∀ w : World, (zeroValue e).run P w = .ok (.bool false) w
  law : Keyed P k
/-- Block b is a map that says true at the keys of S, and at no other. -/
def MSet {P : Program} {k : TypeId} {κ : Type} (e : TypeId) (F : KeyFam P k κ) (b n : Nat) (S : κ → Prop) (w : World) : Prop :=
  ∃ D : DataW Unit, w.ownsMap P k (plainElem P e) b n D ∧ ∀ x, F.ok x → ∀ kl, keyOf P k (F.val x) = some kl → ∃ c : Bool, D.atKey kl (.lit (.bool false)) = .lit (.bool c) ∧ (c = true ↔ S x)
section
variable {P : Program} {t k e : TypeId} {κ : Type} {F : KeyFam P k κ} {b n : Nat} {S : κ → Prop} {w w' : World}
theorem MSet.made (e : TypeId) (F : KeyFam P k κ) (w : World) (h : w.heap[b]? = some (.map #[] 0)) : MSet e F b 0 (fun _ => False) w := by
  have h0 := World.ownsMap_made w P k (plainElem (H := Unit) P e)
  obtain ⟨es, clock, h1, h2⟩ := h0
  have h3 : (w.alloc (.map #[] 0)).heap[w.heap.size]? = some (.map #[] 0) := heap_alloc_new w _
  rw [h3] at h1
  injection h1 with h1
  injection h1 with h4 h5
  subst h4 h5
  refine ⟨.map [], ⟨#[], 0, h, h2⟩, fun x _ kl _ => ⟨false, rfl, by simp⟩⟩
theorem plainElem_bool_inv {H : Type} (he : P.underlying e = some .bool) {v : Value} {z : DataW H × List MemPlace} (h : plainElem P e v = some z) : ∃ c, v = .bool c ∧ z = (.lit (.bool c), []) := by
  unfold plainElem at h
  rw [he] at h
  cases v <;> simp at h
  subst h
  exact ⟨_, rfl, rfl⟩
/-- m[x] -/
theorem MSet.look (T : SetT P t k e) (h : MSet e F b n S w) {x : κ} (hx : F.ok x) : ∃ c : Bool, (Instr.lookup t (.map (some b)) (F.val x) false).run P w = .ok (.bool c) w ∧ (c = true ↔ S x) := by
  obtain ⟨D, h1, h2⟩ := h
  obtain ⟨kl, hk⟩ := F.key x hx
  obtain ⟨c, h3, h4⟩ := h2 x hx kl hk
  obtain ⟨v, ps, hrun, hv⟩ := h1.lookup T.law T.ht (T.hz w) (plainElem_bool T.he false) hk
  obtain ⟨c', rfl, h5⟩ := plainElem_bool_inv T.he hv
  rw [h3] at h5
  injection h5 with h5
  injection h5 with h5
  injection h5 with h5
  subst h5
  exact ⟨c, hrun, h4⟩
/-- m[x] = true -/
theorem MSet.put (T : SetT P t k e) (h : MSet e F b n S w) {x : κ} (hx : F.ok x) (hn : n < maxLen) : ∃ w', (Instr.mapUpdate t (.map (some b)) (F.val x) (.bool true)).run P w = .ok () w' ∧ MSet e F b (n + 1) (fun y => y = x ∨ S y) w' ∧ w.grownBy w' (some b) := by
  obtain ⟨D, h1, h2⟩ := h
  obtain ⟨kl, hk⟩ := F.key x hx
  obtain ⟨w', hrun, h3, h4⟩ := h1.update T.law T.ht hn hk (plainElem_bool T.he true)
  refine ⟨w', hrun, ⟨_, h3, fun y hy kl' hk' => ?_⟩, h4⟩
  by_cases hxy : y = x
  · subst hxy
    rw [hk] at hk'
    injection hk' with hk'
    subst hk'
    refine ⟨true, ?_, by simp⟩
    have hD : IsMap D := by
      obtain ⟨es, clock, _, _, _, rfl⟩ := h1
      exact ⟨_, rfl⟩
    rw [atKey_put_same hD (T.law.key hk)]
  · have hne : kl' ≠ kl := fun e => by
      subst e
      exact hxy (F.inj _ _ (T.law.inj hk' hk))
    obtain ⟨c, h5, h6⟩ := h2 y hy kl' hk'
    exact ⟨c, by rw [atKey_put_other hne]; exact h5, by rw [h6]; simp [hxy]⟩
end
section
variable {P : Program} {M : Nat → Prop} {row : Option Nat} {w0 w : World} {L : List Hp} {t k e : TypeId} {κ : Type} {F : KeyFam P k κ} {b n : Nat} {S : κ → Prop}
end
end Go.Proofs.Ytkpbnlbhfhkhcaa

namespace Go.Proofs.Ytkpbnlbhfhkhcaa
open Go.RowKit Go.Maps
set_option linter.unusedVariables false
set_option linter.unusedSimpArgs false

/-- D holds true at the keys of S, and no other key -/
def SetD {P : Program} {k : TypeId} {κ : Type} (F : KeyFam P k κ) (S : κ → Prop) (D : DataW Unit) : Prop :=
  (∀ x, F.ok x → ∀ kl, keyOf P k (F.val x) = some kl → ∃ c : Bool, D.atKey kl (.lit (.bool false)) = .lit (.bool c) ∧ (c = true ↔ S x)) ∧ ∀ kl, Maps.has D kl = true → ∃ x, F.ok x ∧ keyOf P k (F.val x) = some kl ∧ S x
def TSet {P : Program} {k : TypeId} {κ : Type} (e : TypeId) (F : KeyFam P k κ) (b n : Nat) (S : κ → Prop) (w : World) : Prop :=
  ∃ D : DataW Unit, w.ownsMap P k (plainElem P e) b n D ∧ SetD F S D
section
variable {P : Program} {t k e : TypeId} {κ : Type} {F : KeyFam P k κ} {b n : Nat} {S : κ → Prop} {w w' : World}
theorem TSet.made (e : TypeId) (F : KeyFam P k κ) (w : World) (h : w.heap[b]? = some (.map #[] 0)) : TSet e F b 0 (fun _ => False) w := by
  have h0 := World.ownsMap_made w P k (plainElem (H := Unit) P e)
  obtain ⟨es, clock, h1, h2⟩ := h0
  have h3 : (w.alloc (.map #[] 0)).heap[w.heap.size]? = some (.map #[] 0) := heap_alloc_new w _
  rw [h3] at h1
  injection h1 with h1
  injection h1 with h4 h5
  subst h4 h5
  exact ⟨.map [], ⟨#[], 0, h, h2⟩, fun x _ kl _ => ⟨false, rfl, by simp⟩, fun kl h => by simp [Maps.has] at h⟩
theorem TSet.put (T : SetT P t k e) (h : TSet e F b n S w) {x : κ} (hx : F.ok x) (hn : n < maxLen) : ∃ w', (Instr.mapUpdate t (.map (some b)) (F.val x) (.bool true)).run P w = .ok () w' ∧ TSet e F b (n + 1) (fun y => y = x ∨ S y) w' ∧ w.grownBy w' (some b) := by
  obtain ⟨D, h1, h2, h7⟩ := h
  obtain ⟨kl, hk⟩ := F.key x hx
  obtain ⟨w', hrun, h3, h4⟩ := h1.update T.law T.ht hn hk (plainElem_bool T.he true)
  refine ⟨w', hrun, ⟨_, h3, fun y hy kl' hk' => ?_, fun kl' hh => ?_⟩, h4⟩
  · by_cases hxy : y = x
    · subst hxy
      rw [hk] at hk'
      injection hk' with hk'
      subst hk'
      refine ⟨true, ?_, by simp⟩
      have hD : IsMap D := by
        obtain ⟨es, clock, _, _, _, rfl⟩ := h1
        exact ⟨_, rfl⟩
      rw [atKey_put_same hD (T.law.key hk)]
    · have hne : kl' ≠ kl := fun e => by
        subst e
        exact hxy (F.inj _ _ (T.law.inj hk' hk))
      obtain ⟨c, h5, h6⟩ := h2 y hy kl' hk'
      exact ⟨c, by rw [atKey_put_other hne]; exact h5, by rw [h6]; simp [hxy]⟩
  · by_cases hkk : kl' = kl
    · subst hkk
      exact ⟨x, hx, hk, .inl rfl⟩
    · rw [has_put_other hkk] at hh
      obtain ⟨y, y1, y2, y3⟩ := h7 kl' hh
      exact ⟨y, y1, y2, .inr y3⟩
end
section
variable {P : Program} {M : Nat → Prop} {row : Option Nat} {w0 w : World} {L : List Hp} {t k e : TypeId} {κ : Type} {F : KeyFam P k κ} {b n : Nat} {S : κ → Prop}
end
end Go.Proofs.Ytkpbnlbhfhkhcaa

namespace Go.Proofs.Ytkpbnlbhfhkhcaa
open Go.RowKit Go.Maps
set_option linter.unusedVariables false
set_option linter.unusedSimpArgs false

def Lk.val (x : Lk) : Value := .agg #[.string x.a, .string x.b]
def Lk.ok (x : Lk) : Prop := x.a.size ≤ maxLen ∧ x.b.size ≤ maxLen
end Go.Proofs.Ytkpbnlbhfhkhcaa

namespace Go.Proofs.Ytkpbnlbhfhkhcaa
open Go.RowKit
set_option linter.unusedVariables false
set_option linter.unusedSimpArgs false

/-- a way from a to b through names of ts -/
def WarL (l : List Lk) : List ByteArray → ByteArray → ByteArray → Prop
  | [], a, b => (⟨a, b⟩ : Lk) ∈ l
  | t :: ts, a, b => WarL l ts a b ∨ (WarL l ts a t ∧ WarL l ts t b)
theorem war_trans {l : List Lk} : ∀ {ts : List ByteArray} {a m b : ByteArray}, m ∈ ts → WarL l ts a m → WarL l ts m b → WarL l ts a b
  | t :: ts, a, m, b, hm, h1, h2 => by
    rcases List.mem_cons.1 hm with rfl | hm
    · right
      refine ⟨?_, ?_⟩
      · rcases h1 with h1 | ⟨h1, _⟩ <;> exact h1
      · rcases h2 with h2 | ⟨_, h2⟩ <;> exact h2
    · rcases h1 with h1 | ⟨h1, h3⟩ <;> rcases h2 with h2 | ⟨h2, h4⟩
      · exact .inl (war_trans hm h1 h2)
      · exact .inr ⟨war_trans hm h1 h2, h4⟩
      · exact .inr ⟨h1, war_trans hm h3 h2⟩
      · exact .inr ⟨h1, h4⟩
theorem war_base {l : List Lk} {a b : ByteArray} (h : (⟨a, b⟩ : Lk) ∈ l) : ∀ ts, WarL l ts a b
  | [] => h
  | t :: ts => .inl (war_base h ts)
theorem war_tr {l : List Lk} {ns ts : List ByteArray} (hn : NamesIn ns l) (ht : ∀ x ∈ ns, x ∈ ts) {a b : ByteArray} (h : Tr l a b) : WarL l ts a b := by
  induction h with
  | one h => exact war_base h ts
  | step h1 h2 i1 i2 => exact war_trans (ht _ (Tr.names hn h1).2) i1 i2
/-- between two phases: what stands holds the ways through ts, and no more than ways -/
structure Ph (l : List Lk) (ts : List ByteArray) (S : Lk → Prop) : Prop where
  lo : ∀ a b, WarL l ts a b → S ⟨a, b⟩
  up : ∀ z, S z → Tr l z.a z.b
theorem Ph.start (l : List Lk) : Ph l [] (fun z => z ∈ l) := ⟨fun a b h => h, fun z h => .one h⟩
/-- within phase t: the names of ds are done as starts -/
def Md (l : List Lk) (ts ns : List ByteArray) (t : ByteArray) (ds : List ByteArray) (S : Lk → Prop) : Prop := Ph l ts S ∧ ∀ a ∈ ds, ∀ b ∈ ns, WarL l ts a t → WarL l ts t b → S ⟨a, b⟩
/-- within phase t and start a: the names of es are done as ends -/
def Inr (l : List Lk) (ts ns : List ByteArray) (t : ByteArray) (ds : List ByteArray) (a : ByteArray) (es : List ByteArray) (S : Lk → Prop) : Prop := Md l ts ns t ds S ∧ S ⟨a, t⟩ ∧ ∀ b ∈ es, WarL l ts t b → S ⟨a, b⟩
theorem Md.start {l : List Lk} {ts ns : List ByteArray} {t : ByteArray} {S : Lk → Prop} (h : Ph l ts S) : Md l ts ns t [] S := ⟨h, fun a ha => nomatch ha⟩
theorem Inr.start {l : List Lk} {ts ns : List ByteArray} {t a : ByteArray} {ds : List ByteArray} {S : Lk → Prop} (h : Md l ts ns t ds S) (hs : S ⟨a, t⟩) : Inr l ts ns t ds a [] S := ⟨h, hs, fun b hb => nomatch hb⟩
theorem Ph.put {l : List Lk} {ts : List ByteArray} {S : Lk → Prop} (h : Ph l ts S) {y : Lk} (hy : Tr l y.a y.b) : Ph l ts (fun z => z = y ∨ S z) :=
  ⟨fun a b k => .inr (h.lo a b k), fun z hz => by
    rcases hz with rfl | hz
    · exact hy
    · exact h.up z hz⟩
theorem Inr.put {l : List Lk} {ts ns : List ByteArray} {t a b : ByteArray} {ds : List ByteArray} {j : Nat} {S : Lk → Prop} (h : Inr l ts ns t ds a (ns.take j) S) (hx : ns[j]? = some b) (hs : S ⟨t, b⟩) : Inr l ts ns t ds a (ns.take (j + 1)) (fun z => z = ⟨a, b⟩ ∨ S z) := by
  refine ⟨⟨h.1.1.put (.step (h.1.1.up ⟨a, t⟩ h.2.1) (h.1.1.up ⟨t, b⟩ hs)), fun x hxm y hy h1 h2 => .inr (h.1.2 x hxm y hy h1 h2)⟩, .inr h.2.1, fun x hxm h2 => ?_⟩
  rcases mem_take_succ hx hxm with rfl | hm
  · exact .inl rfl
  · exact .inr (h.2.2 x hm h2)
theorem Ph.done {l : List Lk} {ns ts : List ByteArray} {S : Lk → Prop} (hn : NamesIn ns l) (ht : ∀ x ∈ ns, x ∈ ts) (h : Ph l ts S) (z : Lk) : S z ↔ Tr l z.a z.b :=
  ⟨h.up z, fun k => h.lo _ _ (war_tr hn ht k)⟩
end Go.Proofs.Ytkpbnlbhfhkhcaa

namespace Go.Proofs.Ytkpbnlbhfhkhcaa
open Go.RowKit
set_option linter.unusedVariables false
set_option linter.unusedSimpArgs false

theorem Try.elSt : ElemT Try.prog 23 9 1 16 (.string ⟨#[]⟩) := ⟨Try.underlying23, by kernel_rfl, rfl, by omega⟩
end Go.Proofs.Ytkpbnlbhfhkhcaa

namespace Go.Proofs.Ytkpbnlbhfhkhcaa
open Go.RowKit
set_option linter.unusedVariables false
set_option linter.unusedSimpArgs false

end Go.Proofs.Ytkpbnlbhfhkhcaa

namespace Go.Proofs.Ytkpbnlbhfhkhcaa
open Go.RowKit
set_option linter.unusedVariables false

end Go.Proofs.Ytkpbnlbhfhkhcaa

namespace Go.Proofs.Ytkpbnlbhfhkhcaa
open Go.RowKit Go.Sort
set_option linter.unusedVariables false
set_option linter.unusedSimpArgs false

end Go.Proofs.Ytkpbnlbhfhkhcaa

namespace Go.Proofs.Ytkpbnlbhfhkhcaa
open Go.RowKit
set_option linter.unusedVariables false
set_option linter.unusedSimpArgs false

end Go.Proofs.Ytkpbnlbhfhkhcaa

namespace Go.Proofs.Ytkpbnlbhfhkhcaa
open Go.RowKit
set_option linter.unusedVariables false
set_option linter.unusedSimpArgs false

end Go.Proofs.Ytkpbnlbhfhkhcaa

namespace Go.Proofs.Ytkpbnlbhfhkhcaa
open Go.RowKit
set_option linter.unusedVariables false
set_option linter.unusedSimpArgs false

/-- a comparison that is a linear order -/
structure LinC {α : Type} (c : α → α → Int) : Prop where
  eq : ∀ x y, c x y = 0 ↔ x = y
  flip : ∀ x y, c x y < 0 ↔ 0 < c y x
  trans : ∀ x y z, c x y < 0 → c y z < 0 → c x z < 0
end Go.Proofs.Ytkpbnlbhfhkhcaa

namespace Go.Proofs.Ytkpbnlbhfhkhcaa
open Go.RowKit Go.Sort
set_option linter.unusedVariables false
set_option linter.unusedSimpArgs false

end Go.Proofs.Ytkpbnlbhfhkhcaa

namespace Go.Proofs.Ytkpbnlbhfhkhcaa
open Go.RowKit
set_option linter.unusedVariables false
set_option linter.unusedSimpArgs false

end Go.Proofs.Ytkpbnlbhfhkhcaa

namespace Go.Proofs.Ytkpbnlbhfhkhcaa
open Go.RowKit Go.Sort
set_option linter.unusedVariables false
set_option linter.unusedSimpArgs false

instance lkInh : Inhabited Lk := ⟨⟨⟨#[]⟩, ⟨#[]⟩⟩⟩
end Go.Proofs.Ytkpbnlbhfhkhcaa

namespace Go.Proofs.Ytkpbnlbhfhkhcaa
open Go.RowKit
set_option linter.unusedVariables false
set_option linter.unusedSimpArgs false

end Go.Proofs.Ytkpbnlbhfhkhcaa

namespace Go.Proofs.Ytkpbnlbhfhkhcaa
open Go.RowKit Go.Maps
set_option linter.unusedVariables false
set_option linter.unusedSimpArgs false

end Go.Proofs.Ytkpbnlbhfhkhcaa

namespace Go.Proofs.Ytkpbnlbhfhkhcaa
instance baMem (x : ByteArray) (l : List ByteArray) : Decidable (x ∈ l) :=
  decidable_of_iff (l.any (fun y => decide (y = x)) = true) (by simp [List.any_eq_true])
end Go.Proofs.Ytkpbnlbhfhkhcaa

namespace Go.Proofs.Ytkpbnlbhfhkhcaa
open Go.RowKit
set_option linter.unusedVariables false
set_option linter.unusedSimpArgs false

def OwnStrs (w : World) (l : List ByteArray) (e : Ending) (w' : World) : Prop :=
  ∃ (A : Option Addr) (n c : Nat), e = .returned (.slice A n c) ∧ n = l.length ∧ w'.ownsRow w.heap.size 9 1 (.slice A n c) n (strsCells l) ∧ Below w.heap.size w w'
def contS (xs : List ByteArray) (x : ByteArray) : Bool := decide (x ∈ xs)
theorem contS_hit {xs : List ByteArray} {k : Nat} {x y : ByteArray} (h : xs[k]? = some y) (e : y = x) : contS xs x = true := by
  unfold contS; rw [decide_eq_true_iff, ← e]; exact List.mem_of_getElem? h
theorem contS_step {xs : List ByteArray} {k : Nat} {x y : ByteArray} (h : xs[k]? = some y) (e : y ≠ x) (hc : contS (xs.take k) x = false) : contS (xs.take (k + 1)) x = false := by
  unfold contS at *
  rw [decide_eq_false_iff_not] at *
  rw [List.take_add_one, h, List.mem_append]
  rintro (h1 | h1)
  · exact hc h1
  · simp at h1; exact e h1.symm
set_option maxHeartbeats 4000000 in
theorem sindex_any (w : World) (A : Option Addr) (n c : Nat) (xs : List ByteArray) (x : ByteArray) (hD : StrsIn A n xs w) (hn : n ≤ 9223372036854775807) :
    Calls Try.prog 45 #[.slice A n c, .string x] w fun e w' => (∃ r : Int, e = .returned (.int .i64 r) ∧ decide (r ≥ 0) = contS xs x) ∧ w = w' := by
  have HL := hid hD.len
  go_enter Try.func45, Try.ntmps45
  go_wp2_with fail
  go_loopw [8] (fun iv wr => ∃ (k : Nat), k ≤ n ∧ iv = .int .i64 k ∧ wr = w ∧ Hid (contS (xs.take k) x = false)) (fun iv _ => n - (intOf iv).toNat)
  case atStart => exact ⟨0, by omega, rfl, rfl, hid (by simp [contS])⟩
  case round =>
    obtain ⟨k, hk, rfl, rfl, HC⟩ := hrel
    by_cases hlt : k < n
    · have hd : decide ((k : Int) < (n : Int)) = true := by simp; omega
      have i0 : (0 : Int) ≤ (k : Int) := by omega
      have i1 : (k : Int) < (n : Int) := by omega
      obtain ⟨y, hy⟩ := get_of HL.out hlt
      obtain ⟨b, o, rfl, _, ck⟩ := hD.at_ hy
      have HX := hid hy
      clear hy
      cases e1 : (x.toList == y.toList)
      · have e2 : (y.toList == x.toList) = false := by rw [beq_eq_false_iff_ne] at *; exact fun h => e1 h.symm
        have HN := hid (contS_step HX.out (fun e => by rw [e] at e1; simp at e1) HC.out)
        go_wp2_with fail
        go_roundw
        case rel => exact ⟨k + 1, by omega, by go_num, by first | rfl | trivial, HN⟩
        case measure => simp [intOf]; omega
      · have e2 : (y.toList == x.toList) = true := by rw [beq_iff_eq] at *; exact e1.symm
        have HN := hid (contS_hit HX.out (ba_beq.1 e2))
        go_wp2_with fail
        go_ret
        exact ⟨⟨k, rfl, by rw [HN.out]; simp⟩, rfl⟩
    · obtain rfl : n = k := by omega
      have hd : decide ((n : Int) < (n : Int)) = false := by simp
      have HN := hid (show contS xs x = false by have h := HC.out; rwa [List.take_of_length_le (by rw [HL.out]; exact Nat.le_refl _)] at h)
      go_wp2_with fail
      go_ret
      exact ⟨⟨-1, rfl, by rw [HN.out]; rfl⟩, rfl⟩
theorem scont_any (w : World) (A : Option Addr) (n c : Nat) (xs : List ByteArray) (x : ByteArray) (hD : StrsIn A n xs w) (hn : n ≤ 9223372036854775807) :
    Calls Try.prog 32 #[.slice A n c, .string x] w fun e w' => e = .returned (.bool (contS xs x)) ∧ w = w' := by
  go_enter Try.func32, Try.ntmps32
  go_wp2_with fail
  refine (sindex_any w A n c xs x hD hn).mono ?_
  rintro e w1 ⟨⟨r, rfl, hr⟩, rfl⟩
  go_wp2_with fail
  go_ret
  exact ⟨by first | rw [hr] <;> rfl | simp [← hr], rfl⟩
end Go.Proofs.Ytkpbnlbhfhkhcaa

namespace Go.Proofs.Ytkpbnlbhfhkhcaa
open Go.RowKit
set_option linter.unusedVariables false
set_option linter.unusedSimpArgs false

/-- how many expressions a tree holds -/
def exW : Nat → Ex → Nat
  | 0, _ => 1
  | d + 1, e => 1 + (e.args.map (exW d)).sum + (e.sub.map fun q => 1 + (q.items.map (exW d)).sum + (q.wh.map (exW d)).sum).sum
def exsW (d : Nat) (l : List Ex) : Nat := (l.map (exW d)).sum
def quW (d : Nat) (q : Qu) : Nat := 1 + exsW d q.items + exsW d q.wh
def qusW (d : Nat) (l : List Qu) : Nat := (l.map (quW d)).sum
theorem exW_succ (d : Nat) (e : Ex) : exW (d + 1) e = 1 + exsW d e.args + qusW d e.sub := rfl
theorem exW_pos (d : Nat) (e : Ex) : 1 ≤ exW d e := by
  cases d with
  | zero => exact Nat.le_refl _
  | succ d => rw [exW_succ]; omega
theorem len_sum {α : Type} {f : α → Nat} (h : ∀ x, 1 ≤ f x) : ∀ l : List α, l.length ≤ (l.map f).sum
  | [] => Nat.le_refl _
  | x :: l => by have := len_sum h l; have := h x; simp only [List.length_cons, List.map_cons, List.sum_cons]; omega
theorem exsW_len (d : Nat) (l : List Ex) : l.length ≤ exsW d l := len_sum (exW_pos d) l
theorem qusW_len (d : Nat) (l : List Qu) : l.length ≤ qusW d l := len_sum (fun q => by unfold quW; omega) l
theorem sum_take {α : Type} {f : α → Nat} {l : List α} {k : Nat} {x : α} (hx : l[k]? = some x) : ((l.take (k + 1)).map f).sum = ((l.take k).map f).sum + f x := by
  rw [List.take_add_one, hx]; simp
theorem sum_take_le {α : Type} {f : α → Nat} (l : List α) (k : Nat) : ((l.take k).map f).sum ≤ (l.map f).sum := by
  have h : ((l.take k ++ l.drop k).map f).sum = (l.map f).sum := by rw [List.take_append_drop]
  rw [List.map_append, List.sum_append] at h
  omega
def QusIn (d : Nat) (A : Option Addr) (n : Nat) (l : List Qu) (w : World) : Prop := SlR 4 A n (quCells l) w ∧ ∀ q ∈ l, QuIn d q w
theorem QusIn.len {d : Nat} {A : Option Addr} {n : Nat} {l : List Qu} {w : World} (h : QusIn d A n l w) : l.length = n := SlP.In.len (s := ⟨A, n, 0, l⟩) (k := 4) (cel := Qu.cells) (P := QuIn d) h (by omega) (fun _ => rfl)
theorem QusIn.at_ {d : Nat} {w : World} {A : Option Addr} {n : Nat} {l : List Qu} (h : QusIn d A n l w) {k : Nat} {x : Qu} (hx : l[k]? = some x) :
    ∃ b o, A = some ⟨b, o, none⟩ ∧ b < w.heap.size ∧ (∀ j u, j < 4 → x.cells[j]? = some u → w.cell? ⟨b, o + k * 4 + j, none⟩ = some u) ∧ QuIn d x w := SlP.In.at_ (s := ⟨A, n, 0, l⟩) (k := 4) (cel := Qu.cells) (P := QuIn d) h (by omega) (fun _ => rfl) hx
/-- the names that were collected so far, at most k, in the block g -/
def NmSt (M : Nat → Prop) (row : Option Nat) (w0 w : World) (g k : Nat) (L : List Hp) : Prop :=
  ∃ (B : Option Addr) (m c : Nat) (xs : List ByteArray), m ≤ k ∧ Hold M row w0 w (.blk g 23 #[.slice B m c] :: .own 9 1 (.slice B m c) m (strsCells xs) :: L)
section
variable {M : Nat → Prop} {row : Option Nat} {w0 w : World} {g k : Nat} {L : List Hp}
theorem NmSt.le (h : NmSt M row w0 w g k L) {k' : Nat} (hk : k ≤ k') : NmSt M row w0 w g k' L := by
  obtain ⟨B, m, c, xs, hm, K⟩ := h
  exact ⟨B, m, c, xs, by omega, K⟩
theorem NmSt.addRo (h : NmSt M row w0 w g k L) (i : Nat) {S S' : World → Prop} (hi : L[i]? = some (.ro S)) (hs : ∀ w, S w → S' w) : NmSt M row w0 w g k (.ro S' :: L) := by
  obtain ⟨B, m, c, xs, hm, K⟩ := h
  exact ⟨B, m, c, xs, hm, (K.add ((K.ro (i + 2) (by simpa using hi)).imp hs)).sinkN 2⟩
theorem NmSt.cst (h : NmSt M row w0 w g k L) (cs : Array Value) (t : TypeId) : NmSt M row w0 (w.alloc (.cells cs t)) g k (.cst w.heap.size t cs :: L) := by
  obtain ⟨B, m, c, xs, hm, K⟩ := h
  exact ⟨B, m, c, xs, hm, (K.alloc_cst cs t).sinkN 2⟩
theorem NmSt.drop (h : NmSt M row w0 w g k L) {L' : List Hp} (hL : List.Sublist L' L) : NmSt M row w0 w g k L' := by
  obtain ⟨B, m, c, xs, hm, K⟩ := h
  exact ⟨B, m, c, xs, hm, K.drop (hL.cons_cons _ |>.cons_cons _)⟩
theorem NmSt.factsL (h : NmSt M row w0 w g k L) : factsL w L := by
  obtain ⟨B, m, c, xs, hm, K⟩ := h
  exact (K.drop (L' := L) (List.Sublist.cons _ (List.Sublist.cons _ (List.Sublist.refl _)))).facts
theorem NmSt.ro (h : NmSt M row w0 w g k L) (i : Nat) {S : World → Prop} (hi : L[i]? = some (.ro S)) : S w := by
  obtain ⟨B, m, c, xs, hm, K⟩ := h
  exact (K.ro (i + 2) (by simpa using hi)).now
end
abbrev rowV (g : Nat) : Value := .func (.func 39) #[] #[.pointer (some ⟨g, 0, none⟩)]
set_option maxRecDepth 100000 in
set_option maxHeartbeats 2000000 in
theorem rowc_any {M : Nat → Prop} {row : Option Nat} {w0 w : World} {g k : Nat} {L : List Hp} (h : NmSt M row w0 w g k L) (e : Ex) (hk : k < 4398046511104) : Calls Try.prog 39 #[e.val, .pointer (some ⟨g, 0, none⟩)] w fun r w' => r = .returned (.bool true) ∧ NmSt M row w0 w' g (k + 1) L := by
  obtain ⟨P, q, cap, xs, hq, K⟩ := h
  obtain ⟨ek, eop, ent, ⟨evk, evi, evs⟩, etab, enm, eA, en, ec, eargs, eB, em, ed, esub⟩ := e
  simp only [Ex.val]
  have K1 := K.alloc_cst #[.int .i64 ek, .int .i64 eop, .bool ent, .int .i64 evk, .int .i64 evi, .string evs, .string etab, .string enm, .slice eA en ec, .slice eB em ed] 38
  have F1 := (K1.drop (L' := [_, _]) (List.Sublist.cons_cons _ (List.Sublist.cons_cons _ (List.nil_sublist _)))).facts
  simp only [World.size_alloc, World.size_drew, factsL, cellsF, Nat.reduceAdd, List.toList_toArray, List.set_cons_zero, List.set_cons_succ, List.setIfInBounds_toArray, and_true, true_and] at F1
  have HCE := hid (show strsCells xs ++ (#[Value.string enm]).toList = strsCells (xs ++ [enm]) by simp [strsCells])
  by_cases h2 : ek = 2 ∧ etab = ⟨#[78, 69, 87]⟩
  · obtain ⟨rfl, rfl⟩ := h2
    go_enter Try.func39, Try.ntmps39
    go_wp2_with (at_builtin; go_must (refine wpList_appH K1 2 rfl Try.elSt #[.string enm] rfl (.tmp 12) (.tmp 15) rfl rfl _ (by first | rfl | simp) rfl rfl (by intro u hu; simp at hu; rcases hu with rfl; rfl) (by omega) (by omega) ?_); intro g9 cap9 w9 hc9 hm9 KB; rw [HCE.out] at KB; simp only [List.set_cons_zero, List.set_cons_succ] at KB; have FB := (KB.drop (L' := [_, _]) (List.Sublist.cons_cons _ (List.Sublist.cons_cons _ (List.nil_sublist _)))).facts; simp only [World.size_alloc, World.size_drew, factsL, cellsF, Nat.reduceAdd, List.toList_toArray, List.set_cons_zero, List.set_cons_succ, List.setIfInBounds_toArray, and_true, true_and] at FB)
    have KC := (KB.store 1 rfl 0 (.slice (some ⟨g9, 0, none⟩) (q + 1) cap9)).drop (List.sublist_cons_self _ _)
    simp only [List.set_cons_zero, List.set_cons_succ, List.setIfInBounds_toArray] at KC
    go_ret
    exact ⟨by first | rfl | simp, _, q + 1, cap9, _, by omega, KC⟩
  · have KC := K1.drop (List.sublist_cons_self _ _)
    by_cases h3 : ek = 2
    · subst h3
      have h4 : (etab.toList == [78, 69, 87]) = false := by
        rw [Bool.eq_false_iff]
        intro h
        exact h2 ⟨rfl, bytesEq (by rw [ByteArray.toList_eq, ByteArray.toList_eq] at *; simpa using h)⟩
      clear h2
      go_enter Try.func39, Try.ntmps39
      go_wp2_with fail
      go_ret
      exact ⟨by first | rfl | simp, _, q, cap, _, by omega, KC⟩
    · clear h2
      go_enter Try.func39, Try.ntmps39
      go_wp2_with fail
      all_goals first
        | (exfalso; omega)
        | (go_ret; exact ⟨by first | rfl | simp, _, q, cap, _, by omega, KC⟩)
/-- what the visit of a list of expressions does -/
def VisE (d : Nat) : Prop := ∀ (M : Nat → Prop) (row : Option Nat) (w0 w : World) (g k : Nat) (L : List Hp) (A : Option Addr) (n c : Nat) (l : List Ex), NmSt M row w0 w g k (.ro (ExsIn d A n l) :: L) → k + exsW d l ≤ 4398046511104 →
  Calls Try.prog 46 #[rowV g, .slice A n c] w fun r w' => r = .returned (.bool true) ∧ NmSt M row w0 w' g (k + exsW d l) (.ro (ExsIn d A n l) :: L)
def VisQ (d : Nat) : Prop := ∀ (M : Nat → Prop) (row : Option Nat) (w0 w : World) (g k : Nat) (L : List Hp) (A : Option Addr) (n c : Nat) (l : List Qu), NmSt M row w0 w g k (.ro (QusIn d A n l) :: L) → k + qusW d l ≤ 4398046511104 →
  Calls Try.prog 50 #[rowV g, .slice A n c] w fun r w' => r = .returned (.bool true) ∧ NmSt M row w0 w' g (k + qusW d l) (.ro (QusIn d A n l) :: L)
set_option maxRecDepth 100000 in
set_option maxHeartbeats 2000000 in
theorem visQ_of {d : Nat} (hE : VisE d) : VisQ d := by
  intro M row w0 w g k L A n c l h hk
  have HL := hid (h.ro 0 rfl).len
  have hn : n ≤ 4398046511104 := by have := qusW_len d l; have := (h.ro 0 rfl).len; omega
  have HK := hid hk
  clear hk
  go_enter Try.func50, Try.ntmps50
  go_wp2_with fail
  go_loopw [9] (fun iv wr => ∃ (j : Nat), j ≤ n ∧ iv = .int .i64 j ∧ NmSt M row w0 wr g (k + qusW d (l.take j)) (.ro (QusIn d A n l) :: L)) (fun iv _ => n - (intOf iv).toNat)
  case atStart => exact ⟨0, by omega, rfl, h⟩
  case round =>
    clear h
    obtain ⟨j, hj, rfl, H⟩ := hrel
    by_cases hlt : j < n
    · obtain ⟨⟨st, xA, xn, xc, items, src, xB, xm, xd, wh⟩, hc⟩ := get_any HL.out hlt
      obtain ⟨b, o, rfl, hb, hcl, -⟩ := (H.ro 0 rfl).at_ hc
      have c0 := hcl 0 _ (by omega) rfl
      have c1 := hcl 1 _ (by omega) rfl
      have c2 := hcl 2 _ (by omega) rfl
      have c3 := hcl 3 _ (by omega) rfl
      simp only [Nat.add_zero] at c0
      clear hcl
      have HS := hid (show qusW d (l.take (j + 1)) = qusW d (l.take j) + (1 + exsW d items + exsW d wh) from sum_take hc)
      have HT := hid (show qusW d (l.take (j + 1)) ≤ qusW d l from sum_take_le l (j + 1))
      have HM := hid (List.mem_of_getElem? hc)
      clear hc
      have H0 := H.cst #[.bool st, .slice xA xn xc, .string src, .slice xB xm xd] 120
      have H1 := H0.addRo 1 (S' := ExsIn d xA xn items) rfl (fun w2 h2 => (h2.2 _ HM.out).1)
      have F1 := (H1.drop (L' := [_, _]) (List.Sublist.cons_cons _ (List.Sublist.cons_cons _ (List.nil_sublist _)))).factsL
      simp only [World.size_alloc, World.size_drew, factsL, cellsF, Nat.reduceAdd, List.toList_toArray, List.set_cons_zero, List.set_cons_succ, List.setIfInBounds_toArray, and_true, true_and] at F1
      clear H H0
      go_wp2_with fail
      refine (hE _ _ _ _ _ _ _ _ _ _ _ H1 (by have := HK.out; have := HS.out; have := HT.out; omega)).mono ?_
      rintro e w1 ⟨rfl, H2⟩
      have H3 := H2.addRo 2 (S' := ExsIn d xB xm wh) rfl (fun w2 h2 => (h2.2 _ HM.out).2)
      have F3 := (H3.drop (L' := [_, _, _]) (List.Sublist.cons_cons _ (List.Sublist.cons_cons _ (List.Sublist.cons_cons _ (List.nil_sublist _))))).factsL
      simp only [World.size_alloc, World.size_drew, factsL, cellsF, Nat.reduceAdd, List.toList_toArray, List.set_cons_zero, List.set_cons_succ, List.setIfInBounds_toArray, and_true, true_and] at F3
      clear H1 H2 F1 c0 c1 c2 c3
      go_wp2_with fail
      refine (hE _ _ _ _ _ _ _ _ _ _ _ H3 (by have := HK.out; have := HS.out; have := HT.out; omega)).mono ?_
      rintro e w2 ⟨rfl, H4⟩
      clear H3 F3
      go_wp2_with fail
      go_roundw
      case rel => exact ⟨j + 1, by omega, by go_num, (H4.drop (List.Sublist.cons _ (List.Sublist.cons _ (List.Sublist.cons _ (List.Sublist.refl _))))).le (by have := HS.out; omega)⟩
      case measure => simp [intOf]; omega
    · have hjn : j = n := by omega
      rw [List.take_of_length_le (by rw [HL.out]; omega)] at H
      go_wp2_with fail
      go_ret
      exact ⟨by first | rfl | simp, H⟩
set_option maxRecDepth 100000 in
set_option maxHeartbeats 2000000 in
theorem visE_of {d : Nat} (hD : ∀ e, d = e + 1 → VisE e ∧ VisQ e) : VisE d := by
  intro M row w0 w g k L A n c l h hk
  have HL := hid (h.ro 0 rfl).len
  have hn : n ≤ 4398046511104 := by have := exsW_len d l; have := (h.ro 0 rfl).len; omega
  have HK := hid hk
  clear hk
  go_enter Try.func46, Try.ntmps46
  go_wp2_with fail
  go_loopw [9] (fun iv wr => ∃ (j : Nat), j ≤ n ∧ iv = .int .i64 j ∧ NmSt M row w0 wr g (k + exsW d (l.take j)) (.ro (ExsIn d A n l) :: L)) (fun iv _ => n - (intOf iv).toNat)
  case atStart => exact ⟨0, by omega, rfl, h⟩
  case round =>
    clear h
    obtain ⟨j, hj, rfl, H⟩ := hrel
    by_cases hlt : j < n
    · obtain ⟨⟨xk, xop, xnt, ⟨xvk, xvi, xvs⟩, xtab, xnm, xA, xn, xc, xargs, xB, xm, xd, xsub⟩, hc⟩ := get_any HL.out hlt
      obtain ⟨b, o, rfl, hb, hcl, hin⟩ := (H.ro 0 rfl).at_ hc
      obtain _ | d := d
      · exact hin.elim
      clear hin
      obtain ⟨hE, hQ⟩ := hD d rfl
      have c0 := hcl 0 _ (by omega) rfl
      have c1 := hcl 1 _ (by omega) rfl
      have c2 := hcl 2 _ (by omega) rfl
      have c3 := hcl 3 _ (by omega) rfl
      have c4 := hcl 4 _ (by omega) rfl
      have c5 := hcl 5 _ (by omega) rfl
      have c6 := hcl 6 _ (by omega) rfl
      have c7 := hcl 7 _ (by omega) rfl
      have c8 := hcl 8 _ (by omega) rfl
      have c9 := hcl 9 _ (by omega) rfl
      simp only [Nat.add_zero] at c0
      clear hcl
      have HS := hid (show exsW (d + 1) (l.take (j + 1)) = exsW (d + 1) (l.take j) + (1 + exsW d xargs + qusW d xsub) from sum_take hc)
      have HT := hid (show exsW (d + 1) (l.take (j + 1)) ≤ exsW (d + 1) l from sum_take_le l (j + 1))
      have HM := hid (List.mem_of_getElem? hc)
      clear hc
      have H1 := H.cst #[.int .i64 xk, .int .i64 xop, .bool xnt, .int .i64 xvk, .int .i64 xvi, .string xvs, .string xtab, .string xnm, .slice xA xn xc, .slice xB xm xd] 38
      have F1 := (H1.drop (L' := [_, _]) (List.Sublist.cons_cons _ (List.Sublist.cons_cons _ (List.nil_sublist _)))).factsL
      simp only [World.size_alloc, World.size_drew, factsL, cellsF, Nat.reduceAdd, List.toList_toArray, List.set_cons_zero, List.set_cons_succ, List.setIfInBounds_toArray, and_true, true_and] at F1
      clear H
      go_wp2_with fail
      refine (rowc_any H1 ⟨xk, xop, xnt, ⟨xvk, xvi, xvs⟩, xtab, xnm, xA, xn, xc, xargs, xB, xm, xd, xsub⟩ (by have := HK.out; have := HS.out; have := HT.out; omega)).mono ?_
      rintro e w1 ⟨rfl, H2⟩
      have H3 := H2.addRo 1 (S' := ExsIn d xA xn xargs) rfl (fun w2 h2 => (ExIn.succ.1 (h2.2 _ HM.out)).1)
      have F3 := (H3.drop (L' := [_, _]) (List.Sublist.cons_cons _ (List.Sublist.cons_cons _ (List.nil_sublist _)))).factsL
      simp only [World.size_alloc, World.size_drew, factsL, cellsF, Nat.reduceAdd, List.toList_toArray, List.set_cons_zero, List.set_cons_succ, List.setIfInBounds_toArray, and_true, true_and] at F3
      clear H1 H2 F1 c0 c1 c2 c3 c4 c5 c6 c7 c8 c9
      go_wp2_with fail
      refine (hE _ _ _ _ _ _ _ _ _ _ _ H3 (by have := HK.out; have := HS.out; have := HT.out; omega)).mono ?_
      rintro e w2 ⟨rfl, H4⟩
      have H5 := H4.addRo 2 (S' := QusIn d xB xm xsub) rfl (fun w2 h2 => (ExIn.succ.1 (h2.2 _ HM.out)).2)
      have F5 := (H5.drop (L' := [_, _, _]) (List.Sublist.cons_cons _ (List.Sublist.cons_cons _ (List.Sublist.cons_cons _ (List.nil_sublist _))))).factsL
      simp only [World.size_alloc, World.size_drew, factsL, cellsF, Nat.reduceAdd, List.toList_toArray, List.set_cons_zero, List.set_cons_succ, List.setIfInBounds_toArray, and_true, true_and] at F5
      clear H3 H4 F3
      go_wp2_with fail
      refine (hQ _ _ _ _ _ _ _ _ _ _ _ H5 (by have := HK.out; have := HS.out; have := HT.out; omega)).mono ?_
      rintro e w3 ⟨rfl, H6⟩
      clear H5 F5
      go_wp2_with fail
      go_roundw
      case rel => exact ⟨j + 1, by omega, by go_num, (H6.drop (List.Sublist.cons _ (List.Sublist.cons _ (List.Sublist.cons _ (List.Sublist.refl _))))).le (by have := HS.out; omega)⟩
      case measure => simp [intOf]; omega
    · have hjn : j = n := by omega
      rw [List.take_of_length_le (by rw [HL.out]; omega)] at H
      go_wp2_with fail
      go_ret
      exact ⟨by first | rfl | simp, H⟩
theorem vis_any : ∀ d, VisE d ∧ VisQ d
  | 0 => have h : VisE 0 := visE_of (fun e he => by omega)
    ⟨h, visQ_of h⟩
  | d + 1 => have h : VisE (d + 1) := visE_of (fun e he => by obtain rfl : d = e := by omega
                                                              exact vis_any d)
    ⟨h, visQ_of h⟩
end Go.Proofs.Ytkpbnlbhfhkhcaa

namespace Go.Proofs.Ytkpbnlbhfhkhcaa
open Go.RowKit
set_option linter.unusedVariables false
set_option linter.unusedSimpArgs false

def rrW (d : Nat) (l : List (SlP Ex)) : Nat := (l.map fun r => 1 + exsW d r.l).sum
def sesW (d : Nat) (l : List Se) : Nat := (l.map fun s => 1 + exW d s.e).sum
def acW (d : Nat) (a : Ac) : Nat := 1 + rrW d a.rows.l + sesW d a.sets.l + qusW d a.qs.l + exsW d a.wh.l
def acsW (d : Nat) (l : List Ac) : Nat := (l.map (acW d)).sum
def RrsIn (d : Nat) (A : Option Addr) (n : Nat) (l : List (SlP Ex)) (w : World) : Prop := SlR 1 A n (l.flatMap fun r => [r.v]) w ∧ ∀ r ∈ l, ExsIn d r.A r.n r.l w
theorem RrsIn.len {d : Nat} {A : Option Addr} {n : Nat} {l : List (SlP Ex)} {w : World} (h : RrsIn d A n l w) : l.length = n := SlP.In.len (s := ⟨A, n, 0, l⟩) (k := 1) (cel := fun r => [r.v]) (P := fun r w => ExsIn d r.A r.n r.l w) h (by omega) (fun _ => rfl)
theorem RrsIn.at_ {d : Nat} {w : World} {A : Option Addr} {n : Nat} {l : List (SlP Ex)} (h : RrsIn d A n l w) {k : Nat} {x : SlP Ex} (hx : l[k]? = some x) :
    ∃ b o, A = some ⟨b, o, none⟩ ∧ b < w.heap.size ∧ w.cell? ⟨b, o + k, none⟩ = some (.slice x.A x.n x.c) ∧ ExsIn d x.A x.n x.l w := by
  obtain ⟨b, o, e, hb, hc, hx⟩ := SlP.In.at_ (s := ⟨A, n, 0, l⟩) (k := 1) (cel := fun r => [r.v]) (P := fun r w => ExsIn d r.A r.n r.l w) h (by omega) (fun _ => rfl) hx
  have h0 := hc 0 _ (by omega) rfl
  simp only [Nat.mul_one, Nat.add_zero] at h0
  exact ⟨b, o, e, hb, h0, hx⟩
theorem AcIn.parts {d : Nat} {a : Ac} {w : World} (h : AcIn d a w) : RrsIn d a.rows.A a.rows.n a.rows.l w ∧ QusIn d a.qs.A a.qs.n a.qs.l w ∧ SesIn d a.sets.A a.sets.n a.sets.l w ∧ ExsIn d a.wh.A a.wh.n a.wh.l w := h
theorem rrW_len (d : Nat) (l : List (SlP Ex)) : l.length ≤ rrW d l := len_sum (fun q => by omega) l
theorem sesW_len (d : Nat) (l : List Se) : l.length ≤ sesW d l := len_sum (fun q => by omega) l
theorem NmSt.addW {M : Nat → Prop} {row : Option Nat} {w0 w : World} {g k : Nat} {L : List Hp} (h : NmSt M row w0 w g k L) {S' : World → Prop} (hs : ∀ (B : Option Addr) (m c : Nat) (xs : List ByteArray), Hold M row w0 w (.blk g 23 #[.slice B m c] :: .own 9 1 (.slice B m c) m (strsCells xs) :: L) → Ro w (Mut M (.blk g 23 #[.slice B m c] :: .own 9 1 (.slice B m c) m (strsCells xs) :: L)) S') : NmSt M row w0 w g k (.ro S' :: L) := by
  obtain ⟨B, m, c, xs, hm, K⟩ := h
  exact ⟨B, m, c, xs, hm, (K.add (hs B m c xs K)).sinkN 2⟩
set_option maxRecDepth 100000 in
set_option maxHeartbeats 4000000 in
theorem visA_any (M : Nat → Prop) (row : Option Nat) (w0 w : World) (g k : Nat) (L : List Hp) (d : Nat) (a : Ac) (h : NmSt M row w0 w g k (.ro (AcIn d a) :: L)) (hk : k + acW d a ≤ 4398046511104) :
    Calls Try.prog 47 #[rowV g, a.val] w fun r w' => r = .returned (.bool true) ∧ NmSt M row w0 w' g (k + acW d a) (.ro (AcIn d a) :: L) := by
  obtain ⟨hR, hQ, hS, hW⟩ := (h.ro 0 rfl).parts
  obtain ⟨ak, atab, ⟨arA, arn, arc, arl⟩, ⟨aqA, aqn, aqc, aql⟩, ⟨asA, asn, asc, asl⟩, ⟨awA, awn, awc, awl⟩, atext⟩ := a
  simp only [Ac.val, acW] at hR hQ hS hW hk ⊢
  have HLR := hid hR.len
  have HLS := hid hS.len
  have hrn : arn ≤ 4398046511104 := by have := rrW_len d arl; have := hR.len; omega
  have hsn : asn ≤ 4398046511104 := by have := sesW_len d asl; have := hS.len; omega
  clear hR hQ hS hW
  have HK := hid hk
  clear hk
  have H1 := (h.addRo 0 (S' := RrsIn d arA arn arl) rfl (fun w2 h2 => h2.parts.1)).cst #[.int .i64 ak, .string atab, .slice arA arn arc, .slice aqA aqn aqc, .slice asA asn asc, .slice awA awn awc, .string atext] 43
  have F1 := (H1.drop (L' := [_]) (List.Sublist.cons_cons _ (List.nil_sublist _))).factsL
  simp only [World.size_alloc, World.size_drew, factsL, cellsF, Nat.reduceAdd, List.toList_toArray, List.set_cons_zero, List.set_cons_succ, List.setIfInBounds_toArray, and_true, true_and] at F1
  clear h
  go_enter Try.func47, Try.ntmps47
  go_wp2_with fail
  clear F1
  go_loopw [12, 6] (fun iv _ wr => ∃ (j : Nat), j ≤ arn ∧ iv = .int .i64 j ∧ NmSt M row w0 wr g (k + rrW d (arl.take j)) (.cst w.heap.size 43 #[.int .i64 ak, .string atab, .slice arA arn arc, .slice aqA aqn aqc, .slice asA asn asc, .slice awA awn awc, .string atext] :: .ro (RrsIn d arA arn arl) :: .ro (AcIn d ⟨ak, atab, ⟨arA, arn, arc, arl⟩, ⟨aqA, aqn, aqc, aql⟩, ⟨asA, asn, asc, asl⟩, ⟨awA, awn, awc, awl⟩, atext⟩) :: L)) (fun iv _ _ => arn - (intOf iv).toNat)
  case atStart => exact ⟨0, by omega, rfl, H1⟩
  case round =>
    clear H1
    obtain ⟨j, hj, rfl, H⟩ := hrel
    by_cases hlt : j < arn
    · obtain ⟨⟨xA, xn, xc, xl⟩, hc⟩ := get_any HLR.out hlt
      obtain ⟨b, o, rfl, hb, c0, -⟩ := (H.ro 1 rfl).at_ hc
      have HS := hid (show rrW d (arl.take (j + 1)) = rrW d (arl.take j) + (1 + exsW d xl) from sum_take hc)
      have HT := hid (show rrW d (arl.take (j + 1)) ≤ rrW d arl from sum_take_le arl (j + 1))
      have HM := hid (List.mem_of_getElem? hc)
      clear hc
      have H3 := H.addRo 1 (S' := ExsIn d xA xn xl) rfl (fun w2 h2 => h2.2 _ HM.out)
      clear H
      go_wp2_with fail
      refine ((vis_any d).1 _ _ _ _ _ _ _ _ _ _ _ H3 (by have := HK.out; have := HS.out; have := HT.out; omega)).mono ?_
      rintro e w1 ⟨rfl, H4⟩
      clear H3
      go_wp2_with fail
      go_roundw
      case rel => exact ⟨j + 1, by omega, by go_num, (H4.drop (List.sublist_cons_self _ _)).le (by have := HS.out; omega)⟩
      case measure => simp [intOf]; omega
    · obtain rfl : arn = j := by omega
      rw [List.take_of_length_le (by rw [HLR.out]; exact Nat.le_refl _)] at H
      have H2 := ((H.addRo 2 (S' := SesIn d asA asn asl) rfl (fun w2 h2 => h2.parts.2.2.1)).drop (L' := .ro (SesIn d asA asn asl) :: .cst w.heap.size 43 #[.int .i64 ak, .string atab, .slice arA arn arc, .slice aqA aqn aqc, .slice asA asn asc, .slice awA awn awc, .string atext] :: .ro (AcIn d ⟨ak, atab, ⟨arA, arn, arc, arl⟩, ⟨aqA, aqn, aqc, aql⟩, ⟨asA, asn, asc, asl⟩, ⟨awA, awn, awc, awl⟩, atext⟩) :: L) (List.Sublist.cons_cons _ (List.Sublist.cons_cons _ (List.sublist_cons_self _ _))))
      have F2 := (H2.drop (L' := [_, _]) (List.Sublist.cons_cons _ (List.Sublist.cons_cons _ (List.nil_sublist _)))).factsL
      simp only [World.size_alloc, World.size_drew, factsL, cellsF, Nat.reduceAdd, List.toList_toArray, List.set_cons_zero, List.set_cons_succ, List.setIfInBounds_toArray, and_true, true_and] at F2
      clear H
      go_wp2_with fail
      clear F2
      go_loopw [24, 8] (fun iv _ wr => ∃ (j : Nat), j ≤ asn ∧ iv = .int .i64 j ∧ NmSt M row w0 wr g (k + rrW d arl + sesW d (asl.take j)) (.ro (SesIn d asA asn asl) :: .cst w.heap.size 43 #[.int .i64 ak, .string atab, .slice arA arn arc, .slice aqA aqn aqc, .slice asA asn asc, .slice awA awn awc, .string atext] :: .ro (AcIn d ⟨ak, atab, ⟨arA, arn, arc, arl⟩, ⟨aqA, aqn, aqc, aql⟩, ⟨asA, asn, asc, asl⟩, ⟨awA, awn, awc, awl⟩, atext⟩) :: L)) (fun iv _ _ => asn - (intOf iv).toNat)
      case atStart => exact ⟨0, by omega, rfl, H2⟩
      case round =>
        clear H2
        obtain ⟨j2, hj2, rfl, H⟩ := hrel
        by_cases hlt2 : j2 < asn
        · obtain ⟨⟨xcol, ⟨xk, xop, xnt, ⟨xvk, xvi, xvs⟩, xtab, xnm, xA, xn, xc, xargs, xB, xm, xd, xsub⟩⟩, hc⟩ := get_any HLS.out hlt2
          obtain ⟨b, o, rfl, hb, hcl, -⟩ := (H.ro 0 rfl).at_ hc
          have c0 := hcl 0 _ (by omega) rfl
          have c1 := hcl 1 _ (by omega) rfl
          have c2 := hcl 2 _ (by omega) rfl
          have c3 := hcl 3 _ (by omega) rfl
          have c4 := hcl 4 _ (by omega) rfl
          have c5 := hcl 5 _ (by omega) rfl
          have c6 := hcl 6 _ (by omega) rfl
          have c7 := hcl 7 _ (by omega) rfl
          have c8 := hcl 8 _ (by omega) rfl
          have c9 := hcl 9 _ (by omega) rfl
          have c10 := hcl 10 _ (by omega) rfl
          simp only [Nat.add_zero] at c0
          clear hcl
          have HS := hid (show sesW d (asl.take (j2 + 1)) = sesW d (asl.take j2) + (1 + exW d ⟨xk, xop, xnt, ⟨xvk, xvi, xvs⟩, xtab, xnm, xA, xn, xc, xargs, xB, xm, xd, xsub⟩) from sum_take hc)
          have HT := hid (show sesW d (asl.take (j2 + 1)) ≤ sesW d asl from sum_take_le asl (j2 + 1))
          have HM := hid (List.mem_of_getElem? hc)
          clear hc
          have HA := (H.cst #[.string xcol, .int .i64 xk, .int .i64 xop, .bool xnt, .int .i64 xvk, .int .i64 xvi, .string xvs, .string xtab, .string xnm, .slice xA xn xc, .slice xB xm xd] 45).cst #[.int .i64 xk, .int .i64 xop, .bool xnt, .int .i64 xvk, .int .i64 xvi, .string xvs, .string xtab, .string xnm, .slice xA xn xc, .slice xB xm xd] 38
          rw [World.size_alloc] at HA
          have H3 := HA.addW (S' := ExsIn d (some ⟨wr.heap.size + 1, 0, none⟩) 1 [⟨xk, xop, xnt, ⟨xvk, xvi, xvs⟩, xtab, xnm, xA, xn, xc, xargs, xB, xm, xd, xsub⟩]) (fun B m c xs K => exs_block (l := [⟨xk, xop, xnt, ⟨xvk, xvi, xvs⟩, xtab, xnm, xA, xn, xc, xargs, xB, xm, xd, xsub⟩]) (K.get 2 rfl) rfl (fun x hx => by
            simp only [List.mem_cons, List.not_mem_nil, or_false] at hx
            subst hx
            exact (K.ro 4 rfl).imp fun w2 h2 => h2.2 _ HM.out))
          have H1 := H.cst #[.string xcol, .int .i64 xk, .int .i64 xop, .bool xnt, .int .i64 xvk, .int .i64 xvi, .string xvs, .string xtab, .string xnm, .slice xA xn xc, .slice xB xm xd] 45
          have F1 := (H1.drop (L' := [_]) (List.Sublist.cons_cons _ (List.nil_sublist _))).factsL
          simp only [World.size_alloc, World.size_drew, factsL, cellsF, Nat.reduceAdd, List.toList_toArray, List.set_cons_zero, List.set_cons_succ, List.setIfInBounds_toArray, and_true, true_and] at F1
          clear H H1 HA
          go_wp2_with fail
          refine ((vis_any d).1 _ _ _ _ _ _ _ _ _ _ _ H3 (by have := HK.out; have := HS.out; have := HT.out; simp only [exsW, List.map_cons, List.map_nil, List.sum_cons, List.sum_nil]; omega)).mono ?_
          rintro e w1 ⟨rfl, H4⟩
          clear H3 F1
          go_wp2_with fail
          go_roundw
          case rel => exact ⟨j2 + 1, by omega, by go_num, (H4.drop (List.Sublist.cons _ (List.Sublist.cons _ (List.sublist_cons_self _ _)))).le (by have := HS.out; simp only [exsW, List.map_cons, List.map_nil, List.sum_cons, List.sum_nil]; omega)⟩
          case measure => simp [intOf]; omega
        · obtain rfl : asn = j2 := by omega
          rw [List.take_of_length_le (by rw [HLS.out]; exact Nat.le_refl _)] at H
          have H3 := H.addRo 2 (S' := QusIn d aqA aqn aql) rfl (fun w2 h2 => h2.parts.2.1)
          have F3 := (H3.drop (L' := [_, _, _]) (List.Sublist.cons_cons _ (List.Sublist.cons_cons _ (List.Sublist.cons_cons _ (List.nil_sublist _))))).factsL
          simp only [World.size_alloc, World.size_drew, factsL, cellsF, Nat.reduceAdd, List.toList_toArray, List.set_cons_zero, List.set_cons_succ, List.setIfInBounds_toArray, and_true, true_and] at F3
          clear H
          go_wp2_with fail
          refine ((vis_any d).2 _ _ _ _ _ _ _ _ _ _ _ H3 (by have := HK.out; omega)).mono ?_
          rintro e w1 ⟨rfl, H4⟩
          have H5 := H4.addRo 3 (S' := ExsIn d awA awn awl) rfl (fun w2 h2 => h2.parts.2.2.2)
          have F5 := (H5.drop (L' := [_, _, _, _]) (List.Sublist.cons_cons _ (List.Sublist.cons_cons _ (List.Sublist.cons_cons _ (List.Sublist.cons_cons _ (List.nil_sublist _)))))).factsL
          simp only [World.size_alloc, World.size_drew, factsL, cellsF, Nat.reduceAdd, List.toList_toArray, List.set_cons_zero, List.set_cons_succ, List.setIfInBounds_toArray, and_true, true_and] at F5
          clear H3 H4 F3
          go_wp2_with fail
          refine ((vis_any d).1 _ _ _ _ _ _ _ _ _ _ _ H5 (by have := HK.out; omega)).mono ?_
          rintro e w2 ⟨rfl, H6⟩
          clear H5 F5
          go_wp2_with fail
          go_ret
          exact ⟨by first | rfl | simp, (H6.drop (List.Sublist.cons _ (List.Sublist.cons _ (List.Sublist.cons _ (List.sublist_cons_self _ _))))).le (by omega)⟩
end Go.Proofs.Ytkpbnlbhfhkhcaa

namespace Go.Proofs.Ytkpbnlbhfhkhcaa
open Go.RowKit
set_option linter.unusedVariables false
set_option linter.unusedSimpArgs false

set_option maxHeartbeats 2000000 in
theorem ins_nil (w : World) : Calls Try.prog 51 #[.slice none 0 0, .int .i64 0, .int .i64 0] w fun e w' => e = .returned (.tuple #[]) ∧ Below w.heap.size w w' := by
  go_enter Try.func51, Try.ntmps51
  go_wp2_with fail
  go_loopw [6] (fun i wr => i = .int .i64 1 ∧ wr = w) (fun _ _ => 0)
  case atStart => exact ⟨rfl, rfl⟩
  case round =>
    obtain ⟨rfl, rfl⟩ := hrel
    go_wp2_with fail
    exact bodyPost_end (v := .tuple #[]) (by simp [results, Try.results51, go_sem]) rfl ⟨rfl, Below.refl _ _⟩
set_option maxHeartbeats 2000000 in
theorem len64_zero (w : World) : Calls Try.prog 61 #[.int .u64 0] w fun e w' => e = .returned (.int .i64 0) ∧ Below w.heap.size w w' := by
  go_enter Try.func61, Try.ntmps61
  go_wp2_with fail
  go_ret
  exact ⟨by first | rfl | (simp; rw [show Lib.len8 0 = 0 from by kernel_rfl]; kernel_rfl), Below.refl _ _⟩
set_option maxHeartbeats 2000000 in
theorem len_zero (w : World) : Calls Try.prog 49 #[.int .u64 0] w fun e w' => e = .returned (.int .i64 0) ∧ Below w.heap.size w w' := by
  go_enter Try.func49, Try.ntmps49
  go_wp2_with fail
  refine (len64_zero w).mono ?_
  rintro e w1 ⟨rfl, b1⟩
  go_wp2_with fail
  go_ret
  exact ⟨rfl, b1⟩
set_option maxHeartbeats 2000000 in
theorem pdq_nil (w : World) : Calls Try.prog 48 #[.slice none 0 0, .int .i64 0, .int .i64 0, .int .i64 0] w fun e w' => e = .returned (.tuple #[]) ∧ Below w.heap.size w w' := by
  go_enter Try.func48, Try.ntmps48
  go_wp2_with fail
  go_loopw [1, 2, 3] (fun x y z wr => x = .int .i64 0 ∧ y = .int .i64 0 ∧ z = .int .i64 0 ∧ wr = w) (fun _ _ _ _ => 0)
  case atStart => exact ⟨rfl, rfl, rfl, rfl⟩
  case round =>
    obtain ⟨rfl, rfl, rfl, rfl⟩ := hrel
    go_wp2_with fail
    refine (ins_nil wr).mono ?_
    rintro e w1 ⟨rfl, b1⟩
    go_wp2_with fail
    exact bodyPost_ret (v := .tuple #[]) (by simp [results, Try.results48, go_sem]) rfl ⟨rfl, b1⟩
set_option maxHeartbeats 2000000 in
theorem sort_nil (w : World) : Calls Try.prog 43 #[.slice none 0 0] w fun e w' => e = .returned (.tuple #[]) ∧ Below w.heap.size w w' := by
  go_enter Try.func43, Try.ntmps43
  go_wp2_with fail
  refine (len_zero w).mono ?_
  rintro e w1 ⟨rfl, b1⟩
  go_wp2_with fail
  refine (pdq_nil w1).mono ?_
  rintro e w2 ⟨rfl, b2⟩
  go_wp2_with fail
  exact bodyPost_end (v := .tuple #[]) (by simp [results, Try.results43, go_sem]) rfl ⟨rfl, b1.trans (b2.mono b1.size)⟩
set_option maxHeartbeats 2000000 in
theorem comp_nil (w : World) : Calls Try.prog 44 #[.slice none 0 0] w fun e w' => e = .returned (.slice none 0 0) ∧ Below w.heap.size w w' := by
  go_enter Try.func44, Try.ntmps44
  go_wp2_with fail
  go_ret
  exact ⟨rfl, Below.refl _ _⟩
end Go.Proofs.Ytkpbnlbhfhkhcaa

namespace Go.Proofs.Ytkpbnlbhfhkhcaa
open Go.RowKit
set_option linter.unusedVariables false
set_option linter.unusedSimpArgs false

/-- the columns that a trigger sets -/
def setCols (t : Tg) : List ByteArray := t.acts.l.flatMap fun a => if a.kind = 5 then a.sets.l.map Se.col else []
def respT (r : Rk) (t : Tg) : Bool :=
  if t.before = true then !(decide (t.tab = r.tab) && decide (t.event = 2) && t.each && (setCols t).any fun c => decide (c = r.col)) else t.acts.l.all (harmlessA r)
def respB (ts : List Tg) (r : Rk) : Bool := ts.all (respT r)
def colGood (cs : List Col) (c : ByteArray) : Bool := match cs.find? (fun x => decide (x.name = c)) with | some x => decide (x.ty = 1) && !x.key | none => false
def rankOk (d : Nat) (ts : List Tg) (tabs : List (ByteArray × List Col)) (t : Tg) (r : Rk) : Bool :=
  (match tabs.find? (fun x => decide (x.1 = r.tab)) with | some x => colGood x.2 r.col | none => false) && (decide (r.lo ≤ r.hi) && decide (r.hi - r.lo ≤ 1048576)) && ownT d t r && respB ts r
def certB (d : Nat) (ts : List Tg) (tabs : List (ByteArray × List Col)) (i : Int) : Bool :=
  if 0 ≤ i then (match ts[i.toNat]? with
    | some t => if t.before = true then false else (match t.rank.l with | r :: _ => rankOk d ts tabs t r | [] => false)
    | none => false) else false

theorem constE_num {x : Ex} {n : Int} (h : NumE x n) (hn : I64 n) : constE x = (n, true) := by
  rcases h with ⟨h0, rfl⟩ | ⟨h0, g, rfl⟩
  · simp [constE, litE]
  · simp only [constE, opE, litE]
    have : IntKind.i64.wrap n = n := IntWalk.i64_in _ hn
    simp [this]
theorem num_lit {x : Ex} {n : Int} (h : NumE x n) (h0 : 0 ≤ n) : x = litE ⟨1, n, ⟨#[]⟩⟩ := by
  rcases h with ⟨_, rfl⟩ | ⟨h1, _⟩
  · rfl
  · omega
/-- an update of u that lowers a column by k where it lies from lo to hi -/
def LowAc (u c : ByteArray) (k lo hi : Int) (a : Ac) : Prop :=
  a.kind = 2 ∧ a.tab = u ∧ ∃ (g1 g2 : Nat) (kE x y : Ex), a.sets.l = [⟨c, opE 5 10 false g1 2 [colE ⟨#[]⟩ c, kE]⟩] ∧ a.wh.l = [opE 7 0 false g2 3 [colE ⟨#[]⟩ c, x, y]] ∧ NumE kE k ∧ NumE x lo ∧ NumE y hi
theorem low_lowers {u c : ByteArray} {k lo hi : Int} {a : Ac} (h : LowAc u c k lo hi a) (hk : 0 ≤ k) : lowersA a c = some k := by
  obtain ⟨h1, h2, g1, g2, kE, x, y, hs, hw, hkE, hx, hy⟩ := h
  rw [num_lit hkE hk] at hs
  simp [lowersA, h1, hs, lowS, stepS, opE, colE, litE]
theorem low_guard {u c : ByteArray} {k lo hi : Int} {a : Ac} (d : Nat) (h : LowAc u c k lo hi a) (h3 : I64 lo) (h4 : I64 hi) : guardA (d + 1) a c = some (lo, hi) := by
  obtain ⟨h1, h2, g1, g2, kE, x, y, hs, hw, hkE, hx, hy⟩ := h
  simp [guardA, h1, hw, frstE, opE, isColB, colE, constE_num hx h3, constE_num hy h4]
theorem low_own {u c : ByteArray} {k lo hi L H : Int} {a : Ac} (d : Nat) (h : LowAc u c k lo hi a) (hk : 0 ≤ k) (h3 : I64 lo) (h4 : I64 hi) : ownAct (d + 1) ⟨u, c, L, H⟩ a = (decide (1 ≤ k) && decide (L ≤ lo) && decide (hi ≤ H)) := by
  have e1 : a.kind = 2 := h.1
  have e2 : a.tab = u := h.2.1
  simp [ownAct, low_lowers h hk, low_guard d h h3 h4, e1, e2]
theorem low_harmless {u c : ByteArray} {k lo hi L H : Int} {a : Ac} (h : LowAc u c k lo hi a) (hk : 0 ≤ k) : harmlessA ⟨u, c, L, H⟩ a = true := by
  have e1 : a.kind = 2 := h.1
  have e2 : a.tab = u := h.2.1
  simp [harmlessA, low_lowers h hk, e1, e2]
end Go.Proofs.Ytkpbnlbhfhkhcaa

namespace Go.Proofs.Ytkpbnlbhfhkhcaa
open Go.RowKit
set_option linter.unusedVariables false
set_option linter.unusedSimpArgs false

/-- the assignments of a trigger's actions that set -/
def setsOf (l : List Ac) : List Se := l.flatMap fun a => if a.kind = 5 then a.sets.l else []
theorem setsOf_cols (t : Tg) : (setsOf t.acts.l).map Se.col = setCols t := by
  unfold setsOf setCols
  generalize t.acts.l = l
  induction l with
  | nil => rfl
  | cons a l ih =>
    rw [List.flatMap_cons, List.flatMap_cons, List.map_append, ih]
    split <;> rfl
theorem setsOf_take {l : List Ac} {k : Nat} {x : Ac} (hx : l[k]? = some x) : setsOf (l.take (k + 1)) = setsOf (l.take k) ++ (if x.kind = 5 then x.sets.l else []) := by
  unfold setsOf
  rw [List.take_add_one, hx]
  simp
theorem setsOf_le {l : List Ac} (k : Nat) : (setsOf (l.take k)).length ≤ (setsOf l).length := by
  have h : setsOf (l.take k ++ l.drop k) = setsOf (l.take k) ++ setsOf (l.drop k) := by unfold setsOf; exact List.flatMap_append ..
  rw [List.take_append_drop] at h
  rw [h, List.length_append]
  omega
theorem setsOf_in {l : List Ac} {d : Nat} {w : World} (h : ∀ a ∈ l, AcIn d a w) : ∀ s ∈ setsOf l, SeIn d s w := fun s hs => by
  unfold setsOf at hs
  rw [List.mem_flatMap] at hs
  obtain ⟨a, ha, hs⟩ := hs
  split at hs
  · exact (h a ha).parts.2.2.1.2 s hs
  · exact nomatch hs
theorem one_ses (l : List Se) : ∀ u ∈ l.flatMap Se.cells, u.oneCell' = true := fun u hu => by
  rw [List.mem_flatMap] at hu
  obtain ⟨x, _, hx⟩ := hu
  unfold Se.cells at hx
  rcases List.mem_cons.1 hx with rfl | hx
  · rfl
  · exact one_ex x.e u hx
theorem Try.elSe : ElemT Try.prog 41 45 11 152 (.agg #[.string ⟨#[]⟩, .int .i64 0, .int .i64 0, .bool false, .int .i64 0, .int .i64 0, .string ⟨#[]⟩, .string ⟨#[]⟩, .string ⟨#[]⟩, .slice none 0 0, .slice none 0 0]) := ⟨Try.underlying41, by kernel_rfl, rfl, by omega⟩
set_option maxRecDepth 100000 in
set_option maxHeartbeats 4000000 in
theorem fsets_any (M : Nat → Prop) (w : World) (hM : ∀ b, M b → b < w.heap.size) (t : Tg) (d : Nat) (ha : Ro w M (AcsIn d t.acts.A t.acts.n t.acts.l)) (hn : t.acts.n ≤ 9223372036854775807) (hs : (setsOf t.acts.l).length ≤ 549755813888) :
    Calls Try.prog 42 #[t.val] w fun e w' => ∃ (A : Option Addr) (n c : Nat), e = .returned (.slice A n c) ∧ n ≤ 549755813888 ∧ Ro w' M (SesIn d A n (setsOf t.acts.l)) ∧ Below w.heap.size w w' := by
  obtain ⟨tname, ttab, tbef, tev, ⟨cA, cn, cc, cl⟩, teach, ⟨pA, pn, pc, pl⟩, ⟨fA, fn, fc, fl⟩, ⟨kA, kn, kc, kl⟩, ⟨oA, on, oc, ol⟩, ⟨uA, un, uc, ul⟩⟩ := t
  simp only [Tg.val] at ha hn hs ⊢
  have HL := hid ha.now.len
  have HS := hid hs
  have K0 := ((Hold.start M w hM).add (ha.less (by simp [Mut]))).alloc_cst #[.string tname, .string ttab, .bool tbef, .int .i64 tev, .slice cA cn cc, .bool teach, .slice pA pn pc, .slice fA fn fc, .slice kA kn kc, .slice oA on oc, .slice uA un uc] 28
  have KN := K0.nil 45 11
  have F0 := K0.facts
  simp only [World.size_alloc, World.size_drew, factsL, cellsF, Nat.reduceAdd, List.toList_toArray, List.set_cons_zero, List.set_cons_succ, List.setIfInBounds_toArray, and_true, true_and] at F0
  clear ha hs
  go_enter Try.func42, Try.ntmps42
  go_wp2_with fail
  clear F0 K0
  go_loopw [3, 9] (fun ov iv wr => ∃ (k q cap : Nat) (O : Option Addr), k ≤ un ∧ iv = .int .i64 k ∧ ov = .slice O q cap ∧ Hid (q = (setsOf (ul.take k)).length) ∧ Hold M none w wr [.own 45 11 (.slice O q cap) q ((setsOf (ul.take k)).flatMap Se.cells), .cst w.heap.size 28 #[.string tname, .string ttab, .bool tbef, .int .i64 tev, .slice cA cn cc, .bool teach, .slice pA pn pc, .slice fA fn fc, .slice kA kn kc, .slice oA on oc, .slice uA un uc], .ro (AcsIn d uA un ul)]) (fun _ i _ => un - (intOf i).toNat)
  case atStart => exact ⟨0, 0, 0, none, by omega, rfl, rfl, hid rfl, KN⟩
  case round =>
    clear KN
    obtain ⟨k, q, cap, O, hk, rfl, rfl, HQ, H⟩ := hrel
    by_cases hlt : k < un
    · obtain ⟨⟨ak, atab, ⟨arA, arn, arc, arl⟩, ⟨aqA, aqn, aqc, aql⟩, ⟨asA, asn, asc, asl⟩, ⟨awA, awn, awc, awl⟩, atext⟩, hc⟩ := get_any HL.out hlt
      obtain ⟨b, o, rfl, hb, hcl, -⟩ := (H.ro 2 rfl).now.at_ hc
      have c0 := hcl 0 _ (by omega) rfl
      have c1 := hcl 1 _ (by omega) rfl
      have c2 := hcl 2 _ (by omega) rfl
      have c3 := hcl 3 _ (by omega) rfl
      have c4 := hcl 4 _ (by omega) rfl
      have c5 := hcl 5 _ (by omega) rfl
      have c6 := hcl 6 _ (by omega) rfl
      simp only [Nat.add_zero] at c0
      clear hcl
      simp only [SlP.v] at c2 c3 c4 c5
      have HT := hid (setsOf_take hc)
      have HTL := hid (setsOf_le (l := ul) (k + 1))
      have HM := hid (List.mem_of_getElem? hc)
      clear hc
      have K1 := H.alloc_cst #[.int .i64 ak, .string atab, .slice arA arn arc, .slice aqA aqn aqc, .slice asA asn asc, .slice awA awn awc, .string atext] 43
      have F1 := K1.facts
      simp only [World.size_alloc, World.size_drew, factsL, cellsF, Nat.reduceAdd, List.toList_toArray, List.set_cons_zero, List.set_cons_succ, List.setIfInBounds_toArray, and_true, true_and] at F1
      clear H
      by_cases h5 : ak = 5
      · subst h5
        have hS := ((K1.ro 3 rfl).now.2 _ HM.out).parts.2.2.1
        simp only at hS
        have hlen := hS.len
        have e1 : (setsOf (ul.take (k + 1))).length = q + asn := by
          rw [HT.out, List.length_append, HQ.out]; simp [hlen]
        have e2 : (setsOf (ul.take k)).flatMap Se.cells ++ asl.flatMap Se.cells = (setsOf (ul.take (k + 1))).flatMap Se.cells := by
          rw [HT.out, List.flatMap_append]; simp
        have hqs : q + asn ≤ 549755813888 := by have := HTL.out; have := HS.out; omega
        have HE1 := hid e1
        have HE2 := hid e2
        have HSR := hid hS.1
        clear e1 e2 hlen hS
        go_wp2_with (at_builtin; go_must (refine wpList_appAllH K1 1 rfl Try.elSe HSR.out rfl (.tmp 16) (.tmp 18) rfl rfl rfl (one_ses _) (by omega) (by omega) ?_); intro C9 cap9 w9 hc9 hm9 KB; rw [HE2.out] at KB; simp only [List.set_cons_zero, List.set_cons_succ] at KB)
        go_roundw
        case rel => exact ⟨k + 1, q + asn, cap9, _, by omega, by go_num, by first | rfl | trivial, hid HE1.out.symm, KB.drop (List.sublist_cons_self _ _)⟩
        case measure => simp [intOf]; omega
      · have e1 : setsOf (ul.take (k + 1)) = setsOf (ul.take k) := by rw [HT.out]; simp [h5]
        go_wp2_with fail
        all_goals first
          | (exfalso; omega)
          | skip
        go_roundw
        case rel => exact ⟨k + 1, q, cap, O, by omega, by go_num, by first | rfl | trivial, hid (by rw [e1]; exact HQ.out), by rw [e1]; exact K1.drop (List.sublist_cons_self _ _)⟩
        case measure => simp [intOf]; omega
    · obtain rfl : un = k := by omega
      rw [List.take_of_length_le (by rw [HL.out]; exact Nat.le_refl _)] at H HQ
      have K1 := H.sealRow 0 rfl
      simp only [List.set_cons_zero] at K1
      have F := H.facts
      simp only [World.size_alloc, World.size_drew, factsL, cellsF, Nat.reduceAdd, List.toList_toArray, List.set_cons_zero, List.set_cons_succ, List.setIfInBounds_toArray, and_true, true_and] at F
      have hq : q ≤ 549755813888 := by have := HQ.out; have := HS.out; omega
      go_wp2_with fail
      go_ret
      refine ⟨O, q, cap, by first | rfl | simp, hq, ?_, H.below⟩
      have R1 := K1.ro 0 rfl
      have R2 := K1.ro 2 rfl
      exact ((R1.and R2).imp fun w2 h2 => ⟨h2.1, setsOf_in h2.2.2⟩).less fun b hb => .inl hb
set_option maxRecDepth 100000 in
set_option maxHeartbeats 2000000 in
theorem visit_any (M : Nat → Prop) (row : Option Nat) (w0 w : World) (g k : Nat) (L : List Hp) (d : Nat) (a : Ac) (h : NmSt M row w0 w g k (.ro (AcIn d a) :: L)) (hk : k + acW d a ≤ 4398046511104) :
    Calls Try.prog 41 #[a.val, rowV g] w fun r w' => (∃ b, r = .returned (.bool b)) ∧ NmSt M row w0 w' g (k + acW d a) (.ro (AcIn d a) :: L) := by
  have hce := fun (w : World) (L : List Hp) (h : NmSt M row w0 w g k (.ro (AcIn d a) :: L)) => visA_any M row w0 w g k L d a h hk
  have H1 := h.cst #[.int .i64 a.kind, .string a.tab, .slice a.rows.A a.rows.n a.rows.c, .slice a.qs.A a.qs.n a.qs.c, .slice a.sets.A a.sets.n a.sets.c, .slice a.wh.A a.wh.n a.wh.c, .string a.text] 43
  have F1 := (H1.drop (L' := [_]) (List.Sublist.cons_cons _ (List.nil_sublist _))).factsL
  simp only [World.size_alloc, World.size_drew, factsL, cellsF, Nat.reduceAdd, List.toList_toArray, List.set_cons_zero, List.set_cons_succ, List.setIfInBounds_toArray, and_true, true_and] at F1
  obtain ⟨P, m, c, xs, hm, K⟩ := H1
  have H2 : NmSt M row w0 _ g k (.ro (AcIn d a) :: .cst w.heap.size 43 #[.int .i64 a.kind, .string a.tab, .slice a.rows.A a.rows.n a.rows.c, .slice a.qs.A a.qs.n a.qs.c, .slice a.sets.A a.sets.n a.sets.c, .slice a.wh.A a.wh.n a.wh.c, .string a.text] :: L) := ⟨P, m, c, xs, hm, K.perm (((List.Perm.swap _ _ _).cons _).cons _)⟩
  simp only [Ac.val] at hce ⊢
  have HCE := hid hce
  clear hce K
  go_enter Try.func41, Try.ntmps41
  go_wp2_with fail
  refine (HCE.out _ _ H2).mono ?_
  rintro e w1 ⟨rfl, H3⟩
  go_wp2_with fail
  go_ret
  exact ⟨⟨true, by first | rfl | simp⟩, H3.drop (List.Sublist.cons_cons _ (List.sublist_cons_self _ _))⟩
set_option maxRecDepth 100000 in
set_option maxHeartbeats 2000000 in
theorem visitAll_any (M : Nat → Prop) (row : Option Nat) (w0 w : World) (g k : Nat) (L : List Hp) (d : Nat) (A : Option Addr) (n c : Nat) (l : List Ex) (h : NmSt M row w0 w g k (.ro (ExsIn d A n l) :: L)) (hk : k + exsW d l ≤ 4398046511104) :
    Calls Try.prog 40 #[.slice A n c, rowV g] w fun r w' => (∃ b, r = .returned (.bool b)) ∧ NmSt M row w0 w' g (k + exsW d l) (.ro (ExsIn d A n l) :: L) := by
  go_enter Try.func40, Try.ntmps40
  go_wp2_with fail
  refine ((vis_any d).1 _ _ _ _ _ _ _ _ _ _ _ h hk).mono ?_
  rintro e w1 ⟨rfl, H3⟩
  go_wp2_with fail
  go_ret
  exact ⟨⟨true, by first | rfl | simp⟩, H3⟩
end Go.Proofs.Ytkpbnlbhfhkhcaa

namespace Go.Proofs.Ytkpbnlbhfhkhcaa
open Go.RowKit
set_option linter.unusedVariables false
set_option linter.unusedSimpArgs false

theorem set_sameR {α : Type} {L : List α} {i : Nat} {x : α} (h : L[i]? = some x) : L.set i x = L := by
  apply List.ext_getElem?
  intro j
  rw [List.getElem?_set]
  split
  · subst i; split
    · exact h.symm
    · rw [List.getElem?_eq_none (by omega)]
  · rfl
theorem sortS_any {M : Nat → Prop} {row : Option Nat} {w0 w : World} {L : List Hp} (K : Hold M row w0 w L) (i : Nat) {e : TypeId} {A : Option Addr} {q cap : Nat} {ss : List ByteArray} (hi : L[i]? = some (.own e 1 (.slice A q cap) q (strsCells ss))) (hq : q < 4611686018427387904) :
    Calls Try.prog 43 #[.slice A q cap] w fun e' w' => e' = .returned (.tuple #[]) ∧ ∃ ss' : List ByteArray, ss'.Perm ss ∧ Hold M row w0 w' (L.set i (.own e 1 (.slice A q cap) q (strsCells ss'))) := by
  rcases own_addr (show w.ownsRow w0.heap.size e 1 (.slice A q cap) q (strsCells ss) from K.get i hi) with ⟨rfl, rfl, rfl⟩ | ⟨g, rfl, _⟩
  · refine (sort_nil w).mono ?_
    rintro e' w' ⟨rfl, b⟩
    exact ⟨rfl, ss, List.Perm.refl _, by rw [set_sameR hi]; exact K.call b⟩
  · exact sortstr_any K i hi hq
theorem compS_any {M : Nat → Prop} {row : Option Nat} {w0 w : World} {L : List Hp} (K : Hold M row w0 w L) (i : Nat) {e : TypeId} {A : Option Addr} {q cap : Nat} {ss : List ByteArray} (hi : L[i]? = some (.own e 1 (.slice A q cap) q (strsCells ss))) (hq : q ≤ 9223372036854775807) :
    Calls Try.prog 44 #[.slice A q cap] w fun e' w' => ∃ (q' : Nat) (ss' : List ByteArray), e' = .returned (.slice A q' cap) ∧ q' ≤ q ∧ (∀ s, s ∈ ss' ↔ s ∈ ss) ∧ Hold M row w0 w' (L.set i (.own e 1 (.slice A q' cap) q' (strsCells ss'))) := by
  rcases own_addr (show w.ownsRow w0.heap.size e 1 (.slice A q cap) q (strsCells ss) from K.get i hi) with ⟨rfl, rfl, rfl⟩ | ⟨g, rfl, _⟩
  · refine (comp_nil w).mono ?_
    rintro e' w' ⟨rfl, b⟩
    exact ⟨0, ss, rfl, Nat.le_refl _, fun s => Iff.rfl, by rw [set_sameR hi]; exact K.call b⟩
  · exact compstr_any K i hi hq
theorem NmSt.call {M : Nat → Prop} {row : Option Nat} {w0 w w' : World} {g k : Nat} {L : List Hp} (h : NmSt M row w0 w g k L) (b : Below w.heap.size w w') : NmSt M row w0 w' g k L := by
  obtain ⟨B, m, c, xs, hm, K⟩ := h
  exact ⟨B, m, c, xs, hm, K.call b⟩
def tgW (d : Nat) (t : Tg) : Nat := exsW d t.cond.l + acsW d t.acts.l
theorem TgIn.parts {d : Nat} {t : Tg} {w : World} (h : TgIn d t w) : ExsIn d t.cond.A t.cond.n t.cond.l w ∧ AcsIn d t.acts.A t.acts.n t.acts.l w := ⟨h.2.2.2.2.1, h.2.2.2.2.2⟩
set_option maxRecDepth 100000 in
set_option maxHeartbeats 4000000 in
theorem row0_any (w : World) (t : Tg) (h : ¬ (t.before = true ∧ t.each = true)) :
    Calls Try.prog 31 #[t.val] w fun e w' => e = .returned (.tuple #[.slice none 0 0, .slice none 0 0]) ∧ Below w.heap.size w w' := by
  obtain ⟨tname, ttab, tbef, tev, ⟨cA, cn, cc, cl⟩, teach, ⟨pA, pn, pc, pl⟩, ⟨fA, fn, fc, fl⟩, ⟨kA, kn, kc, kl⟩, ⟨oA, on, oc, ol⟩, ⟨uA, un, uc, ul⟩⟩ := t
  simp only [Tg.val] at h ⊢
  have K0 := (Hold.begin_ w).alloc_cst #[.string tname, .string ttab, .bool tbef, .int .i64 tev, .slice cA cn cc, .bool teach, .slice pA pn pc, .slice fA fn fc, .slice kA kn kc, .slice oA on oc, .slice uA un uc] 28
  have F0 := K0.facts
  simp only [World.size_alloc, World.size_drew, factsL, cellsF, Nat.reduceAdd, List.toList_toArray, List.set_cons_zero, List.set_cons_succ, List.setIfInBounds_toArray, and_true, true_and] at F0
  have HB := hid K0.below
  clear K0
  go_enter Try.func31, Try.ntmps31
  cases tbef <;> cases teach
  all_goals first
    | (exfalso; exact h ⟨rfl, rfl⟩)
    | (clear h; go_wp2_with fail; refine bodyPost_ret (results_tmp2 rfl _ _ _) rfl ?_; exact ⟨rfl, HB.out⟩)
set_option maxRecDepth 100000 in
set_option maxHeartbeats 8000000 in
theorem row1_any (M : Nat → Prop) (w : World) (hM : ∀ b, M b → b < w.heap.size) (t : Tg) (d : Nat) (ha : Ro w M (TgIn d t)) (hn : t.acts.n ≤ 9223372036854775807) (hs : (setsOf t.acts.l).length ≤ 549755813888) (hw : tgW d t ≤ 4398046511104) (hb : t.before = true) (he : t.each = true) :
    Calls Try.prog 31 #[t.val] w fun e w' => ∃ (B C : Option Addr) (m c k c2 : Nat) (xs : List ByteArray), e = .returned (.tuple #[.slice B m c, .slice C k c2]) ∧ k ≤ 549755813888 ∧ Ro w' M (StrsIn C k xs) ∧ (∀ s, s ∈ xs ↔ s ∈ setCols t) ∧ Below w.heap.size w w' := by
  obtain ⟨hC, hA⟩ := ha.now.parts
  have HSC := hid (setsOf_cols t)
  generalize setCols t = SC at *
  obtain ⟨tname, ttab, tbef, tev, ⟨cA, cn, cc, cl⟩, teach, ⟨pA, pn, pc, pl⟩, ⟨fA, fn, fc, fl⟩, ⟨kA, kn, kc, kl⟩, ⟨oA, on, oc, ol⟩, ⟨uA, un, uc, ul⟩⟩ := t
  simp only [Tg.val, tgW] at hb he hn hs hw hC hA HSC ⊢
  subst hb
  subst he
  have HL := hid hA.len
  have HW := hid hw
  have HS := hid hs
  clear hC hA hw hs
  have K0 := ((Hold.start M w hM).add (ha.less (by simp [Mut]))).alloc_cst #[.string tname, .string ttab, .bool true, .int .i64 tev, .slice cA cn cc, .bool true, .slice pA pn pc, .slice fA fn fc, .slice kA kn kc, .slice oA on oc, .slice uA un uc] 28
  have K1 := (K0.alloc #[.slice none 0 0] 23).nil 9 1
  simp only [World.size_alloc] at K1
  have H0 : NmSt M none w _ (w.heap.size + 1) 0 [.cst w.heap.size 28 #[.string tname, .string ttab, .bool true, .int .i64 tev, .slice cA cn cc, .bool true, .slice pA pn pc, .slice fA fn fc, .slice kA kn kc, .slice oA on oc, .slice uA un uc], .ro (TgIn d ⟨tname, ttab, true, tev, ⟨cA, cn, cc, cl⟩, true, ⟨pA, pn, pc, pl⟩, ⟨fA, fn, fc, fl⟩, ⟨kA, kn, kc, kl⟩, ⟨oA, on, oc, ol⟩, ⟨uA, un, uc, ul⟩⟩)] := ⟨none, 0, 0, [], Nat.le_refl _, K1.perm (List.Perm.swap _ _ _)⟩
  have H1 := H0.addRo 1 (S' := ExsIn d oA on ol) rfl (fun w2 h2 => h2.parts.1)
  have F1 := K1.facts
  simp only [World.size_alloc, World.size_drew, factsL, cellsF, Nat.reduceAdd, List.toList_toArray, List.set_cons_zero, List.set_cons_succ, List.setIfInBounds_toArray, and_true, true_and] at F1
  clear ha K0 K1 H0
  obtain ⟨g, hg⟩ : ∃ g, g = w.heap.size + 1 := ⟨_, rfl⟩
  go_enter Try.func31, Try.ntmps31
  go_wp2_with fail
  rw [← hg] at H1 ⊢
  have HG := hid hg
  clear hg
  refine (visitAll_any _ _ _ _ _ _ _ _ _ _ _ _ H1 (by have := HW.out; omega)).mono ?_
  rintro e w1 ⟨⟨vb, rfl⟩, H2⟩
  have H3 := H2.addRo 2 (S' := AcsIn d uA un ul) rfl (fun w2 h2 => h2.parts.2)
  have H4 := H3.drop (L' := [.ro (AcsIn d uA un ul), .cst w.heap.size 28 #[.string tname, .string ttab, .bool true, .int .i64 tev, .slice cA cn cc, .bool true, .slice pA pn pc, .slice fA fn fc, .slice kA kn kc, .slice oA on oc, .slice uA un uc], .ro (TgIn d ⟨tname, ttab, true, tev, ⟨cA, cn, cc, cl⟩, true, ⟨pA, pn, pc, pl⟩, ⟨fA, fn, fc, fl⟩, ⟨kA, kn, kc, kl⟩, ⟨oA, on, oc, ol⟩, ⟨uA, un, uc, ul⟩⟩)]) (List.Sublist.cons_cons _ (List.Sublist.cons _ (List.Sublist.refl _)))
  clear H1 H2 H3 F1
  have F4 := (H4.drop (L' := [_, _, _]) (List.Sublist.cons_cons _ (List.Sublist.cons_cons _ (List.Sublist.cons_cons _ (List.nil_sublist _))))).factsL
  simp only [World.size_alloc, World.size_drew, factsL, cellsF, Nat.reduceAdd, List.toList_toArray, List.set_cons_zero, List.set_cons_succ, List.setIfInBounds_toArray, and_true, true_and] at F4
  go_wp2_with fail
  clear F4
  go_loopw [27] (fun iv wr => ∃ (j : Nat), j ≤ un ∧ iv = .int .i64 j ∧ NmSt M none w wr g (0 + exsW d ol + acsW d (ul.take j)) [.ro (AcsIn d uA un ul), .cst w.heap.size 28 #[.string tname, .string ttab, .bool true, .int .i64 tev, .slice cA cn cc, .bool true, .slice pA pn pc, .slice fA fn fc, .slice kA kn kc, .slice oA on oc, .slice uA un uc], .ro (TgIn d ⟨tname, ttab, true, tev, ⟨cA, cn, cc, cl⟩, true, ⟨pA, pn, pc, pl⟩, ⟨fA, fn, fc, fl⟩, ⟨kA, kn, kc, kl⟩, ⟨oA, on, oc, ol⟩, ⟨uA, un, uc, ul⟩⟩)]) (fun iv _ => un - (intOf iv).toNat)
  case atStart => exact ⟨0, by omega, rfl, H4⟩
  case round =>
    clear H4
    obtain ⟨j, hj, rfl, H⟩ := hrel
    by_cases hlt : j < un
    · obtain ⟨⟨ak, atab, ⟨arA, arn, arc, arl⟩, ⟨aqA, aqn, aqc, aql⟩, ⟨asA, asn, asc, asl⟩, ⟨awA, awn, awc, awl⟩, atext⟩, hc⟩ := get_any HL.out hlt
      obtain ⟨b, o, rfl, hb, hcl, -⟩ := (H.ro 0 rfl).at_ hc
      have c0 := hcl 0 _ (by omega) rfl
      have c1 := hcl 1 _ (by omega) rfl
      have c2 := hcl 2 _ (by omega) rfl
      have c3 := hcl 3 _ (by omega) rfl
      have c4 := hcl 4 _ (by omega) rfl
      have c5 := hcl 5 _ (by omega) rfl
      have c6 := hcl 6 _ (by omega) rfl
      simp only [Nat.add_zero] at c0
      clear hcl
      simp only [SlP.v] at c2 c3 c4 c5
      have HSS := hid (show acsW d (ul.take (j + 1)) = acsW d (ul.take j) + acW d ⟨ak, atab, ⟨arA, arn, arc, arl⟩, ⟨aqA, aqn, aqc, aql⟩, ⟨asA, asn, asc, asl⟩, ⟨awA, awn, awc, awl⟩, atext⟩ from sum_take hc)
      have HT := hid (show acsW d (ul.take (j + 1)) ≤ acsW d ul from sum_take_le ul (j + 1))
      have HM := hid (List.mem_of_getElem? hc)
      clear hc
      have H1 := H.cst #[.int .i64 ak, .string atab, .slice arA arn arc, .slice aqA aqn aqc, .slice asA asn asc, .slice awA awn awc, .string atext] 43
      have H5 := H1.addRo 1 (S' := AcIn d ⟨ak, atab, ⟨arA, arn, arc, arl⟩, ⟨aqA, aqn, aqc, aql⟩, ⟨asA, asn, asc, asl⟩, ⟨awA, awn, awc, awl⟩, atext⟩) rfl (fun w2 h2 => h2.2 _ HM.out)
      have F5 := (H5.drop (L' := [_, _]) (List.Sublist.cons_cons _ (List.Sublist.cons_cons _ (List.nil_sublist _)))).factsL
      simp only [World.size_alloc, World.size_drew, factsL, cellsF, Nat.reduceAdd, List.toList_toArray, List.set_cons_zero, List.set_cons_succ, List.setIfInBounds_toArray, and_true, true_and] at F5
      clear H H1
      have hce := visit_any _ _ _ _ _ _ _ _ ⟨ak, atab, ⟨arA, arn, arc, arl⟩, ⟨aqA, aqn, aqc, aql⟩, ⟨asA, asn, asc, asl⟩, ⟨awA, awn, awc, awl⟩, atext⟩ H5 (by have := HW.out; have := HSS.out; have := HT.out; omega)
      simp only [Ac.val] at hce
      go_wp2_with fail
      refine hce.mono ?_
      rintro e w2 ⟨⟨vb2, rfl⟩, H6⟩
      clear H5 F5 hce
      go_wp2_with fail
      go_roundw
      case rel => exact ⟨j + 1, by omega, by go_num, (H6.drop (List.Sublist.cons _ (List.Sublist.cons _ (List.Sublist.refl _)))).le (by have := HSS.out; omega)⟩
      case measure => simp [intOf]; omega
    · obtain rfl : un = j := by omega
      rw [List.take_of_length_le (by rw [HL.out]; exact Nat.le_refl _)] at H
      obtain ⟨B, m, c, xs, hm, K2⟩ := H
      have HMM := hid hm
      clear hm
      have F2 := K2.facts
      simp only [World.size_alloc, World.size_drew, factsL, cellsF, Nat.reduceAdd, List.toList_toArray, List.set_cons_zero, List.set_cons_succ, List.setIfInBounds_toArray, and_true, true_and] at F2
      have hce := fsets_any _ _ K2.mutLt ⟨tname, ttab, true, tev, ⟨cA, cn, cc, cl⟩, true, ⟨pA, pn, pc, pl⟩, ⟨fA, fn, fc, fl⟩, ⟨kA, kn, kc, kl⟩, ⟨oA, on, oc, ol⟩, ⟨uA, un, uc, ul⟩⟩ d (K2.ro 2 rfl) hn HS.out
      simp only [Tg.val] at hce
      go_wp2_with fail
      refine hce.mono ?_
      rintro e w3 ⟨A3, n3, c3, rfl, hn3, r3, b3⟩
      have K3 := ((K2.call b3).add r3).nil 9 1
      clear K2 F2 hce b3 r3
      have HSO := hid (show (setsOf ul).map Se.col = SC from HSC.out)
      try simp only at K3
      generalize setsOf ul = SS at *
      have HL3 := hid (K3.ro 1 rfl).now.len
      have HML : m ≤ 4398046511104 := by have := HMM.out; have := HW.out; omega
      go_wp2_with fail
      go_loopw [5, 38] (fun ov iv wr => ∃ (k cap : Nat) (O : Option Addr), k ≤ n3 ∧ iv = .int .i64 k ∧ ov = .slice O k cap ∧ Hold M none w wr [.own 9 1 (.slice O k cap) k (strsCells ((SS.take k).map Se.col)), .ro (SesIn d A3 n3 SS), .blk g 23 #[.slice B m c], .own 9 1 (.slice B m c) m (strsCells xs), .ro (AcsIn d uA un ul), .cst w.heap.size 28 #[.string tname, .string ttab, .bool true, .int .i64 tev, .slice cA cn cc, .bool true, .slice pA pn pc, .slice fA fn fc, .slice kA kn kc, .slice oA on oc, .slice uA un uc], .ro (TgIn d ⟨tname, ttab, true, tev, ⟨cA, cn, cc, cl⟩, true, ⟨pA, pn, pc, pl⟩, ⟨fA, fn, fc, fl⟩, ⟨kA, kn, kc, kl⟩, ⟨oA, on, oc, ol⟩, ⟨uA, un, uc, ul⟩⟩)]) (fun _ i _ => n3 - (intOf i).toNat)
      case atStart => exact ⟨0, 0, none, by omega, rfl, rfl, K3⟩
      case round =>
        clear K3
        obtain ⟨k, cap, O, hk, rfl, rfl, H⟩ := hrel
        by_cases hlt3 : k < n3
        · obtain ⟨⟨xcol, ⟨xk, xop, xnt, ⟨xvk, xvi, xvs⟩, xtab, xnm, xA, xn, xc, xargs, xB, xm, xd, xsub⟩⟩, hc⟩ := get_any HL3.out hlt3
          obtain ⟨b, o, rfl, hb, hcl, -⟩ := (H.ro 1 rfl).now.at_ hc
          have c0 := hcl 0 _ (by omega) rfl
          have c1 := hcl 1 _ (by omega) rfl
          have c2 := hcl 2 _ (by omega) rfl
          have c3 := hcl 3 _ (by omega) rfl
          have c4 := hcl 4 _ (by omega) rfl
          have c5 := hcl 5 _ (by omega) rfl
          have c6 := hcl 6 _ (by omega) rfl
          have c7 := hcl 7 _ (by omega) rfl
          have c8 := hcl 8 _ (by omega) rfl
          have c9 := hcl 9 _ (by omega) rfl
          have c10 := hcl 10 _ (by omega) rfl
          simp only [Nat.add_zero] at c0
          clear hcl
          have HCE := hid (show strsCells ((SS.take k).map Se.col) ++ (#[Value.string xcol]).toList = strsCells ((SS.take (k + 1)).map Se.col) by rw [List.take_add_one, hc]; simp [strsCells])
          clear hc
          have K1 := H.alloc_cst #[.string xcol, .int .i64 xk, .int .i64 xop, .bool xnt, .int .i64 xvk, .int .i64 xvi, .string xvs, .string xtab, .string xnm, .slice xA xn xc, .slice xB xm xd] 45
          have F1 := K1.facts
          simp only [World.size_alloc, World.size_drew, factsL, cellsF, Nat.reduceAdd, List.toList_toArray, List.set_cons_zero, List.set_cons_succ, List.setIfInBounds_toArray, and_true, true_and] at F1
          clear H
          go_wp2_with (at_builtin; go_must (refine wpList_appH K1 1 rfl Try.elSt #[.string xcol] rfl (.tmp 42) (.tmp 45) rfl rfl _ (by first | rfl | simp) rfl rfl (by intro u hu; simp at hu; rcases hu with rfl; rfl) (by omega) (by omega) ?_); intro g9 cap9 w9 hc9 hm9 KB; rw [HCE.out] at KB; simp only [List.set_cons_zero, List.set_cons_succ] at KB)
          go_roundw
          case rel => exact ⟨k + 1, cap9, _, by omega, by go_num, by first | rfl | trivial, KB.drop (List.sublist_cons_self _ _)⟩
          case measure => simp [intOf]; omega
        · obtain rfl : n3 = k := by omega
          rw [List.take_of_length_le (by rw [HL3.out]; exact Nat.le_refl _), HSO.out] at H
          have F := H.facts
          simp only [World.size_alloc, World.size_drew, factsL, cellsF, Nat.reduceAdd, List.toList_toArray, List.set_cons_zero, List.set_cons_succ, List.setIfInBounds_toArray, and_true, true_and] at F
          go_wp2_with fail
          refine (sortS_any H 3 rfl (by omega)).mono ?_
          rintro e w4 ⟨rfl, ys, hys, K4⟩
          simp only [List.set_cons_zero, List.set_cons_succ] at K4
          clear H F
          have F4 := K4.facts
          simp only [World.size_alloc, World.size_drew, factsL, cellsF, Nat.reduceAdd, List.toList_toArray, List.set_cons_zero, List.set_cons_succ, List.setIfInBounds_toArray, and_true, true_and] at F4
          go_wp2_with fail
          refine (sortS_any K4 0 rfl (by omega)).mono ?_
          rintro e w5 ⟨rfl, zs, hzs, K5⟩
          simp only [List.set_cons_zero, List.set_cons_succ] at K5
          clear K4 F4
          have F5 := K5.facts
          simp only [World.size_alloc, World.size_drew, factsL, cellsF, Nat.reduceAdd, List.toList_toArray, List.set_cons_zero, List.set_cons_succ, List.setIfInBounds_toArray, and_true, true_and] at F5
          have HZ := hid (fun s : ByteArray => hzs.mem_iff (a := s))
          clear hzs hys
          go_wp2_with fail
          refine (compS_any K5 3 rfl (by omega)).mono ?_
          rintro e w6 ⟨q6, ys6, rfl, hq6, -, K6⟩
          simp only [List.set_cons_zero, List.set_cons_succ] at K6
          clear K5 F5
          go_wp2_with fail
          refine (compS_any K6 0 rfl (by omega)).mono ?_
          rintro e w7 ⟨q7, zs7, rfl, hq7, hz7, K7⟩
          simp only [List.set_cons_zero, List.set_cons_succ] at K7
          have HZ7 := hid hz7
          clear K6 hz7
          go_wp2_with fail
          refine bodyPost_ret (results_tmp2 rfl _ _ _) rfl ?_
          have K8 := K7.sealRow 0 rfl
          simp only [List.set_cons_zero] at K8
          exact ⟨_, _, _, _, _, _, zs7, rfl, by omega, (K8.ro 0 rfl).less (fun b hb => .inl hb), fun s => (HZ7.out s).trans (HZ.out s), K7.below⟩
end Go.Proofs.Ytkpbnlbhfhkhcaa

namespace Go.Proofs.Ytkpbnlbhfhkhcaa
open Go.RowKit
set_option linter.unusedVariables false
set_option linter.unusedSimpArgs false

set_option maxRecDepth 100000 in
set_option maxHeartbeats 2000000 in
theorem assigned_any (M : Nat → Prop) (w : World) (hM : ∀ b, M b → b < w.heap.size) (a : Ac) (d : Nat) (ha : Ro w M (AcIn d a)) (hn : a.sets.n ≤ 1000000) : Calls Try.prog 38 #[a.val] w fun e w' => OwnStrs w (assignedA a) e w' := by
  have hD : Ro w M (SesIn d a.sets.A a.sets.n a.sets.l) := ha.imp fun w2 h2 => h2.2.2.1
  obtain ⟨ak, atab, ⟨arA, arn, arc, arl⟩, ⟨aqA, aqn, aqc, aql⟩, ⟨asA, asn, asc, asl⟩, ⟨awA, awn, awc, awl⟩, atext⟩ := a
  simp only [Ac.val, assignedA] at hD hn ⊢
  clear ha
  by_cases hk : ak = 2
  · subst hk
    rw [if_pos rfl]
    have HL := hid hD.now.len
    have K0 := (((Hold.start M w hM).add (hD.less (by simp [Mut]))).alloc_cst #[.int .i64 2, .string atab, .slice arA arn arc, .slice aqA aqn aqc, .slice asA asn asc, .slice awA awn awc, .string atext] 43)
    have KN := K0.nil 9 1
    have F0 := K0.facts
    simp only [World.size_alloc, World.size_drew, factsL, cellsF, Nat.reduceAdd, List.toList_toArray, List.set_cons_zero, List.set_cons_succ, List.setIfInBounds_toArray, and_true, true_and] at F0
    go_enter Try.func38, Try.ntmps38
    go_wp2_with fail
    clear F0 K0
    go_loopw [3, 12] (fun ov iv wr => ∃ (k cap : Nat) (O : Option Addr), k ≤ asn ∧ iv = .int .i64 k ∧ ov = .slice O k cap ∧ Hold M none w wr [.own 9 1 (.slice O k cap) k (strsCells ((asl.take k).map Se.col)), .cst w.heap.size 43 #[.int .i64 2, .string atab, .slice arA arn arc, .slice aqA aqn aqc, .slice asA asn asc, .slice awA awn awc, .string atext], .ro (SesIn d asA asn asl)]) (fun _ i _ => asn - (intOf i).toNat)
    case atStart => exact ⟨0, 0, none, by omega, rfl, rfl, KN⟩
    case round =>
      clear KN
      obtain ⟨k, cap, O, hk, rfl, rfl, H⟩ := hrel
      by_cases hlt : k < asn
      · obtain ⟨⟨xcol, ⟨xk, xop, xnt, ⟨xvk, xvi, xvs⟩, xtab, xnm, xA, xn, xc, xargs, xB, xm, xd, xsub⟩⟩, hc⟩ := get_any HL.out hlt
        obtain ⟨b, o, rfl, hb, hcl, -⟩ := (H.ro 2 rfl).now.at_ hc
        have c0 := hcl 0 _ (by omega) rfl
        have c1 := hcl 1 _ (by omega) rfl
        have c2 := hcl 2 _ (by omega) rfl
        have c3 := hcl 3 _ (by omega) rfl
        have c4 := hcl 4 _ (by omega) rfl
        have c5 := hcl 5 _ (by omega) rfl
        have c6 := hcl 6 _ (by omega) rfl
        have c7 := hcl 7 _ (by omega) rfl
        have c8 := hcl 8 _ (by omega) rfl
        have c9 := hcl 9 _ (by omega) rfl
        have c10 := hcl 10 _ (by omega) rfl
        simp only [Nat.add_zero] at c0
        clear hcl
        have HCE := hid (show strsCells ((asl.take k).map Se.col) ++ (#[Value.string xcol]).toList = strsCells ((asl.take (k + 1)).map Se.col) by rw [List.take_add_one, hc]; simp [strsCells])
        clear hc
        have K1 := H.alloc_cst #[.string xcol, .int .i64 xk, .int .i64 xop, .bool xnt, .int .i64 xvk, .int .i64 xvi, .string xvs, .string xtab, .string xnm, .slice xA xn xc, .slice xB xm xd] 45
        have F1 := K1.facts
        simp only [World.size_alloc, World.size_drew, factsL, cellsF, Nat.reduceAdd, List.toList_toArray, List.set_cons_zero, List.set_cons_succ, List.setIfInBounds_toArray, and_true, true_and] at F1
        clear H
        go_wp2_with (at_builtin; go_must (refine wpList_appH K1 1 rfl Try.elSt #[.string xcol] rfl (.tmp 16) (.tmp 19) rfl rfl _ (by first | rfl | simp) rfl rfl (by intro u hu; simp at hu; rcases hu with rfl; rfl) (by omega) (by omega) ?_); intro g9 cap9 w9 hc9 hm9 KB; rw [HCE.out] at KB; simp only [List.set_cons_zero, List.set_cons_succ] at KB)
        go_roundw
        case rel => exact ⟨k + 1, cap9, _, by omega, by go_num, by first | rfl | trivial, KB.drop (List.sublist_cons_self _ _)⟩
        case measure => simp [intOf]; omega
      · obtain rfl : asn = k := by omega
        rw [List.take_of_length_le (by rw [HL.out]; exact Nat.le_refl _)] at H
        have F := H.facts
        simp only [World.size_alloc, World.size_drew, factsL, cellsF, Nat.reduceAdd, List.toList_toArray, List.set_cons_zero, List.set_cons_succ, List.setIfInBounds_toArray, and_true, true_and] at F
        go_wp2_with fail
        go_ret
        exact ⟨O, asn, cap, by first | rfl | simp, by rw [List.length_map]; exact HL.out.symm, H.get 0 rfl, H.below⟩
  · rw [if_neg hk]
    have K0 := (Hold.begin_ w).alloc_cst #[.int .i64 ak, .string atab, .slice arA arn arc, .slice aqA aqn aqc, .slice asA asn asc, .slice awA awn awc, .string atext] 43
    have F0 := K0.facts
    simp only [World.size_alloc, World.size_drew, factsL, cellsF, Nat.reduceAdd, List.toList_toArray, List.set_cons_zero, List.set_cons_succ, List.setIfInBounds_toArray, and_true, true_and] at F0
    have HB := hid K0.below
    clear K0
    go_enter Try.func38, Try.ntmps38
    go_wp2_with fail
    all_goals first
      | (exfalso; omega)
      | (go_ret; exact ⟨none, 0, 0, rfl, rfl, World.ownsRow_nil _ _ _ _, HB.out⟩)
theorem contS_any (l : List ByteArray) (x : ByteArray) : contS l x = l.any fun c => decide (c = x) := by
  unfold contS
  rw [Bool.eq_iff_iff]
  simp only [decide_eq_true_eq, List.any_eq_true]
  constructor
  · intro h; exact ⟨x, h, rfl⟩
  · rintro ⟨y, h, rfl⟩; exact h
theorem eight {w : World} {g h : Nat} {t u : TypeId} {a b c d e f k x y z q : Value} (h1 : Blk w g t #[a, b, c, d, e, f, k]) (h2 : Blk w h u #[x, y, z, q]) : w.cell? ⟨g, 0, none⟩ = some a ∧ w.cell? ⟨g, 1, none⟩ = some b ∧ w.cell? ⟨g, 2, none⟩ = some c ∧ w.cell? ⟨g, 3, none⟩ = some d ∧ w.cell? ⟨g, 4, none⟩ = some e ∧ w.cell? ⟨g, 5, none⟩ = some f ∧ w.cell? ⟨g, 6, none⟩ = some k ∧ w.cell? ⟨h, 1, none⟩ = some y :=
  ⟨h1.cell 0, h1.cell 1, h1.cell 2, h1.cell 3, h1.cell 4, h1.cell 5, h1.cell 6, h2.cell 1⟩
set_option maxRecDepth 100000 in
set_option maxHeartbeats 4000000 in
theorem harmless_any (M : Nat → Prop) (w : World) (hM : ∀ b, M b → b < w.heap.size) (a : Ac) (r : Rk) (d : Nat) (ha : Ro w M (AcIn (d + 1) a)) (hn : a.sets.n ≤ 1000000) : Calls Try.prog 30 #[a.val, r.val] w fun e w' => e = .returned (.bool (harmlessA r a)) ∧ Below w.heap.size w w' := by
  obtain ⟨ak, atab, ⟨arA, arn, arc, arl⟩, ⟨aqA, aqn, aqc, aql⟩, ⟨asA, asn, asc, asl⟩, ⟨awA, awn, awc, awl⟩, atext⟩ := a
  obtain ⟨rtab, rcol, rlo, rhi⟩ := r
  simp only [Ac.val, Rk.val] at hn ⊢
  have K0 := (((Hold.start M w hM).add (ha.less (by simp [Mut]))).alloc_cst #[.int .i64 ak, .string atab, .slice arA arn arc, .slice aqA aqn aqc, .slice asA asn asc, .slice awA awn awc, .string atext] 43).alloc_cst #[.string rtab, .string rcol, .int .i64 rlo, .int .i64 rhi] 48
  simp only [World.size_alloc] at K0
  have F0 := K0.facts
  simp only [World.size_alloc, World.size_drew, factsL, cellsF, Nat.reduceAdd, List.toList_toArray, List.set_cons_zero, List.set_cons_succ, List.setIfInBounds_toArray, and_true, true_and] at F0
  have HB := hid K0.below
  have HH := hid (show harmlessA ⟨rtab, rcol, rlo, rhi⟩ ⟨ak, atab, ⟨arA, arn, arc, arl⟩, ⟨aqA, aqn, aqc, aql⟩, ⟨asA, asn, asc, asl⟩, ⟨awA, awn, awc, awl⟩, atext⟩ = if atab = rtab then (if ak = 1 then false else if ak = 2 ∧ contS (assignedA ⟨ak, atab, ⟨arA, arn, arc, arl⟩, ⟨aqA, aqn, aqc, aql⟩, ⟨asA, asn, asc, asl⟩, ⟨awA, awn, awc, awl⟩, atext⟩) rcol = true then (lowR ⟨ak, atab, ⟨arA, arn, arc, arl⟩, ⟨aqA, aqn, aqc, aql⟩, ⟨asA, asn, asc, asl⟩, ⟨awA, awn, awc, awl⟩, atext⟩ rcol).2 else true) else true by
    have h2 : (lowR ⟨ak, atab, ⟨arA, arn, arc, arl⟩, ⟨aqA, aqn, aqc, aql⟩, ⟨asA, asn, asc, asl⟩, ⟨awA, awn, awc, awl⟩, atext⟩ rcol).2 = (lowersA ⟨ak, atab, ⟨arA, arn, arc, arl⟩, ⟨aqA, aqn, aqc, aql⟩, ⟨asA, asn, asc, asl⟩, ⟨awA, awn, awc, awl⟩, atext⟩ rcol).isSome := by
      unfold lowR; cases lowersA ⟨ak, atab, ⟨arA, arn, arc, arl⟩, ⟨aqA, aqn, aqc, aql⟩, ⟨asA, asn, asc, asl⟩, ⟨awA, awn, awc, awl⟩, atext⟩ rcol <;> rfl
    rw [h2, contS_any]
    rfl)
  generalize harmlessA ⟨rtab, rcol, rlo, rhi⟩ ⟨ak, atab, ⟨arA, arn, arc, arl⟩, ⟨aqA, aqn, aqc, aql⟩, ⟨asA, asn, asc, asl⟩, ⟨awA, awn, awc, awl⟩, atext⟩ = R at *
  by_cases h1 : atab = rtab
  · have h1b : atab.toList = rtab.toList := by rw [h1]
    have h1c : (atab.toList == rtab.toList) = true := by simp [h1]
    by_cases h2 : ak = 1
    · have hr : R = false := by rw [HH.out, if_pos h1, if_pos h2]
      subst h2
      clear HH K0 h1
      subst hr
      go_enter Try.func30, Try.ntmps30
      go_wp2_with fail
      all_goals first
        | (exfalso; simp_all; done)
        | (go_ret; exact ⟨by first | rfl | simp, HB.out⟩)
    · by_cases h3 : ak = 2
      · subst h3
        clear h2
        have hr0 : R = if contS (assignedA ⟨2, atab, ⟨arA, arn, arc, arl⟩, ⟨aqA, aqn, aqc, aql⟩, ⟨asA, asn, asc, asl⟩, ⟨awA, awn, awc, awl⟩, atext⟩) rcol = true then (lowR ⟨2, atab, ⟨arA, arn, arc, arl⟩, ⟨aqA, aqn, aqc, aql⟩, ⟨asA, asn, asc, asl⟩, ⟨awA, awn, awc, awl⟩, atext⟩ rcol).2 else true := by rw [HH.out, if_pos h1, if_neg (by decide)]; simp
        have HR := hid hr0
        clear HH h1 hr0
        have hc1 := assigned_any _ _ K0.drew.mutLt ⟨2, atab, ⟨arA, arn, arc, arl⟩, ⟨aqA, aqn, aqc, aql⟩, ⟨asA, asn, asc, asl⟩, ⟨awA, awn, awc, awl⟩, atext⟩ (d + 1) (K0.drew.ro 2 rfl) hn
        simp only [Ac.val] at hc1
        have hlen := hid (show (assignedA ⟨2, atab, ⟨arA, arn, arc, arl⟩, ⟨aqA, aqn, aqc, aql⟩, ⟨asA, asn, asc, asl⟩, ⟨awA, awn, awc, awl⟩, atext⟩).length ≤ 1000000 by
          have h5 : SesIn (d + 1) asA asn asl w := ha.now.2.2.1
          simp only [assignedA, if_true, List.length_map]
          have := h5.len
          omega)
        go_enter Try.func30, Try.ntmps30
        go_wp2_with fail
        go_region_held3 (fun w' => w'.cell? ⟨w.heap.size, 0, none⟩ = some (.int .i64 2) ∧ w'.cell? ⟨w.heap.size, 1, none⟩ = some (.string atab) ∧ w'.cell? ⟨w.heap.size, 2, none⟩ = some (.slice arA arn arc) ∧ w'.cell? ⟨w.heap.size, 3, none⟩ = some (.slice aqA aqn aqc) ∧ w'.cell? ⟨w.heap.size, 4, none⟩ = some (.slice asA asn asc) ∧ w'.cell? ⟨w.heap.size, 5, none⟩ = some (.slice awA awn awc) ∧ w'.cell? ⟨w.heap.size, 6, none⟩ = some (.string atext) ∧ w'.cell? ⟨w.heap.size + 1, 1, none⟩ = some (.string rcol))
          (first | exact eight (K0.drew.cst_ 1 rfl) (K0.drew.cst_ 0 rfl) | exact eight (K2.cst_ 2 rfl) (K2.cst_ 1 rfl))
          (first
            | (go_at_call 38; ((with_reducible refine hc1.mono ?_); rintro e w1 ⟨A1, n1, c1, rfl, hl1, ho1, b1⟩; have HL1 := hid hl1; clear hl1; have K1 := K0.drew.callOwn b1 ho1; have K2 := K1.sealRow 0 rfl; simp only [List.set_cons_zero] at K2; have hc2 := scont_any w1 A1 n1 c1 (assignedA ⟨2, atab, ⟨arA, arn, arc, arl⟩, ⟨aqA, aqn, aqc, aql⟩, ⟨asA, asn, asc, asl⟩, ⟨awA, awn, awc, awl⟩, atext⟩) rcol (K2.ro 0 rfl).now (by have := hlen.out; have := HL1.out; omega)))
            | (go_at_call 32; ((with_reducible refine hc2.mono ?_); rintro e w2 ⟨rfl, rfl⟩)))
        clear F0 hc1 hc2 K0 K1 ho1
        have F2 := K2.facts
        simp only [World.size_alloc, World.size_drew, factsL, cellsF, Nat.reduceAdd, List.toList_toArray, List.set_cons_zero, List.set_cons_succ, List.setIfInBounds_toArray, and_true, true_and] at F2
        cases hcs : contS (assignedA ⟨2, atab, ⟨arA, arn, arc, arl⟩, ⟨aqA, aqn, aqc, aql⟩, ⟨asA, asn, asc, asl⟩, ⟨awA, awn, awc, awl⟩, atext⟩) rcol
        · have hr : R = true := by rw [HR.out, hcs]; rfl
          clear HR hcs
          subst hr
          go_wp2_with fail
          go_ret
          exact ⟨by first | rfl | simp, K2.below⟩
        · have hr0 : R = (lowR ⟨2, atab, ⟨arA, arn, arc, arl⟩, ⟨aqA, aqn, aqc, aql⟩, ⟨asA, asn, asc, asl⟩, ⟨awA, awn, awc, awl⟩, atext⟩ rcol).2 := by rw [HR.out, hcs]; rfl
          have HR2 := hid hr0
          clear HR hcs hr0
          go_wp2_with fail
          refine (lowers_any _ _ K2.mutLt ⟨2, atab, ⟨arA, arn, arc, arl⟩, ⟨aqA, aqn, aqc, aql⟩, ⟨asA, asn, asc, asl⟩, ⟨awA, awn, awc, awl⟩, atext⟩ rcol d (K2.ro 3 rfl) (by show asn ≤ _; omega)).mono ?_
          rintro e w3 ⟨rfl, b3⟩
          have K3 := K2.call b3
          go_wp2_with fail
          go_ret
          exact ⟨by rw [HR2.out] <;> rfl, K3.below⟩
      · have hr : R = true := by rw [HH.out, if_pos h1, if_neg h2, if_neg (fun h => h3 h.1)]
        have h3b : (ak != 2) = true := by simpa using h3
        have hB := fun q => (K0.drewN q).below
        have HB2 := hid hB
        clear HH K0 h1 hB
        subst hr
        go_enter Try.func30, Try.ntmps30
        go_wp2_with fail
        all_goals first
          | (exfalso; simp_all; done)
          | skip
        go_quiet (fail)
        go_wp2_with fail
        go_ret
        exact ⟨by first | rfl | simp, HB2.out _⟩
  · have h1b : ¬ atab.toList = rtab.toList := fun h => h1 (bytesEq h)
    have h1c : (atab.toList == rtab.toList) = false := by simpa using h1b
    have hr : R = true := by rw [HH.out, if_neg h1]
    clear HH K0
    subst hr
    go_enter Try.func30, Try.ntmps30
    go_wp2_with fail
    all_goals first
      | (exfalso; simp_all; done)
      | (go_ret; exact ⟨by first | rfl | simp, HB.out⟩)
end Go.Proofs.Ytkpbnlbhfhkhcaa

namespace Go.Proofs.Ytkpbnlbhfhkhcaa
open Go.RowKit
set_option linter.unusedVariables false
set_option linter.unusedSimpArgs false

abbrev respV (b : Nat) : Value := .func (.func 29) #[] #[.pointer (some ⟨b, 0, none⟩)]
set_option maxRecDepth 100000 in
set_option maxHeartbeats 2000000 in
theorem resp1_any (M : Nat → Prop) (w : World) (hM : ∀ b, M b → b < w.heap.size) (a : Ac) (r : Rk) (d b : Nat) (t : TypeId) (ha : Ro w M (AcIn (d + 1) a)) (hb : Ro w M (fun w => w.heap[b]? = some (.cells #[.string r.tab, .string r.col, .int .i64 r.lo, .int .i64 r.hi] t (0, 0)))) (hn : a.sets.n ≤ 1000000) : Calls Try.prog 29 #[a.val, .pointer (some ⟨b, 0, none⟩)] w fun e w' => e = .returned (.bool (!harmlessA r a)) ∧ Below w.heap.size w w' := by
  have hce := fun (M : Nat → Prop) (w : World) (hM : ∀ b, M b → b < w.heap.size) (ha : Ro w M (AcIn (d + 1) a)) => harmless_any M w hM a r d ha hn
  generalize harmlessA r a = R at *
  obtain ⟨ak, atab, ⟨arA, arn, arc, arl⟩, ⟨aqA, aqn, aqc, aql⟩, ⟨asA, asn, asc, asl⟩, ⟨awA, awn, awc, awl⟩, atext⟩ := a
  obtain ⟨rtab, rcol, rlo, rhi⟩ := r
  simp only [Ac.val, Rk.val] at hn hb hce ⊢
  have K0 := (((Hold.start M w hM).add (ha.less (by simp [Mut]))).addCst (g := b) (t := t) (cs := #[.string rtab, .string rcol, .int .i64 rlo, .int .i64 rhi]) (hb.less (by simp [Mut, Hp.foot]))).alloc_cst #[.int .i64 ak, .string atab, .slice arA arn arc, .slice aqA aqn aqc, .slice asA asn asc, .slice awA awn awc, .string atext] 43
  have F0 := K0.facts
  simp only [World.size_alloc, World.size_drew, factsL, cellsF, Nat.reduceAdd, List.toList_toArray, List.set_cons_zero, List.set_cons_succ, List.setIfInBounds_toArray, and_true, true_and] at F0
  have HCE := hid hce
  clear hce
  go_enter Try.func29, Try.ntmps29
  go_wp2_with fail
  refine (HCE.out _ _ K0.mutLt (K0.ro 2 rfl)).mono ?_
  rintro e w1 ⟨rfl, b1⟩
  have K1 := K0.call b1
  go_wp2_with fail
  go_ret
  exact ⟨by first | rfl | simp, K1.below⟩
set_option maxRecDepth 100000 in
set_option maxHeartbeats 2000000 in
theorem respI_any (M : Nat → Prop) (w : World) (hM : ∀ b, M b → b < w.heap.size) (A : Option Addr) (n c : Nat) (l : List Ac) (r : Rk) (d b : Nat) (t : TypeId) (hD : Ro w M (AcsIn (d + 1) A n l)) (hB : Ro w M (fun w => w.heap[b]? = some (.cells #[.string r.tab, .string r.col, .int .i64 r.lo, .int .i64 r.hi] t (0, 0)))) (hn : n ≤ 4611686018427387904) (hok : ∀ a ∈ l, a.sets.n ≤ 1000000) :
    Calls Try.prog 37 #[.slice A n c, respV b] w fun e w' => (∃ z : Int, e = .returned (.int .i64 z) ∧ decide (z ≥ 0) = !(l.all (harmlessA r))) ∧ Below w.heap.size w w' := by
  have HL := hid hD.now.len
  have HOK := hid hok
  have K0 := (((Hold.start M w hM).add (hB.less (by simp [Mut]))).add (hD.less (by simp [Mut, Hp.foot])))
  clear hD hB hok
  go_enter Try.func37, Try.ntmps37
  go_wp2_with fail
  go_loopw [8] (fun iv wr => ∃ (k : Nat), k ≤ n ∧ iv = .int .i64 k ∧ Hid (l.all (harmlessA r) = (l.drop k).all (harmlessA r)) ∧ Hold M none w wr [.ro (AcsIn (d + 1) A n l), .ro (fun w => w.heap[b]? = some (.cells #[.string r.tab, .string r.col, .int .i64 r.lo, .int .i64 r.hi] t (0, 0)))]) (fun iv _ => n - (intOf iv).toNat)
  case atStart => exact ⟨0, by omega, rfl, hid rfl, K0⟩
  case round =>
    clear K0
    obtain ⟨k, hk, rfl, HF, H⟩ := hrel
    by_cases hlt : k < n
    · obtain ⟨⟨ak, atab, ⟨arA, arn, arc, arl⟩, ⟨aqA, aqn, aqc, aql⟩, ⟨asA, asn, asc, asl⟩, ⟨awA, awn, awc, awl⟩, atext⟩, hc⟩ := get_any HL.out hlt
      obtain ⟨b2, o2, rfl, hb2, hcl, -⟩ := (H.ro 0 rfl).now.at_ hc
      have c0 := hcl 0 _ (by omega) rfl
      have c1 := hcl 1 _ (by omega) rfl
      have c2 := hcl 2 _ (by omega) rfl
      have c3 := hcl 3 _ (by omega) rfl
      have c4 := hcl 4 _ (by omega) rfl
      have c5 := hcl 5 _ (by omega) rfl
      have c6 := hcl 6 _ (by omega) rfl
      simp only [Nat.add_zero] at c0
      simp only [SlP.v] at c2 c3 c4 c5
      clear hcl
      have HC := hid hc; clear hc
      have hce := resp1_any _ wr H.mutLt ⟨ak, atab, ⟨arA, arn, arc, arl⟩, ⟨aqA, aqn, aqc, aql⟩, ⟨asA, asn, asc, asl⟩, ⟨awA, awn, awc, awl⟩, atext⟩ r d b t ((H.ro 0 rfl).imp fun w2 h2 => h2.2 _ (List.mem_of_getElem? HC.out)) (H.ro 1 rfl) (HOK.out _ (List.mem_of_getElem? HC.out))
      cases hz : harmlessA r ⟨ak, atab, ⟨arA, arn, arc, arl⟩, ⟨aqA, aqn, aqc, aql⟩, ⟨asA, asn, asc, asl⟩, ⟨awA, awn, awc, awl⟩, atext⟩
      · rw [hz] at hce
        have HZ := hid hz
        clear hz
        go_wp2_with fail
        refine hce.mono ?_
        rintro e w1 ⟨rfl, b1⟩
        have K1 := H.call b1
        go_wp2_with fail
        go_ret
        refine ⟨⟨(k : Int), rfl, ?_⟩, K1.below⟩
        rw [all_here HC.out HZ.out]
        simp
      · rw [hz] at hce
        have HZ := hid hz
        clear hz
        go_wp2_with fail
        refine hce.mono ?_
        rintro e w1 ⟨rfl, b1⟩
        have K1 := H.call b1
        go_wp2_with fail
        go_roundw
        case rel => exact ⟨k + 1, by omega, by go_num, hid (all_next HC.out HZ.out HF.out), K1⟩
        case measure => simp [intOf]; omega
    · have hks : k = n := by omega
      go_wp2_with fail
      go_ret
      refine ⟨⟨-1, rfl, ?_⟩, H.below⟩
      rw [HF.out, List.drop_eq_nil_of_le (by rw [HL.out]; omega)]
      rfl
set_option maxHeartbeats 2000000 in
theorem respC_any (M : Nat → Prop) (w : World) (hM : ∀ b, M b → b < w.heap.size) (A : Option Addr) (n c : Nat) (l : List Ac) (r : Rk) (d b : Nat) (t : TypeId) (hD : Ro w M (AcsIn (d + 1) A n l)) (hB : Ro w M (fun w => w.heap[b]? = some (.cells #[.string r.tab, .string r.col, .int .i64 r.lo, .int .i64 r.hi] t (0, 0)))) (hn : n ≤ 4611686018427387904) (hok : ∀ a ∈ l, a.sets.n ≤ 1000000) :
    Calls Try.prog 28 #[.slice A n c, respV b] w fun e w' => e = .returned (.bool (!(l.all (harmlessA r)))) ∧ Below w.heap.size w w' := by
  go_enter Try.func28, Try.ntmps28
  go_wp2_with fail
  refine (respI_any M w hM A n c l r d b t hD hB hn hok).mono ?_
  rintro e w1 ⟨⟨z, rfl, hz⟩, b1⟩
  have HZ := hid hz
  clear hz
  go_wp2_with fail
  go_ret
  exact ⟨by first | rw [← HZ.out] <;> rfl | simp [← HZ.out], b1⟩
end Go.Proofs.Ytkpbnlbhfhkhcaa

namespace Go.Proofs.Ytkpbnlbhfhkhcaa
open Go.RowKit
set_option linter.unusedVariables false
set_option linter.unusedSimpArgs false

/-- a trigger within the limits that the contracts ask -/
structure TgFit (d : Nat) (t : Tg) : Prop where
  n : t.acts.n ≤ 4611686018427387904
  s : (setsOf t.acts.l).length ≤ 549755813888
  w : tgW d t ≤ 4398046511104
  a : ∀ a ∈ t.acts.l, a.sets.n ≤ 1000000 ∧ a.wh.n ≤ 9223372036854775807
  r : t.rank.n ≤ 9223372036854775807
def TgsIn (d : Nat) (A : Option Addr) (n : Nat) (l : List Tg) (w : World) : Prop := SlR 11 A n (l.flatMap Tg.cells) w ∧ ∀ x ∈ l, TgIn d x w
theorem TgsIn.len {d : Nat} {A : Option Addr} {n : Nat} {l : List Tg} {w : World} (h : TgsIn d A n l w) : l.length = n := SlP.In.len (s := ⟨A, n, 0, l⟩) (k := 11) (cel := Tg.cells) (P := TgIn d) h (by omega) (fun _ => rfl)
theorem TgsIn.at_ {d : Nat} {w : World} {A : Option Addr} {n : Nat} {l : List Tg} (h : TgsIn d A n l w) {k : Nat} {x : Tg} (hx : l[k]? = some x) :
    ∃ b o, A = some ⟨b, o, none⟩ ∧ b < w.heap.size ∧ (∀ j u, j < 11 → x.cells[j]? = some u → w.cell? ⟨b, o + k * 11 + j, none⟩ = some u) ∧ TgIn d x w := SlP.In.at_ (s := ⟨A, n, 0, l⟩) (k := 11) (cel := Tg.cells) (P := TgIn d) h (by omega) (fun _ => rfl) hx
def RowR (w : World) (M : Nat → Prop) (t : Tg) (e : Ending) (w' : World) : Prop := ∃ (B C : Option Addr) (m c k c2 : Nat) (xs : List ByteArray), e = .returned (.tuple #[.slice B m c, .slice C k c2]) ∧ k ≤ 549755813888 ∧ Ro w' M (StrsIn C k xs) ∧ (∀ s, s ∈ xs ↔ (t.before = true ∧ t.each = true ∧ s ∈ setCols t)) ∧ Below w.heap.size w w'
theorem row_any (M : Nat → Prop) (w : World) (hM : ∀ b, M b → b < w.heap.size) (t : Tg) (d : Nat) (ha : Ro w M (TgIn d t)) (h : TgFit d t) : Calls Try.prog 31 #[t.val] w fun e w' => RowR w M t e w' := by
  by_cases hb : t.before = true ∧ t.each = true
  · refine (row1_any M w hM t d ha (by have := h.n; omega) h.s h.w hb.1 hb.2).mono ?_
    rintro e w' ⟨B, C, m, c, k, c2, xs, h1, h2, h3, h4, h5⟩
    exact ⟨B, C, m, c, k, c2, xs, h1, h2, h3, fun s => by rw [h4]; simp [hb.1, hb.2], h5⟩
  · refine (row0_any w t hb).mono ?_
    rintro e w' ⟨h1, h2⟩
    exact ⟨none, none, 0, 0, 0, 0, [], h1, by omega, fun _ _ _ => slr_nil 1 _, fun s => ⟨fun hh => (nomatch hh), fun hh => absurd ⟨hh.1, hh.2.1⟩ hb⟩, h2⟩
set_option maxRecDepth 100000 in
set_option maxHeartbeats 8000000 in
theorem respected_any (M : Nat → Prop) (w : World) (hM : ∀ b, M b → b < w.heap.size) (A : Option Addr) (n c : Nat) (l : List Tg) (r : Rk) (d : Nat) (ht : Ro w M (TgsIn (d + 1) A n l)) (hn : n ≤ 4611686018427387904) (hok : ∀ t ∈ l, TgFit (d + 1) t) : Calls Try.prog 14 #[.slice A n c, r.val] w fun e w' => e = .returned (.bool (respB l r)) ∧ Below w.heap.size w w' := by
  have hres := fun (M : Nat → Prop) (w : World) (hM : ∀ b, M b → b < w.heap.size) (A : Option Addr) (n c : Nat) (l : List Ac) (b : Nat) (t : TypeId) (hD : Ro w M (AcsIn (d + 1) A n l)) (hB : Ro w M (fun w => w.heap[b]? = some (.cells #[.string r.tab, .string r.col, .int .i64 r.lo, .int .i64 r.hi] t (0, 0)))) (hn : n ≤ 4611686018427387904) (hok : ∀ a ∈ l, a.sets.n ≤ 1000000) => respC_any M w hM A n c l r d b t hD hB hn hok
  obtain ⟨rtab, rcol, rlo, rhi⟩ := r
  simp only [Rk.val] at hres ⊢
  have HRES := hid hres
  have HL := hid ht.now.len
  have HOK := hid hok
  have K0 := ((Hold.start M w hM).add (ht.less (by simp [Mut]))).alloc_cst #[.string rtab, .string rcol, .int .i64 rlo, .int .i64 rhi] 48
  have F0 := K0.facts
  simp only [World.size_alloc, World.size_drew, factsL, cellsF, Nat.reduceAdd, List.toList_toArray, List.set_cons_zero, List.set_cons_succ, List.setIfInBounds_toArray, and_true, true_and] at F0
  clear ht hok hres
  go_enter Try.func14, Try.ntmps14
  go_wp2_with fail
  clear F0
  go_loopw [11] (fun i wr => ∃ k : Nat, k ≤ n ∧ i = .int .i64 k ∧ Hid (respB l ⟨rtab, rcol, rlo, rhi⟩ = (l.drop k).all (respT ⟨rtab, rcol, rlo, rhi⟩)) ∧ Hold M none w wr [.cst w.heap.size 48 #[.string rtab, .string rcol, .int .i64 rlo, .int .i64 rhi], .ro (TgsIn (d + 1) A n l)]) (fun i _ => n - (intOf i).toNat)
  case atStart => exact ⟨0, by omega, rfl, hid rfl, K0⟩
  case round =>
    clear K0
    obtain ⟨k, hk, rfl, HF, H⟩ := hrel
    by_cases hlt : k < n
    · obtain ⟨⟨tname, ttab, tbef, tev, ⟨cA, cn, cc, cl⟩, teach, ⟨pA, pn, pc, pl⟩, ⟨fA, fn, fc, fl⟩, ⟨kA, kn, kc, kl⟩, ⟨oA, on, oc, ol⟩, ⟨uA, un, uc, ul⟩⟩, hc⟩ := get_any HL.out hlt
      obtain ⟨b, o, rfl, hb, hcl, -⟩ := (H.ro 1 rfl).now.at_ hc
      have c0 := hcl 0 _ (by omega) rfl
      have c1 := hcl 1 _ (by omega) rfl
      have c2 := hcl 2 _ (by omega) rfl
      have c3 := hcl 3 _ (by omega) rfl
      have c4 := hcl 4 _ (by omega) rfl
      have c5 := hcl 5 _ (by omega) rfl
      have c6 := hcl 6 _ (by omega) rfl
      have c7 := hcl 7 _ (by omega) rfl
      have c8 := hcl 8 _ (by omega) rfl
      have c9 := hcl 9 _ (by omega) rfl
      have c10 := hcl 10 _ (by omega) rfl
      simp only [Nat.add_zero] at c0
      clear hcl
      simp only [SlP.v] at c4 c6 c7 c8 c9 c10
      have HC := hid hc; clear hc
      have HO := HOK.out _ (List.mem_of_getElem? HC.out)
      have K1 := (H.add (S := TgIn (d + 1) ⟨tname, ttab, tbef, tev, ⟨cA, cn, cc, cl⟩, teach, ⟨pA, pn, pc, pl⟩, ⟨fA, fn, fc, fl⟩, ⟨kA, kn, kc, kl⟩, ⟨oA, on, oc, ol⟩, ⟨uA, un, uc, ul⟩⟩) ((H.ro 1 rfl).imp fun w2 h2 => h2.2 _ (List.mem_of_getElem? HC.out))).alloc_cst #[.string tname, .string ttab, .bool tbef, .int .i64 tev, .slice cA cn cc, .bool teach, .slice pA pn pc, .slice fA fn fc, .slice kA kn kc, .slice oA on oc, .slice uA un uc] 28
      have F1 := K1.facts
      simp only [World.size_alloc, World.size_drew, factsL, cellsF, Nat.reduceAdd, List.toList_toArray, List.set_cons_zero, List.set_cons_succ, List.setIfInBounds_toArray, and_true, true_and] at F1
      cases hbf : tbef
      · subst hbf
        have hce := HRES.out _ _ K1.mutLt uA un uc ul w.heap.size 48 ((K1.ro 1 rfl).imp fun w2 h2 => h2.parts.2) (K1.get 2 rfl) HO.n (fun a ha => (HO.a a ha).1)
        cases hz : ul.all (harmlessA ⟨rtab, rcol, rlo, rhi⟩)
        · rw [hz] at hce
          have HZ := hid (show respT ⟨rtab, rcol, rlo, rhi⟩ ⟨tname, ttab, false, tev, ⟨cA, cn, cc, cl⟩, teach, ⟨pA, pn, pc, pl⟩, ⟨fA, fn, fc, fl⟩, ⟨kA, kn, kc, kl⟩, ⟨oA, on, oc, ol⟩, ⟨uA, un, uc, ul⟩⟩ = false by simp only [respT]; exact hz)
          clear hz
          go_wp2_with fail
          refine hce.mono ?_
          rintro e w1 ⟨rfl, b1⟩
          have K2 := K1.call b1
          go_wp2_with fail
          go_ret
          exact ⟨by rw [show respB l ⟨rtab, rcol, rlo, rhi⟩ = false from all_here HC.out HZ.out] <;> rfl, K2.below⟩
        · rw [hz] at hce
          have HZ := hid (show respT ⟨rtab, rcol, rlo, rhi⟩ ⟨tname, ttab, false, tev, ⟨cA, cn, cc, cl⟩, teach, ⟨pA, pn, pc, pl⟩, ⟨fA, fn, fc, fl⟩, ⟨kA, kn, kc, kl⟩, ⟨oA, on, oc, ol⟩, ⟨uA, un, uc, ul⟩⟩ = true by simp only [respT]; exact hz)
          clear hz
          go_wp2_with fail
          refine hce.mono ?_
          rintro e w1 ⟨rfl, b1⟩
          have K2 := K1.call b1
          go_wp2_with fail
          go_roundw
          case rel => exact ⟨k + 1, by omega, by go_num, hid (all_next HC.out HZ.out HF.out), K2.drop (List.Sublist.cons _ (List.Sublist.cons _ (List.Sublist.refl _)))⟩
          case measure => simp [intOf]; omega
      · subst hbf
        have hce := row_any _ _ K1.mutLt ⟨tname, ttab, true, tev, ⟨cA, cn, cc, cl⟩, teach, ⟨pA, pn, pc, pl⟩, ⟨fA, fn, fc, fl⟩, ⟨kA, kn, kc, kl⟩, ⟨oA, on, oc, ol⟩, ⟨uA, un, uc, ul⟩⟩ (d + 1) (K1.ro 1 rfl) HO
        simp only [Tg.val] at hce
        have HT := hid (show ∀ xs : List ByteArray, (∀ s, s ∈ xs ↔ ((⟨tname, ttab, true, tev, ⟨cA, cn, cc, cl⟩, teach, ⟨pA, pn, pc, pl⟩, ⟨fA, fn, fc, fl⟩, ⟨kA, kn, kc, kl⟩, ⟨oA, on, oc, ol⟩, ⟨uA, un, uc, ul⟩⟩ : Tg).before = true ∧ (⟨tname, ttab, true, tev, ⟨cA, cn, cc, cl⟩, teach, ⟨pA, pn, pc, pl⟩, ⟨fA, fn, fc, fl⟩, ⟨kA, kn, kc, kl⟩, ⟨oA, on, oc, ol⟩, ⟨uA, un, uc, ul⟩⟩ : Tg).each = true ∧ s ∈ setCols ⟨tname, ttab, true, tev, ⟨cA, cn, cc, cl⟩, teach, ⟨pA, pn, pc, pl⟩, ⟨fA, fn, fc, fl⟩, ⟨kA, kn, kc, kl⟩, ⟨oA, on, oc, ol⟩, ⟨uA, un, uc, ul⟩⟩)) → respT ⟨rtab, rcol, rlo, rhi⟩ ⟨tname, ttab, true, tev, ⟨cA, cn, cc, cl⟩, teach, ⟨pA, pn, pc, pl⟩, ⟨fA, fn, fc, fl⟩, ⟨kA, kn, kc, kl⟩, ⟨oA, on, oc, ol⟩, ⟨uA, un, uc, ul⟩⟩ = !(decide (ttab = rtab) && decide (tev = 2) && contS xs rcol) by
          intro xs hxs
          have h1 : contS xs rcol = (teach && (setCols ⟨tname, ttab, true, tev, ⟨cA, cn, cc, cl⟩, teach, ⟨pA, pn, pc, pl⟩, ⟨fA, fn, fc, fl⟩, ⟨kA, kn, kc, kl⟩, ⟨oA, on, oc, ol⟩, ⟨uA, un, uc, ul⟩⟩).any fun c => decide (c = rcol)) := by
            rw [contS_any, Bool.eq_iff_iff]
            simp only [Bool.and_eq_true, List.any_eq_true, decide_eq_true_eq]
            constructor
            · rintro ⟨q, hq, rfl⟩
              have := (hxs q).1 hq
              exact ⟨this.2.1, q, this.2.2, rfl⟩
            · rintro ⟨h1, q, hq, rfl⟩
              exact ⟨q, (hxs q).2 ⟨rfl, h1, hq⟩, rfl⟩
          rw [h1]
          simp only [respT, if_true, Bool.and_assoc])
        go_wp2_with fail
        refine hce.mono ?_
        rintro e w1 ⟨B2, C2, m2, c2', k2, c3', xs, rfl, hk2, rS, hxs, b1⟩
        have hr := HT.out xs (by simpa using hxs)
        have K2 := (K1.call b1).add rS
        have HK2 := hid hk2
        clear hce K1 F1 b1 rS hxs HT hk2 c0 c1 c2 c3 c4 c5 c6 c7 c8 c9 c10
        have F2 := K2.facts
        simp only [World.size_alloc, World.size_drew, factsL, cellsF, Nat.reduceAdd, List.toList_toArray, List.set_cons_zero, List.set_cons_succ, List.setIfInBounds_toArray, and_true, true_and] at F2
        by_cases h1 : ttab = rtab
        · subst h1
          by_cases h2 : tev = 2
          · subst h2
            have hcs := scont_any w1 C2 k2 c3' xs rcol (K2.ro 0 rfl).now (by have := HK2.out; omega)
            cases hz : contS xs rcol
            · rw [hz] at hr hcs
              have HZ := hid (show respT ⟨ttab, rcol, rlo, rhi⟩ _ = true by rw [hr]; simp)
              clear hr hz
              go_wp2_with fail
              refine hcs.mono ?_
              rintro e w2 ⟨rfl, rfl⟩
              go_wp2_with fail
              go_roundw
              case rel => exact ⟨k + 1, by omega, by go_num, hid (all_next HC.out HZ.out HF.out), K2.drop (List.Sublist.cons _ (List.Sublist.cons _ (List.Sublist.cons _ (List.Sublist.refl _))))⟩
              case measure => simp [intOf]; omega
            · rw [hz] at hr hcs
              have HZ := hid (show respT ⟨ttab, rcol, rlo, rhi⟩ _ = false by rw [hr]; simp)
              clear hr hz
              go_wp2_with fail
              refine hcs.mono ?_
              rintro e w2 ⟨rfl, rfl⟩
              go_wp2_with fail
              go_ret
              exact ⟨by rw [show respB l ⟨ttab, rcol, rlo, rhi⟩ = false from all_here HC.out HZ.out] <;> rfl, K2.below⟩
          · have HZ := hid (show respT ⟨ttab, rcol, rlo, rhi⟩ _ = true by rw [hr]; simp [h2])
            clear hr
            go_wp2_with fail
            all_goals first
              | (exfalso; omega)
              | skip
            go_roundw
            case rel => exact ⟨k + 1, by omega, by go_num, hid (all_next HC.out HZ.out HF.out), K2.drop (List.Sublist.cons _ (List.Sublist.cons _ (List.Sublist.cons _ (List.Sublist.refl _))))⟩
            case measure => simp [intOf]; omega
        · have h1b : ¬ ttab.toList = rtab.toList := fun h => h1 (bytesEq h)
          have h1c : (ttab.toList == rtab.toList) = false := by simpa using h1b
          have HZ := hid (show respT ⟨rtab, rcol, rlo, rhi⟩ _ = true by rw [hr]; simp [h1])
          clear hr
          go_wp2_with fail
          all_goals first
            | (exfalso; contradiction)
            | skip
          go_roundw
          case rel => exact ⟨k + 1, by omega, by go_num, hid (all_next HC.out HZ.out HF.out), K2.drop (List.Sublist.cons _ (List.Sublist.cons _ (List.Sublist.cons _ (List.Sublist.refl _))))⟩
          case measure => simp [intOf]; omega
    · have hks : k = n := by omega
      go_wp2_with fail
      go_ret
      exact ⟨by rw [HF.out, List.drop_eq_nil_of_le (by rw [HL.out]; omega)] <;> rfl, H.below⟩
end Go.Proofs.Ytkpbnlbhfhkhcaa

namespace Go.Proofs.Ytkpbnlbhfhkhcaa
open Go.RowKit
set_option linter.unusedVariables false
set_option linter.unusedSimpArgs false

end Go.Proofs.Ytkpbnlbhfhkhcaa

namespace Go.Proofs.Ytkpbnlbhfhkhcaa
open Go.RowKit
set_option linter.unusedVariables false
set_option linter.unusedSimpArgs false

end Go.Proofs.Ytkpbnlbhfhkhcaa

namespace Go.Proofs.Ytkpbnlbhfhkhcaa
open Go.RowKit
set_option linter.unusedVariables false
set_option linter.unusedSimpArgs false

end Go.Proofs.Ytkpbnlbhfhkhcaa

namespace Go.Proofs.Ytkpbnlbhfhkhcaa
open Go.RowKit
set_option linter.unusedVariables false

/-- A call that gives a value, and turns nothing that was there. -/
def Gives (f : FuncId) (args : Array Value) (v : Value) : Prop :=
  ∀ w : World, Calls Try.prog f args w fun e w' => e = .returned v ∧ Below w.heap.size w w'

end Go.Proofs.Ytkpbnlbhfhkhcaa

namespace Go.Proofs.Ytkpbnlbhfhkhcaa
open Go.RowKit
set_option linter.unusedVariables false
set_option linter.unusedSimpArgs false

end Go.Proofs.Ytkpbnlbhfhkhcaa

namespace Go.Proofs.Ytkpbnlbhfhkhcaa
open Go.RowKit
set_option linter.unusedVariables false
set_option linter.unusedSimpArgs false

end Go.Proofs.Ytkpbnlbhfhkhcaa

namespace Go.Proofs.Ytkpbnlbhfhkhcaa
open Go.RowKit
set_option linter.unusedVariables false
set_option linter.unusedSimpArgs false

end Go.Proofs.Ytkpbnlbhfhkhcaa

namespace Go.Proofs.Ytkpbnlbhfhkhcaa
open Go.RowKit Go.Maps
set_option linter.unusedVariables false
set_option linter.unusedSimpArgs false

end Go.Proofs.Ytkpbnlbhfhkhcaa

namespace Go.Proofs.Ytkpbnlbhfhkhcaa
open Go.RowKit
set_option linter.unusedVariables false
set_option linter.unusedSimpArgs false

def letterN (x : Nat) : Bool := decide (97 ≤ x) && decide (x ≤ 122)
def digitN (x : Nat) : Bool := decide (48 ≤ x) && decide (x ≤ 57)
def nameN (x : Nat) : Bool := letterN x || digitN x || x == 95
def nameB (s : ByteArray) : Bool := decide (1 ≤ s.size) && decide (s.size ≤ 12) && letterN (s.data.toList.getD 0 0).toNat && s.data.toList.all (fun c => nameN c.toNat)

end Go.Proofs.Ytkpbnlbhfhkhcaa

namespace Go.Proofs.Ytkpbnlbhfhkhcaa
open Go.RowKit
set_option linter.unusedVariables false
set_option linter.unusedSimpArgs false

end Go.Proofs.Ytkpbnlbhfhkhcaa

namespace Go.Proofs.Ytkpbnlbhfhkhcaa
open Go.RowKit
set_option linter.unusedVariables false
set_option linter.unusedSimpArgs false

def colOk (l : List Col) (k : Nat) (c : Col) : Bool := nameB c.name && (findB (named c.name) l == (k : Int)) && decide (1 ≤ c.ty) && decide (c.ty ≤ 3) && (!c.key || c.nn)
def schemaB (nm : ByteArray) (l : List Col) : Bool := nameB nm && decide (1 ≤ l.length) && decide (l.length ≤ 6) && okFrom (colOk l) 0 l && decide ((l.filter Col.key).length ≤ 1)
end Go.Proofs.Ytkpbnlbhfhkhcaa

namespace Go.Proofs.Ytkpbnlbhfhkhcaa
open Go.RowKit
set_option linter.unusedVariables false
set_option linter.unusedSimpArgs false

/-- which tables are valid -/
def tabB (nm : ByteArray) (cs : List Col) (nx : Int) (rs : List Row) : Bool := schemaB nm cs && decide (rs.length ≤ 100) && decide (1 ≤ nx) && decide (nx ≤ 2147483648) && okR cs nx 0 rs && !dupB cs rs
end Go.Proofs.Ytkpbnlbhfhkhcaa

namespace Go.Proofs.Ytkpbnlbhfhkhcaa
open Go.RowKit
set_option linter.unusedVariables false
set_option linter.unusedSimpArgs false

end Go.Proofs.Ytkpbnlbhfhkhcaa

namespace Go.Proofs.Ytkpbnlbhfhkhcaa
open Go.RowKit
set_option linter.unusedVariables false
set_option linter.unusedSimpArgs false

def nmId : ByteArray := ⟨#[105, 100]⟩
def nmN : ByteArray := ⟨#[110]⟩
def nmS : ByteArray := ⟨#[115]⟩
def nmB : ByteArray := ⟨#[98]⟩
def nmM : ByteArray := ⟨#[109]⟩
def nmT : ByteArray := ⟨#[116]⟩
def nmU : ByteArray := ⟨#[117]⟩
def nmLog : ByteArray := ⟨#[108, 111, 103]⟩
def logCols : List Col := [⟨nmN, 1, false, false⟩, ⟨nmS, 3, false, false⟩]
def tCols : List Col := [⟨nmId, 1, true, true⟩, ⟨nmN, 1, false, false⟩, ⟨nmB, 2, false, false⟩, ⟨nmS, 3, false, false⟩]
def uCols : List Col := [⟨nmId, 1, true, true⟩, ⟨nmN, 1, true, false⟩, ⟨nmM, 1, false, false⟩]
/-- What Schemas leaves. -/
def SchemasAre (w : World) (M : Nat → Prop) (e : Ending) (w' : World) : Prop :=
  ∃ (g g0 g1 g2 : Nat) (nl nt nu : ByteArray), nl = nmLog ∧ nt = nmT ∧ nu = nmU ∧ e = .returned (.slice (some ⟨g, 0, none⟩) 3 3) ∧ Below w.heap.size w w' ∧
    Ro w' M (fun w => w.heap[g]? = some (.cells #[.string nl, .slice (some ⟨g0, 0, none⟩) 2 2, .string nt, .slice (some ⟨g1, 0, none⟩) 4 4, .string nu, .slice (some ⟨g2, 0, none⟩) 3 3] 53 (0, 0))) ∧
    Ro w' M (SlR 4 (some ⟨g0, 0, none⟩) 2 (colCells logCols)) ∧ Ro w' M (SlR 4 (some ⟨g1, 0, none⟩) 4 (colCells tCols)) ∧ Ro w' M (SlR 4 (some ⟨g2, 0, none⟩) 3 (colCells uCols))

set_option maxHeartbeats 2000000 in
theorem schemas_any (M : Nat → Prop) (w : World) (hM : ∀ b, M b → b < w.heap.size) : Calls Try.prog 15 #[] w fun e w' => SchemasAre w M e w' := by
  have K0 := ((((Hold.start M w hM).alloc_cst (colCells logCols).toArray 58).alloc_cst (colCells tCols).toArray 58).alloc_cst (colCells uCols).toArray 58).alloc_cst
    #[.string nmLog, .slice (some ⟨w.heap.size, 0, none⟩) 2 2, .string nmT, .slice (some ⟨w.heap.size + 1, 0, none⟩) 4 4, .string nmU, .slice (some ⟨w.heap.size + 1 + 1, 0, none⟩) 3 3] 53
  simp only [World.size_alloc] at K0
  go_enter Try.func15, Try.ntmps15
  go_wp2
  go_ret
  refine ⟨w.heap.size + 1 + 1 + 1, w.heap.size, w.heap.size + 1, w.heap.size + 1 + 1, nmLog, nmT, nmU, rfl, rfl, rfl, rfl, K0.below, ?_, ?_, ?_, ?_⟩
  · exact Ro.less (K0.get 0 rfl) fun b hb => .inl hb
  · exact (ro_block (K0.get 3 rfl) (by rfl)).less fun b hb => .inl hb
  · exact (ro_block (K0.get 2 rfl) (by rfl)).less fun b hb => .inl hb
  · exact (ro_block (K0.get 1 rfl) (by rfl)).less fun b hb => .inl hb
end Go.Proofs.Ytkpbnlbhfhkhcaa

namespace Go.Proofs.Ytkpbnlbhfhkhcaa
open Go.RowKit
set_option linter.unusedVariables false
set_option linter.unusedSimpArgs false

end Go.Proofs.Ytkpbnlbhfhkhcaa

namespace Go.Proofs.Ytkpbnlbhfhkhcaa
open Go.RowKit
set_option linter.unusedVariables false
set_option linter.unusedSimpArgs false

end Go.Proofs.Ytkpbnlbhfhkhcaa

namespace Go.Proofs.Ytkpbnlbhfhkhcaa
open Go.RowKit
set_option linter.unusedVariables false
set_option linter.unusedSimpArgs false

/-- a column of a kind -/
def ColOk (c : Col) : Prop := c.ty = 1 ∨ c.ty = 2 ∨ c.ty = 3
end Go.Proofs.Ytkpbnlbhfhkhcaa

namespace Go.Proofs.Ytkpbnlbhfhkhcaa
open Go.RowKit
set_option linter.unusedVariables false
set_option linter.unusedSimpArgs false

/-- every key column is the first one -/
def KeyOne (cs : List Col) : Prop := ∀ (i : Nat) (c : Col), cs[i]? = some c → c.key = true → findB Col.key cs = i
end Go.Proofs.Ytkpbnlbhfhkhcaa

namespace Go.Proofs.Ytkpbnlbhfhkhcaa
open Go.RowKit
set_option linter.unusedVariables false
set_option linter.unusedSimpArgs false
section
variable {P : Program} {M : Nat → Prop} {row : Option Nat} {w0 w1 : World} {L : List Hp} {sp : SpW} {F : Act → Prop} {S0 : Array Bool}
variable {ops : Array Oper} {o : Oper} {rest : List Oper} {a : Act} {k : Nat}
end
end Go.Proofs.Ytkpbnlbhfhkhcaa

namespace Go.Proofs.Ytkpbnlbhfhkhcaa
open Go.RowKit
set_option linter.unusedVariables false
set_option linter.unusedSimpArgs false

/-- a table in plain words -/
structure Tb where
  nm : ByteArray
  cs : List Col
  nx : Int
  rs : List Row
deriving DecidableEq
end Go.Proofs.Ytkpbnlbhfhkhcaa

namespace Go.Proofs.Ytkpbnlbhfhkhcaa
open Go.RowKit
set_option linter.unusedVariables false
set_option linter.unusedSimpArgs false

section
variable {M : Nat → Prop}
end
end Go.Proofs.Ytkpbnlbhfhkhcaa

namespace Go.Proofs.Ytkpbnlbhfhkhcaa
open Go.RowKit
set_option linter.unusedVariables false
/-- the items under one name -/
theorem Hold.name {M : Nat → Prop} {row : Option Nat} {w0 w : World} {L : List Hp} (h : Hold M row w0 w L) : ∃ KL, KL = L ∧ Hold M row w0 w KL := ⟨L, rfl, h⟩
end Go.Proofs.Ytkpbnlbhfhkhcaa

namespace Go.Proofs.Ytkpbnlbhfhkhcaa
open Go.RowKit
set_option linter.unusedVariables false
set_option linter.unusedSimpArgs false

end Go.Proofs.Ytkpbnlbhfhkhcaa

namespace Go.Proofs.Ytkpbnlbhfhkhcaa
open Go.RowKit
set_option linter.unusedVariables false
set_option linter.unusedSimpArgs false

end Go.Proofs.Ytkpbnlbhfhkhcaa

namespace Go.Proofs.Ytkpbnlbhfhkhcaa
open Go.RowKit
set_option linter.unusedVariables false
set_option linter.unusedSimpArgs false

theorem okR_fits {cs : List Col} {nx : Int} : ∀ {lst : Int} {rs : List Row}, okR cs nx lst rs = true → ∀ r ∈ rs, fitsT cs r.2 = 0
  | _, [], _, r, hr => nomatch hr
  | lst, x :: rs, h, r, hr => by
    rw [okR] at h
    simp only [Bool.and_eq_true, decide_eq_true_eq] at h
    rcases List.mem_cons.1 hr with rfl | hr
    · exact h.1.2
    · exact okR_fits h.2 r hr
theorem fitsT_len {cs : List Col} {vs : List Vl} (h : fitsT cs vs = 0) : vs.length = cs.length := by
  unfold fitsT at h
  split at h
  · assumption
  · omega
end Go.Proofs.Ytkpbnlbhfhkhcaa

namespace Go.Proofs.Ytkpbnlbhfhkhcaa
open Go.RowKit
set_option linter.unusedVariables false
set_option linter.unusedSimpArgs false

/-- what is known of the rows -/
structure RowsOk (cs : List Col) (nx : Int) (rs : List Rw) : Prop where
  ok : okR cs nx 0 (rs.map Rw.row) = true
  dup : dupB cs (rs.map Rw.row) = false
  rok : ∀ r ∈ rs, r.ok
end Go.Proofs.Ytkpbnlbhfhkhcaa

namespace Go.Proofs.Ytkpbnlbhfhkhcaa
open Go.RowKit
set_option linter.unusedVariables false
set_option linter.unusedSimpArgs false
section
variable {P : Program} {ops : Array Oper} {C : World → Prop} {G : Option Tmp → Value → World → Prop} {R : World → World → Prop} {F : Act → Prop} {o : Oper} {rest : List Oper} {a : Act} {k : Nat} {S0 : Array Bool}
/-- an operation that hands back some value of its class -/
theorem rel_step (hS : S0.getD k false = false) (hw : Region.wanted o (yielded ops a.tmps) = true) (d : Tmp) (hd : o.dst = some d) (hg : ∀ w, C w → Deps ops G o a w → ∃ u w', (execOp a.eval o).run P w = .ok (.value u) w' ∧ G (some d) u w' ∧ C w' ∧ R w w')
    (hn : ∀ u w, C w → G (some d) u w → wpRel P ops C G R S0 F (k + 1) rest (a.put (some d) u)) : wpRel P ops C G R S0 F k (o :: rest) a := by
  unfold wpRel
  rw [hS, if_neg (by simp)]
  refine ⟨by unfold StepOk; simp only [hw, if_true]; intro w hC hD; obtain ⟨u, w', hr, h1, h2, h3⟩ := hg w hC hD; unfold Good; rw [hr, hd]; exact ⟨h1, h2, h3⟩, fun x _ hx => ?_⟩
  obtain ⟨w, hC, h⟩ := hx d hd
  rw [hd]; exact hn x w hC h
end
theorem own_ro {w : World} {M : Nat → Prop} {b0 : Nat} (hM : ∀ b, M b → b < b0) {e : TypeId} {size n c : Nat} {A : Option Addr} {xs : List Value} (h : w.ownsRow b0 e size (.slice A n c) n xs) : Ro w M (SlR size A n xs) :=
  fun w2 h1 h2 => Rd.of_own (own_RM hM ⟨h1, h2⟩ h)
section
variable {P : Program} {M : Nat → Prop} {row : Option Nat} {w0 w1 : World} {L : List Hp} {sp : SpW} {F : Act → Prop} {S0 : Array Bool}
variable {ops : Array Oper} {o : Oper} {rest : List Oper} {a : Act} {k : Nat}
end
end Go.Proofs.Ytkpbnlbhfhkhcaa

namespace Go.Proofs.Ytkpbnlbhfhkhcaa
open Go.RowKit
set_option linter.unusedVariables false
set_option linter.unusedSimpArgs false
section
variable {P : Program} {M : Nat → Prop} {row : Option Nat} {w0 w1 : World} {L : List Hp} {sp : SpW} {F : Act → Prop} {S0 : Array Bool}
variable {ops : Array Oper} {o : Oper} {rest : List Oper} {a : Act} {k : Nat}
end
/-- an own row, as a statement that stays -/
theorem Ro.own {w : World} {M : Nat → Prop} {b0 b1 : Nat} (hM : ∀ b, M b → b < b1) (h01 : b0 ≤ b1) {e : TypeId} {size n : Nat} {v : Value} {xs : List Value} (h : w.ownsRow b1 e size v n xs) : Ro w M (fun w => w.ownsRow b0 e size v n xs) :=
  fun w2 h1 h2 => own_base h01 (own_RM hM ⟨h1, h2⟩ h)
/-- the rows' values are own rows, each at the head of its block -/
def OwnVals (VT : TypeId) (b0 : Nat) (l : List Rw) (w : World) : Prop := ∀ r ∈ l, w.ownsRow b0 VT 3 (.slice r.A r.n r.c) r.n (vlCells r.vs)
/-- said of a world in which the caller's blocks lie below b0 -/
theorem OwnVals.ro {VT : TypeId} {b0 : Nat} {l : List Rw} {w : World} {M : Nat → Prop} (hM : ∀ b, M b → b < b0) (h : OwnVals VT b0 l w) : Ro w M (ValsIn l) := fun w2 h1 h2 r hr => Rd.of_own (own_RM hM ⟨h1, h2⟩ (h r hr))
theorem OwnVals.far {VT : TypeId} {b0 g : Nat} {l : List Rw} {w : World} {t : TypeId} {cs : Array Value} (h : OwnVals VT b0 l w) (hg : Blk w g t cs) (hne : t ≠ VT) (j : Nat) (u : Value) : OwnVals VT b0 l (w.setCell ⟨g, j, none⟩ u) := fun r hr => by
  have ho := h r hr
  refine ⟨ho.1, ?_⟩
  rcases ho.2 with hz | ⟨g', cap, cur, hv, hb, hh, rest⟩
  · exact .inl hz
  · have hn : g' ≠ g := by
      rintro rfl
      have hg2 : w.heap[g']? = some (.cells cs t (0, 0)) := hg
      rw [hh] at hg2
      injection hg2 with hg2
      injection hg2 with _ hg2
      exact hne hg2.symm
    exact .inr ⟨g', cap, cur, hv, hb, (Below.heap_setCell _ _ _ g' hn).trans hh, rest⟩
end Go.Proofs.Ytkpbnlbhfhkhcaa

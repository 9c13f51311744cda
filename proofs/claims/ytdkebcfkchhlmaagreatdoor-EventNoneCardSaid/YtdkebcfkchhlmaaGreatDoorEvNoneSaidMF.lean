/- RChk6: the reference's check of an action returns (ref11). -/
import Derived.Test.YtdkebcfkchhlmaaGreatDoorEvNoneSaidMA
import Derived.Test.YtdkebcfkchhlmaaGreatDoorEvNoneSaidMB
import Derived.Deep.DeepCutAuto
import Derived.Test.YtdkebcfkchhlmaaGreatDoorEvNoneSaidMD
import Derived.Deep.CutBlock
namespace Go.Proofs.YtdkebcfkchhlmaaGreatDoor
open Go.RowKit
set_option linter.unusedVariables false
set_option linter.unusedSimpArgs false
def BoolRet (w : World) (e : Ending) (w' : World) : Prop := ∃ b : Bool, e = .returned (.bool b) ∧ Below w.heap.size w w'
set_option maxHeartbeats 4000000 in
set_option maxRecDepth 100000 in
theorem source_any (s : ByteArray) (w : World) : Calls Tryz.prog 234 #[.string s] w fun e w' => BoolRet w e w' := by
 have K0 := Hold.start None_ w zn
 go_enter Tryz.func234, Tryz.ntmps234
 go_wp2_with fail
 refine (rvalidname_all s _).mono ?_
 rintro e w1 ⟨rfl, rfl⟩
 generalize nameB s = b
 go_wp2_with fail
 all_goals (go_ret; exact ⟨_, rfl, K0.below⟩)
set_option maxHeartbeats 4000000 in
set_option maxRecDepth 100000 in
theorem rplain_any (x : Ex) (w : World) : Calls Tryz.prog 235 #[.agg #[.int .i64 x.kind, .int .i64 x.op, .bool x.nt, .int .i64 x.v.k, .int .i64 x.v.i, .string x.v.s, .string x.tab, .string x.nm, .slice x.A x.n x.c, .slice x.B x.m x.d]] w fun e w' => BoolRet w e w' := by
 have K0 := (Hold.start None_ w zn).alloc_cst #[.int .i64 x.kind, .int .i64 x.op, .bool x.nt, .int .i64 x.v.k, .int .i64 x.v.i, .string x.v.s, .string x.tab, .string x.nm, .slice x.A x.n x.c, .slice x.B x.m x.d] 134
 have F0 := K0.facts
 simp only [factsL, cellsF, Nat.reduceAdd, zf, zl] at F0
 go_enter Tryz.func235, Tryz.ntmps235
 go_upto_region 1 with fail
 generalize World.alloc _ _ = w1 at K0 F0 ⊢
 go_wp2_with fail
 all_goals (go_ret; exact ⟨_, rfl, K0.below⟩)
theorem sub_at {d : Nat} {x : Ex} {w : World} (h : ExIn d x w) (h1 : x.m = 1) : ∃ (b o : Nat) (q : Qu), x.B = some ⟨b, o, none⟩ ∧ b < w.heap.size ∧ x.sub = [q] ∧ w.cell? ⟨b, o, none⟩ = some (.bool q.star) ∧ w.cell? ⟨b, o + 1, none⟩ = some (.slice q.A q.n q.c) ∧ w.cell? ⟨b, o + 2, none⟩ = some (.string q.src) ∧ w.cell? ⟨b, o + 3, none⟩ = some (.slice q.B q.m q.d) := by
 cases d with
 | zero => exact h.elim
 | succ d =>
  have h3 : Rd w w.heap.size 4 x.B x.m (quCells x.sub) := h.2.2.1
  have hl : x.sub.length = 1 := by
   have := h3.1
   rw [quCells_len] at this
   omega
  obtain ⟨q, hq⟩ : ∃ q, x.sub = [q] := by
   match hh : x.sub, hl with
   | [q], _ => exact ⟨q, rfl⟩
  obtain ⟨b, o, e, hb, hc⟩ := h3.2 (by omega)
  rw [hq] at hc
  exact ⟨b, o, q, e, hb, hq, by simpa using hc 0 _ rfl, hc 1 _ rfl, hc 2 _ rfl, hc 3 _ rfl⟩
set_option maxHeartbeats 16000000 in
set_option maxRecDepth 100000 in
theorem shape_any (d : Nat) (x : Ex) (w : World) (hx : Ro w None_ (ExIn d x)) : Calls Tryz.prog 185 #[.agg #[.int .i64 x.kind, .int .i64 x.op, .bool x.nt, .int .i64 x.v.k, .int .i64 x.v.i, .string x.v.s, .string x.tab, .string x.nm, .slice x.A x.n x.c, .slice x.B x.m x.d]] w fun e w' => BoolRet w e w' := by
 have K0 := ((Hold.start None_ w zn).add (hx.less (by simp [Mut]))).alloc_cst #[.int .i64 x.kind, .int .i64 x.op, .bool x.nt, .int .i64 x.v.k, .int .i64 x.v.i, .string x.v.s, .string x.tab, .string x.nm, .slice x.A x.n x.c, .slice x.B x.m x.d] 134
 have F0 := K0.facts
 simp only [factsL, cellsF, Nat.reduceAdd, zf, zl] at F0
 have HX := hid (K0.ro 1 rfl).now
 clear hx
 go_enter Tryz.func185, Tryz.ntmps185
 by_cases hm : x.m = 1
 ·obtain ⟨b, o, q, eB, hb, -, q0, q1, q2, q3⟩ := sub_at HX.out hm
  rw [eB, hm] at K0 F0 q0 q1 q2 q3 hb ⊢
  clear HX hm eB
  go_upto_region 1 with fail
  generalize World.alloc _ _ = w1 at K0 F0 q0 q1 q2 q3 hb ⊢
  go_wp2_with fail
  all_goals first
   | (go_ret; exact ⟨_, rfl, K0.below⟩)
 ·have hmb : ((x.m : Int) == 1) = false := by simp; omega
  clear HX
  go_upto_region 1 with fail
  generalize World.alloc _ _ = w1 at K0 F0 ⊢
  go_wp2_with fail
  all_goals (go_ret; exact ⟨_, rfl, K0.below⟩)
def VE (d : Nat) : Prop := ∀ (x : Ex) (w : World) (hx : Ro w None_ (ExIn d x)) (hg : ExGd d x), Calls Tryz.prog 209 #[.agg #[.int .i64 x.kind, .int .i64 x.op, .bool x.nt, .int .i64 x.v.k, .int .i64 x.v.i, .string x.v.s, .string x.tab, .string x.nm, .slice x.A x.n x.c, .slice x.B x.m x.d]] w fun e w' => BoolRet w e w'
def VA (d : Nat) : Prop := ∀ (A : Option Addr) (n c : Nat) (l : List Ex) (w : World) (hx : Ro w None_ (ExsIn d A n l)) (hg : ∀ x ∈ l, ExGd d x) (hn : n ≤ 1000), Calls Tryz.prog 165 #[.slice A n c] w fun e w' => BoolRet w e w'
set_option maxHeartbeats 8000000 in
set_option maxRecDepth 100000 in
theorem va_of {d : Nat} (h : VE d) : VA d := by
 intro A n c l w hx hg hn
 have HLN := hid (show l.length = n from hx.now.len)
 have K0 := (Hold.start None_ w zn).add (hx.less (by simp [Mut]))
 clear hx
 go_enter Tryz.func165, Tryz.ntmps165
 go_wp2_with fail
 go_loopw [7] (fun iv wr => ∃ j : Nat, j ≤ n ∧ iv = .int .i64 j ∧ Hold None_ none w wr [.ro (ExsIn d A n l)]) (fun iv _ => n - (intOf iv).toNat)
 case atStart => exact ⟨0, by omega, rfl, K0⟩
 case round =>
  clear K0
  obtain ⟨j, hj, rfl, H⟩ := hrel
  by_cases hlt : j < n
  ·obtain ⟨x, hx⟩ : ∃ c, l[j]? = some c := ⟨l[j]'(by rw [HLN.out]; exact hlt), List.getElem?_eq_getElem _⟩
   have hm := List.mem_of_getElem? hx
   obtain ⟨b, o, rfl, hb2, hc, -⟩ := (H.ro 0 rfl).now.at_ hx
   have x0 := hc 0 _ (by omega) rfl
   have x1 := hc 1 _ (by omega) rfl
   have x2 := hc 2 _ (by omega) rfl
   have x3 := hc 3 _ (by omega) rfl
   have x4 := hc 4 _ (by omega) rfl
   have x5 := hc 5 _ (by omega) rfl
   have x6 := hc 6 _ (by omega) rfl
   have x7 := hc 7 _ (by omega) rfl
   have x8 := hc 8 _ (by omega) rfl
   have x9 := hc 9 _ (by omega) rfl
   simp only [Nat.add_zero] at x0 x1 x2 x3 x4 x5 x6 x7 x8 x9
   clear hc hx
   have K2 := H.alloc_cst #[.int .i64 x.kind, .int .i64 x.op, .bool x.nt, .int .i64 x.v.k, .int .i64 x.v.i, .string x.v.s, .string x.tab, .string x.nm, .slice x.A x.n x.c, .slice x.B x.m x.d] 134
   have F2 := K2.facts
   simp only [factsL, cellsF, Nat.reduceAdd, zf, zl] at F2
   clear H
   go_wp2_with fail
   refine (h x _ (((K2.ro 1 rfl).imp fun w2 h2 => h2.2 x hm).less zn) (hg x hm)).mono ?_
   rintro e w3 ⟨r, rfl, b3⟩
   have K3 := K2.call b3
   clear K2 F2 b3 x0 x1 x2 x3 x4 x5 x6 x7 x8 x9
   cases r
   ·have HB := hid K3.below
    go_wp2_with fail
    go_ret
    exact ⟨_, rfl, HB.out⟩
   ·go_wp2_with fail
    go_roundw
    case rel => exact ⟨j + 1, by omega, by go_num, K3.drop (List.sublist_cons_self _ _)⟩
    case measure => simp [intOf]; omega
  ·obtain rfl : n = j := by omega
   have HB := hid H.below
   go_wp2_with fail
   go_ret
   exact ⟨_, rfl, HB.out⟩
theorem rvalidname_ret (s : ByteArray) (w : World) : Calls Tryz.prog 163 #[.string s] w fun e w' => BoolRet w e w' := (rvalidname_all s w).mono fun e w' ⟨h1, h2⟩ => ⟨_, h1, by subst h2; exact (Hold.start None_ w zn).below⟩
theorem rvalid_ret (k i : Int) (s : ByteArray) (w : World) : Calls Tryz.prog 184 #[.agg #[.int .i64 k, .int .i64 i, .string s]] w fun e w' => BoolRet w e w' := (rvalid_all k i s w).mono fun e w' ⟨h1, h2⟩ => ⟨_, h1, by subst h2; exact ((Hold.start None_ w zn).alloc_cst _ _).below⟩
set_option maxHeartbeats 16000000 in
set_option maxRecDepth 100000 in
theorem ve_of {d : Nat} (HA : VA d) : VE (d + 1) := by
 intro x w hx hg
 obtain ⟨kind, op, nt, ⟨vk, vi, vs⟩, tab, nm, A, n, c, args, B, m, e, sub⟩ := x
 have hsl : sub.length = m := by
  have h := (show Rd _ _ 4 B m (quCells sub) from (ExIn.succ.1 hx.now).2.1).1
  rw [quCells_len] at h
  omega
 have HG := hid (show (∀ a ∈ args, ExGd d a) ∧ n ≤ 1000 ∧ m ≤ 1 from ⟨hg.2.2.1, by
  have h : args.length = n := (ExIn.succ.1 hx.now).1.len
  have h2 : args.length ≤ 3 := hg.2.1.2.1
  omega, by
  have h2 : sub.length ≤ 1 := hg.2.1.2.2
  omega⟩)
 have HQ0 := hid (show ∀ q ∈ sub, (∀ a ∈ q.items, ExGd d a) ∧ (∀ a ∈ q.wh, ExGd d a) ∧ q.n ≤ 1000 ∧ q.m ≤ 1000 from fun q hq => by
  have h3 := hg.2.2.2 q hq
  have h5 := (ExIn.succ.1 hx.now).2.2 q hq
  have h6 : q.items.length = q.n := ExsIn.len h5.1
  have h7 : q.wh.length = q.m := ExsIn.len (show ExsIn d q.B q.m q.wh w from h5.2)
  have h8 := h3.2.1
  exact ⟨h3.2.2.1, h3.2.2.2, by omega, by omega⟩)
 have K0 := ((Hold.start None_ w zn).add (hx.less (by simp [Mut]))).alloc_cst #[.int .i64 kind, .int .i64 op, .bool nt, .int .i64 vk, .int .i64 vi, .string vs, .string tab, .string nm, .slice A n c, .slice B m e] 134
 obtain ⟨gx, hgx⟩ : ∃ g, g = w.heap.size := ⟨_, rfl⟩
 rw [← hgx] at K0
 have F0 := K0.facts
 simp only [factsL, cellsF, Nat.reduceAdd, zf, zl] at F0
 rw [hgx] at F0
 clear hx hg
 go_enter Tryz.func209, Tryz.ntmps209
 go_upto_region 1 with fail
 rw [← hgx] at F0 ⊢
 have HGX := hid hgx
 clear hgx
 generalize World.alloc _ _ = w1 at K0 F0 ⊢
 obtain ⟨c5, h5⟩ : ∃ z : Bool, (kind != 5) = z := ⟨_, rfl⟩
 obtain ⟨c6, h6⟩ : ∃ z : Bool, (kind != 6) = z := ⟨_, rfl⟩
 obtain ⟨c0, h0⟩ : ∃ z : Bool, (op != 0) = z := ⟨_, rfl⟩
 go_cut [27] (fun v wx => ∃ bb : Bool, v = .bool bb ∧ Hold None_ none w wx [.cst gx 134 #[.int .i64 kind, .int .i64 op, .bool nt, .int .i64 vk, .int .i64 vi, .string vs, .string tab, .string nm, .slice A n c, .slice B m e], .ro (ExIn (d + 1) ⟨kind, op, nt, ⟨vk, vi, vs⟩, tab, nm, A, n, c, args, B, m, e, sub⟩)])
 case first =>
  go_wp2_with (first
  | (go_at_call 185; go_must (refine (shape_any (d + 1) ⟨kind, op, nt, ⟨vk, vi, vs⟩, tab, nm, A, n, c, args, B, m, e, sub⟩ _ ((K0.ro 1 rfl).less zn)).mono ?_); rintro e w1 ⟨r, rfl, b1⟩; replace K0 := K0.call b1; replace F0 := K0.facts; simp only [factsL, cellsF, Nat.reduceAdd, zf, zl] at F0; clear b1)
  | (go_at_call 184; go_must (refine (rvalid_ret _ _ _ _).mono ?_); rintro e w1 ⟨r, rfl, b1⟩; replace K0 := K0.call b1; replace F0 := K0.facts; simp only [factsL, cellsF, Nat.reduceAdd, zf, zl] at F0; clear b1)
  | (go_at_call 234; go_must (refine (source_any _ _).mono ?_); rintro e w1 ⟨r, rfl, b1⟩; replace K0 := K0.call b1; replace F0 := K0.facts; simp only [factsL, cellsF, Nat.reduceAdd, zf, zl] at F0; clear b1)
  | (go_at_call 163; go_must (refine (rvalidname_ret _ _).mono ?_); rintro e w1 ⟨r, rfl, b1⟩; replace K0 := K0.call b1; replace F0 := K0.facts; simp only [factsL, cellsF, Nat.reduceAdd, zf, zl] at F0; clear b1)
  | (go_at_call 235; go_must (refine (rplain_any ⟨kind, op, nt, ⟨vk, vi, vs⟩, tab, nm, A, n, c, args, B, m, e, sub⟩ _).mono ?_); rintro e w1 ⟨r, rfl, b1⟩; replace K0 := K0.call b1; replace F0 := K0.facts; simp only [factsL, cellsF, Nat.reduceAdd, zf, zl] at F0; clear b1))
  all_goals (go_meet; exact ⟨_, rfl, K0⟩)
 case rest =>
  obtain ⟨bb, rfl, K1⟩ := hcut
  clear K0 F0
  have K0 := K1
  clear K1
  have F0 := K0.facts
  simp only [factsL, cellsF, Nat.reduceAdd, zf, zl] at F0
  clear h5 h6 h0
  cases bb
  ·by_cases k1 : kind = 1
   ·subst k1
    go_wp2_with (first
  | (go_at_call 185; go_must (refine (shape_any (d + 1) ⟨1, op, nt, ⟨vk, vi, vs⟩, tab, nm, A, n, c, args, B, m, e, sub⟩ _ ((K0.ro 1 rfl).less zn)).mono ?_); rintro e w1 ⟨r, rfl, b1⟩; replace K0 := K0.call b1; replace F0 := K0.facts; simp only [factsL, cellsF, Nat.reduceAdd, zf, zl] at F0; clear b1)
  | (go_at_call 184; go_must (refine (rvalid_ret _ _ _ _).mono ?_); rintro e w1 ⟨r, rfl, b1⟩; replace K0 := K0.call b1; replace F0 := K0.facts; simp only [factsL, cellsF, Nat.reduceAdd, zf, zl] at F0; clear b1)
  | (go_at_call 234; go_must (refine (source_any _ _).mono ?_); rintro e w1 ⟨r, rfl, b1⟩; replace K0 := K0.call b1; replace F0 := K0.facts; simp only [factsL, cellsF, Nat.reduceAdd, zf, zl] at F0; clear b1)
  | (go_at_call 163; go_must (refine (rvalidname_ret _ _).mono ?_); rintro e w1 ⟨r, rfl, b1⟩; replace K0 := K0.call b1; replace F0 := K0.facts; simp only [factsL, cellsF, Nat.reduceAdd, zf, zl] at F0; clear b1)
  | (go_at_call 235; go_must (refine (rplain_any ⟨1, op, nt, ⟨vk, vi, vs⟩, tab, nm, A, n, c, args, B, m, e, sub⟩ _).mono ?_); rintro e w1 ⟨r, rfl, b1⟩; replace K0 := K0.call b1; replace F0 := K0.facts; simp only [factsL, cellsF, Nat.reduceAdd, zf, zl] at F0; clear b1))
    all_goals (go_ret; exact ⟨_, rfl, K0.below⟩)
   ·have k1b : (kind == 1) = false := by simpa using k1
    by_cases k2 : kind = 2
    ·subst k2
     go_upto_region 7 with fail
     go_cut [3] (fun v wx => ∃ bb : Bool, v = .bool bb ∧ Hold None_ none w wx [.cst gx 134 #[.int .i64 2, .int .i64 op, .bool nt, .int .i64 vk, .int .i64 vi, .string vs, .string tab, .string nm, .slice A n c, .slice B m e], .ro (ExIn (d + 1) ⟨2, op, nt, ⟨vk, vi, vs⟩, tab, nm, A, n, c, args, B, m, e, sub⟩)])
     case first =>
      go_wp2_with (first
  | (go_at_call 185; go_must (refine (shape_any (d + 1) ⟨2, op, nt, ⟨vk, vi, vs⟩, tab, nm, A, n, c, args, B, m, e, sub⟩ _ ((K0.ro 1 rfl).less zn)).mono ?_); rintro e w1 ⟨r, rfl, b1⟩; replace K0 := K0.call b1; replace F0 := K0.facts; simp only [factsL, cellsF, Nat.reduceAdd, zf, zl] at F0; clear b1)
  | (go_at_call 184; go_must (refine (rvalid_ret _ _ _ _).mono ?_); rintro e w1 ⟨r, rfl, b1⟩; replace K0 := K0.call b1; replace F0 := K0.facts; simp only [factsL, cellsF, Nat.reduceAdd, zf, zl] at F0; clear b1)
  | (go_at_call 234; go_must (refine (source_any _ _).mono ?_); rintro e w1 ⟨r, rfl, b1⟩; replace K0 := K0.call b1; replace F0 := K0.facts; simp only [factsL, cellsF, Nat.reduceAdd, zf, zl] at F0; clear b1)
  | (go_at_call 163; go_must (refine (rvalidname_ret _ _).mono ?_); rintro e w1 ⟨r, rfl, b1⟩; replace K0 := K0.call b1; replace F0 := K0.facts; simp only [factsL, cellsF, Nat.reduceAdd, zf, zl] at F0; clear b1)
  | (go_at_call 235; go_must (refine (rplain_any ⟨2, op, nt, ⟨vk, vi, vs⟩, tab, nm, A, n, c, args, B, m, e, sub⟩ _).mono ?_); rintro e w1 ⟨r, rfl, b1⟩; replace K0 := K0.call b1; replace F0 := K0.facts; simp only [factsL, cellsF, Nat.reduceAdd, zf, zl] at F0; clear b1))
      all_goals (go_meet; exact ⟨_, rfl, K0⟩)
     case rest =>
      obtain ⟨bb, rfl, K1⟩ := hcut
      clear K0 F0
      have K0 := K1
      clear K1
      have F0 := K0.facts
      simp only [factsL, cellsF, Nat.reduceAdd, zf, zl] at F0
      go_wp2_with (first
  | (go_at_call 185; go_must (refine (shape_any (d + 1) ⟨2, op, nt, ⟨vk, vi, vs⟩, tab, nm, A, n, c, args, B, m, e, sub⟩ _ ((K0.ro 1 rfl).less zn)).mono ?_); rintro e w1 ⟨r, rfl, b1⟩; replace K0 := K0.call b1; replace F0 := K0.facts; simp only [factsL, cellsF, Nat.reduceAdd, zf, zl] at F0; clear b1)
  | (go_at_call 184; go_must (refine (rvalid_ret _ _ _ _).mono ?_); rintro e w1 ⟨r, rfl, b1⟩; replace K0 := K0.call b1; replace F0 := K0.facts; simp only [factsL, cellsF, Nat.reduceAdd, zf, zl] at F0; clear b1)
  | (go_at_call 234; go_must (refine (source_any _ _).mono ?_); rintro e w1 ⟨r, rfl, b1⟩; replace K0 := K0.call b1; replace F0 := K0.facts; simp only [factsL, cellsF, Nat.reduceAdd, zf, zl] at F0; clear b1)
  | (go_at_call 163; go_must (refine (rvalidname_ret _ _).mono ?_); rintro e w1 ⟨r, rfl, b1⟩; replace K0 := K0.call b1; replace F0 := K0.facts; simp only [factsL, cellsF, Nat.reduceAdd, zf, zl] at F0; clear b1)
  | (go_at_call 235; go_must (refine (rplain_any ⟨2, op, nt, ⟨vk, vi, vs⟩, tab, nm, A, n, c, args, B, m, e, sub⟩ _).mono ?_); rintro e w1 ⟨r, rfl, b1⟩; replace K0 := K0.call b1; replace F0 := K0.facts; simp only [factsL, cellsF, Nat.reduceAdd, zf, zl] at F0; clear b1))
      all_goals (go_ret; exact ⟨_, rfl, K0.below⟩)
    ·have k2b : (kind == 2) = false := by simpa using k2
     go_upto_region 9 with fail
     go_cut [97] (fun v wx => ∃ bb : Bool, v = .bool bb ∧ Hold None_ none w wx [.cst gx 134 #[.int .i64 kind, .int .i64 op, .bool nt, .int .i64 vk, .int .i64 vi, .string vs, .string tab, .string nm, .slice A n c, .slice B m e], .ro (ExIn (d + 1) ⟨kind, op, nt, ⟨vk, vi, vs⟩, tab, nm, A, n, c, args, B, m, e, sub⟩)])
     case first =>
      go_wp2_with (first
  | (go_at_call 185; go_must (refine (shape_any (d + 1) ⟨kind, op, nt, ⟨vk, vi, vs⟩, tab, nm, A, n, c, args, B, m, e, sub⟩ _ ((K0.ro 1 rfl).less zn)).mono ?_); rintro e w1 ⟨r, rfl, b1⟩; replace K0 := K0.call b1; replace F0 := K0.facts; simp only [factsL, cellsF, Nat.reduceAdd, zf, zl] at F0; clear b1)
  | (go_at_call 184; go_must (refine (rvalid_ret _ _ _ _).mono ?_); rintro e w1 ⟨r, rfl, b1⟩; replace K0 := K0.call b1; replace F0 := K0.facts; simp only [factsL, cellsF, Nat.reduceAdd, zf, zl] at F0; clear b1)
  | (go_at_call 234; go_must (refine (source_any _ _).mono ?_); rintro e w1 ⟨r, rfl, b1⟩; replace K0 := K0.call b1; replace F0 := K0.facts; simp only [factsL, cellsF, Nat.reduceAdd, zf, zl] at F0; clear b1)
  | (go_at_call 163; go_must (refine (rvalidname_ret _ _).mono ?_); rintro e w1 ⟨r, rfl, b1⟩; replace K0 := K0.call b1; replace F0 := K0.facts; simp only [factsL, cellsF, Nat.reduceAdd, zf, zl] at F0; clear b1)
  | (go_at_call 235; go_must (refine (rplain_any ⟨kind, op, nt, ⟨vk, vi, vs⟩, tab, nm, A, n, c, args, B, m, e, sub⟩ _).mono ?_); rintro e w1 ⟨r, rfl, b1⟩; replace K0 := K0.call b1; replace F0 := K0.facts; simp only [factsL, cellsF, Nat.reduceAdd, zf, zl] at F0; clear b1)
  | (go_at_call 165; go_must (refine (HA A n c args _ (((K0.ro 1 rfl).imp fun w2 h2 => (ExIn.succ.1 h2).1).less zn) HG.out.1 HG.out.2.1).mono ?_); rintro e w1 ⟨r, rfl, b1⟩; replace K0 := K0.call b1; replace F0 := K0.facts; simp only [factsL, cellsF, Nat.reduceAdd, zf, zl] at F0; clear b1))
      all_goals (go_meet; exact ⟨_, rfl, K0⟩)
     case rest =>
      obtain ⟨bb, rfl, K1⟩ := hcut
      clear K0 F0
      have K0 := K1
      clear K1
      have F0 := K0.facts
      simp only [factsL, cellsF, Nat.reduceAdd, zf, zl] at F0
      cases bb
      ·have hm1 := HG.out.2.2
       obtain rfl | rfl : m = 0 ∨ m = 1 := by omega
       ·go_wp2_with fail
        go_loopw [101] (fun iv wr => iv = .int .i64 0 ∧ Hold None_ none w wr [.cst gx 134 #[.int .i64 kind, .int .i64 op, .bool nt, .int .i64 vk, .int .i64 vi, .string vs, .string tab, .string nm, .slice A n c, .slice B 0 e], .ro (ExIn (d + 1) ⟨kind, op, nt, ⟨vk, vi, vs⟩, tab, nm, A, n, c, args, B, 0, e, sub⟩)]) (fun _ _ => 0)
        case atStart => exact ⟨rfl, K0⟩
        case round =>
         clear K0 F0
         obtain ⟨rfl, K0⟩ := hrel
         go_wp2_with fail
         all_goals (go_ret; exact ⟨_, rfl, K0.below⟩)
       ·obtain ⟨b, o, q, eB, hb, hsub, -, -, -, -⟩ := sub_at (K0.ro 1 rfl).now rfl
        have eB : B = some ⟨b, o, none⟩ := eB
        have hsub : sub = [q] := hsub
        subst eB
        have hqm : q ∈ sub := by have h : sub = [q] := hsub; rw [h]; exact List.mem_singleton_self q
        have HQ := hid (HQ0.out q hqm)
        go_wp2_with fail
        go_loopw [101] (fun iv wr => ∃ j : Nat, j ≤ 1 ∧ iv = .int .i64 j ∧ Hold None_ none w wr [.cst gx 134 #[.int .i64 kind, .int .i64 op, .bool nt, .int .i64 vk, .int .i64 vi, .string vs, .string tab, .string nm, .slice A n c, .slice (some ⟨b, o, none⟩) 1 e], .ro (ExIn (d + 1) ⟨kind, op, nt, ⟨vk, vi, vs⟩, tab, nm, A, n, c, args, some ⟨b, o, none⟩, 1, e, sub⟩)]) (fun iv _ => 1 - (intOf iv).toNat)
        case atStart => exact ⟨0, by omega, rfl, K0⟩
        case round =>
         clear K0 F0 hb
         obtain ⟨j, hj, rfl, H⟩ := hrel
         obtain rfl | rfl : j = 0 ∨ j = 1 := by omega
         ·obtain ⟨b2, o2, q', eB, hb, hs2, q0, q1, q2, q3⟩ := sub_at (H.ro 1 rfl).now rfl
          obtain ⟨rfl, rfl⟩ : b = b2 ∧ o = o2 := by injection eB with eB; injection eB with e1 e2; exact ⟨e1, e2⟩
          have hs2 : sub = [q'] := hs2
          obtain rfl : q = q' := by rw [hsub] at hs2; injection hs2
          obtain ⟨gq, hgq, K0⟩ : ∃ gq, gq = _ ∧ Hold None_ none w _ [.cst gq 274 #[.bool q.star, .slice q.A q.n q.c, .string q.src, .slice q.B q.m q.d], .cst gx 134 #[.int .i64 kind, .int .i64 op, .bool nt, .int .i64 vk, .int .i64 vi, .string vs, .string tab, .string nm, .slice A n c, .slice (some ⟨b, o, none⟩) 1 e], .ro (ExIn (d + 1) ⟨kind, op, nt, ⟨vk, vi, vs⟩, tab, nm, A, n, c, args, some ⟨b, o, none⟩, 1, e, sub⟩)] := ⟨_, rfl, H.alloc_cst #[.bool q.star, .slice q.A q.n q.c, .string q.src, .slice q.B q.m q.d] 274⟩
          have F0 := K0.facts
          simp only [factsL, cellsF, Nat.reduceAdd, zf, zl] at F0
          rw [hgq] at F0
          clear H hs2 eB
          go_upto_region 14 with fail
          rw [← hgq] at F0 ⊢
          have HGQ := hid hgq
          clear hgq q0 q1 q2 q3 hb
          generalize World.alloc _ _ = w2 at K0 F0 ⊢
          have HI := hid (fun (wv : World) (h : Hold None_ none w wv [.cst gq 274 #[.bool q.star, .slice q.A q.n q.c, .string q.src, .slice q.B q.m q.d], .cst gx 134 #[.int .i64 kind, .int .i64 op, .bool nt, .int .i64 vk, .int .i64 vi, .string vs, .string tab, .string nm, .slice A n c, .slice (some ⟨b, o, none⟩) 1 e], .ro (ExIn (d + 1) ⟨kind, op, nt, ⟨vk, vi, vs⟩, tab, nm, A, n, c, args, some ⟨b, o, none⟩, 1, e, sub⟩)]) => HA q.A q.n q.c q.items wv (((h.ro 2 rfl).imp fun w2 h2 => ((ExIn.succ.1 h2).2.2 q hqm).1).less zn) HQ.out.1 HQ.out.2.2.1)
          have HW := hid (fun (wv : World) (h : Hold None_ none w wv [.cst gq 274 #[.bool q.star, .slice q.A q.n q.c, .string q.src, .slice q.B q.m q.d], .cst gx 134 #[.int .i64 kind, .int .i64 op, .bool nt, .int .i64 vk, .int .i64 vi, .string vs, .string tab, .string nm, .slice A n c, .slice (some ⟨b, o, none⟩) 1 e], .ro (ExIn (d + 1) ⟨kind, op, nt, ⟨vk, vi, vs⟩, tab, nm, A, n, c, args, some ⟨b, o, none⟩, 1, e, sub⟩)]) => HA q.B q.m q.d q.wh wv (((h.ro 2 rfl).imp fun w2 h2 => ((ExIn.succ.1 h2).2.2 q hqm).2).less zn) HQ.out.2.1 HQ.out.2.2.2)
          go_cut [128] (fun v wx => ∃ bb : Bool, v = .bool bb ∧ Hold None_ none w wx [.cst gq 274 #[.bool q.star, .slice q.A q.n q.c, .string q.src, .slice q.B q.m q.d], .cst gx 134 #[.int .i64 kind, .int .i64 op, .bool nt, .int .i64 vk, .int .i64 vi, .string vs, .string tab, .string nm, .slice A n c, .slice (some ⟨b, o, none⟩) 1 e], .ro (ExIn (d + 1) ⟨kind, op, nt, ⟨vk, vi, vs⟩, tab, nm, A, n, c, args, some ⟨b, o, none⟩, 1, e, sub⟩)])
          case first =>
           skip
           go_wp2_with (first
  | (go_at_call 185; go_must (refine (shape_any (d + 1) ⟨kind, op, nt, ⟨vk, vi, vs⟩, tab, nm, A, n, c, args, B, m, e, sub⟩ _ ((K0.ro 2 rfl).less zn)).mono ?_); rintro e w1 ⟨r, rfl, b1⟩; replace K0 := K0.call b1; replace F0 := K0.facts; simp only [factsL, cellsF, Nat.reduceAdd, zf, zl] at F0; clear b1)
  | (go_at_call 184; go_must (refine (rvalid_ret _ _ _ _).mono ?_); rintro e w1 ⟨r, rfl, b1⟩; replace K0 := K0.call b1; replace F0 := K0.facts; simp only [factsL, cellsF, Nat.reduceAdd, zf, zl] at F0; clear b1)
  | (go_at_call 234; go_must (refine (source_any _ _).mono ?_); rintro e w1 ⟨r, rfl, b1⟩; replace K0 := K0.call b1; replace F0 := K0.facts; simp only [factsL, cellsF, Nat.reduceAdd, zf, zl] at F0; clear b1)
  | (go_at_call 163; go_must (refine (rvalidname_ret _ _).mono ?_); rintro e w1 ⟨r, rfl, b1⟩; replace K0 := K0.call b1; replace F0 := K0.facts; simp only [factsL, cellsF, Nat.reduceAdd, zf, zl] at F0; clear b1)
  | (go_at_call 235; go_must (refine (rplain_any ⟨kind, op, nt, ⟨vk, vi, vs⟩, tab, nm, A, n, c, args, B, m, e, sub⟩ _).mono ?_); rintro e w1 ⟨r, rfl, b1⟩; replace K0 := K0.call b1; replace F0 := K0.facts; simp only [factsL, cellsF, Nat.reduceAdd, zf, zl] at F0; clear b1)
  | (go_at_call 165; go_must (first | with_reducible refine (HI.out _ K0).mono ?_ | with_reducible refine (HW.out _ K0).mono ?_); rintro e w1 ⟨r, rfl, b1⟩; replace K0 := K0.call b1; replace F0 := K0.facts; simp only [factsL, cellsF, Nat.reduceAdd, zf, zl] at F0; clear b1))
           all_goals (go_meet; exact ⟨_, rfl, K0⟩)
          case rest =>
           obtain ⟨bb, rfl, K1⟩ := hcut
           clear K0 F0
           have K0 := K1
           clear K1
           have F0 := K0.facts
           simp only [factsL, cellsF, Nat.reduceAdd, zf, zl] at F0
           cases bb
           ·go_wp2_with fail
            go_roundw
            case rel => exact ⟨1, by omega, by go_num, K0.drop (List.sublist_cons_self _ _)⟩
            case measure => simp [intOf]
           ·go_wp2_with fail
            all_goals (go_ret; exact ⟨_, rfl, K0.below⟩)
         ·have K0 := H
          go_wp2_with fail
          all_goals (go_ret; exact ⟨_, rfl, K0.below⟩)
      ·go_wp2_with fail
       all_goals (go_ret; exact ⟨_, rfl, K0.below⟩)
  ·go_wp2_with fail
   all_goals (go_ret; exact ⟨_, rfl, K0.below⟩)
theorem ve_all : ∀ d : Nat, VE d
 | 0 => fun x w hx hg => hg.elim
 | d + 1 => ve_of (va_of (ve_all d))
end Go.Proofs.YtdkebcfkchhlmaaGreatDoor

namespace Go.Proofs.YtdkebcfkchhlmaaGreatDoor
open Go.RowKit
set_option linter.unusedVariables false
set_option linter.unusedSimpArgs false
theorem addr_eqC {b o b2 o2 : Nat} (h : some (⟨b, o, none⟩ : Addr) = some ⟨b2, o2, none⟩) : b = b2 ∧ o = o2 := by
 injection h with h
 injection h with e1 e2
 exact ⟨e1, e2⟩
set_option maxHeartbeats 8000000 in
set_option maxRecDepth 100000 in
theorem names_ret (s : SlP ByteArray) (w : World) (hx : Ro w None_ (s.In 1 strc (fun _ _ => True))) (hn : s.n ≤ 1000) (hcap : s.n ≤ s.c) : Calls Tryz.prog 164 #[.slice s.A s.n s.c] w fun e w' => BoolRet w e w' := by
 obtain ⟨A, n, c, l⟩ := s
 have HLN := hid (show l.length = n from SlP.In.len (s := ⟨A, n, c, l⟩) (k := 1) (cel := strc) (P := fun _ _ => True) hx.now (by omega) (fun _ => rfl))
 have hn : n ≤ 1000 := hn
 have hcap : n ≤ c := hcap
 have K0 := (Hold.start None_ w zn).add (hx.less (by simp [Mut]))
 clear hx
 go_enter Tryz.func164, Tryz.ntmps164
 by_cases h8 : 8 < n
 ·have h8i : (8 : Int) < (n : Int) := by omega
  go_wp2_with fail
  all_goals (go_ret; exact ⟨_, rfl, K0.below⟩)
 ·have h8i : ¬ (8 : Int) < (n : Int) := by omega
  rcases Nat.eq_zero_or_pos n with h0 | h0
  ·subst h0
   go_wp2_with fail
   go_loopw [12] (fun iv wr => iv = .int .i64 0 ∧ Hold None_ none w wr []) (fun _ _ => 0)
   case atStart => exact ⟨rfl, K0.drop (List.sublist_cons_self _ _)⟩
   case round =>
    clear K0
    obtain ⟨rfl, K0⟩ := hrel
    go_wp2_with fail
    all_goals (go_ret; exact ⟨_, rfl, K0.below⟩)
  ·obtain ⟨b, o, eA, -, -⟩ := (show Rd _ _ 1 A n (l.flatMap strc) from (K0.ro 0 rfl).now.1).2 h0
   have eA : A = some ⟨b, o, none⟩ := eA
   subst eA
   have K1 : Hold None_ none w _ [.ro (SlR 1 (some ⟨b, o, none⟩) n (l.flatMap strc))] := (K0.add ((K0.ro 0 rfl).imp (S' := SlR 1 (some ⟨b, o, none⟩) n (l.flatMap strc)) fun w2 h2 => h2.1)).pick [0] (by decide) rfl
   clear K0
   have HAT := hid (fun (wv : World) (h : Hold None_ none w wv [.ro (SlR 1 (some ⟨b, o, none⟩) n (l.flatMap strc))]) (j : Nat) (hj : j < n) => (show ∃ x : ByteArray, wv.cell? ⟨b, o + j, none⟩ = some (.string x) from by
    obtain ⟨b', o', e, -, hc⟩ := (show Rd _ _ 1 (some ⟨b, o, none⟩) n (l.flatMap strc) from (h.ro 0 rfl).now).2 h0
    obtain ⟨rfl, rfl⟩ := addr_eqC e
    obtain ⟨x, hx⟩ : ∃ x, l[j]? = some x := ⟨l[j]'(by rw [HLN.out]; exact hj), List.getElem?_eq_getElem _⟩
    exact ⟨x, by simpa using hc _ _ ((flat_get strc 1 (fun _ => rfl) l j 0 x (by omega) hx).trans rfl)⟩))
   go_wp2_with fail
   go_loopw [12] (fun iv wr => ∃ j : Nat, j ≤ n ∧ iv = .int .i64 j ∧ Hold None_ none w wr [.ro (SlR 1 (some ⟨b, o, none⟩) n (l.flatMap strc))]) (fun iv _ => n - (intOf iv).toNat)
   case atStart => exact ⟨0, by omega, rfl, K1⟩
   case round =>
    clear K1
    obtain ⟨j, hj, rfl, H⟩ := hrel
    by_cases hlt : j < n
    ·obtain ⟨x, hx⟩ := HAT.out _ H j hlt
     go_wp2_with fail
     refine (rvalidname_ret _ _).mono ?_
     rintro e w1 ⟨r, rfl, b1⟩
     have K2 := H.call b1
     clear H hx b1
     cases r
     ·go_wp2_with fail
      go_ret
      exact ⟨_, rfl, K2.below⟩
     ·go_wp2_with fail
      go_loopw [24] (fun iv wr => ∃ k : Nat, k ≤ j ∧ iv = .int .i64 k ∧ Hold None_ none w wr [.ro (SlR 1 (some ⟨b, o, none⟩) n (l.flatMap strc))]) (fun iv _ => j - (intOf iv).toNat)
      case atStart => exact ⟨0, by omega, rfl, K2⟩
      case round =>
       clear K2
       obtain ⟨k, hk, rfl, H2⟩ := hrel
       by_cases hlt2 : k < j
       ·obtain ⟨y, hy⟩ := HAT.out _ H2 k (by omega)
        obtain ⟨bb, hbb⟩ : ∃ z : Bool, (y.toList == x.toList) = z := ⟨_, rfl⟩
        cases bb
        ·go_wp2_with fail
         go_roundw
         case rel => exact ⟨k + 1, by omega, by go_num, H2⟩
         case measure => simp [intOf]; omega
        ·go_wp2_with fail
         go_ret
         exact ⟨_, rfl, H2.below⟩
       ·obtain rfl : j = k := by omega
        go_wp2_with fail
        go_roundw
        case rel => exact ⟨j + 1, by omega, by go_num, H2⟩
        case measure => simp [intOf]; omega
    ·obtain rfl : n = j := by omega
     go_wp2_with fail
     go_ret
     exact ⟨_, rfl, H.below⟩
theorem va_all (d : Nat) : VA d := va_of (ve_all d)
set_option maxHeartbeats 8000000 in
set_option maxRecDepth 100000 in
theorem vquery_ret (d : Nat) (q : Qu) (w : World) (hx : Ro w None_ (QuIn d q)) (hg : (∀ a ∈ q.items, ExGd d a) ∧ (∀ a ∈ q.wh, ExGd d a) ∧ q.n ≤ 1000 ∧ q.m ≤ 1000) : Calls Tryz.prog 236 #[.agg #[.bool q.star, .slice q.A q.n q.c, .string q.src, .slice q.B q.m q.d]] w fun e w' => BoolRet w e w' := by
 obtain ⟨st, A, n, c, items, src, B, m, e, wh⟩ := q
 have HG := hid hg
 have K0 := ((Hold.start None_ w zn).add (hx.less (by simp [Mut]))).alloc_cst #[.bool st, .slice A n c, .string src, .slice B m e] 274
 obtain ⟨gx, hgx⟩ : ∃ g, g = w.heap.size := ⟨_, rfl⟩
 rw [← hgx] at K0
 have F0 := K0.facts
 simp only [factsL, cellsF, Nat.reduceAdd, zf, zl] at F0
 rw [hgx] at F0
 have HI := hid (fun (wv : World) (h : Hold None_ none w wv [.cst gx 274 #[.bool st, .slice A n c, .string src, .slice B m e], .ro (QuIn d ⟨st, A, n, c, items, src, B, m, e, wh⟩)]) => va_all d A n c items wv ((h.ro 1 rfl).imp (S' := ExsIn d A n items) (fun w2 h2 => h2.1) |>.less zn) HG.out.1 HG.out.2.2.1)
 have HW := hid (fun (wv : World) (h : Hold None_ none w wv [.cst gx 274 #[.bool st, .slice A n c, .string src, .slice B m e], .ro (QuIn d ⟨st, A, n, c, items, src, B, m, e, wh⟩)]) => va_all d B m e wh wv ((h.ro 1 rfl).imp (S' := ExsIn d B m wh) (fun w2 h2 => h2.2) |>.less zn) HG.out.2.1 HG.out.2.2.2)
 clear hx hg
 go_enter Tryz.func236, Tryz.ntmps236
 go_upto_region 1 with fail
 rw [← hgx] at F0 ⊢
 have HGX := hid hgx
 clear hgx
 generalize World.alloc _ _ = w1 at K0 F0 ⊢
 go_cut [27] (fun v wx => ∃ bb : Bool, v = .bool bb ∧ Hold None_ none w wx [.cst gx 274 #[.bool st, .slice A n c, .string src, .slice B m e], .ro (QuIn d ⟨st, A, n, c, items, src, B, m, e, wh⟩)])
 case first =>
  go_wp2_with (first
  | (go_at_call 234; go_must (refine (source_any _ _).mono ?_); rintro e w1 ⟨r, rfl, b1⟩; replace K0 := K0.call b1; replace F0 := K0.facts; simp only [factsL, cellsF, Nat.reduceAdd, zf, zl] at F0; clear b1)
  | (go_at_call 165; go_must (first | with_reducible refine (HI.out _ K0).mono ?_ | with_reducible refine (HW.out _ K0).mono ?_); rintro e w1 ⟨r, rfl, b1⟩; replace K0 := K0.call b1; replace F0 := K0.facts; simp only [factsL, cellsF, Nat.reduceAdd, zf, zl] at F0; clear b1))
  all_goals (go_meet; exact ⟨_, rfl, K0⟩)
 case rest =>
  obtain ⟨bb, rfl, K1⟩ := hcut
  clear K0 F0
  have K0 := K1
  clear K1
  have F0 := K0.facts
  simp only [factsL, cellsF, Nat.reduceAdd, zf, zl] at F0
  cases bb
  ·go_wp2_with (first
  | (go_at_call 234; go_must (refine (source_any _ _).mono ?_); rintro e w1 ⟨r, rfl, b1⟩; replace K0 := K0.call b1; replace F0 := K0.facts; simp only [factsL, cellsF, Nat.reduceAdd, zf, zl] at F0; clear b1)
  | (go_at_call 165; go_must (first | with_reducible refine (HI.out _ K0).mono ?_ | with_reducible refine (HW.out _ K0).mono ?_); rintro e w1 ⟨r, rfl, b1⟩; replace K0 := K0.call b1; replace F0 := K0.facts; simp only [factsL, cellsF, Nat.reduceAdd, zf, zl] at F0; clear b1))
   all_goals (go_ret; exact ⟨_, rfl, K0.below⟩)
  ·go_wp2_with fail
   all_goals (go_ret; exact ⟨_, rfl, K0.below⟩)
end Go.Proofs.YtdkebcfkchhlmaaGreatDoor

namespace Go.Proofs.YtdkebcfkchhlmaaGreatDoor
open Go.RowKit
set_option linter.unusedVariables false
set_option linter.unusedSimpArgs false
def TyRet (w : World) (e : Ending) (w' : World) : Prop := ∃ t c : Int, e = .returned (.tuple #[.int .i64 t, .int .i64 c]) ∧ Below w.heap.size w w'
theorem rfits_ret (a b : Int) (w : World) : Calls Tryz.prog 168 #[.int .i64 a, .int .i64 b] w fun e w' => BoolRet w e w' := by
 have K0 := Hold.start None_ w zn
 go_enter Tryz.func168, Tryz.ntmps168
 go_wp2_with fail
 all_goals (go_ret; exact ⟨_, rfl, K0.below⟩)
theorem rassign_ret (a b : Int) (w : World) : Calls Tryz.prog 169 #[.int .i64 a, .int .i64 b] w fun e w' => BoolRet w e w' := by
 have K0 := Hold.start None_ w zn
 go_enter Tryz.func169, Tryz.ntmps169
 go_wp2_with fail
 refine (rfits_ret _ _ _).mono ?_
 rintro e w1 ⟨r, rfl, b1⟩
 have K1 := K0.call b1
 go_wp2_with fail
 all_goals (go_ret; exact ⟨_, rfl, K1.below⟩)
/-- the types of arguments as cells -/
def tyC (l : List Int) : List Value := l.map fun t => Value.int .i64 t
theorem tyC_len (l : List Int) : (tyC l).length = l.length := by simp [tyC]
set_option maxHeartbeats 8000000 in
set_option maxRecDepth 100000 in
theorem rresult_ret (x : Ex) (A : Option Addr) (n c : Nat) (l : List Int) (w : World) (hx : Ro w None_ (SlR 1 A n (tyC l))) (hn : n ≤ 1000) : Calls Tryz.prog 213 #[.agg #[.int .i64 x.kind, .int .i64 x.op, .bool x.nt, .int .i64 x.v.k, .int .i64 x.v.i, .string x.v.s, .string x.tab, .string x.nm, .slice x.A x.n x.c, .slice x.B x.m x.d], .slice A n c] w fun e w' => TyRet w e w' := by
 have HLN := hid (show l.length = n from by
  have := (show Rd _ _ 1 A n (tyC l) from hx.now).1
  rw [tyC_len] at this
  omega)
 have HAT := hid (show ∀ (wv : World), SlR 1 A n (tyC l) wv → ∀ j, j < n → ∃ b o t, A = some ⟨b, o, none⟩ ∧ wv.cell? ⟨b, o + j, none⟩ = some (.int .i64 t) from fun wv h j hj => by
  obtain ⟨b, o, e, -, hc⟩ := (show Rd _ _ 1 A n (tyC l) from h).2 (by omega)
  have hl : j < l.length := by rw [HLN.out]; exact hj
  exact ⟨b, o, l[j], e, by simpa using hc j (.int .i64 l[j]) (by simp [tyC, List.getElem?_eq_getElem hl])⟩)
 have K0 := ((Hold.start None_ w zn).add (hx.less (by simp [Mut]))).alloc_cst #[.int .i64 x.kind, .int .i64 x.op, .bool x.nt, .int .i64 x.v.k, .int .i64 x.v.i, .string x.v.s, .string x.tab, .string x.nm, .slice x.A x.n x.c, .slice x.B x.m x.d] 134
 obtain ⟨gx, hgx⟩ : ∃ g, g = w.heap.size := ⟨_, rfl⟩
 rw [← hgx] at K0
 have F0 := K0.facts
 simp only [factsL, cellsF, Nat.reduceAdd, zf, zl] at F0
 rw [hgx] at F0
 clear hx
 go_enter Tryz.func213, Tryz.ntmps213
 go_upto_block 0 with fail
 rw [← hgx] at F0 ⊢
 have HGX := hid hgx
 clear hgx
 generalize World.alloc _ _ = w1 at K0 F0 ⊢
 go_cut [6, 7] (fun a b wx => ∃ p q : Int, a = .int .i64 p ∧ b = .int .i64 q ∧ Hold None_ none w wx [.cst gx 134 #[.int .i64 x.kind, .int .i64 x.op, .bool x.nt, .int .i64 x.v.k, .int .i64 x.v.i, .string x.v.s, .string x.tab, .string x.nm, .slice x.A x.n x.c, .slice x.B x.m x.d], .ro (SlR 1 A n (tyC l))])
 case first =>
  obtain ⟨c6, h6⟩ : ∃ z : Bool, (x.kind == 6) = z := ⟨_, rfl⟩
  obtain ⟨c3, h3⟩ : ∃ z : Bool, (x.kind == 3) = z := ⟨_, rfl⟩
  obtain ⟨c5, h5⟩ : ∃ z : Bool, (x.kind == 5) = z := ⟨_, rfl⟩
  obtain ⟨c4, h4⟩ : ∃ z : Bool, (x.kind == 4) = z := ⟨_, rfl⟩
  go_wp2_with fail
  all_goals first
   | (go_ret2; exact ⟨_, _, rfl, K0.below⟩)
   | (go_meet; exact ⟨_, _, rfl, rfl, K0⟩)
   | skip
  all_goals
   go_loopw [6, 14] (fun pv iv wr => ∃ (p : Int) (j : Nat), j ≤ n ∧ pv = .int .i64 p ∧ iv = .int .i64 j ∧ Hold None_ none w wr [.cst gx 134 #[.int .i64 x.kind, .int .i64 x.op, .bool x.nt, .int .i64 x.v.k, .int .i64 x.v.i, .string x.v.s, .string x.tab, .string x.nm, .slice x.A x.n x.c, .slice x.B x.m x.d], .ro (SlR 1 A n (tyC l))]) (fun _ iv _ => n - (intOf iv).toNat)
   case atStart => exact ⟨_, 0, by omega, rfl, rfl, K0⟩
   case round =>
    clear K0 F0
    obtain ⟨p, j, hj, rfl, rfl, H⟩ := hrel
    by_cases hlt : j < n
    ·obtain ⟨b, o, t, rfl, hc⟩ := HAT.out _ (H.ro 1 rfl).now j hlt
     obtain ⟨z, hz⟩ : ∃ z : Bool, (t == 0) = z := ⟨_, rfl⟩
     have hz2 : (t != 0) = !z := by rw [← hz]; rfl
     cases z
     ·go_wp2_with fail
      all_goals first
       | (exfalso; contradiction)
       | skip
      all_goals
       go_roundw
       case rel => exact ⟨_, j + 1, by omega, by first | rfl | trivial, by go_num, H⟩
       case measure => simp [intOf]; omega
     ·go_wp2_with fail
      all_goals first
       | (exfalso; contradiction)
       | skip
      all_goals
       go_roundw
       case rel => exact ⟨_, j + 1, by omega, by first | rfl | trivial, by go_num, H⟩
       case measure => simp [intOf]; omega
    ·obtain rfl : n = j := by omega
     go_wp2_with fail
     go_meet
     exact ⟨_, _, rfl, rfl, H⟩
 case rest =>
  obtain ⟨p, q, rfl, rfl, K1⟩ := hcut
  clear K0 F0
  go_wp2_with fail
  go_loopw [56] (fun iv wr => ∃ (j : Nat), j ≤ n ∧ iv = .int .i64 j ∧ Hold None_ none w wr [.cst gx 134 #[.int .i64 x.kind, .int .i64 x.op, .bool x.nt, .int .i64 x.v.k, .int .i64 x.v.i, .string x.v.s, .string x.tab, .string x.nm, .slice x.A x.n x.c, .slice x.B x.m x.d], .ro (SlR 1 A n (tyC l))]) (fun iv _ => n - (intOf iv).toNat)
  case atStart => exact ⟨0, by omega, rfl, K1⟩
  case round =>
   clear K1
   obtain ⟨j, hj, rfl, H⟩ := hrel
   by_cases hlt : j < n
   ·obtain ⟨b, o, t, rfl, hc⟩ := HAT.out _ (H.ro 1 rfl).now j hlt
    go_wp2_with fail
    refine (rfits_ret _ _ _).mono ?_
    rintro e w3 ⟨r, rfl, b3⟩
    have K3 := H.call b3
    clear H b3 hc
    cases r
    ·go_wp2_with fail
     go_ret2
     exact ⟨_, _, rfl, K3.below⟩
    ·go_wp2_with fail
     go_roundw
     case rel => exact ⟨j + 1, by omega, by go_num, K3⟩
     case measure => simp [intOf]; omega
   ·obtain rfl : n = j := by omega
    go_wp2_with fail
    go_ret2
    exact ⟨_, _, rfl, H.below⟩
/-- What Resolve answers: within the frames. -/
def ResRet (fl : List Fr) (w : World) (e : Ending) (w' : World) : Prop := ∃ (i k : Nat) (ok : Bool), e = .returned (.tuple #[.int .i64 i, .int .i64 k, .bool ok]) ∧ (ok = true → ∃ f c, fl[i]? = some f ∧ f.cols.l[k]? = some c) ∧ Below w.heap.size w w'
set_option maxHeartbeats 8000000 in
set_option maxRecDepth 100000 in
theorem rresolve_ret (fA : Option Addr) (fn fc : Nat) (fl : List Fr) (q nm : ByteArray) (w : World) (hx : Ro w None_ (FrsIn ⟨fA, fn, fc, fl⟩)) (hn : fn ≤ 1000) (hc : ∀ f ∈ fl, f.cols.n ≤ 1000) : Calls Tryz.prog 186 #[.slice fA fn fc, .string q, .string nm] w fun e w' => ResRet fl w e w' := by
 have HLN := hid (show fl.length = fn from FrsIn.len hx.now)
 have HC := hid hc
 have K0 := (Hold.start None_ w zn).add (hx.less (by simp [Mut]))
 clear hx hc
 go_enter Tryz.func186, Tryz.ntmps186
 go_upto_region 1 with fail
 have hw0 : IntKind.i64.wrap ((fn : Int) - 1) = (fn : Int) - 1 := IntWalk.i64_in _ (by omega)
 go_wp2_with fail
 go_loopw [9] (fun iv wr => ∃ (i : Int), -1 ≤ i ∧ i < fn ∧ iv = .int .i64 i ∧ Hold None_ none w wr [.ro (FrsIn ⟨fA, fn, fc, fl⟩)]) (fun iv _ => (intOf iv + 1).toNat)
 case atStart => exact ⟨_, by omega, by omega, rfl, K0⟩
 case round =>
  clear K0 hw0
  obtain ⟨i, hi, hi2, rfl, H⟩ := hrel
  by_cases hlt : 0 ≤ i
  ·obtain ⟨j, rfl⟩ : ∃ j : Nat, i = (j : Int) := ⟨i.toNat, by omega⟩
   have hj : j < fn := by omega
   have hwi : IntKind.i64.wrap ((j : Int) - 1) = (j : Int) - 1 := IntWalk.i64_in _ (by omega)
   obtain ⟨⟨fnm, fst, ⟨cA, cn, cc, cl⟩, ⟨vA, vn, vc, vl⟩⟩, hfx⟩ := get_anyG HLN.out hj
   obtain ⟨b, o, rfl, hb, hcl, hfin⟩ := FrsIn.at_ (H.ro 0 rfl).now hfx
   have c0 := hcl 0 _ (by omega) rfl
   have c1 := hcl 1 _ (by omega) rfl
   have c2 := hcl 2 _ (by omega) rfl
   have c3 := hcl 3 _ (by omega) rfl
   simp only [Nat.add_zero, SlP.v] at c0 c1 c2 c3
   have hcn : cn ≤ 1000 := HC.out _ (List.mem_of_getElem? hfx)
   have HFX := hid hfx
   clear hcl hfx
   have HCL := hid (show cl.length = cn from (RdC.of_sl hfin.cols).len)
   have K1 := (H.alloc_cst #[.string fnm, .bool fst, .slice cA cn cc, .slice vA vn vc] 212).add (S := SlR 4 cA cn (colCells cl)) (((H.alloc_cst #[.string fnm, .bool fst, .slice cA cn cc, .slice vA vn vc] 212).ro 1 rfl).imp fun w2 h2 => (h2.2 _ (List.mem_of_getElem? HFX.out)).cols)
   obtain ⟨gF, hgF⟩ : ∃ g, g = wr.heap.size := ⟨_, rfl⟩
   rw [← hgF] at K1
   have F1 := K1.facts
   simp only [factsL, cellsF, Nat.reduceAdd, zf, zl] at F1
   rw [hgF] at F1
   clear H hfin
   go_upto_region 5 with fail
   rw [← hgF] at F1 ⊢
   have HGF := hid hgF
   clear hgF c0 c1 c2 c3
   generalize World.alloc _ _ = w1 at K1 F1 ⊢
   obtain ⟨d1, h1⟩ : ∃ z : Bool, (q.toList == ([] : List UInt8)) = z := ⟨_, rfl⟩
   go_cut [39] (fun v wx => ∃ bb : Bool, v = .bool bb ∧ Hold None_ none w wx [.ro (SlR 4 cA cn (colCells cl)), .cst gF 212 #[.string fnm, .bool fst, .slice cA cn cc, .slice vA vn vc], .ro (FrsIn ⟨some ⟨b, o, none⟩, fn, fc, fl⟩)])
   case first =>
    go_wp2_with fail
    all_goals (go_meet; exact ⟨_, rfl, K1⟩)
   case rest =>
    obtain ⟨bb, rfl, K2⟩ := hcut
    clear K1 F1 h1
    have F2 := K2.facts
    simp only [factsL, cellsF, Nat.reduceAdd, zf, zl] at F2
    cases bb
    ·go_wp2_with fail
     go_loopw [43] (fun iv wr => ∃ k : Nat, k ≤ cn ∧ iv = .int .i64 k ∧ Hold None_ none w wr [.ro (SlR 4 cA cn (colCells cl)), .ro (FrsIn ⟨some ⟨b, o, none⟩, fn, fc, fl⟩)]) (fun iv _ => cn - (intOf iv).toNat)
     case atStart => exact ⟨0, by omega, rfl, K2.pick [0, 2] (by decide) rfl⟩
     case round =>
      clear K2 F2
      obtain ⟨k, hk, rfl, H⟩ := hrel
      by_cases hlt2 : k < cn
      ·obtain ⟨⟨xnm, xty, xnn, xkey⟩, hcx⟩ := get_col HCL.out hlt2
       obtain ⟨b2, o2, rfl, hb2, x0, x1, x2, x3⟩ := (RdC.of_sl (H.ro 0 rfl).now).at_ hcx
       simp only at x0 x1 x2 x3
       have K3 := H.alloc_cst #[.string xnm, .int .i64 xty, .bool xnn, .bool xkey] 162
       have F3 := K3.facts
       simp only [factsL, cellsF, Nat.reduceAdd, zf, zl] at F3
       have HCX := hid hcx
       clear hcx H
       obtain ⟨z, hz⟩ : ∃ z : Bool, (xnm.toList == nm.toList) = z := ⟨_, rfl⟩
       cases z
       ·go_wp2_with fail
        go_roundw
        case rel => exact ⟨k + 1, by omega, by go_num, K3.drop (List.sublist_cons_self _ _)⟩
        case measure => simp [intOf]; omega
       ·go_wp2_with fail
        go_ret3
        exact ⟨j, k, true, rfl, fun _ => ⟨_, _, HFX.out, HCX.out⟩, K3.below⟩
      ·obtain rfl : cn = k := by omega
       go_wp2_with fail
       go_roundw
       case rel => exact ⟨(j : Int) - 1, by omega, by omega, rfl, H.drop (List.sublist_cons_self _ _)⟩
       case measure => simp [intOf]
    ·go_wp2_with fail
     go_roundw
     case rel => exact ⟨(j : Int) - 1, by omega, by omega, rfl, K2.pick [2] (by decide) rfl⟩
     case measure => simp [intOf]
  ·go_wp2_with fail
   go_ret3
   exact ⟨0, 0, false, rfl, fun h => (nomatch h), H.below⟩
/-- What Source answers, whether found or not. -/
def SrcR (w : World) (M : Nat → Prop) (l : List Te) (e : Ending) (w' : World) : Prop := ∃ (s : Sm) (ok : Bool), e = .returned (.tuple #[.agg #[.string s.nm, .slice s.cols.A s.cols.n s.cols.c], .bool ok]) ∧ s.cols.n ≤ 1000 ∧ (ok = true → ∃ x ∈ l, x.n = s.cols.n) ∧ Ro w' M (SmIn s) ∧ Below w.heap.size w w'
set_option maxHeartbeats 8000000 in
set_option maxRecDepth 100000 in
theorem rsource_ret (M : Nat → Prop) (w : World) (hM : ∀ b, M b → b < w.heap.size) (A : Option Addr) (n c : Nat) (l : List Te) (s : ByteArray) (hD : Ro w M (TesIn A n l)) (hn : n ≤ 1000) (hc : ∀ x ∈ l, x.n ≤ 1000) : Calls Tryz.prog 78 #[.slice A n c, .string s] w fun e w' => SrcR w M l e w' := by
 have HLN := hid (show l.length = n from hD.now.len)
 have HC := hid hc
 have K0 := ((Hold.start M w hM).add (hD.less (by simp [Mut]))).alloc #[.string ⟨#[]⟩, .slice none 0 0] 49
 obtain ⟨gr, hgr⟩ : ∃ g, g = w.heap.size := ⟨_, rfl⟩
 rw [← hgr] at K0
 clear hD hc
 go_enter Tryz.func78, Tryz.ntmps78
 go_wp2_with fail
 rw [← hgr]
 have HGR := hid hgr
 clear hgr
 go_loopw [11] (fun iv wr => ∃ j : Nat, j ≤ n ∧ iv = .int .i64 j ∧ Hold M none w wr [.blk gr 49 #[.string ⟨#[]⟩, .slice none 0 0], .ro (TesIn A n l)]) (fun iv _ => n - (intOf iv).toNat)
 case atStart => exact ⟨0, by omega, rfl, K0⟩
 case round =>
  clear K0
  obtain ⟨j, hj, rfl, H⟩ := hrel
  by_cases hlt : j < n
  ·obtain ⟨x, hx⟩ := get_of HLN.out hlt
   obtain ⟨b, o, rfl, hb, c0, c1, c2, c3, -⟩ := (H.ro 1 rfl).now.at_ hx
   have hxn : x.n ≤ 1000 := HC.out x (List.mem_of_getElem? hx)
   have HX := hid hx
   clear hx
   have K1 := H.alloc_cst #[.string x.nm, .slice x.A x.n x.c, .int .i64 x.nx, .slice x.B x.m x.d] 58
   have F1 := K1.facts
   simp only [factsL, cellsF, Nat.reduceAdd, zf, zl] at F1
   obtain ⟨z, hz⟩ : ∃ z : Bool, (x.nm.toList == s.toList) = z := ⟨_, rfl⟩
   clear H
   cases z
   ·go_wp2_with fail
    go_roundw
    case rel => exact ⟨j + 1, by omega, by go_num, K1.drop (List.sublist_cons_self _ _)⟩
    case measure => simp [intOf]; omega
   ·obtain ⟨xnm, xA, xn, xc, xcs, xnx, xB, xm, xd, xl⟩ := x
    have hxn : xn ≤ 1000 := hxn
    go_upto_region 6 with fail
    have KA := (K1.add (S := ColsIn xA xn xcs) ((K1.ro 2 rfl).imp fun w2 h2 => (h2.2 _ (List.mem_of_getElem? HX.out)).1)).alloc #[.string xnm, .slice xA xn xc] 49
    obtain ⟨g8, hg8⟩ : ∃ g, g = wr.heap.size + 1 := ⟨_, rfl⟩
    rw [World.size_alloc, ← hg8] at KA
    rw [← hg8]
    have HG8 := hid hg8
    clear hg8
    have FA := KA.facts
    simp only [factsL, cellsF, Nat.reduceAdd, zf, zl] at FA
    clear K1 F1 c0 c1 c2 c3
    have KN := KA.nil 162 4
    have HSL := hid (show SlR 4 xA xn (colCells xcs) _ from (KN.ro 2 rfl).now)
    clear KA
    go_wp2_with (at_builtin; go_must (refine wpList_appAllH KN 0 rfl Tryz.elCol HSL.out rfl (.const (.slice none 0 0)) (.tmp 23) rfl rfl rfl (one_cols xcs) (by omega) (by omega) ?_); intro C1 cap1 wA hcA hmA KB; simp only [Nat.zero_add] at hcA ⊢; simp only [Nat.zero_add, List.nil_append, List.set_cons_zero, List.set_cons_succ] at KB; (have KS := KB.sealRow 0 rfl); simp only [List.set_cons_zero] at KS; (have K3 := KS.store 1 rfl 1 (.slice C1 xn cap1)); simp only [zl] at K3; (have K4 := (K3.store 4 rfl 0 (.string xnm)).store 4 rfl 1 (.slice C1 xn cap1)); simp only [zl] at K4; (have FS := KS.facts); simp only [factsL, cellsF, Nat.reduceAdd, zf, zl] at FS; (have F3 := K3.facts); simp only [factsL, cellsF, Nat.reduceAdd, zf, zl] at F3; (have F4 := K4.facts); simp only [factsL, cellsF, Nat.reduceAdd, zf, zl] at F4)
    have HR := hid ((K4.ro 0 rfl).less zm)
    have HB := hid K4.below
    clear K4 K3 KS KB KN FA
    refine bodyPost_ret (v := .tuple #[.agg #[.string xnm, .slice C1 xn cap1], .bool true]) ?_ rfl ?_
    ·clear HR HB
     simp [results, Tryz.results78, go_sem, F4]
    ·exact ⟨⟨xnm, ⟨C1, xn, cap1, xcs⟩⟩, true, rfl, hxn, fun _ => ⟨_, List.mem_of_getElem? HX.out, rfl⟩, HR.out.imp fun w2 h2 => ⟨h2, fun _ _ => trivial⟩, HB.out⟩
  ·obtain rfl : n = j := by omega
   have K1 := (H.store 0 rfl 0 (.string ⟨#[]⟩)).store 0 rfl 1 (.slice none 0 0)
   simp only [zl] at K1
   have F0 := H.facts
   simp only [factsL, cellsF, Nat.reduceAdd, zf, zl] at F0
   have F1 := K1.facts
   simp only [factsL, cellsF, Nat.reduceAdd, zf, zl] at F1
   have HB := hid K1.below
   clear K1 H
   go_wp2_with fail
   refine bodyPost_ret (v := .tuple #[.agg #[.string ⟨#[]⟩, .slice none 0 0], .bool false]) ?_ rfl ?_
   ·clear HB
    simp [results, Tryz.results78, go_sem, F1]
   ·exact ⟨⟨⟨#[]⟩, SlP.nil⟩, false, rfl, by simp [SlP.nil], fun h => (nomatch h), fun w2 _ _ => SlP.nil_in 4 Col.cells (fun _ _ => True) w2, HB.out⟩
/-- What Inside answers: the frames with one more. -/
def InsR (w : World) (M : Nat → Prop) (fn : Nat) (fl : List Fr) (s : Sm) (e : Ending) (w' : World) : Prop := ∃ (A : Option Addr) (c : Nat), e = .returned (.slice A (fn + 1) c) ∧ Ro w' M (FrsIn ⟨A, fn + 1, c, fl ++ [⟨s.nm, false, s.cols, SlP.nil⟩]⟩) ∧ Below w.heap.size w w'
set_option maxHeartbeats 8000000 in
set_option maxRecDepth 100000 in
theorem rinside_ret (M : Nat → Prop) (w : World) (hM : ∀ b, M b → b < w.heap.size) (fA : Option Addr) (fn fc : Nat) (fl : List Fr) (s : Sm) (hf : Ro w M (FrsIn ⟨fA, fn, fc, fl⟩)) (hs : Ro w M (SmIn s)) (hn : fn ≤ 1000) : Calls Tryz.prog 204 #[.slice fA fn fc, .agg #[.string s.nm, .slice s.cols.A s.cols.n s.cols.c], .slice none 0 0] w fun e w' => InsR w M fn fl s e w' := by
 obtain ⟨snm, ⟨cA, cn, cc, cl⟩⟩ := s
 have K0 := (((Hold.start M w hM).add (hs.less (by simp [Mut]))).add (hf.less (by simp [Mut, Hp.foot]))).alloc_cst #[.string snm, .slice cA cn cc] 49
 obtain ⟨gs, hgs⟩ : ∃ g, g = w.heap.size := ⟨_, rfl⟩
 rw [← hgs] at K0
 clear hf hs
 go_enter Tryz.func204, Tryz.ntmps204
 go_upto_region 1 with fail
 rw [← hgs]
 have HGS := hid hgs
 clear hgs
 generalize World.alloc _ _ = w1 at K0 ⊢
 have F0 := K0.facts
 simp only [factsL, cellsF, Nat.reduceAdd, zf, zl] at F0
 have KN := K0.nil 212 4
 have HSL := hid (show SlR 4 fA fn (frCells fl) _ from (KN.ro 2 rfl).now.1)
 go_upto_region 2 with (at_builtin; go_must (refine wpList_appAllH KN 0 rfl Tryz.elFr HSL.out rfl (.const (.slice none 0 0)) (.tmp 8) rfl rfl rfl (one_frs fl) (by omega) (by omega) ?_); intro C1 cap1 wA hcA hmA KB; simp only [Nat.zero_add] at hcA ⊢; simp only [Nat.zero_add, List.nil_append, List.set_cons_zero, List.set_cons_succ] at KB)
 clear K0 F0 KN
 have KD := KB.alloc_cst #[.string snm, .bool false, .slice cA cn cc, .slice none 0 0] 212
 have FB := KB.facts
 simp only [factsL, cellsF, Nat.reduceAdd, zf, zl] at FB
 have FD := KD.facts
 simp only [factsL, cellsF, Nat.reduceAdd, zf, zl] at FD
 have E1 := hid (show SlR 4 (some ⟨wA.heap.size, 0, none⟩) 1 [.string snm, .bool false, .slice cA cn cc, .slice none 0 0] _ from ((ro_block (KD.get 0 rfl) rfl : Ro _ _ _).now))
 clear KB
 go_wp2_with (at_builtin; go_must (refine wpList_appAllH KD 1 rfl Tryz.elFr E1.out rfl (.tmp 10) (.tmp 17) rfl rfl rfl (by intro u hu; simp at hu; rcases hu with rfl | rfl | rfl | rfl <;> rfl) (by omega) (by omega) ?_); intro G1 gc1 wB hcB hmB KE; simp only [zl] at KE)
 have KZ := KE.sealRow 1 rfl
 simp only [zl] at KZ
 have hR : Ro _ _ (FrsIn ⟨G1, fn + 1, gc1, fl ++ [⟨snm, false, ⟨cA, cn, cc, cl⟩, SlP.nil⟩]⟩) := ((KZ.ro 1 rfl).and ((KZ.ro 3 rfl).and (KZ.ro 4 rfl))).imp fun w2 h2 => ⟨by
   have h3 := h2.1
   have e : frCells fl ++ [.string snm, .bool false, .slice cA cn cc, .slice none 0 0] = (fl ++ [(⟨snm, false, ⟨cA, cn, cc, cl⟩, SlP.nil⟩ : Fr)]).flatMap Fr.cells := by simp [frCells, Fr.cells, SlP.v, SlP.nil]
   rw [e] at h3
   exact h3, fun x hx => by
   have hx : x ∈ fl ++ [(⟨snm, false, ⟨cA, cn, cc, cl⟩, SlP.nil⟩ : Fr)] := hx
   rcases List.mem_append.1 hx with hx | hx
   ·exact h2.2.1.2 x hx
   ·simp only [List.mem_cons, List.not_mem_nil, or_false] at hx
    subst hx
    exact ⟨h2.2.2, SlP.nil_in _ _ _ _⟩⟩
 have HR := hid (hR.less zm)
 have HB := hid KZ.below
 clear KZ KE KD hR FD
 go_wp2_with fail
 go_ret
 exact ⟨_, _, rfl, HR.out, HB.out⟩
end Go.Proofs.YtdkebcfkchhlmaaGreatDoor

namespace Go.Proofs.YtdkebcfkchhlmaaGreatDoor
open Go.RowKit
set_option linter.unusedVariables false
set_option linter.unusedSimpArgs false
set_option maxHeartbeats 8000000 in
set_option maxRecDepth 100000 in
theorem vsets_ret (d : Nat) (s : SlP Se) (w : World) (hx : Ro w None_ (s.In 11 Se.cells (SeIn d))) (hg : ∀ z ∈ s.l, ExGd d z.e) (hn : s.n ≤ 1000) (hcap : s.n ≤ s.c) : Calls Tryz.prog 211 #[.slice s.A s.n s.c] w fun e w' => BoolRet w e w' := by
 obtain ⟨A, n, c, l⟩ := s
 have HLN := hid (show l.length = n from SlP.In.len (s := ⟨A, n, c, l⟩) (k := 11) (cel := Se.cells) (P := SeIn d) hx.now (by omega) (fun _ => rfl))
 have hn : n ≤ 1000 := hn
 have hcap : n ≤ c := hcap
 have HG := hid (show ∀ z ∈ l, ExGd d z.e from hg)
 have K0 := (Hold.start None_ w zn).add (hx.less (by simp [Mut]))
 clear hx hg
 go_enter Tryz.func211, Tryz.ntmps211
 rcases Nat.eq_zero_or_pos n with h0 | h0
 ·subst h0
  go_wp2_with fail
  go_loopw [9] (fun iv wr => iv = .int .i64 0 ∧ Hold None_ none w wr []) (fun _ _ => 0)
  case atStart => exact ⟨rfl, K0.drop (List.sublist_cons_self _ _)⟩
  case round =>
   clear K0
   obtain ⟨rfl, K0⟩ := hrel
   go_wp2_with fail
   all_goals (go_ret; exact ⟨_, rfl, K0.below⟩)
 ·obtain ⟨b, o, eA, -, -⟩ := (show Rd _ _ 11 A n (l.flatMap Se.cells) from (K0.ro 0 rfl).now.1).2 h0
  have eA : A = some ⟨b, o, none⟩ := eA
  subst eA
  go_wp2_with fail
  go_loopw [9] (fun iv wr => ∃ j : Nat, j ≤ n ∧ iv = .int .i64 j ∧ Hold None_ none w wr [.ro (SlP.In ⟨some ⟨b, o, none⟩, n, c, l⟩ 11 Se.cells (SeIn d))]) (fun iv _ => n - (intOf iv).toNat)
  case atStart => exact ⟨0, by omega, rfl, K0⟩
  case round =>
   clear K0
   obtain ⟨j, hj, rfl, H⟩ := hrel
   by_cases hlt : j < n
   ·skip
    obtain ⟨⟨xc, xe⟩, xx⟩ := get_anyG HLN.out (show j < n by omega)
    obtain ⟨xb, xo, xE, -, xh, xin⟩ := SlP.In.at_ (s := ⟨some ⟨b, o, none⟩, n, c, l⟩) (k := 11) (cel := Se.cells) (P := SeIn d) (H.ro 0 rfl).now (by omega) (fun _ => rfl) xx
    obtain ⟨rfl, rfl⟩ := addr_eqC (show some (⟨b, o, none⟩ : Addr) = some ⟨xb, xo, none⟩ from xE)
    have x0 := xh 0 _ (by omega) rfl
    have x1 := xh 1 _ (by omega) rfl
    have x2 := xh 2 _ (by omega) rfl
    have x3 := xh 3 _ (by omega) rfl
    have x4 := xh 4 _ (by omega) rfl
    have x5 := xh 5 _ (by omega) rfl
    have x6 := xh 6 _ (by omega) rfl
    have x7 := xh 7 _ (by omega) rfl
    have x8 := xh 8 _ (by omega) rfl
    have x9 := xh 9 _ (by omega) rfl
    have x10 := xh 10 _ (by omega) rfl
    simp only [Nat.add_zero] at x0 x1 x2 x3 x4 x5 x6 x7 x8 x9 x10
    clear xh xE
    obtain ⟨gs, hgs, K0⟩ : ∃ gs, gs = _ ∧ Hold None_ none w _ [.cst gs 136 #[.string xc, .int .i64 xe.kind, .int .i64 xe.op, .bool xe.nt, .int .i64 xe.v.k, .int .i64 xe.v.i, .string xe.v.s, .string xe.tab, .string xe.nm, .slice xe.A xe.n xe.c, .slice xe.B xe.m xe.d], .ro (SlP.In ⟨some ⟨b, o, none⟩, n, c, l⟩ 11 Se.cells (SeIn d))] := ⟨_, rfl, H.alloc_cst #[.string xc, .int .i64 xe.kind, .int .i64 xe.op, .bool xe.nt, .int .i64 xe.v.k, .int .i64 xe.v.i, .string xe.v.s, .string xe.tab, .string xe.nm, .slice xe.A xe.n xe.c, .slice xe.B xe.m xe.d] 136⟩
    have F0 := K0.facts
    simp only [factsL, cellsF, Nat.reduceAdd, zf, zl] at F0
    rw [hgs] at F0
    have hm := HG.out _ (List.mem_of_getElem? xx)
    have HV := hid (fun (wv : World) (h : Hold None_ none w wv [.cst gs 136 #[.string xc, .int .i64 xe.kind, .int .i64 xe.op, .bool xe.nt, .int .i64 xe.v.k, .int .i64 xe.v.i, .string xe.v.s, .string xe.tab, .string xe.nm, .slice xe.A xe.n xe.c, .slice xe.B xe.m xe.d], .ro (SlP.In ⟨some ⟨b, o, none⟩, n, c, l⟩ 11 Se.cells (SeIn d))]) => ve_all d xe wv (((h.ro 1 rfl).imp fun w2 h2 => (show ExIn d xe w2 from h2.2 _ (List.mem_of_getElem? xx))).less zn) hm)
    clear H xin xx hm
    go_upto_region 4 with fail
    rw [← hgs] at F0 ⊢
    have HGS := hid hgs
    clear hgs x0 x1 x2 x3 x4 x5 x6 x7 x8 x9 x10
    generalize World.alloc _ _ = w2 at K0 F0 ⊢
    go_cut [23] (fun v wx => ∃ bb : Bool, v = .bool bb ∧ Hold None_ none w wx [.cst gs 136 #[.string xc, .int .i64 xe.kind, .int .i64 xe.op, .bool xe.nt, .int .i64 xe.v.k, .int .i64 xe.v.i, .string xe.v.s, .string xe.tab, .string xe.nm, .slice xe.A xe.n xe.c, .slice xe.B xe.m xe.d], .ro (SlP.In ⟨some ⟨b, o, none⟩, n, c, l⟩ 11 Se.cells (SeIn d))])
    case first =>
     go_wp2_with (first
      | (go_at_call 163; go_must (refine (rvalidname_ret _ _).mono ?_); rintro e w1 ⟨r, rfl, b1⟩; replace K0 := K0.call b1; replace F0 := K0.facts; simp only [factsL, cellsF, Nat.reduceAdd, zf, zl] at F0; clear b1)
      | (go_at_call 209; go_must (refine (HV.out _ K0).mono ?_); rintro e w1 ⟨r, rfl, b1⟩; replace K0 := K0.call b1; replace F0 := K0.facts; simp only [factsL, cellsF, Nat.reduceAdd, zf, zl] at F0; clear b1))
     all_goals (go_meet; exact ⟨_, rfl, K0⟩)
    case rest =>
     obtain ⟨bb, rfl, K1⟩ := hcut
     clear K0 F0
     cases bb
     ·go_wp2_with fail
      go_loopw [28] (fun iv wr => ∃ k : Nat, k ≤ j ∧ iv = .int .i64 k ∧ Hold None_ none w wr [.cst gs 136 #[.string xc, .int .i64 xe.kind, .int .i64 xe.op, .bool xe.nt, .int .i64 xe.v.k, .int .i64 xe.v.i, .string xe.v.s, .string xe.tab, .string xe.nm, .slice xe.A xe.n xe.c, .slice xe.B xe.m xe.d], .ro (SlP.In ⟨some ⟨b, o, none⟩, n, c, l⟩ 11 Se.cells (SeIn d))]) (fun iv _ => j - (intOf iv).toNat)
      case atStart => exact ⟨0, by omega, rfl, K1⟩
      case round =>
       clear K1
       obtain ⟨k, hk, rfl, H2⟩ := hrel
       by_cases hlt2 : k < j
       ·skip
        obtain ⟨⟨yc, ye⟩, yx⟩ := get_anyG HLN.out (show k < n by omega)
        obtain ⟨yb, yo, yE, -, yh, yin⟩ := SlP.In.at_ (s := ⟨some ⟨b, o, none⟩, n, c, l⟩) (k := 11) (cel := Se.cells) (P := SeIn d) ((H2.drop (List.sublist_cons_self _ _)).ro 0 rfl).now (by omega) (fun _ => rfl) yx
        obtain ⟨rfl, rfl⟩ := addr_eqC (show some (⟨b, o, none⟩ : Addr) = some ⟨yb, yo, none⟩ from yE)
        have y0 := yh 0 _ (by omega) rfl
        have y1 := yh 1 _ (by omega) rfl
        have y2 := yh 2 _ (by omega) rfl
        have y3 := yh 3 _ (by omega) rfl
        have y4 := yh 4 _ (by omega) rfl
        have y5 := yh 5 _ (by omega) rfl
        have y6 := yh 6 _ (by omega) rfl
        have y7 := yh 7 _ (by omega) rfl
        have y8 := yh 8 _ (by omega) rfl
        have y9 := yh 9 _ (by omega) rfl
        have y10 := yh 10 _ (by omega) rfl
        simp only [Nat.add_zero] at y0 y1 y2 y3 y4 y5 y6 y7 y8 y9 y10
        clear yh yE
        have K2 := H2.alloc_cst #[.string yc, .int .i64 ye.kind, .int .i64 ye.op, .bool ye.nt, .int .i64 ye.v.k, .int .i64 ye.v.i, .string ye.v.s, .string ye.tab, .string ye.nm, .slice ye.A ye.n ye.c, .slice ye.B ye.m ye.d] 136
        have F2 := K2.facts
        simp only [factsL, cellsF, Nat.reduceAdd, zf, zl] at F2
        clear H2 yin yx
        obtain ⟨bb, hbb⟩ : ∃ z : Bool, (yc.toList == xc.toList) = z := ⟨_, rfl⟩
        cases bb
        ·go_wp2_with fail
         go_roundw
         case rel => exact ⟨k + 1, by omega, by go_num, K2.drop (List.sublist_cons_self _ _)⟩
         case measure => simp [intOf]; omega
        ·go_wp2_with fail
         go_ret
         exact ⟨_, rfl, K2.below⟩
       ·obtain rfl : j = k := by omega
        go_wp2_with fail
        go_roundw
        case rel => exact ⟨j + 1, by omega, by go_num, H2.drop (List.sublist_cons_self _ _)⟩
        case measure => simp [intOf]; omega
     ·go_wp2_with fail
      go_ret
      exact ⟨_, rfl, K1.below⟩
   ·obtain rfl : n = j := by omega
    go_wp2_with fail
    go_ret
    exact ⟨_, rfl, H.below⟩
end Go.Proofs.YtdkebcfkchhlmaaGreatDoor

namespace Go.Proofs.YtdkebcfkchhlmaaGreatDoor
open Go.RowKit
set_option linter.unusedVariables false
set_option linter.unusedSimpArgs false
set_option maxHeartbeats 8000000 in
set_option maxRecDepth 100000 in
theorem vinsert_ret (d : Nat) (a : Ac) (w : World) (hx : Ro w None_ (AcIn d a)) (hg : AcGd d a) : Calls Tryz.prog 210 #[.agg #[.int .i64 a.kind, .string a.tab, .slice a.rows.A a.rows.n a.rows.c, .slice a.qs.A a.qs.n a.qs.c, .slice a.sets.A a.sets.n a.sets.c, .slice a.wh.A a.wh.n a.wh.c, .string a.text]] w fun e w' => BoolRet w e w' := by
 obtain ⟨kind, tab, ⟨rA, rn, rc, rl⟩, ⟨qA, qn, qc, ql⟩, ⟨sA, sn, sc, sl⟩, ⟨hA, hn, hc, hl⟩, text⟩ := a
 have HRN := hid (show rl.length = rn from SlP.In.len (s := ⟨rA, rn, rc, rl⟩) (k := 1) (cel := fun r : SlP Ex => [r.v]) (P := fun r w => r.In 10 Ex.cells (ExIn d) w) hx.now.1 (by omega) (fun _ => rfl))
 have HQN := hid (show ql.length = qn from SlP.In.len (s := ⟨qA, qn, qc, ql⟩) (k := 4) (cel := Qu.cells) (P := QuIn d) hx.now.2.1 (by omega) (fun _ => rfl))
 have HQL := hid (show qn ≤ 1 from by have h : ql.length ≤ 1 := hg.q.2.1; have := HQN.out; omega)
 have hrn : rn ≤ 8 := by have h : rl.length ≤ 8 := hg.r.2.1; have := HRN.out; omega
 have HQG := hid (show ∀ q ∈ ql, ∀ w, QuIn d q w → (∀ a ∈ q.items, ExGd d a) ∧ (∀ a ∈ q.wh, ExGd d a) ∧ q.n ≤ 1000 ∧ q.m ≤ 1000 from fun q hq w hin => by
  have h := hg.q.2.2 q hq
  have h6 : q.items.length = q.n := ExsIn.len hin.1
  have h7 : q.wh.length = q.m := ExsIn.len (show ExsIn d q.B q.m q.wh w from hin.2)
  have h8 := h.2.1
  exact ⟨h.2.2.1, h.2.2.2, by omega, by omega⟩)
 have HRG := hid (show ∀ r ∈ rl, (∀ x ∈ r.l, ExGd d x) ∧ r.l.length ≤ 8 from fun r hr => ⟨(hg.r.2.2 r hr).2.2, (hg.r.2.2 r hr).2.1⟩)
 have K0 := ((Hold.start None_ w zn).add (hx.less (by simp [Mut]))).alloc_cst #[.int .i64 kind, .string tab, .slice rA rn rc, .slice qA qn qc, .slice sA sn sc, .slice hA hn hc, .string text] 99
 obtain ⟨gx, hgx⟩ : ∃ g, g = w.heap.size := ⟨_, rfl⟩
 rw [← hgx] at K0
 have F0 := K0.facts
 simp only [factsL, cellsF, Nat.reduceAdd, zf, zl] at F0
 rw [hgx] at F0
 clear hx hg
 go_enter Tryz.func210, Tryz.ntmps210
 go_upto_region 1 with fail
 rw [← hgx] at F0 ⊢
 have HGX := hid hgx
 clear hgx
 generalize World.alloc _ _ = w1 at K0 F0 ⊢
 obtain ⟨c1, h1⟩ : ∃ z : Bool, ((qn : Int) == 1) = z := ⟨_, rfl⟩
 go_cut [25] (fun v wx => ∃ bb : Bool, v = .bool bb ∧ Hold None_ none w wx [.cst gx 99 #[.int .i64 kind, .string tab, .slice rA rn rc, .slice qA qn qc, .slice sA sn sc, .slice hA hn hc, .string text], .ro (AcIn d ⟨kind, tab, ⟨rA, rn, rc, rl⟩, ⟨qA, qn, qc, ql⟩, ⟨sA, sn, sc, sl⟩, ⟨hA, hn, hc, hl⟩, text⟩)])
 case first =>
  go_wp2_with fail
  all_goals (go_meet; exact ⟨_, rfl, K0⟩)
 case rest =>
  obtain ⟨bb, rfl, K1⟩ := hcut
  clear K0 F0 h1
  have K0 := K1
  clear K1
  have F0 := K0.facts
  simp only [factsL, cellsF, Nat.reduceAdd, zf, zl] at F0
  cases bb
  ·rcases Nat.eq_zero_or_pos rn with h0 | h0
   ·subst h0
    go_wp2_with fail
    go_loopw [29] (fun iv wr => iv = .int .i64 0 ∧ Hold None_ none w wr [.cst gx 99 #[.int .i64 kind, .string tab, .slice rA 0 rc, .slice qA qn qc, .slice sA sn sc, .slice hA hn hc, .string text], .ro (AcIn d ⟨kind, tab, ⟨rA, 0, rc, rl⟩, ⟨qA, qn, qc, ql⟩, ⟨sA, sn, sc, sl⟩, ⟨hA, hn, hc, hl⟩, text⟩)]) (fun _ _ => 0)
    case atStart => exact ⟨rfl, K0⟩
    case round =>
     clear K0 F0
     obtain ⟨rfl, K0⟩ := hrel
     have F0 := K0.facts
     simp only [factsL, cellsF, Nat.reduceAdd, zf, zl] at F0
     obtain rfl | rfl : qn = 0 ∨ qn = 1 := by have := HQL.out; omega
     ·go_wp2_with fail
      all_goals (go_ret; exact ⟨_, rfl, K0.below⟩)
     ·obtain ⟨q, hq⟩ : ∃ q, ql[0]? = some q := get_anyG HQN.out (by omega)
      obtain ⟨b9, o9, eB, -, hc9, hin9⟩ := SlP.In.at_ (s := ⟨qA, 1, qc, ql⟩) (k := 4) (cel := Qu.cells) (P := QuIn d) (K0.ro 1 rfl).now.2.1 (by omega) (fun _ => rfl) hq
      have eB : qA = some ⟨b9, o9, none⟩ := eB
      subst eB
      have q0 := hc9 0 _ (by omega) rfl
      have q1 := hc9 1 _ (by omega) rfl
      have q2 := hc9 2 _ (by omega) rfl
      have q3 := hc9 3 _ (by omega) rfl
      simp only [Nat.add_zero, Nat.zero_mul] at q0 q1 q2 q3
      have HVQ := hid (vquery_ret d q _ (((K0.ro 1 rfl).imp fun w2 h2 => h2.2.1.2 q (List.mem_of_getElem? hq)).less zn) (HQG.out q (List.mem_of_getElem? hq) _ hin9))
      clear hc9 hin9 hq
      go_wp2_with (go_at_call 236; go_must (refine HVQ.out.mono ?_); rintro e w1 ⟨r, rfl, b1⟩; replace K0 := K0.call b1; replace F0 := K0.facts; simp only [factsL, cellsF, Nat.reduceAdd, zf, zl] at F0; clear b1)
      all_goals (go_ret; exact ⟨_, rfl, K0.below⟩)
   ·obtain ⟨b, o, eA, -, -⟩ := (show Rd _ _ 1 rA rn (rl.flatMap fun r : SlP Ex => [r.v]) from (K0.ro 1 rfl).now.1.1).2 h0
    subst eA
    go_wp2_with fail
    go_loopw [29] (fun iv wr => ∃ j : Nat, j ≤ rn ∧ iv = .int .i64 j ∧ Hold None_ none w wr [.cst gx 99 #[.int .i64 kind, .string tab, .slice (some ⟨b, o, none⟩) rn rc, .slice qA qn qc, .slice sA sn sc, .slice hA hn hc, .string text], .ro (AcIn d ⟨kind, tab, ⟨some ⟨b, o, none⟩, rn, rc, rl⟩, ⟨qA, qn, qc, ql⟩, ⟨sA, sn, sc, sl⟩, ⟨hA, hn, hc, hl⟩, text⟩)]) (fun iv _ => rn - (intOf iv).toNat)
    case atStart => exact ⟨0, by omega, rfl, K0⟩
    case round =>
     clear K0 F0
     obtain ⟨j, hj, rfl, K0⟩ := hrel
     by_cases hlt : j < rn
     ·obtain ⟨⟨eA, en, ec, el⟩, hr⟩ := get_anyG HRN.out hlt
      obtain ⟨b9, o9, eB, -, hc9, hin9⟩ := SlP.In.at_ (s := ⟨some ⟨b, o, none⟩, rn, rc, rl⟩) (k := 1) (cel := fun r : SlP Ex => [r.v]) (P := fun r w => r.In 10 Ex.cells (ExIn d) w) (K0.ro 1 rfl).now.1 (by omega) (fun _ => rfl) hr
      obtain ⟨rfl, rfl⟩ := addr_eqC (show some (⟨b, o, none⟩ : Addr) = some ⟨b9, o9, none⟩ from eB)
      have q0 := hc9 0 _ (by omega) rfl
      simp only [Nat.add_zero, Nat.mul_one, SlP.v] at q0
      have hml := List.mem_of_getElem? hr
      have hel : el.length = en := ExsIn.len (show ExsIn d eA en el _ from hin9)
      have h8 := (HRG.out _ hml).2
      simp only at h8
      have HV := hid (fun (wv : World) (h : Hold None_ none w wv [.cst gx 99 #[.int .i64 kind, .string tab, .slice (some ⟨b, o, none⟩) rn rc, .slice qA qn qc, .slice sA sn sc, .slice hA hn hc, .string text], .ro (AcIn d ⟨kind, tab, ⟨some ⟨b, o, none⟩, rn, rc, rl⟩, ⟨qA, qn, qc, ql⟩, ⟨sA, sn, sc, sl⟩, ⟨hA, hn, hc, hl⟩, text⟩)]) => va_all d eA en ec el wv (((h.ro 1 rfl).imp fun w2 h2 => (show ExsIn d eA en el w2 from h2.1.2 _ hml)).less zn) (HRG.out _ hml).1 (by omega))
      have F0 := K0.facts
      simp only [factsL, cellsF, Nat.reduceAdd, zf, zl] at F0
      clear hc9 hin9 eB hr
      go_upto_region 6 with fail
      go_cut [45] (fun v wx => ∃ bb : Bool, v = .bool bb ∧ Hold None_ none w wx [.cst gx 99 #[.int .i64 kind, .string tab, .slice (some ⟨b, o, none⟩) rn rc, .slice qA qn qc, .slice sA sn sc, .slice hA hn hc, .string text], .ro (AcIn d ⟨kind, tab, ⟨some ⟨b, o, none⟩, rn, rc, rl⟩, ⟨qA, qn, qc, ql⟩, ⟨sA, sn, sc, sl⟩, ⟨hA, hn, hc, hl⟩, text⟩)])
      case first =>
       go_wp2_with (go_at_call 165; go_must (refine (HV.out _ K0).mono ?_); rintro e w1 ⟨r, rfl, b1⟩; replace K0 := K0.call b1; replace F0 := K0.facts; simp only [factsL, cellsF, Nat.reduceAdd, zf, zl] at F0; clear b1)
       all_goals (go_meet; exact ⟨_, rfl, K0⟩)
      case rest =>
       obtain ⟨bb, rfl, K1⟩ := hcut
       clear K0 F0 q0
       cases bb
       ·go_wp2_with fail
        go_roundw
        case rel => exact ⟨j + 1, by omega, by go_num, K1⟩
        case measure => simp [intOf]; omega
       ·go_wp2_with fail
        go_ret
        exact ⟨_, rfl, K1.below⟩
     ·obtain rfl : rn = j := by omega
      have F0 := K0.facts
      simp only [factsL, cellsF, Nat.reduceAdd, zf, zl] at F0
      obtain rfl | rfl : qn = 0 ∨ qn = 1 := by have := HQL.out; omega
      ·go_wp2_with fail
       all_goals (go_ret; exact ⟨_, rfl, K0.below⟩)
      ·obtain ⟨q, hq⟩ : ∃ q, ql[0]? = some q := get_anyG HQN.out (by omega)
       obtain ⟨b9, o9, eB, -, hc9, hin9⟩ := SlP.In.at_ (s := ⟨qA, 1, qc, ql⟩) (k := 4) (cel := Qu.cells) (P := QuIn d) (K0.ro 1 rfl).now.2.1 (by omega) (fun _ => rfl) hq
       have eB : qA = some ⟨b9, o9, none⟩ := eB
       subst eB
       have q0 := hc9 0 _ (by omega) rfl
       have q1 := hc9 1 _ (by omega) rfl
       have q2 := hc9 2 _ (by omega) rfl
       have q3 := hc9 3 _ (by omega) rfl
       simp only [Nat.add_zero, Nat.zero_mul] at q0 q1 q2 q3
       have HVQ := hid (vquery_ret d q _ (((K0.ro 1 rfl).imp fun w2 h2 => h2.2.1.2 q (List.mem_of_getElem? hq)).less zn) (HQG.out q (List.mem_of_getElem? hq) _ hin9))
       clear hc9 hin9 hq
       go_wp2_with (go_at_call 236; go_must (refine HVQ.out.mono ?_); rintro e w1 ⟨r, rfl, b1⟩; replace K0 := K0.call b1; replace F0 := K0.facts; simp only [factsL, cellsF, Nat.reduceAdd, zf, zl] at F0; clear b1)
       all_goals (go_ret; exact ⟨_, rfl, K0.below⟩)
  ·go_wp2_with fail
   all_goals (go_ret; exact ⟨_, rfl, K0.below⟩)
end Go.Proofs.YtdkebcfkchhlmaaGreatDoor

namespace Go.Proofs.YtdkebcfkchhlmaaGreatDoor
open Go.RowKit
set_option linter.unusedVariables false
set_option linter.unusedSimpArgs false
/-- frames and tables within limits -/
def FB (d fn : Nat) (fl : List Fr) : Prop := fn + d ≤ 1000 ∧ ∀ f ∈ fl, f.cols.n ≤ 1000
def TBd (tn : Nat) (tl : List Te) : Prop := tn ≤ 1000 ∧ ∀ x ∈ tl, x.n ≤ 1000
def TY (d : Nat) : Prop := ∀ (x : Ex) (fA : Option Addr) (fn fc : Nat) (fl : List Fr) (tA : Option Addr) (tn tc : Nat) (tl : List Te) (w : World) (hx : Ro w None_ (ExIn d x)) (hg : ExGd d x) (hf : Ro w None_ (FrsIn ⟨fA, fn, fc, fl⟩)) (ht : Ro w None_ (TesIn tA tn tl)) (hfb : FB d fn fl) (htb : TBd tn tl), Calls Tryz.prog 167 #[.agg #[.int .i64 x.kind, .int .i64 x.op, .bool x.nt, .int .i64 x.v.k, .int .i64 x.v.i, .string x.v.s, .string x.tab, .string x.nm, .slice x.A x.n x.c, .slice x.B x.m x.d], .slice fA fn fc, .slice tA tn tc] w fun e w' => TyRet w e w'
def CodeRet (w : World) (e : Ending) (w' : World) : Prop := ∃ c : Int, e = .returned (.int .i64 c) ∧ Below w.heap.size w w'
def CO (d : Nat) : Prop := ∀ (A : Option Addr) (n c : Nat) (l : List Ex) (fA : Option Addr) (fn fc : Nat) (fl : List Fr) (tA : Option Addr) (tn tc : Nat) (tl : List Te) (w : World) (hx : Ro w None_ (ExsIn d A n l)) (hg : ∀ x ∈ l, ExGd d x) (hf : Ro w None_ (FrsIn ⟨fA, fn, fc, fl⟩)) (ht : Ro w None_ (TesIn tA tn tl)) (hfb : FB d fn fl) (htb : TBd tn tl), Calls Tryz.prog 109 #[.slice A n c, .slice fA fn fc, .slice tA tn tc] w fun e w' => CodeRet w e w'
set_option maxHeartbeats 8000000 in
set_option maxRecDepth 100000 in
theorem co_of {d : Nat} (HT : TY d) : CO d := by
 intro A n c l fA fn fc fl tA tn tc tl w hx hg hf ht hfb htb
 have HLN := hid (show l.length = n from hx.now.len)
 have HG := hid hg
 have K0 := (((Hold.start None_ w zn).add (ht.less (by simp [Mut]))).add (hf.less (by simp [Mut, Hp.foot]))).add (hx.less (by simp [Mut, Hp.foot]))
 clear hx hg hf ht
 go_enter Tryz.func109, Tryz.ntmps109
 rcases Nat.eq_zero_or_pos n with h0 | h0
 ·subst h0
  go_wp2_with fail
  go_ret
  exact ⟨_, rfl, K0.below⟩
 ·have hnz : ((n : Int) == 0) = false := by simp; omega
  have hn0 : (0 : Int) < n := by omega
  obtain ⟨x, hx⟩ := get_anyG HLN.out (show 0 < n from h0)
  obtain ⟨b, o, rfl, hb, hc, -⟩ := (K0.ro 0 rfl).now.at_ hx
  have hm := List.mem_of_getElem? hx
  have x0 := hc 0 _ (by omega) rfl
  have x1 := hc 1 _ (by omega) rfl
  have x2 := hc 2 _ (by omega) rfl
  have x3 := hc 3 _ (by omega) rfl
  have x4 := hc 4 _ (by omega) rfl
  have x5 := hc 5 _ (by omega) rfl
  have x6 := hc 6 _ (by omega) rfl
  have x7 := hc 7 _ (by omega) rfl
  have x8 := hc 8 _ (by omega) rfl
  have x9 := hc 9 _ (by omega) rfl
  simp only [Nat.add_zero, Nat.zero_mul] at x0 x1 x2 x3 x4 x5 x6 x7 x8 x9
  clear hc hx
  go_wp2_with fail
  refine (HT x fA fn fc fl tA tn tc tl _ (((K0.ro 0 rfl).imp fun w2 h2 => h2.2 x hm).less zn) (HG.out x hm) ((K0.ro 1 rfl).less zn) ((K0.ro 2 rfl).less zn) hfb htb).mono ?_
  rintro e w1 ⟨t, cd, rfl, b1⟩
  have K1 := K0.call b1
  clear K0 b1 x0 x1 x2 x3 x4 x5 x6 x7 x8 x9
  obtain ⟨z, hz⟩ : ∃ z : Bool, (cd != 0) = z := ⟨_, rfl⟩
  cases z
  ·go_wp2_with fail
   refine (rfits_ret _ _ _).mono ?_
   rintro e w3 ⟨r, rfl, b3⟩
   have K3 := K1.call b3
   clear K1 b3
   cases r
   ·go_wp2_with fail
    go_ret
    exact ⟨_, rfl, K3.below⟩
   ·go_wp2_with fail
    go_ret
    exact ⟨_, rfl, K3.below⟩
  ·go_wp2_with fail
   go_ret
   exact ⟨_, rfl, K1.below⟩
/-- an expression with a query -/
theorem ExIn.toArgs {d : Nat} {x : Ex} {w : World} (h : ExIn (d + 1) x w) : ExsIn d x.A x.n x.args w := ⟨h.1, h.2.1⟩
theorem sub_atG {d : Nat} {x : Ex} {w : World} (h : ExIn (d + 1) x w) (h1 : x.m = 1) : ∃ (b o : Nat) (q : Qu), x.B = some ⟨b, o, none⟩ ∧ x.sub = [q] ∧ QuIn d q w := by
 obtain ⟨b, o, q, e, -, hs, -⟩ := sub_at h h1
 exact ⟨b, o, q, e, hs, h.2.2.2 q (by rw [hs]; simp)⟩
set_option maxHeartbeats 8000000 in
set_option maxRecDepth 100000 in
theorem tyq_of {d : Nat} (HT : TY d) (HC : CO d) (x : Ex) (fA : Option Addr) (fn fc : Nat) (fl : List Fr) (tA : Option Addr) (tn tc : Nat) (tl : List Te) (w : World) (hx : Ro w None_ (ExIn (d + 1) x)) (hg : ExGd (d + 1) x) (hm1 : x.m = 1) (hf : Ro w None_ (FrsIn ⟨fA, fn, fc, fl⟩)) (ht : Ro w None_ (TesIn tA tn tl)) (hfb : FB (d + 1) fn fl) (htb : TBd tn tl) : Calls Tryz.prog 212 #[.agg #[.int .i64 x.kind, .int .i64 x.op, .bool x.nt, .int .i64 x.v.k, .int .i64 x.v.i, .string x.v.s, .string x.tab, .string x.nm, .slice x.A x.n x.c, .slice x.B x.m x.d], .slice fA fn fc, .slice tA tn tc] w fun e w' => TyRet w e w' := by
 obtain ⟨b, o, ⟨star, qA, qn, qc, qil, src, qB, qm, qd, qwl⟩, eB, hsub, -⟩ := sub_atG hx.now hm1
 have HQG := hid (show QuGd d ⟨star, qA, qn, qc, qil, src, qB, qm, qd, qwl⟩ from by
  have h := hg.2.2.2 ⟨star, qA, qn, qc, qil, src, qB, qm, qd, qwl⟩ (by rw [hsub]; simp)
  exact h)
 have HQI := hid (show ∀ w2, ExIn (d + 1) x w2 → QuIn d ⟨star, qA, qn, qc, qil, src, qB, qm, qd, qwl⟩ w2 from fun w2 h2 => h2.2.2.2 ⟨star, qA, qn, qc, qil, src, qB, qm, qd, qwl⟩ (by rw [hsub]; simp))
 have HFB := hid hfb
 have HTB := hid htb
 have HQC := hid (show ∀ w2, ExIn (d + 1) x w2 → w2.cell? ⟨b, o, none⟩ = some (.bool star) ∧ w2.cell? ⟨b, o + 1, none⟩ = some (.slice qA qn qc) ∧ w2.cell? ⟨b, o + 2, none⟩ = some (.string src) ∧ w2.cell? ⟨b, o + 3, none⟩ = some (.slice qB qm qd) from fun w2 h2 => by
  obtain ⟨b', o', q', e', -, hs', hh⟩ := sub_at h2 hm1
  rw [eB] at e'
  obtain ⟨rfl, rfl⟩ := addr_eqC e'
  rw [hsub] at hs'
  obtain rfl := (List.cons.inj hs').1
  exact hh)
 have hfn : fn ≤ 1000 := by have := hfb.1; omega
 have KS := ((((Hold.start None_ w zn).add (ht.less (by simp [Mut]))).add (hf.less (by simp [Mut, Hp.foot]))).add (hx.less (by simp [Mut, Hp.foot]))).alloc_cst #[.int .i64 x.kind, .int .i64 x.op, .bool x.nt, .int .i64 x.v.k, .int .i64 x.v.i, .string x.v.s, .string x.tab, .string x.nm, .slice x.A x.n x.c, .slice x.B x.m x.d] 134
 obtain ⟨gx, hgx⟩ : ∃ g, g = w.heap.size := ⟨_, rfl⟩
 rw [← hgx] at KS
 rw [hm1, eB] at KS ⊢
 clear hx hg hf ht hfb htb
 go_enter Tryz.func212, Tryz.ntmps212
 go_upto_region 1 with fail
 rw [← hgx]
 have HGX := hid hgx
 clear hgx
 generalize World.alloc _ _ = w1 at KS ⊢
 obtain ⟨q0, q1, q2, q3⟩ := HQC.out _ (KS.ro 1 rfl).now
 have K0 := (KS.add (S := QuIn d ⟨star, qA, qn, qc, qil, src, qB, qm, qd, qwl⟩) ((KS.ro 1 rfl).imp HQI.out)).alloc_cst #[.bool star, .slice qA qn qc, .string src, .slice qB qm qd] 274
 have FS := KS.facts
 simp only [factsL, cellsF, Nat.reduceAdd, zf, zl] at FS
 have F0 := K0.facts
 simp only [factsL, cellsF, Nat.reduceAdd, zf, zl] at F0
 clear KS
 go_wp2_with fail
 obtain ⟨gq, hgq⟩ : ∃ g, g = w1.heap.size := ⟨_, rfl⟩
 rw [← hgq] at K0 ⊢
 have HGQ := hid hgq
 clear hgq F0 FS q0 q1 q2 q3
 refine (rsource_ret (Mut None_ _) _ K0.mutLt tA tn tc tl src (K0.ro 5 rfl) HTB.out.1 HTB.out.2).mono ?_
 rintro e w2 ⟨s, ok, rfl, hsn, hsc, rs, b2⟩
 have K1 := ((K0.call b2).add rs).alloc_cst #[.string s.nm, .slice s.cols.A s.cols.n s.cols.c] 49
 clear K0 rs b2
 have F1 := K1.facts
 simp only [factsL, cellsF, Nat.reduceAdd, zf, zl] at F1
 cases ok
 ·go_wp2_with fail
  go_ret2
  exact ⟨_, _, rfl, K1.below⟩
 ·go_wp2_with fail
  obtain ⟨gs, hgs⟩ : ∃ g, g = w2.heap.size := ⟨_, rfl⟩
  rw [← hgs] at K1 ⊢
  have HGS := hid hgs
  clear hgs F1
  refine (rinside_ret (Mut None_ _) _ K1.mutLt fA fn fc fl s (K1.ro 6 rfl) (K1.ro 1 rfl) hfn).mono ?_
  rintro e w3 ⟨IA, ic, rfl, ri, b3⟩
  have K2 := ((K1.call b3).add ri)
  clear K1 ri b3
  have HIB := hid (show FB d (fn + 1) (fl ++ [(⟨s.nm, false, s.cols, SlP.nil⟩ : Fr)]) from ⟨by have := HFB.out.1; omega, fun f hf => by
   rcases List.mem_append.1 hf with hf | hf
   ·exact HFB.out.2 f hf
   ·simp only [List.mem_cons, List.not_mem_nil, or_false] at hf
    subst hf
    exact hsn⟩)
  have HIN := hid (show qil.length = qn from ExsIn.len (K2.ro 4 rfl).now.1)
  have hq8 : qn ≤ 8 := by rw [← HIN.out]; exact HQG.out.2.1.1
  have F2 := K2.facts
  simp only [factsL, cellsF, Nat.reduceAdd, zf, zl] at F2
  go_wp2_with fail
  clear F2
  go_loopw [12, 37] (fun pv iv wr => ∃ (p : Int) (j : Nat), j ≤ qn ∧ pv = .int .i64 p ∧ iv = .int .i64 j ∧ Hold None_ none w wr [.ro (FrsIn ⟨IA, fn + 1, ic, fl ++ [⟨s.nm, false, s.cols, SlP.nil⟩]⟩), .cst gq 274 #[.bool star, .slice qA qn qc, .string src, .slice qB qm qd], .ro (QuIn d ⟨star, qA, qn, qc, qil, src, qB, qm, qd, qwl⟩), .cst gx 134 #[.int .i64 x.kind, .int .i64 x.op, .bool x.nt, .int .i64 x.v.k, .int .i64 x.v.i, .string x.v.s, .string x.tab, .string x.nm, .slice x.A x.n x.c, .slice (some ⟨b, o, none⟩) 1 x.d], .ro (TesIn tA tn tl)]) (fun _ iv _ => qn - (intOf iv).toNat)
  case atStart => exact ⟨1, 0, by omega, rfl, rfl, K2.pick [0, 3, 4, 5, 8] (by decide) rfl⟩
  case round =>
   clear K2
   obtain ⟨p, j, hj, rfl, rfl, H⟩ := hrel
   by_cases hlt : j < qn
   ·obtain ⟨y, hy⟩ := get_anyG HIN.out hlt
    obtain ⟨qb, qo, rfl, hb, hc, -⟩ := (show ExsIn d qA qn qil _ from (H.ro 2 rfl).now.1).at_ hy
    have hm := List.mem_of_getElem? hy
    have x0 := hc 0 _ (by omega) rfl
    have x1 := hc 1 _ (by omega) rfl
    have x2 := hc 2 _ (by omega) rfl
    have x3 := hc 3 _ (by omega) rfl
    have x4 := hc 4 _ (by omega) rfl
    have x5 := hc 5 _ (by omega) rfl
    have x6 := hc 6 _ (by omega) rfl
    have x7 := hc 7 _ (by omega) rfl
    have x8 := hc 8 _ (by omega) rfl
    have x9 := hc 9 _ (by omega) rfl
    simp only [Nat.add_zero] at x0 x1 x2 x3 x4 x5 x6 x7 x8 x9
    clear hc hy
    have K3 := H.alloc_cst #[.int .i64 y.kind, .int .i64 y.op, .bool y.nt, .int .i64 y.v.k, .int .i64 y.v.i, .string y.v.s, .string y.tab, .string y.nm, .slice y.A y.n y.c, .slice y.B y.m y.d] 134
    have F3 := K3.facts
    simp only [factsL, cellsF, Nat.reduceAdd, zf, zl] at F3
    clear H
    go_wp2_with fail
    refine (HT y IA (fn + 1) ic (fl ++ [⟨s.nm, false, s.cols, SlP.nil⟩]) tA tn tc tl _ (((K3.ro 3 rfl).imp fun w2 h2 => h2.1.2 y hm).less zn) (HQG.out.2.2.1 y hm) ((K3.ro 1 rfl).less zn) ((K3.ro 5 rfl).less zn) HIB.out HTB.out).mono ?_
    rintro e w4 ⟨t, cd, rfl, b4⟩
    have K4 := K3.call b4
    clear K3 F3 b4 x0 x1 x2 x3 x4 x5 x6 x7 x8 x9
    obtain ⟨z, hz⟩ : ∃ z : Bool, (cd != 0) = z := ⟨_, rfl⟩
    cases z
    ·go_wp2_with fail
     go_roundw
     case rel => exact ⟨t, j + 1, by omega, rfl, by go_num, K4.drop (List.sublist_cons_self _ _)⟩
     case measure => simp [intOf]; omega
    ·go_wp2_with fail
     go_ret2
     exact ⟨_, _, rfl, K4.below⟩
   ·obtain rfl : qn = j := by omega
    have F4 := H.facts
    simp only [factsL, cellsF, Nat.reduceAdd, zf, zl] at F4
    go_wp2_with fail
    refine (HC qB qm qd qwl IA (fn + 1) ic (fl ++ [⟨s.nm, false, s.cols, SlP.nil⟩]) tA tn tc tl _ (((H.ro 2 rfl).imp fun w2 h2 => (show ExsIn d qB qm qwl w2 from h2.2)).less zn) HQG.out.2.2.2 ((H.ro 0 rfl).less zn) ((H.ro 4 rfl).less zn) HIB.out HTB.out).mono ?_
    rintro e w4 ⟨cd, rfl, b4⟩
    have K4 := H.call b4
    clear H F4 b4
    have F4 := K4.facts
    simp only [factsL, cellsF, Nat.reduceAdd, zf, zl] at F4
    obtain ⟨z, hz⟩ : ∃ z : Bool, (cd != 0) = z := ⟨_, rfl⟩
    cases z
    ·obtain ⟨c8, h8⟩ : ∃ z : Bool, (x.kind == 8) = z := ⟨_, rfl⟩
     obtain ⟨c11, h11⟩ : ∃ z : Bool, (x.kind == 11) = z := ⟨_, rfl⟩
     obtain ⟨c12, h12⟩ : ∃ z : Bool, (x.kind == 12) = z := ⟨_, rfl⟩
     obtain ⟨c10, h10⟩ : ∃ z : Bool, (x.kind == 10) = z := ⟨_, rfl⟩
     cases c10
     ·go_wp2_with fail
      all_goals (go_ret2; exact ⟨_, _, rfl, K4.below⟩)
     ·go_wp2_with (go_at_call 168; go_must (refine (rfits_ret _ _ _).mono ?_); rintro e w5 ⟨r, rfl, b5⟩; replace K4 := K4.call b5; clear b5; replace F4 := K4.facts; simp only [factsL, cellsF, Nat.reduceAdd, zf, zl] at F4)
      all_goals (go_ret2; exact ⟨_, _, rfl, K4.below⟩)
    ·go_wp2_with fail
     go_ret2
     exact ⟨_, _, rfl, K4.below⟩
end Go.Proofs.YtdkebcfkchhlmaaGreatDoor

namespace Go.Proofs.YtdkebcfkchhlmaaGreatDoor
open Go.RowKit
set_option linter.unusedVariables false
set_option linter.unusedSimpArgs false
theorem Tryz.elIntT : ElemT Tryz.prog 22 3 1 8 (.int .i64 0) := ⟨Tryz.underlying22, by kernel_rfl, rfl, by omega⟩
set_option maxHeartbeats 16000000 in
set_option maxRecDepth 100000 in
theorem ty_of {d : Nat} (HT : TY d) (HC : CO d) : TY (d + 1) := by
 intro x fA fn fc fl tA tn tc tl w hx hg hf ht hfb htb
 have HG := hid hg
 have HFB := hid hfb
 have HTB := hid htb
 have HLN := hid (show x.args.length = x.n from ExsIn.len hx.now.toArgs)
 have hn3 : x.n ≤ 3 := by rw [← HLN.out]; exact hg.2.1.2.1
 have HSB := hid (show x.sub.length = x.m from by
  have h3 : Rd w w.heap.size 4 x.B x.m (quCells x.sub) := hx.now.2.2.1
  have := h3.1
  rw [quCells_len] at this
  omega)
 have hm1 : x.m ≤ 1 := by rw [← HSB.out]; exact hg.2.1.2.2
 have K0 := ((((Hold.start None_ w zn).add (ht.less (by simp [Mut]))).add (hf.less (by simp [Mut, Hp.foot]))).add (hx.less (by simp [Mut, Hp.foot]))).alloc_cst #[.int .i64 x.kind, .int .i64 x.op, .bool x.nt, .int .i64 x.v.k, .int .i64 x.v.i, .string x.v.s, .string x.tab, .string x.nm, .slice x.A x.n x.c, .slice x.B x.m x.d] 134
 obtain ⟨gx, hgx⟩ : ∃ g, g = w.heap.size := ⟨_, rfl⟩
 rw [← hgx] at K0
 clear hx hg hf ht hfb htb
 go_enter Tryz.func167, Tryz.ntmps167
 go_upto_region 1 with fail
 rw [← hgx]
 have HGX := hid hgx
 clear hgx
 generalize World.alloc _ _ = w1 at K0 ⊢
 have F0 := K0.facts
 simp only [factsL, cellsF, Nat.reduceAdd, zf, zl] at F0
 go_wp2_with fail
 refine (shape_any (d + 1) x _ ((K0.ro 1 rfl).less zn)).mono ?_
 rintro e w2 ⟨r, rfl, b2⟩
 have K1 := K0.call b2
 clear K0 F0 b2
 have F1 := K1.facts
 simp only [factsL, cellsF, Nat.reduceAdd, zf, zl] at F1
 cases r
 ·go_wp2_with fail
  go_ret2
  exact ⟨_, _, rfl, K1.below⟩
 ·obtain ⟨c1, h1⟩ : ∃ z : Bool, (x.kind == 1) = z := ⟨_, rfl⟩
  obtain ⟨c2, h2⟩ : ∃ z : Bool, (x.kind == 2) = z := ⟨_, rfl⟩
  cases c1
  ·cases c2
   ·by_cases hm0 : 0 < x.m
    ·have hm0i : (0 : Int) < x.m := by omega
     have hm11 := hid (show x.m = 1 by omega)
     go_wp2_with fail
     refine (tyq_of HT HC x fA fn fc fl tA tn tc tl _ ((K1.ro 1 rfl).less zn) HG.out hm11.out ((K1.ro 2 rfl).less zn) ((K1.ro 3 rfl).less zn) HFB.out HTB.out).mono ?_
     rintro e w3 ⟨t, cd, rfl, b3⟩
     have K2 := K1.call b3
     clear K1 F1 b3
     go_wp2_with fail
     go_ret2
     exact ⟨_, _, rfl, K2.below⟩
    ·have hm0i : ¬ (0 : Int) < x.m := by omega
     have KN := K1.nil 3 1
     clear hm1
     go_wp2_with fail
     clear K1 F1
     obtain ⟨kind, op, nt, v, tab, nm, A, n, c, args, B, m, dd, sub⟩ := x
     go_loopw [11, 62] (fun ov iv wr => ∃ (j cap : Nat) (O : Option Addr) (outs : List Int), j ≤ n ∧ outs.length = j ∧ iv = .int .i64 j ∧ ov = .slice O j cap ∧ Hold None_ none w wr [.own 3 1 (.slice O j cap) j (tyC outs), .cst gx 134 #[.int .i64 kind, .int .i64 op, .bool nt, .int .i64 v.k, .int .i64 v.i, .string v.s, .string tab, .string nm, .slice A n c, .slice B m dd], .ro (ExIn (d + 1) ⟨kind, op, nt, v, tab, nm, A, n, c, args, B, m, dd, sub⟩), .ro (FrsIn ⟨fA, fn, fc, fl⟩), .ro (TesIn tA tn tl)]) (fun _ iv _ => n - (intOf iv).toNat)
     case atStart => exact ⟨0, 0, none, [], by omega, rfl, rfl, rfl, KN⟩
     case round =>
      clear KN
      obtain ⟨j, cap, O, outs, hj, hol, rfl, rfl, H⟩ := hrel
      by_cases hlt : j < n
      ·obtain ⟨y, hy⟩ := get_anyG HLN.out hlt
       obtain ⟨qb, qo, rfl, hb, hc, -⟩ := (show ExsIn d A n args _ from (H.ro 2 rfl).now.toArgs).at_ hy
       have hm := List.mem_of_getElem? hy
       have x0 := hc 0 _ (by omega) rfl
       have x1 := hc 1 _ (by omega) rfl
       have x2 := hc 2 _ (by omega) rfl
       have x3 := hc 3 _ (by omega) rfl
       have x4 := hc 4 _ (by omega) rfl
       have x5 := hc 5 _ (by omega) rfl
       have x6 := hc 6 _ (by omega) rfl
       have x7 := hc 7 _ (by omega) rfl
       have x8 := hc 8 _ (by omega) rfl
       have x9 := hc 9 _ (by omega) rfl
       simp only [Nat.add_zero] at x0 x1 x2 x3 x4 x5 x6 x7 x8 x9
       clear hc hy
       have K3 := H.alloc_cst #[.int .i64 y.kind, .int .i64 y.op, .bool y.nt, .int .i64 y.v.k, .int .i64 y.v.i, .string y.v.s, .string y.tab, .string y.nm, .slice y.A y.n y.c, .slice y.B y.m y.d] 134
       have F3 := K3.facts
       simp only [factsL, cellsF, Nat.reduceAdd, zf, zl] at F3
       clear H
       have HOL := hid hol
       clear hol
       go_wp2_with fail
       refine (HT y fA fn fc fl tA tn tc tl _ (((K3.ro 3 rfl).imp fun w2 h2 => h2.2.1 y hm).less zn) (HG.out.2.2.1 y hm) ((K3.ro 4 rfl).less zn) ((K3.ro 5 rfl).less zn) (show FB d fn fl from ⟨by have := HFB.out.1; omega, HFB.out.2⟩) HTB.out).mono ?_
       rintro e w4 ⟨t, cd, rfl, b4⟩
       have K4 := K3.call b4
       clear K3 F3 b4 x0 x1 x2 x3 x4 x5 x6 x7 x8 x9
       obtain ⟨z, hz⟩ : ∃ z : Bool, (cd != 0) = z := ⟨_, rfl⟩
       cases z
       ·go_wp2_with (at_builtin; go_must (refine wpList_appH K4 1 rfl Tryz.elIntT #[.int .i64 t] rfl (.tmp 76) (.tmp 78) rfl rfl _ (by first | rfl | simp) rfl rfl (by intro u hu; simp at hu; rcases hu with rfl; rfl) (by omega) (by omega) ?_); intro gA capA wA hcA hmA KA; rw [show tyC outs ++ (#[.int .i64 t] : Array Value).toList = tyC (outs ++ [t]) by simp [tyC]] at KA; simp only [zl] at KA)
        go_roundw
        case rel => exact ⟨j + 1, capA, _, outs ++ [t], by omega, by simp [HOL.out], by go_num, by first | rfl | trivial, KA.drop (List.sublist_cons_self _ _)⟩
        case measure => simp [intOf]; omega
       ·go_wp2_with fail
        go_ret2
        exact ⟨_, _, rfl, K4.below⟩
      ·obtain rfl : n = j := by omega
       have KZ := H.sealRow 0 rfl
       simp only [List.set_cons_zero] at KZ
       have F4 := KZ.facts
       simp only [factsL, cellsF, Nat.reduceAdd, zf, zl] at F4
       go_wp2_with fail
       refine (rresult_ret ⟨kind, op, nt, v, tab, nm, A, n, c, args, B, m, dd, sub⟩ O n cap outs _ ((KZ.ro 0 rfl).less zn) (by omega)).mono ?_
       rintro e w4 ⟨t, cd, rfl, b4⟩
       have K4 := KZ.call b4
       clear KZ H F4 b4
       go_wp2_with fail
       go_ret2
       exact ⟨_, _, rfl, K4.below⟩
   ·go_wp2_with fail
    refine (rresolve_ret fA fn fc fl x.tab x.nm _ ((K1.ro 2 rfl).less zn) (by have := HFB.out.1; omega) HFB.out.2).mono ?_
    rintro e w3 ⟨i, k, ok, rfl, hok, b3⟩
    have K2 := K1.call b3
    clear K1 F1 b3
    cases ok
    ·go_wp2_with fail
     go_ret2
     exact ⟨_, _, rfl, K2.below⟩
    ·obtain ⟨⟨fnm, fst, ⟨cA, cn, cc, cl⟩, ⟨vA, vn, vc, vl⟩⟩, cx, hfi, hck⟩ := hok rfl
     have hfl : fl.length = fn := FrsIn.len (K2.ro 2 rfl).now
     have hi : i < fn := by rw [← hfl]; exact (List.getElem?_eq_some_iff.1 hfi).1
     obtain ⟨b, o, rfl, hb, hcl, hfin⟩ := FrsIn.at_ (K2.ro 2 rfl).now hfi
     have f2 := hcl 2 _ (by omega) rfl
     simp only [SlP.v] at f2
     obtain ⟨b2, o2, rfl, hb2, -, e1, -, -⟩ := (RdC.of_sl (show SlR 4 cA cn (colCells cl) _ from hfin.cols)).at_ hck
     have hcl2 : cl.length = cn := (RdC.of_sl (show SlR 4 _ cn (colCells cl) _ from hfin.cols)).len
     have hk : k < cn := by rw [← hcl2]; exact (List.getElem?_eq_some_iff.1 hck).1
     have hii : (i : Int) < fn := by omega
     have hkk : (k : Int) < cn := by omega
     have HB := hid K2.below
     clear hcl hfin hfi hck hfl hcl2 hok
     go_wp2_with fail
     go_ret2
     exact ⟨_, _, rfl, HB.out⟩
  ·go_wp2_with fail
   go_ret2
   exact ⟨_, _, rfl, K1.below⟩
theorem ty_all : ∀ d : Nat, TY d
 | 0 => fun x _ _ _ _ _ _ _ _ _ hx hg => hg.elim
 | d + 1 => ty_of (ty_all d) (co_of (ty_all d))
theorem co_all (d : Nat) : CO d := co_of (ty_all d)
end Go.Proofs.YtdkebcfkchhlmaaGreatDoor

namespace Go.Proofs.YtdkebcfkchhlmaaGreatDoor
open Go.RowKit
set_option linter.unusedVariables false
set_option linter.unusedSimpArgs false
theorem find_lt {α : Type} (p : α → Bool) (l : List α) (h : 0 ≤ findB p l) : findB p l < l.length := by
 have h2 := find_range p l
 rcases l with _ | ⟨x, l⟩
 ·have : findB p ([] : List α) = -1 := find_end (k := 0) rfl (Nat.le_refl _)
  omega
 ·simp only [List.length_cons] at h2 ⊢
  omega
/-- What Types answers. -/
def TysRet (w : World) (M : Nat → Prop) (e : Ending) (w' : World) : Prop := ∃ (A : Option Addr) (n c : Nat) (l : List Int) (cd : Int), e = .returned (.tuple #[.slice A n c, .int .i64 cd]) ∧ n ≤ 1000 ∧ Ro w' M (SlR 1 A n (tyC l)) ∧ Below w.heap.size w w'
set_option maxHeartbeats 16000000 in
set_option maxRecDepth 100000 in
theorem types_ret (d : Nat) (M : Nat → Prop) (w : World) (hM : ∀ b, M b → b < w.heap.size) (q : Qu) (fA : Option Addr) (fn fc : Nat) (fl : List Fr) (tA : Option Addr) (tn tc : Nat) (tl : List Te) (hx : Ro w M (QuIn d q)) (hg : QuGd d q) (hf : Ro w M (FrsIn ⟨fA, fn, fc, fl⟩)) (ht : Ro w M (TesIn tA tn tl)) (hfb : FB (d + 1) fn fl) (htb : TBd tn tl) : Calls Tryz.prog 237 #[.agg #[.bool q.star, .slice q.A q.n q.c, .string q.src, .slice q.B q.m q.d], .slice fA fn fc, .slice tA tn tc] w fun e w' => TysRet w M e w' := by
 obtain ⟨star, qA, qn, qc, qil, src, qB, qm, qd, qwl⟩ := q
 have HQG := hid hg
 have HFB := hid hfb
 have HTB := hid htb
 have hfn : fn ≤ 1000 := by have := hfb.1; omega
 have K0 := ((((Hold.start M w hM).add (ht.less (by simp [Mut]))).add (hf.less (by simp [Mut, Hp.foot]))).add (hx.less (by simp [Mut, Hp.foot]))).alloc_cst #[.bool star, .slice qA qn qc, .string src, .slice qB qm qd] 274
 obtain ⟨gq, hgq⟩ : ∃ g, g = w.heap.size := ⟨_, rfl⟩
 rw [← hgq] at K0
 clear hx hg hf ht hfb htb
 go_enter Tryz.func237, Tryz.ntmps237
 go_upto_region 1 with fail
 rw [← hgq]
 have HGX := hid hgq
 clear hgq
 generalize World.alloc _ _ = w1 at K0 ⊢
 have F0 := K0.facts
 simp only [factsL, cellsF, Nat.reduceAdd, zf, zl] at F0
 go_wp2_with fail
 clear F0
 refine (rsource_ret (Mut M _) _ K0.mutLt tA tn tc tl src (K0.ro 3 rfl) HTB.out.1 HTB.out.2).mono ?_
 rintro e w2 ⟨s, ok, rfl, hsn, hsc, rs, b2⟩
 have K1 := ((K0.call b2).add rs).alloc_cst #[.string s.nm, .slice s.cols.A s.cols.n s.cols.c] 49
 clear K0 rs b2
 have F1 := K1.facts
 simp only [factsL, cellsF, Nat.reduceAdd, zf, zl] at F1
 cases ok
 ·go_wp2_with fail
  go_ret2
  exact ⟨none, 0, 0, [], _, rfl, by omega, fun w2 _ _ => slr_nil 1 w2, K1.below⟩
 ·go_wp2_with fail
  obtain ⟨gs, hgs⟩ : ∃ g, g = w2.heap.size := ⟨_, rfl⟩
  rw [← hgs] at K1 ⊢
  have HGS := hid hgs
  clear hgs F1
  refine (rinside_ret (Mut M _) _ K1.mutLt fA fn fc fl s (K1.ro 4 rfl) (K1.ro 1 rfl) hfn).mono ?_
  rintro e w3 ⟨IA, ic, rfl, ri, b3⟩
  have K2 := ((K1.call b3).add ri)
  clear K1 ri b3
  have HIB := hid (show FB d (fn + 1) (fl ++ [(⟨s.nm, false, s.cols, SlP.nil⟩ : Fr)]) from ⟨by have := HFB.out.1; omega, fun f hf => by
   rcases List.mem_append.1 hf with hf | hf
   ·exact HFB.out.2 f hf
   ·simp only [List.mem_cons, List.not_mem_nil, or_false] at hf
    subst hf
    exact hsn⟩)
  have HIN := hid (show qil.length = qn from ExsIn.len (show ExsIn d qA qn qil _ from (K2.ro 4 rfl).now.1))
  have hq8 : qn ≤ 8 := by rw [← HIN.out]; exact HQG.out.2.1.1
  obtain ⟨snm, ⟨cA, cn, cc, cl⟩⟩ := s
  have hsn : cn ≤ 1000 := hsn
  have K3 : Hold M none w _ [.own 3 1 (.slice none 0 0) 0 (tyC []), .cst gs 49 #[.string snm, .slice cA cn cc], .ro (SlR 4 cA cn (colCells cl)), .cst gq 274 #[.bool star, .slice qA qn qc, .string src, .slice qB qm qd], .ro (QuIn d ⟨star, qA, qn, qc, qil, src, qB, qm, qd, qwl⟩), .ro (FrsIn ⟨IA, fn + 1, ic, fl ++ [⟨snm, false, ⟨cA, cn, cc, cl⟩, SlP.nil⟩]⟩), .ro (TesIn tA tn tl)] := ((K2.add (S := SlR 4 cA cn (colCells cl)) ((K2.ro 2 rfl).imp fun w2 h2 => h2.1)).nil 3 1).pick [0, 3, 1, 5, 6, 2, 8] (by decide) rfl
  have HCL := hid (show cl.length = cn from (RdC.of_sl (K3.ro 2 rfl).now).len)
  clear K2
  have F3 := K3.facts
  simp only [factsL, cellsF, Nat.reduceAdd, zf, zl] at F3
  go_upto_if 32 with (fail)
  go_cut [11] (fun v wx => ∃ (j cap : Nat) (O : Option Addr) (outs : List Int), v = .slice O j cap ∧ j ≤ 1000 ∧ Hold M none w wx [.own 3 1 (.slice O j cap) j (tyC outs), .cst gq 274 #[.bool star, .slice qA qn qc, .string src, .slice qB qm qd], .ro (QuIn d ⟨star, qA, qn, qc, qil, src, qB, qm, qd, qwl⟩), .ro (FrsIn ⟨IA, fn + 1, ic, fl ++ [⟨snm, false, ⟨cA, cn, cc, cl⟩, SlP.nil⟩]⟩), .ro (TesIn tA tn tl)])
  case first =>
   cases star
   ·go_wp2_with fail
    clear F3
    go_loopw [11, 49] (fun ov iv wr => ∃ (j cap : Nat) (O : Option Addr) (outs : List Int), j ≤ qn ∧ iv = .int .i64 j ∧ ov = .slice O j cap ∧ Hold M none w wr [.own 3 1 (.slice O j cap) j (tyC outs), .cst gs 49 #[.string snm, .slice cA cn cc], .ro (SlR 4 cA cn (colCells cl)), .cst gq 274 #[.bool false, .slice qA qn qc, .string src, .slice qB qm qd], .ro (QuIn d ⟨false, qA, qn, qc, qil, src, qB, qm, qd, qwl⟩), .ro (FrsIn ⟨IA, fn + 1, ic, fl ++ [⟨snm, false, ⟨cA, cn, cc, cl⟩, SlP.nil⟩]⟩), .ro (TesIn tA tn tl)]) (fun _ iv _ => qn - (intOf iv).toNat)
    case atStart => exact ⟨0, 0, none, [], by omega, rfl, rfl, K3⟩
    case round =>
     clear K3
     obtain ⟨j, cap, O, outs, hj, rfl, rfl, H⟩ := hrel
     by_cases hlt : j < qn
     ·obtain ⟨y, hy⟩ := get_anyG HIN.out hlt
      obtain ⟨qb, qo, rfl, hb, hc, -⟩ := (show ExsIn d qA qn qil _ from (H.ro 4 rfl).now.1).at_ hy
      have hm := List.mem_of_getElem? hy
      have x0 := hc 0 _ (by omega) rfl
      have x1 := hc 1 _ (by omega) rfl
      have x2 := hc 2 _ (by omega) rfl
      have x3 := hc 3 _ (by omega) rfl
      have x4 := hc 4 _ (by omega) rfl
      have x5 := hc 5 _ (by omega) rfl
      have x6 := hc 6 _ (by omega) rfl
      have x7 := hc 7 _ (by omega) rfl
      have x8 := hc 8 _ (by omega) rfl
      have x9 := hc 9 _ (by omega) rfl
      simp only [Nat.add_zero] at x0 x1 x2 x3 x4 x5 x6 x7 x8 x9
      clear hc hy
      have K3 := H.alloc_cst #[.int .i64 y.kind, .int .i64 y.op, .bool y.nt, .int .i64 y.v.k, .int .i64 y.v.i, .string y.v.s, .string y.tab, .string y.nm, .slice y.A y.n y.c, .slice y.B y.m y.d] 134
      have F3 := K3.facts
      simp only [factsL, cellsF, Nat.reduceAdd, zf, zl] at F3
      clear H
      go_wp2_with fail
      refine (ty_all d y IA (fn + 1) ic (fl ++ [⟨snm, false, ⟨cA, cn, cc, cl⟩, SlP.nil⟩]) tA tn tc tl _ (((K3.ro 5 rfl).imp fun w2 h2 => h2.1.2 y hm).less zn) (HQG.out.2.2.1 y hm) ((K3.ro 6 rfl).less zn) ((K3.ro 7 rfl).less zn) HIB.out HTB.out).mono ?_
      rintro e w4 ⟨t, cd, rfl, b4⟩
      have K4 := K3.call b4
      clear K3 F3 b4 x0 x1 x2 x3 x4 x5 x6 x7 x8 x9
      obtain ⟨z, hz⟩ : ∃ z : Bool, (cd != 0) = z := ⟨_, rfl⟩
      cases z
      ·go_wp2_with (at_builtin; go_must (refine wpList_appH K4 1 rfl Tryz.elIntT #[.int .i64 t] rfl (.tmp 63) (.tmp 65) rfl rfl _ (by first | rfl | simp) rfl rfl (by intro u hu; simp at hu; rcases hu with rfl; rfl) (by omega) (by omega) ?_); intro gA capA wA hcA hmA KA; rw [show tyC outs ++ (#[.int .i64 t] : Array Value).toList = tyC (outs ++ [t]) by simp [tyC]] at KA; simp only [zl] at KA)
       go_roundw
       case rel => exact ⟨j + 1, capA, _, outs ++ [t], by omega, by go_num, by first | rfl | trivial, KA.drop (List.sublist_cons_self _ _)⟩
       case measure => simp [intOf]; omega
      ·go_wp2_with fail
       go_ret2
       exact ⟨none, 0, 0, [], _, rfl, by omega, fun w2 _ _ => slr_nil 1 w2, K4.below⟩
     ·obtain rfl : qn = j := by omega
      go_wp2_with fail
      go_meet
      exact ⟨_, _, _, _, rfl, by omega, H.pick [0, 3, 4, 5, 6] (by decide) rfl⟩
   ·go_wp2_with fail
    clear F3
    go_loopw [11, 36] (fun ov iv wr => ∃ (j cap : Nat) (O : Option Addr) (outs : List Int), j ≤ cn ∧ iv = .int .i64 j ∧ ov = .slice O j cap ∧ Hold M none w wr [.own 3 1 (.slice O j cap) j (tyC outs), .cst gs 49 #[.string snm, .slice cA cn cc], .ro (SlR 4 cA cn (colCells cl)), .cst gq 274 #[.bool true, .slice qA qn qc, .string src, .slice qB qm qd], .ro (QuIn d ⟨true, qA, qn, qc, qil, src, qB, qm, qd, qwl⟩), .ro (FrsIn ⟨IA, fn + 1, ic, fl ++ [⟨snm, false, ⟨cA, cn, cc, cl⟩, SlP.nil⟩]⟩), .ro (TesIn tA tn tl)]) (fun _ iv _ => cn - (intOf iv).toNat)
    case atStart => exact ⟨0, 0, none, [], by omega, rfl, rfl, K3⟩
    case round =>
     clear K3
     obtain ⟨j, cap, O, outs, hj, rfl, rfl, H⟩ := hrel
     by_cases hlt : j < cn
     ·obtain ⟨⟨xnm, xty, xnn, xkey⟩, hcx⟩ := get_col HCL.out hlt
      obtain ⟨b2, o2, rfl, hb2, x0, x1, x2, x3⟩ := (RdC.of_sl (H.ro 2 rfl).now).at_ hcx
      simp only at x0 x1 x2 x3
      clear hcx
      have K4 := H.alloc_cst #[.string xnm, .int .i64 xty, .bool xnn, .bool xkey] 162
      have F4 := K4.facts
      simp only [factsL, cellsF, Nat.reduceAdd, zf, zl] at F4
      clear H
      go_wp2_with (at_builtin; go_must (refine wpList_appH K4 1 rfl Tryz.elIntT #[.int .i64 xty] rfl (.tmp 40) (.tmp 43) rfl rfl _ (by first | rfl | simp) rfl rfl (by intro u hu; simp at hu; rcases hu with rfl; rfl) (by omega) (by omega) ?_); intro gA capA wA hcA hmA KA; rw [show tyC outs ++ (#[.int .i64 xty] : Array Value).toList = tyC (outs ++ [xty]) by simp [tyC]] at KA; simp only [zl] at KA)
      go_roundw
      case rel => exact ⟨j + 1, capA, _, outs ++ [xty], by omega, by go_num, by first | rfl | trivial, KA.drop (List.sublist_cons_self _ _)⟩
      case measure => simp [intOf]; omega
     ·obtain rfl : cn = j := by omega
      go_wp2_with fail
      go_meet
      exact ⟨_, _, _, _, rfl, by omega, H.pick [0, 3, 4, 5, 6] (by decide) rfl⟩
  case rest =>
   obtain ⟨j, cap, O, outs, rfl, hj, K4⟩ := hcut
   clear K3 F3
   have KZ := K4.sealRow 0 rfl
   simp only [List.set_cons_zero] at KZ
   have FZ := KZ.facts
   simp only [factsL, cellsF, Nat.reduceAdd, zf, zl] at FZ
   clear K4
   go_wp2_with fail
   refine (co_all d qB qm qd qwl IA (fn + 1) ic (fl ++ [⟨snm, false, ⟨cA, cn, cc, cl⟩, SlP.nil⟩]) tA tn tc tl _ (((KZ.ro 2 rfl).imp fun w2 h2 => (show ExsIn d qB qm qwl w2 from h2.2)).less zn) HQG.out.2.2.2 ((KZ.ro 3 rfl).less zn) ((KZ.ro 4 rfl).less zn) HIB.out HTB.out).mono ?_
   rintro e w4 ⟨cd, rfl, b4⟩
   have K5 := KZ.call b4
   have HR := hid ((K5.ro 0 rfl).less zm)
   have HB := hid K5.below
   clear KZ FZ b4 K5
   obtain ⟨z, hz⟩ : ∃ z : Bool, (cd != 0) = z := ⟨_, rfl⟩
   cases z
   ·go_wp2_with fail
    go_ret2
    exact ⟨O, j, cap, outs, _, rfl, hj, HR.out, HB.out⟩
   ·go_wp2_with fail
    go_ret2
    exact ⟨none, 0, 0, [], _, rfl, by omega, fun w2 _ _ => slr_nil 1 w2, HB.out⟩
end Go.Proofs.YtdkebcfkchhlmaaGreatDoor

namespace Go.Proofs.YtdkebcfkchhlmaaGreatDoor
open Go.RowKit
set_option linter.unusedVariables false
set_option linter.unusedSimpArgs false
/-- What ValidAction answers: a SET that it accepts has one assignment. -/
def ActRet (kind : Int) (sn : Nat) (w : World) (e : Ending) (w' : World) : Prop := ∃ b : Bool, e = .returned (.bool b) ∧ Below w.heap.size w w' ∧ (b = true → kind = 5 → sn = 1)
set_option maxHeartbeats 16000000 in
set_option maxRecDepth 100000 in
theorem vaction1 (d : Nat) (tab : ByteArray) (rA : Option Addr) (rn rc : Nat) (rl : List (SlP Ex)) (qA : Option Addr) (qn qc : Nat) (ql : List Qu) (sA : Option Addr) (sn sc : Nat) (sl : List Se) (hA : Option Addr) (hn hc : Nat) (hl : List Ex) (text : ByteArray) (w : World) (hx : Ro w None_ (AcIn d ⟨1, tab, ⟨rA, rn, rc, rl⟩, ⟨qA, qn, qc, ql⟩, ⟨sA, sn, sc, sl⟩, ⟨hA, hn, hc, hl⟩, text⟩)) (hg : AcGd d ⟨1, tab, ⟨rA, rn, rc, rl⟩, ⟨qA, qn, qc, ql⟩, ⟨sA, sn, sc, sl⟩, ⟨hA, hn, hc, hl⟩, text⟩) : Calls Tryz.prog 166 #[.agg #[.int .i64 1, .string tab, .slice rA rn rc, .slice qA qn qc, .slice sA sn sc, .slice hA hn hc, .string text]] w fun e w' => ActRet 1 sn w e w' := by
 have HHN := hid (show hn ≤ 1000 from by
  have h : hl.length = hn := ExsIn.len (show ExsIn d hA hn hl w from hx.now.2.2.2)
  have h2 : hl.length ≤ 1 := hg.h.2.1
  omega)
 have HSN := hid (show sn ≤ 1000 from by
  have h : sl.length = sn := SlP.In.len (s := ⟨sA, sn, sc, sl⟩) (k := 11) (cel := Se.cells) (P := SeIn d) hx.now.2.2.1 (by omega) (fun _ => rfl)
  have h2 : sl.length ≤ 8 := hg.s.2.1
  omega)
 have HRQ := hid (show rn ≤ 8 ∧ qn ≤ 1 from by
  have h1 : rl.length = rn := SlP.In.len (s := ⟨rA, rn, rc, rl⟩) (k := 1) (cel := fun r : SlP Ex => [r.v]) (P := fun r w => r.In 10 Ex.cells (ExIn d) w) hx.now.1 (by omega) (fun _ => rfl)
  have h2 : ql.length = qn := SlP.In.len (s := ⟨qA, qn, qc, ql⟩) (k := 4) (cel := Qu.cells) (P := QuIn d) hx.now.2.1 (by omega) (fun _ => rfl)
  have h3 : rl.length ≤ 8 := hg.r.2.1
  have h4 : ql.length ≤ 1 := hg.q.2.1
  omega)
 have HG := hid hg
 have K0 := ((Hold.start None_ w zn).add (hx.less (by simp [Mut]))).alloc_cst #[.int .i64 1, .string tab, .slice rA rn rc, .slice qA qn qc, .slice sA sn sc, .slice hA hn hc, .string text] 99
 obtain ⟨gx, hgx⟩ : ∃ g, g = w.heap.size := ⟨_, rfl⟩
 rw [← hgx] at K0
 have F0 := K0.facts
 simp only [factsL, cellsF, Nat.reduceAdd, zf, zl] at F0
 rw [hgx] at F0
 clear hx hg
 go_enter Tryz.func166, Tryz.ntmps166
 go_upto_region 1 with fail
 rw [← hgx] at F0 ⊢
 have HGX := hid hgx
 clear hgx
 generalize World.alloc _ _ = w1 at K0 F0 ⊢
 have HW := hid (fun (wv : World) (h : Hold None_ none w wv [.cst gx 99 #[.int .i64 1, .string tab, .slice rA rn rc, .slice qA qn qc, .slice sA sn sc, .slice hA hn hc, .string text], .ro (AcIn d ⟨1, tab, ⟨rA, rn, rc, rl⟩, ⟨qA, qn, qc, ql⟩, ⟨sA, sn, sc, sl⟩, ⟨hA, hn, hc, hl⟩, text⟩)]) => va_all d hA hn hc hl wv (((h.ro 1 rfl).imp fun w2 h2 => (show ExsIn d hA hn hl w2 from h2.2.2.2)).less zn) HG.out.h.2.2 HHN.out)
 have HI := hid (fun (wv : World) (h : Hold None_ none w wv [.cst gx 99 #[.int .i64 1, .string tab, .slice rA rn rc, .slice qA qn qc, .slice sA sn sc, .slice hA hn hc, .string text], .ro (AcIn d ⟨1, tab, ⟨rA, rn, rc, rl⟩, ⟨qA, qn, qc, ql⟩, ⟨sA, sn, sc, sl⟩, ⟨hA, hn, hc, hl⟩, text⟩)]) => vinsert_ret d ⟨1, tab, ⟨rA, rn, rc, rl⟩, ⟨qA, qn, qc, ql⟩, ⟨sA, sn, sc, sl⟩, ⟨hA, hn, hc, hl⟩, text⟩ wv ((h.ro 1 rfl).less zn) HG.out)
 have HS := hid (fun (wv : World) (h : Hold None_ none w wv [.cst gx 99 #[.int .i64 1, .string tab, .slice rA rn rc, .slice qA qn qc, .slice sA sn sc, .slice hA hn hc, .string text], .ro (AcIn d ⟨1, tab, ⟨rA, rn, rc, rl⟩, ⟨qA, qn, qc, ql⟩, ⟨sA, sn, sc, sl⟩, ⟨hA, hn, hc, hl⟩, text⟩)]) => vsets_ret d ⟨sA, sn, sc, sl⟩ wv (((h.ro 1 rfl).imp fun w2 h2 => h2.2.2.1).less zn) HG.out.s.2.2 HSN.out HG.out.s.1.1)
 go_cut [35] (fun v wx => ∃ bb : Bool, v = .bool bb ∧ Hold None_ none w wx [.cst gx 99 #[.int .i64 1, .string tab, .slice rA rn rc, .slice qA qn qc, .slice sA sn sc, .slice hA hn hc, .string text], .ro (AcIn d ⟨1, tab, ⟨rA, rn, rc, rl⟩, ⟨qA, qn, qc, ql⟩, ⟨sA, sn, sc, sl⟩, ⟨hA, hn, hc, hl⟩, text⟩)])
 case first =>
  obtain ⟨cs, hcs⟩ : ∃ z : Bool, decide ((0 : Int) < (sn : Int)) = z := ⟨_, rfl⟩
  have hcs2 : decide (0 < sn) = cs := by rw [← hcs]; simp
  obtain ⟨ch, hch⟩ : ∃ z : Bool, decide ((0 : Int) < (hn : Int)) = z := ⟨_, rfl⟩
  have hch2 : decide (0 < hn) = ch := by rw [← hch]; simp
  go_wp2_with (first
    | (go_at_call 163; go_must (refine (rvalidname_ret _ _).mono ?_); rintro e w1 ⟨r, rfl, b1⟩; replace K0 := K0.call b1; replace F0 := K0.facts; simp only [factsL, cellsF, Nat.reduceAdd, zf, zl] at F0; clear b1)
    | (go_at_call 184; go_must (refine (rvalid_ret _ _ _ _).mono ?_); rintro e w1 ⟨r, rfl, b1⟩; replace K0 := K0.call b1; replace F0 := K0.facts; simp only [factsL, cellsF, Nat.reduceAdd, zf, zl] at F0; clear b1)
    | (go_at_call 165; go_must (refine (HW.out _ K0).mono ?_); rintro e w1 ⟨r, rfl, b1⟩; replace K0 := K0.call b1; replace F0 := K0.facts; simp only [factsL, cellsF, Nat.reduceAdd, zf, zl] at F0; clear b1)
    | (go_at_call 210; go_must (refine (HI.out _ K0).mono ?_); rintro e w1 ⟨r, rfl, b1⟩; replace K0 := K0.call b1; replace F0 := K0.facts; simp only [factsL, cellsF, Nat.reduceAdd, zf, zl] at F0; clear b1)
    | (go_at_call 211; go_must (refine (HS.out _ K0).mono ?_); rintro e w1 ⟨r, rfl, b1⟩; replace K0 := K0.call b1; replace F0 := K0.facts; simp only [factsL, cellsF, Nat.reduceAdd, zf, zl] at F0; clear b1))
  all_goals (go_meet; exact ⟨_, rfl, K0⟩)
 case rest =>
  obtain ⟨bb, rfl, K1⟩ := hcut
  clear K0 F0
  have K0 := K1
  clear K1
  have F0 := K0.facts
  simp only [factsL, cellsF, Nat.reduceAdd, zf, zl] at F0
  cases bb
  ·go_upto_region 3 with fail
   go_cut [80] (fun v wx => ∃ bb : Bool, v = .bool bb ∧ Hold None_ none w wx [.cst gx 99 #[.int .i64 1, .string tab, .slice rA rn rc, .slice qA qn qc, .slice sA sn sc, .slice hA hn hc, .string text], .ro (AcIn d ⟨1, tab, ⟨rA, rn, rc, rl⟩, ⟨qA, qn, qc, ql⟩, ⟨sA, sn, sc, sl⟩, ⟨hA, hn, hc, hl⟩, text⟩)])
   case first =>
    obtain ⟨cs, hcs⟩ : ∃ z : Bool, decide ((0 : Int) < (sn : Int)) = z := ⟨_, rfl⟩
    have hcs2 : decide (0 < sn) = cs := by rw [← hcs]; simp
    obtain ⟨ch, hch⟩ : ∃ z : Bool, decide ((0 : Int) < (hn : Int)) = z := ⟨_, rfl⟩
    have hch2 : decide (0 < hn) = ch := by rw [← hch]; simp
    go_wp2_with (first
      | (go_at_call 163; go_must (refine (rvalidname_ret _ _).mono ?_); rintro e w1 ⟨r, rfl, b1⟩; replace K0 := K0.call b1; replace F0 := K0.facts; simp only [factsL, cellsF, Nat.reduceAdd, zf, zl] at F0; clear b1)
      | (go_at_call 184; go_must (refine (rvalid_ret _ _ _ _).mono ?_); rintro e w1 ⟨r, rfl, b1⟩; replace K0 := K0.call b1; replace F0 := K0.facts; simp only [factsL, cellsF, Nat.reduceAdd, zf, zl] at F0; clear b1)
      | (go_at_call 165; go_must (refine (HW.out _ K0).mono ?_); rintro e w1 ⟨r, rfl, b1⟩; replace K0 := K0.call b1; replace F0 := K0.facts; simp only [factsL, cellsF, Nat.reduceAdd, zf, zl] at F0; clear b1)
      | (go_at_call 210; go_must (refine (HI.out _ K0).mono ?_); rintro e w1 ⟨r, rfl, b1⟩; replace K0 := K0.call b1; replace F0 := K0.facts; simp only [factsL, cellsF, Nat.reduceAdd, zf, zl] at F0; clear b1)
      | (go_at_call 211; go_must (refine (HS.out _ K0).mono ?_); rintro e w1 ⟨r, rfl, b1⟩; replace K0 := K0.call b1; replace F0 := K0.facts; simp only [factsL, cellsF, Nat.reduceAdd, zf, zl] at F0; clear b1))
    all_goals (go_meet; exact ⟨_, rfl, K0⟩)
   case rest =>
    obtain ⟨bb, rfl, K1⟩ := hcut
    clear K0 F0
    have K0 := K1
    clear K1
    have F0 := K0.facts
    simp only [factsL, cellsF, Nat.reduceAdd, zf, zl] at F0
    cases bb
    ·go_upto_region 5 with fail
     go_cut [90] (fun v wx => ∃ bb : Bool, v = .bool bb ∧ Hold None_ none w wx [.cst gx 99 #[.int .i64 1, .string tab, .slice rA rn rc, .slice qA qn qc, .slice sA sn sc, .slice hA hn hc, .string text], .ro (AcIn d ⟨1, tab, ⟨rA, rn, rc, rl⟩, ⟨qA, qn, qc, ql⟩, ⟨sA, sn, sc, sl⟩, ⟨hA, hn, hc, hl⟩, text⟩)])
     case first =>
      obtain ⟨cs, hcs⟩ : ∃ z : Bool, decide ((0 : Int) < (sn : Int)) = z := ⟨_, rfl⟩
      have hcs2 : decide (0 < sn) = cs := by rw [← hcs]; simp
      obtain ⟨ch, hch⟩ : ∃ z : Bool, decide ((0 : Int) < (hn : Int)) = z := ⟨_, rfl⟩
      have hch2 : decide (0 < hn) = ch := by rw [← hch]; simp
      go_wp2_with (first
        | (go_at_call 163; go_must (refine (rvalidname_ret _ _).mono ?_); rintro e w1 ⟨r, rfl, b1⟩; replace K0 := K0.call b1; replace F0 := K0.facts; simp only [factsL, cellsF, Nat.reduceAdd, zf, zl] at F0; clear b1)
        | (go_at_call 184; go_must (refine (rvalid_ret _ _ _ _).mono ?_); rintro e w1 ⟨r, rfl, b1⟩; replace K0 := K0.call b1; replace F0 := K0.facts; simp only [factsL, cellsF, Nat.reduceAdd, zf, zl] at F0; clear b1)
        | (go_at_call 165; go_must (refine (HW.out _ K0).mono ?_); rintro e w1 ⟨r, rfl, b1⟩; replace K0 := K0.call b1; replace F0 := K0.facts; simp only [factsL, cellsF, Nat.reduceAdd, zf, zl] at F0; clear b1)
        | (go_at_call 210; go_must (refine (HI.out _ K0).mono ?_); rintro e w1 ⟨r, rfl, b1⟩; replace K0 := K0.call b1; replace F0 := K0.facts; simp only [factsL, cellsF, Nat.reduceAdd, zf, zl] at F0; clear b1)
        | (go_at_call 211; go_must (refine (HS.out _ K0).mono ?_); rintro e w1 ⟨r, rfl, b1⟩; replace K0 := K0.call b1; replace F0 := K0.facts; simp only [factsL, cellsF, Nat.reduceAdd, zf, zl] at F0; clear b1))
      all_goals (go_meet; exact ⟨_, rfl, K0⟩)
     case rest =>
      obtain ⟨bb, rfl, K1⟩ := hcut
      clear K0 F0
      have K0 := K1
      clear K1
      have F0 := K0.facts
      simp only [factsL, cellsF, Nat.reduceAdd, zf, zl] at F0
      cases bb
      ·go_wp2_with (first
         | (go_at_call 163; go_must (refine (rvalidname_ret _ _).mono ?_); rintro e w1 ⟨r, rfl, b1⟩; replace K0 := K0.call b1; replace F0 := K0.facts; simp only [factsL, cellsF, Nat.reduceAdd, zf, zl] at F0; clear b1)
         | (go_at_call 184; go_must (refine (rvalid_ret _ _ _ _).mono ?_); rintro e w1 ⟨r, rfl, b1⟩; replace K0 := K0.call b1; replace F0 := K0.facts; simp only [factsL, cellsF, Nat.reduceAdd, zf, zl] at F0; clear b1)
         | (go_at_call 165; go_must (refine (HW.out _ K0).mono ?_); rintro e w1 ⟨r, rfl, b1⟩; replace K0 := K0.call b1; replace F0 := K0.facts; simp only [factsL, cellsF, Nat.reduceAdd, zf, zl] at F0; clear b1)
         | (go_at_call 210; go_must (refine (HI.out _ K0).mono ?_); rintro e w1 ⟨r, rfl, b1⟩; replace K0 := K0.call b1; replace F0 := K0.facts; simp only [factsL, cellsF, Nat.reduceAdd, zf, zl] at F0; clear b1)
         | (go_at_call 211; go_must (refine (HS.out _ K0).mono ?_); rintro e w1 ⟨r, rfl, b1⟩; replace K0 := K0.call b1; replace F0 := K0.facts; simp only [factsL, cellsF, Nat.reduceAdd, zf, zl] at F0; clear b1))
       all_goals (go_ret; exact ⟨_, rfl, K0.below, fun _ h => absurd h (by decide)⟩)
      ·go_wp2_with fail
       all_goals (go_ret; exact ⟨_, rfl, K0.below, fun _ h => absurd h (by decide)⟩)
    ·go_wp2_with fail
     all_goals (go_ret; exact ⟨_, rfl, K0.below, fun _ h => absurd h (by decide)⟩)
  ·go_wp2_with fail
   all_goals (go_ret; exact ⟨_, rfl, K0.below, fun _ h => absurd h (by decide)⟩)
end Go.Proofs.YtdkebcfkchhlmaaGreatDoor

namespace Go.Proofs.YtdkebcfkchhlmaaGreatDoor
open Go.RowKit
set_option linter.unusedVariables false
set_option linter.unusedSimpArgs false
set_option maxHeartbeats 16000000 in
set_option maxRecDepth 100000 in
theorem vaction2 (d : Nat) (tab : ByteArray) (rA : Option Addr) (rn rc : Nat) (rl : List (SlP Ex)) (qA : Option Addr) (qn qc : Nat) (ql : List Qu) (sA : Option Addr) (sn sc : Nat) (sl : List Se) (hA : Option Addr) (hn hc : Nat) (hl : List Ex) (text : ByteArray) (w : World) (hx : Ro w None_ (AcIn d ⟨2, tab, ⟨rA, rn, rc, rl⟩, ⟨qA, qn, qc, ql⟩, ⟨sA, sn, sc, sl⟩, ⟨hA, hn, hc, hl⟩, text⟩)) (hg : AcGd d ⟨2, tab, ⟨rA, rn, rc, rl⟩, ⟨qA, qn, qc, ql⟩, ⟨sA, sn, sc, sl⟩, ⟨hA, hn, hc, hl⟩, text⟩) : Calls Tryz.prog 166 #[.agg #[.int .i64 2, .string tab, .slice rA rn rc, .slice qA qn qc, .slice sA sn sc, .slice hA hn hc, .string text]] w fun e w' => ActRet 2 sn w e w' := by
 have HHN := hid (show hn ≤ 1000 from by
  have h : hl.length = hn := ExsIn.len (show ExsIn d hA hn hl w from hx.now.2.2.2)
  have h2 : hl.length ≤ 1 := hg.h.2.1
  omega)
 have HSN := hid (show sn ≤ 1000 from by
  have h : sl.length = sn := SlP.In.len (s := ⟨sA, sn, sc, sl⟩) (k := 11) (cel := Se.cells) (P := SeIn d) hx.now.2.2.1 (by omega) (fun _ => rfl)
  have h2 : sl.length ≤ 8 := hg.s.2.1
  omega)
 have HRQ := hid (show rn ≤ 8 ∧ qn ≤ 1 from by
  have h1 : rl.length = rn := SlP.In.len (s := ⟨rA, rn, rc, rl⟩) (k := 1) (cel := fun r : SlP Ex => [r.v]) (P := fun r w => r.In 10 Ex.cells (ExIn d) w) hx.now.1 (by omega) (fun _ => rfl)
  have h2 : ql.length = qn := SlP.In.len (s := ⟨qA, qn, qc, ql⟩) (k := 4) (cel := Qu.cells) (P := QuIn d) hx.now.2.1 (by omega) (fun _ => rfl)
  have h3 : rl.length ≤ 8 := hg.r.2.1
  have h4 : ql.length ≤ 1 := hg.q.2.1
  omega)
 have HG := hid hg
 have K0 := ((Hold.start None_ w zn).add (hx.less (by simp [Mut]))).alloc_cst #[.int .i64 2, .string tab, .slice rA rn rc, .slice qA qn qc, .slice sA sn sc, .slice hA hn hc, .string text] 99
 obtain ⟨gx, hgx⟩ : ∃ g, g = w.heap.size := ⟨_, rfl⟩
 rw [← hgx] at K0
 have F0 := K0.facts
 simp only [factsL, cellsF, Nat.reduceAdd, zf, zl] at F0
 rw [hgx] at F0
 clear hx hg
 go_enter Tryz.func166, Tryz.ntmps166
 go_upto_region 1 with fail
 rw [← hgx] at F0 ⊢
 have HGX := hid hgx
 clear hgx
 generalize World.alloc _ _ = w1 at K0 F0 ⊢
 have HW := hid (fun (wv : World) (h : Hold None_ none w wv [.cst gx 99 #[.int .i64 2, .string tab, .slice rA rn rc, .slice qA qn qc, .slice sA sn sc, .slice hA hn hc, .string text], .ro (AcIn d ⟨2, tab, ⟨rA, rn, rc, rl⟩, ⟨qA, qn, qc, ql⟩, ⟨sA, sn, sc, sl⟩, ⟨hA, hn, hc, hl⟩, text⟩)]) => va_all d hA hn hc hl wv (((h.ro 1 rfl).imp fun w2 h2 => (show ExsIn d hA hn hl w2 from h2.2.2.2)).less zn) HG.out.h.2.2 HHN.out)
 have HI := hid (fun (wv : World) (h : Hold None_ none w wv [.cst gx 99 #[.int .i64 2, .string tab, .slice rA rn rc, .slice qA qn qc, .slice sA sn sc, .slice hA hn hc, .string text], .ro (AcIn d ⟨2, tab, ⟨rA, rn, rc, rl⟩, ⟨qA, qn, qc, ql⟩, ⟨sA, sn, sc, sl⟩, ⟨hA, hn, hc, hl⟩, text⟩)]) => vinsert_ret d ⟨2, tab, ⟨rA, rn, rc, rl⟩, ⟨qA, qn, qc, ql⟩, ⟨sA, sn, sc, sl⟩, ⟨hA, hn, hc, hl⟩, text⟩ wv ((h.ro 1 rfl).less zn) HG.out)
 have HS := hid (fun (wv : World) (h : Hold None_ none w wv [.cst gx 99 #[.int .i64 2, .string tab, .slice rA rn rc, .slice qA qn qc, .slice sA sn sc, .slice hA hn hc, .string text], .ro (AcIn d ⟨2, tab, ⟨rA, rn, rc, rl⟩, ⟨qA, qn, qc, ql⟩, ⟨sA, sn, sc, sl⟩, ⟨hA, hn, hc, hl⟩, text⟩)]) => vsets_ret d ⟨sA, sn, sc, sl⟩ wv (((h.ro 1 rfl).imp fun w2 h2 => h2.2.2.1).less zn) HG.out.s.2.2 HSN.out HG.out.s.1.1)
 go_cut [35] (fun v wx => ∃ bb : Bool, v = .bool bb ∧ Hold None_ none w wx [.cst gx 99 #[.int .i64 2, .string tab, .slice rA rn rc, .slice qA qn qc, .slice sA sn sc, .slice hA hn hc, .string text], .ro (AcIn d ⟨2, tab, ⟨rA, rn, rc, rl⟩, ⟨qA, qn, qc, ql⟩, ⟨sA, sn, sc, sl⟩, ⟨hA, hn, hc, hl⟩, text⟩)])
 case first =>
  have hw0 : IntKind.i64.wrap ((rn : Int) + (qn : Int)) = (rn : Int) + (qn : Int) := IntWalk.i64_in _ (by have := HRQ.out; omega)
  obtain ⟨cr, hcr⟩ : ∃ z : Bool, decide ((0 : Int) < (rn : Int) + (qn : Int)) = z := ⟨_, rfl⟩
  obtain ⟨cs, hcs⟩ : ∃ z : Bool, decide ((0 : Int) < (sn : Int)) = z := ⟨_, rfl⟩
  have hcs2 : decide (0 < sn) = cs := by rw [← hcs]; simp
  obtain ⟨ch, hch⟩ : ∃ z : Bool, decide ((0 : Int) < (hn : Int)) = z := ⟨_, rfl⟩
  have hch2 : decide (0 < hn) = ch := by rw [← hch]; simp
  go_wp2_with (first
    | (go_at_call 163; go_must (refine (rvalidname_ret _ _).mono ?_); rintro e w1 ⟨r, rfl, b1⟩; replace K0 := K0.call b1; replace F0 := K0.facts; simp only [factsL, cellsF, Nat.reduceAdd, zf, zl] at F0; clear b1)
    | (go_at_call 184; go_must (refine (rvalid_ret _ _ _ _).mono ?_); rintro e w1 ⟨r, rfl, b1⟩; replace K0 := K0.call b1; replace F0 := K0.facts; simp only [factsL, cellsF, Nat.reduceAdd, zf, zl] at F0; clear b1)
    | (go_at_call 165; go_must (refine (HW.out _ K0).mono ?_); rintro e w1 ⟨r, rfl, b1⟩; replace K0 := K0.call b1; replace F0 := K0.facts; simp only [factsL, cellsF, Nat.reduceAdd, zf, zl] at F0; clear b1)
    | (go_at_call 210; go_must (refine (HI.out _ K0).mono ?_); rintro e w1 ⟨r, rfl, b1⟩; replace K0 := K0.call b1; replace F0 := K0.facts; simp only [factsL, cellsF, Nat.reduceAdd, zf, zl] at F0; clear b1)
    | (go_at_call 211; go_must (refine (HS.out _ K0).mono ?_); rintro e w1 ⟨r, rfl, b1⟩; replace K0 := K0.call b1; replace F0 := K0.facts; simp only [factsL, cellsF, Nat.reduceAdd, zf, zl] at F0; clear b1))
  all_goals (go_meet; exact ⟨_, rfl, K0⟩)
 case rest =>
  obtain ⟨bb, rfl, K1⟩ := hcut
  clear K0 F0
  have K0 := K1
  clear K1
  have F0 := K0.facts
  simp only [factsL, cellsF, Nat.reduceAdd, zf, zl] at F0
  cases bb
  ·go_upto_region 3 with fail
   go_cut [80] (fun v wx => ∃ bb : Bool, v = .bool bb ∧ Hold None_ none w wx [.cst gx 99 #[.int .i64 2, .string tab, .slice rA rn rc, .slice qA qn qc, .slice sA sn sc, .slice hA hn hc, .string text], .ro (AcIn d ⟨2, tab, ⟨rA, rn, rc, rl⟩, ⟨qA, qn, qc, ql⟩, ⟨sA, sn, sc, sl⟩, ⟨hA, hn, hc, hl⟩, text⟩)])
   case first =>
    have hw0 : IntKind.i64.wrap ((rn : Int) + (qn : Int)) = (rn : Int) + (qn : Int) := IntWalk.i64_in _ (by have := HRQ.out; omega)
    obtain ⟨cr, hcr⟩ : ∃ z : Bool, decide ((0 : Int) < (rn : Int) + (qn : Int)) = z := ⟨_, rfl⟩
    obtain ⟨cs, hcs⟩ : ∃ z : Bool, decide ((0 : Int) < (sn : Int)) = z := ⟨_, rfl⟩
    have hcs2 : decide (0 < sn) = cs := by rw [← hcs]; simp
    obtain ⟨ch, hch⟩ : ∃ z : Bool, decide ((0 : Int) < (hn : Int)) = z := ⟨_, rfl⟩
    have hch2 : decide (0 < hn) = ch := by rw [← hch]; simp
    go_wp2_with (first
      | (go_at_call 163; go_must (refine (rvalidname_ret _ _).mono ?_); rintro e w1 ⟨r, rfl, b1⟩; replace K0 := K0.call b1; replace F0 := K0.facts; simp only [factsL, cellsF, Nat.reduceAdd, zf, zl] at F0; clear b1)
      | (go_at_call 184; go_must (refine (rvalid_ret _ _ _ _).mono ?_); rintro e w1 ⟨r, rfl, b1⟩; replace K0 := K0.call b1; replace F0 := K0.facts; simp only [factsL, cellsF, Nat.reduceAdd, zf, zl] at F0; clear b1)
      | (go_at_call 165; go_must (refine (HW.out _ K0).mono ?_); rintro e w1 ⟨r, rfl, b1⟩; replace K0 := K0.call b1; replace F0 := K0.facts; simp only [factsL, cellsF, Nat.reduceAdd, zf, zl] at F0; clear b1)
      | (go_at_call 210; go_must (refine (HI.out _ K0).mono ?_); rintro e w1 ⟨r, rfl, b1⟩; replace K0 := K0.call b1; replace F0 := K0.facts; simp only [factsL, cellsF, Nat.reduceAdd, zf, zl] at F0; clear b1)
      | (go_at_call 211; go_must (refine (HS.out _ K0).mono ?_); rintro e w1 ⟨r, rfl, b1⟩; replace K0 := K0.call b1; replace F0 := K0.facts; simp only [factsL, cellsF, Nat.reduceAdd, zf, zl] at F0; clear b1))
    all_goals (go_meet; exact ⟨_, rfl, K0⟩)
   case rest =>
    obtain ⟨bb, rfl, K1⟩ := hcut
    clear K0 F0
    have K0 := K1
    clear K1
    have F0 := K0.facts
    simp only [factsL, cellsF, Nat.reduceAdd, zf, zl] at F0
    cases bb
    ·go_upto_region 5 with fail
     go_cut [90] (fun v wx => ∃ bb : Bool, v = .bool bb ∧ Hold None_ none w wx [.cst gx 99 #[.int .i64 2, .string tab, .slice rA rn rc, .slice qA qn qc, .slice sA sn sc, .slice hA hn hc, .string text], .ro (AcIn d ⟨2, tab, ⟨rA, rn, rc, rl⟩, ⟨qA, qn, qc, ql⟩, ⟨sA, sn, sc, sl⟩, ⟨hA, hn, hc, hl⟩, text⟩)])
     case first =>
      have hw0 : IntKind.i64.wrap ((rn : Int) + (qn : Int)) = (rn : Int) + (qn : Int) := IntWalk.i64_in _ (by have := HRQ.out; omega)
      obtain ⟨cr, hcr⟩ : ∃ z : Bool, decide ((0 : Int) < (rn : Int) + (qn : Int)) = z := ⟨_, rfl⟩
      obtain ⟨cs, hcs⟩ : ∃ z : Bool, decide ((0 : Int) < (sn : Int)) = z := ⟨_, rfl⟩
      have hcs2 : decide (0 < sn) = cs := by rw [← hcs]; simp
      obtain ⟨ch, hch⟩ : ∃ z : Bool, decide ((0 : Int) < (hn : Int)) = z := ⟨_, rfl⟩
      have hch2 : decide (0 < hn) = ch := by rw [← hch]; simp
      go_wp2_with (first
        | (go_at_call 163; go_must (refine (rvalidname_ret _ _).mono ?_); rintro e w1 ⟨r, rfl, b1⟩; replace K0 := K0.call b1; replace F0 := K0.facts; simp only [factsL, cellsF, Nat.reduceAdd, zf, zl] at F0; clear b1)
        | (go_at_call 184; go_must (refine (rvalid_ret _ _ _ _).mono ?_); rintro e w1 ⟨r, rfl, b1⟩; replace K0 := K0.call b1; replace F0 := K0.facts; simp only [factsL, cellsF, Nat.reduceAdd, zf, zl] at F0; clear b1)
        | (go_at_call 165; go_must (refine (HW.out _ K0).mono ?_); rintro e w1 ⟨r, rfl, b1⟩; replace K0 := K0.call b1; replace F0 := K0.facts; simp only [factsL, cellsF, Nat.reduceAdd, zf, zl] at F0; clear b1)
        | (go_at_call 210; go_must (refine (HI.out _ K0).mono ?_); rintro e w1 ⟨r, rfl, b1⟩; replace K0 := K0.call b1; replace F0 := K0.facts; simp only [factsL, cellsF, Nat.reduceAdd, zf, zl] at F0; clear b1)
        | (go_at_call 211; go_must (refine (HS.out _ K0).mono ?_); rintro e w1 ⟨r, rfl, b1⟩; replace K0 := K0.call b1; replace F0 := K0.facts; simp only [factsL, cellsF, Nat.reduceAdd, zf, zl] at F0; clear b1))
      all_goals (go_meet; exact ⟨_, rfl, K0⟩)
     case rest =>
      obtain ⟨bb, rfl, K1⟩ := hcut
      clear K0 F0
      have K0 := K1
      clear K1
      have F0 := K0.facts
      simp only [factsL, cellsF, Nat.reduceAdd, zf, zl] at F0
      cases bb
      ·go_wp2_with (first
         | (go_at_call 163; go_must (refine (rvalidname_ret _ _).mono ?_); rintro e w1 ⟨r, rfl, b1⟩; replace K0 := K0.call b1; replace F0 := K0.facts; simp only [factsL, cellsF, Nat.reduceAdd, zf, zl] at F0; clear b1)
         | (go_at_call 184; go_must (refine (rvalid_ret _ _ _ _).mono ?_); rintro e w1 ⟨r, rfl, b1⟩; replace K0 := K0.call b1; replace F0 := K0.facts; simp only [factsL, cellsF, Nat.reduceAdd, zf, zl] at F0; clear b1)
         | (go_at_call 165; go_must (refine (HW.out _ K0).mono ?_); rintro e w1 ⟨r, rfl, b1⟩; replace K0 := K0.call b1; replace F0 := K0.facts; simp only [factsL, cellsF, Nat.reduceAdd, zf, zl] at F0; clear b1)
         | (go_at_call 210; go_must (refine (HI.out _ K0).mono ?_); rintro e w1 ⟨r, rfl, b1⟩; replace K0 := K0.call b1; replace F0 := K0.facts; simp only [factsL, cellsF, Nat.reduceAdd, zf, zl] at F0; clear b1)
         | (go_at_call 211; go_must (refine (HS.out _ K0).mono ?_); rintro e w1 ⟨r, rfl, b1⟩; replace K0 := K0.call b1; replace F0 := K0.facts; simp only [factsL, cellsF, Nat.reduceAdd, zf, zl] at F0; clear b1))
       all_goals (go_ret; exact ⟨_, rfl, K0.below, fun _ h => absurd h (by decide)⟩)
      ·go_wp2_with fail
       all_goals (go_ret; exact ⟨_, rfl, K0.below, fun _ h => absurd h (by decide)⟩)
    ·go_wp2_with fail
     all_goals (go_ret; exact ⟨_, rfl, K0.below, fun _ h => absurd h (by decide)⟩)
  ·go_wp2_with fail
   all_goals (go_ret; exact ⟨_, rfl, K0.below, fun _ h => absurd h (by decide)⟩)
end Go.Proofs.YtdkebcfkchhlmaaGreatDoor

namespace Go.Proofs.YtdkebcfkchhlmaaGreatDoor
open Go.RowKit
set_option linter.unusedVariables false
set_option linter.unusedSimpArgs false
set_option maxHeartbeats 16000000 in
set_option maxRecDepth 100000 in
theorem vaction3 (d : Nat) (tab : ByteArray) (rA : Option Addr) (rn rc : Nat) (rl : List (SlP Ex)) (qA : Option Addr) (qn qc : Nat) (ql : List Qu) (sA : Option Addr) (sn sc : Nat) (sl : List Se) (hA : Option Addr) (hn hc : Nat) (hl : List Ex) (text : ByteArray) (w : World) (hx : Ro w None_ (AcIn d ⟨3, tab, ⟨rA, rn, rc, rl⟩, ⟨qA, qn, qc, ql⟩, ⟨sA, sn, sc, sl⟩, ⟨hA, hn, hc, hl⟩, text⟩)) (hg : AcGd d ⟨3, tab, ⟨rA, rn, rc, rl⟩, ⟨qA, qn, qc, ql⟩, ⟨sA, sn, sc, sl⟩, ⟨hA, hn, hc, hl⟩, text⟩) : Calls Tryz.prog 166 #[.agg #[.int .i64 3, .string tab, .slice rA rn rc, .slice qA qn qc, .slice sA sn sc, .slice hA hn hc, .string text]] w fun e w' => ActRet 3 sn w e w' := by
 have HHN := hid (show hn ≤ 1000 from by
  have h : hl.length = hn := ExsIn.len (show ExsIn d hA hn hl w from hx.now.2.2.2)
  have h2 : hl.length ≤ 1 := hg.h.2.1
  omega)
 have HSN := hid (show sn ≤ 1000 from by
  have h : sl.length = sn := SlP.In.len (s := ⟨sA, sn, sc, sl⟩) (k := 11) (cel := Se.cells) (P := SeIn d) hx.now.2.2.1 (by omega) (fun _ => rfl)
  have h2 : sl.length ≤ 8 := hg.s.2.1
  omega)
 have HRQ := hid (show rn ≤ 8 ∧ qn ≤ 1 from by
  have h1 : rl.length = rn := SlP.In.len (s := ⟨rA, rn, rc, rl⟩) (k := 1) (cel := fun r : SlP Ex => [r.v]) (P := fun r w => r.In 10 Ex.cells (ExIn d) w) hx.now.1 (by omega) (fun _ => rfl)
  have h2 : ql.length = qn := SlP.In.len (s := ⟨qA, qn, qc, ql⟩) (k := 4) (cel := Qu.cells) (P := QuIn d) hx.now.2.1 (by omega) (fun _ => rfl)
  have h3 : rl.length ≤ 8 := hg.r.2.1
  have h4 : ql.length ≤ 1 := hg.q.2.1
  omega)
 have HG := hid hg
 have K0 := ((Hold.start None_ w zn).add (hx.less (by simp [Mut]))).alloc_cst #[.int .i64 3, .string tab, .slice rA rn rc, .slice qA qn qc, .slice sA sn sc, .slice hA hn hc, .string text] 99
 obtain ⟨gx, hgx⟩ : ∃ g, g = w.heap.size := ⟨_, rfl⟩
 rw [← hgx] at K0
 have F0 := K0.facts
 simp only [factsL, cellsF, Nat.reduceAdd, zf, zl] at F0
 rw [hgx] at F0
 clear hx hg
 go_enter Tryz.func166, Tryz.ntmps166
 go_upto_region 1 with fail
 rw [← hgx] at F0 ⊢
 have HGX := hid hgx
 clear hgx
 generalize World.alloc _ _ = w1 at K0 F0 ⊢
 have HW := hid (fun (wv : World) (h : Hold None_ none w wv [.cst gx 99 #[.int .i64 3, .string tab, .slice rA rn rc, .slice qA qn qc, .slice sA sn sc, .slice hA hn hc, .string text], .ro (AcIn d ⟨3, tab, ⟨rA, rn, rc, rl⟩, ⟨qA, qn, qc, ql⟩, ⟨sA, sn, sc, sl⟩, ⟨hA, hn, hc, hl⟩, text⟩)]) => va_all d hA hn hc hl wv (((h.ro 1 rfl).imp fun w2 h2 => (show ExsIn d hA hn hl w2 from h2.2.2.2)).less zn) HG.out.h.2.2 HHN.out)
 have HI := hid (fun (wv : World) (h : Hold None_ none w wv [.cst gx 99 #[.int .i64 3, .string tab, .slice rA rn rc, .slice qA qn qc, .slice sA sn sc, .slice hA hn hc, .string text], .ro (AcIn d ⟨3, tab, ⟨rA, rn, rc, rl⟩, ⟨qA, qn, qc, ql⟩, ⟨sA, sn, sc, sl⟩, ⟨hA, hn, hc, hl⟩, text⟩)]) => vinsert_ret d ⟨3, tab, ⟨rA, rn, rc, rl⟩, ⟨qA, qn, qc, ql⟩, ⟨sA, sn, sc, sl⟩, ⟨hA, hn, hc, hl⟩, text⟩ wv ((h.ro 1 rfl).less zn) HG.out)
 have HS := hid (fun (wv : World) (h : Hold None_ none w wv [.cst gx 99 #[.int .i64 3, .string tab, .slice rA rn rc, .slice qA qn qc, .slice sA sn sc, .slice hA hn hc, .string text], .ro (AcIn d ⟨3, tab, ⟨rA, rn, rc, rl⟩, ⟨qA, qn, qc, ql⟩, ⟨sA, sn, sc, sl⟩, ⟨hA, hn, hc, hl⟩, text⟩)]) => vsets_ret d ⟨sA, sn, sc, sl⟩ wv (((h.ro 1 rfl).imp fun w2 h2 => h2.2.2.1).less zn) HG.out.s.2.2 HSN.out HG.out.s.1.1)
 go_cut [35] (fun v wx => ∃ bb : Bool, v = .bool bb ∧ Hold None_ none w wx [.cst gx 99 #[.int .i64 3, .string tab, .slice rA rn rc, .slice qA qn qc, .slice sA sn sc, .slice hA hn hc, .string text], .ro (AcIn d ⟨3, tab, ⟨rA, rn, rc, rl⟩, ⟨qA, qn, qc, ql⟩, ⟨sA, sn, sc, sl⟩, ⟨hA, hn, hc, hl⟩, text⟩)])
 case first =>
  have hw0 : IntKind.i64.wrap ((rn : Int) + (qn : Int)) = (rn : Int) + (qn : Int) := IntWalk.i64_in _ (by have := HRQ.out; omega)
  obtain ⟨cr, hcr⟩ : ∃ z : Bool, decide ((0 : Int) < (rn : Int) + (qn : Int)) = z := ⟨_, rfl⟩
  obtain ⟨cs, hcs⟩ : ∃ z : Bool, decide ((0 : Int) < (sn : Int)) = z := ⟨_, rfl⟩
  have hcs2 : decide (0 < sn) = cs := by rw [← hcs]; simp
  obtain ⟨ch, hch⟩ : ∃ z : Bool, decide ((0 : Int) < (hn : Int)) = z := ⟨_, rfl⟩
  have hch2 : decide (0 < hn) = ch := by rw [← hch]; simp
  go_wp2_with (first
    | (go_at_call 163; go_must (refine (rvalidname_ret _ _).mono ?_); rintro e w1 ⟨r, rfl, b1⟩; replace K0 := K0.call b1; replace F0 := K0.facts; simp only [factsL, cellsF, Nat.reduceAdd, zf, zl] at F0; clear b1)
    | (go_at_call 184; go_must (refine (rvalid_ret _ _ _ _).mono ?_); rintro e w1 ⟨r, rfl, b1⟩; replace K0 := K0.call b1; replace F0 := K0.facts; simp only [factsL, cellsF, Nat.reduceAdd, zf, zl] at F0; clear b1)
    | (go_at_call 165; go_must (refine (HW.out _ K0).mono ?_); rintro e w1 ⟨r, rfl, b1⟩; replace K0 := K0.call b1; replace F0 := K0.facts; simp only [factsL, cellsF, Nat.reduceAdd, zf, zl] at F0; clear b1)
    | (go_at_call 210; go_must (refine (HI.out _ K0).mono ?_); rintro e w1 ⟨r, rfl, b1⟩; replace K0 := K0.call b1; replace F0 := K0.facts; simp only [factsL, cellsF, Nat.reduceAdd, zf, zl] at F0; clear b1)
    | (go_at_call 211; go_must (refine (HS.out _ K0).mono ?_); rintro e w1 ⟨r, rfl, b1⟩; replace K0 := K0.call b1; replace F0 := K0.facts; simp only [factsL, cellsF, Nat.reduceAdd, zf, zl] at F0; clear b1))
  all_goals (go_meet; exact ⟨_, rfl, K0⟩)
 case rest =>
  obtain ⟨bb, rfl, K1⟩ := hcut
  clear K0 F0
  have K0 := K1
  clear K1
  have F0 := K0.facts
  simp only [factsL, cellsF, Nat.reduceAdd, zf, zl] at F0
  cases bb
  ·go_upto_region 3 with fail
   go_cut [80] (fun v wx => ∃ bb : Bool, v = .bool bb ∧ Hold None_ none w wx [.cst gx 99 #[.int .i64 3, .string tab, .slice rA rn rc, .slice qA qn qc, .slice sA sn sc, .slice hA hn hc, .string text], .ro (AcIn d ⟨3, tab, ⟨rA, rn, rc, rl⟩, ⟨qA, qn, qc, ql⟩, ⟨sA, sn, sc, sl⟩, ⟨hA, hn, hc, hl⟩, text⟩)])
   case first =>
    have hw0 : IntKind.i64.wrap ((rn : Int) + (qn : Int)) = (rn : Int) + (qn : Int) := IntWalk.i64_in _ (by have := HRQ.out; omega)
    obtain ⟨cr, hcr⟩ : ∃ z : Bool, decide ((0 : Int) < (rn : Int) + (qn : Int)) = z := ⟨_, rfl⟩
    obtain ⟨cs, hcs⟩ : ∃ z : Bool, decide ((0 : Int) < (sn : Int)) = z := ⟨_, rfl⟩
    have hcs2 : decide (0 < sn) = cs := by rw [← hcs]; simp
    obtain ⟨ch, hch⟩ : ∃ z : Bool, decide ((0 : Int) < (hn : Int)) = z := ⟨_, rfl⟩
    have hch2 : decide (0 < hn) = ch := by rw [← hch]; simp
    go_wp2_with (first
      | (go_at_call 163; go_must (refine (rvalidname_ret _ _).mono ?_); rintro e w1 ⟨r, rfl, b1⟩; replace K0 := K0.call b1; replace F0 := K0.facts; simp only [factsL, cellsF, Nat.reduceAdd, zf, zl] at F0; clear b1)
      | (go_at_call 184; go_must (refine (rvalid_ret _ _ _ _).mono ?_); rintro e w1 ⟨r, rfl, b1⟩; replace K0 := K0.call b1; replace F0 := K0.facts; simp only [factsL, cellsF, Nat.reduceAdd, zf, zl] at F0; clear b1)
      | (go_at_call 165; go_must (refine (HW.out _ K0).mono ?_); rintro e w1 ⟨r, rfl, b1⟩; replace K0 := K0.call b1; replace F0 := K0.facts; simp only [factsL, cellsF, Nat.reduceAdd, zf, zl] at F0; clear b1)
      | (go_at_call 210; go_must (refine (HI.out _ K0).mono ?_); rintro e w1 ⟨r, rfl, b1⟩; replace K0 := K0.call b1; replace F0 := K0.facts; simp only [factsL, cellsF, Nat.reduceAdd, zf, zl] at F0; clear b1)
      | (go_at_call 211; go_must (refine (HS.out _ K0).mono ?_); rintro e w1 ⟨r, rfl, b1⟩; replace K0 := K0.call b1; replace F0 := K0.facts; simp only [factsL, cellsF, Nat.reduceAdd, zf, zl] at F0; clear b1))
    all_goals (go_meet; exact ⟨_, rfl, K0⟩)
   case rest =>
    obtain ⟨bb, rfl, K1⟩ := hcut
    clear K0 F0
    have K0 := K1
    clear K1
    have F0 := K0.facts
    simp only [factsL, cellsF, Nat.reduceAdd, zf, zl] at F0
    cases bb
    ·go_upto_region 5 with fail
     go_cut [90] (fun v wx => ∃ bb : Bool, v = .bool bb ∧ Hold None_ none w wx [.cst gx 99 #[.int .i64 3, .string tab, .slice rA rn rc, .slice qA qn qc, .slice sA sn sc, .slice hA hn hc, .string text], .ro (AcIn d ⟨3, tab, ⟨rA, rn, rc, rl⟩, ⟨qA, qn, qc, ql⟩, ⟨sA, sn, sc, sl⟩, ⟨hA, hn, hc, hl⟩, text⟩)])
     case first =>
      have hw0 : IntKind.i64.wrap ((rn : Int) + (qn : Int)) = (rn : Int) + (qn : Int) := IntWalk.i64_in _ (by have := HRQ.out; omega)
      obtain ⟨cr, hcr⟩ : ∃ z : Bool, decide ((0 : Int) < (rn : Int) + (qn : Int)) = z := ⟨_, rfl⟩
      obtain ⟨cs, hcs⟩ : ∃ z : Bool, decide ((0 : Int) < (sn : Int)) = z := ⟨_, rfl⟩
      have hcs2 : decide (0 < sn) = cs := by rw [← hcs]; simp
      obtain ⟨ch, hch⟩ : ∃ z : Bool, decide ((0 : Int) < (hn : Int)) = z := ⟨_, rfl⟩
      have hch2 : decide (0 < hn) = ch := by rw [← hch]; simp
      go_wp2_with (first
        | (go_at_call 163; go_must (refine (rvalidname_ret _ _).mono ?_); rintro e w1 ⟨r, rfl, b1⟩; replace K0 := K0.call b1; replace F0 := K0.facts; simp only [factsL, cellsF, Nat.reduceAdd, zf, zl] at F0; clear b1)
        | (go_at_call 184; go_must (refine (rvalid_ret _ _ _ _).mono ?_); rintro e w1 ⟨r, rfl, b1⟩; replace K0 := K0.call b1; replace F0 := K0.facts; simp only [factsL, cellsF, Nat.reduceAdd, zf, zl] at F0; clear b1)
        | (go_at_call 165; go_must (refine (HW.out _ K0).mono ?_); rintro e w1 ⟨r, rfl, b1⟩; replace K0 := K0.call b1; replace F0 := K0.facts; simp only [factsL, cellsF, Nat.reduceAdd, zf, zl] at F0; clear b1)
        | (go_at_call 210; go_must (refine (HI.out _ K0).mono ?_); rintro e w1 ⟨r, rfl, b1⟩; replace K0 := K0.call b1; replace F0 := K0.facts; simp only [factsL, cellsF, Nat.reduceAdd, zf, zl] at F0; clear b1)
        | (go_at_call 211; go_must (refine (HS.out _ K0).mono ?_); rintro e w1 ⟨r, rfl, b1⟩; replace K0 := K0.call b1; replace F0 := K0.facts; simp only [factsL, cellsF, Nat.reduceAdd, zf, zl] at F0; clear b1))
      all_goals (go_meet; exact ⟨_, rfl, K0⟩)
     case rest =>
      obtain ⟨bb, rfl, K1⟩ := hcut
      clear K0 F0
      have K0 := K1
      clear K1
      have F0 := K0.facts
      simp only [factsL, cellsF, Nat.reduceAdd, zf, zl] at F0
      cases bb
      ·go_wp2_with (first
         | (go_at_call 163; go_must (refine (rvalidname_ret _ _).mono ?_); rintro e w1 ⟨r, rfl, b1⟩; replace K0 := K0.call b1; replace F0 := K0.facts; simp only [factsL, cellsF, Nat.reduceAdd, zf, zl] at F0; clear b1)
         | (go_at_call 184; go_must (refine (rvalid_ret _ _ _ _).mono ?_); rintro e w1 ⟨r, rfl, b1⟩; replace K0 := K0.call b1; replace F0 := K0.facts; simp only [factsL, cellsF, Nat.reduceAdd, zf, zl] at F0; clear b1)
         | (go_at_call 165; go_must (refine (HW.out _ K0).mono ?_); rintro e w1 ⟨r, rfl, b1⟩; replace K0 := K0.call b1; replace F0 := K0.facts; simp only [factsL, cellsF, Nat.reduceAdd, zf, zl] at F0; clear b1)
         | (go_at_call 210; go_must (refine (HI.out _ K0).mono ?_); rintro e w1 ⟨r, rfl, b1⟩; replace K0 := K0.call b1; replace F0 := K0.facts; simp only [factsL, cellsF, Nat.reduceAdd, zf, zl] at F0; clear b1)
         | (go_at_call 211; go_must (refine (HS.out _ K0).mono ?_); rintro e w1 ⟨r, rfl, b1⟩; replace K0 := K0.call b1; replace F0 := K0.facts; simp only [factsL, cellsF, Nat.reduceAdd, zf, zl] at F0; clear b1))
       all_goals (go_ret; exact ⟨_, rfl, K0.below, fun _ h => absurd h (by decide)⟩)
      ·go_wp2_with fail
       all_goals (go_ret; exact ⟨_, rfl, K0.below, fun _ h => absurd h (by decide)⟩)
    ·go_wp2_with fail
     all_goals (go_ret; exact ⟨_, rfl, K0.below, fun _ h => absurd h (by decide)⟩)
  ·go_wp2_with fail
   all_goals (go_ret; exact ⟨_, rfl, K0.below, fun _ h => absurd h (by decide)⟩)
end Go.Proofs.YtdkebcfkchhlmaaGreatDoor

namespace Go.Proofs.YtdkebcfkchhlmaaGreatDoor
open Go.RowKit
set_option linter.unusedVariables false
set_option linter.unusedSimpArgs false
set_option maxHeartbeats 16000000 in
set_option maxRecDepth 100000 in
theorem vaction4 (d : Nat) (tab : ByteArray) (rA : Option Addr) (rn rc : Nat) (rl : List (SlP Ex)) (qA : Option Addr) (qn qc : Nat) (ql : List Qu) (sA : Option Addr) (sn sc : Nat) (sl : List Se) (hA : Option Addr) (hn hc : Nat) (hl : List Ex) (text : ByteArray) (w : World) (hx : Ro w None_ (AcIn d ⟨4, tab, ⟨rA, rn, rc, rl⟩, ⟨qA, qn, qc, ql⟩, ⟨sA, sn, sc, sl⟩, ⟨hA, hn, hc, hl⟩, text⟩)) (hg : AcGd d ⟨4, tab, ⟨rA, rn, rc, rl⟩, ⟨qA, qn, qc, ql⟩, ⟨sA, sn, sc, sl⟩, ⟨hA, hn, hc, hl⟩, text⟩) : Calls Tryz.prog 166 #[.agg #[.int .i64 4, .string tab, .slice rA rn rc, .slice qA qn qc, .slice sA sn sc, .slice hA hn hc, .string text]] w fun e w' => ActRet 4 sn w e w' := by
 have HHN := hid (show hn ≤ 1000 from by
  have h : hl.length = hn := ExsIn.len (show ExsIn d hA hn hl w from hx.now.2.2.2)
  have h2 : hl.length ≤ 1 := hg.h.2.1
  omega)
 have HSN := hid (show sn ≤ 1000 from by
  have h : sl.length = sn := SlP.In.len (s := ⟨sA, sn, sc, sl⟩) (k := 11) (cel := Se.cells) (P := SeIn d) hx.now.2.2.1 (by omega) (fun _ => rfl)
  have h2 : sl.length ≤ 8 := hg.s.2.1
  omega)
 have HRQ := hid (show rn ≤ 8 ∧ qn ≤ 1 from by
  have h1 : rl.length = rn := SlP.In.len (s := ⟨rA, rn, rc, rl⟩) (k := 1) (cel := fun r : SlP Ex => [r.v]) (P := fun r w => r.In 10 Ex.cells (ExIn d) w) hx.now.1 (by omega) (fun _ => rfl)
  have h2 : ql.length = qn := SlP.In.len (s := ⟨qA, qn, qc, ql⟩) (k := 4) (cel := Qu.cells) (P := QuIn d) hx.now.2.1 (by omega) (fun _ => rfl)
  have h3 : rl.length ≤ 8 := hg.r.2.1
  have h4 : ql.length ≤ 1 := hg.q.2.1
  omega)
 have HG := hid hg
 have K0 := ((Hold.start None_ w zn).add (hx.less (by simp [Mut]))).alloc_cst #[.int .i64 4, .string tab, .slice rA rn rc, .slice qA qn qc, .slice sA sn sc, .slice hA hn hc, .string text] 99
 obtain ⟨gx, hgx⟩ : ∃ g, g = w.heap.size := ⟨_, rfl⟩
 rw [← hgx] at K0
 have F0 := K0.facts
 simp only [factsL, cellsF, Nat.reduceAdd, zf, zl] at F0
 rw [hgx] at F0
 clear hx hg
 go_enter Tryz.func166, Tryz.ntmps166
 go_upto_region 1 with fail
 rw [← hgx] at F0 ⊢
 have HGX := hid hgx
 clear hgx
 generalize World.alloc _ _ = w1 at K0 F0 ⊢
 have HW := hid (fun (wv : World) (h : Hold None_ none w wv [.cst gx 99 #[.int .i64 4, .string tab, .slice rA rn rc, .slice qA qn qc, .slice sA sn sc, .slice hA hn hc, .string text], .ro (AcIn d ⟨4, tab, ⟨rA, rn, rc, rl⟩, ⟨qA, qn, qc, ql⟩, ⟨sA, sn, sc, sl⟩, ⟨hA, hn, hc, hl⟩, text⟩)]) => va_all d hA hn hc hl wv (((h.ro 1 rfl).imp fun w2 h2 => (show ExsIn d hA hn hl w2 from h2.2.2.2)).less zn) HG.out.h.2.2 HHN.out)
 have HI := hid (fun (wv : World) (h : Hold None_ none w wv [.cst gx 99 #[.int .i64 4, .string tab, .slice rA rn rc, .slice qA qn qc, .slice sA sn sc, .slice hA hn hc, .string text], .ro (AcIn d ⟨4, tab, ⟨rA, rn, rc, rl⟩, ⟨qA, qn, qc, ql⟩, ⟨sA, sn, sc, sl⟩, ⟨hA, hn, hc, hl⟩, text⟩)]) => vinsert_ret d ⟨4, tab, ⟨rA, rn, rc, rl⟩, ⟨qA, qn, qc, ql⟩, ⟨sA, sn, sc, sl⟩, ⟨hA, hn, hc, hl⟩, text⟩ wv ((h.ro 1 rfl).less zn) HG.out)
 have HS := hid (fun (wv : World) (h : Hold None_ none w wv [.cst gx 99 #[.int .i64 4, .string tab, .slice rA rn rc, .slice qA qn qc, .slice sA sn sc, .slice hA hn hc, .string text], .ro (AcIn d ⟨4, tab, ⟨rA, rn, rc, rl⟩, ⟨qA, qn, qc, ql⟩, ⟨sA, sn, sc, sl⟩, ⟨hA, hn, hc, hl⟩, text⟩)]) => vsets_ret d ⟨sA, sn, sc, sl⟩ wv (((h.ro 1 rfl).imp fun w2 h2 => h2.2.2.1).less zn) HG.out.s.2.2 HSN.out HG.out.s.1.1)
 go_cut [35] (fun v wx => ∃ bb : Bool, v = .bool bb ∧ Hold None_ none w wx [.cst gx 99 #[.int .i64 4, .string tab, .slice rA rn rc, .slice qA qn qc, .slice sA sn sc, .slice hA hn hc, .string text], .ro (AcIn d ⟨4, tab, ⟨rA, rn, rc, rl⟩, ⟨qA, qn, qc, ql⟩, ⟨sA, sn, sc, sl⟩, ⟨hA, hn, hc, hl⟩, text⟩)])
 case first =>
  have hw0 : IntKind.i64.wrap ((rn : Int) + (qn : Int)) = (rn : Int) + (qn : Int) := IntWalk.i64_in _ (by have := HRQ.out; omega)
  obtain ⟨cr, hcr⟩ : ∃ z : Bool, decide ((0 : Int) < (rn : Int) + (qn : Int)) = z := ⟨_, rfl⟩
  obtain ⟨cs, hcs⟩ : ∃ z : Bool, decide ((0 : Int) < (sn : Int)) = z := ⟨_, rfl⟩
  have hcs2 : decide (0 < sn) = cs := by rw [← hcs]; simp
  obtain ⟨ch, hch⟩ : ∃ z : Bool, decide ((0 : Int) < (hn : Int)) = z := ⟨_, rfl⟩
  have hch2 : decide (0 < hn) = ch := by rw [← hch]; simp
  go_wp2_with (first
    | (go_at_call 163; go_must (refine (rvalidname_ret _ _).mono ?_); rintro e w1 ⟨r, rfl, b1⟩; replace K0 := K0.call b1; replace F0 := K0.facts; simp only [factsL, cellsF, Nat.reduceAdd, zf, zl] at F0; clear b1)
    | (go_at_call 184; go_must (refine (rvalid_ret _ _ _ _).mono ?_); rintro e w1 ⟨r, rfl, b1⟩; replace K0 := K0.call b1; replace F0 := K0.facts; simp only [factsL, cellsF, Nat.reduceAdd, zf, zl] at F0; clear b1)
    | (go_at_call 165; go_must (refine (HW.out _ K0).mono ?_); rintro e w1 ⟨r, rfl, b1⟩; replace K0 := K0.call b1; replace F0 := K0.facts; simp only [factsL, cellsF, Nat.reduceAdd, zf, zl] at F0; clear b1)
    | (go_at_call 210; go_must (refine (HI.out _ K0).mono ?_); rintro e w1 ⟨r, rfl, b1⟩; replace K0 := K0.call b1; replace F0 := K0.facts; simp only [factsL, cellsF, Nat.reduceAdd, zf, zl] at F0; clear b1)
    | (go_at_call 211; go_must (refine (HS.out _ K0).mono ?_); rintro e w1 ⟨r, rfl, b1⟩; replace K0 := K0.call b1; replace F0 := K0.facts; simp only [factsL, cellsF, Nat.reduceAdd, zf, zl] at F0; clear b1))
  all_goals (go_meet; exact ⟨_, rfl, K0⟩)
 case rest =>
  obtain ⟨bb, rfl, K1⟩ := hcut
  clear K0 F0
  have K0 := K1
  clear K1
  have F0 := K0.facts
  simp only [factsL, cellsF, Nat.reduceAdd, zf, zl] at F0
  cases bb
  ·go_upto_region 3 with fail
   go_cut [80] (fun v wx => ∃ bb : Bool, v = .bool bb ∧ Hold None_ none w wx [.cst gx 99 #[.int .i64 4, .string tab, .slice rA rn rc, .slice qA qn qc, .slice sA sn sc, .slice hA hn hc, .string text], .ro (AcIn d ⟨4, tab, ⟨rA, rn, rc, rl⟩, ⟨qA, qn, qc, ql⟩, ⟨sA, sn, sc, sl⟩, ⟨hA, hn, hc, hl⟩, text⟩)])
   case first =>
    have hw0 : IntKind.i64.wrap ((rn : Int) + (qn : Int)) = (rn : Int) + (qn : Int) := IntWalk.i64_in _ (by have := HRQ.out; omega)
    obtain ⟨cr, hcr⟩ : ∃ z : Bool, decide ((0 : Int) < (rn : Int) + (qn : Int)) = z := ⟨_, rfl⟩
    obtain ⟨cs, hcs⟩ : ∃ z : Bool, decide ((0 : Int) < (sn : Int)) = z := ⟨_, rfl⟩
    have hcs2 : decide (0 < sn) = cs := by rw [← hcs]; simp
    obtain ⟨ch, hch⟩ : ∃ z : Bool, decide ((0 : Int) < (hn : Int)) = z := ⟨_, rfl⟩
    have hch2 : decide (0 < hn) = ch := by rw [← hch]; simp
    go_wp2_with (first
      | (go_at_call 163; go_must (refine (rvalidname_ret _ _).mono ?_); rintro e w1 ⟨r, rfl, b1⟩; replace K0 := K0.call b1; replace F0 := K0.facts; simp only [factsL, cellsF, Nat.reduceAdd, zf, zl] at F0; clear b1)
      | (go_at_call 184; go_must (refine (rvalid_ret _ _ _ _).mono ?_); rintro e w1 ⟨r, rfl, b1⟩; replace K0 := K0.call b1; replace F0 := K0.facts; simp only [factsL, cellsF, Nat.reduceAdd, zf, zl] at F0; clear b1)
      | (go_at_call 165; go_must (refine (HW.out _ K0).mono ?_); rintro e w1 ⟨r, rfl, b1⟩; replace K0 := K0.call b1; replace F0 := K0.facts; simp only [factsL, cellsF, Nat.reduceAdd, zf, zl] at F0; clear b1)
      | (go_at_call 210; go_must (refine (HI.out _ K0).mono ?_); rintro e w1 ⟨r, rfl, b1⟩; replace K0 := K0.call b1; replace F0 := K0.facts; simp only [factsL, cellsF, Nat.reduceAdd, zf, zl] at F0; clear b1)
      | (go_at_call 211; go_must (refine (HS.out _ K0).mono ?_); rintro e w1 ⟨r, rfl, b1⟩; replace K0 := K0.call b1; replace F0 := K0.facts; simp only [factsL, cellsF, Nat.reduceAdd, zf, zl] at F0; clear b1))
    all_goals (go_meet; exact ⟨_, rfl, K0⟩)
   case rest =>
    obtain ⟨bb, rfl, K1⟩ := hcut
    clear K0 F0
    have K0 := K1
    clear K1
    have F0 := K0.facts
    simp only [factsL, cellsF, Nat.reduceAdd, zf, zl] at F0
    cases bb
    ·go_upto_region 5 with fail
     go_cut [90] (fun v wx => ∃ bb : Bool, v = .bool bb ∧ Hold None_ none w wx [.cst gx 99 #[.int .i64 4, .string tab, .slice rA rn rc, .slice qA qn qc, .slice sA sn sc, .slice hA hn hc, .string text], .ro (AcIn d ⟨4, tab, ⟨rA, rn, rc, rl⟩, ⟨qA, qn, qc, ql⟩, ⟨sA, sn, sc, sl⟩, ⟨hA, hn, hc, hl⟩, text⟩)])
     case first =>
      have hw0 : IntKind.i64.wrap ((rn : Int) + (qn : Int)) = (rn : Int) + (qn : Int) := IntWalk.i64_in _ (by have := HRQ.out; omega)
      obtain ⟨cr, hcr⟩ : ∃ z : Bool, decide ((0 : Int) < (rn : Int) + (qn : Int)) = z := ⟨_, rfl⟩
      obtain ⟨cs, hcs⟩ : ∃ z : Bool, decide ((0 : Int) < (sn : Int)) = z := ⟨_, rfl⟩
      have hcs2 : decide (0 < sn) = cs := by rw [← hcs]; simp
      obtain ⟨ch, hch⟩ : ∃ z : Bool, decide ((0 : Int) < (hn : Int)) = z := ⟨_, rfl⟩
      have hch2 : decide (0 < hn) = ch := by rw [← hch]; simp
      go_wp2_with (first
        | (go_at_call 163; go_must (refine (rvalidname_ret _ _).mono ?_); rintro e w1 ⟨r, rfl, b1⟩; replace K0 := K0.call b1; replace F0 := K0.facts; simp only [factsL, cellsF, Nat.reduceAdd, zf, zl] at F0; clear b1)
        | (go_at_call 184; go_must (refine (rvalid_ret _ _ _ _).mono ?_); rintro e w1 ⟨r, rfl, b1⟩; replace K0 := K0.call b1; replace F0 := K0.facts; simp only [factsL, cellsF, Nat.reduceAdd, zf, zl] at F0; clear b1)
        | (go_at_call 165; go_must (refine (HW.out _ K0).mono ?_); rintro e w1 ⟨r, rfl, b1⟩; replace K0 := K0.call b1; replace F0 := K0.facts; simp only [factsL, cellsF, Nat.reduceAdd, zf, zl] at F0; clear b1)
        | (go_at_call 210; go_must (refine (HI.out _ K0).mono ?_); rintro e w1 ⟨r, rfl, b1⟩; replace K0 := K0.call b1; replace F0 := K0.facts; simp only [factsL, cellsF, Nat.reduceAdd, zf, zl] at F0; clear b1)
        | (go_at_call 211; go_must (refine (HS.out _ K0).mono ?_); rintro e w1 ⟨r, rfl, b1⟩; replace K0 := K0.call b1; replace F0 := K0.facts; simp only [factsL, cellsF, Nat.reduceAdd, zf, zl] at F0; clear b1))
      all_goals (go_meet; exact ⟨_, rfl, K0⟩)
     case rest =>
      obtain ⟨bb, rfl, K1⟩ := hcut
      clear K0 F0
      have K0 := K1
      clear K1
      have F0 := K0.facts
      simp only [factsL, cellsF, Nat.reduceAdd, zf, zl] at F0
      cases bb
      ·go_wp2_with (first
         | (go_at_call 163; go_must (refine (rvalidname_ret _ _).mono ?_); rintro e w1 ⟨r, rfl, b1⟩; replace K0 := K0.call b1; replace F0 := K0.facts; simp only [factsL, cellsF, Nat.reduceAdd, zf, zl] at F0; clear b1)
         | (go_at_call 184; go_must (refine (rvalid_ret _ _ _ _).mono ?_); rintro e w1 ⟨r, rfl, b1⟩; replace K0 := K0.call b1; replace F0 := K0.facts; simp only [factsL, cellsF, Nat.reduceAdd, zf, zl] at F0; clear b1)
         | (go_at_call 165; go_must (refine (HW.out _ K0).mono ?_); rintro e w1 ⟨r, rfl, b1⟩; replace K0 := K0.call b1; replace F0 := K0.facts; simp only [factsL, cellsF, Nat.reduceAdd, zf, zl] at F0; clear b1)
         | (go_at_call 210; go_must (refine (HI.out _ K0).mono ?_); rintro e w1 ⟨r, rfl, b1⟩; replace K0 := K0.call b1; replace F0 := K0.facts; simp only [factsL, cellsF, Nat.reduceAdd, zf, zl] at F0; clear b1)
         | (go_at_call 211; go_must (refine (HS.out _ K0).mono ?_); rintro e w1 ⟨r, rfl, b1⟩; replace K0 := K0.call b1; replace F0 := K0.facts; simp only [factsL, cellsF, Nat.reduceAdd, zf, zl] at F0; clear b1))
       all_goals (go_ret; exact ⟨_, rfl, K0.below, fun _ h => absurd h (by decide)⟩)
      ·go_wp2_with fail
       all_goals (go_ret; exact ⟨_, rfl, K0.below, fun _ h => absurd h (by decide)⟩)
    ·go_wp2_with fail
     all_goals (go_ret; exact ⟨_, rfl, K0.below, fun _ h => absurd h (by decide)⟩)
  ·go_wp2_with fail
   all_goals (go_ret; exact ⟨_, rfl, K0.below, fun _ h => absurd h (by decide)⟩)
end Go.Proofs.YtdkebcfkchhlmaaGreatDoor

namespace Go.Proofs.YtdkebcfkchhlmaaGreatDoor
open Go.RowKit
set_option linter.unusedVariables false
set_option linter.unusedSimpArgs false
set_option maxHeartbeats 16000000 in
set_option maxRecDepth 100000 in
theorem vaction5 (d : Nat) (tab : ByteArray) (rA : Option Addr) (rn rc : Nat) (rl : List (SlP Ex)) (qA : Option Addr) (qn qc : Nat) (ql : List Qu) (sA : Option Addr) (sn sc : Nat) (sl : List Se) (hA : Option Addr) (hn hc : Nat) (hl : List Ex) (text : ByteArray) (w : World) (hx : Ro w None_ (AcIn d ⟨5, tab, ⟨rA, rn, rc, rl⟩, ⟨qA, qn, qc, ql⟩, ⟨sA, sn, sc, sl⟩, ⟨hA, hn, hc, hl⟩, text⟩)) (hg : AcGd d ⟨5, tab, ⟨rA, rn, rc, rl⟩, ⟨qA, qn, qc, ql⟩, ⟨sA, sn, sc, sl⟩, ⟨hA, hn, hc, hl⟩, text⟩) : Calls Tryz.prog 166 #[.agg #[.int .i64 5, .string tab, .slice rA rn rc, .slice qA qn qc, .slice sA sn sc, .slice hA hn hc, .string text]] w fun e w' => ActRet 5 sn w e w' := by
 have HHN := hid (show hn ≤ 1000 from by
  have h : hl.length = hn := ExsIn.len (show ExsIn d hA hn hl w from hx.now.2.2.2)
  have h2 : hl.length ≤ 1 := hg.h.2.1
  omega)
 have HSN := hid (show sn ≤ 1000 from by
  have h : sl.length = sn := SlP.In.len (s := ⟨sA, sn, sc, sl⟩) (k := 11) (cel := Se.cells) (P := SeIn d) hx.now.2.2.1 (by omega) (fun _ => rfl)
  have h2 : sl.length ≤ 8 := hg.s.2.1
  omega)
 have HRQ := hid (show rn ≤ 8 ∧ qn ≤ 1 from by
  have h1 : rl.length = rn := SlP.In.len (s := ⟨rA, rn, rc, rl⟩) (k := 1) (cel := fun r : SlP Ex => [r.v]) (P := fun r w => r.In 10 Ex.cells (ExIn d) w) hx.now.1 (by omega) (fun _ => rfl)
  have h2 : ql.length = qn := SlP.In.len (s := ⟨qA, qn, qc, ql⟩) (k := 4) (cel := Qu.cells) (P := QuIn d) hx.now.2.1 (by omega) (fun _ => rfl)
  have h3 : rl.length ≤ 8 := hg.r.2.1
  have h4 : ql.length ≤ 1 := hg.q.2.1
  omega)
 have HG := hid hg
 have K0 := ((Hold.start None_ w zn).add (hx.less (by simp [Mut]))).alloc_cst #[.int .i64 5, .string tab, .slice rA rn rc, .slice qA qn qc, .slice sA sn sc, .slice hA hn hc, .string text] 99
 obtain ⟨gx, hgx⟩ : ∃ g, g = w.heap.size := ⟨_, rfl⟩
 rw [← hgx] at K0
 have F0 := K0.facts
 simp only [factsL, cellsF, Nat.reduceAdd, zf, zl] at F0
 rw [hgx] at F0
 clear hx hg
 go_enter Tryz.func166, Tryz.ntmps166
 go_upto_region 1 with fail
 rw [← hgx] at F0 ⊢
 have HGX := hid hgx
 clear hgx
 generalize World.alloc _ _ = w1 at K0 F0 ⊢
 by_cases hs1 : sn = 1
 ·have HS1 := hid hs1
  clear hs1
  have HW := hid (fun (wv : World) (h : Hold None_ none w wv [.cst gx 99 #[.int .i64 5, .string tab, .slice rA rn rc, .slice qA qn qc, .slice sA sn sc, .slice hA hn hc, .string text], .ro (AcIn d ⟨5, tab, ⟨rA, rn, rc, rl⟩, ⟨qA, qn, qc, ql⟩, ⟨sA, sn, sc, sl⟩, ⟨hA, hn, hc, hl⟩, text⟩)]) => va_all d hA hn hc hl wv (((h.ro 1 rfl).imp fun w2 h2 => (show ExsIn d hA hn hl w2 from h2.2.2.2)).less zn) HG.out.h.2.2 HHN.out)
  have HI := hid (fun (wv : World) (h : Hold None_ none w wv [.cst gx 99 #[.int .i64 5, .string tab, .slice rA rn rc, .slice qA qn qc, .slice sA sn sc, .slice hA hn hc, .string text], .ro (AcIn d ⟨5, tab, ⟨rA, rn, rc, rl⟩, ⟨qA, qn, qc, ql⟩, ⟨sA, sn, sc, sl⟩, ⟨hA, hn, hc, hl⟩, text⟩)]) => vinsert_ret d ⟨5, tab, ⟨rA, rn, rc, rl⟩, ⟨qA, qn, qc, ql⟩, ⟨sA, sn, sc, sl⟩, ⟨hA, hn, hc, hl⟩, text⟩ wv ((h.ro 1 rfl).less zn) HG.out)
  have HS := hid (fun (wv : World) (h : Hold None_ none w wv [.cst gx 99 #[.int .i64 5, .string tab, .slice rA rn rc, .slice qA qn qc, .slice sA sn sc, .slice hA hn hc, .string text], .ro (AcIn d ⟨5, tab, ⟨rA, rn, rc, rl⟩, ⟨qA, qn, qc, ql⟩, ⟨sA, sn, sc, sl⟩, ⟨hA, hn, hc, hl⟩, text⟩)]) => vsets_ret d ⟨sA, sn, sc, sl⟩ wv (((h.ro 1 rfl).imp fun w2 h2 => h2.2.2.1).less zn) HG.out.s.2.2 HSN.out HG.out.s.1.1)
  go_cut [35] (fun v wx => ∃ bb : Bool, v = .bool bb ∧ Hold None_ none w wx [.cst gx 99 #[.int .i64 5, .string tab, .slice rA rn rc, .slice qA qn qc, .slice sA sn sc, .slice hA hn hc, .string text], .ro (AcIn d ⟨5, tab, ⟨rA, rn, rc, rl⟩, ⟨qA, qn, qc, ql⟩, ⟨sA, sn, sc, sl⟩, ⟨hA, hn, hc, hl⟩, text⟩)])
  case first =>
   have hw0 : IntKind.i64.wrap ((rn : Int) + (qn : Int)) = (rn : Int) + (qn : Int) := IntWalk.i64_in _ (by have := HRQ.out; omega)
   obtain ⟨cr, hcr⟩ : ∃ z : Bool, decide ((0 : Int) < (rn : Int) + (qn : Int)) = z := ⟨_, rfl⟩
   obtain ⟨cs, hcs⟩ : ∃ z : Bool, decide ((0 : Int) < (sn : Int)) = z := ⟨_, rfl⟩
   have hcs2 : decide (0 < sn) = cs := by rw [← hcs]; simp
   obtain ⟨ch, hch⟩ : ∃ z : Bool, decide ((0 : Int) < (hn : Int)) = z := ⟨_, rfl⟩
   have hch2 : decide (0 < hn) = ch := by rw [← hch]; simp
   go_wp2_with (first
     | (go_at_call 163; go_must (refine (rvalidname_ret _ _).mono ?_); rintro e w1 ⟨r, rfl, b1⟩; replace K0 := K0.call b1; replace F0 := K0.facts; simp only [factsL, cellsF, Nat.reduceAdd, zf, zl] at F0; clear b1)
     | (go_at_call 184; go_must (refine (rvalid_ret _ _ _ _).mono ?_); rintro e w1 ⟨r, rfl, b1⟩; replace K0 := K0.call b1; replace F0 := K0.facts; simp only [factsL, cellsF, Nat.reduceAdd, zf, zl] at F0; clear b1)
     | (go_at_call 165; go_must (refine (HW.out _ K0).mono ?_); rintro e w1 ⟨r, rfl, b1⟩; replace K0 := K0.call b1; replace F0 := K0.facts; simp only [factsL, cellsF, Nat.reduceAdd, zf, zl] at F0; clear b1)
     | (go_at_call 210; go_must (refine (HI.out _ K0).mono ?_); rintro e w1 ⟨r, rfl, b1⟩; replace K0 := K0.call b1; replace F0 := K0.facts; simp only [factsL, cellsF, Nat.reduceAdd, zf, zl] at F0; clear b1)
     | (go_at_call 211; go_must (refine (HS.out _ K0).mono ?_); rintro e w1 ⟨r, rfl, b1⟩; replace K0 := K0.call b1; replace F0 := K0.facts; simp only [factsL, cellsF, Nat.reduceAdd, zf, zl] at F0; clear b1))
   all_goals (go_meet; exact ⟨_, rfl, K0⟩)
  case rest =>
   obtain ⟨bb, rfl, K1⟩ := hcut
   clear K0 F0
   have K0 := K1
   clear K1
   have F0 := K0.facts
   simp only [factsL, cellsF, Nat.reduceAdd, zf, zl] at F0
   cases bb
   ·go_upto_region 3 with fail
    go_cut [80] (fun v wx => ∃ bb : Bool, v = .bool bb ∧ Hold None_ none w wx [.cst gx 99 #[.int .i64 5, .string tab, .slice rA rn rc, .slice qA qn qc, .slice sA sn sc, .slice hA hn hc, .string text], .ro (AcIn d ⟨5, tab, ⟨rA, rn, rc, rl⟩, ⟨qA, qn, qc, ql⟩, ⟨sA, sn, sc, sl⟩, ⟨hA, hn, hc, hl⟩, text⟩)])
    case first =>
     have hw0 : IntKind.i64.wrap ((rn : Int) + (qn : Int)) = (rn : Int) + (qn : Int) := IntWalk.i64_in _ (by have := HRQ.out; omega)
     obtain ⟨cr, hcr⟩ : ∃ z : Bool, decide ((0 : Int) < (rn : Int) + (qn : Int)) = z := ⟨_, rfl⟩
     obtain ⟨cs, hcs⟩ : ∃ z : Bool, decide ((0 : Int) < (sn : Int)) = z := ⟨_, rfl⟩
     have hcs2 : decide (0 < sn) = cs := by rw [← hcs]; simp
     obtain ⟨ch, hch⟩ : ∃ z : Bool, decide ((0 : Int) < (hn : Int)) = z := ⟨_, rfl⟩
     have hch2 : decide (0 < hn) = ch := by rw [← hch]; simp
     go_wp2_with (first
       | (go_at_call 163; go_must (refine (rvalidname_ret _ _).mono ?_); rintro e w1 ⟨r, rfl, b1⟩; replace K0 := K0.call b1; replace F0 := K0.facts; simp only [factsL, cellsF, Nat.reduceAdd, zf, zl] at F0; clear b1)
       | (go_at_call 184; go_must (refine (rvalid_ret _ _ _ _).mono ?_); rintro e w1 ⟨r, rfl, b1⟩; replace K0 := K0.call b1; replace F0 := K0.facts; simp only [factsL, cellsF, Nat.reduceAdd, zf, zl] at F0; clear b1)
       | (go_at_call 165; go_must (refine (HW.out _ K0).mono ?_); rintro e w1 ⟨r, rfl, b1⟩; replace K0 := K0.call b1; replace F0 := K0.facts; simp only [factsL, cellsF, Nat.reduceAdd, zf, zl] at F0; clear b1)
       | (go_at_call 210; go_must (refine (HI.out _ K0).mono ?_); rintro e w1 ⟨r, rfl, b1⟩; replace K0 := K0.call b1; replace F0 := K0.facts; simp only [factsL, cellsF, Nat.reduceAdd, zf, zl] at F0; clear b1)
       | (go_at_call 211; go_must (refine (HS.out _ K0).mono ?_); rintro e w1 ⟨r, rfl, b1⟩; replace K0 := K0.call b1; replace F0 := K0.facts; simp only [factsL, cellsF, Nat.reduceAdd, zf, zl] at F0; clear b1))
     all_goals (go_meet; exact ⟨_, rfl, K0⟩)
    case rest =>
     obtain ⟨bb, rfl, K1⟩ := hcut
     clear K0 F0
     have K0 := K1
     clear K1
     have F0 := K0.facts
     simp only [factsL, cellsF, Nat.reduceAdd, zf, zl] at F0
     cases bb
     ·go_upto_region 5 with fail
      go_cut [90] (fun v wx => ∃ bb : Bool, v = .bool bb ∧ Hold None_ none w wx [.cst gx 99 #[.int .i64 5, .string tab, .slice rA rn rc, .slice qA qn qc, .slice sA sn sc, .slice hA hn hc, .string text], .ro (AcIn d ⟨5, tab, ⟨rA, rn, rc, rl⟩, ⟨qA, qn, qc, ql⟩, ⟨sA, sn, sc, sl⟩, ⟨hA, hn, hc, hl⟩, text⟩)])
      case first =>
       have hw0 : IntKind.i64.wrap ((rn : Int) + (qn : Int)) = (rn : Int) + (qn : Int) := IntWalk.i64_in _ (by have := HRQ.out; omega)
       obtain ⟨cr, hcr⟩ : ∃ z : Bool, decide ((0 : Int) < (rn : Int) + (qn : Int)) = z := ⟨_, rfl⟩
       obtain ⟨cs, hcs⟩ : ∃ z : Bool, decide ((0 : Int) < (sn : Int)) = z := ⟨_, rfl⟩
       have hcs2 : decide (0 < sn) = cs := by rw [← hcs]; simp
       obtain ⟨ch, hch⟩ : ∃ z : Bool, decide ((0 : Int) < (hn : Int)) = z := ⟨_, rfl⟩
       have hch2 : decide (0 < hn) = ch := by rw [← hch]; simp
       go_wp2_with (first
         | (go_at_call 163; go_must (refine (rvalidname_ret _ _).mono ?_); rintro e w1 ⟨r, rfl, b1⟩; replace K0 := K0.call b1; replace F0 := K0.facts; simp only [factsL, cellsF, Nat.reduceAdd, zf, zl] at F0; clear b1)
         | (go_at_call 184; go_must (refine (rvalid_ret _ _ _ _).mono ?_); rintro e w1 ⟨r, rfl, b1⟩; replace K0 := K0.call b1; replace F0 := K0.facts; simp only [factsL, cellsF, Nat.reduceAdd, zf, zl] at F0; clear b1)
         | (go_at_call 165; go_must (refine (HW.out _ K0).mono ?_); rintro e w1 ⟨r, rfl, b1⟩; replace K0 := K0.call b1; replace F0 := K0.facts; simp only [factsL, cellsF, Nat.reduceAdd, zf, zl] at F0; clear b1)
         | (go_at_call 210; go_must (refine (HI.out _ K0).mono ?_); rintro e w1 ⟨r, rfl, b1⟩; replace K0 := K0.call b1; replace F0 := K0.facts; simp only [factsL, cellsF, Nat.reduceAdd, zf, zl] at F0; clear b1)
         | (go_at_call 211; go_must (refine (HS.out _ K0).mono ?_); rintro e w1 ⟨r, rfl, b1⟩; replace K0 := K0.call b1; replace F0 := K0.facts; simp only [factsL, cellsF, Nat.reduceAdd, zf, zl] at F0; clear b1))
       all_goals (go_meet; exact ⟨_, rfl, K0⟩)
      case rest =>
       obtain ⟨bb, rfl, K1⟩ := hcut
       clear K0 F0
       have K0 := K1
       clear K1
       have F0 := K0.facts
       simp only [factsL, cellsF, Nat.reduceAdd, zf, zl] at F0
       cases bb
       ·go_wp2_with (first
          | (go_at_call 163; go_must (refine (rvalidname_ret _ _).mono ?_); rintro e w1 ⟨r, rfl, b1⟩; replace K0 := K0.call b1; replace F0 := K0.facts; simp only [factsL, cellsF, Nat.reduceAdd, zf, zl] at F0; clear b1)
          | (go_at_call 184; go_must (refine (rvalid_ret _ _ _ _).mono ?_); rintro e w1 ⟨r, rfl, b1⟩; replace K0 := K0.call b1; replace F0 := K0.facts; simp only [factsL, cellsF, Nat.reduceAdd, zf, zl] at F0; clear b1)
          | (go_at_call 165; go_must (refine (HW.out _ K0).mono ?_); rintro e w1 ⟨r, rfl, b1⟩; replace K0 := K0.call b1; replace F0 := K0.facts; simp only [factsL, cellsF, Nat.reduceAdd, zf, zl] at F0; clear b1)
          | (go_at_call 210; go_must (refine (HI.out _ K0).mono ?_); rintro e w1 ⟨r, rfl, b1⟩; replace K0 := K0.call b1; replace F0 := K0.facts; simp only [factsL, cellsF, Nat.reduceAdd, zf, zl] at F0; clear b1)
          | (go_at_call 211; go_must (refine (HS.out _ K0).mono ?_); rintro e w1 ⟨r, rfl, b1⟩; replace K0 := K0.call b1; replace F0 := K0.facts; simp only [factsL, cellsF, Nat.reduceAdd, zf, zl] at F0; clear b1))
        all_goals (go_ret; exact ⟨_, rfl, K0.below, fun _ _ => HS1.out⟩)
       ·go_wp2_with fail
        all_goals (go_ret; exact ⟨_, rfl, K0.below, fun _ _ => HS1.out⟩)
     ·go_wp2_with fail
      all_goals (go_ret; exact ⟨_, rfl, K0.below, fun _ _ => HS1.out⟩)
   ·go_wp2_with fail
    all_goals (go_ret; exact ⟨_, rfl, K0.below, fun _ _ => HS1.out⟩)
 ·have hs1b : ((sn : Int) == 1) = false := by simp; omega
  clear hs1
  have HW := hid (fun (wv : World) (h : Hold None_ none w wv [.cst gx 99 #[.int .i64 5, .string tab, .slice rA rn rc, .slice qA qn qc, .slice sA sn sc, .slice hA hn hc, .string text], .ro (AcIn d ⟨5, tab, ⟨rA, rn, rc, rl⟩, ⟨qA, qn, qc, ql⟩, ⟨sA, sn, sc, sl⟩, ⟨hA, hn, hc, hl⟩, text⟩)]) => va_all d hA hn hc hl wv (((h.ro 1 rfl).imp fun w2 h2 => (show ExsIn d hA hn hl w2 from h2.2.2.2)).less zn) HG.out.h.2.2 HHN.out)
  have HI := hid (fun (wv : World) (h : Hold None_ none w wv [.cst gx 99 #[.int .i64 5, .string tab, .slice rA rn rc, .slice qA qn qc, .slice sA sn sc, .slice hA hn hc, .string text], .ro (AcIn d ⟨5, tab, ⟨rA, rn, rc, rl⟩, ⟨qA, qn, qc, ql⟩, ⟨sA, sn, sc, sl⟩, ⟨hA, hn, hc, hl⟩, text⟩)]) => vinsert_ret d ⟨5, tab, ⟨rA, rn, rc, rl⟩, ⟨qA, qn, qc, ql⟩, ⟨sA, sn, sc, sl⟩, ⟨hA, hn, hc, hl⟩, text⟩ wv ((h.ro 1 rfl).less zn) HG.out)
  have HS := hid (fun (wv : World) (h : Hold None_ none w wv [.cst gx 99 #[.int .i64 5, .string tab, .slice rA rn rc, .slice qA qn qc, .slice sA sn sc, .slice hA hn hc, .string text], .ro (AcIn d ⟨5, tab, ⟨rA, rn, rc, rl⟩, ⟨qA, qn, qc, ql⟩, ⟨sA, sn, sc, sl⟩, ⟨hA, hn, hc, hl⟩, text⟩)]) => vsets_ret d ⟨sA, sn, sc, sl⟩ wv (((h.ro 1 rfl).imp fun w2 h2 => h2.2.2.1).less zn) HG.out.s.2.2 HSN.out HG.out.s.1.1)
  go_cut [35] (fun v wx => ∃ bb : Bool, v = .bool bb ∧ Hold None_ none w wx [.cst gx 99 #[.int .i64 5, .string tab, .slice rA rn rc, .slice qA qn qc, .slice sA sn sc, .slice hA hn hc, .string text], .ro (AcIn d ⟨5, tab, ⟨rA, rn, rc, rl⟩, ⟨qA, qn, qc, ql⟩, ⟨sA, sn, sc, sl⟩, ⟨hA, hn, hc, hl⟩, text⟩)])
  case first =>
   have hw0 : IntKind.i64.wrap ((rn : Int) + (qn : Int)) = (rn : Int) + (qn : Int) := IntWalk.i64_in _ (by have := HRQ.out; omega)
   obtain ⟨cr, hcr⟩ : ∃ z : Bool, decide ((0 : Int) < (rn : Int) + (qn : Int)) = z := ⟨_, rfl⟩
   obtain ⟨cs, hcs⟩ : ∃ z : Bool, decide ((0 : Int) < (sn : Int)) = z := ⟨_, rfl⟩
   have hcs2 : decide (0 < sn) = cs := by rw [← hcs]; simp
   obtain ⟨ch, hch⟩ : ∃ z : Bool, decide ((0 : Int) < (hn : Int)) = z := ⟨_, rfl⟩
   have hch2 : decide (0 < hn) = ch := by rw [← hch]; simp
   go_wp2_with (first
     | (go_at_call 163; go_must (refine (rvalidname_ret _ _).mono ?_); rintro e w1 ⟨r, rfl, b1⟩; replace K0 := K0.call b1; replace F0 := K0.facts; simp only [factsL, cellsF, Nat.reduceAdd, zf, zl] at F0; clear b1)
     | (go_at_call 184; go_must (refine (rvalid_ret _ _ _ _).mono ?_); rintro e w1 ⟨r, rfl, b1⟩; replace K0 := K0.call b1; replace F0 := K0.facts; simp only [factsL, cellsF, Nat.reduceAdd, zf, zl] at F0; clear b1)
     | (go_at_call 165; go_must (refine (HW.out _ K0).mono ?_); rintro e w1 ⟨r, rfl, b1⟩; replace K0 := K0.call b1; replace F0 := K0.facts; simp only [factsL, cellsF, Nat.reduceAdd, zf, zl] at F0; clear b1)
     | (go_at_call 210; go_must (refine (HI.out _ K0).mono ?_); rintro e w1 ⟨r, rfl, b1⟩; replace K0 := K0.call b1; replace F0 := K0.facts; simp only [factsL, cellsF, Nat.reduceAdd, zf, zl] at F0; clear b1)
     | (go_at_call 211; go_must (refine (HS.out _ K0).mono ?_); rintro e w1 ⟨r, rfl, b1⟩; replace K0 := K0.call b1; replace F0 := K0.facts; simp only [factsL, cellsF, Nat.reduceAdd, zf, zl] at F0; clear b1))
   all_goals (go_meet; exact ⟨_, rfl, K0⟩)
  case rest =>
   obtain ⟨bb, rfl, K1⟩ := hcut
   clear K0 F0
   have K0 := K1
   clear K1
   have F0 := K0.facts
   simp only [factsL, cellsF, Nat.reduceAdd, zf, zl] at F0
   cases bb
   ·go_upto_region 3 with fail
    go_cut [80] (fun v wx => ∃ bb : Bool, v = .bool bb ∧ Hold None_ none w wx [.cst gx 99 #[.int .i64 5, .string tab, .slice rA rn rc, .slice qA qn qc, .slice sA sn sc, .slice hA hn hc, .string text], .ro (AcIn d ⟨5, tab, ⟨rA, rn, rc, rl⟩, ⟨qA, qn, qc, ql⟩, ⟨sA, sn, sc, sl⟩, ⟨hA, hn, hc, hl⟩, text⟩)])
    case first =>
     have hw0 : IntKind.i64.wrap ((rn : Int) + (qn : Int)) = (rn : Int) + (qn : Int) := IntWalk.i64_in _ (by have := HRQ.out; omega)
     obtain ⟨cr, hcr⟩ : ∃ z : Bool, decide ((0 : Int) < (rn : Int) + (qn : Int)) = z := ⟨_, rfl⟩
     obtain ⟨cs, hcs⟩ : ∃ z : Bool, decide ((0 : Int) < (sn : Int)) = z := ⟨_, rfl⟩
     have hcs2 : decide (0 < sn) = cs := by rw [← hcs]; simp
     obtain ⟨ch, hch⟩ : ∃ z : Bool, decide ((0 : Int) < (hn : Int)) = z := ⟨_, rfl⟩
     have hch2 : decide (0 < hn) = ch := by rw [← hch]; simp
     go_wp2_with (first
       | (go_at_call 163; go_must (refine (rvalidname_ret _ _).mono ?_); rintro e w1 ⟨r, rfl, b1⟩; replace K0 := K0.call b1; replace F0 := K0.facts; simp only [factsL, cellsF, Nat.reduceAdd, zf, zl] at F0; clear b1)
       | (go_at_call 184; go_must (refine (rvalid_ret _ _ _ _).mono ?_); rintro e w1 ⟨r, rfl, b1⟩; replace K0 := K0.call b1; replace F0 := K0.facts; simp only [factsL, cellsF, Nat.reduceAdd, zf, zl] at F0; clear b1)
       | (go_at_call 165; go_must (refine (HW.out _ K0).mono ?_); rintro e w1 ⟨r, rfl, b1⟩; replace K0 := K0.call b1; replace F0 := K0.facts; simp only [factsL, cellsF, Nat.reduceAdd, zf, zl] at F0; clear b1)
       | (go_at_call 210; go_must (refine (HI.out _ K0).mono ?_); rintro e w1 ⟨r, rfl, b1⟩; replace K0 := K0.call b1; replace F0 := K0.facts; simp only [factsL, cellsF, Nat.reduceAdd, zf, zl] at F0; clear b1)
       | (go_at_call 211; go_must (refine (HS.out _ K0).mono ?_); rintro e w1 ⟨r, rfl, b1⟩; replace K0 := K0.call b1; replace F0 := K0.facts; simp only [factsL, cellsF, Nat.reduceAdd, zf, zl] at F0; clear b1))
     all_goals (go_meet; exact ⟨_, rfl, K0⟩)
    case rest =>
     obtain ⟨bb, rfl, K1⟩ := hcut
     clear K0 F0
     have K0 := K1
     clear K1
     have F0 := K0.facts
     simp only [factsL, cellsF, Nat.reduceAdd, zf, zl] at F0
     cases bb
     ·go_upto_region 5 with fail
      go_cut [90] (fun v wx => ∃ bb : Bool, v = .bool bb ∧ Hold None_ none w wx [.cst gx 99 #[.int .i64 5, .string tab, .slice rA rn rc, .slice qA qn qc, .slice sA sn sc, .slice hA hn hc, .string text], .ro (AcIn d ⟨5, tab, ⟨rA, rn, rc, rl⟩, ⟨qA, qn, qc, ql⟩, ⟨sA, sn, sc, sl⟩, ⟨hA, hn, hc, hl⟩, text⟩)])
      case first =>
       have hw0 : IntKind.i64.wrap ((rn : Int) + (qn : Int)) = (rn : Int) + (qn : Int) := IntWalk.i64_in _ (by have := HRQ.out; omega)
       obtain ⟨cr, hcr⟩ : ∃ z : Bool, decide ((0 : Int) < (rn : Int) + (qn : Int)) = z := ⟨_, rfl⟩
       obtain ⟨cs, hcs⟩ : ∃ z : Bool, decide ((0 : Int) < (sn : Int)) = z := ⟨_, rfl⟩
       have hcs2 : decide (0 < sn) = cs := by rw [← hcs]; simp
       obtain ⟨ch, hch⟩ : ∃ z : Bool, decide ((0 : Int) < (hn : Int)) = z := ⟨_, rfl⟩
       have hch2 : decide (0 < hn) = ch := by rw [← hch]; simp
       go_wp2_with (first
         | (go_at_call 163; go_must (refine (rvalidname_ret _ _).mono ?_); rintro e w1 ⟨r, rfl, b1⟩; replace K0 := K0.call b1; replace F0 := K0.facts; simp only [factsL, cellsF, Nat.reduceAdd, zf, zl] at F0; clear b1)
         | (go_at_call 184; go_must (refine (rvalid_ret _ _ _ _).mono ?_); rintro e w1 ⟨r, rfl, b1⟩; replace K0 := K0.call b1; replace F0 := K0.facts; simp only [factsL, cellsF, Nat.reduceAdd, zf, zl] at F0; clear b1)
         | (go_at_call 165; go_must (refine (HW.out _ K0).mono ?_); rintro e w1 ⟨r, rfl, b1⟩; replace K0 := K0.call b1; replace F0 := K0.facts; simp only [factsL, cellsF, Nat.reduceAdd, zf, zl] at F0; clear b1)
         | (go_at_call 210; go_must (refine (HI.out _ K0).mono ?_); rintro e w1 ⟨r, rfl, b1⟩; replace K0 := K0.call b1; replace F0 := K0.facts; simp only [factsL, cellsF, Nat.reduceAdd, zf, zl] at F0; clear b1)
         | (go_at_call 211; go_must (refine (HS.out _ K0).mono ?_); rintro e w1 ⟨r, rfl, b1⟩; replace K0 := K0.call b1; replace F0 := K0.facts; simp only [factsL, cellsF, Nat.reduceAdd, zf, zl] at F0; clear b1))
       all_goals (go_meet; exact ⟨_, rfl, K0⟩)
      case rest =>
       obtain ⟨bb, rfl, K1⟩ := hcut
       clear K0 F0
       have K0 := K1
       clear K1
       have F0 := K0.facts
       simp only [factsL, cellsF, Nat.reduceAdd, zf, zl] at F0
       cases bb
       ·go_wp2_with (first
          | (go_at_call 163; go_must (refine (rvalidname_ret _ _).mono ?_); rintro e w1 ⟨r, rfl, b1⟩; replace K0 := K0.call b1; replace F0 := K0.facts; simp only [factsL, cellsF, Nat.reduceAdd, zf, zl] at F0; clear b1)
          | (go_at_call 184; go_must (refine (rvalid_ret _ _ _ _).mono ?_); rintro e w1 ⟨r, rfl, b1⟩; replace K0 := K0.call b1; replace F0 := K0.facts; simp only [factsL, cellsF, Nat.reduceAdd, zf, zl] at F0; clear b1)
          | (go_at_call 165; go_must (refine (HW.out _ K0).mono ?_); rintro e w1 ⟨r, rfl, b1⟩; replace K0 := K0.call b1; replace F0 := K0.facts; simp only [factsL, cellsF, Nat.reduceAdd, zf, zl] at F0; clear b1)
          | (go_at_call 210; go_must (refine (HI.out _ K0).mono ?_); rintro e w1 ⟨r, rfl, b1⟩; replace K0 := K0.call b1; replace F0 := K0.facts; simp only [factsL, cellsF, Nat.reduceAdd, zf, zl] at F0; clear b1)
          | (go_at_call 211; go_must (refine (HS.out _ K0).mono ?_); rintro e w1 ⟨r, rfl, b1⟩; replace K0 := K0.call b1; replace F0 := K0.facts; simp only [factsL, cellsF, Nat.reduceAdd, zf, zl] at F0; clear b1))
        all_goals (go_ret; exact ⟨_, rfl, K0.below, fun h _ => (nomatch h)⟩)
       ·go_wp2_with fail
        all_goals (go_ret; exact ⟨_, rfl, K0.below, fun h _ => (nomatch h)⟩)
     ·go_wp2_with fail
      all_goals (go_ret; exact ⟨_, rfl, K0.below, fun h _ => (nomatch h)⟩)
   ·go_wp2_with fail
    all_goals (go_ret; exact ⟨_, rfl, K0.below, fun h _ => (nomatch h)⟩)
end Go.Proofs.YtdkebcfkchhlmaaGreatDoor

namespace Go.Proofs.YtdkebcfkchhlmaaGreatDoor
open Go.RowKit
theorem vaction_ret (d : Nat) (a : Ac) (w : World) (hx : Ro w None_ (AcIn d a)) (hg : AcGd d a) : Calls Tryz.prog 166 #[.agg #[.int .i64 a.kind, .string a.tab, .slice a.rows.A a.rows.n a.rows.c, .slice a.qs.A a.qs.n a.qs.c, .slice a.sets.A a.sets.n a.sets.c, .slice a.wh.A a.wh.n a.wh.c, .string a.text]] w fun e w' => ActRet a.kind a.sets.n w e w' := by
 obtain ⟨kind, tab, ⟨rA, rn, rc, rl⟩, ⟨qA, qn, qc, ql⟩, ⟨sA, sn, sc, sl⟩, ⟨hA, hn, hc, hl⟩, text⟩ := a
 have hk : 1 ≤ kind ∧ kind ≤ 5 := hg.k
 obtain rfl | rfl | rfl | rfl | rfl : kind = 1 ∨ kind = 2 ∨ kind = 3 ∨ kind = 4 ∨ kind = 5 := by omega
 ·exact vaction1 d tab rA rn rc rl qA qn qc ql sA sn sc sl hA hn hc hl text w hx hg
 ·exact vaction2 d tab rA rn rc rl qA qn qc ql sA sn sc sl hA hn hc hl text w hx hg
 ·exact vaction3 d tab rA rn rc rl qA qn qc ql sA sn sc sl hA hn hc hl text w hx hg
 ·exact vaction4 d tab rA rn rc rl qA qn qc ql sA sn sc sl hA hn hc hl text w hx hg
 ·exact vaction5 d tab rA rn rc rl qA qn qc ql sA sn sc sl hA hn hc hl text w hx hg
end Go.Proofs.YtdkebcfkchhlmaaGreatDoor

/- RankBreaks: for every kind, limit and width: an insert into the table by an AFTER trigger, an assignment that does not lower the column, a BEFORE trigger that sets it, a guard that is wider, a step of 0, and limits too far apart break a certificate that holds; a harmless trigger does not. No condition. -/
import Derived.Test.YtkpbnlbhfhkhcaaRkSaidMC
import Derived.Deep.DeepCutAuto
import Derived.Deep.CutBlock
import Derived.Deep.CutRange
import Derived.WalkKit
import Derived.ProofKit
import Derived.OpenShut
import Derived.Below
import Derived.ChangeSame
import Derived.Test.YtkpbnlbhfhkhcaaRkSaidMA
import Derived.IntWalk
import Derived.RowKit
import Derived.Test.YtkpbnlbhfhkhcaaRows
import Derived.SizedLaws
namespace Go.Proofs.Ytkpbnlbhfhkhcaa
open Go.RowKit
set_option linter.unusedVariables false
set_option linter.unusedSimpArgs false

/-- what the ways of the switch leave: a list of one trigger and another one, under which the first one's certificate does not hold -/
structure Broken (lt ot : Tg) : Prop where
  b : lt.before = false
  r : ∃ r, lt.rank.l = [r] ∧ I64 r.lo ∧ I64 r.hi
  f : TgFit 3 lt
  g : TgFit 3 ot
  z : ∀ tabs, TabsR tabs → certB 3 [lt, ot] tabs 0 = false
/-- items by their places, in any order -/
theorem pick_apart {L : List Hp} (h : Apart L) : ∀ (is : List Nat), is.Nodup → Apart (is.filterMap (fun i => L[i]?))
  | [], _ => trivial
  | i :: is, hn => by
    obtain ⟨h1, h2⟩ := List.nodup_cons.1 hn
    have ih := pick_apart h is h2
    rw [List.filterMap_cons]
    split
    · exact ih
    · rename_i a ha
      refine ⟨fun b hb k hk => ?_, ih⟩
      obtain ⟨j, hj, hjk⟩ := List.mem_filterMap.1 hk
      exact h.mem ha hjk (fun e => h1 (e ▸ hj)) hb
theorem Hold.pick {M : Nat → Prop} {row : Option Nat} {w0 w : World} {L : List Hp} (K : Hold M row w0 w L) (is : List Nat) (hn : is.Nodup) {L' : List Hp} (hL : is.filterMap (fun i => L[i]?) = L') : Hold M row w0 w L' := by
  subst hL
  have hmem : ∀ a ∈ is.filterMap (fun i => L[i]?), a ∈ L := fun a ha => by
    obtain ⟨j, _, hj⟩ := List.mem_filterMap.1 ha
    exact List.mem_of_getElem? hj
  have e : ∀ b, Mut M (is.filterMap (fun i => L[i]?)) b → Mut M L b := fun b hb => by
    rcases hb with hb | ⟨k, hk, hf⟩
    · exact .inl hb
    · exact .inr ⟨k, hmem k hk, hf⟩
  refine ⟨K.grow, K.low, fun k hk => ?_, fun k hk => K.fresh k (hmem k hk), pick_apart K.sep is hn⟩
  exact Hp.sat_step (k := k) (K.sat k (hmem k hk)) (Nat.le_refl _) (fun _ _ _ => rfl) (fun b _ hb => e b hb) (fun _ _ => rfl) (fun _ _ _ _ => rfl)
/-- the other trigger with its actions -/
def othT (acts : SlP Ac) : Tg := ⟨⟨#[98]⟩, ⟨#[108, 111, 103]⟩, false, 1, SlP.nil, false, SlP.nil, SlP.nil, SlP.nil, SlP.nil, acts⟩
def befT (acts : SlP Ac) : Tg := ⟨⟨#[98]⟩, ⟨#[117]⟩, true, 2, SlP.nil, true, SlP.nil, SlP.nil, SlP.nil, SlP.nil, acts⟩
def acsS (gz : Nat) (l : List Ac) : SlP Ac := ⟨some ⟨gz, 0, none⟩, l.length, l.length, l⟩
theorem acs_block {w : World} {M : Nat → Prop} {g : Nat} {t : TypeId} {cs : Array Value} {l : List Ac} (h : Ro w M (fun w => w.heap[g]? = some (.cells cs t (0, 0)))) (hl : cs.toList = l.flatMap Ac.cells) (hr : ∀ x ∈ l, Ro w M (AcIn 3 x)) : Ro w M (AcsIn 3 (some ⟨g, 0, none⟩) l.length l) := by
  have h1 : Ro w M (SlR 7 (some ⟨g, 0, none⟩) l.length cs.toList) := ro_block h (by rw [hl, flat_len _ 7 (fun _ => rfl)])
  rw [hl] at h1
  exact h1.and fun w2 a b x hx => hr x hx w2 a b
theorem oth_in {w : World} {M : Nat → Prop} {s : SlP Ac} (h : Ro w M (AcsIn 3 s.A s.n s.l)) : Ro w M (TgIn 3 (othT s)) := h.imp fun w2 h2 => ⟨SlP.nil_in _ _ _ _, SlP.nil_in _ _ _ _, SlP.nil_in _ _ _ _, SlP.nil_in _ _ _ _, SlP.nil_in _ _ _ _, h2⟩
theorem bef_in {w : World} {M : Nat → Prop} {s : SlP Ac} (h : Ro w M (AcsIn 3 s.A s.n s.l)) : Ro w M (TgIn 3 (befT s)) := h.imp fun w2 h2 => ⟨SlP.nil_in _ _ _ _, SlP.nil_in _ _ _ _, SlP.nil_in _ _ _ _, SlP.nil_in _ _ _ _, SlP.nil_in _ _ _ _, h2⟩
/-- an update that assigns a number -/
def setA (kind : Int) (tab col : ByteArray) (gs : Nat) : Ac := ⟨kind, tab, SlP.nil, SlP.nil, ⟨some ⟨gs, 0, none⟩, 1, 1, [⟨col, litE ⟨1, 1, ⟨#[]⟩⟩⟩]⟩, SlP.nil, ⟨#[]⟩⟩
theorem lit3 (v : Vl) (w : World) : ExIn 3 (litE v) w := (lit_in v w).more.more
theorem setA_in {w : World} {M : Nat → Prop} {kind : Int} {tab col : ByteArray} {gs : Nat} {t : TypeId} (h : Ro w M (fun w => w.heap[gs]? = some (.cells #[.string col, .int .i64 1, .int .i64 0, .bool false, .int .i64 1, .int .i64 1, .string ⟨#[]⟩, .string ⟨#[]⟩, .string ⟨#[]⟩, .slice none 0 0, .slice none 0 0] t (0, 0)))) : Ro w M (AcIn 3 (setA kind tab col gs)) :=
  (show Ro w M (SlR 11 (some ⟨gs, 0, none⟩) 1 [.string col, .int .i64 1, .int .i64 0, .bool false, .int .i64 1, .int .i64 1, .string ⟨#[]⟩, .string ⟨#[]⟩, .string ⟨#[]⟩, .slice none 0 0, .slice none 0 0]) from ro_block h rfl).imp fun w2 h2 => ⟨SlP.nil_in _ _ _ _, SlP.nil_in _ _ _ _, ⟨h2, fun s hs => by
    have hs : s ∈ [(⟨col, litE ⟨1, 1, ⟨#[]⟩⟩⟩ : Se)] := hs
    simp only [List.mem_cons, List.not_mem_nil, or_false] at hs
    subst hs
    exact lit3 _ _⟩, SlP.nil_in _ _ _ _⟩
theorem setA_w (kind : Int) (tab col : ByteArray) (gs d : Nat) : acW d (setA kind tab col gs) ≤ 20 := by
  rcases d with _ | d <;> simp [acW, setA, rrW, sesW, qusW, exsW, SlP.nil, exW, litE]
theorem setsOf_one (a : Ac) : (setsOf [a]).length ≤ a.sets.l.length := by
  unfold setsOf
  simp only [List.flatMap_cons, List.flatMap_nil, List.append_nil]
  split <;> simp
theorem one_fit {t : Tg} {a : Ac} (h1 : t.acts.l = [a]) (h2 : t.acts.n = 1) (h3 : t.rank.n ≤ 1) (h4 : t.cond.l = []) (hw : acW 3 a ≤ 100) (hs : a.sets.l.length ≤ 10) (hn : a.sets.n ≤ 1 ∧ a.wh.n ≤ 1) : TgFit 3 t := by
  refine fit_of (by omega) (by omega) h4 ?_ ?_ ?_
  · rw [h1]; unfold acsW; simp only [List.map_cons, List.map_nil, List.sum_cons, List.sum_nil]; omega
  · rw [h1]; have := setsOf_one a; omega
  · intro b hb
    rw [h1] at hb
    simp only [List.mem_cons, List.not_mem_nil, or_false] at hb
    subst hb
    exact hn
def LowS (M : Nat → Prop) (k lo hi : Int) (u : Value) (w : World) : Prop := ∃ a : Ac, u = a.val ∧ LowAc bs_u ⟨#[110]⟩ k lo hi a ∧ AcSm a ∧ Ro w M (AcIn 3 a)
def AcS1 (M : Nat → Prop) (k lo hi : Int) (u : Value) (w : World) : Prop := ∃ (g : Nat) (a : Ac), u = .slice (some ⟨g, 0, none⟩) 1 1 ∧ LowAc bs_u ⟨#[110]⟩ k lo hi a ∧ AcSm a ∧ Ro w M (AcsIn 3 (some ⟨g, 0, none⟩) 1 [a])
def AcS2 (M : Nat → Prop) (b : Ac) (k lo hi : Int) (u : Value) (w : World) : Prop := ∃ (C : Option Addr) (c : Nat) (a : Ac), u = .slice C 2 c ∧ LowAc bs_u ⟨#[110]⟩ k lo hi a ∧ AcSm a ∧ Ro w M (AcsIn 3 C 2 [b, a])
theorem lowS_mono {M : Nat → Prop} {k lo hi : Int} (u : Value) (w w' : World) (hr : RM M w w') (h : LowS M k lo hi u w) : LowS M k lo hi u w' := by
  obtain ⟨a, h1, h2, h3, h4⟩ := h
  exact ⟨a, h1, h2, h3, hr.ro h4⟩
theorem acS1_mono {M : Nat → Prop} {k lo hi : Int} (u : Value) (w w' : World) (hr : RM M w w') (h : AcS1 M k lo hi u w) : AcS1 M k lo hi u w' := by
  obtain ⟨g, a, h1, h2, h3, h4⟩ := h
  exact ⟨g, a, h1, h2, h3, hr.ro h4⟩
theorem acS2_mono {M : Nat → Prop} {b : Ac} {k lo hi : Int} (u : Value) (w w' : World) (hr : RM M w w') (h : AcS2 M b k lo hi u w) : AcS2 M b k lo hi u w' := by
  obtain ⟨C, c, a, h1, h2, h3, h4⟩ := h
  exact ⟨C, c, a, h1, h2, h3, hr.ro h4⟩
theorem Try.elAc28 : ElemT Try.prog 26 43 7 136 (.agg #[.int .i64 0, .string ⟨#[]⟩, .slice none 0 0, .slice none 0 0, .slice none 0 0, .slice none 0 0, .string ⟨#[]⟩]) := ⟨Try.underlying26, by kernel_rfl, rfl, by omega⟩
/-- the trigger that lowers a column, with other actions -/
def desA (gr : Nat) (col : ByteArray) (lo hi : Int) (acts : SlP Ac) : Tg := ⟨⟨#[97]⟩, ⟨#[117]⟩, false, 2, SlP.nil, false, SlP.nil, SlP.nil, ⟨some ⟨gr, 0, none⟩, 1, 1, [⟨bs_u, col, lo, hi⟩]⟩, SlP.nil, acts⟩
theorem desA_in {w : World} {M : Nat → Prop} {gr ga : Nat} {col : ByteArray} {lo hi : Int} {a : Ac} {C : Option Addr} {n c : Nat} {l : List Ac} (h : Ro w M (TgIn 3 (desT gr ga col lo hi a))) (h2 : Ro w M (AcsIn 3 C n l)) : Ro w M (TgIn 3 (desA gr col lo hi ⟨C, n, c, l⟩)) :=
  (h.and h2).imp fun w2 h3 => ⟨SlP.nil_in _ _ _ _, SlP.nil_in _ _ _ _, SlP.nil_in _ _ _ _, h3.1.ranks, SlP.nil_in _ _ _ _, h3.2⟩
theorem desA_fit {gr : Nat} {col : ByteArray} {k lo hi k2 lo2 hi2 : Int} {a b : Ac} {C : Option Addr} {c : Nat} (h : LowAc bs_u col k lo hi a) (hs : AcSm a) (h2 : LowAc bs_u col k2 lo2 hi2 b) (hs2 : AcSm b) : TgFit 3 (desA gr col lo hi ⟨C, 2, c, [a, b]⟩) := by
  refine fit_of (by show 2 ≤ 100; omega) (by show 1 ≤ 100; omega) rfl ?_ ?_ ?_
  · show (([a, b] : List Ac).map (acW 3)).sum ≤ 1000
    have := low_w h hs 3
    have := low_w h2 hs2 3
    simp only [List.map_cons, List.map_nil, List.sum_cons, List.sum_nil]
    omega
  · show (setsOf [a, b]).length ≤ 1000
    rw [setsOf_two (fun x hx => by
      simp only [List.mem_cons, List.not_mem_nil, or_false] at hx
      rcases hx with rfl | rfl
      · rw [h.1]; decide
      · rw [h2.1]; decide)]
    simp
  · intro x hx
    have hx : x ∈ [a, b] := hx
    simp only [List.mem_cons, List.not_mem_nil, or_false] at hx
    rcases hx with rfl | rfl
    · exact ⟨hs.s, hs.h⟩
    · exact ⟨hs2.s, hs2.h⟩
theorem oth0_in (w : World) (M : Nat → Prop) : Ro w M (TgIn 3 (othT SlP.nil)) := oth_in (s := SlP.nil) (fun w2 _ _ => SlP.nil_in 7 Ac.cells (AcIn 3) w2)
theorem oth0_fit : TgFit 3 (othT SlP.nil) := fit_of (by decide) (by decide) rfl (by decide) (by decide) (fun a ha => (nomatch ha))
theorem Try.elTg28 : ElemT Try.prog 30 28 11 200 (.agg #[.string ⟨#[]⟩, .string ⟨#[]⟩, .bool false, .int .i64 0, .slice none 0 0, .bool false, .slice none 0 0, .slice none 0 0, .slice none 0 0, .slice none 0 0, .slice none 0 0]) := ⟨Try.underlying30, by kernel_rfl, rfl, by omega⟩
theorem Rd.ro_blk {w : World} {g : Nat} {t : TypeId} {cs : Array Value} (h : Blk w g t cs) : Ro w None_ (fun w => w.heap[g]? = some (.cells cs t (0, 0))) := fun w' h1 h2 => (h2 g (Blk.lt h) (fun hb => hb.elim)).trans h
def delA : Ac := ⟨3, ⟨#[117]⟩, SlP.nil, SlP.nil, SlP.nil, SlP.nil, ⟨#[]⟩⟩
theorem delA_in (d : Nat) (w : World) : AcIn d delA w := ⟨SlP.nil_in _ _ _ _, SlP.nil_in _ _ _ _, SlP.nil_in _ _ _ _, SlP.nil_in _ _ _ _⟩
/-- the trigger that leaves the column -/
def hmT (g : Nat) (l : List Ac) : Tg := ⟨⟨#[99]⟩, ⟨#[108, 111, 103]⟩, false, 1, SlP.nil, false, SlP.nil, SlP.nil, SlP.nil, SlP.nil, ⟨some ⟨g, 0, none⟩, 3, 3, l⟩⟩
theorem hm_in {w : World} {M : Nat → Prop} {g : Nat} {l : List Ac} (h : Ro w M (AcsIn 3 (some ⟨g, 0, none⟩) 3 l)) : Ro w M (TgIn 3 (hmT g l)) := h.imp fun w2 h2 => ⟨SlP.nil_in _ _ _ _, SlP.nil_in _ _ _ _, SlP.nil_in _ _ _ _, SlP.nil_in _ _ _ _, SlP.nil_in _ _ _ _, h2⟩
theorem hm_fit {g gs : Nat} {k lo hi : Int} {b : Ac} (h : LowAc bs_u bs_n k lo hi b) (hs : AcSm b) : TgFit 3 (hmT g [delA, b, setA 2 ⟨#[117]⟩ bs_m gs]) := by
  refine fit_of (by show 3 ≤ 100; omega) (by show 0 ≤ 100; omega) rfl ?_ ?_ ?_
  · show (([delA, b, setA 2 ⟨#[117]⟩ bs_m gs] : List Ac).map (acW 3)).sum ≤ 1000
    have h1 : acW 3 delA ≤ 20 := by decide
    have h2 := low_w h hs 3
    have h3 := setA_w 2 ⟨#[117]⟩ bs_m gs 3
    simp only [List.map_cons, List.map_nil, List.sum_cons, List.sum_nil]
    omega
  · show (setsOf [delA, b, setA 2 ⟨#[117]⟩ bs_m gs]).length ≤ 1000
    rw [setsOf_two (fun x hx => by
      simp only [List.mem_cons, List.not_mem_nil, or_false] at hx
      rcases hx with rfl | rfl | rfl
      · decide
      · rw [h.1]; decide
      · show (2 : Int) ≠ 5; decide)]
    simp
  · intro x hx
    have hx : x ∈ [delA, b, setA 2 ⟨#[117]⟩ bs_m gs] := hx
    simp only [List.mem_cons, List.not_mem_nil, or_false] at hx
    rcases hx with rfl | rfl | rfl
    · exact ⟨by decide, by decide⟩
    · exact ⟨hs.s, hs.h⟩
    · exact ⟨Nat.le_refl _, Nat.zero_le _⟩
set_option maxRecDepth 100000 in
set_option maxHeartbeats 32000000 in
theorem rankBreaks_walk (kind low width : Int) (w : World) (hk : I64 kind) (hl : I64 low) (hw : I64 width) : Calls Try.prog 3 #[.int .i64 kind, .int .i64 low, .int .i64 width] w fun e w' => e = .returned (.bool true) ∧ Below w.heap.size w w' := by
  have K0 := Hold.begin_ w
  have m1 : I64 (low.tmod 1000) := by
    have h1 := Int.lt_tmod_of_pos low (b := 1000) (by omega)
    have h2 := Int.tmod_lt_of_pos low (b := 1000) (by omega)
    exact ⟨by omega, by omega⟩
  have C1 := wmod_any (low.tmod 1000) 1000 w m1 (by omega) (by omega)
  have C2 := wmod_any width 1000 w hw (by omega) (by omega)
  have hlo : 0 ≤ low.tmod 1000 % 1000 ∧ low.tmod 1000 % 1000 < 1000 := ⟨Int.emod_nonneg _ (by omega), Int.emod_lt_of_pos _ (by omega)⟩
  have hwd : 0 ≤ width % 1000 ∧ width % 1000 < 1000 := ⟨Int.emod_nonneg _ (by omega), Int.emod_lt_of_pos _ (by omega)⟩
  generalize low.tmod 1000 % 1000 = lo at *
  generalize width % 1000 = wd at *
  have hw1 : IntKind.i64.wrap (lo + wd) = lo + wd := IntWalk.i64_in _ (by omega)
  have HC1 := hid C1
  have HC2 := hid C2
  clear C1 C2 m1
  go_enter Try.func3, Try.ntmps3
  go_wp2_with fail
  refine HC1.out.mono ?_
  rintro e w' ⟨rfl, rfl⟩
  go_wp2_with fail
  refine HC2.out.mono ?_
  rintro e w' ⟨rfl, rfl⟩
  clear HC1 HC2
  go_wp2_with fail
  have hb : lo ≤ lo + wd ∧ lo + wd ≤ 1998 := by omega
  clear hw1
  generalize lo + wd = hi at *
  refine (descends_any _ _ K0.mutLt ⟨#[110]⟩ 1 lo hi (by omega) (by omega) (by omega)).mono ?_
  rintro e w1 ⟨gr, ga, a, rfl, hl1, hs1, rt, b1⟩
  have K1 := ((K0.call b1).add rt).alloc_cst #[.string ⟨#[97]⟩, .string ⟨#[117]⟩, .bool false, .int .i64 2, .slice none 0 0, .bool false, .slice none 0 0, .slice none 0 0, .slice (some ⟨gr, 0, none⟩) 1 1, .slice none 0 0, .slice (some ⟨ga, 0, none⟩) 1 1] 28
  have HL := hid hl1
  have HSM := hid hs1
  clear K0 b1 rt hl1 hs1
  rw [show (desT gr ga ⟨#[110]⟩ lo hi a).val = .agg #[.string ⟨#[97]⟩, .string ⟨#[117]⟩, .bool false, .int .i64 2, .slice none 0 0, .bool false, .slice none 0 0, .slice none 0 0, .slice (some ⟨gr, 0, none⟩) 1 1, .slice none 0 0, .slice (some ⟨ga, 0, none⟩) 1 1] from rfl]
  obtain ⟨gx, hgx⟩ : ∃ gx, gx = w1.heap.size := ⟨_, rfl⟩
  rw [← hgx] at K1
  have K2 := K1.alloc #[.string ⟨#[97]⟩, .string ⟨#[117]⟩, .bool false, .int .i64 2, .slice none 0 0, .bool false, .slice none 0 0, .slice none 0 0, .slice (some ⟨gr, 0, none⟩) 1 1, .slice none 0 0, .slice (some ⟨ga, 0, none⟩) 1 1] 28
  rw [World.size_alloc, ← hgx] at K2
  obtain ⟨gl, hgl⟩ : ∃ gl, gl = gx + 1 := ⟨_, rfl⟩
  rw [← hgl] at K2
  have F2 := K2.facts
  simp only [World.size_alloc, World.size_drew, factsL, cellsF, Nat.reduceAdd, List.toList_toArray, List.set_cons_zero, List.set_cons_succ, List.setIfInBounds_toArray, and_true, true_and] at F2
  clear K1
  go_wp2_with fail
  rw [← hgx]
  try rw [← hgl]
  have HG := hid (And.intro hgx hgl)
  clear hgx hgl
  refine (tables_slot _ K2.mutLt).mono ?_
  rintro e w2 ⟨u, rfl, ⟨A2, c2, l2, rfl, hT2, hc2, rT2⟩, b2⟩
  have K3 := (K2.call b2).add rT2
  clear K2 F2 b2 rT2
  have F3 := K3.facts
  simp only [World.size_alloc, World.size_drew, factsL, cellsF, Nat.reduceAdd, List.toList_toArray, List.set_cons_zero, List.set_cons_succ, List.setIfInBounds_toArray, and_true, true_and] at F3
  have hM0 : ∀ b, None_ b → b < w2.heap.size := fun b hb => hb.elim
  have hTG : TgS None_ 1 [desT gr ga ⟨#[110]⟩ lo hi a] (.slice (some ⟨gl, 0, none⟩) 1 1) w2 := ⟨_, 1, rfl, tgs_block (l := [desT gr ga ⟨#[110]⟩ lo hi a]) (t := 28) (cs := #[.string ⟨#[97]⟩, .string ⟨#[117]⟩, .bool false, .int .i64 2, .slice none 0 0, .bool false, .slice none 0 0, .slice none 0 0, .slice (some ⟨gr, 0, none⟩) 1 1, .slice none 0 0, .slice (some ⟨ga, 0, none⟩) 1 1]) (fun w' h1 h2 => (h2 gl (Blk.lt (K3.blk_ 1 rfl)) (fun h => h.elim)).trans (K3.blk_ 1 rfl)) rfl (fun x hx => by
    simp only [List.mem_cons, List.not_mem_nil, or_false] at hx
    subst hx
    exact (K3.ro 3 rfl).less (fun b hb => hb.elim))⟩
  have hTE : TeS None_ (.slice A2 3 c2) w2 := ⟨A2, c2, l2, rfl, hT2, hc2, (K3.ro 0 rfl).less (fun b hb => hb.elim)⟩
  have hI1 : I64 lo := ⟨by omega, by omega⟩
  have hI2 : I64 hi := ⟨by omega, by omega⟩
  have hce := cert_slot (z := true) hM0 hTG hTE (fun x hx => by
    simp only [List.mem_cons, List.not_mem_nil, or_false] at hx
    subst hx
    exact des_fit HL.out HSM.out 3) rfl rfl ⟨hI1, hI2⟩ (fun tabs hT => cert_alone hT (des_is HL.out) hI1 hI2 hb.1 (by omega)) (by omega)
  go_wp2_with fail
  refine hce.mono ?_
  rintro e w3 ⟨rfl, b3⟩
  have K4 := (K3.call b3).drop (List.sublist_cons_self _ _)
  clear K3 F3 b3 hTG hTE hce hT2 hc2 hM0
  have K5 := K4.alloc #[.string ⟨#[98]⟩, .string ⟨#[108, 111, 103]⟩, .bool false, .int .i64 1, .slice none 0 0, .bool false, .slice none 0 0, .slice none 0 0, .slice none 0 0, .slice none 0 0, .slice none 0 0] 28
  obtain ⟨go, hgo⟩ : ∃ go, go = w3.heap.size := ⟨_, rfl⟩
  rw [← hgo] at K5
  have F4 := K4.facts
  simp only [World.size_alloc, World.size_drew, factsL, cellsF, Nat.reduceAdd, List.toList_toArray, List.set_cons_zero, List.set_cons_succ, List.setIfInBounds_toArray, and_true, true_and] at F4
  have hq6 : 0 ≤ kind % 6 ∧ kind % 6 < 6 := ⟨Int.emod_nonneg _ (by omega), Int.emod_lt_of_pos _ (by omega)⟩
  go_wp2_with fail
  refine (wmod_any kind 6 _ hk (by omega) (by omega)).mono ?_
  rintro e w' ⟨rfl, rfl⟩
  generalize kind % 6 = q at *
  rw [← hgo]
  have HGO := hid hgo
  clear hgo F4
  go_upto_block 0 with fail
  go_cut [6] (fun _ wx => ∃ lt ot : Tg, Broken lt ot ∧ Hold None_ none w wx [.blk gl 28 #[.string lt.name, .string lt.tab, .bool lt.before, .int .i64 lt.event, .slice lt.cols.A lt.cols.n lt.cols.c, .bool lt.each, .slice lt.prec.A lt.prec.n lt.prec.c, .slice lt.foll.A lt.foll.n lt.foll.c, .slice lt.rank.A lt.rank.n lt.rank.c, .slice lt.cond.A lt.cond.n lt.cond.c, .slice lt.acts.A lt.acts.n lt.acts.c], .blk go 28 #[.string ot.name, .string ot.tab, .bool ot.before, .int .i64 ot.event, .slice ot.cols.A ot.cols.n ot.cols.c, .bool ot.each, .slice ot.prec.A ot.prec.n ot.prec.c, .slice ot.foll.A ot.foll.n ot.foll.c, .slice ot.rank.A ot.rank.n ot.rank.c, .slice ot.cond.A ot.cond.n ot.cond.c, .slice ot.acts.A ot.acts.n ot.acts.c], .cst gx 28 #[.string ⟨#[97]⟩, .string ⟨#[117]⟩, .bool false, .int .i64 2, .slice none 0 0, .bool false, .slice none 0 0, .slice none 0 0, .slice (some ⟨gr, 0, none⟩) 1 1, .slice none 0 0, .slice (some ⟨ga, 0, none⟩) 1 1], .ro (TgIn 3 lt), .ro (TgIn 3 ot), .ro (TgIn 3 (desT gr ga ⟨#[110]⟩ lo hi a))])
  case first =>
    have H0 : q = 0 ∨ q = 1 ∨ q = 2 ∨ q = 3 ∨ q = 4 ∨ q = 5 := by omega
    rcases H0 with rfl | rfl | rfl | rfl | rfl | rfl
    · go_wp2_with fail
      refine (num0_any _ 1 (by omega)).mono ?_
      rintro e w4 ⟨rfl, b4⟩
      have K6 := K5.call b4
      rw [show (litE ⟨1, 1, ⟨#[]⟩⟩).val = .agg #[.int .i64 1, .int .i64 0, .bool false, .int .i64 1, .int .i64 1, .string ⟨#[]⟩, .string ⟨#[]⟩, .string ⟨#[]⟩, .slice none 0 0, .slice none 0 0] from rfl]
      clear b4 K5 K4
      go_wp2_with fail
      refine (num0_any _ 1 (by omega)).mono ?_
      rintro e w5 ⟨rfl, b5⟩
      have K7 := K6.call b5
      rw [show (litE ⟨1, 1, ⟨#[]⟩⟩).val = .agg #[.int .i64 1, .int .i64 0, .bool false, .int .i64 1, .int .i64 1, .string ⟨#[]⟩, .string ⟨#[]⟩, .string ⟨#[]⟩, .slice none 0 0, .slice none 0 0] from rfl]
      clear b5 K6
      go_wp2_with fail
      refine (num0_any _ 1 (by omega)).mono ?_
      rintro e w6 ⟨rfl, b6⟩
      have K8 := K7.call b6
      rw [show (litE ⟨1, 1, ⟨#[]⟩⟩).val = .agg #[.int .i64 1, .int .i64 0, .bool false, .int .i64 1, .int .i64 1, .string ⟨#[]⟩, .string ⟨#[]⟩, .string ⟨#[]⟩, .slice none 0 0, .slice none 0 0] from rfl]
      clear b6 K7
      have K9 := (K8.alloc_cst #[.int .i64 1, .int .i64 0, .bool false, .int .i64 1, .int .i64 1, .string ⟨#[]⟩, .string ⟨#[]⟩, .string ⟨#[]⟩, .slice none 0 0, .slice none 0 0, .int .i64 1, .int .i64 0, .bool false, .int .i64 1, .int .i64 1, .string ⟨#[]⟩, .string ⟨#[]⟩, .string ⟨#[]⟩, .slice none 0 0, .slice none 0 0, .int .i64 1, .int .i64 0, .bool false, .int .i64 1, .int .i64 1, .string ⟨#[]⟩, .string ⟨#[]⟩, .string ⟨#[]⟩, .slice none 0 0, .slice none 0 0] 38).alloc_cst #[.slice (some ⟨w6.heap.size, 0, none⟩) 3 3] 25
      rw [World.size_alloc] at K9
      have KA := K9.alloc_cst #[.int .i64 1, .string ⟨#[117]⟩, .slice (some ⟨w6.heap.size + 1, 0, none⟩) 1 1, .slice none 0 0, .slice none 0 0, .slice none 0 0, .string ⟨#[]⟩] 43
      rw [World.size_alloc, World.size_alloc] at KA
      have FA := KA.facts
      simp only [World.size_alloc, World.size_drew, factsL, cellsF, Nat.reduceAdd, List.toList_toArray, List.set_cons_zero, List.set_cons_succ, List.setIfInBounds_toArray, and_true, true_and] at FA
      have KB := KA.store 3 rfl 10 (.slice (some ⟨w6.heap.size + 1 + 1, 0, none⟩) 1 1)
      simp only [List.set_cons_zero, List.set_cons_succ, List.setIfInBounds_toArray] at KB
      have hE : Ro _ _ (ExsIn 3 (some ⟨w6.heap.size, 0, none⟩) 3 [litE ⟨1, 1, ⟨#[]⟩⟩, litE ⟨1, 1, ⟨#[]⟩⟩, litE ⟨1, 1, ⟨#[]⟩⟩]) := exs_block (l := [litE ⟨1, 1, ⟨#[]⟩⟩, litE ⟨1, 1, ⟨#[]⟩⟩, litE ⟨1, 1, ⟨#[]⟩⟩]) (KB.get 2 rfl) rfl (fun x hx w2 _ _ => by
        simp only [List.mem_cons, List.not_mem_nil, or_false] at hx
        rcases hx with rfl | rfl | rfl <;> exact lit3 _ _)
      have hR : Ro _ _ (RrsIn 3 (some ⟨w6.heap.size + 1, 0, none⟩) 1 [⟨some ⟨w6.heap.size, 0, none⟩, 3, 3, [litE ⟨1, 1, ⟨#[]⟩⟩, litE ⟨1, 1, ⟨#[]⟩⟩, litE ⟨1, 1, ⟨#[]⟩⟩]⟩]) := (show Ro _ _ (SlR 1 (some ⟨w6.heap.size + 1, 0, none⟩) 1 [.slice (some ⟨w6.heap.size, 0, none⟩) 3 3]) from ro_block (KB.get 1 rfl) rfl).and (hE.imp fun w2 h2 r hr => by
        simp only [List.mem_cons, List.not_mem_nil, or_false] at hr
        subst hr
        exact h2)
      have hA := acs_block (l := [⟨1, ⟨#[117]⟩, ⟨some ⟨w6.heap.size + 1, 0, none⟩, 1, 1, [⟨some ⟨w6.heap.size, 0, none⟩, 3, 3, [litE ⟨1, 1, ⟨#[]⟩⟩, litE ⟨1, 1, ⟨#[]⟩⟩, litE ⟨1, 1, ⟨#[]⟩⟩]⟩]⟩, SlP.nil, SlP.nil, SlP.nil, ⟨#[]⟩⟩]) (KB.get 0 rfl) rfl (fun x hx => by
        simp only [List.mem_cons, List.not_mem_nil, or_false] at hx
        subst hx
        exact hR.imp fun w2 h2 => ⟨h2, SlP.nil_in _ _ _ _, SlP.nil_in _ _ _ _, SlP.nil_in _ _ _ _⟩)
      have hO := oth_in (s := acsS (w6.heap.size + 1 + 1) [⟨1, ⟨#[117]⟩, ⟨some ⟨w6.heap.size + 1, 0, none⟩, 1, 1, [⟨some ⟨w6.heap.size, 0, none⟩, 3, 3, [litE ⟨1, 1, ⟨#[]⟩⟩, litE ⟨1, 1, ⟨#[]⟩⟩, litE ⟨1, 1, ⟨#[]⟩⟩]⟩]⟩, SlP.nil, SlP.nil, SlP.nil, ⟨#[]⟩⟩]) hA
      have KC := (KB.add hO).add ((KB.ro 6 rfl).less (by simp [mut_cons, Hp.foot]))
      have KD := KC.pick [6, 5, 7, 0, 1, 8] (by decide) rfl
      have HBR : Broken (desT gr ga ⟨#[110]⟩ lo hi a) (othT (acsS (w6.heap.size + 1 + 1) [⟨1, ⟨#[117]⟩, ⟨some ⟨w6.heap.size + 1, 0, none⟩, 1, 1, [⟨some ⟨w6.heap.size, 0, none⟩, 3, 3, [litE ⟨1, 1, ⟨#[]⟩⟩, litE ⟨1, 1, ⟨#[]⟩⟩, litE ⟨1, 1, ⟨#[]⟩⟩]⟩]⟩, SlP.nil, SlP.nil, SlP.nil, ⟨#[]⟩⟩])) := ⟨rfl, ⟨_, rfl, hI1, hI2⟩, des_fit HL.out HSM.out 3, one_fit (a := ⟨1, ⟨#[117]⟩, ⟨some ⟨w6.heap.size + 1, 0, none⟩, 1, 1, [⟨some ⟨w6.heap.size, 0, none⟩, 3, 3, [litE ⟨1, 1, ⟨#[]⟩⟩, litE ⟨1, 1, ⟨#[]⟩⟩, litE ⟨1, 1, ⟨#[]⟩⟩]⟩]⟩, SlP.nil, SlP.nil, SlP.nil, ⟨#[]⟩⟩) rfl rfl (Nat.zero_le _) rfl (by simp [acW, rrW, sesW, qusW, exsW, SlP.nil, exW, litE]) (by simp [SlP.nil]) ⟨by simp [SlP.nil], by simp [SlP.nil]⟩, fun tabs hT => cert_insert hT (des_is HL.out) hI1 hI2 hb.1 (by omega) (a := ⟨1, ⟨#[117]⟩, ⟨some ⟨w6.heap.size + 1, 0, none⟩, 1, 1, [⟨some ⟨w6.heap.size, 0, none⟩, 3, 3, [litE ⟨1, 1, ⟨#[]⟩⟩, litE ⟨1, 1, ⟨#[]⟩⟩, litE ⟨1, 1, ⟨#[]⟩⟩]⟩]⟩, SlP.nil, SlP.nil, SlP.nil, ⟨#[]⟩⟩) rfl rfl rfl rfl⟩
      clear KA KB KC hE hR hA hO K8 K9
      go_wp2_with fail
      go_meet
      exact ⟨_, _, HBR, KD⟩
    · go_wp2_with fail
      refine (num0_any _ 1 (by omega)).mono ?_
      rintro e w4 ⟨rfl, b4⟩
      have K6 := K5.call b4
      rw [show (litE ⟨1, 1, ⟨#[]⟩⟩).val = .agg #[.int .i64 1, .int .i64 0, .bool false, .int .i64 1, .int .i64 1, .string ⟨#[]⟩, .string ⟨#[]⟩, .string ⟨#[]⟩, .slice none 0 0, .slice none 0 0] from rfl]
      clear b4 K5 K4
      have K9 := K6.alloc_cst #[.string ⟨#[110]⟩, .int .i64 1, .int .i64 0, .bool false, .int .i64 1, .int .i64 1, .string ⟨#[]⟩, .string ⟨#[]⟩, .string ⟨#[]⟩, .slice none 0 0, .slice none 0 0] 45
      have KA := K9.alloc_cst #[.int .i64 2, .string ⟨#[117]⟩, .slice none 0 0, .slice none 0 0, .slice (some ⟨w4.heap.size, 0, none⟩) 1 1, .slice none 0 0, .string ⟨#[]⟩] 43
      rw [World.size_alloc] at KA
      have FA := KA.facts
      simp only [World.size_alloc, World.size_drew, factsL, cellsF, Nat.reduceAdd, List.toList_toArray, List.set_cons_zero, List.set_cons_succ, List.setIfInBounds_toArray, and_true, true_and] at FA
      have KB := KA.store 2 rfl 10 (.slice (some ⟨w4.heap.size + 1, 0, none⟩) 1 1)
      simp only [List.set_cons_zero, List.set_cons_succ, List.setIfInBounds_toArray] at KB
      have hA := acs_block (l := [setA 2 ⟨#[117]⟩ ⟨#[110]⟩ w4.heap.size]) (KB.get 0 rfl) rfl (fun x hx => by
        simp only [List.mem_cons, List.not_mem_nil, or_false] at hx
        subst hx
        exact setA_in (KB.get 1 rfl))
      have hO := oth_in (s := acsS (w4.heap.size + 1) [setA 2 ⟨#[117]⟩ ⟨#[110]⟩ w4.heap.size]) hA
      have KC := (KB.add hO).add ((KB.ro 5 rfl).less (by simp [mut_cons, Hp.foot]))
      have KD := KC.pick [5, 4, 6, 0, 1, 7] (by decide) rfl
      have HBR : Broken (desT gr ga ⟨#[110]⟩ lo hi a) (othT (acsS (w4.heap.size + 1) [setA 2 ⟨#[117]⟩ ⟨#[110]⟩ w4.heap.size])) := ⟨rfl, ⟨_, rfl, hI1, hI2⟩, des_fit HL.out HSM.out 3, one_fit (a := setA 2 ⟨#[117]⟩ ⟨#[110]⟩ w4.heap.size) rfl rfl (Nat.zero_le _) rfl (Nat.le_trans (setA_w _ _ _ _ _) (by omega)) (by simp [setA]) ⟨by simp [setA], by simp [setA, SlP.nil]⟩, fun tabs hT => cert_assign hT (des_is HL.out) hI1 hI2 hb.1 (by omega) (a := setA 2 ⟨#[117]⟩ ⟨#[110]⟩ w4.heap.size) rfl rfl rfl rfl rfl⟩
      clear KA KB KC hA hO K6 K9
      go_wp2_with fail
      go_meet
      exact ⟨_, _, HBR, KD⟩
    · go_wp2_with fail
      refine (num0_any _ 1 (by omega)).mono ?_
      rintro e w4 ⟨rfl, b4⟩
      have K6 := K5.call b4
      rw [show (litE ⟨1, 1, ⟨#[]⟩⟩).val = .agg #[.int .i64 1, .int .i64 0, .bool false, .int .i64 1, .int .i64 1, .string ⟨#[]⟩, .string ⟨#[]⟩, .string ⟨#[]⟩, .slice none 0 0, .slice none 0 0] from rfl]
      clear b4 K5 K4
      have K9 := K6.alloc_cst #[.string ⟨#[110]⟩, .int .i64 1, .int .i64 0, .bool false, .int .i64 1, .int .i64 1, .string ⟨#[]⟩, .string ⟨#[]⟩, .string ⟨#[]⟩, .slice none 0 0, .slice none 0 0] 45
      have KA := K9.alloc_cst #[.int .i64 5, .string ⟨#[]⟩, .slice none 0 0, .slice none 0 0, .slice (some ⟨w4.heap.size, 0, none⟩) 1 1, .slice none 0 0, .string ⟨#[]⟩] 43
      rw [World.size_alloc] at KA
      have FA := KA.facts
      simp only [World.size_alloc, World.size_drew, factsL, cellsF, Nat.reduceAdd, List.toList_toArray, List.set_cons_zero, List.set_cons_succ, List.setIfInBounds_toArray, and_true, true_and] at FA
      have KB := (((((((((((KA.store 2 rfl 0 (.string ⟨#[98]⟩)).store 2 rfl 1 (.string ⟨#[117]⟩)).store 2 rfl 2 (.bool true)).store 2 rfl 3 (.int .i64 2)).store 2 rfl 4 (.slice none 0 0)).store 2 rfl 5 (.bool true)).store 2 rfl 6 (.slice none 0 0)).store 2 rfl 7 (.slice none 0 0)).store 2 rfl 8 (.slice none 0 0)).store 2 rfl 9 (.slice none 0 0)).store 2 rfl 10 (.slice (some ⟨w4.heap.size + 1, 0, none⟩) 1 1))
      simp only [List.set_cons_zero, List.set_cons_succ, List.setIfInBounds_toArray] at KB
      have hA := acs_block (l := [setA 5 ⟨#[]⟩ ⟨#[110]⟩ w4.heap.size]) (KB.get 0 rfl) rfl (fun x hx => by
        simp only [List.mem_cons, List.not_mem_nil, or_false] at hx
        subst hx
        exact setA_in (KB.get 1 rfl))
      have hO := bef_in (s := acsS (w4.heap.size + 1) [setA 5 ⟨#[]⟩ ⟨#[110]⟩ w4.heap.size]) hA
      have KC := (KB.add hO).add ((KB.ro 5 rfl).less (by simp [mut_cons, Hp.foot]))
      have KD := KC.pick [5, 4, 6, 0, 1, 7] (by decide) rfl
      have HBR : Broken (desT gr ga ⟨#[110]⟩ lo hi a) (befT (acsS (w4.heap.size + 1) [setA 5 ⟨#[]⟩ ⟨#[110]⟩ w4.heap.size])) := ⟨rfl, ⟨_, rfl, hI1, hI2⟩, des_fit HL.out HSM.out 3, one_fit (a := setA 5 ⟨#[]⟩ ⟨#[110]⟩ w4.heap.size) rfl rfl (Nat.zero_le _) rfl (Nat.le_trans (setA_w _ _ _ _ _) (by omega)) (by simp [setA]) ⟨by simp [setA], by simp [setA, SlP.nil]⟩, fun tabs hT => cert_before hT (des_is HL.out) hI1 hI2 hb.1 (by omega) (a := setA 5 ⟨#[]⟩ ⟨#[110]⟩ w4.heap.size) rfl rfl rfl rfl rfl rfl rfl⟩
      clear KA KB KC hA hO K6 K9
      go_wp2_with fail
      go_meet
      exact ⟨_, _, HBR, KD⟩
    · have HKL0 := K5
      obtain ⟨KL, hKL⟩ : ∃ KL : List Hp, KL = [.blk go 28 #[.string ⟨#[98]⟩, .string ⟨#[108, 111, 103]⟩, .bool false, .int .i64 1, .slice none 0 0, .bool false, .slice none 0 0, .slice none 0 0, .slice none 0 0, .slice none 0 0, .slice none 0 0], .blk gl 28 #[.string ⟨#[97]⟩, .string ⟨#[117]⟩, .bool false, .int .i64 2, .slice none 0 0, .bool false, .slice none 0 0, .slice none 0 0, .slice (some ⟨gr, 0, none⟩) 1 1, .slice none 0 0, .slice (some ⟨ga, 0, none⟩) 1 1], .cst gx 28 #[.string ⟨#[97]⟩, .string ⟨#[117]⟩, .bool false, .int .i64 2, .slice none 0 0, .bool false, .slice none 0 0, .slice none 0 0, .slice (some ⟨gr, 0, none⟩) 1 1, .slice none 0 0, .slice (some ⟨ga, 0, none⟩) 1 1], .ro (TgIn 3 (desT gr ga ⟨#[110]⟩ lo hi a))] := ⟨_, rfl⟩
      have HX0 : ∀ wv : World, Hold None_ none w wv KL → Blk wv gl 28 #[.string ⟨#[97]⟩, .string ⟨#[117]⟩, .bool false, .int .i64 2, .slice none 0 0, .bool false, .slice none 0 0, .slice none 0 0, .slice (some ⟨gr, 0, none⟩) 1 1, .slice none 0 0, .slice (some ⟨ga, 0, none⟩) 1 1] := fun wv h => by rw [hKL] at h; exact h.blk_ 1 rfl
      have HT0 : ∀ wv : World, Hold None_ none w wv KL → Ro wv (Mut None_ KL) (TgIn 3 (desT gr ga ⟨#[110]⟩ lo hi a)) := fun wv h => by rw [hKL] at h ⊢; exact h.ro 3 rfl
      have HX := hid HX0
      have HTX := hid HT0
      have hs1 : IntKind.i64.wrap (hi + 1) = hi + 1 := IntWalk.i64_in _ (by omega)
      rw [← hKL] at HKL0
      have HKL := hid hKL
      clear hKL HX0 HT0 K5 K4
      go_wp2_with fail
      refine wp_region_any (by kernel_rfl) ?_
      refine wpAny_hold 13 123 (KL) (spL [(79, LowS (Mut None_ KL) 1 lo (hi + 1)), (80, AcS1 (Mut None_ KL) 1 lo (hi + 1)), (81, AcS2 (Mut None_ KL) a 1 lo (hi + 1))]) (by kernel_rfl) (by kernel_rfl) (by kernel_rfl) rfl ?_ (HKL0.drew) ?_
      · exact stays_cons lowS_mono (stays_cons acS1_mono (stays_cons acS2_mono (stays_nil _)))
      simp only [List.take_succ_cons, List.take_zero, List.drop_succ_cons, List.drop_zero, Act.put, List.getElem_toArray, List.getElem_cons_zero, List.getElem_cons_succ, List.setIfInBounds_toArray, List.set_cons_succ, List.set_cons_zero]
      refine dw_val rfl rfl rfl ?_; apply Exists.intro; refine ⟨fun wv HC => ?_, ?_⟩
      ·  go_simp <;> rfl
      simp only [Act.put, List.setIfInBounds_toArray, List.set_cons_succ, List.set_cons_zero]
      refine dw_val rfl rfl rfl ?_; apply Exists.intro; refine ⟨fun wv HC => ?_, ?_⟩
      ·  go_simp <;> rfl
      simp only [Act.put, List.setIfInBounds_toArray, List.set_cons_succ, List.set_cons_zero]
      refine dw_val rfl rfl rfl ?_; apply Exists.intro; refine ⟨fun wv HC => ?_, ?_⟩
      ·  go_simp <;> rfl
      simp only [Act.put, List.setIfInBounds_toArray, List.set_cons_succ, List.set_cons_zero]
      refine dw_val rfl rfl rfl ?_; apply Exists.intro; refine ⟨fun wv HC => ?_, ?_⟩
      ·  go_simp <;> rfl
      simp only [Act.put, List.setIfInBounds_toArray, List.set_cons_succ, List.set_cons_zero]
      refine dw_val rfl rfl rfl ?_; apply Exists.intro; refine ⟨fun wv HC => ?_, ?_⟩
      · obtain ⟨q0, q1, q2, q3, q4, q5, q6, q7, q8, q9, q10⟩ := eleven (HX.out _ HC); go_simp <;> rfl
      simp only [Act.put, List.setIfInBounds_toArray, List.set_cons_succ, List.set_cons_zero]
      refine dw_val rfl rfl rfl ?_; apply Exists.intro; refine ⟨fun wv HC => ?_, ?_⟩
      ·  go_simp <;> rfl
      simp only [Act.put, List.setIfInBounds_toArray, List.set_cons_succ, List.set_cons_zero]
      refine dw_val rfl rfl rfl ?_; apply Exists.intro; refine ⟨fun wv HC => ?_, ?_⟩
      ·  go_simp <;> rfl
      simp only [Act.put, List.setIfInBounds_toArray, List.set_cons_succ, List.set_cons_zero]
      refine dw_val rfl rfl rfl ?_; apply Exists.intro; refine ⟨fun wv HC => ?_, ?_⟩
      ·  go_simp <;> rfl
      simp only [Act.put, List.setIfInBounds_toArray, List.set_cons_succ, List.set_cons_zero]
      refine dw_callR 79 (LowS (Mut None_ KL) 1 lo (hi + 1)) (f := 9) (args := #[.string ⟨#[110]⟩, .int .i64 1, .int .i64 lo, .int .i64 ((hi + 1))]) rfl rfl rfl rfl (fun wv => ?_) (fun wv HC hrm hD => ?_) ?_
      · go_simp <;> rfl
      · refine (lower_any _ _ HC.mutLt ⟨#[110]⟩ 1 lo ((hi + 1)) (by omega) (by omega) (by omega)).mono ?_
        rintro e w5 ⟨a2, rfl, h1, h2, h3, b5⟩
        exact ⟨_, rfl, ⟨a2, rfl, h1, h2, h3⟩, HC.call b5, RM.below b5⟩
      rintro u wg HCg ⟨⟨ak, atab, ⟨arA, arn, arc, arl⟩, ⟨aqA, aqn, aqc, aql⟩, ⟨asA, asn, asc, asl⟩, ⟨awA, awn, awc, awl⟩, atext⟩, hu, -, -, -⟩
      simp only [Ac.val] at hu
      subst hu
      simp only [Act.put, List.setIfInBounds_toArray, List.set_cons_succ, List.set_cons_zero]
      clear HCg
      refine dw_new #[.int .i64 ak, .string atab, .slice arA arn arc, .slice aqA aqn aqc, .slice asA asn asc, .slice awA awn awc, .string atext] 43 80 (AcS1 (Mut None_ KL) 1 lo (hi + 1)) (fun g => .slice (some ⟨g, 0, none⟩) 1 1) rfl rfl rfl rfl (fun wv => ?_) (fun wv HC _hrm hD hro => ?_) ?_
      · go_simp <;> rfl
      · have h : LowS (Mut None_ KL) 1 lo (hi + 1) (.agg #[.int .i64 ak, .string atab, .slice arA arn arc, .slice aqA aqn aqc, .slice asA asn asc, .slice awA awn awc, .string atext]) wv := deps_at hD 8 rfl (by kernel_rfl) rfl rfl
        obtain ⟨a2, e2, h1, h2, h3⟩ := h
        have e3 := congrArg Array.toList (Value.agg.inj e2)
        exact ⟨_, a2, rfl, h1, h2, acs_block (l := [a2]) (hro _ HC.mutLt) (by simpa [Ac.cells, SlP.v] using e3) (fun x hx => by
          simp only [List.mem_cons, List.not_mem_nil, or_false] at hx
          subst hx
          exact ro_alloc h3 _)⟩
      rintro g80 wg HCg h80
      simp only [Act.put, List.setIfInBounds_toArray, List.set_cons_succ, List.set_cons_zero]
      clear HCg h80
      refine dw_grow Try.elAc28 81 (AcS2 (Mut None_ KL) a 1 lo (hi + 1)) rfl rfl rfl rfl (.tmp 75) (.tmp 80) rfl (b := ga) (q := 0) (n := 1) (cap := 1) rfl (g := g80) (m := 1) (c := 1) rfl (by omega) (by omega) (by omega) (by omega) (by omega) (fun wv HC hD => ?_) ?_
      · have h : AcS1 (Mut None_ KL) 1 lo (hi + 1) (.slice (some ⟨g80, 0, none⟩) 1 1) wv := deps_at hD 9 rfl (by kernel_rfl) rfl rfl
        obtain ⟨g', a2, e2, h1, h2, h3⟩ := h
        obtain rfl : g80 = g' := by injection e2 with e2; injection e2 with e2; injection e2
        have hT := HTX.out _ HC
        refine ⟨[a].flatMap Ac.cells, [a2].flatMap Ac.cells, hT.now.parts.2.1, h3.now.1, fun C' cap' w' HC' hrm' hro => ⟨C', cap', a2, rfl, h1, h2, ?_⟩⟩
        refine (hro.and ((HTX.out _ HC').and (hrm'.ro h3))).imp fun w2 h2 => ⟨by simpa using h2.1, fun x hx => ?_⟩
        simp only [List.mem_cons, List.not_mem_nil, or_false] at hx
        rcases hx with rfl | rfl
        · exact h2.2.1.parts.2.2 _ (List.mem_cons_self ..)
        · exact h2.2.2.2 _ (List.mem_cons_self ..)
      rintro u wg HCg ⟨C81, c81, a2', rfl, -, -, -⟩
      simp only [Act.put, List.setIfInBounds_toArray, List.set_cons_succ, List.set_cons_zero]
      clear HCg
      refine dw_val rfl rfl rfl ?_; apply Exists.intro; refine ⟨fun wv HC => ?_, ?_⟩
      ·  go_simp <;> rfl
      simp only [Act.put, List.setIfInBounds_toArray, List.set_cons_succ, List.set_cons_zero]
      refine dw_val rfl rfl rfl ?_; apply Exists.intro; refine ⟨fun wv HC => ?_, ?_⟩
      ·  go_simp <;> rfl
      simp only [Act.put, List.setIfInBounds_toArray, List.set_cons_succ, List.set_cons_zero]
      refine rel_nil ?_
      rintro wx2 HXE
      rintro hrm HGW
      have hb2 : AcS2 (Mut None_ KL) a 1 lo (hi + 1) (.slice C81 2 c81) wx2 := (GW_on (d := 81) rfl).1 (HGW 10 _ rfl (by omega))
      obtain ⟨C', c', a2, e2, h1, h2, h3⟩ := hb2
      obtain ⟨rfl, rfl⟩ : C81 = C' ∧ c81 = c' := by injection e2 with e2 e3 e4; exact ⟨e2, e4⟩
      clear HGW hrm e2
      have HQ := hid (And.intro h1 h2)
      clear h1 h2
      have K6 := HXE.add h3
      rw [HKL.out] at K6
      clear HXE h3 HX HTX HKL0
      have F6 := K6.facts
      simp only [World.size_alloc, World.size_drew, factsL, cellsF, Nat.reduceAdd, List.toList_toArray, List.set_cons_zero, List.set_cons_succ, List.setIfInBounds_toArray, and_true, true_and] at F6
      have K7 := K6.store 2 rfl 10 (.slice C81 2 c81)
      simp only [List.set_cons_zero, List.set_cons_succ, List.setIfInBounds_toArray] at K7
      have hL := desA_in (C := C81) (c := c81) (K7.ro 4 rfl) (K7.ro 0 rfl)
      have KC := ((K7.add (oth0_in _ _)).add (hL.less (by simp [mut_cons, Hp.foot]))).add ((K7.ro 4 rfl).less (by simp [mut_cons, Hp.foot]))
      have KD := KC.pick [5, 4, 6, 1, 2, 0] (by decide) rfl
      have HBR : Broken (desA gr ⟨#[110]⟩ lo hi ⟨C81, 2, c81, [a, a2]⟩) (othT SlP.nil) := ⟨rfl, ⟨_, rfl, hI1, hI2⟩, desA_fit HL.out HSM.out HQ.out.1 HQ.out.2, oth0_fit, fun tabs hT => cert_own (a := a) (b := a2) rfl rfl rfl ((low_own 2 HQ.out.1 (by omega) hI1 (show I64 (hi + 1) from ⟨by omega, by omega⟩)).trans (by simp <;> omega))⟩
      clear K6 K7 KC hL
      go_wp2_with fail
      go_meet
      exact ⟨_, _, HBR, KD⟩
    · have HKL0 := K5
      obtain ⟨KL, hKL⟩ : ∃ KL : List Hp, KL = [.blk go 28 #[.string ⟨#[98]⟩, .string ⟨#[108, 111, 103]⟩, .bool false, .int .i64 1, .slice none 0 0, .bool false, .slice none 0 0, .slice none 0 0, .slice none 0 0, .slice none 0 0, .slice none 0 0], .blk gl 28 #[.string ⟨#[97]⟩, .string ⟨#[117]⟩, .bool false, .int .i64 2, .slice none 0 0, .bool false, .slice none 0 0, .slice none 0 0, .slice (some ⟨gr, 0, none⟩) 1 1, .slice none 0 0, .slice (some ⟨ga, 0, none⟩) 1 1], .cst gx 28 #[.string ⟨#[97]⟩, .string ⟨#[117]⟩, .bool false, .int .i64 2, .slice none 0 0, .bool false, .slice none 0 0, .slice none 0 0, .slice (some ⟨gr, 0, none⟩) 1 1, .slice none 0 0, .slice (some ⟨ga, 0, none⟩) 1 1], .ro (TgIn 3 (desT gr ga ⟨#[110]⟩ lo hi a))] := ⟨_, rfl⟩
      have HX0 : ∀ wv : World, Hold None_ none w wv KL → Blk wv gl 28 #[.string ⟨#[97]⟩, .string ⟨#[117]⟩, .bool false, .int .i64 2, .slice none 0 0, .bool false, .slice none 0 0, .slice none 0 0, .slice (some ⟨gr, 0, none⟩) 1 1, .slice none 0 0, .slice (some ⟨ga, 0, none⟩) 1 1] := fun wv h => by rw [hKL] at h; exact h.blk_ 1 rfl
      have HT0 : ∀ wv : World, Hold None_ none w wv KL → Ro wv (Mut None_ KL) (TgIn 3 (desT gr ga ⟨#[110]⟩ lo hi a)) := fun wv h => by rw [hKL] at h ⊢; exact h.ro 3 rfl
      have HX := hid HX0
      have HTX := hid HT0
      have hs1 : IntKind.i64.wrap (hi + 1) = hi + 1 := IntWalk.i64_in _ (by omega)
      rw [← hKL] at HKL0
      have HKL := hid hKL
      clear hKL HX0 HT0 K5 K4
      go_wp2_with fail
      refine wp_region_any (by kernel_rfl) ?_
      refine wpAny_hold 12 123 (KL) (spL [(93, LowS (Mut None_ KL) 0 lo hi), (94, AcS1 (Mut None_ KL) 0 lo hi), (95, AcS2 (Mut None_ KL) a 0 lo hi)]) (by kernel_rfl) (by kernel_rfl) (by kernel_rfl) rfl ?_ (HKL0.drew) ?_
      · exact stays_cons lowS_mono (stays_cons acS1_mono (stays_cons acS2_mono (stays_nil _)))
      simp only [List.take_succ_cons, List.take_zero, List.drop_succ_cons, List.drop_zero, Act.put, List.getElem_toArray, List.getElem_cons_zero, List.getElem_cons_succ, List.setIfInBounds_toArray, List.set_cons_succ, List.set_cons_zero]
      refine dw_val rfl rfl rfl ?_; apply Exists.intro; refine ⟨fun wv HC => ?_, ?_⟩
      ·  go_simp <;> rfl
      simp only [Act.put, List.setIfInBounds_toArray, List.set_cons_succ, List.set_cons_zero]
      refine dw_val rfl rfl rfl ?_; apply Exists.intro; refine ⟨fun wv HC => ?_, ?_⟩
      ·  go_simp <;> rfl
      simp only [Act.put, List.setIfInBounds_toArray, List.set_cons_succ, List.set_cons_zero]
      refine dw_val rfl rfl rfl ?_; apply Exists.intro; refine ⟨fun wv HC => ?_, ?_⟩
      ·  go_simp <;> rfl
      simp only [Act.put, List.setIfInBounds_toArray, List.set_cons_succ, List.set_cons_zero]
      refine dw_val rfl rfl rfl ?_; apply Exists.intro; refine ⟨fun wv HC => ?_, ?_⟩
      ·  go_simp <;> rfl
      simp only [Act.put, List.setIfInBounds_toArray, List.set_cons_succ, List.set_cons_zero]
      refine dw_val rfl rfl rfl ?_; apply Exists.intro; refine ⟨fun wv HC => ?_, ?_⟩
      · obtain ⟨q0, q1, q2, q3, q4, q5, q6, q7, q8, q9, q10⟩ := eleven (HX.out _ HC); go_simp <;> rfl
      simp only [Act.put, List.setIfInBounds_toArray, List.set_cons_succ, List.set_cons_zero]
      refine dw_val rfl rfl rfl ?_; apply Exists.intro; refine ⟨fun wv HC => ?_, ?_⟩
      ·  go_simp <;> rfl
      simp only [Act.put, List.setIfInBounds_toArray, List.set_cons_succ, List.set_cons_zero]
      refine dw_val rfl rfl rfl ?_; apply Exists.intro; refine ⟨fun wv HC => ?_, ?_⟩
      ·  go_simp <;> rfl
      simp only [Act.put, List.setIfInBounds_toArray, List.set_cons_succ, List.set_cons_zero]
      refine dw_callR 93 (LowS (Mut None_ KL) 0 lo hi) (f := 9) (args := #[.string ⟨#[110]⟩, .int .i64 0, .int .i64 lo, .int .i64 (hi)]) rfl rfl rfl rfl (fun wv => ?_) (fun wv HC hrm hD => ?_) ?_
      · go_simp <;> rfl
      · refine (lower_any _ _ HC.mutLt ⟨#[110]⟩ 0 lo (hi) (by omega) (by omega) (by omega)).mono ?_
        rintro e w5 ⟨a2, rfl, h1, h2, h3, b5⟩
        exact ⟨_, rfl, ⟨a2, rfl, h1, h2, h3⟩, HC.call b5, RM.below b5⟩
      rintro u wg HCg ⟨⟨ak, atab, ⟨arA, arn, arc, arl⟩, ⟨aqA, aqn, aqc, aql⟩, ⟨asA, asn, asc, asl⟩, ⟨awA, awn, awc, awl⟩, atext⟩, hu, -, -, -⟩
      simp only [Ac.val] at hu
      subst hu
      simp only [Act.put, List.setIfInBounds_toArray, List.set_cons_succ, List.set_cons_zero]
      clear HCg
      refine dw_new #[.int .i64 ak, .string atab, .slice arA arn arc, .slice aqA aqn aqc, .slice asA asn asc, .slice awA awn awc, .string atext] 43 94 (AcS1 (Mut None_ KL) 0 lo hi) (fun g => .slice (some ⟨g, 0, none⟩) 1 1) rfl rfl rfl rfl (fun wv => ?_) (fun wv HC _hrm hD hro => ?_) ?_
      · go_simp <;> rfl
      · have h : LowS (Mut None_ KL) 0 lo hi (.agg #[.int .i64 ak, .string atab, .slice arA arn arc, .slice aqA aqn aqc, .slice asA asn asc, .slice awA awn awc, .string atext]) wv := deps_at hD 7 rfl (by kernel_rfl) rfl rfl
        obtain ⟨a2, e2, h1, h2, h3⟩ := h
        have e3 := congrArg Array.toList (Value.agg.inj e2)
        exact ⟨_, a2, rfl, h1, h2, acs_block (l := [a2]) (hro _ HC.mutLt) (by simpa [Ac.cells, SlP.v] using e3) (fun x hx => by
          simp only [List.mem_cons, List.not_mem_nil, or_false] at hx
          subst hx
          exact ro_alloc h3 _)⟩
      rintro g80 wg HCg h80
      simp only [Act.put, List.setIfInBounds_toArray, List.set_cons_succ, List.set_cons_zero]
      clear HCg h80
      refine dw_grow Try.elAc28 95 (AcS2 (Mut None_ KL) a 0 lo hi) rfl rfl rfl rfl (.tmp 90) (.tmp 94) rfl (b := ga) (q := 0) (n := 1) (cap := 1) rfl (g := g80) (m := 1) (c := 1) rfl (by omega) (by omega) (by omega) (by omega) (by omega) (fun wv HC hD => ?_) ?_
      · have h : AcS1 (Mut None_ KL) 0 lo hi (.slice (some ⟨g80, 0, none⟩) 1 1) wv := deps_at hD 8 rfl (by kernel_rfl) rfl rfl
        obtain ⟨g', a2, e2, h1, h2, h3⟩ := h
        obtain rfl : g80 = g' := by injection e2 with e2; injection e2 with e2; injection e2
        have hT := HTX.out _ HC
        refine ⟨[a].flatMap Ac.cells, [a2].flatMap Ac.cells, hT.now.parts.2.1, h3.now.1, fun C' cap' w' HC' hrm' hro => ⟨C', cap', a2, rfl, h1, h2, ?_⟩⟩
        refine (hro.and ((HTX.out _ HC').and (hrm'.ro h3))).imp fun w2 h2 => ⟨by simpa using h2.1, fun x hx => ?_⟩
        simp only [List.mem_cons, List.not_mem_nil, or_false] at hx
        rcases hx with rfl | rfl
        · exact h2.2.1.parts.2.2 _ (List.mem_cons_self ..)
        · exact h2.2.2.2 _ (List.mem_cons_self ..)
      rintro u wg HCg ⟨C81, c81, a2', rfl, -, -, -⟩
      simp only [Act.put, List.setIfInBounds_toArray, List.set_cons_succ, List.set_cons_zero]
      clear HCg
      refine dw_val rfl rfl rfl ?_; apply Exists.intro; refine ⟨fun wv HC => ?_, ?_⟩
      ·  go_simp <;> rfl
      simp only [Act.put, List.setIfInBounds_toArray, List.set_cons_succ, List.set_cons_zero]
      refine dw_val rfl rfl rfl ?_; apply Exists.intro; refine ⟨fun wv HC => ?_, ?_⟩
      ·  go_simp <;> rfl
      simp only [Act.put, List.setIfInBounds_toArray, List.set_cons_succ, List.set_cons_zero]
      refine rel_nil ?_
      rintro wx2 HXE
      rintro hrm HGW
      have hb2 : AcS2 (Mut None_ KL) a 0 lo hi (.slice C81 2 c81) wx2 := (GW_on (d := 95) rfl).1 (HGW 9 _ rfl (by omega))
      obtain ⟨C', c', a2, e2, h1, h2, h3⟩ := hb2
      obtain ⟨rfl, rfl⟩ : C81 = C' ∧ c81 = c' := by injection e2 with e2 e3 e4; exact ⟨e2, e4⟩
      clear HGW hrm e2
      have HQ := hid (And.intro h1 h2)
      clear h1 h2
      have K6 := HXE.add h3
      rw [HKL.out] at K6
      clear HXE h3 HX HTX HKL0
      have F6 := K6.facts
      simp only [World.size_alloc, World.size_drew, factsL, cellsF, Nat.reduceAdd, List.toList_toArray, List.set_cons_zero, List.set_cons_succ, List.setIfInBounds_toArray, and_true, true_and] at F6
      have K7 := K6.store 2 rfl 10 (.slice C81 2 c81)
      simp only [List.set_cons_zero, List.set_cons_succ, List.setIfInBounds_toArray] at K7
      have hL := desA_in (C := C81) (c := c81) (K7.ro 4 rfl) (K7.ro 0 rfl)
      have KC := ((K7.add (oth0_in _ _)).add (hL.less (by simp [mut_cons, Hp.foot]))).add ((K7.ro 4 rfl).less (by simp [mut_cons, Hp.foot]))
      have KD := KC.pick [5, 4, 6, 1, 2, 0] (by decide) rfl
      have HBR : Broken (desA gr ⟨#[110]⟩ lo hi ⟨C81, 2, c81, [a, a2]⟩) (othT SlP.nil) := ⟨rfl, ⟨_, rfl, hI1, hI2⟩, desA_fit HL.out HSM.out HQ.out.1 HQ.out.2, oth0_fit, fun tabs hT => cert_own (a := a) (b := a2) rfl rfl rfl ((low_own 2 HQ.out.1 (by omega) hI1 hI2).trans (by simp))⟩
      clear K6 K7 KC hL
      go_wp2_with fail
      go_meet
      exact ⟨_, _, HBR, KD⟩
    · clear K4
      generalize w3.alloc (.cells #[.string ⟨#[98]⟩, .string ⟨#[108, 111, 103]⟩, .bool false, .int .i64 1, .slice none 0 0, .bool false, .slice none 0 0, .slice none 0 0, .slice none 0 0, .slice none 0 0, .slice none 0 0] 28) = wb at *
      have hm9 : 0 ≤ width % 9 ∧ width % 9 < 9 := ⟨Int.emod_nonneg _ (by omega), Int.emod_lt_of_pos _ (by omega)⟩
      have hs1 : IntKind.i64.wrap (lo + 1048576) = lo + 1048576 := IntWalk.i64_in _ (by omega)
      have hs2 : IntKind.i64.wrap (lo + 1048576 + 1) = lo + 1048576 + 1 := IntWalk.i64_in _ (by omega)
      have hs3 : IntKind.i64.wrap (lo + 1048576 + 1 + width % 9) = lo + 1048576 + 1 + width % 9 := IntWalk.i64_in _ (by omega)
      have F5 := K5.facts
      simp only [World.size_alloc, World.size_drew, factsL, cellsF, Nat.reduceAdd, List.toList_toArray, List.set_cons_zero, List.set_cons_succ, List.setIfInBounds_toArray, and_true, true_and] at F5
      go_wp2_with fail
      refine (wmod_any width 9 _ hw (by omega) (by omega)).mono ?_
      rintro e w' ⟨rfl, rfl⟩
      generalize width % 9 = m9 at *
      have K6 := K5.alloc_cst #[.string ⟨#[117]⟩, .string ⟨#[110]⟩, .int .i64 lo, .int .i64 (lo + 1048576 + 1 + m9)] 48
      have F6 := K6.facts
      simp only [World.size_alloc, World.size_drew, factsL, cellsF, Nat.reduceAdd, List.toList_toArray, List.set_cons_zero, List.set_cons_succ, List.setIfInBounds_toArray, and_true, true_and] at F6
      clear F5
      have K7 := K6.store 2 rfl 8 (.slice (some ⟨wb.heap.size, 0, none⟩) 1 1)
      simp only [List.set_cons_zero, List.set_cons_succ, List.setIfInBounds_toArray] at K7
      have hR : Ro _ _ (RksIn (some ⟨wb.heap.size, 0, none⟩) 1 [⟨bs_u, ⟨#[110]⟩, lo, lo + 1048576 + 1 + m9⟩]) := (show Ro _ _ (SlR 4 (some ⟨wb.heap.size, 0, none⟩) 1 [.string ⟨#[117]⟩, .string ⟨#[110]⟩, .int .i64 lo, .int .i64 (lo + 1048576 + 1 + m9)]) from ro_block (K7.get 0 rfl) rfl).imp fun w2 h2 => ⟨h2, fun _ _ => trivial⟩
      have hL : Ro _ _ (TgIn 3 (desT wb.heap.size ga ⟨#[110]⟩ lo (lo + 1048576 + 1 + m9) a)) := (hR.and (K7.ro 4 rfl)).imp fun w2 h2 => ⟨SlP.nil_in _ _ _ _, SlP.nil_in _ _ _ _, SlP.nil_in _ _ _ _, h2.1, SlP.nil_in _ _ _ _, h2.2.parts.2⟩
      have KC := ((K7.add (oth0_in _ _)).add (hL.less (by simp [mut_cons, Hp.foot]))).add ((K7.ro 4 rfl).less (by simp [mut_cons, Hp.foot]))
      have KD := KC.pick [5, 4, 6, 1, 2, 0] (by decide) rfl
      have HBR : Broken (desT wb.heap.size ga ⟨#[110]⟩ lo (lo + 1048576 + 1 + m9) a) (othT SlP.nil) := ⟨rfl, ⟨⟨bs_u, ⟨#[110]⟩, lo, lo + 1048576 + 1 + m9⟩, rfl, hI1, show I64 (lo + 1048576 + 1 + m9) from ⟨by omega, by omega⟩⟩, one_fit (a := a) rfl rfl (by show 1 ≤ 1; omega) rfl (Nat.le_trans (low_w HL.out HSM.out 3) (by omega)) (by obtain ⟨_, _, g1, g2, kE, x, y, h, _⟩ := HL.out; rw [h]; simp) ⟨HSM.out.s, HSM.out.h⟩, oth0_fit, fun tabs hT => cert_wide rfl rfl (by omega)⟩
      clear K5 K6 K7 KC hL hR
      go_wp2_with fail
      go_meet
      exact ⟨_, _, HBR, KD⟩
  case rest =>
    obtain ⟨lt, ot, HBR, K⟩ := hcut
    clear K5 K4
    generalize wc = wd0 at *
    go_wp2_with fail
    refine (lower_any _ _ K.mutLt ⟨#[110]⟩ 0 0 0 (by omega) (by omega) (by omega)).mono ?_
    rintro e w4 ⟨⟨ak, atab, ⟨arA, arn, arc, arl⟩, ⟨aqA, aqn, aqc, aql⟩, ⟨asA, asn, asc, asl⟩, ⟨awA, awn, awc, awl⟩, atext⟩, rfl, hl1, hs1, ra, b4⟩
    have K6 := (K.call b4).add ra
    have HLA := hid (And.intro hl1 hs1)
    clear K b4 ra hl1 hs1
    rw [show (⟨ak, atab, ⟨arA, arn, arc, arl⟩, ⟨aqA, aqn, aqc, aql⟩, ⟨asA, asn, asc, asl⟩, ⟨awA, awn, awc, awl⟩, atext⟩ : Ac).val = .agg #[.int .i64 ak, .string atab, .slice arA arn arc, .slice aqA aqn aqc, .slice asA asn asc, .slice awA awn awc, .string atext] from rfl]
    go_wp2_with fail
    refine (num0_any _ 1 (by omega)).mono ?_
    rintro e w5 ⟨rfl, b5⟩
    have K7 := K6.call b5
    rw [show (litE ⟨1, 1, ⟨#[]⟩⟩).val = .agg #[.int .i64 1, .int .i64 0, .bool false, .int .i64 1, .int .i64 1, .string ⟨#[]⟩, .string ⟨#[]⟩, .string ⟨#[]⟩, .slice none 0 0, .slice none 0 0] from rfl]
    clear b5 K6
    have K8 := (K7.alloc_cst #[.string ⟨#[109]⟩, .int .i64 1, .int .i64 0, .bool false, .int .i64 1, .int .i64 1, .string ⟨#[]⟩, .string ⟨#[]⟩, .string ⟨#[]⟩, .slice none 0 0, .slice none 0 0] 45).alloc_cst #[.int .i64 3, .string ⟨#[117]⟩, .slice none 0 0, .slice none 0 0, .slice none 0 0, .slice none 0 0, .string ⟨#[]⟩, .int .i64 ak, .string atab, .slice arA arn arc, .slice aqA aqn aqc, .slice asA asn asc, .slice awA awn awc, .string atext, .int .i64 2, .string ⟨#[117]⟩, .slice none 0 0, .slice none 0 0, .slice (some ⟨w5.heap.size, 0, none⟩) 1 1, .slice none 0 0, .string ⟨#[]⟩] 43
    rw [World.size_alloc] at K8
    have K9 := K8.alloc_cst #[.string ⟨#[99]⟩, .string ⟨#[108, 111, 103]⟩, .bool false, .int .i64 1, .slice none 0 0, .bool false, .slice none 0 0, .slice none 0 0, .slice none 0 0, .slice none 0 0, .slice (some ⟨w5.heap.size + 1, 0, none⟩) 3 3] 28
    rw [World.size_alloc, World.size_alloc] at K9
    have F9 := K9.facts
    simp only [World.size_alloc, World.size_drew, factsL, cellsF, Nat.reduceAdd, List.toList_toArray, List.set_cons_zero, List.set_cons_succ, List.setIfInBounds_toArray, and_true, true_and] at F9
    go_upto_region 21 with fail
    have hA := acs_block (l := [delA, ⟨ak, atab, ⟨arA, arn, arc, arl⟩, ⟨aqA, aqn, aqc, aql⟩, ⟨asA, asn, asc, asl⟩, ⟨awA, awn, awc, awl⟩, atext⟩, setA 2 ⟨#[117]⟩ bs_m w5.heap.size]) (K9.get 1 rfl) rfl (fun x hx => by
      simp only [List.mem_cons, List.not_mem_nil, or_false] at hx
      rcases hx with rfl | rfl | rfl
      · exact fun w2 _ _ => delA_in 3 w2
      · exact K9.ro 3 rfl
      · exact setA_in (K9.get 2 rfl))
    have hH := hm_in hA
    have KF := (K9.add hH).pick [1, 5, 6, 7, 8, 9, 10, 0] (by decide) rfl
    clear K7 K8 K9 hA hH F9
    obtain ⟨gh, hgh⟩ : ∃ g, g = w5.heap.size + 1 + 1 := ⟨_, rfl⟩
    rw [← hgh] at KF ⊢
    obtain ⟨gA, hgA⟩ : ∃ g, g = w5.heap.size + 1 := ⟨_, rfl⟩
    rw [← hgA] at KF ⊢
    obtain ⟨gS, hgS⟩ : ∃ g, g = w5.heap.size := ⟨_, rfl⟩
    rw [← hgS] at KF ⊢
    have HGS := hid (And.intro hgh (And.intro hgA hgS))
    clear hgh hgA hgS
    obtain ⟨KL, hKL⟩ : ∃ KL : List Hp, KL = [.cst gh 28 #[.string ⟨#[99]⟩, .string ⟨#[108, 111, 103]⟩, .bool false, .int .i64 1, .slice none 0 0, .bool false, .slice none 0 0, .slice none 0 0, .slice none 0 0, .slice none 0 0, .slice (some ⟨gA, 0, none⟩) 3 3], .blk gl 28 #[.string lt.name, .string lt.tab, .bool lt.before, .int .i64 lt.event, .slice lt.cols.A lt.cols.n lt.cols.c, .bool lt.each, .slice lt.prec.A lt.prec.n lt.prec.c, .slice lt.foll.A lt.foll.n lt.foll.c, .slice lt.rank.A lt.rank.n lt.rank.c, .slice lt.cond.A lt.cond.n lt.cond.c, .slice lt.acts.A lt.acts.n lt.acts.c], .blk go 28 #[.string ot.name, .string ot.tab, .bool ot.before, .int .i64 ot.event, .slice ot.cols.A ot.cols.n ot.cols.c, .bool ot.each, .slice ot.prec.A ot.prec.n ot.prec.c, .slice ot.foll.A ot.foll.n ot.foll.c, .slice ot.rank.A ot.rank.n ot.rank.c, .slice ot.cond.A ot.cond.n ot.cond.c, .slice ot.acts.A ot.acts.n ot.acts.c], .cst gx 28 #[.string ⟨#[97]⟩, .string ⟨#[117]⟩, .bool false, .int .i64 2, .slice none 0 0, .bool false, .slice none 0 0, .slice none 0 0, .slice (some ⟨gr, 0, none⟩) 1 1, .slice none 0 0, .slice (some ⟨ga, 0, none⟩) 1 1], .ro (TgIn 3 lt), .ro (TgIn 3 ot), .ro (TgIn 3 (desT gr ga ⟨#[110]⟩ lo hi a)), .ro (TgIn 3 (hmT gA [delA, ⟨ak, atab, ⟨arA, arn, arc, arl⟩, ⟨aqA, aqn, aqc, aql⟩, ⟨asA, asn, asc, asl⟩, ⟨awA, awn, awc, awl⟩, atext⟩, setA 2 ⟨#[117]⟩ bs_m gS]))] := ⟨_, rfl⟩
    have H1 : ∀ wv : World, Hold None_ none w wv KL → Blk wv gh 28 #[.string ⟨#[99]⟩, .string ⟨#[108, 111, 103]⟩, .bool false, .int .i64 1, .slice none 0 0, .bool false, .slice none 0 0, .slice none 0 0, .slice none 0 0, .slice none 0 0, .slice (some ⟨gA, 0, none⟩) 3 3] := fun wv h => by rw [hKL] at h; exact h.cst_ 0 rfl
    have H2 : ∀ wv : World, Hold None_ none w wv KL → Blk wv gl 28 #[.string lt.name, .string lt.tab, .bool lt.before, .int .i64 lt.event, .slice lt.cols.A lt.cols.n lt.cols.c, .bool lt.each, .slice lt.prec.A lt.prec.n lt.prec.c, .slice lt.foll.A lt.foll.n lt.foll.c, .slice lt.rank.A lt.rank.n lt.rank.c, .slice lt.cond.A lt.cond.n lt.cond.c, .slice lt.acts.A lt.acts.n lt.acts.c] := fun wv h => by rw [hKL] at h; exact h.blk_ 1 rfl
    have H3 : ∀ wv : World, Hold None_ none w wv KL → Blk wv go 28 #[.string ot.name, .string ot.tab, .bool ot.before, .int .i64 ot.event, .slice ot.cols.A ot.cols.n ot.cols.c, .bool ot.each, .slice ot.prec.A ot.prec.n ot.prec.c, .slice ot.foll.A ot.foll.n ot.foll.c, .slice ot.rank.A ot.rank.n ot.rank.c, .slice ot.cond.A ot.cond.n ot.cond.c, .slice ot.acts.A ot.acts.n ot.acts.c] := fun wv h => by rw [hKL] at h; exact h.blk_ 2 rfl
    have H4 : ∀ wv : World, Hold None_ none w wv KL → Blk wv gx 28 #[.string ⟨#[97]⟩, .string ⟨#[117]⟩, .bool false, .int .i64 2, .slice none 0 0, .bool false, .slice none 0 0, .slice none 0 0, .slice (some ⟨gr, 0, none⟩) 1 1, .slice none 0 0, .slice (some ⟨ga, 0, none⟩) 1 1] := fun wv h => by rw [hKL] at h; exact h.cst_ 3 rfl
    have H5 : ∀ wv : World, Hold None_ none w wv KL → Ro wv (Mut None_ KL) (TgIn 3 lt) := fun wv h => by rw [hKL] at h ⊢; exact h.ro 4 rfl
    have H6 : ∀ wv : World, Hold None_ none w wv KL → Ro wv (Mut None_ KL) (TgIn 3 ot) := fun wv h => by rw [hKL] at h ⊢; exact h.ro 5 rfl
    have H7 : ∀ wv : World, Hold None_ none w wv KL → Ro wv (Mut None_ KL) (TgIn 3 (desT gr ga ⟨#[110]⟩ lo hi a)) := fun wv h => by rw [hKL] at h ⊢; exact h.ro 6 rfl
    have H8 : ∀ wv : World, Hold None_ none w wv KL → Ro wv (Mut None_ KL) (TgIn 3 (hmT gA [delA, ⟨ak, atab, ⟨arA, arn, arc, arl⟩, ⟨aqA, aqn, aqc, aql⟩, ⟨asA, asn, asc, asl⟩, ⟨awA, awn, awc, awl⟩, atext⟩, setA 2 ⟨#[117]⟩ bs_m gS])) := fun wv h => by rw [hKL] at h ⊢; exact h.ro 7 rfl
    have hcast : ∀ (L1 : List Hp) (wz : World), Hold None_ none w wz L1 → L1 = KL → Hold None_ none w wz KL := fun _ _ h e => e ▸ h
    have KF2 := hcast _ _ KF hKL.symm
    clear hcast
    clear KF
    have HH1 := hid H1
    have HH2 := hid H2
    have HH3 := hid H3
    have HH4 := hid H4
    have HH5 := hid H5
    have HH6 := hid H6
    have HH7 := hid H7
    have HH8 := hid H8
    have HF1 := hid (show ∀ x ∈ [lt, ot], TgFit 3 x from fun x hx => by
      simp only [List.mem_cons, List.not_mem_nil, or_false] at hx
      rcases hx with rfl | rfl
      · exact HBR.f
      · exact HBR.g)
    have HF2 := hid (show ∀ x ∈ [desT gr ga ⟨#[110]⟩ lo hi a, hmT gA [delA, ⟨ak, atab, ⟨arA, arn, arc, arl⟩, ⟨aqA, aqn, aqc, aql⟩, ⟨asA, asn, asc, asl⟩, ⟨awA, awn, awc, awl⟩, atext⟩, setA 2 ⟨#[117]⟩ bs_m gS]], TgFit 3 x from fun x hx => by
      simp only [List.mem_cons, List.not_mem_nil, or_false] at hx
      rcases hx with rfl | rfl
      · exact des_fit HL.out HSM.out 3
      · exact hm_fit HLA.out.1 HLA.out.2)
    have HZ2 := hid (show ∀ tabs, TabsR tabs → certB 3 [desT gr ga ⟨#[110]⟩ lo hi a, hmT gA [delA, ⟨ak, atab, ⟨arA, arn, arc, arl⟩, ⟨aqA, aqn, aqc, aql⟩, ⟨asA, asn, asc, asl⟩, ⟨awA, awn, awc, awl⟩, atext⟩, setA 2 ⟨#[117]⟩ bs_m gS]] tabs 0 = true from fun tabs hT => cert_harmless hT (des_is HL.out) hI1 hI2 hb.1 (by omega) (a := delA) (b := ⟨ak, atab, ⟨arA, arn, arc, arl⟩, ⟨aqA, aqn, aqc, aql⟩, ⟨asA, asn, asc, asl⟩, ⟨awA, awn, awc, awl⟩, atext⟩) (c := setA 2 ⟨#[117]⟩ bs_m gS) rfl rfl rfl HLA.out.1 rfl rfl)
    clear hKL H1 H2 H3 H4 H5 H6 H7 H8
    refine wp_region_any (by kernel_rfl) ?_
    refine wpAny_hold 17 123 (KL) (spL [(108, TgS (Mut None_ KL) 1 [ot]), (109, TgS (Mut None_ KL) 2 [lt, ot]), (110, TeS (Mut None_ KL)), (111, IsV (.bool false)), (116, TgS (Mut None_ KL) 2 [desT gr ga ⟨#[110]⟩ lo hi a, hmT gA [delA, ⟨ak, atab, ⟨arA, arn, arc, arl⟩, ⟨aqA, aqn, aqc, aql⟩, ⟨asA, asn, asc, asl⟩, ⟨awA, awn, awc, awl⟩, atext⟩, setA 2 ⟨#[117]⟩ bs_m gS]]), (117, TeS (Mut None_ KL)), (118, IsV (.bool true)), (121, IsV (.bool true))]) (by kernel_rfl) (by kernel_rfl) (by kernel_rfl) rfl ?_ (KF2.drew) ?_
    · exact stays_cons tgS_mono (stays_cons tgS_mono (stays_cons teS_mono (stays_cons isV_mono (stays_cons tgS_mono (stays_cons teS_mono (stays_cons isV_mono (stays_cons isV_mono (stays_nil _))))))))
    simp only [List.take_succ_cons, List.take_zero, List.drop_succ_cons, List.drop_zero, Act.put, List.getElem_toArray, List.getElem_cons_zero, List.getElem_cons_succ, List.setIfInBounds_toArray, List.set_cons_succ, List.set_cons_zero]
    refine dw_val rfl rfl rfl ?_; apply Exists.intro; refine ⟨fun wv HC => ?_, ?_⟩
    ·  go_simp <;> rfl
    simp only [Act.put, List.setIfInBounds_toArray, List.set_cons_succ, List.set_cons_zero]
    refine dw_val rfl rfl rfl ?_; apply Exists.intro; refine ⟨fun wv HC => ?_, ?_⟩
    · obtain ⟨q0, q1, q2, q3, q4, q5, q6, q7, q8, q9, q10⟩ := eleven (HH3.out _ HC); go_simp <;> rfl
    simp only [Act.put, List.setIfInBounds_toArray, List.set_cons_succ, List.set_cons_zero]
    refine dw_new #[.string ot.name, .string ot.tab, .bool ot.before, .int .i64 ot.event, .slice ot.cols.A ot.cols.n ot.cols.c, .bool ot.each, .slice ot.prec.A ot.prec.n ot.prec.c, .slice ot.foll.A ot.foll.n ot.foll.c, .slice ot.rank.A ot.rank.n ot.rank.c, .slice ot.cond.A ot.cond.n ot.cond.c, .slice ot.acts.A ot.acts.n ot.acts.c] 28 108 (TgS (Mut None_ KL) 1 [ot]) (fun g => .slice (some ⟨g, 0, none⟩) 1 1) rfl rfl rfl rfl (fun wv => ?_) (fun wv HC _hrm hD hro => ?_) ?_
    · go_simp <;> rfl
    · exact ⟨_, 1, rfl, tgs_block (l := [ot]) (hro _ HC.mutLt) rfl (fun x hx => by
        simp only [List.mem_cons, List.not_mem_nil, or_false] at hx
        subst hx
        exact ro_alloc (HH6.out _ HC) _)⟩
    rintro g108 wg HCg h108
    simp only [Act.put, List.setIfInBounds_toArray, List.set_cons_succ, List.set_cons_zero]
    clear HCg h108
    refine dw_grow Try.elTg28 109 (TgS (Mut None_ KL) 2 [lt, ot]) rfl rfl rfl rfl (.tmp 106) (.tmp 108) rfl (b := gl) (q := 0) (n := 1) (cap := 1) rfl (g := g108) (m := 1) (c := 1) rfl (by omega) (by omega) (by omega) (by omega) (by omega) (fun wv HC hD => ?_) ?_
    · have h : TgS (Mut None_ KL) 1 [ot] (.slice (some ⟨g108, 0, none⟩) 1 1) wv := deps_at hD 2 rfl (by kernel_rfl) rfl rfl
      obtain ⟨A', c', e2, h3⟩ := h
      obtain ⟨rfl, -⟩ : some ⟨g108, 0, none⟩ = A' ∧ 1 = c' := by injection e2 with e2 e3 e4; exact ⟨e2, e4⟩
      have hS : SlR 11 (some ⟨gl, 0, none⟩) 1 ([lt].flatMap Tg.cells) wv := (ro_block (size := 11) (n := 1) (M := None_) (Rd.ro_blk (HH2.out _ HC)) rfl).now
      refine ⟨[lt].flatMap Tg.cells, [ot].flatMap Tg.cells, hS, h3.now.1, fun C' cap' w' HC' hrm' hro => ⟨C', cap', rfl, ?_⟩⟩
      refine (hro.and ((HH5.out _ HC').and (HH6.out _ HC'))).imp fun w2 h2 => ⟨by simpa using h2.1, fun x hx => ?_⟩
      simp only [List.mem_cons, List.not_mem_nil, or_false] at hx
      rcases hx with rfl | rfl
      · exact h2.2.1
      · exact h2.2.2
    rintro u wg HCg ⟨A109, c109, rfl, -⟩
    simp only [Act.put, List.setIfInBounds_toArray, List.set_cons_succ, List.set_cons_zero]
    clear HCg
    refine dw_callR 110 (TeS (Mut None_ KL)) (f := 7) (args := #[]) rfl rfl rfl rfl (fun wv => ?_) (fun wv HC hrm hD => ?_) ?_
    · go_simp <;> rfl
    · refine (tables_slot wv HC.mutLt).mono ?_
      rintro e w5 ⟨u, rfl, hu, b5⟩
      exact ⟨_, rfl, hu, HC.call b5, RM.below b5⟩
    rintro u wg HCg ⟨A11, c11, l11, rfl, -, -, -⟩
    simp only [Act.put, List.setIfInBounds_toArray, List.set_cons_succ, List.set_cons_zero]
    clear HCg
    refine dw_callR 111 (IsV (.bool false)) (f := 6) (args := #[.slice A109 2 c109, .slice A11 3 c11, .int .i64 0]) rfl rfl rfl rfl (fun wv => ?_) (fun wv HC hrm hD => ?_) ?_
    · go_simp <;> rfl
    · have h1 : TgS (Mut None_ KL) 2 [lt, ot] (.slice A109 2 c109) wv := deps_at hD 3 rfl (by kernel_rfl) rfl rfl
      have h2 : TeS (Mut None_ KL) (.slice A11 3 c11) wv := deps_at hD 4 rfl (by kernel_rfl) rfl rfl
      obtain ⟨rr, hr1, hr2⟩ := HBR.r
      refine (cert_slot HC.mutLt h1 h2 HF1.out HBR.b hr1 hr2 HBR.z (by decide)).mono ?_
      rintro e w5 ⟨rfl, b5⟩
      exact ⟨_, rfl, rfl, HC.call b5, RM.below b5⟩
    rintro u wg HCg rfl
    simp only [Act.put, List.setIfInBounds_toArray, List.set_cons_succ, List.set_cons_zero]
    clear HCg
    refine dw_val rfl rfl rfl ?_; apply Exists.intro; refine ⟨fun wv HC => ?_, ?_⟩
    ·  go_simp <;> rfl
    simp only [Act.put, List.setIfInBounds_toArray, List.set_cons_succ, List.set_cons_zero]
    refine dw_val rfl rfl rfl ?_; apply Exists.intro; refine ⟨fun wv HC => ?_, ?_⟩
    ·  go_simp <;> rfl
    simp only [Act.put, List.setIfInBounds_toArray, List.set_cons_succ, List.set_cons_zero]
    refine dw_val rfl rfl rfl ?_; apply Exists.intro; refine ⟨fun wv HC => ?_, ?_⟩
    · obtain ⟨q0, q1, q2, q3, q4, q5, q6, q7, q8, q9, q10⟩ := eleven (HH4.out _ HC); go_simp <;> rfl
    simp only [Act.put, List.setIfInBounds_toArray, List.set_cons_succ, List.set_cons_zero]
    refine dw_val rfl rfl rfl ?_; apply Exists.intro; refine ⟨fun wv HC => ?_, ?_⟩
    · obtain ⟨q0, q1, q2, q3, q4, q5, q6, q7, q8, q9, q10⟩ := eleven (HH1.out _ HC); go_simp <;> rfl
    simp only [Act.put, List.setIfInBounds_toArray, List.set_cons_succ, List.set_cons_zero]
    refine dw_new #[.string ⟨#[97]⟩, .string ⟨#[117]⟩, .bool false, .int .i64 2, .slice none 0 0, .bool false, .slice none 0 0, .slice none 0 0, .slice (some ⟨gr, 0, none⟩) 1 1, .slice none 0 0, .slice (some ⟨ga, 0, none⟩) 1 1, .string ⟨#[99]⟩, .string ⟨#[108, 111, 103]⟩, .bool false, .int .i64 1, .slice none 0 0, .bool false, .slice none 0 0, .slice none 0 0, .slice none 0 0, .slice none 0 0, .slice (some ⟨gA, 0, none⟩) 3 3] 28 116 (TgS (Mut None_ KL) 2 [desT gr ga ⟨#[110]⟩ lo hi a, hmT gA [delA, ⟨ak, atab, ⟨arA, arn, arc, arl⟩, ⟨aqA, aqn, aqc, aql⟩, ⟨asA, asn, asc, asl⟩, ⟨awA, awn, awc, awl⟩, atext⟩, setA 2 ⟨#[117]⟩ bs_m gS]]) (fun g => .slice (some ⟨g, 0, none⟩) 2 2) rfl rfl rfl rfl (fun wv => ?_) (fun wv HC _hrm hD hro => ?_) ?_
    · go_simp <;> rfl
    · exact ⟨_, 2, rfl, tgs_block (l := [desT gr ga ⟨#[110]⟩ lo hi a, hmT gA [delA, ⟨ak, atab, ⟨arA, arn, arc, arl⟩, ⟨aqA, aqn, aqc, aql⟩, ⟨asA, asn, asc, asl⟩, ⟨awA, awn, awc, awl⟩, atext⟩, setA 2 ⟨#[117]⟩ bs_m gS]]) (hro _ HC.mutLt) rfl (fun x hx => by
        simp only [List.mem_cons, List.not_mem_nil, or_false] at hx
        rcases hx with rfl | rfl
        · exact ro_alloc (HH7.out _ HC) _
        · exact ro_alloc (HH8.out _ HC) _)⟩
    rintro g116 wg HCg h116
    simp only [Act.put, List.setIfInBounds_toArray, List.set_cons_succ, List.set_cons_zero]
    clear HCg h116
    refine dw_callR 117 (TeS (Mut None_ KL)) (f := 7) (args := #[]) rfl rfl rfl rfl (fun wv => ?_) (fun wv HC hrm hD => ?_) ?_
    · go_simp <;> rfl
    · refine (tables_slot wv HC.mutLt).mono ?_
      rintro e w5 ⟨u, rfl, hu, b5⟩
      exact ⟨_, rfl, hu, HC.call b5, RM.below b5⟩
    rintro u wg HCg ⟨A17, c17, l17, rfl, -, -, -⟩
    simp only [Act.put, List.setIfInBounds_toArray, List.set_cons_succ, List.set_cons_zero]
    clear HCg
    refine dw_callR 118 (IsV (.bool true)) (f := 6) (args := #[.slice (some ⟨g116, 0, none⟩) 2 2, .slice A17 3 c17, .int .i64 0]) rfl rfl rfl rfl (fun wv => ?_) (fun wv HC hrm hD => ?_) ?_
    · go_simp <;> rfl
    · have h1 : TgS (Mut None_ KL) 2 [desT gr ga ⟨#[110]⟩ lo hi a, hmT gA [delA, ⟨ak, atab, ⟨arA, arn, arc, arl⟩, ⟨aqA, aqn, aqc, aql⟩, ⟨asA, asn, asc, asl⟩, ⟨awA, awn, awc, awl⟩, atext⟩, setA 2 ⟨#[117]⟩ bs_m gS]] (.slice (some ⟨g116, 0, none⟩) 2 2) wv := deps_at hD 10 rfl (by kernel_rfl) rfl rfl
      have h2 : TeS (Mut None_ KL) (.slice A17 3 c17) wv := deps_at hD 11 rfl (by kernel_rfl) rfl rfl
      refine (cert_slot HC.mutLt h1 h2 HF2.out rfl rfl ⟨hI1, hI2⟩ HZ2.out (by decide)).mono ?_
      rintro e w5 ⟨rfl, b5⟩
      exact ⟨_, rfl, rfl, HC.call b5, RM.below b5⟩
    rintro u wg HCg rfl
    simp only [Act.put, List.setIfInBounds_toArray, List.set_cons_succ, List.set_cons_zero]
    clear HCg
    refine dw_val rfl rfl rfl ?_; apply Exists.intro; refine ⟨fun wv HC => ?_, ?_⟩
    ·  go_simp <;> rfl
    simp only [Act.put, List.setIfInBounds_toArray, List.set_cons_succ, List.set_cons_zero]
    refine dw_val rfl rfl rfl ?_; apply Exists.intro; refine ⟨fun wv HC => ?_, ?_⟩
    ·  go_simp <;> rfl
    simp only [Act.put, List.setIfInBounds_toArray, List.set_cons_succ, List.set_cons_zero]
    refine dw_callR 121 (IsV (.bool true)) (f := 10) (args := #[]) rfl rfl rfl rfl (fun wv => ?_) (fun wv HC hrm hD => ?_) ?_
    · go_simp <;> rfl
    · refine (known28_any _ wv HC.mutLt).mono ?_
      rintro e w5 ⟨rfl, b5⟩
      exact ⟨_, rfl, rfl, HC.call b5, RM.below b5⟩
    rintro u wg HCg rfl
    simp only [Act.put, List.setIfInBounds_toArray, List.set_cons_succ, List.set_cons_zero]
    clear HCg
    refine dw_val rfl rfl rfl ?_; apply Exists.intro; refine ⟨fun wv HC => ?_, ?_⟩
    ·  go_simp <;> rfl
    simp only [Act.put, List.setIfInBounds_toArray, List.set_cons_succ, List.set_cons_zero]
    refine rel_nil ?_
    rintro wx2 HXE
    rintro hrm HG2
    clear HG2
    go_wp2_with fail
    go_ret
    exact ⟨by first | rfl | simp, HXE.below⟩
end Go.Proofs.Ytkpbnlbhfhkhcaa

namespace Go.Proofs.Ytkpbnlbhfhkhcaa
open Go.ChangeShapes Go.WideShapes Go.ChangeAt Go.RowKit
set_option linter.unusedVariables false
section
variable {H : Type} {enc : TypeId × Value → H} {P : Program}

theorem post_of_below {f : Func} {s : ChangeSpec} {apart fresh handsOn again : Bool} {W W' : World} {args : Array Value} {v : Value} {ds gs : List (DataW H)} {before pa pv : List MemPlace}
    (hW : DataW.Whole enc P f.params.toList s.vars apart W args.toList ds gs before)
    (hres : ∀ (b : Nat) (sp : Nat → Bool) (hd : Bool), DataW.TrodAll enc P W' b sp hd f.resultTypes.toList (v.resultList f.resultTypes.size) (s.fn H (ds ++ gs)).results [])
    (hargs : ∀ sp : Nat → Bool, (∀ p ∈ before, sp p.block = true) → DataW.TrodAll enc P W' 0 sp true f.params.toList args.toList (s.fn H (ds ++ gs)).args pa)
    (hvars : ∀ sp : Nat → Bool, (∀ p ∈ before, sp p.block = true) → DataW.TrodVars enc P W' sp s.vars (s.fn H (ds ++ gs)).vars pv)
    (hps : before = pa ++ pv) (hb : Below W.heap.size W W')
    (hok : ∀ (j : Nat) (t : TypeId) (r : Value), f.resultTypes[j]? = some t → (v.resultList f.resultTypes.size)[j]? = some r → Value.okWide P W' .any 0 t r) :
    s.post enc P f apart fresh handsOn again W args v W' := by
  have hlt : ∀ p ∈ before, p.block < W.heap.size := fun p hp => hW.lt p hp
  have hold : ∀ p ∈ before, (fun b => decide (b < W.heap.size)) p.block = true := fun p hp => by simpa using hlt p hp
  refine ⟨ds, gs, before, [], pa, pv, hW, hres _ _ _, hargs _ hold, hvars _ hold, World.keptBut_mono (fun p hp => ⟨hp, ?_⟩) (hb.frame (· ∈ before)), fun _ => ?_⟩
  · rw [hps, List.mem_append] at hp
    exact Or.inr hp
  · obtain ⟨_, _, _, _, _, hz, hn⟩ := hW
    refine ⟨hok, _, _, ([] ++ pa) ++ pv, ⟨[] ++ pa, pv, trodAll_append (hargs _ (fun _ _ => rfl)) (hres _ _ _), hvars _ (fun _ _ => rfl), rfl, ?_, ?_⟩, ?_⟩
    · intro b off hp
      have hin : MemPlace.cell b off ∈ before := by rw [hps]; simpa using hp
      rw [hb.frozen (hlt _ hin)]
      exact hz b off hin
    · intro ha
      have := hn ha
      rw [hps] at this
      simpa using this
    · intro p hp _
      rw [hps]
      simpa using hp

/-- All the arguments read as they did. -/
theorem trodAll_stays (hl : laidOutB P = true) {W W' : World} {sp : Nat → Bool} : ∀ {ts : List TypeId} {vs : List Value} {ds : List (DataW H)} {ps : List MemPlace},
    ts.all (fun t => P.readableRec t && decide (t < P.types.size)) = true → DataW.TrodAll enc P W 0 (fun _ => true) true ts vs ds ps → (∀ p ∈ ps, W.sameAt W' p) → (∀ p ∈ ps, sp p.block = true) → DataW.TrodAll enc P W' 0 sp true ts vs ds ps
  | [], vs, ds, ps, _, h, _, _ => by
    obtain ⟨rfl, rfl, rfl⟩ := trodAll_nil h; rfl
  | t :: ts, vs, ds, ps, hr, h, hs, hp => by
    obtain ⟨v, vs1, d, ds1, a, b, rfl, rfl, rfl, h1, h2⟩ := trodAll_cons h
    simp only [List.all_cons, Bool.and_eq_true, decide_eq_true_eq] at hr
    exact ⟨a, b, WideElems.Trod_stays hl hr.1.1 hr.1.2 h1 (fun x hx => hs x (by simp [hx])) (fun x hx => hp x (by simp [hx])),
      trodAll_stays hl (by simpa using hr.2) h2 (fun x hx => hs x (by simp [hx])) (fun x hx => hp x (by simp [hx])), rfl⟩

theorem law_post {f : Func} {s : ChangeSpec} {apart fresh handsOn again : Bool} {W W' : World} {args : Array Value} {ds gs : List (DataW H)} {before : List MemPlace} {tb : TypeId}
    (hvs : s.vars = []) (hl : laidOutB P = true) (hrd : f.params.toList.all (fun t => P.readableRec t && decide (t < P.types.size)) = true)
    (htb : f.resultTypes = #[tb]) (hub : P.underlying tb = some .bool) (hfn : s.fn H (ds ++ gs) = { results := [.lit (.bool true)], args := ds })
    (hW : DataW.Whole enc P f.params.toList s.vars apart W args.toList ds gs before) (hb : Below W.heap.size W W') :
    s.post enc P f apart fresh handsOn again W args (.bool true) W' := by
  have hW' := hW
  obtain ⟨p, q, hA, hV, rfl, hfz, hnd⟩ := hW
  rw [hvs] at hV
  obtain ⟨rfl, rfl⟩ := trodVars_none hV
  have hlt : ∀ x ∈ p ++ [], x.block < W.heap.size := fun x hx => hW'.lt x hx
  refine post_of_below (pa := p) (pv := []) hW' ?_ ?_ ?_ rfl hb ?_
  · intro b sp hd
    rw [hfn, htb]
    exact trodAll_mk1 (shut_bool hub _)
  · intro sp hsp
    rw [hfn]
    exact trodAll_stays hl hrd hA (fun x hx => hb.same (hlt x (by simpa using hx))) (fun x hx => hsp x (by simpa using hx))
  · intro sp hsp
    rw [hfn, hvs]
    rfl
  · exact ok_one htb rfl (okWide_bool_mk hub _)
end
end Go.Proofs.Ytkpbnlbhfhkhcaa

namespace Go.Proofs.Ytkpbnlbhfhkhcaa
open Go.RowKit
set_option linter.unusedVariables false

def fit (x : Int) : Bool := decide (-9223372036854775808 ≤ x ∧ x ≤ 9223372036854775807)
end Go.Proofs.Ytkpbnlbhfhkhcaa

namespace Go.Proofs.Ytkpbnlbhfhkhcaa
open Go.ChangeShapes Go.WideShapes Go.ChangeAt Go.RowKit
set_option linter.unusedVariables false

theorem own : ownKnob Try.prog.godebug = none := by kernel_rfl
theorem laidOut : laidOutB Try.prog = true := by kernel_rfl
theorem i64_of_wf {x : Int} (h : (Lit.int .i64 x).wf = true) : I64 x := by
  simp [Lit.wf, IntKind.min, IntKind.max, IntKind.signed, IntKind.bits] at h
  exact ⟨by omega, by omega⟩

end Go.Proofs.Ytkpbnlbhfhkhcaa

namespace Go.Proofs.Ytkpbnlbhfhkhcaa
open Go.ChangeShapes Go.WideShapes Go.ChangeAt Go.RowKit
set_option linter.unusedVariables false
section
variable {H : Type} {enc : TypeId × Value → H} {P : Program}
end
end Go.Proofs.Ytkpbnlbhfhkhcaa

namespace Go.Proofs.Ytkpbnlbhfhkhcaa
open Go.ChangeShapes Go.WideShapes Go.ChangeAt Go.RowKit
set_option linter.unusedVariables false
set_option linter.unusedSimpArgs false

set_option maxRecDepth 100000 in
theorem rankBreaks_lifted (os : Os) (started : os.Started) (H : Type) (enc : TypeId × Value → H) :
    ReturnsInHanded {} Try.checked os 3 .any (Rows.rankBreaksSpec.pre6 enc Try.prog Try.f3 Rows.rankBreaksRow.domain false) (Rows.rankBreaksSpec.post enc Try.prog Try.f3 false true false false) := by
  refine returnsInHanded_of_change_sized (C := Try.checked) own started (by kernel_rfl) Try.func3
    (ChangeSpec.witness6 (enc := enc) (C := Try.checked) false ⟨#[], #[.int .i64 0, .int .i64 0, .int .i64 0], []⟩ 8 (by kernel_rfl) (by kernel_rfl) (by kernel_rfl) (by kernel_rfl)) ?_
  intro W base args ds gs before hval0 hW _ hsz0 _
  have hsz : (DataW.weightsEach Try.prog (Try.f3.params.toList ++ Rows.rankBreaksSpec.plain.varTypes Try.prog) (ds ++ gs)).all (· ≤ reachBytes) = true := hsz0
  have hval : ∀ (j : Nat) t v, Try.f3.params[j]? = some t → args[j]? = some v → Value.okWide Try.prog W .any base t v := hval0
  have hW' := hW
  obtain ⟨p, q, hA0, hV, rfl, hfz, hnd⟩ := hW
  have hA : DataW.TrodAll enc Try.prog W 0 (fun _ => true) true Try.f3.params.toList args.toList ds p := hA0
  rw [Try.params3] at hA hval hsz
  obtain ⟨v0, vs0, d0, ds0, p0, q0, hargs, rfl, rfl, h0, r0⟩ := trodAll_cons hA
  obtain ⟨v1, vs1, d1, ds1, p1, q1, rfl, rfl, rfl, h1, r1⟩ := trodAll_cons r0
  obtain ⟨v2, vs2, d2, ds2, p2, q2, rfl, rfl, rfl, h2, r2⟩ := trodAll_cons r1
  obtain ⟨rfl, rfl, rfl⟩ := trodAll_nil r2
  obtain rfl : args = #[v0, v1, v2] := by cases args; simp_all
  obtain ⟨rfl, rfl⟩ := trodVars_none hV
  obtain ⟨a0, rfl, rfl, rfl, w0⟩ := open_int Try.underlying3 (hval 0 3 v0 rfl rfl) h0
  obtain ⟨a1, rfl, rfl, rfl, w1⟩ := open_int Try.underlying2 (hval 1 2 v1 rfl rfl) h1
  obtain ⟨a2, rfl, rfl, rfl, w2⟩ := open_int Try.underlying3 (hval 2 3 v2 rfl rfl) h2
  refine (rankBreaks_walk a0 a1 a2 W (i64_of_wf w0) (i64_of_wf w1) (i64_of_wf w2)).mono fun e W' ⟨he, hb⟩ => ?_
  exact ⟨_, he, law_post rfl laidOut (by kernel_rfl) (by kernel_rfl) Try.underlying4 rfl hW' hb⟩

theorem rankBreaks_holds : Rows.RankBreaksSaid :=
  OpenClaim.holds_of_wide 3 Try.f3 rfl rfl rfl rfl rfl rfl rfl ⟨rfl, rfl, rfl, rfl, rfl⟩ rfl rfl rfl rfl rfl (by kernel_rfl) Try.func3 (by kernel_rfl)
    (of_decide_eq_true (by kernel_rfl)) (by unfold Func.isWrapper; first | (rw [if_pos (by decide +kernel)]; kernel_rfl) | (rw [if_neg (by decide +kernel)]; exact ⟨rfl, rfl⟩))
    (fun os started H enc _ => rankBreaks_lifted os started H enc)
#print axioms rankBreaks_holds
end Go.Proofs.Ytkpbnlbhfhkhcaa

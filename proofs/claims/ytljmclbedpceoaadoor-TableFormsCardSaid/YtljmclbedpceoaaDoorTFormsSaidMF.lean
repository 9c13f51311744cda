/- TableForms answers true for every table, tape, number and value: the functions of tables answer what the reference answers. Condition: the row's own, the laid tables of words and of names; the tied card. -/
import Derived.Test.YtljmclbedpceoaaDoorTFormsSaidMA
import Derived.Test.YtljmclbedpceoaaDoorTFormsSaidMB
import Derived.Deep.RegionHeld3
import Derived.IntWalk
import Derived.Deep.DeepCutAuto
import Derived.Orders
import Derived.Test.YtljmclbedpceoaaDoorTFormsSaidMD
import Derived.Test.YtljmclbedpceoaaDoorTFormsSaidME
import Derived.Test.YtljmclbedpceoaaDoorTFormsSaidMC
import Derived.Test.YtljmclbedpceoaaDoorCards
import Derived.Test.YtljmclbedpceoaaDoorTie
namespace Go.Proofs.YtljmclbedpceoaaDoor
open Go.RowKit
set_option linter.unusedVariables false
set_option linter.unusedSimpArgs false

/-- The columns that a draw makes: names three places apart, at most one key, which is not null. -/
def DrawnCols (key : Nat) (l : List Col) : Prop := ∀ j c, l[j]? = some c → c.name = nm_ ((j * 3 + key) % 8) ∧ 1 ≤ c.ty ∧ c.ty ≤ 3 ∧ (c.key = true → j = key ∧ c.nn = true)

/-- A schema drawn: valid, its columns in memory that nobody writes. -/
def DrawnSch (w : World) (T : Nat) (M : Nat → Prop) (e : Ending) (w' : World) : Prop :=
  ∃ (nm : ByteArray) (A : Option Addr) (n c : Nat) (l : List Col), e = .returned (.agg #[.string nm, .slice A n c]) ∧ schemaB nm l = true ∧ nm.size ≤ 12 ∧ (∀ x ∈ l, x.name.size ≤ 12) ∧ n ≤ 5 ∧ n ≤ c ∧ c ≤ 9223372036854775807 ∧ Ro w' M (SlR 4 A n (colCells l)) ∧ Tp w' T ∧ w.grownBy w' (some T)

theorem findFrom_some {α : Type} (p : α → Bool) : ∀ (l : List α) (k f : Nat), findFrom p k l = (f : Int) → ∃ x, l[f - k]? = some x ∧ p x = true ∧ k ≤ f
  | [], k, f, h => by rw [findFrom] at h; omega
  | c :: r, k, f, h => by
    rw [findFrom] at h
    split at h
    · rename_i hp
      obtain rfl : k = f := by omega
      exact ⟨c, by simp, hp, Nat.le_refl _⟩
    · obtain ⟨x, h1, h2, h3⟩ := findFrom_some p r (k + 1) f h
      refine ⟨x, ?_, h2, by omega⟩
      rw [show f - k = (f - (k + 1)) + 1 from by omega]
      simpa using h1
theorem find_some_of {α : Type} {p : α → Bool} {l : List α} {f : Nat} (h : findB p l = (f : Int)) : ∃ x, l[f]? = some x ∧ p x = true := by
  obtain ⟨x, h1, h2, _⟩ := findFrom_some p l 0 f h
  exact ⟨x, by simpa using h1, h2⟩
theorem drawnCols_snoc {key : Nat} {l : List Col} {c : Col} (h : DrawnCols key l) (h1 : c.name = nm_ ((l.length * 3 + key) % 8)) (h2 : 1 ≤ c.ty) (h3 : c.ty ≤ 3) (h4 : c.key = true → l.length = key ∧ c.nn = true) : DrawnCols key (l ++ [c]) := by
  intro j x hx
  rcases Nat.lt_or_ge j l.length with hlt | hge
  · rw [List.getElem?_append_left hlt] at hx; exact h j x hx
  · rw [List.getElem?_append_right hge] at hx
    have : j - l.length = 0 := by
      have := (List.getElem?_eq_some_iff.1 hx).1; simp at this; omega
    rw [this] at hx
    simp only [List.getElem?_cons_zero, Option.some.injEq] at hx
    subst hx
    obtain rfl : j = l.length := by omega
    exact ⟨h1, h2, h3, h4⟩
theorem find_first {l : List Col} {key : Nat} (h : DrawnCols key l) (hl : l.length ≤ 5) {j : Nat} {c : Col} (hc : l[j]? = some c) : findB (named c.name) l = (j : Int) := by
  obtain ⟨f0, f1⟩ := find_le (l := l) (named_self c) hc
  obtain ⟨f, hf⟩ := Int.eq_ofNat_of_zero_le f0
  have hj := (List.getElem?_eq_some_iff.1 hc).1
  have hex : ∃ x, l[f]? = some x ∧ named c.name x = true := by
    have := find_some_of (p := named c.name) (l := l) (f := f) hf
    exact this
  obtain ⟨x, hx, hn⟩ := hex
  obtain ⟨e1, _⟩ := h f x hx
  obtain ⟨e2, _⟩ := h j c hc
  rw [hf]
  by_cases hne : f = j
  · rw [hne]
  · exfalso
    unfold named at hn
    rw [e1, e2] at hn
    have hfl := (List.getElem?_eq_some_iff.1 hx).1
    rw [nm_ne _ (Nat.mod_lt _ (by omega)) _ (Nat.mod_lt _ (by omega)) (by omega)] at hn
    cases hn
theorem okFrom_all {α : Type} {t : Nat → α → Bool} : ∀ (l : List α) (k : Nat), (∀ j c, l[j]? = some c → t (k + j) c = true) → okFrom t k l = true
  | [], _, _ => rfl
  | c :: r, k, h => by
    rw [okFrom, show t k c = true from h 0 c rfl, Bool.true_and]
    exact okFrom_all r (k + 1) fun j x hx => by rw [show k + 1 + j = k + (j + 1) from by omega]; exact h (j + 1) x (by simpa using hx)
theorem keys_one {key : Nat} : ∀ (l : List Col) (k : Nat), (∀ j c, l[j]? = some c → c.key = true → k + j = key) → (l.filter Col.key).length ≤ 1 ∧ (key < k → (l.filter Col.key).length = 0)
  | [], _, _ => by simp
  | c :: r, k, h => by
    obtain ⟨h1, h2⟩ := keys_one (key := key) r (k + 1) fun j x hx hk => by have := h (j + 1) x (by simpa using hx) hk; omega
    have h0 := h 0 c rfl
    cases hk : c.key
    · simp only [List.filter_cons, hk, Bool.false_eq_true, if_false]
      exact ⟨h1, fun hlt => h2 (by omega)⟩
    · have := h0 hk
      simp only [List.filter_cons, hk, if_true, List.length_cons]
      have := h2 (by omega)
      exact ⟨by omega, fun hlt => by omega⟩
theorem drawn_valid {key : Nat} {l : List Col} {j : Nat} (h : DrawnCols key l) (hl : l.length ≤ 5) (h1 : 1 ≤ l.length) (hj : j < 8) : schemaB (nm_ j) l = true := by
  have hk := (keys_one (key := key) l 0 (fun i c hc hk => by have := ((h i c hc).2.2.2 hk).1; omega)).1
  have ho : okFrom (colOk l) 0 l = true := okFrom_all l 0 fun i c hc => by
    obtain ⟨e1, e2, e3, e4⟩ := h i c hc
    rw [Nat.zero_add]
    unfold colOk
    rw [find_first h hl hc, e1, (nm_ok _ (Nat.mod_lt _ (by omega))).1]
    cases hkey : c.key
    · simp [e2, e3]
    · simp [e2, e3, (e4 hkey).2]
  unfold schemaB
  rw [(nm_ok j hj).1, ho]
  simp [h1, hk]; omega

theorem two_of {w : World} {a b : Nat} {t : TypeId} {x0 x1 : Value} {s : ByteArray} {j : Nat} (ha : Blk w a t #[x0, x1]) (hn : w.cell? ⟨b, j, none⟩ = some (.string s)) : w.cell? ⟨a, 1, none⟩ = some x1 ∧ w.cell? ⟨b, j, none⟩ = some (.string s) := ⟨ha.cell 1, hn⟩
theorem Tryd.infoCol : (Tryd.prog.info? 70).map (fun i => (i.zero, i.size, i.bytes)) = some (some (.agg #[.string ⟨#[]⟩, .int .i64 0, .bool false, .bool false]), 4, 32) := by kernel_rfl

set_option maxHeartbeats 8000000 in
theorem anyschema_any (M : Nat → Prop) (T : Nat) (w : World) (hM : ∀ b, M b → b < w.heap.size) (ht : Tp w T) (hMT : ∀ b, M b → T ≤ b) (hw : Nms w) (hT : 0 < T) :
    Calls Tryd.prog 37 #[.pointer (some ⟨T, 0, none⟩)] w fun e w' => DrawnSch w T M e w' := by
  have hMn : ¬ Mut M [.tp T] 0 := by
    rintro (h | ⟨k, hk, hf⟩)
    · have := hMT _ h; omega
    · simp only [List.mem_singleton] at hk; subst hk; injection hf with hf; omega
  have K0 := ((Hold.startT M w T hM ht hMT).add (hw.ro hMn)).alloc #[.string ⟨#[]⟩, .slice none 0 0] 37
  clear hw hMn
  go_enter Tryd.func37, Tryd.ntmps37
  go_wp2_with fail
  refine (name_any T _ (K0.tp_ 2 rfl) (K0.ro 1 rfl).now hT).mono ?_
  rintro e w1 ⟨jn, hjn, rfl, t1, g1⟩
  have K1 := (Hold.callT K0 2 rfl g1 t1).alloc #[.string (nm_ jn), .slice none 0 0] 37
  clear g1 t1
  go_wp2_with fail
  refine (next_any T 4 _ (K1.tp_ 3 rfl) (by omega) (by omega)).mono ?_
  rintro e w2 ⟨key, rfl, hk0, hk1, t2, g2⟩
  have K2 := Hold.callT K1 3 rfl g2 t2
  clear g2 t2
  obtain ⟨key, rfl⟩ := Int.eq_ofNat_of_zero_le hk0
  go_wp2_with fail
  refine (next_any T 5 _ (K2.tp_ 3 rfl) (by omega) (by omega)).mono ?_
  rintro e w3 ⟨num, rfl, hn0, hn1, t3, g3⟩
  have K3 := Hold.callT K2 3 rfl g3 t3
  clear g3 t3
  obtain ⟨num, rfl⟩ := Int.eq_ofNat_of_zero_le hn0
  have K4 := K3.nil 70 4
  clear K3 K2 K1 K0
  go_wp2_with fail
  go_loopw [5] (fun i wr => ∃ (j cap : Nat) (A : Option Addr) (l : List Col), j ≤ num + 1 ∧ i = .int .i64 ((num : Int) + 1 - j) ∧ l.length = j ∧ DrawnCols key l ∧ j ≤ cap ∧
    Hold M (some T) w wr [.own 70 4 (.slice A j cap) j (colCells l), .blk w1.heap.size 37 #[.string (nm_ jn), .slice A j cap], .blk w.heap.size 37 #[.string ⟨#[]⟩, .slice none 0 0], .ro Nms, .tp T]) (fun i _ => (intOf i).toNat)
  case atStart => exact ⟨0, 0, none, [], by omega, by go_num, rfl, (fun j c h => by simp at h), by omega, K4⟩
  case round =>
    obtain ⟨j, cap, A, l, hj, rfl, hl, hd, hcap, H⟩ := hrel
    have HL := hid hl; clear hl
    have HD := hid hd; clear hd
    have F := H.facts
    simp only [World.size_alloc, factsL, cellsF, List.toList_toArray, Nat.reduceAdd, and_true, true_and] at F
    by_cases hlt : j < num + 1
    · obtain ⟨q, hq⟩ : ∃ q, q = (j * 3 + key) % 8 := ⟨_, rfl⟩
      have hq8 : q < 8 := by omega
      have s1 : IntKind.i64.wrap ((j : Int) * 3) = (j : Int) * 3 := IntWalk.i64_in _ (by omega)
      have s2 : IntKind.i64.wrap ((j : Int) * 3 + (key : Int)) = (j : Int) * 3 + (key : Int) := IntWalk.i64_in _ (by omega)
      have s3 : ((j : Int) * 3 + (key : Int)).tmod 8 = (q : Int) := by rw [Int.tmod_eq_emod_of_nonneg (by omega)]; omega
      have s4 : IntKind.i64.wrap (q : Int) = (q : Int) := IntWalk.i64_in _ (by omega)
      have HQ := hid hq; clear hq
      have q0 : (0 : Int) ≤ (q : Int) := by omega
      have q8 : (q : Int) < 8 := by omega
      go_wp2_with fail
      go_cut [6] (fun s6 wx => ∃ (g : Nat) (r : Int) (bb : Bool), s6 = .pointer (some ⟨g, 0, none⟩) ∧ 0 ≤ r ∧ r < 3 ∧
        Hold M (some T) w wx [.blk g 70 #[.string (nm_ q), .int .i64 (1 + r), .bool bb, .bool false], .own 70 4 (.slice A j cap) j (colCells l), .blk w1.heap.size 37 #[.string (nm_ jn), .slice A j cap], .blk w.heap.size 37 #[.string ⟨#[]⟩, .slice none 0 0], .ro Nms, .tp T])
      case first =>
        go_region_held3 (fun w' => w'.cell? ⟨w1.heap.size, 1, none⟩ = some (.slice A j cap) ∧ w'.cell? ⟨0, q, none⟩ = some (.string (nm_ q)))
          (first | (have hk_ := two_of (H.drew.blk_ 1 rfl) ((H.drew.ro 3 rfl).now q hq8); with_reducible exact hk_) | (have hk_ := two_of (((H.alloc #[.string ⟨#[]⟩, .int .i64 0, .bool false, .bool false] 70).drew).blk_ 2 rfl) ((((H.alloc #[.string ⟨#[]⟩, .int .i64 0, .bool false, .bool false] 70).drew).ro 4 rfl).now q hq8); with_reducible exact hk_) | (have hk_ := two_of ((H.drew.alloc #[.string ⟨#[]⟩, .int .i64 0, .bool false, .bool false] 70).blk_ 2 rfl) (((H.drew.alloc #[.string ⟨#[]⟩, .int .i64 0, .bool false, .bool false] 70).ro 4 rfl).now q hq8); with_reducible exact hk_) | (have hk_ := two_of (K5.blk_ 1 rfl) ((K5.ro 3 rfl).now q hq8); with_reducible exact hk_) | (have hk_ := two_of (K5.blk_ 2 rfl) ((K5.ro 4 rfl).now q hq8); with_reducible exact hk_) | (have hk_ := two_of ((K5.alloc #[.string ⟨#[]⟩, .int .i64 0, .bool false, .bool false] 70).blk_ 2 rfl) (((K5.alloc #[.string ⟨#[]⟩, .int .i64 0, .bool false, .bool false] 70).ro 4 rfl).now q hq8); with_reducible exact hk_) | (have hk_ := two_of (K6.blk_ 1 rfl) ((K6.ro 3 rfl).now q hq8); with_reducible exact hk_) | (have hk_ := two_of (K6.blk_ 2 rfl) ((K6.ro 4 rfl).now q hq8); with_reducible exact hk_) | (have hk_ := two_of ((K6.alloc #[.string ⟨#[]⟩, .int .i64 0, .bool false, .bool false] 70).blk_ 2 rfl) (((K6.alloc #[.string ⟨#[]⟩, .int .i64 0, .bool false, .bool false] 70).ro 4 rfl).now q hq8); with_reducible exact hk_) | (have hk_ := two_of ((K6.alloc #[.string (nm_ q), .int .i64 (1 + r), .bool bb, .bool false] 70).blk_ 2 rfl) (((K6.alloc #[.string (nm_ q), .int .i64 (1 + r), .bool bb, .bool false] 70).ro 4 rfl).now q hq8); with_reducible exact hk_) | (have hk_ := two_of (((((K6.store 0 rfl 0 (.string (nm_ q))).store 0 rfl 1 (.int .i64 (1 + r))).store 0 rfl 2 (.bool bb)).store 0 rfl 3 (.bool false)).blk_ 2 rfl) ((((((K6.store 0 rfl 0 (.string (nm_ q))).store 0 rfl 1 (.int .i64 (1 + r))).store 0 rfl 2 (.bool bb)).store 0 rfl 3 (.bool false)).ro 4 rfl).now q hq8); with_reducible exact hk_))
          (first
            | (have ht_ := H.drew.tp_ 4 rfl; go_at_call 10; ((with_reducible refine (next_any T 3 _ ht_ (by omega) (by omega)).mono ?_); clear ht_; rintro e w5 ⟨r, rfl, hr0, hr1, t5, g5⟩; have K5 := Hold.callT H.drew 4 rfl g5 t5; have hw5 : IntKind.i64.wrap (1 + r) = 1 + r := IntWalk.i64_in _ (by omega)))
            | (have ht_ := ((H.alloc #[.string ⟨#[]⟩, .int .i64 0, .bool false, .bool false] 70).drew).tp_ 5 rfl; go_at_call 10; ((with_reducible refine (next_any T 3 _ ht_ (by omega) (by omega)).mono ?_); clear ht_; rintro e w5 ⟨r, rfl, hr0, hr1, t5, g5⟩; have K5 := Hold.callT ((H.alloc #[.string ⟨#[]⟩, .int .i64 0, .bool false, .bool false] 70).drew) 5 rfl g5 t5; have hw5 : IntKind.i64.wrap (1 + r) = 1 + r := IntWalk.i64_in _ (by omega)))
            | (have ht_ := (H.drew.alloc #[.string ⟨#[]⟩, .int .i64 0, .bool false, .bool false] 70).tp_ 5 rfl; go_at_call 10; ((with_reducible refine (next_any T 3 _ ht_ (by omega) (by omega)).mono ?_); clear ht_; rintro e w5 ⟨r, rfl, hr0, hr1, t5, g5⟩; have K5 := Hold.callT (H.drew.alloc #[.string ⟨#[]⟩, .int .i64 0, .bool false, .bool false] 70) 5 rfl g5 t5; have hw5 : IntKind.i64.wrap (1 + r) = 1 + r := IntWalk.i64_in _ (by omega)))
            | (have ht_ := K5.tp_ 4 rfl; go_at_call 42; ((with_reducible refine (bool_any T 3 _ ht_ (by omega) (by omega)).mono ?_); clear ht_; rintro e w6 ⟨bb, rfl, t6, g6⟩; have K6 := Hold.callT K5 4 rfl g6 t6; have F6 := K6.facts; simp only [World.size_alloc, World.size_drew, factsL, cellsF, Nat.reduceAdd, List.toList_toArray, List.set_cons_zero, List.set_cons_succ, List.setIfInBounds_toArray, and_true, true_and] at F6))
            | (have ht_ := K5.tp_ 5 rfl; go_at_call 42; ((with_reducible refine (bool_any T 3 _ ht_ (by omega) (by omega)).mono ?_); clear ht_; rintro e w6 ⟨bb, rfl, t6, g6⟩; have K6 := Hold.callT K5 5 rfl g6 t6; have F6 := K6.facts; simp only [World.size_alloc, World.size_drew, factsL, cellsF, Nat.reduceAdd, List.toList_toArray, List.set_cons_zero, List.set_cons_succ, List.setIfInBounds_toArray, and_true, true_and] at F6))
            | (have ht_ := (K5.alloc #[.string ⟨#[]⟩, .int .i64 0, .bool false, .bool false] 70).tp_ 5 rfl; go_at_call 42; ((with_reducible refine (bool_any T 3 _ ht_ (by omega) (by omega)).mono ?_); clear ht_; rintro e w6 ⟨bb, rfl, t6, g6⟩; have K6 := Hold.callT (K5.alloc #[.string ⟨#[]⟩, .int .i64 0, .bool false, .bool false] 70) 5 rfl g6 t6; have F6 := K6.facts; simp only [World.size_alloc, World.size_drew, factsL, cellsF, Nat.reduceAdd, List.toList_toArray, List.set_cons_zero, List.set_cons_succ, List.setIfInBounds_toArray, and_true, true_and] at F6)))
        all_goals
          go_wp2_with fail
          go_meet
          first
            | exact ⟨_, r, bb, rfl, hr0, hr1, K6.alloc #[.string (nm_ q), .int .i64 (1 + r), .bool bb, .bool false] 70⟩
            | exact ⟨_, r, bb, rfl, hr0, hr1, (((K6.store 0 rfl 0 (.string (nm_ q))).store 0 rfl 1 (.int .i64 (1 + r))).store 0 rfl 2 (.bool bb)).store 0 rfl 3 (.bool false)⟩
      case rest =>
        obtain ⟨g, r, bb, rfl, hr0, hr1, K⟩ := hcut
        clear s1 s2 s3 s4 F H
        have NK := K.nes
        simp only [World.size_alloc, nesL, neF, and_true, true_and] at NK
        have FK := K.facts
        simp only [World.size_alloc, World.size_drew, factsL, cellsF, Nat.reduceAdd, List.toList_toArray, List.set_cons_zero, List.set_cons_succ, List.setIfInBounds_toArray, and_true, true_and] at FK
        by_cases hkj : key = j
        · have hkb : ((key : Int) == (j : Int)) = true := by simp; omega
          have HKJ := hid hkj; clear hkj
          have KP := ((K.store 0 rfl 3 (.bool true)).store 0 rfl 2 (.bool true))
          have HOWN := hid (KP.get 1 rfl)
          have HB := hid KP.grow.size
          go_wp2_with (at_builtin; go_must (refine wpList_app2 ((wc.setCell ⟨g, 3, none⟩ (.bool true)).setCell ⟨g, 2, none⟩ (.bool true)) #[.string (nm_ q), .int .i64 (1 + r), .bool true, .bool true] rfl (.tmp 42) (.tmp 44) 35 rfl w.heap.size 70 4 32 _ Tryd.underlying35 Tryd.infoCol rfl (by omega) (.slice A j cap) j (colCells l) rfl HOWN.out wc.heap.size (by simp) rfl rfl (by intro u hu; simp at hu; rcases hu with rfl | rfl | rfl | rfl <;> rfl) (by omega) (by omega) HB.out ?_); intro g' cap' w' ho hg hdj hl'; have hcap' := hid ho.2; have KA := Hold.append (KP.alloc_cst #[.string (nm_ q), .int .i64 (1 + r), .bool true, .bool true] 70) 2 rfl ho hg hdj hl'; have FA := KA.facts; simp only [World.size_alloc, World.size_drew, factsL, cellsF, Nat.reduceAdd, List.toList_toArray, List.set_cons_zero, List.set_cons_succ, List.setIfInBounds_toArray, and_true, true_and] at FA; clear FK)
          have KB := KA.store 3 rfl 1 (.slice (some ⟨g', 0, none⟩) (j + 1) cap')
          go_roundw
          case rel =>
            have e : colCells l ++ (#[.string (nm_ q), .int .i64 (1 + r), .bool true, .bool true] : Array Value).toList = colCells (l ++ [⟨nm_ q, 1 + r, true, true⟩]) := by simp [colCells, Col.cells]
            have hcc : j + 1 ≤ cap' := by
              rcases hcap'.out with ⟨h, _⟩ | ⟨g2, c2, cur, hv, _, _, hle, _⟩
              · cases h
              · have h3 := (Value.slice.inj hv).2.2; omega
            refine ⟨j + 1, cap', some ⟨g', 0, none⟩, l ++ [⟨nm_ q, 1 + r, true, true⟩], by omega, by go_num, by rw [List.length_append, HL.out]; rfl, drawnCols_snoc HD.out (by rw [HL.out, ← HQ.out]) (by show (1 : Int) ≤ 1 + r; omega) (by show 1 + r ≤ (3 : Int); omega) ?_, hcc, ?_⟩
            · intro _; exact ⟨by rw [HL.out, HKJ.out], rfl⟩
            · rw [← e]
              exact KB.drop (List.Sublist.cons _ (List.sublist_cons_self _ _))
          case measure => simp [intOf]; omega
        · have hkb : ((key : Int) == (j : Int)) = false := by simp; omega
          clear hkj
          have KP := K
          have HOWN := hid (KP.get 1 rfl)
          have HB := hid KP.grow.size
          go_wp2_with (at_builtin; go_must (refine wpList_app2 wc #[.string (nm_ q), .int .i64 (1 + r), .bool bb, .bool false] rfl (.tmp 42) (.tmp 44) 35 rfl w.heap.size 70 4 32 _ Tryd.underlying35 Tryd.infoCol rfl (by omega) (.slice A j cap) j (colCells l) rfl HOWN.out wc.heap.size (by simp) rfl rfl (by intro u hu; simp at hu; rcases hu with rfl | rfl | rfl | rfl <;> rfl) (by omega) (by omega) HB.out ?_); intro g' cap' w' ho hg hdj hl'; have hcap' := hid ho.2; have KA := Hold.append (KP.alloc_cst #[.string (nm_ q), .int .i64 (1 + r), .bool bb, .bool false] 70) 2 rfl ho hg hdj hl'; have FA := KA.facts; simp only [World.size_alloc, World.size_drew, factsL, cellsF, Nat.reduceAdd, List.toList_toArray, List.set_cons_zero, List.set_cons_succ, List.setIfInBounds_toArray, and_true, true_and] at FA; clear FK)
          have KB := KA.store 3 rfl 1 (.slice (some ⟨g', 0, none⟩) (j + 1) cap')
          go_roundw
          case rel =>
            have e : colCells l ++ (#[.string (nm_ q), .int .i64 (1 + r), .bool bb, .bool false] : Array Value).toList = colCells (l ++ [⟨nm_ q, 1 + r, bb, false⟩]) := by simp [colCells, Col.cells]
            have hcc : j + 1 ≤ cap' := by
              rcases hcap'.out with ⟨h, _⟩ | ⟨g2, c2, cur, hv, _, _, hle, _⟩
              · cases h
              · have h3 := (Value.slice.inj hv).2.2; omega
            refine ⟨j + 1, cap', some ⟨g', 0, none⟩, l ++ [⟨nm_ q, 1 + r, bb, false⟩], by omega, by go_num, by rw [List.length_append, HL.out]; rfl, drawnCols_snoc HD.out (by rw [HL.out, ← HQ.out]) (by show (1 : Int) ≤ 1 + r; omega) (by show 1 + r ≤ (3 : Int); omega) ?_, hcc, ?_⟩
            · intro h; cases h
            · rw [← e]
              exact KB.drop (List.Sublist.cons _ (List.sublist_cons_self _ _))
          case measure => simp [intOf]; omega
    · obtain rfl : j = num + 1 := by omega
      have hc63 : cap ≤ 9223372036854775807 := by
        rcases (H.get 0 rfl).2 with ⟨h, _⟩ | ⟨g2, c2, cur, hv, _, _, hle, hm, _⟩
        · injection h with _ h2 h3; omega
        · have h3 := (Value.slice.inj hv).2.2; unfold maxLen at hm; omega
      have HV := hid (drawn_valid HD.out (by rw [HL.out]; omega) (by rw [HL.out]; omega) hjn)
      have HN := hid (show ∀ x ∈ l, x.name.size ≤ 12 from fun x hx => by
        obtain ⟨i, hi⟩ := List.getElem?_of_mem hx
        rw [(HD.out i x hi).1]
        exact (nm_ok _ (Nat.mod_lt _ (by omega))).2)
      have KF := ((H.sealRow 0 rfl).store 2 rfl 0 (.string (nm_ jn))).store 2 rfl 1 (.slice A (num + 1) cap)
      go_wp2_with fail
      refine bodyPost_ret (v := .agg #[.string (nm_ jn), .slice A (num + 1) cap]) (by simp [results, Tryd.results37, go_sem, F]) rfl ⟨nm_ jn, A, num + 1, cap, l, rfl, HV.out, (nm_ok jn hjn).2, HN.out, by omega, by omega, hc63, KF.roOut 0 rfl, KF.tp_ 4 rfl, KF.grow⟩
end Go.Proofs.YtljmclbedpceoaaDoor

namespace Go.Proofs.YtljmclbedpceoaaDoor
open Go Go.RowKit
set_option linter.unusedVariables false
set_option linter.unusedSectionVars false
set_option linter.unusedSimpArgs false

section
variable {P : Program} {ops : Array Oper} {C : World → Prop} {G : Option Tmp → Value → World → Prop} {R : World → World → Prop} {n N : Nat} {F : Act → Prop}

end
section
variable {P : Program} {M : Nat → Prop} {row : Option Nat} {w0 w1 : World} {L : List Hp} {sp : SpW} {F : Act → Prop} {S0 : Array Bool}
end
end Go.Proofs.YtljmclbedpceoaaDoor

namespace Go.Proofs.YtljmclbedpceoaaDoor
open Go.RowKit
set_option linter.unusedVariables false
set_option linter.unusedSimpArgs false

def IntSl (u : Value) (_ : World) : Prop := ∃ r : Int, u = .int .i64 r
theorem intSl_mono {M : Nat → Prop} (u : Value) (w w' : World) (_ : RM M w w') (h : IntSl u w) : IntSl u w' := h
def NumSl (u : Value) (_ : World) : Prop := ∃ r : Int, u = .agg #[.int .i64 1, .int .i64 r, .string ⟨#[]⟩]
theorem numSl_mono {M : Nat → Prop} (u : Value) (w w' : World) (_ : RM M w w') (h : NumSl u w) : NumSl u w' := h
def SomeTe (M : Nat → Prop) (u : Value) (w : World) : Prop := ∃ x : Te, u = x.val ∧ x.ok ∧ TbM x.tb ∧ Ro w M (TeIn x)
theorem someTe_mono {M : Nat → Prop} (u : Value) (w w' : World) (hr : RM M w w') (h : SomeTe M u w) : SomeTe M u w' := by
  obtain ⟨x, h1, h2, h3, h4⟩ := h
  exact ⟨x, h1, h2, h3, hr.ro h4⟩
def Tel5 (M : Nat → Prop) (a b c : Te) (u : Value) (w : World) : Prop := ∃ (g : Nat) (x y : Te), u = .slice (some ⟨g, 0, none⟩) 5 5 ∧ x.ok ∧ y.ok ∧ TbM x.tb ∧ TbM y.tb ∧ Ro w M (TesIn (some ⟨g, 0, none⟩) 5 [a, b, c, x, y])
theorem tel5_mono {M : Nat → Prop} {a b c : Te} (u : Value) (w w' : World) (hr : RM M w w') (h : Tel5 M a b c u w) : Tel5 M a b c u w' := by
  obtain ⟨g, x, y, h1, h2, h3, h4, h5, h6⟩ := h
  exact ⟨g, x, y, h1, h2, h3, h4, h5, hr.ro h6⟩
theorem te_val {x y : Te} (h : x.val = y.val) : x.nm = y.nm ∧ x.A = y.A ∧ x.n = y.n ∧ x.c = y.c ∧ x.nx = y.nx ∧ x.B = y.B ∧ x.m = y.m ∧ x.d = y.d := by
  simp only [Te.val, Value.agg.injEq, Array.mk.injEq, List.cons.injEq, Value.string.injEq, Value.slice.injEq, Value.int.injEq, and_true, true_and] at h
  obtain ⟨h1, ⟨h2, h3, h4⟩, h5, h6, h7, h8⟩ := h
  exact ⟨h1, h2, h3, h4, h5, h6, h7, h8⟩
theorem te_cells2 {a b c z y u v : Te} (h : z.val = y.val) (k : u.val = v.val) : (#[.string a.nm, .slice a.A a.n a.c, .int .i64 a.nx, .slice a.B a.m a.d, .string b.nm, .slice b.A b.n b.c, .int .i64 b.nx, .slice b.B b.m b.d, .string c.nm, .slice c.A c.n c.c, .int .i64 c.nx, .slice c.B c.m c.d, .string z.nm, .slice z.A z.n z.c, .int .i64 z.nx, .slice z.B z.m z.d, .string u.nm, .slice u.A u.n u.c, .int .i64 u.nx, .slice u.B u.m u.d] : Array Value) = #[.string a.nm, .slice a.A a.n a.c, .int .i64 a.nx, .slice a.B a.m a.d, .string b.nm, .slice b.A b.n b.c, .int .i64 b.nx, .slice b.B b.m b.d, .string c.nm, .slice c.A c.n c.c, .int .i64 c.nx, .slice c.B c.m c.d, .string y.nm, .slice y.A y.n y.c, .int .i64 y.nx, .slice y.B y.m y.d, .string v.nm, .slice v.A v.n v.c, .int .i64 v.nx, .slice v.B v.m v.d] := by
  obtain ⟨h1, h2, h3, h4, h5, h6, h7, h8⟩ := te_val h
  obtain ⟨k1, k2, k3, k4, k5, k6, k7, k8⟩ := te_val k
  rw [h1, h2, h3, h4, h5, h6, h7, h8, k1, k2, k3, k4, k5, k6, k7, k8]
set_option maxHeartbeats 16000000 in
set_option maxRecDepth 100000 in
theorem tforms_walk (v0 : Value) (tp : Tb) (A : Option Addr) (n c : Nat) (zs : List Int) (id : Int) (key : Vl) (w : World) (hT0 : TbAt w None_ v0 tp) (hM0 : TbM tp)
    (hr : Rd w w.heap.size 1 A n (zs.map (Value.int .i64))) (hz : Ints zs) (hn : n ≤ c) (hc : c ≤ 9223372036854775807) (hw : Wds w) (hnm : Nms w) :
    Calls Tryd.prog 7 #[v0, .slice A n c, .int .i64 id, .agg #[.int .i64 key.k, .int .i64 key.i, .string key.s]] w fun e w' => e = .returned (.bool true) ∧ Below w.heap.size w w' := by
  obtain ⟨x0, rfl, rfl, hx0, rx0⟩ := tb_te hT0
  have HO0 := hid hx0
  have HM0 := hid hM0
  have hwl := hw.lt
  have hnl := hnm.lt
  have HML := hid (show x0.l.length = x0.m from rx0.now.2.len)
  have K0 := (((Hold.begin_ w).add (rx0.less (by simp [Mut]))).alloc_cst #[.string x0.nm, .slice x0.A x0.n x0.c, .int .i64 x0.nx, .slice x0.B x0.m x0.d] 40).alloc_cst #[.int .i64 key.k, .int .i64 key.i, .string key.s] 66
  rw [World.size_alloc] at K0
  have F0 := K0.facts
  simp only [World.size_alloc, World.size_drew, factsL, cellsF, Nat.reduceAdd, List.toList_toArray, List.set_cons_zero, List.set_cons_succ, List.setIfInBounds_toArray, and_true, true_and] at F0
  clear hT0 hM0 hx0 rx0
  unfold Te.val
  go_enter Tryd.func7, Tryd.ntmps7
  obtain ⟨g4, hg4⟩ : ∃ g, g = w.heap.size := ⟨_, rfl⟩
  obtain ⟨g7, hg7⟩ : ∃ g, g = g4 + 1 := ⟨_, rfl⟩
  by_cases hm : 40 < x0.m
  · have hb1 : decide ((x0.m : Int) > 40) = true := by simp; omega
    have hb1' : decide (40 < x0.m) = true := by simp; omega
    go_wp2_with fail
    refine (known6 _).mono ?_
    rintro e w9 ⟨rfl, b9⟩
    have K9 := K0.call b9
    go_wp2_with fail
    go_ret
    exact ⟨by first | rfl | simp, K9.below⟩
  have hb1 : decide ((x0.m : Int) > 40) = false := by simp; omega
  have hb1' : decide (40 < x0.m) = false := by simp; omega
  go_wp2_with fail
  rw [← hg4, ← hg7] at K0 ⊢
  clear F0 hb1 hb1' hm
  generalize (w.alloc _).alloc _ = w1 at K0 ⊢
  have hr1 : Rd w1 w1.heap.size 1 A n (zs.map (Value.int .i64)) := (hr.keep fun p hp => World.cell?_of_block (w := w) (K0.below.block p.block hp)).more K0.grow.size
  have wd1 : Wds w1 := hw.below K0.below hwl
  have nm1 : Nms w1 := hnm.below K0.below hnl
  have hle1 : w.heap.size ≤ w1.heap.size := K0.grow.size
  clear hr hw hnm
  refine (new_any A n c zs _ hr1 hz hn hc).mono ?_
  rintro e w2 ⟨T, rfl, hT, t1, b1⟩
  have K1 := Hold.newTape K0 b1 t1 hT (by simp [Mut, None_, Hp.foot])
  have hT1 : 1 < T := by omega
  have hT2 : 0 < T := by omega
  have wd0 : Wds w2 := wd1.below b1 (by omega)
  have nm0 : Nms w2 := nm1.below b1 (by omega)
  have K2 := (K1.add (nm0.ro (show ¬ Mut None_ _ 0 from fun h => by simp [Mut, None_, Hp.foot] at h; omega))).add ((wd0.ro2 (show ¬ Mut None_ _ 1 from fun h => by simp [Mut, None_, Hp.foot] at h; omega)).less (mut_none rfl))
  clear K1 K0 wd0 wd1 nm0 nm1 t1 b1 hr1 hT
  have HGX := hid (And.intro hg4 hg7)
  clear hg4 hg7
  go_wp2_with fail
  refine (tname_any (Mut None_ _) T _ K2.mutLt (K2.tp_ 2 rfl) (K2.get 2 rfl).2).mono ?_
  rintro e w3 ⟨s, rfl, hs, t2, g2⟩
  have K3 := Hold.callT K2 2 rfl g2 t2
  clear K2 t2 g2
  have HSO0 := hid (schOk_name hs)
  clear hs
  go_wp2_with fail
  refine (schema_any (Mut None_ _) _ K3.mutLt s).mono ?_
  rintro e w4 ⟨A2, n2, c2, rfl, hc1, hc2, r3, b3⟩
  have K4 := (K3.call b3).add r3
  clear K3 b3 r3
  go_wp2_with fail
  have hn2 : (schemaOf s).2.length = n2 := cols_n (K4.ro 0 rfl).now
  have hl2 := HSO0.out.len
  refine (tof_slot (Mut None_ _) T _ K4.mutLt (K4.tp_ 3 rfl) (K4.get 3 rfl).2 _ A2 n2 c2 _ 6 ((K4.ro 0 rfl).less (mut_tp (i := 3) rfl)) hc1 (by omega) HSO0.out ((K4.ro 1 rfl).less (mut_tp (i := 3) rfl)) hT1 (by omega)).mono ?_
  clear hn2 hl2
  rintro e w5 ⟨v, t, rfl, hta, htv, -, -, hrl, t4, g4'⟩
  obtain ⟨x1, rfl, hx1, ho1, rx1⟩ := tb_te hta
  have HO1 := hid ho1
  have HV1 := hid (show tabB x1.nm x1.cs x1.nx (x1.l.map Rw.row) = true by have h := htv.val; rw [← hx1] at h; exact h)
  have HM1 := hid (show TbM x1.tb by rw [hx1]; exact ⟨htv.sch.nm, htv.sch.cs, by omega, fun r hr => by have := htv.len r hr; omega⟩)
  have HP1 := hid (show 1 ≤ x1.n ∧ x1.n ≤ 1000 ∧ x1.m ≤ 1000 ∧ ∀ r ∈ x1.l, r.vs.length = x1.n from by
    have q1 : x1.cs.length = x1.n := cols_n rx1.now.1
    have q2 : x1.l.length = x1.m := rx1.now.2.len
    have q3 : t.cs = x1.cs := by rw [← hx1]; rfl
    have q4 : t.rs = x1.l.map Rw.row := by rw [← hx1]; rfl
    have q5 := htv.sch.len
    have q6 := htv.rows
    rw [q3] at q5
    rw [q4, List.length_map] at q6
    exact ⟨by omega, by omega, by omega, fun r hr => by rw [htv.fit q4.symm r hr, q3, q1]⟩)
  have K5 := ((Hold.callT K4 3 rfl g4' t4).add rx1).alloc_cst #[.string x1.nm, .slice x1.A x1.n x1.c, .int .i64 x1.nx, .slice x1.B x1.m x1.d] 40
  clear K4 t4 g4' hc1 hc2 hta htv hrl hx1 ho1 rx1
  obtain ⟨g10, hg10⟩ : ∃ g, g = w5.heap.size := ⟨_, rfl⟩
  rw [← hg10] at K5
  have FA := K5.facts
  simp only [World.size_alloc, World.size_drew, factsL, cellsF, Nat.reduceAdd, List.toList_toArray, List.set_cons_zero, List.set_cons_succ, List.setIfInBounds_toArray, and_true, true_and] at FA
  unfold Te.val
  go_wp2_with fail
  rw [← hg10]
  have HG10 := hid hg10
  clear hg10 FA
  generalize World.alloc w5 _ = w6 at K5 ⊢
  refine (anyschema_any (Mut None_ _) T _ K5.mutLt (K5.tp_ 5 rfl) (K5.get 5 rfl).2 (K5.ro 4 rfl).now hT2).mono ?_
  rintro e w7 ⟨nm7, A7, n7, c7, l7, rfl, hsb, hnm7, hcs7, hn7, hc71, hc72, r7, t7, g7'⟩
  have K6 := (Hold.callT K5 5 rfl g7' t7).add r7
  have HSY := hid (schemaB_says hsb)
  have HSB := hid (And.intro hsb (And.intro hnm7 hcs7))
  clear K5 t7 g7' r7 hsb hnm7 hcs7
  go_wp2_with fail
  refine (tof_any (Mut None_ _) T _ K6.mutLt (K6.tp_ 6 rfl) (K6.get 6 rfl).2 nm7 A7 n7 c7 l7 4 ((K6.ro 0 rfl).less (mut_tp (i := 6) rfl)) ((K6.ro 4 rfl).less (mut_tp (i := 6) rfl)) hT1 (by omega) hc71 hc72 HSY.out.1 HSB.out.1 HSY.out.2.1 (by omega)).mono ?_
  rintro e w8 ⟨v, nx8, rs8, rfl, hta, htv, hrl, t8, g8'⟩
  obtain ⟨x2, rfl, hx2, ho2, rx2⟩ := tb_te hta
  have HO2 := hid ho2
  have hfit := fun r hr => fitsT_len (okR_fits (tabB_ok htv).2.2.2.2.1 r hr)
  have HV2 := hid (show tabB x2.nm x2.cs x2.nx (x2.l.map Rw.row) = true by injection hx2 with e1 e2 e3 e4; rw [e1, e2, e3, e4]; exact htv)
  have HM2 := hid (show TbM x2.tb by
    have q1 := HSB.out.2.1
    have q2 := HSB.out.2.2
    have q7 := HSY.out.2.2.2
    rw [hx2]
    exact ⟨by show nm7.size ≤ maxLen; unfold maxLen; omega, fun x hx => by have := q2 x hx; unfold maxLen; omega, by show rs8.length ≤ _; omega, fun r hr => by have := hfit r hr; show r.2.length ≤ _; omega⟩)
  have HP2 := hid (show 1 ≤ x2.n ∧ x2.n ≤ 1000 ∧ x2.m ≤ 1000 ∧ ∀ r ∈ x2.l, r.vs.length = x2.n from by
    have q1 : x2.cs.length = x2.n := cols_n rx2.now.1
    have q2 : x2.l.length = x2.m := rx2.now.2.len
    injection hx2 with e1 e2 e3 e4
    have q5 := HSY.out.2.2
    rw [← e2] at q5 hfit
    rw [← e4, List.length_map] at hrl
    refine ⟨by omega, by omega, by omega, fun r hr => ?_⟩
    have q8 := hfit r.row (by rw [← e4]; exact List.mem_map_of_mem hr)
    rw [← q1]
    exact q8)
  have K7 := ((Hold.callT K6 6 rfl g8' t8).add rx2).alloc_cst #[.string x2.nm, .slice x2.A x2.n x2.c, .int .i64 x2.nx, .slice x2.B x2.m x2.d] 40
  clear K6 t8 g8' hta htv hrl hx2 ho2 rx2 hfit hc71 hc72 hn7
  obtain ⟨g11, hg11⟩ : ∃ g, g = w8.heap.size := ⟨_, rfl⟩
  rw [← hg11] at K7
  have FA := K7.facts
  simp only [World.size_alloc, World.size_drew, factsL, cellsF, Nat.reduceAdd, List.toList_toArray, List.set_cons_zero, List.set_cons_succ, List.setIfInBounds_toArray, and_true, true_and] at FA
  unfold Te.val
  go_wp2_with fail
  rw [← hg11]
  have HG11 := hid hg11
  clear hg11 FA
  generalize World.alloc w8 _ = w9 at K7 ⊢
  obtain ⟨KL, hKL, KN⟩ := K7.name
  have HF : Hid (∀ wv, Hold None_ none w wv KL → (wv.cell? ⟨g4, 0, none⟩ = some (.string x0.nm) ∧ wv.cell? ⟨g4, 1, none⟩ = some (.slice x0.A x0.n x0.c) ∧ wv.cell? ⟨g4, 2, none⟩ = some (.int .i64 x0.nx) ∧ wv.cell? ⟨g4, 3, none⟩ = some (.slice x0.B x0.m x0.d) ∧ g4 < wv.heap.size) ∧ (wv.cell? ⟨g10, 0, none⟩ = some (.string x1.nm) ∧ wv.cell? ⟨g10, 1, none⟩ = some (.slice x1.A x1.n x1.c) ∧ wv.cell? ⟨g10, 2, none⟩ = some (.int .i64 x1.nx) ∧ wv.cell? ⟨g10, 3, none⟩ = some (.slice x1.B x1.m x1.d) ∧ g10 < wv.heap.size) ∧ (wv.cell? ⟨g11, 0, none⟩ = some (.string x2.nm) ∧ wv.cell? ⟨g11, 1, none⟩ = some (.slice x2.A x2.n x2.c) ∧ wv.cell? ⟨g11, 2, none⟩ = some (.int .i64 x2.nx) ∧ wv.cell? ⟨g11, 3, none⟩ = some (.slice x2.B x2.m x2.d) ∧ g11 < wv.heap.size)) := hid fun wv HC => by
    rw [hKL] at HC
    have y0 := HC.cst_ 10 rfl
    have y1 := HC.cst_ 3 rfl
    have y2 := HC.cst_ 0 rfl
    exact ⟨⟨cell_of_row _ _ 0 _ _ _ y0, cell_of_row _ _ 1 _ _ _ y0, cell_of_row _ _ 2 _ _ _ y0, cell_of_row _ _ 3 _ _ _ y0, Blk.lt y0⟩, ⟨cell_of_row _ _ 0 _ _ _ y1, cell_of_row _ _ 1 _ _ _ y1, cell_of_row _ _ 2 _ _ _ y1, cell_of_row _ _ 3 _ _ _ y1, Blk.lt y1⟩, ⟨cell_of_row _ _ 0 _ _ _ y2, cell_of_row _ _ 1 _ _ _ y2, cell_of_row _ _ 2 _ _ _ y2, cell_of_row _ _ 3 _ _ _ y2, Blk.lt y2⟩⟩
  have HX : Hid (∀ wv, Hold None_ none w wv KL → Ro wv (Mut None_ KL) (TeIn x1) ∧ Ro wv (Mut None_ KL) (TeIn x2) ∧ Tp wv T ∧ (∀ b, (Mut None_ KL) b → T ≤ b) ∧ Ro wv (Mut None_ KL) Wds) := hid fun wv HC => by
    rw [hKL] at HC ⊢
    exact ⟨HC.ro 4 rfl, HC.ro 1 rfl, HC.tp_ 8 rfl, (HC.get 8 rfl).2, HC.ro 6 rfl⟩
  have HX0 : Hid (∀ wv, Hold None_ none w wv KL → Ro wv (Mut None_ KL) (TeIn x0) ∧ True) := hid fun wv HC => by
    rw [hKL] at HC ⊢
    exact ⟨HC.ro 11 rfl, trivial⟩
  have HKL := hid hKL
  clear hKL K7
  refine wp_region_any (by kernel_rfl) ?_
  refine wpAny_hold 12 70 (KL) (spL [(35, SomeTe (Mut None_ KL)), (38, SomeTe (Mut None_ KL)), (39, Tel5 (Mut None_ KL) x0 x1 x2)]) (by kernel_rfl) (by kernel_rfl) (by kernel_rfl) rfl ?_ (KN.drew) ?_
  · exact stays_cons someTe_mono (stays_cons someTe_mono (stays_cons tel5_mono (stays_nil _)))
  simp only [List.take_succ_cons, List.take_zero, List.drop_succ_cons, List.drop_zero, Act.put, List.getElem_toArray, List.getElem_cons_zero, List.getElem_cons_succ, List.setIfInBounds_toArray, List.set_cons_succ, List.set_cons_zero]
  refine dw_val rfl rfl rfl ?_; apply Exists.intro; refine ⟨fun wv HC => ?_, ?_⟩
  · obtain ⟨⟨f0, f1, f2, f3, f4⟩, ⟨f5, f6, f7, f8, f9⟩, ⟨f10, f11, f12, f13, f14⟩⟩ := HF.out _ HC; go_simp <;> rfl
  simp only [Act.put, List.setIfInBounds_toArray, List.set_cons_succ, List.set_cons_zero]
  refine dw_val rfl rfl rfl ?_; apply Exists.intro; refine ⟨fun wv HC => ?_, ?_⟩
  · obtain ⟨⟨f0, f1, f2, f3, f4⟩, ⟨f5, f6, f7, f8, f9⟩, ⟨f10, f11, f12, f13, f14⟩⟩ := HF.out _ HC; go_simp <;> rfl
  simp only [Act.put, List.setIfInBounds_toArray, List.set_cons_succ, List.set_cons_zero]
  refine dw_val rfl rfl rfl ?_; apply Exists.intro; refine ⟨fun wv HC => ?_, ?_⟩
  · obtain ⟨⟨f0, f1, f2, f3, f4⟩, ⟨f5, f6, f7, f8, f9⟩, ⟨f10, f11, f12, f13, f14⟩⟩ := HF.out _ HC; go_simp <;> rfl
  simp only [Act.put, List.setIfInBounds_toArray, List.set_cons_succ, List.set_cons_zero]
  refine dw_val rfl rfl rfl ?_; apply Exists.intro; refine ⟨fun wv HC => ?_, ?_⟩
  ·  go_simp <;> rfl
  simp only [Act.put, List.setIfInBounds_toArray, List.set_cons_succ, List.set_cons_zero]
  refine dw_val rfl rfl rfl ?_; apply Exists.intro; refine ⟨fun wv HC => ?_, ?_⟩
  · obtain ⟨⟨f0, f1, f2, f3, f4⟩, ⟨f5, f6, f7, f8, f9⟩, ⟨f10, f11, f12, f13, f14⟩⟩ := HF.out _ HC; go_simp <;> rfl
  simp only [Act.put, List.setIfInBounds_toArray, List.set_cons_succ, List.set_cons_zero]
  refine dw_callR 35 (SomeTe (Mut None_ KL)) (f := 31) (args := #[.pointer (some ⟨T, 0, none⟩), .agg #[.string x1.nm, .slice x1.A x1.n x1.c, .int .i64 x1.nx, .slice x1.B x1.m x1.d]]) rfl rfl rfl rfl (fun wv => ?_) (fun wv HC hrm hD => ?_) ?_
  · go_simp <;> rfl
  · obtain ⟨X0, X1, X2, X3, X4⟩ := HX.out _ HC
    refine (tspoil_any (Mut None_ KL) T wv HC.mutLt X2 X3 x1.nm x1.A x1.n x1.c x1.cs x1.nx x1.B x1.m x1.d x1.l (X0.less (mut_tp (i := 8) (by rw [HKL.out]; rfl)) |>.imp fun w h => h.1) (X0.less (mut_tp (i := 8) (by rw [HKL.out]; rfl)) |>.imp fun w h => h.2) (X4.less (mut_tp (i := 8) (by rw [HKL.out]; rfl))) hT1 HP1.out.1 HP1.out.2.1 HO1.out.nc HO1.out.c HP1.out.2.2.1 HP1.out.2.2.2 HO1.out.l HM1.out.nm HM1.out.cs).mono ?_
    rintro e w5 ⟨v5, t5', rfl, hc5, hb5, t5, g5'⟩
    obtain ⟨x, rfl, hxt, hxo, hxr⟩ := tb_te hc5
    exact ⟨_, rfl, ⟨x, rfl, hxo, by rw [hxt]; exact ⟨hb5.1, hb5.2.1, by omega, fun r hr => by have := hb5.2.2.2.2 r hr; omega⟩, hxr⟩, Hold.callT HC 8 (by rw [HKL.out]; rfl) g5' t5, RM.grown g5' (.inr ⟨_, List.mem_of_getElem? (i := 8) (by rw [HKL.out]; rfl), rfl⟩)⟩
  rintro u_ wx HCx ⟨z35, rfl, -, -, -⟩
  clear HCx
  simp only [Act.put, List.setIfInBounds_toArray, List.set_cons_succ, List.set_cons_zero]
  refine dw_val rfl rfl rfl ?_; apply Exists.intro; refine ⟨fun wv HC => ?_, ?_⟩
  ·  go_simp <;> rfl
  simp only [Act.put, List.setIfInBounds_toArray, List.set_cons_succ, List.set_cons_zero]
  refine dw_val rfl rfl rfl ?_; apply Exists.intro; refine ⟨fun wv HC => ?_, ?_⟩
  · obtain ⟨⟨f0, f1, f2, f3, f4⟩, ⟨f5, f6, f7, f8, f9⟩, ⟨f10, f11, f12, f13, f14⟩⟩ := HF.out _ HC; go_simp <;> rfl
  simp only [Act.put, List.setIfInBounds_toArray, List.set_cons_succ, List.set_cons_zero]
  refine dw_callR 38 (SomeTe (Mut None_ KL)) (f := 31) (args := #[.pointer (some ⟨T, 0, none⟩), .agg #[.string x2.nm, .slice x2.A x2.n x2.c, .int .i64 x2.nx, .slice x2.B x2.m x2.d]]) rfl rfl rfl rfl (fun wv => ?_) (fun wv HC hrm hD => ?_) ?_
  · go_simp <;> rfl
  · obtain ⟨X0, X1, X2, X3, X4⟩ := HX.out _ HC
    refine (tspoil_any (Mut None_ KL) T wv HC.mutLt X2 X3 x2.nm x2.A x2.n x2.c x2.cs x2.nx x2.B x2.m x2.d x2.l (X1.less (mut_tp (i := 8) (by rw [HKL.out]; rfl)) |>.imp fun w h => h.1) (X1.less (mut_tp (i := 8) (by rw [HKL.out]; rfl)) |>.imp fun w h => h.2) (X4.less (mut_tp (i := 8) (by rw [HKL.out]; rfl))) hT1 HP2.out.1 HP2.out.2.1 HO2.out.nc HO2.out.c HP2.out.2.2.1 HP2.out.2.2.2 HO2.out.l HM2.out.nm HM2.out.cs).mono ?_
    rintro e w5 ⟨v5, t5', rfl, hc5, hb5, t5, g5'⟩
    obtain ⟨x, rfl, hxt, hxo, hxr⟩ := tb_te hc5
    exact ⟨_, rfl, ⟨x, rfl, hxo, by rw [hxt]; exact ⟨hb5.1, hb5.2.1, by omega, fun r hr => by have := hb5.2.2.2.2 r hr; omega⟩, hxr⟩, Hold.callT HC 8 (by rw [HKL.out]; rfl) g5' t5, RM.grown g5' (.inr ⟨_, List.mem_of_getElem? (i := 8) (by rw [HKL.out]; rfl), rfl⟩)⟩
  rintro u_ wx HCx ⟨z38, rfl, -, -, -⟩
  clear HCx
  simp only [Act.put, List.setIfInBounds_toArray, List.set_cons_succ, List.set_cons_zero]
  refine dw_new #[.string x0.nm, .slice x0.A x0.n x0.c, .int .i64 x0.nx, .slice x0.B x0.m x0.d, .string x1.nm, .slice x1.A x1.n x1.c, .int .i64 x1.nx, .slice x1.B x1.m x1.d, .string x2.nm, .slice x2.A x2.n x2.c, .int .i64 x2.nx, .slice x2.B x2.m x2.d, .string z35.nm, .slice z35.A z35.n z35.c, .int .i64 z35.nx, .slice z35.B z35.m z35.d, .string z38.nm, .slice z38.A z38.n z38.c, .int .i64 z38.nx, .slice z38.B z38.m z38.d] 40 39 (Tel5 (Mut None_ KL) x0 x1 x2) (fun g => .slice (some ⟨g, 0, none⟩) 5 5) rfl rfl rfl rfl (fun wv => ?_) (fun wv HC hrm hD hro => ?_) ?_
  · unfold Te.val
    go_simp <;> rfl
  · have q1 : SomeTe (Mut None_ KL) z35.val wv := deps_at hD 5 rfl (by kernel_rfl) rfl rfl
    have q2 : SomeTe (Mut None_ KL) z38.val wv := deps_at hD 8 rfl (by kernel_rfl) rfl rfl
    obtain ⟨y3, e3, o3, m3, r3⟩ := q1
    obtain ⟨y4, e4, o4, m4, r4⟩ := q2
    obtain ⟨X0, X1, -, -, -⟩ := HX.out _ HC
    obtain ⟨Z0, -⟩ := HX0.out _ HC
    refine ⟨wv.heap.size, y3, y4, rfl, o3, o4, m3, m4, tes_block (cs := #[.string x0.nm, .slice x0.A x0.n x0.c, .int .i64 x0.nx, .slice x0.B x0.m x0.d, .string x1.nm, .slice x1.A x1.n x1.c, .int .i64 x1.nx, .slice x1.B x1.m x1.d, .string x2.nm, .slice x2.A x2.n x2.c, .int .i64 x2.nx, .slice x2.B x2.m x2.d, .string z35.nm, .slice z35.A z35.n z35.c, .int .i64 z35.nx, .slice z35.B z35.m z35.d, .string z38.nm, .slice z38.A z38.n z38.c, .int .i64 z38.nx, .slice z38.B z38.m z38.d]) (l := [x0, x1, x2, y3, y4]) (hro _ HC.mutLt) (by rw [te_cells2 e3 e4]; rfl) fun x hx => ?_⟩
    simp only [List.mem_cons, List.not_mem_nil, or_false] at hx
    rcases hx with rfl | rfl | rfl | rfl | rfl
    · exact RM.ro (RM.alloc _ _ _) Z0
    · exact RM.ro (RM.alloc _ _ _) X0
    · exact RM.ro (RM.alloc _ _ _) X1
    · exact RM.ro (RM.alloc _ _ _) r3
    · exact RM.ro (RM.alloc _ _ _) r4
  rintro gs wx HCx hsl
  clear HCx hsl
  simp only [Act.put, List.setIfInBounds_toArray, List.set_cons_succ, List.set_cons_zero]
  refine dw_val rfl rfl rfl ?_; apply Exists.intro; refine ⟨fun wv HC => ?_, ?_⟩
  ·  go_simp <;> rfl
  simp only [Act.put, List.setIfInBounds_toArray, List.set_cons_succ, List.set_cons_zero]
  refine dw_val rfl rfl rfl ?_; apply Exists.intro; refine ⟨fun wv HC => ?_, ?_⟩
  ·  go_simp <;> rfl
  simp only [Act.put, List.setIfInBounds_toArray, List.set_cons_succ, List.set_cons_zero]
  refine rel_nil ?_
  rintro wxb HY
  rintro _hrm HGW
  have hts : Tel5 (Mut None_ KL) x0 x1 x2 (.slice (some ⟨gs, 0, none⟩) 5 5) wxb := (GW_on (d := 39) rfl).1 (HGW 9 _ rfl (by omega))
  obtain ⟨gs', y3, y4, hgs, o3, o4, m3, m4, rts⟩ := hts
  obtain rfl : gs = gs' := by injection hgs with hgs; injection hgs with hgs; injection hgs
  clear hgs HGW
  have K8 := HY.add rts
  have HEL := hid (show ∀ x ∈ [x0, x1, x2, y3, y4], x.ok ∧ TbM x.tb from fun x hx => by
    simp only [List.mem_cons, List.not_mem_nil, or_false] at hx
    rcases hx with rfl | rfl | rfl | rfl | rfl
    · exact ⟨HO0.out, HM0.out⟩
    · exact ⟨HO1.out, HM1.out⟩
    · exact ⟨HO2.out, HM2.out⟩
    · exact ⟨o3, m3⟩
    · exact ⟨o4, m4⟩)
  clear rts o3 o4 m3 m4 HY _hrm KN HF HX HX0
  rw [HKL.out] at K8
  clear HKL
  obtain ⟨L5, hL5⟩ : ∃ L5 : List Te, L5 = [x0, x1, x2, y3, y4] := ⟨_, rfl⟩
  rw [← hL5] at K8 HEL
  have HL5 := hid (show L5.length = 5 by rw [hL5]; rfl)
  clear hL5
  obtain ⟨KL, hKL, KN⟩ := K8.name
  have HKL := hid hKL
  clear hKL K8
  go_wp2_with fail
  go_loopw [41] (fun iv wr => ∃ (k : Nat), k ≤ 5 ∧ iv = .int .i64 k ∧ Hold None_ none w wr KL) (fun iv _ => 5 - (intOf iv).toNat)
  case atStart => exact ⟨0, by omega, rfl, KN⟩
  case round =>
    clear KN
    obtain ⟨k, hk, rfl, H⟩ := hrel
    rw [HKL.out] at H
    by_cases hlt : k < 5
    · have hd3 : decide ((k : Int) < 5) = true := by simp; omega
      have i0 : (0 : Int) ≤ (k : Int) := by omega
      have i3 : (k : Int) < 5 := by omega
      obtain ⟨x, hx⟩ := get_of HL5.out hlt
      obtain ⟨gb, ob, hgb, hgl, c0, c1, c2, c3, -⟩ := (H.ro 0 rfl).now.at_ hx
      obtain ⟨rfl, rfl⟩ : gs = gb ∧ 0 = ob := by injection hgb with hgb; injection hgb with a1 a2; exact ⟨a1, a2⟩
      simp only [Nat.zero_add] at c0 c1 c2 c3
      have HXM_ := hid (List.mem_of_getElem? hx)
      have HXO := hid (HEL.out x HXM_.out).1
      have HXM := hid (HEL.out x HXM_.out).2
      have hxr : Ro wr _ (TeIn x) := (H.ro 0 rfl).imp fun w2 h2 => h2.2 x HXM_.out
      have K2 := (H.add hxr).alloc_cst #[.string x.nm, .slice x.A x.n x.c, .int .i64 x.nx, .slice x.B x.m x.d] 40
      clear H hxr hx hgb
      have FA := K2.facts
      simp only [World.size_alloc, World.size_drew, factsL, cellsF, Nat.reduceAdd, List.toList_toArray, List.set_cons_zero, List.set_cons_succ, List.setIfInBounds_toArray, and_true, true_and] at FA
      go_wp2_with fail
      obtain ⟨gx, hgx⟩ : ∃ gx, gx = wr.heap.size := ⟨_, rfl⟩
      rw [← hgx] at K2 FA ⊢
      have HGXX := hid hgx
      clear hgx c0 c1 c2 c3 hgl FA
      generalize World.alloc wr _ = wz at K2 ⊢
      obtain ⟨KX, hKX, KN⟩ := K2.name
      have HG : Hid (∀ wv, Hold None_ none w wv KX → (wv.cell? ⟨gx, 0, none⟩ = some (.string x.nm) ∧ wv.cell? ⟨gx, 1, none⟩ = some (.slice x.A x.n x.c) ∧ wv.cell? ⟨gx, 2, none⟩ = some (.int .i64 x.nx) ∧ wv.cell? ⟨gx, 3, none⟩ = some (.slice x.B x.m x.d) ∧ gx < wv.heap.size) ∧ (wv.cell? ⟨g7, 0, none⟩ = some (.int .i64 key.k) ∧ wv.cell? ⟨g7, 1, none⟩ = some (.int .i64 key.i) ∧ wv.cell? ⟨g7, 2, none⟩ = some (.string key.s) ∧ g7 < wv.heap.size)) := hid fun wv HC => by
        rw [hKX] at HC
        have y0 := HC.cst_ 0 rfl
        have y1 := HC.cst_ 12 rfl
        exact ⟨⟨cell_of_row _ _ 0 _ _ _ y0, cell_of_row _ _ 1 _ _ _ y0, cell_of_row _ _ 2 _ _ _ y0, cell_of_row _ _ 3 _ _ _ y0, Blk.lt y0⟩, ⟨cell_of_row _ _ 0 _ _ _ y1, cell_of_row _ _ 1 _ _ _ y1, cell_of_row _ _ 2 _ _ _ y1, Blk.lt y1⟩⟩
      have HY9 : Hid (∀ wv, Hold None_ none w wv KX → Ro wv (Mut None_ KX) (TeIn x) ∧ Tp wv T ∧ (∀ b, (Mut None_ KX) b → T ≤ b)) := hid fun wv HC => by
        rw [hKX] at HC ⊢
        exact ⟨HC.ro 1 rfl, HC.tp_ 11 rfl, (HC.get 11 rfl).2⟩
      have HKX := hid hKX
      clear hKX K2
      refine wp_region_any (by kernel_rfl) ?_
      refine wpAny_hold 15 70 (KX) (spL [(48, IsV (.bool true)), (53, IntSl), (55, IntSl), (56, NumSl), (57, IsV (.bool true))]) (by kernel_rfl) (by kernel_rfl) (by kernel_rfl) rfl ?_ (KN.drew) ?_
      · exact stays_cons isV_mono (stays_cons intSl_mono (stays_cons intSl_mono (stays_cons numSl_mono (stays_cons isV_mono (stays_nil _)))))
      simp only [List.take_succ_cons, List.take_zero, List.drop_succ_cons, List.drop_zero, Act.put, List.getElem_toArray, List.getElem_cons_zero, List.getElem_cons_succ, List.setIfInBounds_toArray, List.set_cons_succ, List.set_cons_zero]
      refine dw_val rfl rfl rfl ?_; apply Exists.intro; refine ⟨fun wv HC => ?_, ?_⟩
      · obtain ⟨⟨f0, f1, f2, f3, f4⟩, ⟨f5, f6, f7, f8⟩⟩ := HG.out _ HC; go_simp <;> rfl
      simp only [Act.put, List.setIfInBounds_toArray, List.set_cons_succ, List.set_cons_zero]
      refine dw_val rfl rfl rfl ?_; apply Exists.intro; refine ⟨fun wv HC => ?_, ?_⟩
      ·  go_simp <;> rfl
      simp only [Act.put, List.setIfInBounds_toArray, List.set_cons_succ, List.set_cons_zero]
      refine dw_val rfl rfl rfl ?_; apply Exists.intro; refine ⟨fun wv HC => ?_, ?_⟩
      · obtain ⟨⟨f0, f1, f2, f3, f4⟩, ⟨f5, f6, f7, f8⟩⟩ := HG.out _ HC; go_simp <;> rfl
      simp only [Act.put, List.setIfInBounds_toArray, List.set_cons_succ, List.set_cons_zero]
      refine dw_callR 48 (IsV (.bool true)) (f := 38) (args := #[.agg #[.string x.nm, .slice x.A x.n x.c, .int .i64 x.nx, .slice x.B x.m x.d], .int .i64 id, .agg #[.int .i64 key.k, .int .i64 key.i, .string key.s]]) rfl rfl rfl rfl (fun wv => ?_) (fun wv HC hrm hD => ?_) ?_
      · go_simp <;> rfl
      · obtain ⟨Y0, -, -⟩ := HY9.out _ HC
        refine (alike6_any _ wv HC.mutLt x.val x.tb id key (te_tb HXO.out Y0) HXM.out.nm HXM.out.cs HXM.out.row HXM.out.rs).mono ?_
        rintro e w5 ⟨rfl, b5⟩
        exact ⟨_, rfl, rfl, HC.call b5, RM.below b5⟩
      rintro u_ wx HCx rfl
      clear HCx
      simp only [Act.put, List.setIfInBounds_toArray, List.set_cons_succ, List.set_cons_zero]
      refine dw_val rfl rfl rfl ?_; apply Exists.intro; refine ⟨fun wv HC => ?_, ?_⟩
      ·  go_simp <;> rfl
      simp only [Act.put, List.setIfInBounds_toArray, List.set_cons_succ, List.set_cons_zero]
      refine dw_val rfl rfl rfl ?_; apply Exists.intro; refine ⟨fun wv HC => ?_, ?_⟩
      ·  go_simp <;> rfl
      simp only [Act.put, List.setIfInBounds_toArray, List.set_cons_succ, List.set_cons_zero]
      refine dw_val rfl rfl rfl ?_; apply Exists.intro; refine ⟨fun wv HC => ?_, ?_⟩
      · obtain ⟨⟨f0, f1, f2, f3, f4⟩, ⟨f5, f6, f7, f8⟩⟩ := HG.out _ HC; go_simp <;> rfl
      simp only [Act.put, List.setIfInBounds_toArray, List.set_cons_succ, List.set_cons_zero]
      refine dw_val rfl rfl rfl ?_; apply Exists.intro; refine ⟨fun wv HC => ?_, ?_⟩
      ·  go_simp <;> rfl
      simp only [Act.put, List.setIfInBounds_toArray, List.set_cons_succ, List.set_cons_zero]
      refine dw_callR 53 (IntSl) (f := 10) (args := #[.pointer (some ⟨T, 0, none⟩), .int .i64 8]) rfl rfl rfl rfl (fun wv => ?_) (fun wv HC hrm hD => ?_) ?_
      · go_simp <;> rfl
      · obtain ⟨-, Y1, Y2⟩ := HY9.out _ HC
        refine (next_any T 8 wv Y1 (by omega) (by omega)).mono ?_
        rintro e w5 ⟨r, rfl, r0, r1, t5, g5'⟩
        exact ⟨_, rfl, ⟨r, rfl⟩, Hold.callT HC 11 (by rw [HKX.out]; rfl) g5' t5, RM.grown g5' (.inr ⟨_, List.mem_of_getElem? (i := 11) (by rw [HKX.out]; rfl), rfl⟩)⟩
      rintro u_ wx HCx ⟨r53, rfl⟩
      clear HCx
      simp only [Act.put, List.setIfInBounds_toArray, List.set_cons_succ, List.set_cons_zero]
      refine dw_val rfl rfl rfl ?_; apply Exists.intro; refine ⟨fun wv HC => ?_, ?_⟩
      ·  go_simp <;> rfl
      simp only [Act.put, List.setIfInBounds_toArray, List.set_cons_succ, List.set_cons_zero]
      refine dw_callR 55 (IntSl) (f := 40) (args := #[.pointer (some ⟨T, 0, none⟩)]) rfl rfl rfl rfl (fun wv => ?_) (fun wv HC hrm hD => ?_) ?_
      · go_simp <;> rfl
      · obtain ⟨-, Y1, Y2⟩ := HY9.out _ HC
        refine (small_any T wv Y1).mono ?_
        rintro e w5 ⟨r, rfl, r0, r1, t5, g5'⟩
        exact ⟨_, rfl, ⟨r, rfl⟩, Hold.callT HC 11 (by rw [HKX.out]; rfl) g5' t5, RM.grown g5' (.inr ⟨_, List.mem_of_getElem? (i := 11) (by rw [HKX.out]; rfl), rfl⟩)⟩
      rintro u_ wx HCx ⟨r55, rfl⟩
      clear HCx
      simp only [Act.put, List.setIfInBounds_toArray, List.set_cons_succ, List.set_cons_zero]
      refine dw_callR 56 (NumSl) (f := 39) (args := #[.int .i64 r55]) rfl rfl rfl rfl (fun wv => ?_) (fun wv HC hrm hD => ?_) ?_
      · go_simp <;> rfl
      · refine (num_any r55 wv).mono ?_
        rintro e w5 ⟨rfl, b5⟩
        exact ⟨_, rfl, ⟨r55, rfl⟩, HC.call b5, RM.below b5⟩
      rintro u_ wx HCx ⟨r56, rfl⟩
      clear HCx
      simp only [Act.put, List.setIfInBounds_toArray, List.set_cons_succ, List.set_cons_zero]
      refine dw_callR 57 (IsV (.bool true)) (f := 38) (args := #[.agg #[.string x.nm, .slice x.A x.n x.c, .int .i64 x.nx, .slice x.B x.m x.d], .int .i64 r53, .agg #[.int .i64 1, .int .i64 r56, .string ⟨#[]⟩]]) rfl rfl rfl rfl (fun wv => ?_) (fun wv HC hrm hD => ?_) ?_
      · go_simp <;> rfl
      · obtain ⟨Y0, -, -⟩ := HY9.out _ HC
        refine (alike6_any _ wv HC.mutLt x.val x.tb r53 (vNum r56) (te_tb HXO.out Y0) HXM.out.nm HXM.out.cs HXM.out.row HXM.out.rs).mono ?_
        rintro e w5 ⟨rfl, b5⟩
        exact ⟨_, rfl, rfl, HC.call b5, RM.below b5⟩
      rintro u_ wx HCx rfl
      clear HCx
      simp only [Act.put, List.setIfInBounds_toArray, List.set_cons_succ, List.set_cons_zero]
      refine dw_val rfl rfl rfl ?_; apply Exists.intro; refine ⟨fun wv HC => ?_, ?_⟩
      ·  go_simp <;> rfl
      simp only [Act.put, List.setIfInBounds_toArray, List.set_cons_succ, List.set_cons_zero]
      refine dw_val rfl rfl rfl ?_; apply Exists.intro; refine ⟨fun wv HC => ?_, ?_⟩
      ·  go_simp <;> rfl
      simp only [Act.put, List.setIfInBounds_toArray, List.set_cons_succ, List.set_cons_zero]
      refine rel_nil ?_
      rintro wx9 HZ9
      rintro _hrm _HG
      clear _hrm _HG KN
      rw [HKX.out] at HZ9
      have KE := HZ9.drop (List.Sublist.cons _ (List.sublist_cons_self _ _))
      clear HZ9
      go_wp2_with fail
      go_roundw
      case rel => exact ⟨k + 1, by omega, by go_num, by rw [HKL.out]; exact KE⟩
      case measure => simp [intOf]; omega
    · obtain rfl : k = 5 := by omega
      have hd3 : decide (((5 : Nat) : Int) < 5) = false := by decide
      have FA := H.facts
      simp only [World.size_alloc, World.size_drew, factsL, cellsF, Nat.reduceAdd, List.toList_toArray, List.set_cons_zero, List.set_cons_succ, List.setIfInBounds_toArray, and_true, true_and] at FA
      have hk := tvalid_any _ _ H.mutLt x1.nm x1.A x1.n x1.c x1.cs x1.nx x1.B x1.m x1.d x1.l ((H.ro 5 rfl).imp fun w h => h.1) ((H.ro 5 rfl).imp fun w h => h.2) (by have := HP1.out; omega) (by have := HP1.out; omega) HO1.out.l HM1.out.nm HM1.out.cs
      rw [HV1.out] at hk
      have HK := hid hk
      clear hk
      go_wp2_with fail
      refine HK.out.mono ?_
      rintro e wa ⟨rfl, ba⟩
      have K9 := H.call ba
      clear H HK ba FA
      have FA := K9.facts
      simp only [World.size_alloc, World.size_drew, factsL, cellsF, Nat.reduceAdd, List.toList_toArray, List.set_cons_zero, List.set_cons_succ, List.setIfInBounds_toArray, and_true, true_and] at FA
      have hk := tvalid_any _ _ K9.mutLt x2.nm x2.A x2.n x2.c x2.cs x2.nx x2.B x2.m x2.d x2.l ((K9.ro 2 rfl).imp fun w h => h.1) ((K9.ro 2 rfl).imp fun w h => h.2) (by have := HP2.out; omega) (by have := HP2.out; omega) HO2.out.l HM2.out.nm HM2.out.cs
      rw [HV2.out] at hk
      have HK := hid hk
      clear hk
      go_wp2_with fail
      refine HK.out.mono ?_
      rintro e wb ⟨rfl, bb⟩
      have KB := K9.call bb
      clear K9 HK bb FA
      go_wp2_with fail
      refine (known6 _).mono ?_
      rintro e w5 ⟨rfl, b5⟩
      have KZ := KB.call b5
      go_wp2_with fail
      go_ret
      exact ⟨by first | rfl | simp, KZ.below⟩
end Go.Proofs.YtljmclbedpceoaaDoor

namespace Go.Proofs.YtljmclbedpceoaaDoor
open Go.ChangeShapes Go.WideShapes Go.ChangeAt Go.RowKit
set_option linter.unusedVariables false
set_option linter.unusedSimpArgs false

namespace LawTableForms
set_option maxRecDepth 100000 in
theorem contract (H : Type) (enc : TypeId × Value → H) (W : World) (base : Nat) (args : Array Value) (ds gs : List (DataW H)) (before : List MemPlace)
    (hval0 : ∀ (j : Nat) t v, Tryd.f7.params[j]? = some t → args[j]? = some v → Value.okWide Tryd.prog W .any base t v)
    (hsz0 : (DataW.weightsEach Tryd.prog (Tryd.f7.params.toList ++ Rows.tableFormsSpec.plain.varTypes Tryd.prog) (ds ++ gs)).all (· ≤ reachBytes) = true)
    (hW : DataW.Whole enc Tryd.prog Tryd.f7.params.toList Rows.tableFormsSpec.vars false W args.toList ds gs before) (hL : laidMetH Tryd.prog Rows.tableFormsRow.laid W) (hsh : W.ShapedOpen Tryd.prog) :
    Calls Tryd.prog 7 args W fun e W' => ∃ v, e = .returned v ∧ Rows.tableFormsSpec.post enc Tryd.prog Tryd.f7 false true false false W args v W' := by
  have hsz : (DataW.weightsEach Tryd.prog (Tryd.f7.params.toList ++ Rows.tableFormsSpec.plain.varTypes Tryd.prog) (ds ++ gs)).all (· ≤ reachBytes) = true := hsz0
  have hval : ∀ (j : Nat) t v, Tryd.f7.params[j]? = some t → args[j]? = some v → Value.okWide Tryd.prog W .any base t v := hval0
  have hW' := hW
  obtain ⟨p, q, hA0, hV, rfl, hfz, hnd⟩ := hW
  have hA : DataW.TrodAll enc Tryd.prog W 0 (fun _ => true) true Tryd.f7.params.toList args.toList ds p := hA0
  rw [Tryd.params7] at hA hval hsz
  obtain ⟨v0, vs0, d0, ds0, p0, q0, hargs, rfl, rfl, h0, r0⟩ := trodAll_cons hA
  obtain ⟨v1, vs1, d1, ds1, p1, q1, rfl, rfl, rfl, h1, r1⟩ := trodAll_cons r0
  obtain ⟨v2, vs2, d2, ds2, p2, q2, rfl, rfl, rfl, h2, r2⟩ := trodAll_cons r1
  obtain ⟨v3, vs3, d3, ds3, p3, q3, rfl, rfl, rfl, h3, r3⟩ := trodAll_cons r2
  obtain ⟨rfl, rfl, rfl⟩ := trodAll_nil r3
  obtain rfl : args = #[v0, v1, v2, v3] := by cases args; simp_all
  obtain ⟨rfl, rfl⟩ := trodVars_none hV
  obtain ⟨tb0, ok0, rfl⟩ := opens_tb.agg Tryd.underlying40 (hval 0 40 v0 rfl rfl) h0 (sz_arg hsz (j := 0) rfl rfl)
  obtain ⟨A1, n1, c1, zs1, rfl, k1, z1, l1, m1, e1⟩ := open_i64s Tryd.underlying22 Tryd.underlying3 (by kernel_rfl) (hval 1 22 v1 rfl rfl) h1
  obtain ⟨a2, rfl, rfl, rfl, w2⟩ := open_int Tryd.underlying3 (hval 2 3 v2 rfl rfl) h2
  obtain ⟨ka3, ia3, sa3, rfl, wk3, wi3, ws3⟩ := open_vl Tryd.underlying66 (by kernel_rfl) (by kernel_rfl) Tryd.underlying3 Tryd.underlying2 Tryd.underlying9 (hval 3 66 v3 rfl rfl) h3
  refine (tforms_walk _ _ A1 n1 c1 zs1 a2 ⟨ka3, ia3, sa3⟩ W (tbAt_arg ok0 fun _ _ h => h) (tbM_arg ok0) k1 z1 l1 (by unfold maxLen at m1; omega) (both_of_laid hL).1 (both_of_laid hL).2).mono fun e W' ⟨he, hb⟩ => ?_
  exact ⟨_, he, law_post rfl laidOut (by kernel_rfl) (by kernel_rfl) Tryd.underlying4 rfl hW' hb⟩

theorem laid_met (os : Os) : laidMet Tryd.prog Rows.tableFormsRow.laid ((bothWorld os).forCall (fun _ _ => 0) ⟨#[], #[.agg #[.string ⟨#[]⟩, .slice none 0 0, .int .i64 0, .slice none 0 0], .slice none 0 0, .int .i64 0, .agg #[.int .i64 0, .int .i64 0, .string ⟨#[]⟩]], []⟩).memory :=
  laidMet_of_run' 16 (by kernel_rfl) (by kernel_rfl)
theorem reads (os : Os) {H : Type} (enc : TypeId × Value → H) : ∃ places, DataW.whole enc Tryd.prog ((bothWorld os).forCall (fun _ _ => 0) ⟨#[], #[.agg #[.string ⟨#[]⟩, .slice none 0 0, .int .i64 0, .slice none 0 0], .slice none 0 0, .int .i64 0, .agg #[.int .i64 0, .int .i64 0, .string ⟨#[]⟩]], []⟩).memory Tryd.f7.params.toList Rows.tableFormsSpec.vars false #[.agg #[.string ⟨#[]⟩, .slice none 0 0, .int .i64 0, .slice none 0 0], .slice none 0 0, .int .i64 0, .agg #[.int .i64 0, .int .i64 0, .string ⟨#[]⟩]].toList 8 = some ([.agg [.agg [.lit (.string []), .nil], .lit (.int .i64 0), .nil], .nil, .lit (.int .i64 0), .agg [.lit (.int .i64 0), .lit (.int .i64 0), .lit (.string [])]], [], places) :=
  ⟨[], by kernel_rfl⟩

set_option maxRecDepth 100000 in
theorem lifted (os : Os) (started : os.Started) (H : Type) (enc : TypeId × Value → H) (F : Stop.Interp) :
    ReturnsInHanded {} Tryd.checked os 7 .any ((OpenSpec.ofChange Rows.tableFormsSpec).preRow enc Tryd.prog Tryd.f7 Rows.tableFormsRow.domain false Rows.tableFormsRow.laid) (((OpenSpec.ofChange Rows.tableFormsSpec).at F).post enc Tryd.prog Tryd.f7 false true false false) := by
  obtain ⟨places, hx⟩ := reads os enc
  refine returnsInHanded_of_row (C := Tryd.checked) (s := OpenSpec.ofChange Rows.tableFormsSpec) own started (by kernel_rfl) Tryd.func7
    (witness_row_at (enc := enc) (C := Tryd.checked) false (bothWorld os) #[.agg #[.string ⟨#[]⟩, .slice none 0 0, .int .i64 0, .slice none 0 0], .slice none 0 0, .int .i64 0, .agg #[.int .i64 0, .int .i64 0, .string ⟨#[]⟩]] rfl (by kernel_rfl) (by kernel_rfl) (by kernel_rfl)
      (OpenSpec.preRow_of_cond 8 hx (by kernel_rfl) (fun k hk => by cases hk) (by kernel_rfl) (laid_met os))) ?_
  intro W base args ds gs before hval hW _ _ hsz0 hL hsh _
  exact contract H enc W base args ds gs before hval hsz0 hW hL hsh

theorem said : Rows.TableFormsSaid :=
  OpenClaim.holds_of_cond 7 Tryd.f7 rfl rfl rfl rfl rfl rfl rfl ⟨rfl, rfl, rfl, rfl, rfl⟩ rfl rfl rfl rfl rfl (by kernel_rfl) Tryd.func7 (by kernel_rfl)
    (of_decide_eq_true (by kernel_rfl)) (by unfold Func.isWrapper; first | (rw [if_pos (by decide +kernel)]; kernel_rfl) | (rw [if_neg (by decide +kernel)]; exact ⟨rfl, rfl⟩))
    (fun os started H enc _ F => by rw [OpenClaim.pre_eq_preRow]; exact lifted os started H enc F)

theorem plain (f : FuncId) (fn : Func) (hf : Tryd.pinned.checked.prog.funcNamed "triggerstore/triggerstorelaw6.TableForms" = some f) (hfn : Tryd.pinned.checked.prog.funcs[f]? = some fn) :
    false = Tryd.pinned.checked.prog.looks [] ∧ ∀ (j : Nat) t, fn.params[j]? = some t → Tryd.pinned.checked.prog.wantsStandIn t = false := by
  obtain rfl : f = 7 := Option.some.inj ((show Tryd.prog.funcNamed "triggerstore/triggerstorelaw6.TableForms" = some 7 by kernel_rfl).symm.trans hf) |>.symm
  obtain rfl : fn = Tryd.f7 := (Option.some.inj (Tryd.func7.symm.trans hfn)).symm
  refine ⟨by kernel_rfl, fun j t ht => ?_⟩
  rw [Tryd.params7] at ht
  have hm := Array.mem_of_getElem? ht
  simp only [List.mem_toArray, List.mem_cons, List.not_mem_nil, or_false] at hm
  rcases hm with rfl | rfl | rfl | rfl
  · exact (show Tryd.prog.wantsStandIn 40 = false by kernel_rfl)
  · exact (show Tryd.prog.wantsStandIn 22 = false by kernel_rfl)
  · exact (show Tryd.prog.wantsStandIn 3 = false by kernel_rfl)
  · exact (show Tryd.prog.wantsStandIn 66 = false by kernel_rfl)
end LawTableForms

theorem tableForms_holds : Rows.TableFormsCardSaid :=
  Claim7.holds_tied_plain_at .later [] _ _ _ _ LawTableForms.said (fun _ h => by cases h) (by kernel_rfl) (fun _ h => by cases h) tableForms_row_tie rfl ⟨rfl, rfl⟩ (by kernel_rfl) rfl LawTableForms.plain (by kernel_rfl)
#print axioms tableForms_holds
end Go.Proofs.YtljmclbedpceoaaDoor

/- The contract of the tape's draw of a schema: a valid one. -/
import Derived.Test.YtdgdllicmccnfaaDoorNameTab
import Derived.Test.YtdgdllicmccnfaaDoorApp2
import Derived.Test.YtdgdllicmccnfaaDoorSchValid
import Derived.Deep.RegionHeld3
import Derived.IntWalk
import Derived.Deep.DeepCutAuto
namespace Go.Proofs.YtdgdllicmccnfaaDoor
open Go.RowKit
set_option linter.unusedVariables false
set_option linter.unusedSimpArgs false

/-- The columns that a draw makes: names three places apart, at most one key, which is not null. -/
def DrawnCols (key : Nat) (l : List Col) : Prop := ∀ j c, l[j]? = some c → c.name = nm_ ((j * 3 + key) % 8) ∧ 1 ≤ c.ty ∧ c.ty ≤ 3 ∧ (c.key = true → j = key ∧ c.nn = true)

/-- A schema drawn: valid, its columns in memory that nobody writes. -/
def DrawnSch (w : World) (T : Nat) (M : Nat → Prop) (e : Ending) (w' : World) : Prop :=
  ∃ (nm : ByteArray) (A : Option Addr) (n c : Nat) (l : List Col), e = .returned (.agg #[.string nm, .slice A n c]) ∧ schemaB nm l = true ∧ nm.size ≤ 12 ∧ (∀ x ∈ l, x.name.size ≤ 12) ∧ n ≤ 5 ∧ n ≤ c ∧ c ≤ 9223372036854775807 ∧ Ro w' M (SlR 4 A n (colCells l)) ∧ Tp w' T ∧ w.grownBy w' (some T)

theorem findFrom_some {α : Type} (p : α → Bool) : ∀ (l : List α) (k f : Nat), findFrom p k l = (f : Int) → ∃ x, l[f - k]? = some x ∧ p x = true ∧ k ≤ f
  | [], k, f, h => by rw [findFrom] at h; omega
  | c :: r, k, f, h => by
    rw [findFrom] at h
    split at h
    · rename_i hp
      obtain rfl : k = f := by omega
      exact ⟨c, by simp, hp, Nat.le_refl _⟩
    · obtain ⟨x, h1, h2, h3⟩ := findFrom_some p r (k + 1) f h
      refine ⟨x, ?_, h2, by omega⟩
      rw [show f - k = (f - (k + 1)) + 1 from by omega]
      simpa using h1
theorem find_some_of {α : Type} {p : α → Bool} {l : List α} {f : Nat} (h : findB p l = (f : Int)) : ∃ x, l[f]? = some x ∧ p x = true := by
  obtain ⟨x, h1, h2, _⟩ := findFrom_some p l 0 f h
  exact ⟨x, by simpa using h1, h2⟩
theorem drawnCols_snoc {key : Nat} {l : List Col} {c : Col} (h : DrawnCols key l) (h1 : c.name = nm_ ((l.length * 3 + key) % 8)) (h2 : 1 ≤ c.ty) (h3 : c.ty ≤ 3) (h4 : c.key = true → l.length = key ∧ c.nn = true) : DrawnCols key (l ++ [c]) := by
  intro j x hx
  rcases Nat.lt_or_ge j l.length with hlt | hge
  · rw [List.getElem?_append_left hlt] at hx; exact h j x hx
  · rw [List.getElem?_append_right hge] at hx
    have : j - l.length = 0 := by
      have := (List.getElem?_eq_some_iff.1 hx).1; simp at this; omega
    rw [this] at hx
    simp only [List.getElem?_cons_zero, Option.some.injEq] at hx
    subst hx
    obtain rfl : j = l.length := by omega
    exact ⟨h1, h2, h3, h4⟩
theorem find_first {l : List Col} {key : Nat} (h : DrawnCols key l) (hl : l.length ≤ 5) {j : Nat} {c : Col} (hc : l[j]? = some c) : findB (named c.name) l = (j : Int) := by
  obtain ⟨f0, f1⟩ := find_le (l := l) (named_self c) hc
  obtain ⟨f, hf⟩ := Int.eq_ofNat_of_zero_le f0
  have hj := (List.getElem?_eq_some_iff.1 hc).1
  have hex : ∃ x, l[f]? = some x ∧ named c.name x = true := by
    have := find_some_of (p := named c.name) (l := l) (f := f) hf
    exact this
  obtain ⟨x, hx, hn⟩ := hex
  obtain ⟨e1, _⟩ := h f x hx
  obtain ⟨e2, _⟩ := h j c hc
  rw [hf]
  by_cases hne : f = j
  · rw [hne]
  · exfalso
    unfold named at hn
    rw [e1, e2] at hn
    have hfl := (List.getElem?_eq_some_iff.1 hx).1
    rw [nm_ne _ (Nat.mod_lt _ (by omega)) _ (Nat.mod_lt _ (by omega)) (by omega)] at hn
    cases hn
theorem okFrom_all {α : Type} {t : Nat → α → Bool} : ∀ (l : List α) (k : Nat), (∀ j c, l[j]? = some c → t (k + j) c = true) → okFrom t k l = true
  | [], _, _ => rfl
  | c :: r, k, h => by
    rw [okFrom, show t k c = true from h 0 c rfl, Bool.true_and]
    exact okFrom_all r (k + 1) fun j x hx => by rw [show k + 1 + j = k + (j + 1) from by omega]; exact h (j + 1) x (by simpa using hx)
theorem keys_one {key : Nat} : ∀ (l : List Col) (k : Nat), (∀ j c, l[j]? = some c → c.key = true → k + j = key) → (l.filter Col.key).length ≤ 1 ∧ (key < k → (l.filter Col.key).length = 0)
  | [], _, _ => by simp
  | c :: r, k, h => by
    obtain ⟨h1, h2⟩ := keys_one (key := key) r (k + 1) fun j x hx hk => by have := h (j + 1) x (by simpa using hx) hk; omega
    have h0 := h 0 c rfl
    cases hk : c.key
    · simp only [List.filter_cons, hk, Bool.false_eq_true, if_false]
      exact ⟨h1, fun hlt => h2 (by omega)⟩
    · have := h0 hk
      simp only [List.filter_cons, hk, if_true, List.length_cons]
      have := h2 (by omega)
      exact ⟨by omega, fun hlt => by omega⟩
theorem drawn_valid {key : Nat} {l : List Col} {j : Nat} (h : DrawnCols key l) (hl : l.length ≤ 5) (h1 : 1 ≤ l.length) (hj : j < 8) : schemaB (nm_ j) l = true := by
  have hk := (keys_one (key := key) l 0 (fun i c hc hk => by have := ((h i c hc).2.2.2 hk).1; omega)).1
  have ho : okFrom (colOk l) 0 l = true := okFrom_all l 0 fun i c hc => by
    obtain ⟨e1, e2, e3, e4⟩ := h i c hc
    rw [Nat.zero_add]
    unfold colOk
    rw [find_first h hl hc, e1, (nm_ok _ (Nat.mod_lt _ (by omega))).1]
    cases hkey : c.key
    · simp [e2, e3]
    · simp [e2, e3, (e4 hkey).2]
  unfold schemaB
  rw [(nm_ok j hj).1, ho]
  simp [h1, hk]; omega

theorem two_of {w : World} {a b : Nat} {t : TypeId} {x0 x1 : Value} {s : ByteArray} {j : Nat} (ha : Blk w a t #[x0, x1]) (hn : w.cell? ⟨b, j, none⟩ = some (.string s)) : w.cell? ⟨a, 1, none⟩ = some x1 ∧ w.cell? ⟨b, j, none⟩ = some (.string s) := ⟨ha.cell 1, hn⟩
theorem Tryd.infoCol : (Tryd.prog.info? 35).map (fun i => (i.zero, i.size, i.bytes)) = some (some (.agg #[.string ⟨#[]⟩, .int .i64 0, .bool false, .bool false]), 4, 32) := by kernel_rfl

set_option maxHeartbeats 8000000 in
theorem anyschema_any (M : Nat → Prop) (T : Nat) (w : World) (hM : ∀ b, M b → b < w.heap.size) (ht : Tp w T) (hMT : ∀ b, M b → T ≤ b) (hw : Nms w) (hT : 0 < T) :
    Calls Tryd.prog 9 #[.pointer (some ⟨T, 0, none⟩)] w fun e w' => DrawnSch w T M e w' := by
  have hMn : ¬ Mut M [.tp T] 0 := by
    rintro (h | ⟨k, hk, hf⟩)
    · have := hMT _ h; omega
    · simp only [List.mem_singleton] at hk; subst hk; injection hf with hf; omega
  have K0 := ((Hold.startT M w T hM ht hMT).add (hw.ro hMn)).alloc #[.string ⟨#[]⟩, .slice none 0 0] 24
  clear hw hMn
  go_enter Tryd.func9, Tryd.ntmps9
  go_wp2_with fail
  refine (name_any T _ (K0.tp_ 2 rfl) (K0.ro 1 rfl).now hT).mono ?_
  rintro e w1 ⟨jn, hjn, rfl, t1, g1⟩
  have K1 := (Hold.callT K0 2 rfl g1 t1).alloc #[.string (nm_ jn), .slice none 0 0] 24
  clear g1 t1
  go_wp2_with fail
  refine (next_any T 4 _ (K1.tp_ 3 rfl) (by omega) (by omega)).mono ?_
  rintro e w2 ⟨key, rfl, hk0, hk1, t2, g2⟩
  have K2 := Hold.callT K1 3 rfl g2 t2
  clear g2 t2
  obtain ⟨key, rfl⟩ := Int.eq_ofNat_of_zero_le hk0
  go_wp2_with fail
  refine (next_any T 5 _ (K2.tp_ 3 rfl) (by omega) (by omega)).mono ?_
  rintro e w3 ⟨num, rfl, hn0, hn1, t3, g3⟩
  have K3 := Hold.callT K2 3 rfl g3 t3
  clear g3 t3
  obtain ⟨num, rfl⟩ := Int.eq_ofNat_of_zero_le hn0
  have K4 := K3.nil 35 4
  clear K3 K2 K1 K0
  go_wp2_with fail
  go_loopw [5] (fun i wr => ∃ (j cap : Nat) (A : Option Addr) (l : List Col), j ≤ num + 1 ∧ i = .int .i64 ((num : Int) + 1 - j) ∧ l.length = j ∧ DrawnCols key l ∧ j ≤ cap ∧
    Hold M (some T) w wr [.own 35 4 (.slice A j cap) j (colCells l), .blk w1.heap.size 24 #[.string (nm_ jn), .slice A j cap], .blk w.heap.size 24 #[.string ⟨#[]⟩, .slice none 0 0], .ro Nms, .tp T]) (fun i _ => (intOf i).toNat)
  case atStart => exact ⟨0, 0, none, [], by omega, by go_num, rfl, (fun j c h => by simp at h), by omega, K4⟩
  case round =>
    obtain ⟨j, cap, A, l, hj, rfl, hl, hd, hcap, H⟩ := hrel
    have HL := hid hl; clear hl
    have HD := hid hd; clear hd
    have F := H.facts
    simp only [World.size_alloc, factsL, cellsF, List.toList_toArray, Nat.reduceAdd, and_true, true_and] at F
    by_cases hlt : j < num + 1
    · obtain ⟨q, hq⟩ : ∃ q, q = (j * 3 + key) % 8 := ⟨_, rfl⟩
      have hq8 : q < 8 := by omega
      have s1 : IntKind.i64.wrap ((j : Int) * 3) = (j : Int) * 3 := IntWalk.i64_in _ (by omega)
      have s2 : IntKind.i64.wrap ((j : Int) * 3 + (key : Int)) = (j : Int) * 3 + (key : Int) := IntWalk.i64_in _ (by omega)
      have s3 : ((j : Int) * 3 + (key : Int)).tmod 8 = (q : Int) := by rw [Int.tmod_eq_emod_of_nonneg (by omega)]; omega
      have s4 : IntKind.i64.wrap (q : Int) = (q : Int) := IntWalk.i64_in _ (by omega)
      have HQ := hid hq; clear hq
      have q0 : (0 : Int) ≤ (q : Int) := by omega
      have q8 : (q : Int) < 8 := by omega
      go_wp2_with fail
      go_cut [6] (fun s6 wx => ∃ (g : Nat) (r : Int) (bb : Bool), s6 = .pointer (some ⟨g, 0, none⟩) ∧ 0 ≤ r ∧ r < 3 ∧
        Hold M (some T) w wx [.blk g 35 #[.string (nm_ q), .int .i64 (1 + r), .bool bb, .bool false], .own 35 4 (.slice A j cap) j (colCells l), .blk w1.heap.size 24 #[.string (nm_ jn), .slice A j cap], .blk w.heap.size 24 #[.string ⟨#[]⟩, .slice none 0 0], .ro Nms, .tp T])
      case first =>
        go_region_held3 (fun w' => w'.cell? ⟨w1.heap.size, 1, none⟩ = some (.slice A j cap) ∧ w'.cell? ⟨0, q, none⟩ = some (.string (nm_ q)))
          (first | (have hk_ := two_of (H.drew.blk_ 1 rfl) ((H.drew.ro 3 rfl).now q hq8); with_reducible exact hk_) | (have hk_ := two_of (((H.alloc #[.string ⟨#[]⟩, .int .i64 0, .bool false, .bool false] 35).drew).blk_ 2 rfl) ((((H.alloc #[.string ⟨#[]⟩, .int .i64 0, .bool false, .bool false] 35).drew).ro 4 rfl).now q hq8); with_reducible exact hk_) | (have hk_ := two_of ((H.drew.alloc #[.string ⟨#[]⟩, .int .i64 0, .bool false, .bool false] 35).blk_ 2 rfl) (((H.drew.alloc #[.string ⟨#[]⟩, .int .i64 0, .bool false, .bool false] 35).ro 4 rfl).now q hq8); with_reducible exact hk_) | (have hk_ := two_of (K5.blk_ 1 rfl) ((K5.ro 3 rfl).now q hq8); with_reducible exact hk_) | (have hk_ := two_of (K5.blk_ 2 rfl) ((K5.ro 4 rfl).now q hq8); with_reducible exact hk_) | (have hk_ := two_of ((K5.alloc #[.string ⟨#[]⟩, .int .i64 0, .bool false, .bool false] 35).blk_ 2 rfl) (((K5.alloc #[.string ⟨#[]⟩, .int .i64 0, .bool false, .bool false] 35).ro 4 rfl).now q hq8); with_reducible exact hk_) | (have hk_ := two_of (K6.blk_ 1 rfl) ((K6.ro 3 rfl).now q hq8); with_reducible exact hk_) | (have hk_ := two_of (K6.blk_ 2 rfl) ((K6.ro 4 rfl).now q hq8); with_reducible exact hk_) | (have hk_ := two_of ((K6.alloc #[.string ⟨#[]⟩, .int .i64 0, .bool false, .bool false] 35).blk_ 2 rfl) (((K6.alloc #[.string ⟨#[]⟩, .int .i64 0, .bool false, .bool false] 35).ro 4 rfl).now q hq8); with_reducible exact hk_) | (have hk_ := two_of ((K6.alloc #[.string (nm_ q), .int .i64 (1 + r), .bool bb, .bool false] 35).blk_ 2 rfl) (((K6.alloc #[.string (nm_ q), .int .i64 (1 + r), .bool bb, .bool false] 35).ro 4 rfl).now q hq8); with_reducible exact hk_) | (have hk_ := two_of (((((K6.store 0 rfl 0 (.string (nm_ q))).store 0 rfl 1 (.int .i64 (1 + r))).store 0 rfl 2 (.bool bb)).store 0 rfl 3 (.bool false)).blk_ 2 rfl) ((((((K6.store 0 rfl 0 (.string (nm_ q))).store 0 rfl 1 (.int .i64 (1 + r))).store 0 rfl 2 (.bool bb)).store 0 rfl 3 (.bool false)).ro 4 rfl).now q hq8); with_reducible exact hk_))
          (first
            | (have ht_ := H.drew.tp_ 4 rfl; go_at_call 18; ((with_reducible refine (next_any T 3 _ ht_ (by omega) (by omega)).mono ?_); clear ht_; rintro e w5 ⟨r, rfl, hr0, hr1, t5, g5⟩; have K5 := Hold.callT H.drew 4 rfl g5 t5; have hw5 : IntKind.i64.wrap (1 + r) = 1 + r := IntWalk.i64_in _ (by omega)))
            | (have ht_ := ((H.alloc #[.string ⟨#[]⟩, .int .i64 0, .bool false, .bool false] 35).drew).tp_ 5 rfl; go_at_call 18; ((with_reducible refine (next_any T 3 _ ht_ (by omega) (by omega)).mono ?_); clear ht_; rintro e w5 ⟨r, rfl, hr0, hr1, t5, g5⟩; have K5 := Hold.callT ((H.alloc #[.string ⟨#[]⟩, .int .i64 0, .bool false, .bool false] 35).drew) 5 rfl g5 t5; have hw5 : IntKind.i64.wrap (1 + r) = 1 + r := IntWalk.i64_in _ (by omega)))
            | (have ht_ := (H.drew.alloc #[.string ⟨#[]⟩, .int .i64 0, .bool false, .bool false] 35).tp_ 5 rfl; go_at_call 18; ((with_reducible refine (next_any T 3 _ ht_ (by omega) (by omega)).mono ?_); clear ht_; rintro e w5 ⟨r, rfl, hr0, hr1, t5, g5⟩; have K5 := Hold.callT (H.drew.alloc #[.string ⟨#[]⟩, .int .i64 0, .bool false, .bool false] 35) 5 rfl g5 t5; have hw5 : IntKind.i64.wrap (1 + r) = 1 + r := IntWalk.i64_in _ (by omega)))
            | (have ht_ := K5.tp_ 4 rfl; go_at_call 19; ((with_reducible refine (bool_any T 3 _ ht_ (by omega) (by omega)).mono ?_); clear ht_; rintro e w6 ⟨bb, rfl, t6, g6⟩; have K6 := Hold.callT K5 4 rfl g6 t6; have F6 := K6.facts; simp only [World.size_alloc, World.size_drew, factsL, cellsF, Nat.reduceAdd, List.toList_toArray, List.set_cons_zero, List.set_cons_succ, List.setIfInBounds_toArray, and_true, true_and] at F6))
            | (have ht_ := K5.tp_ 5 rfl; go_at_call 19; ((with_reducible refine (bool_any T 3 _ ht_ (by omega) (by omega)).mono ?_); clear ht_; rintro e w6 ⟨bb, rfl, t6, g6⟩; have K6 := Hold.callT K5 5 rfl g6 t6; have F6 := K6.facts; simp only [World.size_alloc, World.size_drew, factsL, cellsF, Nat.reduceAdd, List.toList_toArray, List.set_cons_zero, List.set_cons_succ, List.setIfInBounds_toArray, and_true, true_and] at F6))
            | (have ht_ := (K5.alloc #[.string ⟨#[]⟩, .int .i64 0, .bool false, .bool false] 35).tp_ 5 rfl; go_at_call 19; ((with_reducible refine (bool_any T 3 _ ht_ (by omega) (by omega)).mono ?_); clear ht_; rintro e w6 ⟨bb, rfl, t6, g6⟩; have K6 := Hold.callT (K5.alloc #[.string ⟨#[]⟩, .int .i64 0, .bool false, .bool false] 35) 5 rfl g6 t6; have F6 := K6.facts; simp only [World.size_alloc, World.size_drew, factsL, cellsF, Nat.reduceAdd, List.toList_toArray, List.set_cons_zero, List.set_cons_succ, List.setIfInBounds_toArray, and_true, true_and] at F6)))
        all_goals
          go_wp2_with fail
          go_meet
          first
            | exact ⟨_, r, bb, rfl, hr0, hr1, K6.alloc #[.string (nm_ q), .int .i64 (1 + r), .bool bb, .bool false] 35⟩
            | exact ⟨_, r, bb, rfl, hr0, hr1, (((K6.store 0 rfl 0 (.string (nm_ q))).store 0 rfl 1 (.int .i64 (1 + r))).store 0 rfl 2 (.bool bb)).store 0 rfl 3 (.bool false)⟩
      case rest =>
        obtain ⟨g, r, bb, rfl, hr0, hr1, K⟩ := hcut
        clear s1 s2 s3 s4 F H
        have NK := K.nes
        simp only [World.size_alloc, nesL, neF, and_true, true_and] at NK
        have FK := K.facts
        simp only [World.size_alloc, World.size_drew, factsL, cellsF, Nat.reduceAdd, List.toList_toArray, List.set_cons_zero, List.set_cons_succ, List.setIfInBounds_toArray, and_true, true_and] at FK
        by_cases hkj : key = j
        · have hkb : ((key : Int) == (j : Int)) = true := by simp; omega
          have HKJ := hid hkj; clear hkj
          have KP := ((K.store 0 rfl 3 (.bool true)).store 0 rfl 2 (.bool true))
          have HOWN := hid (KP.get 1 rfl)
          have HB := hid KP.grow.size
          go_wp2_with (at_builtin; go_must (refine wpList_app2 ((wc.setCell ⟨g, 3, none⟩ (.bool true)).setCell ⟨g, 2, none⟩ (.bool true)) #[.string (nm_ q), .int .i64 (1 + r), .bool true, .bool true] rfl (.tmp 42) (.tmp 44) 22 rfl w.heap.size 35 4 32 _ Tryd.underlying22 Tryd.infoCol rfl (by omega) (.slice A j cap) j (colCells l) rfl HOWN.out wc.heap.size (by simp) rfl rfl (by intro u hu; simp at hu; rcases hu with rfl | rfl | rfl | rfl <;> rfl) (by omega) (by omega) HB.out ?_); intro g' cap' w' ho hg hdj hl'; have hcap' := hid ho.2; have KA := Hold.append (KP.alloc_cst #[.string (nm_ q), .int .i64 (1 + r), .bool true, .bool true] 35) 2 rfl ho hg hdj hl'; have FA := KA.facts; simp only [World.size_alloc, World.size_drew, factsL, cellsF, Nat.reduceAdd, List.toList_toArray, List.set_cons_zero, List.set_cons_succ, List.setIfInBounds_toArray, and_true, true_and] at FA; clear FK)
          have KB := KA.store 3 rfl 1 (.slice (some ⟨g', 0, none⟩) (j + 1) cap')
          go_roundw
          case rel =>
            have e : colCells l ++ (#[.string (nm_ q), .int .i64 (1 + r), .bool true, .bool true] : Array Value).toList = colCells (l ++ [⟨nm_ q, 1 + r, true, true⟩]) := by simp [colCells, Col.cells]
            have hcc : j + 1 ≤ cap' := by
              rcases hcap'.out with ⟨h, _⟩ | ⟨g2, c2, cur, hv, _, _, hle, _⟩
              · cases h
              · have h3 := (Value.slice.inj hv).2.2; omega
            refine ⟨j + 1, cap', some ⟨g', 0, none⟩, l ++ [⟨nm_ q, 1 + r, true, true⟩], by omega, by go_num, by rw [List.length_append, HL.out]; rfl, drawnCols_snoc HD.out (by rw [HL.out, ← HQ.out]) (by show (1 : Int) ≤ 1 + r; omega) (by show 1 + r ≤ (3 : Int); omega) ?_, hcc, ?_⟩
            · intro _; exact ⟨by rw [HL.out, HKJ.out], rfl⟩
            · rw [← e]
              exact KB.drop (List.Sublist.cons _ (List.sublist_cons_self _ _))
          case measure => simp [intOf]; omega
        · have hkb : ((key : Int) == (j : Int)) = false := by simp; omega
          clear hkj
          have KP := K
          have HOWN := hid (KP.get 1 rfl)
          have HB := hid KP.grow.size
          go_wp2_with (at_builtin; go_must (refine wpList_app2 wc #[.string (nm_ q), .int .i64 (1 + r), .bool bb, .bool false] rfl (.tmp 42) (.tmp 44) 22 rfl w.heap.size 35 4 32 _ Tryd.underlying22 Tryd.infoCol rfl (by omega) (.slice A j cap) j (colCells l) rfl HOWN.out wc.heap.size (by simp) rfl rfl (by intro u hu; simp at hu; rcases hu with rfl | rfl | rfl | rfl <;> rfl) (by omega) (by omega) HB.out ?_); intro g' cap' w' ho hg hdj hl'; have hcap' := hid ho.2; have KA := Hold.append (KP.alloc_cst #[.string (nm_ q), .int .i64 (1 + r), .bool bb, .bool false] 35) 2 rfl ho hg hdj hl'; have FA := KA.facts; simp only [World.size_alloc, World.size_drew, factsL, cellsF, Nat.reduceAdd, List.toList_toArray, List.set_cons_zero, List.set_cons_succ, List.setIfInBounds_toArray, and_true, true_and] at FA; clear FK)
          have KB := KA.store 3 rfl 1 (.slice (some ⟨g', 0, none⟩) (j + 1) cap')
          go_roundw
          case rel =>
            have e : colCells l ++ (#[.string (nm_ q), .int .i64 (1 + r), .bool bb, .bool false] : Array Value).toList = colCells (l ++ [⟨nm_ q, 1 + r, bb, false⟩]) := by simp [colCells, Col.cells]
            have hcc : j + 1 ≤ cap' := by
              rcases hcap'.out with ⟨h, _⟩ | ⟨g2, c2, cur, hv, _, _, hle, _⟩
              · cases h
              · have h3 := (Value.slice.inj hv).2.2; omega
            refine ⟨j + 1, cap', some ⟨g', 0, none⟩, l ++ [⟨nm_ q, 1 + r, bb, false⟩], by omega, by go_num, by rw [List.length_append, HL.out]; rfl, drawnCols_snoc HD.out (by rw [HL.out, ← HQ.out]) (by show (1 : Int) ≤ 1 + r; omega) (by show 1 + r ≤ (3 : Int); omega) ?_, hcc, ?_⟩
            · intro h; cases h
            · rw [← e]
              exact KB.drop (List.Sublist.cons _ (List.sublist_cons_self _ _))
          case measure => simp [intOf]; omega
    · obtain rfl : j = num + 1 := by omega
      have hc63 : cap ≤ 9223372036854775807 := by
        rcases (H.get 0 rfl).2 with ⟨h, _⟩ | ⟨g2, c2, cur, hv, _, _, hle, hm, _⟩
        · injection h with _ h2 h3; omega
        · have h3 := (Value.slice.inj hv).2.2; unfold maxLen at hm; omega
      have HV := hid (drawn_valid HD.out (by rw [HL.out]; omega) (by rw [HL.out]; omega) hjn)
      have HN := hid (show ∀ x ∈ l, x.name.size ≤ 12 from fun x hx => by
        obtain ⟨i, hi⟩ := List.getElem?_of_mem hx
        rw [(HD.out i x hi).1]
        exact (nm_ok _ (Nat.mod_lt _ (by omega))).2)
      have KF := ((H.sealRow 0 rfl).store 2 rfl 0 (.string (nm_ jn))).store 2 rfl 1 (.slice A (num + 1) cap)
      go_wp2_with fail
      refine bodyPost_ret (v := .agg #[.string (nm_ jn), .slice A (num + 1) cap]) (by simp [results, Tryd.results9, go_sem, F]) rfl ⟨nm_ jn, A, num + 1, cap, l, rfl, HV.out, (nm_ok jn hjn).2, HN.out, by omega, by omega, hc63, KF.roOut 0 rfl, KF.tp_ 4 rfl, KF.grow⟩
end Go.Proofs.YtdgdllicmccnfaaDoor

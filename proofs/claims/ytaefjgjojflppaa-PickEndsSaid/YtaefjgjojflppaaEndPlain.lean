/- EndPlain: firing eligible items one by one gives one of the sequences. No program in sight. -/
import Derived.Test.YtaefjgjojflppaaEqL
import Derived.Test.YtaefjgjojflppaaMade
import Derived.Test.YtaefjgjojflppaaPChoose
namespace Go.Proofs.Ytaefjgjojflppaa
open Go.RowKit
set_option linter.unusedVariables false
set_option linter.unusedSimpArgs false

theorem valid_link {l : List Lk} (h : validB l = true) {x : Lk} (hx : x ∈ l) : x.a ≠ x.b ∧ ∀ y ∈ l, x.b = y.a → (⟨x.a, y.b⟩ : Lk) ∈ l := by
  obtain ⟨i, hi, rfl⟩ := List.getElem_of_mem hx
  have h1 := valid_at h hi
  unfold okAt at h1
  rw [show lkAt l i = l[i] by simp [lkAt, List.getD, hi]] at h1
  simp only [Bool.and_eq_true, Bool.not_eq_true'] at h1
  refine ⟨fun e => ?_, fun y hy hb => ?_⟩
  · have := h1.1.1; rw [e] at this; simp at this
  · have h2 := List.all_eq_true.1 h1.2 y hy
    unfold trB at h2
    rw [Bool.or_eq_true] at h2
    rcases h2 with h2 | h2
    · rw [hb] at h2; simp at h2
    · exact precB_iff.1 h2
theorem prec_irr {l : List Lk} (h : validB l = true) (a : ByteArray) : precB l a a = false := by
  cases hp : precB l a a
  · rfl
  · exact absurd rfl (valid_link h (precB_iff.1 hp)).1
theorem prec_tr {l : List Lk} (h : validB l = true) {a b c : ByteArray} (h1 : precB l a b = true) (h2 : precB l b c = true) : precB l a c = true :=
  precB_iff.2 ((valid_link h (precB_iff.1 h1)).2 _ (precB_iff.1 h2) rfl)
theorem exists_min {f : Nat → Nat → Bool} (hi : ∀ a, f a a = false) (ht : ∀ a b c, f a b = true → f b c = true → f a c = true) : ∀ L : List Nat, L ≠ [] → ∃ x ∈ L, ∀ k ∈ L, f k x = false
  | [], h => absurd rfl h
  | [a], _ => ⟨a, by simp, fun k hk => by simp at hk; rw [hk]; exact hi a⟩
  | a :: b :: L, _ => by
    obtain ⟨x, hx, hm⟩ := exists_min hi ht (b :: L) (by simp)
    cases hax : f a x
    · exact ⟨x, List.mem_cons_of_mem _ hx, fun k hk => by
        rcases List.mem_cons.1 hk with rfl | hk
        · exact hax
        · exact hm k hk⟩
    · refine ⟨a, by simp, fun k hk => ?_⟩
      rcases List.mem_cons.1 hk with rfl | hk
      · exact hi k
      · cases hka : f k a
        · rfl
        · have := ht k a x hka hax
          rw [hm k hk] at this; cases this
abbrev toI (L : List Nat) : List Int := L.map fun (i : Nat) => (i : Int)
def marks (n : Nat) (L : List Nat) : List Bool := (List.range n).map fun i => !L.contains i
theorem marks_get {n : Nat} (L : List Nat) {i : Nat} (hi : i < n) : (marks n L).getD i false = !L.contains i := by simp [marks, List.getD, hi]
theorem marks_all (n : Nat) : marks n (List.range n) = List.replicate n false := by
  apply List.ext_getElem
  · simp [marks]
  · intro i h1 h2
    have : i < n := by simpa using h2
    simp [marks, this]
structure FI (f : Nat → Nat → Bool) (n : Nat) (L F : List Nat) : Prop where
  nd : L.Nodup
  lt : ∀ x ∈ L, x < n
  ltF : ∀ x ∈ F, x < n
  len : F.length + L.length = n
  ext : ∀ x ∈ extS f n (L.length + 1) (marks n L) (toI F), x ∈ extS f n (n + 1) (List.replicate n false) []
  pw : F.Pairwise fun a b => f b a = false
  nb : ∀ a ∈ F, ∀ b ∈ L, f b a = false
theorem FI.start (f : Nat → Nat → Bool) (n : Nat) : FI f n (List.range n) [] where
  nd := List.nodup_range
  lt := fun x hx => List.mem_range.1 hx
  ltF := fun x hx => by cases hx
  len := by simp
  ext := fun x hx => by rw [marks_all, List.length_range] at hx; exact hx
  pw := List.Pairwise.nil
  nb := fun a ha => by cases ha
theorem FI.step {f : Nat → Nat → Bool} {n : Nat} {X Y F : List Nat} {x : Nat} (h : FI f n (X ++ x :: Y) F) (hf : ∀ k ∈ X ++ Y, f k x = false) (hxx : f x x = false) : FI f n (X ++ Y) (F ++ [x]) := by
  have hsub : List.Sublist (X ++ Y) (X ++ x :: Y) := List.Sublist.append (List.Sublist.refl _) (List.sublist_cons_self _ _)
  have hxl : x ∈ X ++ x :: Y := by simp
  have hxn : x < n := h.lt x hxl
  have hnot : x ∉ X ++ Y := by
    have := h.nd
    rw [List.nodup_append] at this
    obtain ⟨h1, h2, h3⟩ := this
    intro hm
    rcases List.mem_append.1 hm with hm | hm
    · exact h3 x hm x (by simp) rfl
    · exact (List.nodup_cons.1 h2).1 hm
  have hlen := h.len
  simp only [List.length_append, List.length_cons] at hlen
  refine ⟨h.nd.sublist hsub, fun y hy => h.lt y (hsub.subset hy), fun y hy => ?_, by simp; omega, fun z hz => ?_, ?_, fun a ha b hb => ?_⟩
  · rcases List.mem_append.1 hy with hy | hy
    · exact h.ltF y hy
    · simp at hy; subst hy; exact hxn
  · refine h.ext z ?_
    have hl2 : (X ++ x :: Y).length = (X ++ Y).length + 1 := by simp; omega
    rw [hl2, extS_part (by simp; omega)]
    unfold extP
    rw [List.mem_flatMap]
    refine ⟨x, List.mem_range.2 hxn, ?_⟩
    unfold extB
    have hfree : freeU f (marks n (X ++ x :: Y)) n x = true := by
      unfold freeU
      rw [marks_get _ hxn]
      have hc : (X ++ x :: Y).contains x = true := by simp
      rw [hc]
      simp only [Bool.not_true, Bool.not_false, Bool.true_and, Bool.not_eq_true']
      unfold blkU
      rw [List.any_eq_false]
      intro k hk
      have hkn := List.mem_range.1 hk
      rw [marks_get _ hkn]
      simp only [Bool.not_not, Bool.and_eq_true, bne_iff_ne, ne_eq, not_and, Bool.not_eq_true]
      intro hkx hck
      refine hf k ?_
      have : k ∈ X ++ x :: Y := by simpa using hck
      rcases List.mem_append.1 this with hm | hm
      · exact List.mem_append_left _ hm
      · rcases List.mem_cons.1 hm with hm | hm
        · exact absurd hm hkx
        · exact List.mem_append_right _ hm
    rw [if_pos hfree]
    have hset : (marks n (X ++ x :: Y)).set x true = marks n (X ++ Y) := by
      apply List.ext_getElem
      · simp [marks]
      · intro i h1 h2
        have hin : i < n := by simpa [marks] using h2
        rw [List.getElem_set]
        split
        · rename_i hxi; subst hxi
          simp only [marks, List.getElem_map, List.getElem_range]
          have : (X ++ Y).contains x = false := by
            cases hc : (X ++ Y).contains x
            · rfl
            · exact absurd (by simpa using hc) hnot
          rw [this]; rfl
        · rename_i hxi
          simp only [marks, List.getElem_map, List.getElem_range]
          congr 1
          rw [Bool.eq_iff_iff]
          simp only [List.contains_iff_mem, List.mem_append, List.mem_cons]
          constructor
          · rintro (h | h | h)
            · exact .inl h
            · exact absurd h.symm hxi
            · exact .inr h
          · rintro (h | h)
            · exact .inl h
            · exact .inr (.inr h)
    rw [hset]
    simpa using hz
  · rw [List.pairwise_append]
    exact ⟨h.pw, List.pairwise_singleton _ _, fun a ha b hb => by simp at hb; subst hb; exact h.nb a ha b hxl⟩
  · rcases List.mem_append.1 ha with ha | ha
    · exact h.nb a ha b (hsub.subset hb)
    · simp at ha; subst ha; exact hf b hb
theorem FI.done {f : Nat → Nat → Bool} {n : Nat} {F : List Nat} (h : FI f n [] F) : toI F ∈ extS f n (n + 1) (List.replicate n false) [] := by
  refine h.ext _ ?_
  have hl := h.len
  simp only [List.length_nil, Nat.zero_add] at hl ⊢
  rw [extS_full (by simp; omega)]
  simp
def eligI (its : List It) (l : List Lk) : List Int := (eligN its l its.length).map fun (i : Nat) => (i : Int)
theorem eligL_cells (its : List It) (l : List Lk) : eligL its l its.length = iCells (eligI its l) := by simp [eligL, eligI, iCells]
theorem eligI_le (its : List It) (l : List Lk) : (eligI its l).length ≤ its.length := by
  unfold eligI eligN
  rw [List.length_map]
  exact Nat.le_trans (List.length_filter_le _ _) (by simp)
/-- how many sequences at most -/
def facN : Nat → Nat | 0 => 1 | k + 1 => facN k * (k + 1)
theorem flatMap_le {α β : Type} (p : α → Bool) (g : α → List β) (B : Nat) : ∀ L : List α, (∀ x ∈ L, p x = false → g x = []) → (∀ x ∈ L, p x = true → (g x).length ≤ B) → (L.flatMap g).length ≤ L.countP p * B
  | [], _, _ => by simp
  | x :: L, h1, h2 => by
    have ih := flatMap_le p g B L (fun y hy => h1 y (List.mem_cons_of_mem _ hy)) (fun y hy => h2 y (List.mem_cons_of_mem _ hy))
    rw [List.flatMap_cons, List.length_append, List.countP_cons]
    cases hp : p x
    · rw [h1 x (by simp) hp]; simpa using ih
    · have := h2 x (by simp) hp
      simp only [if_true, Nat.add_mul, Nat.one_mul]
      omega
theorem count_range (us : List Bool) : (List.range us.length).countP (fun i => !us.getD i false) = us.countP (!·) := by
  have : us.countP (!·) = ((List.range us.length).map fun i => us.getD i false).countP (!·) := by
    congr 1
    apply List.ext_getElem
    · simp
    · intro i h1 h2
      simp [List.getD, h1]
  rw [this, List.countP_map]
  rfl
theorem count_set_f {us : List Bool} {k : Nat} (hk : k < us.length) (h : us.getD k false = false) : (us.set k true).countP (!·) + 1 = us.countP (!·) := by
  have h1 : us[k] = false := by simpa [List.getD, hk] using h
  conv => rhs; rw [← List.take_append_drop k us, List.drop_eq_getElem_cons hk, h1]
  rw [List.set_eq_take_append_cons_drop, if_pos hk]
  simp only [List.countP_append, List.countP_cons]
  simp
  omega
theorem extS_count (f : Nat → Nat → Bool) (n : Nat) : ∀ (fuel : Nat) (us : List Bool) (nw : List Int), us.length = n → (extS f n fuel us nw).length ≤ facN (us.countP (!·))
  | 0, us, nw, _ => by simp [extS]
  | fuel + 1, us, nw, hl => by
    have hpos : ∀ k, 1 ≤ facN k := fun k => by
      induction k with
      | zero => exact Nat.le_refl _
      | succ k ih => exact Nat.le_trans ih (Nat.le_mul_of_pos_right _ (by omega))
    unfold extS
    split
    · exact hpos _
    · cases hc : us.countP (!·) with
      | zero =>
        have hall : ((List.range n).flatMap fun i => if freeU f us n i then extS f n fuel (us.set i true) (nw ++ [(i : Int)]) else []) = [] := by
          rw [List.flatMap_eq_nil_iff]
          intro i hi
          have hin := List.mem_range.1 hi
          have : us.getD i false = true := by
            have := List.countP_eq_zero.1 hc us[i] (List.getElem_mem (by omega))
            simpa [List.getD, hl ▸ hin, show i < us.length by omega] using this
          simp only [freeU, this, Bool.not_true, Bool.false_and]
          rfl
        rw [hall]; exact Nat.zero_le _
      | succ u =>
        have h1 := flatMap_le (fun i => !us.getD i false) (fun i => if freeU f us n i then extS f n fuel (us.set i true) (nw ++ [(i : Int)]) else []) (facN u) (List.range n) (fun i hi hp => by
          have : us.getD i false = true := by simpa using hp
          simp only [freeU, this, Bool.not_true, Bool.false_and]
          rfl) (fun i hi hp => by
          have hin := List.mem_range.1 hi
          have hu : us.getD i false = false := by simpa using hp
          split
          · have h2 := extS_count f n fuel (us.set i true) (nw ++ [(i : Int)]) (by simpa using hl)
            have h3 := count_set_f (us := us) (k := i) (by omega) hu
            rw [show (us.set i true).countP (!·) = u by omega] at h2
            exact h2
          · exact Nat.zero_le _)
        have h4 := count_range us
        rw [hl, hc] at h4
        rw [h4, Nat.mul_comm] at h1
        exact h1
theorem extS_all (f : Nat → Nat → Bool) (n : Nat) (hn : n ≤ 5) : ordL f n 200 = extS f n (n + 1) (List.replicate n false) [] := by
  unfold ordL
  rw [if_neg (by omega), List.take_of_length_le]
  have h := extS_count f n (n + 1) (List.replicate n false) [] (by simp)
  rw [List.countP_replicate] at h
  simp only [Bool.not_false, if_true] at h
  have : facN n ≤ 120 := by
    rcases (show n = 0 ∨ n = 1 ∨ n = 2 ∨ n = 3 ∨ n = 4 ∨ n = 5 by omega) with rfl | rfl | rfl | rfl | rfl | rfl <;> decide
  show _ ≤ 200
  omega
/-- the items that are left -/
def it0 : It := ⟨⟨#[]⟩, 0, none, 0, 0, none, 0, 0⟩
def nowL (its : List It) (L : List Nat) : List It := L.map fun i => its.getD i it0
theorem trAt_now {its : List It} {L : List Nat} {p : Nat} (hp : p < L.length) (hl : ∀ x ∈ L, x < its.length) : trAt (nowL its L) p = trAt its L[p] := by
  have h1 := hl L[p] (List.getElem_mem hp)
  unfold trAt nowL
  simp [List.getD, hp, h1]
theorem now_blk {its : List It} {l : List Lk} {L : List Nat} {p : Nat} (hp : p < L.length) (hl : ∀ x ∈ L, x < its.length) (h : blkB (nowL its L) l p (nowL its L).length = false) : ∀ k (hk : k < L.length), k ≠ p → ordF its l L[k] L[p] = false := fun k hk hkp => by
  unfold blkB at h
  rw [List.any_eq_false] at h
  have := h k (List.mem_range.2 (by simpa [nowL] using hk))
  rw [trAt_now hk hl, trAt_now hp hl] at this
  unfold ordF
  simpa [hkp] using this
theorem now_blk' {its : List It} {l : List Lk} {L : List Nat} {p : Nat} (hp : p < L.length) (hl : ∀ x ∈ L, x < its.length) (h : ∀ k ∈ L, ordF its l k L[p] = false) : blkB (nowL its L) l p (nowL its L).length = false := by
  unfold blkB
  rw [List.any_eq_false]
  intro k hk
  have hk : k < L.length := by have := List.mem_range.1 hk; simpa [nowL] using this
  rw [trAt_now hk hl, trAt_now hp hl]
  have := h L[k] (List.getElem_mem hk)
  unfold ordF at this
  simp [this]
theorem eligI_at {its : List It} {l : List Lk} {c : Nat} {x : Int} (h : (eligI its l)[c]? = some x) : ∃ p : Nat, x = (p : Int) ∧ p < its.length ∧ blkB its l p its.length = false := by
  unfold eligI at h
  rw [List.getElem?_map] at h
  obtain ⟨p, hp, rfl⟩ := Option.map_eq_some_iff.1 h
  have hm := List.mem_of_getElem? hp
  unfold eligN at hm
  rw [List.mem_filter] at hm
  exact ⟨p, rfl, List.mem_range.1 hm.1, by simpa using hm.2⟩
theorem eligI_some {its : List It} {l : List Lk} {L : List Nat} (hv : validB l = true) (hL : L ≠ []) (hl : ∀ x ∈ L, x < its.length) : 0 < (eligI (nowL its L) l).length := by
  obtain ⟨x, hx, hm⟩ := exists_min (f := ordF its l) (fun a => prec_irr hv _) (fun a b c => prec_tr hv) L hL
  obtain ⟨p, hp, rfl⟩ := List.getElem_of_mem hx
  have hb := now_blk' (l := l) hp hl hm
  have hmem : p ∈ eligN (nowL its L) l (nowL its L).length := by
    unfold eligN
    rw [List.mem_filter]
    exact ⟨List.mem_range.2 (by simpa [nowL] using hp), by simpa using hb⟩
  unfold eligI
  rw [List.length_map]
  exact List.length_pos_of_mem hmem
theorem chosen_in {N : Nat} (h : 0 < N) (xs : List Int) : 0 ≤ chosenK N xs ∧ chosenK N xs < N := by
  unfold chosenK
  split
  · omega
  · rename_i x r
    split
    · omega
    · unfold pickK
      have b1 : -(N : Int) < x.tmod N := Int.lt_tmod_of_pos x (by omega)
      have b2 : x.tmod N < N := Int.tmod_lt_of_pos x (by omega)
      split <;> omega
theorem nowL_snoc (its : List It) (L : List Nat) (i : Nat) : nowL its (L ++ [i]) = nowL its L ++ [its.getD i it0] := by simp [nowL]
theorem FI.fire {its : List It} {l : List Lk} {L F : List Nat} {p : Nat} (hv : validB l = true) (h : FI (ordF its l) its.length L F) (hp : p < L.length) (hb : blkB (nowL its L) l p (nowL its L).length = false) :
    FI (ordF its l) its.length (L.take p ++ L.drop (p + 1)) (F ++ [L[p]]) := by
  have e : L = L.take p ++ L[p] :: L.drop (p + 1) := by rw [← List.drop_eq_getElem_cons hp, List.take_append_drop]
  have h2 : FI (ordF its l) its.length (L.take p ++ L[p] :: L.drop (p + 1)) F := by rw [← e]; exact h
  refine h2.step (fun k hk => ?_) (prec_irr hv _)
  have hn := now_blk hp h.lt hb
  rcases List.mem_append.1 hk with hm | hm
  · obtain ⟨i, hi, rfl⟩ := List.getElem_of_mem hm
    rw [List.getElem_take]
    simp at hi
    exact hn i (by omega) (by omega)
  · obtain ⟨i, hi, rfl⟩ := List.getElem_of_mem hm
    rw [List.getElem_drop]
    simp at hi
    exact hn (p + 1 + i) (by omega) (by omega)
theorem fired_ok {f : Nat → Nat → Bool} {n : Nat} {L F : List Nat} (h : FI f n L F) {i j : Nat} (hi : i < F.length) (hj : j < i) : f F[i] F[j] = false := (List.pairwise_iff_getElem.1 h.pw) j i (by omega) hi hj
end Go.Proofs.Ytaefjgjojflppaa

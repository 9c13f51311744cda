/- Finding a word between spaces in the text of all words is finding it in their list. -/
import Derived.Test.YtdgdllicmccnfaaDoorNames2
import Derived.Lib.IndexMore
namespace Go.Proofs.YtdgdllicmccnfaaDoor
open Go.RowKit
set_option linter.unusedVariables false

theorem contains_cons (b : UInt8) (l sub : List UInt8) : Lib.contains (b :: l) sub = (sub.isPrefixOf (b :: l) || Lib.contains l sub) := by
  unfold Lib.contains
  rw [Lib.index]
  have h := Lib.index_ge l sub
  cases hp : sub.isPrefixOf (b :: l)
  · simp only [Bool.false_eq_true, if_false, Bool.false_or]
    by_cases e : Lib.index l sub = -1
    · simp [e]
    · have e' : (Lib.index l sub == -1) = false := by simpa using e
      rw [e']
      simp only [Bool.false_eq_true, if_false, decide_eq_decide]
      omega
  · simp
theorem contains_skip {t : List UInt8} : ∀ (k l : List UInt8), (∀ x ∈ k, x ≠ 32) → Lib.contains (k ++ l) (32 :: t) = Lib.contains l (32 :: t)
  | [], l, _ => rfl
  | x :: k, l, h => by
    rw [List.cons_append, contains_cons, contains_skip k l fun y hy => h y (List.mem_cons_of_mem _ hy)]
    have hx := h x (List.mem_cons_self ..)
    have : ((32 : UInt8) == x) = false := by simpa using fun e => hx e.symm
    simp [List.isPrefixOf, this]
theorem prefix_word : ∀ (t k l : List UInt8), (∀ x ∈ t, x ≠ 32) → (∀ x ∈ k, x ≠ 32) → (t ++ [32]).isPrefixOf (k ++ 32 :: l) = (k == t)
  | [], [], l, _, _ => by simp [List.isPrefixOf]
  | [], x :: k, l, _, hk => by
    have hx := hk x (List.mem_cons_self ..)
    have : ((32 : UInt8) == x) = false := by simpa using fun e => hx e.symm
    simp [List.isPrefixOf, this]
  | x :: t, [], l, ht, _ => by
    have hx := ht x (List.mem_cons_self ..)
    have : (x == (32 : UInt8)) = false := by simpa using hx
    simp [List.isPrefixOf, this]
  | x :: t, y :: k, l, ht, hk => by
    have ih := prefix_word t k l (fun z hz => ht z (List.mem_cons_of_mem _ hz)) (fun z hz => hk z (List.mem_cons_of_mem _ hz))
    simp only [List.cons_append, List.isPrefixOf, ih]
    rw [Bool.eq_iff_iff]
    simp only [Bool.and_eq_true, beq_iff_eq, List.cons.injEq]
    exact ⟨fun ⟨a, b⟩ => ⟨a.symm, b⟩, fun ⟨a, b⟩ => ⟨a.symm, b⟩⟩
def flatW (ks : List (List UInt8)) : List UInt8 := ks.flatMap (· ++ [32])
theorem contains_words (t : List UInt8) (ht : ∀ x ∈ t, x ≠ 32) : ∀ ks : List (List UInt8), (∀ k ∈ ks, ∀ x ∈ k, x ≠ 32) → Lib.contains (32 :: flatW ks) (32 :: (t ++ [32])) = ks.any (fun k => k == t)
  | [], _ => by
    rw [contains_cons]
    cases t <;> simp [flatW, List.isPrefixOf, Lib.contains, Lib.index]
  | k :: ks, h => by
    have hk := h k (List.mem_cons_self ..)
    have ih := contains_words t ht ks fun k' hk' => h k' (List.mem_cons_of_mem _ hk')
    have e : flatW (k :: ks) = k ++ (32 :: flatW ks) := by simp [flatW]
    rw [contains_cons, e, contains_skip _ _ hk, ih]
    simp only [List.isPrefixOf, beq_self_eq_true, Bool.true_and, prefix_word t k (flatW ks) ht hk, List.any_cons]
def wordsText : List UInt8 := 32 :: flatW (kws.map (fun k => k.data.toList))
theorem kws_plain : ∀ k ∈ kws, ∀ x ∈ k.data.toList, x ≠ 32 := by decide +kernel
theorem kws_full : ∀ k ∈ kws, k.data.toList ≠ [] := by decide +kernel
theorem toList_data_ (s : ByteArray) : s.toList = s.data.toList := ByteArray.toList_eq s
theorem kwB_data (s : ByteArray) : kwB s = (kws.map (fun k => k.data.toList)).any (fun k => k == s.data.toList) := by
  unfold kwB
  rw [List.any_map]
  congr 1
  funext k
  simp only [Function.comp, toList_data_]
theorem kwB_space {s : ByteArray} (h : (32 : UInt8) ∈ s.data.toList) : kwB s = false := by
  rw [kwB_data, List.any_eq_false]
  intro k hk he
  simp only [List.mem_map] at hk
  obtain ⟨a, ha, rfl⟩ := hk
  have he' : a.data.toList = s.data.toList := by simpa using he
  exact kws_plain a ha 32 (by rw [he']; exact h) rfl
theorem kwB_empty {s : ByteArray} (h : s.data.toList = []) : kwB s = false := by
  rw [kwB_data, List.any_eq_false]
  intro k hk he
  simp only [List.mem_map] at hk
  obtain ⟨a, ha, rfl⟩ := hk
  have he' : a.data.toList = s.data.toList := by simpa using he
  exact kws_full a ha (by rw [he', h])
theorem kwB_words {s : ByteArray} (h : (32 : UInt8) ∉ s.data.toList) : Lib.contains wordsText (32 :: (s.data.toList ++ [32])) = kwB s := by
  rw [kwB_data]
  refine contains_words s.data.toList (fun x hx e => h (e ▸ hx)) _ fun k hk x hx => ?_
  simp only [List.mem_map] at hk
  obtain ⟨a, ha, rfl⟩ := hk
  exact kws_plain a ha x hx
theorem contains_one_iff (l : List UInt8) (c : UInt8) : Lib.contains l [c] = true ↔ c ∈ l := by
  induction l with
  | nil => simp [Lib.contains, Lib.index]
  | cons b l ih =>
    rw [contains_cons]
    simp only [List.isPrefixOf, Bool.and_true, Bool.or_eq_true, beq_iff_eq, ih, List.mem_cons]
end Go.Proofs.YtdgdllicmccnfaaDoor

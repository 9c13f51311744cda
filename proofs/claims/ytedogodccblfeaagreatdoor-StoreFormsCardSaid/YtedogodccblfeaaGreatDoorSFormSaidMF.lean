/- REmpty: ref8.Empty. -/
import Derived.Test.YtedogodccblfeaaGreatDoorSFormSaidME
import Derived.Test.YtedogodccblfeaaGreatDoorSFormSaidMA
import Derived.Test.YtedogodccblfeaaGreatDoorSFormSaidMC
import Derived.Test.YtedogodccblfeaaGreatDoorSFormSaidMB
import Derived.Laws.CopyOwn
import Derived.Test.YtedogodccblfeaaGreatDoorSFormSaidMD
import Derived.OrdersHeld
namespace Go.Proofs.YtedogodccblfeaaGreatDoor
open Go.RowKit
set_option linter.unusedVariables false
set_option linter.unusedSimpArgs false

/-- rows that stand whatever becomes of block g -/
abbrev RowsAt (w : World) (g : Nat) : Type := { s : Sl // Ro w (fun b => b = g) (VlsIn s.A s.n s.vs) ∧ s.n ≤ 9223372036854775807 }
instance rowsAtInh (w : World) (g : Nat) : Inhabited (RowsAt w g) := ⟨⟨⟨none, 0, 0, []⟩, fun _ _ _ => Rd.none_, Nat.zero_le _⟩⟩
def encRow {w : World} {g : Nat} (x : RowsAt w g) : Value := .slice x.1.A x.1.n x.1.c
theorem slCells_at {l : List Sl} {j : Nat} {s : Sl} (h : l[j]? = some s) : (slCells l)[j]? = some (.slice s.A s.n s.c) := by
  have := flat_get Sl.cells 1 (fun _ => rfl) l j 0 s (by omega) h
  unfold slCells
  simpa [Sl.cells] using this
theorem sortWorld_heap {α : Type} [Inhabited α] (enc : α → Value) (w : World) (g m : Nat) (d : Array α) (os : Array Obj) {b : Nat} (hb : b < w.heap.size) (hne : b ≠ g) : (sortWorld enc w g 0 m d os).heap[b]? = w.heap[b]? := by
  show ((w.heap.modify g _) ++ os)[b]? = _
  rw [Array.getElem?_append, if_pos (by simpa using hb), Array.getElem?_modify, if_neg (fun e => hne e.symm)]
theorem sortWorld_size {α : Type} [Inhabited α] (enc : α → Value) (w : World) (g m : Nat) (d : Array α) (os : Array Obj) : w.heap.size ≤ (sortWorld enc w g 0 m d os).heap.size := by
  show _ ≤ ((w.heap.modify g _) ++ os).size
  simp
theorem sortWorld_at {α : Type} [Inhabited α] (enc : α → Value) (w : World) (g m : Nat) (d : Array α) (os : Array Obj) {cs : Array Value} {t : TypeId} (h : w.heap[g]? = some (.cells cs t (0, 0))) : (sortWorld enc w g 0 m d os).heap[g]? = some (.cells (Go.Sort.putCells enc 0 d cs) t (0, 0)) := by
  have hb : g < w.heap.size := (Array.getElem?_eq_some_iff.1 h).1
  show ((w.heap.modify g _) ++ os)[g]? = _
  rw [Array.getElem?_append, if_pos (by simpa using hb), Array.getElem?_modify, if_pos rfl, h]
  rfl
set_option maxHeartbeats 2000000 in
theorem sortfn_any {M : Nat → Prop} {row : Option Nat} {w0 w : World} {L : List Hp} (K : Hold M row w0 w L) (i : Nat) {g q cap : Nat} {lo : List Sl} (hi : L[i]? = some (.own 51 1 (.slice (some ⟨g, 0, none⟩) q cap) q (slCells lo))) (hv : Ro w (Mut M L) (SlVals lo)) (hn : ∀ s ∈ lo, s.n ≤ 9223372036854775807) (hq : q < 4611686018427387904) :
    Calls Tryz.prog 201 #[.slice (some ⟨g, 0, none⟩) q cap, .func (.func 202) #[] #[]] w fun e w' => e = .returned (.tuple #[]) ∧ ∃ lo' : List Sl, lo'.Perm lo ∧ lo'.Pairwise (fun a b => ¬ rowC b.vs a.vs < 0) ∧ Hold M row w0 w' (L.set i (.own 51 1 (.slice (some ⟨g, 0, none⟩) q cap) q (slCells lo'))) := by
  have ho : w.ownsRow w0.heap.size 51 1 (.slice (some ⟨g, 0, none⟩) q cap) q (slCells lo) := K.get i hi
  have hg : g < w.heap.size := (K.fresh _ (List.mem_of_getElem? hi) g rfl).2
  have hgM : Mut M L g := .inr ⟨_, List.mem_of_getElem? hi, rfl⟩
  have hlen : lo.length = q := by have := ho.1; rw [slCells_len] at this; omega
  have hgood : ∀ s ∈ lo, Ro w (fun b => b = g) (VlsIn s.A s.n s.vs) ∧ s.n ≤ 9223372036854775807 := fun s hs => ⟨(hv.imp fun w2 h2 => h2 s hs).less fun b hb => by rw [hb]; exact hgM, hn s hs⟩
  obtain ⟨dl, hdl⟩ : ∃ dl : List (RowsAt w g), dl.map (·.1) = lo := ⟨lo.attach.map fun s => ⟨s.1, hgood s.1 s.2⟩, by rw [List.map_map]; exact List.attach_map_subtype_val lo⟩
  have hdn : dl.toArray.size = q := by rw [← hlen, ← hdl]; simp
  have hget : ∀ j, j < q → ∃ x : RowsAt w g, dl.toArray[j]! = x ∧ lo[j]? = some x.1 := fun j hj => by
    have hj2 : j < dl.length := by have := hdn; simp at this; omega
    exact ⟨dl[j], by rw [getElem!_pos _ _ (by simpa using hj2)]; rfl, by rw [← hdl, List.getElem?_map, List.getElem?_eq_getElem hj2]; rfl⟩
  have hH : Go.Sort.Holds encRow w g 0 dl.toArray := fun j hj => by
    rw [hdn] at hj
    obtain ⟨x, h1, h2⟩ := hget j hj
    rw [h1, Nat.zero_add]
    exact ⟨(ho.cellAt j (by omega)).trans (slCells_at h2), ho.frozenAt j⟩
  have hcmp : CmpLays1 Tryz.prog 202 #[] encRow (fun x y : RowsAt w g => rowC x.1.vs y.1.vs) g 0 dl.toArray.size w := fun m os dk hs x y => by
    have hx : ∀ z : RowsAt w g, Ro (sortWorld encRow w g 0 m dk os) None_ (VlsIn z.1.A z.1.n z.1.vs) := fun z w2 h1 h2 => z.2.1 w2 (Nat.le_trans (sortWorld_size _ _ _ _ _ _) h1) fun b hb hne => (h2 b (Nat.lt_of_lt_of_le hb (sortWorld_size _ _ _ _ _ _)) (by simp [None_])).trans (sortWorld_heap _ _ _ _ _ _ hb hne)
    exact vcmprows_gr _ x.1.A x.1.n x.1.c x.1.vs y.1.A y.1.n y.1.c y.1.vs (hx x) (hx y) x.2.2 y.2.2
  have hcon := Any.slices_SortFunc Tryz.sortRows encRow (fun _ => rfl) (fun x y : RowsAt w g => rowC x.1.vs y.1.vs) (swoRow fun x : RowsAt w g => x.1.vs) 202 #[] g 0 cap dl.toArray w (enters_of Tryz.func202 (by kernel_rfl) rfl) hcmp hH hg (by omega)
  rw [hdn] at hcon
  change Calls Tryz.prog 201 _ _ _ at hcon
  refine hcon.mono ?_
  rintro e w' ⟨rfl, d', n, os, ⟨p1, p2, p3⟩, hs, rfl⟩
  rw [hdn] at p1
  have hall : d'.extract 0 q = d' := by rw [← p1]; simp
  have hall2 : dl.toArray.extract 0 q = dl.toArray := by rw [← hdn]; simp
  rw [hall, hall2] at p3
  have hl' : (d'.toList.map (·.1)).length = q := by simp [p1]
  have hat : ∀ j, j < q → (d'.toList.map (·.1))[j]? = some ((d'[j]!).1) := fun j hj => by
    have hj2 : j < d'.size := by omega
    rw [List.getElem?_map, getElem!_pos d' j hj2, Array.getElem?_toList, Array.getElem?_eq_getElem hj2]
    rfl
  refine ⟨rfl, d'.toList.map (·.1), ?_, ?_, ?_⟩
  · have := p3.map (·.1)
    rwa [show (dl.toArray.toList.map (·.1)) = lo by simpa using hdl] at this
  · rw [List.pairwise_iff_getElem]
    intro a b ha hb hab
    have ha2 := hat a (by omega)
    have hb2 := hat b (by omega)
    rw [List.getElem?_eq_getElem ha] at ha2
    rw [List.getElem?_eq_getElem hb] at hb2
    injection ha2 with ha2
    injection hb2 with hb2
    have h1 := hs a b (Nat.zero_le _) hab (by omega)
    unfold ltOf at h1
    rw [decide_eq_false_iff_not] at h1
    rw [ha2, hb2]
    exact h1
  · refine K.append (w' := sortWorld encRow w g 0 n d' os) i hi (ys := slCells (d'.toList.map (·.1))) ?_ ⟨rfl, rfl, rfl, sortWorld_size _ _ _ _ _ _, fun b hb hne => sortWorld_heap _ _ _ _ _ _ hb fun e => hne (by rw [e]; rfl)⟩ (.inl rfl) (Nat.lt_of_lt_of_le hg (sortWorld_size _ _ _ _ _ _))
    obtain ⟨hlen2, ⟨hv0, _⟩ | ⟨g', cap', cur, hveq, hbase, hcell, hqc, hcm, hcs, htk⟩⟩ := ho
    · cases hv0
    · injection hveq with e1 e2 e3
      injection e1 with e1
      injection e1 with e1
      subst e1; subst e3
      refine ⟨by rw [slCells_len, hl']; omega, .inr ⟨g, cap, _, rfl, hbase, sortWorld_at _ _ _ _ _ _ hcell, hqc, hcm, ?_, ?_⟩⟩
      · rw [← hcs]
        show (cur.mapIdx _).size = _
        simp
      · refine List.ext_getElem? fun j => ?_
        by_cases hj : j < q
        · rw [List.getElem?_take, if_pos (by omega), slCells_at (hat j hj)]
          have hjc : j < cur.size := by omega
          show ((cur.mapIdx fun k x => if 0 ≤ k ∧ k < 0 + d'.size then encRow d'[k - 0]! else x).toList)[j]? = _
          rw [Array.getElem?_toList, Array.getElem?_mapIdx, Array.getElem?_eq_getElem hjc]
          simp only [Option.map_some, Nat.zero_add, Nat.sub_zero, Nat.zero_le, true_and]
          rw [if_pos (by omega)]
          rfl
        · rw [List.getElem?_eq_none (by rw [List.length_take]; omega), List.getElem?_eq_none (by rw [slCells_len, hl']; omega)]
end Go.Proofs.YtedogodccblfeaaGreatDoor

namespace Go.Proofs.YtedogodccblfeaaGreatDoor
open Go.RowKit
set_option linter.unusedVariables false
set_option linter.unusedSimpArgs false

def SortedV (l : List (List Vl)) : Prop := l.Pairwise fun a b => ¬ rowC b a < 0
def insV (x : List Vl) : List (List Vl) → List (List Vl)
  | [] => [x]
  | y :: l => if rowC x y < 0 then x :: y :: l else y :: insV x l
def sortV (l : List (List Vl)) : List (List Vl) := l.foldr insV []
theorem rowC_le_trans {a b c : List Vl} (h : ¬ rowC b a < 0) (k : ¬ rowC c b < 0) : ¬ rowC c a < 0 := (swoRow (α := List Vl) id).ntrans c b a (by simpa [ltOf] using k) (by simpa [ltOf] using h) |> fun h => by simpa [ltOf] using h
theorem insV_perm (x : List Vl) : ∀ l, (insV x l).Perm (x :: l)
  | [] => List.Perm.refl _
  | y :: l => by
    rw [insV]
    split
    · exact List.Perm.refl _
    · exact ((insV_perm x l).cons y).trans (List.Perm.swap x y l)
theorem insV_sorted (x : List Vl) : ∀ {l}, SortedV l → SortedV (insV x l)
  | [], _ => List.pairwise_singleton _ _
  | y :: l, h => by
    have h2 := h
    unfold SortedV at h2
    rw [List.pairwise_cons] at h2
    rw [insV]
    split
    · rename_i hlt
      unfold SortedV
      rw [List.pairwise_cons]
      refine ⟨fun z hz => ?_, h⟩
      have h3 : ¬ rowC y x < 0 := fun e => by have := (rowC_flip _ _).1 hlt; omega
      rcases List.mem_cons.1 hz with rfl | hz
      · exact h3
      · exact rowC_le_trans h3 (h2.1 z hz)
    · rename_i hlt
      unfold SortedV
      rw [List.pairwise_cons]
      refine ⟨fun z hz => ?_, insV_sorted x h2.2⟩
      rcases List.mem_cons.1 ((insV_perm x l).mem_iff.1 hz) with rfl | hz
      · exact hlt
      · exact h2.1 z hz
theorem sortV_perm : ∀ l, (sortV l).Perm l
  | [] => List.Perm.refl _
  | x :: l => (insV_perm x (sortV l)).trans ((sortV_perm l).cons x)
theorem sortV_sorted : ∀ l, SortedV (sortV l)
  | [] => List.Pairwise.nil
  | x :: l => insV_sorted x (sortV_sorted l)
theorem sorted_uniq : ∀ {l l' : List (List Vl)}, l.Perm l' → SortedV l → SortedV l' → l = l'
  | [], l', h, _, _ => (List.Perm.nil_eq h)
  | a :: l, [], h, _, _ => absurd h.length_eq (by simp)
  | a :: l, b :: l', h, h1, h2 => by
    unfold SortedV at h1 h2
    rw [List.pairwise_cons] at h1 h2
    have hab : a = b := by
      have ha := h.mem_iff.1 (List.mem_cons_self (a := a) (l := l))
      have hb := h.mem_iff.2 (List.mem_cons_self (a := b) (l := l'))
      rcases List.mem_cons.1 ha with e | ha
      · exact e
      · rcases List.mem_cons.1 hb with e | hb
        · exact e.symm
        · have k1 := h2.1 a ha
          have k2 := h1.1 b hb
          have k3 : ¬ 0 < rowC b a := fun h => k1 ((rowC_flip _ _).2 h)
          exact ((rowC_eq b a).1 (by omega)).symm
    subst hab
    rw [sorted_uniq ((List.perm_cons a).1 h) h1.2 h2.2]
theorem sortV_of {l l' : List (List Vl)} (h : l'.Perm l) (hs : SortedV l') : l' = sortV l := sorted_uniq (h.trans (sortV_perm l).symm) hs (sortV_sorted l)
theorem sortV_len (l : List (List Vl)) : (sortV l).length = l.length := (sortV_perm l).length_eq
end Go.Proofs.YtedogodccblfeaaGreatDoor

namespace Go.Proofs.YtedogodccblfeaaGreatDoor
open Go.RowKit
set_option linter.unusedVariables false
set_option linter.unusedSimpArgs false

/-- rows handed back -/
def SlsRet (w : World) (M : Nat → Prop) (L : List (List Vl)) (e : Ending) (w' : World) : Prop := ∃ (A : Option Addr) (n c : Nat) (l : List Sl), e = .returned (.slice A n c) ∧ n ≤ c ∧ c ≤ 9223372036854775807 ∧ Ro w' M (SlsIn A n l) ∧ (∀ s ∈ l, s.ok) ∧ (∀ s ∈ l, s.n ≤ 4398046511104) ∧ l.map Sl.vs = L ∧ Below w.heap.size w w'
set_option maxHeartbeats 4000000 in
set_option maxRecDepth 100000 in
theorem tsort_any (M : Nat → Prop) (w : World) (hM : ∀ b, M b → b < w.heap.size) (A : Option Addr) (n c : Nat) (l : List Sl) (hD : Ro w M (SlsIn A n l)) (hn : n ≤ 4398046511104) (hr : ∀ s ∈ l, s.n ≤ 4398046511104) (hok : ∀ s ∈ l, s.ok) :
    Calls Tryz.prog 157 #[.slice A n c] w fun e w' => SlsRet w M (sortV (l.map Sl.vs)) e w' := by
  have HL := hid hD.now.len
  have HR := hid hr
  have HOK := hid hok
  have K0 := (((Hold.start M w hM).add (hD.less (by simp [Mut]))).add (show Ro w _ (SlVals []) from fun _ _ _ r hr => nomatch hr)).nil 51 1
  clear hD hr hok
  go_enter Tryz.func157, Tryz.ntmps157
  go_wp2_with fail
  go_loopw [3, 8] (fun ov iv wr => ∃ (k cap : Nat) (C : Option Addr) (lo : List Sl), k ≤ n ∧ ov = .slice C k cap ∧ iv = .int .i64 k ∧ Hid (lo.map Sl.vs = (l.map Sl.vs).take k) ∧ Hid (∀ s ∈ lo, s.ok) ∧ Hid (∀ s ∈ lo, s.n ≤ 4398046511104) ∧ Hold M none w wr [.own 51 1 (.slice C k cap) k (slCells lo), .ro (SlVals lo), .ro (SlsIn A n l)]) (fun _ iv _ => n - (intOf iv).toNat)
  case atStart => exact ⟨0, 0, none, [], by omega, rfl, rfl, hid (by simp), hid (fun s hs => nomatch hs), hid (fun s hs => nomatch hs), K0⟩
  case round =>
    clear K0
    obtain ⟨k, cap, C, lo, hk, rfl, rfl, HLO, HOO, HNO, H⟩ := hrel
    by_cases hlt : k < n
    · have hd : decide ((k : Int) < (n : Int)) = true := by simp; omega
      have i0 : (0 : Int) ≤ (k : Int) := by omega
      have i1 : (k : Int) < (n : Int) := by omega
      obtain ⟨x, hx⟩ := get_of HL.out hlt
      obtain ⟨b, o, rfl, hb, c0, _⟩ := (H.ro 2 rfl).now.at_ hx
      have hxv : Ro wr _ (VlsIn x.A x.n x.vs) := (H.ro 2 rfl).imp fun w2 h2 => h2.2 x (List.mem_of_getElem? hx)
      have hxn := HR.out x (List.mem_of_getElem? hx)
      have HXO := hid (HOK.out x (List.mem_of_getElem? hx))
      have HX := hid (show (l.map Sl.vs)[k]? = some x.vs by rw [List.getElem?_map, hx]; rfl)
      clear hx
      go_wp2_with fail
      refine (cloneVls_any _ wr H.mutLt x.A x.n x.c x.vs hxv hxn).mono ?_
      rintro e w2 ⟨zA, zn, zc, rfl, h1, h2, h3, r2, b2⟩
      have K1 := (H.call b2).add (show Ro w2 _ (VlsIn zA zn x.vs) from r2)
      have hzn : x.vs.length = x.n := hxv.now.len
      have HZ := hid (And.intro h1 (And.intro h2 h3))
      clear H hxv b2 r2 h1 h2 h3 c0
      have HCE := hid (show slCells lo ++ (#[Value.slice zA zn zc]).toList = slCells (lo ++ [⟨zA, zn, zc, x.vs⟩]) by simp [slCells, Sl.cells])
      have FA := K1.facts
      simp only [World.size_alloc, World.size_drew, factsL, cellsF, Nat.reduceAdd, List.toList_toArray, List.set_cons_zero, List.set_cons_succ, List.setIfInBounds_toArray, and_true, true_and] at FA
      go_wp2_with (at_builtin; go_must (refine wpList_appH K1 1 rfl Tryz.elSlc #[.slice zA zn zc] rfl (.tmp 12) (.tmp 15) rfl rfl w2.heap.size (by first | rfl | simp) rfl rfl (by intro u hu; simp at hu; rcases hu with rfl; rfl) (by omega) (by omega) ?_); intro g9 cap9 w9 hc9 hm9 KB; rw [HCE.out] at KB; simp only [List.set_cons_zero, List.set_cons_succ] at KB)
      have KC := (KB.swapRo 2 rfl (sls_snoc (r := ⟨zA, zn, zc, x.vs⟩) (KB.ro 2 rfl) (KB.ro 0 rfl))).drop (List.sublist_cons_self _ _)
      have HN := hid (show (lo ++ [(⟨zA, zn, zc, x.vs⟩ : Sl)]).map Sl.vs = (l.map Sl.vs).take (k + 1) by rw [List.map_append, HLO.out, List.take_add_one, HX.out]; rfl)
      have HN2 := hid (okSnoc (P := Sl.ok) (x := (⟨zA, zn, zc, x.vs⟩ : Sl)) HOO.out ⟨HZ.out.2.1, HZ.out.2.2, HXO.out.vs⟩)
      have HN3 := hid (okSnoc (P := fun s : Sl => s.n ≤ 4398046511104) (x := (⟨zA, zn, zc, x.vs⟩ : Sl)) HNO.out (by have := HZ.out.1; show zn ≤ _; omega))
      go_roundw
      case rel => exact ⟨k + 1, cap9, _, _, by omega, by first | rfl | go_num, by first | rfl | go_num, HN, HN2, HN3, KC⟩
      case measure => simp [intOf]; omega
    · obtain rfl : n = k := by omega
      have hd : decide ((n : Int) < (n : Int)) = false := by simp
      have HLV := hid (show lo.map Sl.vs = l.map Sl.vs by
        have h := HLO.out
        rwa [List.take_of_length_le (by rw [List.length_map, HL.out]; exact Nat.le_refl _)] at h)
      clear HLO
      obtain ⟨hc1, hc2, _⟩ := own_caps (H.get 0 rfl)
      rcases own_addr (H.get 0 rfl) with ⟨rfl, rfl, rfl⟩ | ⟨g, rfl, hg⟩
      · have hcon := AnyF.slices_SortFunc_none (P := Tryz.prog) (ρ := Tryz.sortRows_ren) { Tryz.sortRows with } none 0 (.func (.func 202) #[] #[])
        have HCN := hid (show ∀ W, Calls Tryz.prog 201 #[.slice none 0 0, .func (.func 202) #[] #[]] W fun e w' => e = .returned (.tuple #[]) ∧ w' = W from hcon)
        clear hcon
        have HEM := hid (show sortV (l.map Sl.vs) = lo.map Sl.vs by
          have h0 : l = [] := List.eq_nil_of_length_eq_zero HL.out
          have h1 := HLV.out
          rw [h0] at h1 ⊢
          rw [h1]; rfl)
        have KS := H.sealRow 0 rfl
        simp only [List.set_cons_zero] at KS
        have r1 := (KS.roOut 0 rfl).and (KS.roOut 1 rfl)
        go_wp2_with fail
        refine (HCN.out _).mono ?_
        rintro e w2 ⟨rfl, rfl⟩
        go_wp2_with fail
        go_ret
        exact ⟨none, 0, 0, lo, rfl, by omega, by omega, r1, HOO.out, HNO.out, HEM.out.symm, KS.below⟩
      · have hsf := sortfn_any H 0 rfl (H.ro 1 rfl) (fun s hs => by have := HNO.out s hs; omega) (by omega)
        have HSF := hid hsf
        clear hsf
        go_wp2_with fail
        refine HSF.out.mono ?_
        rintro e w2 ⟨rfl, lo', hp, hs, K2⟩
        simp only [List.set_cons_zero] at K2
        have HEM := hid (show lo'.map Sl.vs = sortV (l.map Sl.vs) by
          rw [← HLV.out]
          exact sortV_of (hp.map _) (List.pairwise_map.2 (hs.imp fun h => by omega)))
        have HP := hid hp
        clear H hp hs
        have KV := K2.add (show Ro w2 _ (SlVals lo') from (K2.ro 1 rfl).imp fun w3 h3 s hs => h3 s (HP.out.mem_iff.1 hs))
        have KS := KV.sealRow 1 rfl
        simp only [List.set_cons_zero, List.set_cons_succ] at KS
        have r1 := (KS.roOut 1 rfl).and (KS.roOut 0 rfl)
        go_wp2_with fail
        go_ret
        exact ⟨_, n, cap, lo', rfl, hc1, hc2, r1, fun s hs => HOO.out s (HP.out.mem_iff.1 hs), fun s hs => HNO.out s (HP.out.mem_iff.1 hs), HEM.out, KS.below⟩
end Go.Proofs.YtedogodccblfeaaGreatDoor

namespace Go.Proofs.YtedogodccblfeaaGreatDoor
open Go.RowKit
set_option linter.unusedVariables false
set_option linter.unusedSimpArgs false

section
variable {M : Nat → Prop} {row : Option Nat} {w0 w : World} {L : List Hp} {P : Program}
theorem Hold.setRow_ (K : Hold M row w0 w L) (i : Nat) {e : TypeId} {n cap g : Nat} {xs : List Value} (hi : L[i]? = some (.own e 1 (.slice (some ⟨g, 0, none⟩) n cap) n xs)) {cur : Array Value} {t : TypeId} (hg : w.heap[g]? = some (.cells cur t (0, 0))) (d : Nat) (cs : List Value) (hd : d + cs.length ≤ n) :
    Hold M row w0 (w.setRow g (cur.toList.take d ++ (cs ++ cur.toList.drop (d + cs.length))).toArray) (L.set i (.own e 1 (.slice (some ⟨g, 0, none⟩) n cap) n (xs.take d ++ (cs ++ xs.drop (d + cs.length))))) := by
  have hkm := List.mem_of_getElem? hi
  have hs : w.ownsRow w0.heap.size e 1 (.slice (some ⟨g, 0, none⟩) n cap) n xs := K.sat _ hkm
  obtain ⟨hl, ⟨h', _⟩ | ⟨g', cap', cur', h', hb, hg', hnc, hcm, hcs, htake⟩⟩ := hs
  · cases h'
  · simp only [Value.slice.injEq, Option.some.injEq, Addr.mk.injEq, and_true, true_and] at h'
    obtain ⟨rfl, rfl⟩ := h'
    rw [hg] at hg'
    injection hg' with hg'
    injection hg' with e1 e2
    subst e1 e2
    rw [Nat.mul_one] at hl htake hcs
    have hcl : cur.toList.length = cap := by simpa using hcs
    refine K.turn i hi (by simp [World.setRow]) ⟨rfl, rfl, rfl⟩ (fun b _ hne => setRow_other w g b _ fun e => hne (by rw [e]; rfl)) (fun b hf => ?_) ?_ (fun T hT => by cases hT)
    · have : some g = some b := hf
      injection this with this
      subst this
      exact ⟨.inl rfl, by simpa [World.setRow] using Blk.lt (t := t) (cs := cur) hg⟩
    · show World.ownsRow _ _ t 1 (.slice (some ⟨g, 0, none⟩) n cap) n _
      refine ⟨by simp; omega, .inr ⟨g, cap, _, rfl, hb, setRow_heap w g _ _ _ _ hg, hnc, hcm, by simp; omega, ?_⟩⟩
      rw [Nat.mul_one, List.toList_toArray]
      have e1 : cur.toList.take d = xs.take d := by rw [← htake, List.take_take, Nat.min_eq_left (by omega)]
      have e2 : cur.toList.drop (d + cs.length) = xs.drop (d + cs.length) ++ cur.toList.drop n := by
        have h := List.drop_append (l₁ := cur.toList.take n) (l₂ := cur.toList.drop n) (i := d + cs.length)
        rw [List.take_append_drop, htake] at h
        rw [h, show d + cs.length - xs.length = 0 by omega, List.drop_zero]
      rw [e1, e2, ← List.append_assoc cs, ← List.append_assoc (xs.take d), List.take_append_of_le_length (by simp; omega), List.take_of_length_le (by simp; omega)]
theorem wpList_copyH (K : Hold M row w0 w L) (i : Nat) {e : TypeId} {n cap g : Nat} {xs : List Value} (hi : L[i]? = some (.own e 1 (.slice (some ⟨g, 0, none⟩) n cap) n xs)) {ops : Array Oper} {rest : List Oper} {o : Oper} {a : Act} {Q : Exit → Act → World → Prop} (hgd : o.guard = none) (dO sO : Operand) (dT sT : TypeId)
    (ho : o.op = .call { callee := .builtin .copy, args := #[dO, sO], argTypes := #[dT, sT] }) (elem : TypeId) (hu : P.underlying dT = some (.slice elem)) (hsz : (P.info? elem).map (·.size) = some 1)
    (d s dLen dCap sLen sCap m : Nat) (hd : a.eval dO = .slice (some ⟨g, d, none⟩) dLen dCap) (hs : a.eval sO = .slice (some ⟨g, s, none⟩) sLen sCap) (hm : m = Nat.min sLen dLen) (hsm : s + m ≤ n) (hdm : d + m ≤ n) (h1 : ∀ u ∈ xs, u.oneCell' = true)
    (h : ∀ w', Hold M row w0 w' (L.set i (.own e 1 (.slice (some ⟨g, 0, none⟩) n cap) n (xs.take d ++ ((xs.drop s).take m ++ xs.drop (d + m))))) → wpList P ops Q rest (a.put o.dst (goInt m)) w') : wpList P ops Q (o :: rest) a w := by
  have hown : w.ownsRow w0.heap.size e 1 (.slice (some ⟨g, 0, none⟩) n cap) n xs := K.sat _ (List.mem_of_getElem? hi)
  have hcell := hown.cellAt
  obtain ⟨hl, ⟨h', _⟩ | ⟨g', cap', cur, h', hb, hg, hnc, hcm, hcs, htake⟩⟩ := hown
  · cases h'
  · simp only [Value.slice.injEq, Option.some.injEq, Addr.mk.injEq, and_true, true_and] at h'
    obtain ⟨rfl, rfl⟩ := h'
    rw [Nat.mul_one] at hl
    have hml : ((xs.drop s).take m).length = m := by simp; omega
    have hw := h _ (by have h2 := K.setRow_ i hi hg d ((xs.drop s).take m) (by rw [hml]; exact hdm); rw [hml] at h2; exact h2)
    refine wpList_copy_own hgd dO sO dT sT ho elem hu hsz g d dLen dCap ⟨g, s, none⟩ sLen sCap hd hs cur e hg ((xs.drop s).take m) (by rw [hml]; exact hm) (fun j v hv => ?_) ?_ (fun v hv => h1 v (List.mem_of_mem_drop (List.mem_of_mem_take hv))) (by rw [hml]; exact hw)
    · have hj : j < m := by have := (List.getElem?_eq_some_iff.1 hv).1; omega
      rw [List.getElem?_take, if_pos hj, List.getElem?_drop] at hv
      rw [← hv]
      have h3 := hcell (s + j) (by omega)
      rw [Go.WideShapes.add_plain]
      exact h3
    · have : cur.size = cap := by simpa using hcs
      rw [hml]; omega
end
/-- a list with one inserted at place j -/
def putAt {α : Type} (l : List α) (j : Nat) (x : α) : List α := l.take j ++ x :: l.drop j
theorem putAt_perm {α : Type} (l : List α) (j : Nat) (x : α) : (putAt l j x).Perm (x :: l) := by
  have h := List.perm_middle (a := x) (l₁ := l.take j) (l₂ := l.drop j)
  rwa [List.take_append_drop] at h
theorem putAt_mem {α : Type} {l : List α} {j : Nat} {x y : α} : y ∈ putAt l j x ↔ y = x ∨ y ∈ l := by rw [(putAt_perm l j x).mem_iff, List.mem_cons]
theorem putAt_map {α β : Type} (f : α → β) (l : List α) (j : Nat) (x : α) : (putAt l j x).map f = putAt (l.map f) j (f x) := by simp [putAt, List.map_take, List.map_drop]
/-- shifting up by one and storing -/
theorem shift_put {α : Type} (l : List α) (z x : α) (j : Nat) (hj : j ≤ l.length) :
    (((l ++ [z]).take (j + 1) ++ (((l ++ [z]).drop j).take (l.length - j) ++ (l ++ [z]).drop (j + 1 + (l.length - j)))).set j x) = putAt l j x := by
  have e1 : ((l ++ [z]).drop j).take (l.length - j) = l.drop j := by
    rw [List.drop_append_of_le_length hj, List.take_append_of_le_length (by simp), List.take_of_length_le (by simp)]
  have e2 : (l ++ [z]).drop (j + 1 + (l.length - j)) = [] := List.drop_of_length_le (by simp; omega)
  rw [e1, e2, List.append_nil]
  have e3 : ((l ++ [z]).take (j + 1)) = l.take j ++ ((l ++ [z]).drop j).take 1 := by
    rw [List.take_add, List.take_append_of_le_length hj]
  rw [e3]
  have e4 : (((l ++ [z]).drop j).take 1).length = 1 := by simp; omega
  obtain ⟨y, hy⟩ : ∃ y, ((l ++ [z]).drop j).take 1 = [y] := List.length_eq_one_iff.1 e4
  rw [hy, List.append_assoc, List.set_append_right _ _ (by rw [List.length_take]; exact Nat.min_le_left _ _), List.length_take, Nat.min_eq_left hj, Nat.sub_self]
  rfl
theorem push_put {α : Type} (l : List α) (z x : α) : (l ++ [z]).set l.length x = putAt l l.length x := by
  rw [List.set_append_right _ _ (Nat.le_refl _), Nat.sub_self, putAt, List.take_length, List.drop_length]; rfl
theorem putAt_slCells (l : List Sl) (j : Nat) (z : Sl) : slCells (putAt l j z) = putAt (slCells l) j (.slice z.A z.n z.c) := by
  have h : ∀ l : List Sl, slCells l = l.map fun s => .slice s.A s.n s.c := fun l => by
    induction l with
    | nil => rfl
    | cons a l ih => simp [slCells, Sl.cells] at ih ⊢; simpa using ih
  rw [h, h, putAt_map]
theorem sorted_insert {L : List (List Vl)} {x : List Vl} {j : Nat} (hs : SortedV L) (h1 : ∀ i b, j ≤ i → L[i]? = some b → 0 < rowC b x) (h2 : j = 0 ∨ ∃ a, L[j - 1]? = some a ∧ ¬ 0 < rowC a x) : SortedV (putAt L j x) := by
  have hs' := hs
  unfold SortedV at hs hs' ⊢
  unfold putAt
  rw [← List.take_append_drop j L, List.pairwise_append] at hs
  rw [List.pairwise_append, List.pairwise_cons]
  refine ⟨hs.1, ⟨fun b hb => ?_, hs.2.1⟩, fun a ha b hb => ?_⟩
  · obtain ⟨i, hi⟩ := List.mem_iff_getElem?.1 hb
    rw [List.getElem?_drop] at hi
    have := h1 (j + i) b (by omega) hi
    omega
  · rcases List.mem_cons.1 hb with rfl | hb
    · rcases h2 with rfl | ⟨c, hc, hcx⟩
      · simp at ha
      · have hxc : ¬ rowC b c < 0 := fun h => hcx ((rowC_flip _ _).1 h)
        obtain ⟨i, hi⟩ := List.mem_iff_getElem?.1 ha
        have hij : i < j := by have := (List.getElem?_eq_some_iff.1 hi).1; simp at this; omega
        rw [List.getElem?_take, if_pos hij] at hi
        by_cases e : i = j - 1
        · subst e; rw [hc] at hi; injection hi with hi; subst hi; exact hxc
        · have hca : ¬ rowC c a < 0 := by
            rw [List.pairwise_iff_getElem] at hs'
            obtain ⟨l1, g1⟩ := List.getElem?_eq_some_iff.1 hi
            obtain ⟨l2, g2⟩ := List.getElem?_eq_some_iff.1 hc
            have := hs' i (j - 1) l1 l2 (by omega)
            rwa [g1, g2] at this
          exact rowC_le_trans hca hxc
    · exact hs.2.2 a ha b hb
end Go.Proofs.YtedogodccblfeaaGreatDoor

namespace Go.Proofs.YtedogodccblfeaaGreatDoor
open Go.RowKit
set_option linter.unusedVariables false
set_option linter.unusedSimpArgs false

theorem cb_eq : ∀ x y : List UInt8, Lib.compareBytes x y = if Op.bytesLess x y then -1 else if x == y then 0 else 1
  | [], [] => by simp [Lib.compareBytes, Op.bytesLess]
  | [], b :: y => by simp [Lib.compareBytes, Op.bytesLess]
  | a :: x, [] => by simp [Lib.compareBytes, Op.bytesLess]
  | a :: x, b :: y => by
    simp only [Lib.compareBytes, Op.bytesLess]
    by_cases h1 : a < b
    · simp [h1]
    · by_cases h2 : b < a
      · have hne : a ≠ b := by
          rintro rfl
          exact h1 h2
        simp [h1, h2, hne]
      · have he : a = b := by
          have h1' : ¬ a.toNat < b.toNat := h1
          have h2' : ¬ b.toNat < a.toNat := h2
          exact UInt8.toNat_inj.1 (by omega)
        subst he
        have := cb_eq x y
        simp [h1, this]
theorem toList_data (s : ByteArray) : s.toList = s.data.toList := by
  rw [ByteArray.toList_eq]
theorem scompare_any (a b : ByteArray) (w : World) : Calls Tryz.prog 186 #[.string a, .string b] w fun e w' => e = .returned (.int .i64 (cmpS a b)) ∧ w = w' := by
  have h := Any.strings_Compare Tryz.lays106 a b w
  change Calls Tryz.prog 186 _ _ _ at h
  refine h.mono ?_
  rintro e w' ⟨rfl, rfl⟩
  exact ⟨by rw [cb_eq]; unfold cmpS; rw [toList_data, toList_data], rfl⟩
set_option maxHeartbeats 1000000 in
theorem rcompare_ex (x y : Vl) (w : World) : Calls Tryz.prog 123 #[.agg #[.int .i64 x.k, .int .i64 x.i, .string x.s], .agg #[.int .i64 y.k, .int .i64 y.i, .string y.s]] w fun e w' => e = .returned (.int .i64 (cmpVl x y)) ∧ Below w.heap.size w w' := by
  obtain ⟨xk, xi, xs⟩ := x
  obtain ⟨yk, yi, ys⟩ := y
  dsimp only
  have K0 := ((Hold.begin_ w).alloc_cst #[.int .i64 xk, .int .i64 xi, .string xs] 117).alloc_cst #[.int .i64 yk, .int .i64 yi, .string ys] 117
  rw [World.size_alloc] at K0
  have F0 := K0.facts
  simp only [World.size_alloc, World.size_drew, factsL, cellsF, Nat.reduceAdd, List.toList_toArray, List.set_cons_zero, List.set_cons_succ, List.setIfInBounds_toArray, and_true, true_and] at F0
  by_cases hk : xk = yk
  · subst hk
    have hb : (xk != xk) = false := by simp
    by_cases hi : xi = yi
    · subst hi
      have hb2 : (xi != xi) = false := by simp
      go_enter Tryz.func123, Tryz.ntmps123
      go_wp2_with fail
      have HN := hid (show cmpVl ⟨xk, xi, xs⟩ ⟨xk, xi, ys⟩ = cmpS xs ys by
        have h1 := (linI.eq xk xk).2 rfl
        have h2 := (linI.eq xi xi).2 rfl
        by_cases h3 : cmpS xs ys = 0 <;> simp [cmpVl, cmpV, firstNZ, h1, h2, h3])
      refine (scompare_any xs ys _).mono ?_
      rintro e w1 ⟨rfl, rfl⟩
      go_wp2_with fail
      go_ret
      exact ⟨by rw [HN.out] <;> rfl, K0.below⟩
    · have hb2 : (xi != yi) = true := by simpa using hi
      have HI := hid hi
      rcases Int.lt_or_le xi yi with hl | hl
      · have hd : decide (xi < yi) = true := by simpa using hl
        have HN := hid (show cmpVl ⟨xk, xi, xs⟩ ⟨xk, yi, ys⟩ = -1 by
          have h1 := (linI.eq xk xk).2 rfl
          have h2 : cmpI xi yi = -1 := by rcases cmpI_cases xi yi with h | h | h <;> omega
          simp [cmpVl, cmpV, firstNZ, h2, h1])
        clear hi hl
        go_enter Tryz.func123, Tryz.ntmps123
        go_wp2_with fail
        go_ret
        exact ⟨by rw [HN.out] <;> rfl, K0.below⟩
      · have hd : decide (xi < yi) = false := by rw [decide_eq_false_iff_not]; omega
        have HN := hid (show cmpVl ⟨xk, xi, xs⟩ ⟨xk, yi, ys⟩ = 1 by
          have h1 := (linI.eq xk xk).2 rfl
          have h2 : cmpI xi yi = 1 := by rcases cmpI_cases xi yi with h | h | h <;> omega
          simp [cmpVl, cmpV, firstNZ, h2, h1])
        clear hi hl
        go_enter Tryz.func123, Tryz.ntmps123
        go_wp2_with fail
        go_ret
        exact ⟨by rw [HN.out] <;> rfl, K0.below⟩
  · have hb : (xk != yk) = true := by simpa using hk
    have HI := hid hk
    rcases Int.lt_or_le xk yk with hl | hl
    · have hd : decide (xk < yk) = true := by simpa using hl
      have HN := hid (show cmpVl ⟨xk, xi, xs⟩ ⟨yk, yi, ys⟩ = -1 by
        have h2 : cmpI xk yk = -1 := by rcases cmpI_cases xk yk with h | h | h <;> omega
        simp [cmpVl, cmpV, firstNZ, h2])
      clear hk hl
      go_enter Tryz.func123, Tryz.ntmps123
      go_wp2_with fail
      go_ret
      exact ⟨by rw [HN.out] <;> rfl, K0.below⟩
    · have hd : decide (xk < yk) = false := by rw [decide_eq_false_iff_not]; omega
      have HN := hid (show cmpVl ⟨xk, xi, xs⟩ ⟨yk, yi, ys⟩ = 1 by
        have h2 : cmpI xk yk = 1 := by rcases cmpI_cases xk yk with h | h | h <;> omega
        simp [cmpVl, cmpV, firstNZ, h2])
      clear hk hl
      go_enter Tryz.func123, Tryz.ntmps123
      go_wp2_with fail
      go_ret
      exact ⟨by rw [HN.out] <;> rfl, K0.below⟩
set_option maxHeartbeats 4000000 in
set_option maxRecDepth 100000 in
theorem rcmprows_ex (M : Nat → Prop) (w : World) (hM : ∀ b, M b → b < w.heap.size) (A : Option Addr) (n c : Nat) (xs : List Vl) (B : Option Addr) (m d : Nat) (ys : List Vl) (hD : Ro w M (VlsIn A n xs)) (hE : Ro w M (VlsIn B m ys)) (hn : n ≤ 9223372036854775807) (hm : m ≤ 9223372036854775807) :
    Calls Tryz.prog 62 #[.slice A n c, .slice B m d] w fun e w' => e = .returned (.int .i64 (rowC xs ys)) ∧ Below w.heap.size w w' := by
  have HX := hid hD.now.len
  have HY := hid hE.now.len
  have K0 := ((Hold.start M w hM).add (hE.less (by simp [Mut]))).add (hD.less (by simp [Mut, Hp.foot]))
  clear hD hE
  go_enter Tryz.func62, Tryz.ntmps62
  go_wp2_with fail
  go_loopw [5] (fun iv wr => ∃ k : Nat, k ≤ n ∧ k ≤ m ∧ iv = .int .i64 k ∧ Hid (rowC xs ys = rowC (xs.drop k) (ys.drop k)) ∧ Hold M none w wr [.ro (VlsIn A n xs), .ro (VlsIn B m ys)]) (fun iv _ => n - (intOf iv).toNat)
  case atStart => exact ⟨0, by omega, by omega, rfl, hid rfl, K0⟩
  case round =>
    clear K0
    obtain ⟨k, hk, hkm, rfl, HT, H⟩ := hrel
    by_cases hlt : k < n
    · have hd : decide ((k : Int) < (n : Int)) = true := by simp; omega
      by_cases hltm : k < m
      · have hdm : decide ((k : Int) < (m : Int)) = true := by simp; omega
        have k0 : (0 : Int) ≤ (k : Int) := by omega
        have k1 : (k : Int) < (n : Int) := by omega
        have k2 : (k : Int) < (m : Int) := by omega
        obtain ⟨x, hx⟩ := get_of HX.out hlt
        obtain ⟨y, hy⟩ := get_of HY.out hltm
        obtain ⟨b1, o1, rfl, r1⟩ := (H.ro 0 rfl).vlsAt hx
        obtain ⟨b2, o2, rfl, r2⟩ := (H.ro 1 rfl).vlsAt hy
        have HXX := hid hx
        have HYY := hid hy
        clear hx hy
        have K1 := (H.add r1).add (r2.less (mut_none rfl))
        clear r1 r2
        obtain ⟨KL, hKL, K2⟩ := K1.name
        clear K1
        have HF : Hid (∀ wv, Hold M none w wv KL → (b2 < wv.heap.size ∧ wv.cell? ⟨b2, o2 + k * 3, none⟩ = some (.int .i64 y.k) ∧ wv.cell? ⟨b2, o2 + k * 3 + 1, none⟩ = some (.int .i64 y.i) ∧ wv.cell? ⟨b2, o2 + k * 3 + 2, none⟩ = some (.string y.s)) ∧ b1 < wv.heap.size ∧ wv.cell? ⟨b1, o1 + k * 3, none⟩ = some (.int .i64 x.k) ∧ wv.cell? ⟨b1, o1 + k * 3 + 1, none⟩ = some (.int .i64 x.i) ∧ wv.cell? ⟨b1, o1 + k * 3 + 2, none⟩ = some (.string x.s)) := hid fun wv HC => by
          rw [hKL] at HC
          exact ⟨(HC.ro 0 rfl).now, (HC.ro 1 rfl).now⟩
        have HKL := hid hKL
        clear hKL
        go_wp2_with fail
        refine wp_region_any (by kernel_rfl) ?_
        refine wpAny_hold 10 41 (KL) (spL [(27, fun u _ => u = .int .i64 (cmpVl x y))]) (by kernel_rfl) (by kernel_rfl) (by kernel_rfl) rfl ?_ (K2.drew) ?_
        · exact stays_cons (fun _ _ _ _ h => h) (stays_nil _)
        simp only [List.take_succ_cons, List.take_zero, List.drop_succ_cons, List.drop_zero, Act.put, List.getElem_toArray, List.getElem_cons_zero, List.getElem_cons_succ, List.setIfInBounds_toArray, List.set_cons_succ, List.set_cons_zero]
        refine dw_val rfl rfl rfl ?_; apply Exists.intro; refine ⟨fun wv HC => ?_, ?_⟩
        ·  go_simp <;> rfl
        simp only [Act.put, List.setIfInBounds_toArray, List.set_cons_succ, List.set_cons_zero]
        refine dw_val rfl rfl rfl ?_; apply Exists.intro; refine ⟨fun wv HC => ?_, ?_⟩
        ·  go_simp <;> rfl
        simp only [Act.put, List.setIfInBounds_toArray, List.set_cons_succ, List.set_cons_zero]
        refine dw_val rfl rfl rfl ?_; apply Exists.intro; refine ⟨fun wv HC => ?_, ?_⟩
        ·  go_simp <;> rfl
        simp only [Act.put, List.setIfInBounds_toArray, List.set_cons_succ, List.set_cons_zero]
        refine dw_val rfl rfl rfl ?_; apply Exists.intro; refine ⟨fun wv HC => ?_, ?_⟩
        · obtain ⟨⟨f0, f1, f2, f3⟩, f4, f5, f6, f7⟩ := HF.out _ HC; go_simp <;> rfl
        simp only [Act.put, List.setIfInBounds_toArray, List.set_cons_succ, List.set_cons_zero]
        refine dw_val rfl rfl rfl ?_; apply Exists.intro; refine ⟨fun wv HC => ?_, ?_⟩
        ·  go_simp <;> rfl
        simp only [Act.put, List.setIfInBounds_toArray, List.set_cons_succ, List.set_cons_zero]
        refine dw_val rfl rfl rfl ?_; apply Exists.intro; refine ⟨fun wv HC => ?_, ?_⟩
        ·  go_simp <;> rfl
        simp only [Act.put, List.setIfInBounds_toArray, List.set_cons_succ, List.set_cons_zero]
        refine dw_val rfl rfl rfl ?_; apply Exists.intro; refine ⟨fun wv HC => ?_, ?_⟩
        ·  go_simp <;> rfl
        simp only [Act.put, List.setIfInBounds_toArray, List.set_cons_succ, List.set_cons_zero]
        refine dw_val rfl rfl rfl ?_; apply Exists.intro; refine ⟨fun wv HC => ?_, ?_⟩
        · obtain ⟨⟨f0, f1, f2, f3⟩, f4, f5, f6, f7⟩ := HF.out _ HC; go_simp <;> rfl
        simp only [Act.put, List.setIfInBounds_toArray, List.set_cons_succ, List.set_cons_zero]
        refine dw_callR 27 (fun u _ => u = .int .i64 (cmpVl x y)) (f := 123) (args := #[.agg #[.int .i64 x.k, .int .i64 x.i, .string x.s], .agg #[.int .i64 y.k, .int .i64 y.i, .string y.s]]) rfl rfl rfl rfl (fun wv => ?_) (fun wv HC hrm hD => ?_) ?_
        · go_simp <;> rfl
        · refine (rcompare_ex x y wv).mono ?_
          rintro e w5 ⟨rfl, b5⟩
          exact ⟨_, rfl, rfl, HC.call b5, RM.below b5⟩
        rintro u wx HCx rfl
        clear HCx
        obtain ⟨r, hr⟩ : ∃ r, r = cmpVl x y := ⟨_, rfl⟩
        rw [← hr]
        have HR := hid hr
        clear hr
        simp only [Act.put, List.setIfInBounds_toArray, List.set_cons_succ, List.set_cons_zero]
        refine dw_val rfl rfl rfl ?_; apply Exists.intro; refine ⟨fun wv HC => ?_, ?_⟩
        ·  go_simp <;> rfl
        simp only [Act.put, List.setIfInBounds_toArray, List.set_cons_succ, List.set_cons_zero]
        refine rel_nil ?_
        rintro wx2 HX2
        rintro _hrm _HG
        rw [HKL.out] at HX2
        clear _hrm _HG
        have K3 := HX2.drop (List.Sublist.cons _ (List.sublist_cons_self _ _))
        by_cases hr0 : r = 0
        · have hb : (r != 0) = false := by simp [hr0]
          have HN := hid (show rowC xs ys = rowC (xs.drop (k + 1)) (ys.drop (k + 1)) by rw [HT.out]; exact rowC_go HXX.out HYY.out (by rw [← HR.out, hr0]))
          clear hr0
          go_wp2_with fail
          go_roundw
          case rel => exact ⟨k + 1, by omega, by omega, by go_num, HN, K3⟩
          case measure => simp [intOf]; omega
        · have hb : (r != 0) = true := by simpa using hr0
          have HN := hid (show rowC xs ys = r by rw [HT.out, rowC_stop HXX.out HYY.out (by rw [← HR.out]; exact hr0), HR.out])
          clear hr0
          go_wp2_with fail
          go_ret
          exact ⟨by rw [HN.out] <;> rfl, K3.below⟩
      · obtain rfl : k = m := by omega
        have hdm : decide ((k : Int) < (k : Int)) = false := by simp
        have hd2 : decide ((n : Int) < (k : Int)) = false := by rw [decide_eq_false_iff_not]; omega
        have hd3 : decide ((k : Int) < (n : Int)) = true := by simp; omega
        have hd4 : decide ((n : Int) > (k : Int)) = true := by simp; omega
        have HN := hid (show rowC xs ys = 1 by rw [HT.out, rowC_end HX.out HY.out (show k = min n k by omega)]; rcases cmpI_cases (n : Int) (k : Int) with h | h | h <;> omega)
        go_wp2_with fail
        go_ret
        exact ⟨by rw [HN.out] <;> rfl, H.below⟩
    · obtain rfl : k = n := by omega
      have hd : decide ((k : Int) < (k : Int)) = false := by simp
      by_cases hkm2 : k = m
      · subst hkm2
        have hd4 : decide ((k : Int) > (k : Int)) = false := by simp
        have HN := hid (show rowC xs ys = 0 by rw [HT.out, rowC_end HX.out HY.out (show k = min k k by omega)]; rcases cmpI_cases (k : Int) (k : Int) with h | h | h <;> omega)
        go_wp2_with fail
        go_ret
        exact ⟨by rw [HN.out] <;> rfl, H.below⟩
      · have hd2 : decide ((k : Int) < (m : Int)) = true := by simp; omega
        have HN := hid (show rowC xs ys = -1 by rw [HT.out, rowC_end HX.out HY.out (show k = min k m by omega)]; rcases cmpI_cases (k : Int) (m : Int) with h | h | h <;> omega)
        have hkm3 : k < m := by omega
        clear hkm2
        go_wp2_with fail
        go_ret
        exact ⟨by rw [HN.out] <;> rfl, H.below⟩
end Go.Proofs.YtedogodccblfeaaGreatDoor

namespace Go.Proofs.YtedogodccblfeaaGreatDoor
open Go.RowKit
set_option linter.unusedVariables false
set_option linter.unusedSimpArgs false

theorem slNil_one (l : List Sl) : ∀ u ∈ slCells l ++ [Value.slice none 0 0], u.oneCell' = true := fun u hu => by
  rcases List.mem_append.1 hu with h | h
  · obtain ⟨s, hs, hu'⟩ := List.mem_flatMap.1 h
    simp [Sl.cells] at hu'
    subst hu'
    rfl
  · simp at h; subst h; rfl
theorem min_shift1 {k j : Nat} : k - j = Nat.min (k + 1 - j) (k - j) := (Nat.min_eq_right (by omega)).symm
theorem perm_snoc {a b : List (List Vl)} {j : Nat} {x : List Vl} (h : a.Perm b) : (putAt a j x).Perm (b ++ [x]) := (putAt_perm a j x).trans ((h.cons x).trans (List.perm_append_singleton x b).symm)
theorem slVals_put {lo : List Sl} {j : Nat} {z : Sl} {w : World} (h : SlVals lo w) (k : VlsIn z.A z.n z.vs w) : SlVals (putAt lo j z) w := fun r hr => by
  rcases putAt_mem.1 hr with rfl | hr
  · exact k
  · exact h r hr
theorem putAt_all {α : Type} {P : α → Prop} {lo : List α} {j : Nat} {z : α} (h : ∀ s ∈ lo, P s) (k : P z) : ∀ s ∈ putAt lo j z, P s := fun r hr => by
  rcases putAt_mem.1 hr with rfl | hr
  · exact k
  · exact h r hr
theorem sorted_put {L : List (List Vl)} {x : List Vl} {j : Nat} (hs : SortedV L) (h1 : ∀ i b, j ≤ i → L[i]? = some b → 0 < rowC b x) (h2 : j = 0 ∨ ∃ a, L[j - 1]? = some a ∧ rowC a x ≤ 0) : SortedV (putAt L j x) :=
  sorted_insert hs h1 (h2.imp id fun ⟨a, e, h⟩ => ⟨a, e, by omega⟩)
theorem cells_shift {lo : List Sl} {k j : Nat} {A : Option Addr} {n c : Nat} {vs : List Vl} (hl : lo.length = k) (hj : j ≤ k) :
    (((slCells lo ++ [Value.slice none 0 0]).take (j + 1) ++ (((slCells lo ++ [Value.slice none 0 0]).drop j).take (k - j) ++ (slCells lo ++ [Value.slice none 0 0]).drop (j + 1 + (k - j)))).set j (.slice A n c)) = slCells (putAt lo j ⟨A, n, c, vs⟩) := by
  have h := shift_put (slCells lo) (Value.slice none 0 0) (.slice A n c) j (by rw [slCells_len]; omega)
  rw [slCells_len, hl] at h
  rw [putAt_slCells, h]
theorem cells_push {lo : List Sl} {j : Nat} {A : Option Addr} {n c : Nat} {vs : List Vl} (hl : lo.length = j) : (slCells lo ++ [Value.slice none 0 0]).set j (.slice A n c) = slCells (putAt lo j ⟨A, n, c, vs⟩) := by
  have h := push_put (slCells lo) (Value.slice none 0 0) (.slice A n c)
  rw [slCells_len, hl] at h
  rw [putAt_slCells, h]
set_option maxHeartbeats 4000000 in
set_option maxRecDepth 100000 in
theorem rsort_any (M : Nat → Prop) (w : World) (hM : ∀ b, M b → b < w.heap.size) (A : Option Addr) (n c : Nat) (l : List Sl) (hD : Ro w M (SlsIn A n l)) (hn : n ≤ 4398046511104) (hr : ∀ s ∈ l, s.n ≤ 4398046511104) (hok : ∀ s ∈ l, s.ok) :
    Calls Tryz.prog 158 #[.slice A n c] w fun e w' => SlsRet w M (sortV (l.map Sl.vs)) e w' := by
  have HL := hid hD.now.len
  have HR := hid hr
  have HOK := hid hok
  have K0 := (((Hold.start M w hM).add (hD.less (by simp [Mut]))).add (show Ro w _ (SlVals []) from fun _ _ _ r hr => nomatch hr)).nil 51 1
  clear hD hr hok
  go_enter Tryz.func158, Tryz.ntmps158
  go_wp2_with fail
  go_loopw [3, 9] (fun ov iv wr => ∃ (k cap : Nat) (C : Option Addr) (lo : List Sl), k ≤ n ∧ ov = .slice C k cap ∧ iv = .int .i64 k ∧ Hid ((lo.map Sl.vs).Perm ((l.map Sl.vs).take k)) ∧ Hid (SortedV (lo.map Sl.vs)) ∧ Hid (∀ s ∈ lo, s.ok) ∧ Hid (∀ s ∈ lo, s.n ≤ 4398046511104) ∧ Hold M none w wr [.own 51 1 (.slice C k cap) k (slCells lo), .ro (SlVals lo), .ro (SlsIn A n l)]) (fun _ iv _ => n - (intOf iv).toNat)
  case atStart => exact ⟨0, 0, none, [], by omega, rfl, rfl, hid (by simp), hid List.Pairwise.nil, hid (fun s hs => nomatch hs), hid (fun s hs => nomatch hs), K0⟩
  case round =>
    clear K0
    obtain ⟨k, cap, C, lo, hk, rfl, rfl, HLO, HSO, HOO, HNO, H⟩ := hrel
    have HLK := hid (show lo.length = k by have := (H.get 0 rfl).1; rw [slCells_len] at this; omega)
    by_cases hlt : k < n
    · have hd : decide ((k : Int) < (n : Int)) = true := by simp; omega
      have i0 : (0 : Int) ≤ (k : Int) := by omega
      have i1 : (k : Int) < (n : Int) := by omega
      obtain ⟨x, hx⟩ := get_of HL.out hlt
      obtain ⟨b, o, rfl, hb, c0, _⟩ := (H.ro 2 rfl).now.at_ hx
      have HXM := hid (List.mem_of_getElem? hx)
      have HXN := hid (HR.out x HXM.out)
      have HXL := hid (show x.vs.length = x.n from ((H.ro 2 rfl).now.2 x HXM.out).len)
      have HXO := hid (HOK.out x HXM.out)
      have HX := hid (show (l.map Sl.vs)[k]? = some x.vs by rw [List.getElem?_map, hx]; rfl)
      clear hx
      go_wp2_with fail
      clear c0
      go_loopw [6] (fun av wq => ∃ (j : Nat), j ≤ k ∧ av = .int .i64 j ∧ Hid (∀ i b, j ≤ i → (lo.map Sl.vs)[i]? = some b → 0 < rowC b x.vs) ∧ Hold M none w wq [.own 51 1 (.slice C k cap) k (slCells lo), .ro (SlVals lo), .ro (SlsIn (some ⟨b, o, none⟩) n l)]) (fun av _ => (intOf av).toNat)
      case atStart => exact ⟨k, by omega, rfl, hid (fun i b hi hb => by have h := (List.getElem?_eq_some_iff.1 hb).1; rw [List.length_map, HLK.out] at h; omega), H⟩
      case round =>
        clear H
        obtain ⟨j, hj, rfl, HBG, H⟩ := hrel
        by_cases h0 : 0 < j
        · obtain ⟨i, rfl⟩ : ∃ i, j = i + 1 := ⟨j - 1, by omega⟩
          have z0 : decide (((i + 1 : Nat) : Int) > 0) = true := by rw [decide_eq_true_iff]; omega
          have hiw : IntKind.i64.wrap (((i + 1 : Nat) : Int) - 1) = (i : Int) := by rw [IntWalk.i64_in _ (by omega)]; omega
          have i2 : (0 : Int) ≤ (i : Int) := by omega
          have i3 : (i : Int) < (k : Int) := by omega
          obtain ⟨s, hs⟩ := get_of HLK.out (show i < k by omega)
          obtain ⟨g, rfl⟩ : ∃ g, C = some ⟨g, 0, none⟩ := by
            rcases own_addr (H.get 0 rfl) with ⟨_, h, _⟩ | ⟨g, h, _⟩
            · omega
            · exact ⟨g, h⟩
          have c1 : wr.cell? ⟨g, i, none⟩ = some (.slice s.A s.n s.c) := ((H.get 0 rfl).cellAt i (by omega)).trans (slCells_at hs)
          have c2 : g < wr.heap.size := (H.fresh _ (List.mem_of_getElem? (i := 0) rfl) g rfl).2
          have HSN := hid (HNO.out s (List.mem_of_getElem? hs))
          have HSS := hid (show (lo.map Sl.vs)[i]? = some s.vs by simp [hs])
          have hcmp := rcmprows_ex _ wr H.mutLt s.A s.n s.c s.vs x.A x.n x.c x.vs ((H.ro 1 rfl).imp fun w2 h2 => h2 s (List.mem_of_getElem? hs)) ((H.ro 2 rfl).imp fun w2 h2 => h2.2 x HXM.out) (by have := HSN.out; omega) (by have := HXN.out; omega)
          obtain ⟨r, hr0⟩ : ∃ r, r = rowC s.vs x.vs := ⟨_, rfl⟩
          rw [← hr0] at hcmp
          have HRR := hid hr0
          have HCM := hid hcmp
          clear hr0 hcmp hs
          by_cases hlt2 : 0 < r
          · have z2 : decide (0 < r) = true := by rw [decide_eq_true_iff]; exact hlt2
            have HBG2 := hid (show ∀ i' b, i ≤ i' → (lo.map Sl.vs)[i']? = some b → 0 < rowC b x.vs from fun i' b hi' hb' => by
              by_cases e : i' = i
              · subst e; rw [HSS.out] at hb'; injection hb' with hb'; subst hb'; rw [← HRR.out]; exact hlt2
              · exact HBG.out i' b (by omega) hb')
            clear hlt2
            go_wp2_with fail
            refine HCM.out.mono ?_
            rintro e w5 ⟨rfl, b5⟩
            have H2 := H.call b5
            clear H b5 c1 c2
            go_wp2_with fail
            go_roundw
            case rel => exact ⟨i, by omega, by first | rfl | (simp <;> omega), HBG2, H2⟩
            case measure => simp [intOf] <;> omega
          · have z2 : decide (0 < r) = false := by rw [decide_eq_false_iff_not]; exact hlt2
            have HNL := hid hlt2
            clear hlt2
            go_wp2_with fail
            refine HCM.out.mono ?_
            rintro e w5 ⟨rfl, b5⟩
            have H2 := H.call b5
            clear H b5 c1 c2
            obtain ⟨j, hjd⟩ : ∃ j, j = i + 1 := ⟨_, rfl⟩
            have hjj : ((i + 1 : Nat) : Int) = (j : Int) := by omega
            rw [show ((i : Int) + 1) = (j : Int) by omega]
            rw [← hjd] at HBG hj
            have HJD := hid hjd
            clear z0 hiw i2 i3 hjj hd i0 i1 hjd
            have HPL := hid (show j = 0 ∨ ∃ a, (lo.map Sl.vs)[j - 1]? = some a ∧ rowC a x.vs ≤ 0 from .inr ⟨s.vs, by rw [HJD.out]; exact HSS.out, by rw [← HRR.out]; have := HNL.out; omega⟩)
            have hlk : lo.length = k := HLK.out
            go_wp2_with (at_builtin; go_must (refine wpList_appH H2 0 rfl Tryz.elSlc #[.slice none 0 0] rfl (.tmp 29) (.tmp 30) rfl rfl _ (by first | rfl | simp) rfl rfl (by intro u hu; simp at hu; rcases hu with rfl; rfl) (by omega) (by omega) ?_); intro g9 cap9 w9 hc9 hm9 KB)
            simp only [List.set_cons_zero, List.set_cons_succ] at KB
            obtain ⟨KL, hKL, KN⟩ := KB.name
            have HKL := hid hKL
            clear hKL KB H2
            have hj0 : (0 : Int) ≤ (j : Int) := by omega
            have hj1 : (j : Int) ≤ (k : Int) + 1 := by omega
            have hj2 : (0 : Int) ≤ (j : Int) + 1 := by omega
            have hj3 : (j : Int) + 1 ≤ (k : Int) + 1 := by omega
            have hjw : IntKind.i64.wrap ((j : Int) + 1) = (j : Int) + 1 := IntWalk.i64_in _ (by omega)
            have hjt : ((j : Int) + 1).toNat = j + 1 := by omega
            have hjc : ¬ cap9 = j := by omega
            by_cases hjk : j < k
            · have hcp : ¬ cap9 = j + 1 := by omega
              refine wp_region_any (by kernel_rfl) ?_
              refine wpAny_hold 7 47 (KL) (spL []) (by kernel_rfl) (by kernel_rfl) (by kernel_rfl) rfl ?_ (KN.drew) ?_
              · exact stays_nil _
              simp only [List.take_succ_cons, List.take_zero, List.drop_succ_cons, List.drop_zero, Act.put, List.getElem_toArray, List.getElem_cons_zero, List.getElem_cons_succ, List.setIfInBounds_toArray, List.set_cons_succ, List.set_cons_zero]
              refine dw_val rfl rfl rfl ?_; apply Exists.intro; refine ⟨fun wv HC => ?_, ?_⟩
              ·  go_simp <;> rfl
              simp only [Act.put, List.setIfInBounds_toArray, List.set_cons_succ, List.set_cons_zero]
              refine dw_val rfl rfl rfl ?_; apply Exists.intro; refine ⟨fun wv HC => ?_, ?_⟩
              ·  go_simp <;> rfl
              simp only [Act.put, List.setIfInBounds_toArray, List.set_cons_succ, List.set_cons_zero]
              refine dw_val rfl rfl rfl ?_; apply Exists.intro; refine ⟨fun wv HC => ?_, ?_⟩
              ·  go_simp <;> rfl
              simp only [Act.put, List.setIfInBounds_toArray, List.set_cons_succ, List.set_cons_zero]
              refine dw_val rfl rfl rfl ?_; apply Exists.intro; refine ⟨fun wv HC => ?_, ?_⟩
              ·  go_simp <;> rfl
              simp only [Act.put, List.setIfInBounds_toArray, List.set_cons_succ, List.set_cons_zero]
              refine dw_val rfl rfl rfl ?_; apply Exists.intro; refine ⟨fun wv HC => ?_, ?_⟩
              ·  go_simp <;> rfl
              simp only [Act.put, List.setIfInBounds_toArray, List.set_cons_succ, List.set_cons_zero]
              refine dw_val rfl rfl rfl ?_; apply Exists.intro; refine ⟨fun wv HC => ?_, ?_⟩
              ·  go_simp <;> rfl
              simp only [Act.put, List.setIfInBounds_toArray, List.set_cons_succ, List.set_cons_zero]
              refine dw_val rfl rfl rfl ?_; apply Exists.intro; refine ⟨fun wv HC => ?_, ?_⟩
              ·  go_simp <;> rfl
              simp only [Act.put, List.setIfInBounds_toArray, List.set_cons_succ, List.set_cons_zero]
              refine rel_nil ?_
              rintro wx9 HX9
              rintro _hrm _HG
              clear _hrm _HG
              rw [HKL.out] at HX9
              clear HKL KN
              refine wpList_copyH HX9 0 rfl rfl (.tmp 35) (.tmp 38) _ _ rfl 51 Tryz.underlying74 (by kernel_rfl) (j + 1) j _ _ _ _ (k - j) rfl rfl (show k - j = Nat.min (k + 1 - j) (k - j) from min_shift1) (by omega) (by omega) (slNil_one lo) ?_
              intro w10 KD
              simp only [List.set_cons_zero, List.set_cons_succ] at KD
              go_wp2_with fail
              refine (copyVls_any _ _ KD.mutLt x.A x.n x.c x.vs ((KD.ro 2 rfl).imp fun w2 h2 => h2.2 x HXM.out) (by have := HXN.out; omega)).mono ?_
              rintro e w11 ⟨zA, zn, zc, rfl, z1, z2, z3, rz, bz⟩
              have KE := (KD.call bz).add (show Ro w11 _ (VlsIn zA zn x.vs) from rz)
              have HZ := hid (And.intro z1 (And.intro z2 z3))
              clear KD bz rz z1 z2 z3
              obtain ⟨uj, huj⟩ : ∃ u, w11.cell? ⟨g9, j, none⟩ = some u := ⟨_, ((KE.get 1 rfl).cellAt j (by omega)).trans (List.getElem?_eq_getElem (by have := (KE.get 1 rfl).1; omega))⟩
              have hfj : w11.frozen? ⟨g9, j, none⟩ = false := (KE.get 1 rfl).frozenAt j
              have hgj : g9 < w11.heap.size := (KE.fresh _ (List.mem_of_getElem? (i := 1) rfl) g9 rfl).2
              have KF := KE.put_ 1 rfl j (.slice zA zn zc)
              simp only [List.set_cons_zero, List.set_cons_succ] at KF
              rw [cells_shift (vs := x.vs) HLK.out (by omega)] at KF
              have KG := (KF.swapRo 2 rfl (((KF.ro 2 rfl).and (KF.ro 0 rfl)).imp fun w2 h => slVals_put (j := j) (z := ⟨zA, zn, zc, x.vs⟩) h.1 h.2)).drop (List.sublist_cons_self _ _)
              simp only [List.set_cons_zero, List.set_cons_succ] at KG
              clear KE KF
              have HP1 := hid (show ((putAt lo j ⟨zA, zn, zc, x.vs⟩).map Sl.vs).Perm ((l.map Sl.vs).take (k + 1)) by rw [putAt_map, List.take_add_one, HX.out]; exact perm_snoc HLO.out)
              have HP2 := hid (show SortedV ((putAt lo j ⟨zA, zn, zc, x.vs⟩).map Sl.vs) by rw [putAt_map]; exact sorted_put HSO.out HBG.out HPL.out)
              have HP3 := hid (putAt_all (P := Sl.ok) (j := j) (z := (⟨zA, zn, zc, x.vs⟩ : Sl)) HOO.out ⟨HZ.out.2.1, HZ.out.2.2, HXO.out.vs⟩)
              have HP4 := hid (putAt_all (P := fun s : Sl => s.n ≤ 4398046511104) (j := j) (z := (⟨zA, zn, zc, x.vs⟩ : Sl)) HNO.out (by have h1 := HZ.out.1; have h2 := HXN.out; have h3 := HXL.out; show zn ≤ _; omega))
              go_wp2_with fail
              go_roundw
              case rel => exact ⟨k + 1, _, some ⟨g9, 0, none⟩, _, by omega, by first | rfl | go_num, by first | rfl | go_num, HP1, HP2, HP3, HP4, KG⟩
              case measure => simp [intOf]; omega
            · obtain rfl : j = k := by omega
              by_cases hcp : cap9 = j + 1
              · subst hcp
                refine wp_region_any (by kernel_rfl) ?_
                refine wpAny_hold 7 47 (KL) (spL []) (by kernel_rfl) (by kernel_rfl) (by kernel_rfl) rfl ?_ (KN.drew) ?_
                · exact stays_nil _
                simp only [List.take_succ_cons, List.take_zero, List.drop_succ_cons, List.drop_zero, Act.put, List.getElem_toArray, List.getElem_cons_zero, List.getElem_cons_succ, List.setIfInBounds_toArray, List.set_cons_succ, List.set_cons_zero]
                refine dw_val rfl rfl rfl ?_; apply Exists.intro; refine ⟨fun wv HC => ?_, ?_⟩
                ·  go_simp <;> rfl
                simp only [Act.put, List.setIfInBounds_toArray, List.set_cons_succ, List.set_cons_zero]
                refine dw_val rfl rfl rfl ?_; apply Exists.intro; refine ⟨fun wv HC => ?_, ?_⟩
                ·  go_simp <;> rfl
                simp only [Act.put, List.setIfInBounds_toArray, List.set_cons_succ, List.set_cons_zero]
                refine dw_val rfl rfl rfl ?_; apply Exists.intro; refine ⟨fun wv HC => ?_, ?_⟩
                ·  go_simp <;> rfl
                simp only [Act.put, List.setIfInBounds_toArray, List.set_cons_succ, List.set_cons_zero]
                refine dw_val rfl rfl rfl ?_; apply Exists.intro; refine ⟨fun wv HC => ?_, ?_⟩
                ·  go_simp <;> rfl
                simp only [Act.put, List.setIfInBounds_toArray, List.set_cons_succ, List.set_cons_zero]
                refine dw_val rfl rfl rfl ?_; apply Exists.intro; refine ⟨fun wv HC => ?_, ?_⟩
                ·  go_simp <;> rfl
                simp only [Act.put, List.setIfInBounds_toArray, List.set_cons_succ, List.set_cons_zero]
                refine dw_val rfl rfl rfl ?_; apply Exists.intro; refine ⟨fun wv HC => ?_, ?_⟩
                ·  go_simp <;> rfl
                simp only [Act.put, List.setIfInBounds_toArray, List.set_cons_succ, List.set_cons_zero]
                refine dw_val rfl rfl rfl ?_; apply Exists.intro; refine ⟨fun wv HC => ?_, ?_⟩
                ·  go_simp <;> rfl
                simp only [Act.put, List.setIfInBounds_toArray, List.set_cons_succ, List.set_cons_zero]
                refine rel_nil ?_
                rintro wx9 HX9
                rintro _hrm _HG
                clear _hrm _HG
                rw [HKL.out] at HX9
                clear HKL KN
                refine wpList_copy_nothing rfl (.tmp 35) (.tmp 38) _ _ rfl 51 Tryz.underlying74 (by kernel_rfl) _ _ _ _ _ _ rfl rfl (by simp) ?_
                go_wp2_with fail
                have KD := HX9
                refine (copyVls_any _ _ KD.mutLt x.A x.n x.c x.vs ((KD.ro 2 rfl).imp fun w2 h2 => h2.2 x HXM.out) (by have := HXN.out; omega)).mono ?_
                rintro e w11 ⟨zA, zn, zc, rfl, z1, z2, z3, rz, bz⟩
                have KE := (KD.call bz).add (show Ro w11 _ (VlsIn zA zn x.vs) from rz)
                have HZ := hid (And.intro z1 (And.intro z2 z3))
                clear KD bz rz z1 z2 z3
                obtain ⟨uj, huj⟩ : ∃ u, w11.cell? ⟨g9, j, none⟩ = some u := ⟨_, ((KE.get 1 rfl).cellAt j (by omega)).trans (List.getElem?_eq_getElem (by have := (KE.get 1 rfl).1; omega))⟩
                have hfj : w11.frozen? ⟨g9, j, none⟩ = false := (KE.get 1 rfl).frozenAt j
                have hgj : g9 < w11.heap.size := (KE.fresh _ (List.mem_of_getElem? (i := 1) rfl) g9 rfl).2
                have KF := KE.put_ 1 rfl j (.slice zA zn zc)
                simp only [List.set_cons_zero, List.set_cons_succ] at KF
                rw [cells_push (vs := x.vs) HLK.out] at KF
                have KG := (KF.swapRo 2 rfl (((KF.ro 2 rfl).and (KF.ro 0 rfl)).imp fun w2 h => slVals_put (j := j) (z := ⟨zA, zn, zc, x.vs⟩) h.1 h.2)).drop (List.sublist_cons_self _ _)
                simp only [List.set_cons_zero, List.set_cons_succ] at KG
                clear KE KF
                have HP1 := hid (show ((putAt lo j ⟨zA, zn, zc, x.vs⟩).map Sl.vs).Perm ((l.map Sl.vs).take (j + 1)) by rw [putAt_map, List.take_add_one, HX.out]; exact perm_snoc HLO.out)
                have HP2 := hid (show SortedV ((putAt lo j ⟨zA, zn, zc, x.vs⟩).map Sl.vs) by rw [putAt_map]; exact sorted_put HSO.out HBG.out HPL.out)
                have HP3 := hid (putAt_all (P := Sl.ok) (j := j) (z := (⟨zA, zn, zc, x.vs⟩ : Sl)) HOO.out ⟨HZ.out.2.1, HZ.out.2.2, HXO.out.vs⟩)
                have HP4 := hid (putAt_all (P := fun s : Sl => s.n ≤ 4398046511104) (j := j) (z := (⟨zA, zn, zc, x.vs⟩ : Sl)) HNO.out (by have h1 := HZ.out.1; have h2 := HXN.out; have h3 := HXL.out; show zn ≤ _; omega))
                go_wp2_with fail
                go_roundw
                case rel => exact ⟨j + 1, _, some ⟨g9, 0, none⟩, _, by omega, by first | rfl | go_num, by first | rfl | go_num, HP1, HP2, HP3, HP4, KG⟩
                case measure => simp [intOf]; omega
              · skip
                refine wp_region_any (by kernel_rfl) ?_
                refine wpAny_hold 7 47 (KL) (spL []) (by kernel_rfl) (by kernel_rfl) (by kernel_rfl) rfl ?_ (KN.drew) ?_
                · exact stays_nil _
                simp only [List.take_succ_cons, List.take_zero, List.drop_succ_cons, List.drop_zero, Act.put, List.getElem_toArray, List.getElem_cons_zero, List.getElem_cons_succ, List.setIfInBounds_toArray, List.set_cons_succ, List.set_cons_zero]
                refine dw_val rfl rfl rfl ?_; apply Exists.intro; refine ⟨fun wv HC => ?_, ?_⟩
                ·  go_simp <;> rfl
                simp only [Act.put, List.setIfInBounds_toArray, List.set_cons_succ, List.set_cons_zero]
                refine dw_val rfl rfl rfl ?_; apply Exists.intro; refine ⟨fun wv HC => ?_, ?_⟩
                ·  go_simp <;> rfl
                simp only [Act.put, List.setIfInBounds_toArray, List.set_cons_succ, List.set_cons_zero]
                refine dw_val rfl rfl rfl ?_; apply Exists.intro; refine ⟨fun wv HC => ?_, ?_⟩
                ·  go_simp <;> rfl
                simp only [Act.put, List.setIfInBounds_toArray, List.set_cons_succ, List.set_cons_zero]
                refine dw_val rfl rfl rfl ?_; apply Exists.intro; refine ⟨fun wv HC => ?_, ?_⟩
                ·  go_simp <;> rfl
                simp only [Act.put, List.setIfInBounds_toArray, List.set_cons_succ, List.set_cons_zero]
                refine dw_val rfl rfl rfl ?_; apply Exists.intro; refine ⟨fun wv HC => ?_, ?_⟩
                ·  go_simp <;> rfl
                simp only [Act.put, List.setIfInBounds_toArray, List.set_cons_succ, List.set_cons_zero]
                refine dw_val rfl rfl rfl ?_; apply Exists.intro; refine ⟨fun wv HC => ?_, ?_⟩
                ·  go_simp <;> rfl
                simp only [Act.put, List.setIfInBounds_toArray, List.set_cons_succ, List.set_cons_zero]
                refine dw_val rfl rfl rfl ?_; apply Exists.intro; refine ⟨fun wv HC => ?_, ?_⟩
                ·  go_simp <;> rfl
                simp only [Act.put, List.setIfInBounds_toArray, List.set_cons_succ, List.set_cons_zero]
                refine rel_nil ?_
                rintro wx9 HX9
                rintro _hrm _HG
                clear _hrm _HG
                rw [HKL.out] at HX9
                clear HKL KN
                refine wpList_copy_nothing rfl (.tmp 35) (.tmp 38) _ _ rfl 51 Tryz.underlying74 (by kernel_rfl) _ _ _ _ _ _ rfl rfl (by simp) ?_
                go_wp2_with fail
                have KD := HX9
                refine (copyVls_any _ _ KD.mutLt x.A x.n x.c x.vs ((KD.ro 2 rfl).imp fun w2 h2 => h2.2 x HXM.out) (by have := HXN.out; omega)).mono ?_
                rintro e w11 ⟨zA, zn, zc, rfl, z1, z2, z3, rz, bz⟩
                have KE := (KD.call bz).add (show Ro w11 _ (VlsIn zA zn x.vs) from rz)
                have HZ := hid (And.intro z1 (And.intro z2 z3))
                clear KD bz rz z1 z2 z3
                obtain ⟨uj, huj⟩ : ∃ u, w11.cell? ⟨g9, j, none⟩ = some u := ⟨_, ((KE.get 1 rfl).cellAt j (by omega)).trans (List.getElem?_eq_getElem (by have := (KE.get 1 rfl).1; omega))⟩
                have hfj : w11.frozen? ⟨g9, j, none⟩ = false := (KE.get 1 rfl).frozenAt j
                have hgj : g9 < w11.heap.size := (KE.fresh _ (List.mem_of_getElem? (i := 1) rfl) g9 rfl).2
                have KF := KE.put_ 1 rfl j (.slice zA zn zc)
                simp only [List.set_cons_zero, List.set_cons_succ] at KF
                rw [cells_push (vs := x.vs) HLK.out] at KF
                have KG := (KF.swapRo 2 rfl (((KF.ro 2 rfl).and (KF.ro 0 rfl)).imp fun w2 h => slVals_put (j := j) (z := ⟨zA, zn, zc, x.vs⟩) h.1 h.2)).drop (List.sublist_cons_self _ _)
                simp only [List.set_cons_zero, List.set_cons_succ] at KG
                clear KE KF
                have HP1 := hid (show ((putAt lo j ⟨zA, zn, zc, x.vs⟩).map Sl.vs).Perm ((l.map Sl.vs).take (j + 1)) by rw [putAt_map, List.take_add_one, HX.out]; exact perm_snoc HLO.out)
                have HP2 := hid (show SortedV ((putAt lo j ⟨zA, zn, zc, x.vs⟩).map Sl.vs) by rw [putAt_map]; exact sorted_put HSO.out HBG.out HPL.out)
                have HP3 := hid (putAt_all (P := Sl.ok) (j := j) (z := (⟨zA, zn, zc, x.vs⟩ : Sl)) HOO.out ⟨HZ.out.2.1, HZ.out.2.2, HXO.out.vs⟩)
                have HP4 := hid (putAt_all (P := fun s : Sl => s.n ≤ 4398046511104) (j := j) (z := (⟨zA, zn, zc, x.vs⟩ : Sl)) HNO.out (by have h1 := HZ.out.1; have h2 := HXN.out; have h3 := HXL.out; show zn ≤ _; omega))
                go_wp2_with fail
                go_roundw
                case rel => exact ⟨j + 1, _, some ⟨g9, 0, none⟩, _, by omega, by first | rfl | go_num, by first | rfl | go_num, HP1, HP2, HP3, HP4, KG⟩
                case measure => simp [intOf]; omega
        · have z0 : decide ((j : Int) > 0) = false := by rw [decide_eq_false_iff_not]; omega
          clear hd i0 i1
          have HPL := hid (show j = 0 ∨ ∃ a, (lo.map Sl.vs)[j - 1]? = some a ∧ rowC a x.vs ≤ 0 from .inl (by omega))
          have hlk : lo.length = k := HLK.out
          go_wp2_with (at_builtin; go_must (refine wpList_appH H 0 rfl Tryz.elSlc #[.slice none 0 0] rfl (.tmp 29) (.tmp 30) rfl rfl _ (by first | rfl | simp) rfl rfl (by intro u hu; simp at hu; rcases hu with rfl; rfl) (by omega) (by omega) ?_); intro g9 cap9 w9 hc9 hm9 KB)
          simp only [List.set_cons_zero, List.set_cons_succ] at KB
          obtain ⟨KL, hKL, KN⟩ := KB.name
          have HKL := hid hKL
          clear hKL KB H
          have hj0 : (0 : Int) ≤ (j : Int) := by omega
          have hj1 : (j : Int) ≤ (k : Int) + 1 := by omega
          have hj2 : (0 : Int) ≤ (j : Int) + 1 := by omega
          have hj3 : (j : Int) + 1 ≤ (k : Int) + 1 := by omega
          have hjw : IntKind.i64.wrap ((j : Int) + 1) = (j : Int) + 1 := IntWalk.i64_in _ (by omega)
          have hjt : ((j : Int) + 1).toNat = j + 1 := by omega
          have hjc : ¬ cap9 = j := by omega
          by_cases hjk : j < k
          · have hcp : ¬ cap9 = j + 1 := by omega
            refine wp_region_any (by kernel_rfl) ?_
            refine wpAny_hold 7 47 (KL) (spL []) (by kernel_rfl) (by kernel_rfl) (by kernel_rfl) rfl ?_ (KN.drew) ?_
            · exact stays_nil _
            simp only [List.take_succ_cons, List.take_zero, List.drop_succ_cons, List.drop_zero, Act.put, List.getElem_toArray, List.getElem_cons_zero, List.getElem_cons_succ, List.setIfInBounds_toArray, List.set_cons_succ, List.set_cons_zero]
            refine dw_val rfl rfl rfl ?_; apply Exists.intro; refine ⟨fun wv HC => ?_, ?_⟩
            ·  go_simp <;> rfl
            simp only [Act.put, List.setIfInBounds_toArray, List.set_cons_succ, List.set_cons_zero]
            refine dw_val rfl rfl rfl ?_; apply Exists.intro; refine ⟨fun wv HC => ?_, ?_⟩
            ·  go_simp <;> rfl
            simp only [Act.put, List.setIfInBounds_toArray, List.set_cons_succ, List.set_cons_zero]
            refine dw_val rfl rfl rfl ?_; apply Exists.intro; refine ⟨fun wv HC => ?_, ?_⟩
            ·  go_simp <;> rfl
            simp only [Act.put, List.setIfInBounds_toArray, List.set_cons_succ, List.set_cons_zero]
            refine dw_val rfl rfl rfl ?_; apply Exists.intro; refine ⟨fun wv HC => ?_, ?_⟩
            ·  go_simp <;> rfl
            simp only [Act.put, List.setIfInBounds_toArray, List.set_cons_succ, List.set_cons_zero]
            refine dw_val rfl rfl rfl ?_; apply Exists.intro; refine ⟨fun wv HC => ?_, ?_⟩
            ·  go_simp <;> rfl
            simp only [Act.put, List.setIfInBounds_toArray, List.set_cons_succ, List.set_cons_zero]
            refine dw_val rfl rfl rfl ?_; apply Exists.intro; refine ⟨fun wv HC => ?_, ?_⟩
            ·  go_simp <;> rfl
            simp only [Act.put, List.setIfInBounds_toArray, List.set_cons_succ, List.set_cons_zero]
            refine dw_val rfl rfl rfl ?_; apply Exists.intro; refine ⟨fun wv HC => ?_, ?_⟩
            ·  go_simp <;> rfl
            simp only [Act.put, List.setIfInBounds_toArray, List.set_cons_succ, List.set_cons_zero]
            refine rel_nil ?_
            rintro wx9 HX9
            rintro _hrm _HG
            clear _hrm _HG
            rw [HKL.out] at HX9
            clear HKL KN
            refine wpList_copyH HX9 0 rfl rfl (.tmp 35) (.tmp 38) _ _ rfl 51 Tryz.underlying74 (by kernel_rfl) (j + 1) j _ _ _ _ (k - j) rfl rfl (show k - j = Nat.min (k + 1 - j) (k - j) from min_shift1) (by omega) (by omega) (slNil_one lo) ?_
            intro w10 KD
            simp only [List.set_cons_zero, List.set_cons_succ] at KD
            go_wp2_with fail
            refine (copyVls_any _ _ KD.mutLt x.A x.n x.c x.vs ((KD.ro 2 rfl).imp fun w2 h2 => h2.2 x HXM.out) (by have := HXN.out; omega)).mono ?_
            rintro e w11 ⟨zA, zn, zc, rfl, z1, z2, z3, rz, bz⟩
            have KE := (KD.call bz).add (show Ro w11 _ (VlsIn zA zn x.vs) from rz)
            have HZ := hid (And.intro z1 (And.intro z2 z3))
            clear KD bz rz z1 z2 z3
            obtain ⟨uj, huj⟩ : ∃ u, w11.cell? ⟨g9, j, none⟩ = some u := ⟨_, ((KE.get 1 rfl).cellAt j (by omega)).trans (List.getElem?_eq_getElem (by have := (KE.get 1 rfl).1; omega))⟩
            have hfj : w11.frozen? ⟨g9, j, none⟩ = false := (KE.get 1 rfl).frozenAt j
            have hgj : g9 < w11.heap.size := (KE.fresh _ (List.mem_of_getElem? (i := 1) rfl) g9 rfl).2
            have KF := KE.put_ 1 rfl j (.slice zA zn zc)
            simp only [List.set_cons_zero, List.set_cons_succ] at KF
            rw [cells_shift (vs := x.vs) HLK.out (by omega)] at KF
            have KG := (KF.swapRo 2 rfl (((KF.ro 2 rfl).and (KF.ro 0 rfl)).imp fun w2 h => slVals_put (j := j) (z := ⟨zA, zn, zc, x.vs⟩) h.1 h.2)).drop (List.sublist_cons_self _ _)
            simp only [List.set_cons_zero, List.set_cons_succ] at KG
            clear KE KF
            have HP1 := hid (show ((putAt lo j ⟨zA, zn, zc, x.vs⟩).map Sl.vs).Perm ((l.map Sl.vs).take (k + 1)) by rw [putAt_map, List.take_add_one, HX.out]; exact perm_snoc HLO.out)
            have HP2 := hid (show SortedV ((putAt lo j ⟨zA, zn, zc, x.vs⟩).map Sl.vs) by rw [putAt_map]; exact sorted_put HSO.out HBG.out HPL.out)
            have HP3 := hid (putAt_all (P := Sl.ok) (j := j) (z := (⟨zA, zn, zc, x.vs⟩ : Sl)) HOO.out ⟨HZ.out.2.1, HZ.out.2.2, HXO.out.vs⟩)
            have HP4 := hid (putAt_all (P := fun s : Sl => s.n ≤ 4398046511104) (j := j) (z := (⟨zA, zn, zc, x.vs⟩ : Sl)) HNO.out (by have h1 := HZ.out.1; have h2 := HXN.out; have h3 := HXL.out; show zn ≤ _; omega))
            go_wp2_with fail
            go_roundw
            case rel => exact ⟨k + 1, _, some ⟨g9, 0, none⟩, _, by omega, by first | rfl | go_num, by first | rfl | go_num, HP1, HP2, HP3, HP4, KG⟩
            case measure => simp [intOf]; omega
          · obtain rfl : j = k := by omega
            by_cases hcp : cap9 = j + 1
            · subst hcp
              refine wp_region_any (by kernel_rfl) ?_
              refine wpAny_hold 7 47 (KL) (spL []) (by kernel_rfl) (by kernel_rfl) (by kernel_rfl) rfl ?_ (KN.drew) ?_
              · exact stays_nil _
              simp only [List.take_succ_cons, List.take_zero, List.drop_succ_cons, List.drop_zero, Act.put, List.getElem_toArray, List.getElem_cons_zero, List.getElem_cons_succ, List.setIfInBounds_toArray, List.set_cons_succ, List.set_cons_zero]
              refine dw_val rfl rfl rfl ?_; apply Exists.intro; refine ⟨fun wv HC => ?_, ?_⟩
              ·  go_simp <;> rfl
              simp only [Act.put, List.setIfInBounds_toArray, List.set_cons_succ, List.set_cons_zero]
              refine dw_val rfl rfl rfl ?_; apply Exists.intro; refine ⟨fun wv HC => ?_, ?_⟩
              ·  go_simp <;> rfl
              simp only [Act.put, List.setIfInBounds_toArray, List.set_cons_succ, List.set_cons_zero]
              refine dw_val rfl rfl rfl ?_; apply Exists.intro; refine ⟨fun wv HC => ?_, ?_⟩
              ·  go_simp <;> rfl
              simp only [Act.put, List.setIfInBounds_toArray, List.set_cons_succ, List.set_cons_zero]
              refine dw_val rfl rfl rfl ?_; apply Exists.intro; refine ⟨fun wv HC => ?_, ?_⟩
              ·  go_simp <;> rfl
              simp only [Act.put, List.setIfInBounds_toArray, List.set_cons_succ, List.set_cons_zero]
              refine dw_val rfl rfl rfl ?_; apply Exists.intro; refine ⟨fun wv HC => ?_, ?_⟩
              ·  go_simp <;> rfl
              simp only [Act.put, List.setIfInBounds_toArray, List.set_cons_succ, List.set_cons_zero]
              refine dw_val rfl rfl rfl ?_; apply Exists.intro; refine ⟨fun wv HC => ?_, ?_⟩
              ·  go_simp <;> rfl
              simp only [Act.put, List.setIfInBounds_toArray, List.set_cons_succ, List.set_cons_zero]
              refine dw_val rfl rfl rfl ?_; apply Exists.intro; refine ⟨fun wv HC => ?_, ?_⟩
              ·  go_simp <;> rfl
              simp only [Act.put, List.setIfInBounds_toArray, List.set_cons_succ, List.set_cons_zero]
              refine rel_nil ?_
              rintro wx9 HX9
              rintro _hrm _HG
              clear _hrm _HG
              rw [HKL.out] at HX9
              clear HKL KN
              refine wpList_copy_nothing rfl (.tmp 35) (.tmp 38) _ _ rfl 51 Tryz.underlying74 (by kernel_rfl) _ _ _ _ _ _ rfl rfl (by simp) ?_
              go_wp2_with fail
              have KD := HX9
              refine (copyVls_any _ _ KD.mutLt x.A x.n x.c x.vs ((KD.ro 2 rfl).imp fun w2 h2 => h2.2 x HXM.out) (by have := HXN.out; omega)).mono ?_
              rintro e w11 ⟨zA, zn, zc, rfl, z1, z2, z3, rz, bz⟩
              have KE := (KD.call bz).add (show Ro w11 _ (VlsIn zA zn x.vs) from rz)
              have HZ := hid (And.intro z1 (And.intro z2 z3))
              clear KD bz rz z1 z2 z3
              obtain ⟨uj, huj⟩ : ∃ u, w11.cell? ⟨g9, j, none⟩ = some u := ⟨_, ((KE.get 1 rfl).cellAt j (by omega)).trans (List.getElem?_eq_getElem (by have := (KE.get 1 rfl).1; omega))⟩
              have hfj : w11.frozen? ⟨g9, j, none⟩ = false := (KE.get 1 rfl).frozenAt j
              have hgj : g9 < w11.heap.size := (KE.fresh _ (List.mem_of_getElem? (i := 1) rfl) g9 rfl).2
              have KF := KE.put_ 1 rfl j (.slice zA zn zc)
              simp only [List.set_cons_zero, List.set_cons_succ] at KF
              rw [cells_push (vs := x.vs) HLK.out] at KF
              have KG := (KF.swapRo 2 rfl (((KF.ro 2 rfl).and (KF.ro 0 rfl)).imp fun w2 h => slVals_put (j := j) (z := ⟨zA, zn, zc, x.vs⟩) h.1 h.2)).drop (List.sublist_cons_self _ _)
              simp only [List.set_cons_zero, List.set_cons_succ] at KG
              clear KE KF
              have HP1 := hid (show ((putAt lo j ⟨zA, zn, zc, x.vs⟩).map Sl.vs).Perm ((l.map Sl.vs).take (j + 1)) by rw [putAt_map, List.take_add_one, HX.out]; exact perm_snoc HLO.out)
              have HP2 := hid (show SortedV ((putAt lo j ⟨zA, zn, zc, x.vs⟩).map Sl.vs) by rw [putAt_map]; exact sorted_put HSO.out HBG.out HPL.out)
              have HP3 := hid (putAt_all (P := Sl.ok) (j := j) (z := (⟨zA, zn, zc, x.vs⟩ : Sl)) HOO.out ⟨HZ.out.2.1, HZ.out.2.2, HXO.out.vs⟩)
              have HP4 := hid (putAt_all (P := fun s : Sl => s.n ≤ 4398046511104) (j := j) (z := (⟨zA, zn, zc, x.vs⟩ : Sl)) HNO.out (by have h1 := HZ.out.1; have h2 := HXN.out; have h3 := HXL.out; show zn ≤ _; omega))
              go_wp2_with fail
              go_roundw
              case rel => exact ⟨j + 1, _, some ⟨g9, 0, none⟩, _, by omega, by first | rfl | go_num, by first | rfl | go_num, HP1, HP2, HP3, HP4, KG⟩
              case measure => simp [intOf]; omega
            · skip
              refine wp_region_any (by kernel_rfl) ?_
              refine wpAny_hold 7 47 (KL) (spL []) (by kernel_rfl) (by kernel_rfl) (by kernel_rfl) rfl ?_ (KN.drew) ?_
              · exact stays_nil _
              simp only [List.take_succ_cons, List.take_zero, List.drop_succ_cons, List.drop_zero, Act.put, List.getElem_toArray, List.getElem_cons_zero, List.getElem_cons_succ, List.setIfInBounds_toArray, List.set_cons_succ, List.set_cons_zero]
              refine dw_val rfl rfl rfl ?_; apply Exists.intro; refine ⟨fun wv HC => ?_, ?_⟩
              ·  go_simp <;> rfl
              simp only [Act.put, List.setIfInBounds_toArray, List.set_cons_succ, List.set_cons_zero]
              refine dw_val rfl rfl rfl ?_; apply Exists.intro; refine ⟨fun wv HC => ?_, ?_⟩
              ·  go_simp <;> rfl
              simp only [Act.put, List.setIfInBounds_toArray, List.set_cons_succ, List.set_cons_zero]
              refine dw_val rfl rfl rfl ?_; apply Exists.intro; refine ⟨fun wv HC => ?_, ?_⟩
              ·  go_simp <;> rfl
              simp only [Act.put, List.setIfInBounds_toArray, List.set_cons_succ, List.set_cons_zero]
              refine dw_val rfl rfl rfl ?_; apply Exists.intro; refine ⟨fun wv HC => ?_, ?_⟩
              ·  go_simp <;> rfl
              simp only [Act.put, List.setIfInBounds_toArray, List.set_cons_succ, List.set_cons_zero]
              refine dw_val rfl rfl rfl ?_; apply Exists.intro; refine ⟨fun wv HC => ?_, ?_⟩
              ·  go_simp <;> rfl
              simp only [Act.put, List.setIfInBounds_toArray, List.set_cons_succ, List.set_cons_zero]
              refine dw_val rfl rfl rfl ?_; apply Exists.intro; refine ⟨fun wv HC => ?_, ?_⟩
              ·  go_simp <;> rfl
              simp only [Act.put, List.setIfInBounds_toArray, List.set_cons_succ, List.set_cons_zero]
              refine dw_val rfl rfl rfl ?_; apply Exists.intro; refine ⟨fun wv HC => ?_, ?_⟩
              ·  go_simp <;> rfl
              simp only [Act.put, List.setIfInBounds_toArray, List.set_cons_succ, List.set_cons_zero]
              refine rel_nil ?_
              rintro wx9 HX9
              rintro _hrm _HG
              clear _hrm _HG
              rw [HKL.out] at HX9
              clear HKL KN
              refine wpList_copy_nothing rfl (.tmp 35) (.tmp 38) _ _ rfl 51 Tryz.underlying74 (by kernel_rfl) _ _ _ _ _ _ rfl rfl (by simp) ?_
              go_wp2_with fail
              have KD := HX9
              refine (copyVls_any _ _ KD.mutLt x.A x.n x.c x.vs ((KD.ro 2 rfl).imp fun w2 h2 => h2.2 x HXM.out) (by have := HXN.out; omega)).mono ?_
              rintro e w11 ⟨zA, zn, zc, rfl, z1, z2, z3, rz, bz⟩
              have KE := (KD.call bz).add (show Ro w11 _ (VlsIn zA zn x.vs) from rz)
              have HZ := hid (And.intro z1 (And.intro z2 z3))
              clear KD bz rz z1 z2 z3
              obtain ⟨uj, huj⟩ : ∃ u, w11.cell? ⟨g9, j, none⟩ = some u := ⟨_, ((KE.get 1 rfl).cellAt j (by omega)).trans (List.getElem?_eq_getElem (by have := (KE.get 1 rfl).1; omega))⟩
              have hfj : w11.frozen? ⟨g9, j, none⟩ = false := (KE.get 1 rfl).frozenAt j
              have hgj : g9 < w11.heap.size := (KE.fresh _ (List.mem_of_getElem? (i := 1) rfl) g9 rfl).2
              have KF := KE.put_ 1 rfl j (.slice zA zn zc)
              simp only [List.set_cons_zero, List.set_cons_succ] at KF
              rw [cells_push (vs := x.vs) HLK.out] at KF
              have KG := (KF.swapRo 2 rfl (((KF.ro 2 rfl).and (KF.ro 0 rfl)).imp fun w2 h => slVals_put (j := j) (z := ⟨zA, zn, zc, x.vs⟩) h.1 h.2)).drop (List.sublist_cons_self _ _)
              simp only [List.set_cons_zero, List.set_cons_succ] at KG
              clear KE KF
              have HP1 := hid (show ((putAt lo j ⟨zA, zn, zc, x.vs⟩).map Sl.vs).Perm ((l.map Sl.vs).take (j + 1)) by rw [putAt_map, List.take_add_one, HX.out]; exact perm_snoc HLO.out)
              have HP2 := hid (show SortedV ((putAt lo j ⟨zA, zn, zc, x.vs⟩).map Sl.vs) by rw [putAt_map]; exact sorted_put HSO.out HBG.out HPL.out)
              have HP3 := hid (putAt_all (P := Sl.ok) (j := j) (z := (⟨zA, zn, zc, x.vs⟩ : Sl)) HOO.out ⟨HZ.out.2.1, HZ.out.2.2, HXO.out.vs⟩)
              have HP4 := hid (putAt_all (P := fun s : Sl => s.n ≤ 4398046511104) (j := j) (z := (⟨zA, zn, zc, x.vs⟩ : Sl)) HNO.out (by have h1 := HZ.out.1; have h2 := HXN.out; have h3 := HXL.out; show zn ≤ _; omega))
              go_wp2_with fail
              go_roundw
              case rel => exact ⟨j + 1, _, some ⟨g9, 0, none⟩, _, by omega, by first | rfl | go_num, by first | rfl | go_num, HP1, HP2, HP3, HP4, KG⟩
              case measure => simp [intOf]; omega
    · obtain rfl : n = k := by omega
      have hd : decide ((n : Int) < (n : Int)) = false := by simp
      have HPF := hid (show (lo.map Sl.vs).Perm (l.map Sl.vs) by
        have h := HLO.out
        rwa [List.take_of_length_le (by rw [List.length_map, HL.out]; exact Nat.le_refl _)] at h)
      obtain ⟨hc1, hc2, _⟩ := own_caps (H.get 0 rfl)
      have KS := H.sealRow 0 rfl
      simp only [List.set_cons_zero] at KS
      have r1 := (KS.roOut 0 rfl).and (KS.roOut 1 rfl)
      have HFF := hid (sortV_of HPF.out HSO.out)
      go_wp2_with fail
      go_ret
      exact ⟨C, n, cap, lo, rfl, hc1, hc2, r1, HOO.out, HNO.out, HFF.out, KS.below⟩
end Go.Proofs.YtedogodccblfeaaGreatDoor

namespace Go.Proofs.YtedogodccblfeaaGreatDoor
open Go.RowKit
set_option linter.unusedVariables false
set_option linter.unusedSimpArgs false

/-- a row without its number -/
def Rw.sl (r : Rw) : Sl := ⟨r.A, r.n, r.c, r.vs⟩
theorem slv_of_rws {w : World} {B : Option Addr} {m : Nat} {l : List Rw} (h : RwsIn B m l w) : SlVals (l.map Rw.sl) w := fun s hs => by
  obtain ⟨r, hr, rfl⟩ := List.mem_map.1 hs
  exact h.2 r hr
theorem rw_sl_ok {r : Rw} (h : r.ok) : r.sl.ok := ⟨h.nc, h.c, h.vs⟩
set_option maxHeartbeats 4000000 in
set_option maxRecDepth 100000 in
theorem tbagt_any (M : Nat → Prop) (w : World) (hM : ∀ b, M b → b < w.heap.size) (x0 : Value) (x1 : Value) (x2 : Value) (B : Option Addr) (m d : Nat) (l : List Rw) (hE : Ro w M (RwsIn B m l)) (hm : m ≤ 4398046511104) (hok : ∀ r ∈ l, r.ok) (hr : ∀ r ∈ l, r.n ≤ 4398046511104) :
    Calls Tryz.prog 95 #[.agg #[x0, x1, x2, .slice B m d]] w fun e w' => SlsRet w M (sortV (l.map Rw.vs)) e w' := by
  have HL := hid hE.now.len
  have HQ := hid (And.intro hok hr)
  have K0 := ((((Hold.start M w hM).add (hE.less (by simp [Mut]))).alloc_cst #[x0, x1, x2, .slice B m d] 58).nil 51 1)
  have F0 := K0.facts
  simp only [World.size_alloc, World.size_drew, factsL, cellsF, Nat.reduceAdd, List.toList_toArray, List.set_cons_zero, List.set_cons_succ, List.setIfInBounds_toArray, and_true, true_and] at F0
  clear hE hok hr
  go_enter Tryz.func95, Tryz.ntmps95
  go_wp2_with fail
  clear F0
  go_loopw [3, 9] (fun ov iv wr => ∃ (k cap : Nat) (C : Option Addr), k ≤ m ∧ ov = .slice C k cap ∧ iv = .int .i64 k ∧ Hold M none w wr [.own 51 1 (.slice C k cap) k (slCells ((l.map Rw.sl).take k)), .cst w.heap.size 58 #[x0, x1, x2, .slice B m d], .ro (RwsIn B m l)]) (fun _ iv _ => m - (intOf iv).toNat)
  case atStart => exact ⟨0, 0, none, by omega, rfl, rfl, K0⟩
  case round =>
    clear K0
    obtain ⟨k, cap, C, hk, rfl, rfl, H⟩ := hrel
    by_cases hlt : k < m
    · have hdd : decide ((k : Int) < (m : Int)) = true := by simp; omega
      have j0 : (0 : Int) ≤ (k : Int) := by omega
      obtain ⟨x, hx⟩ := get_of HL.out hlt
      obtain ⟨g, o, rfl, hgb, c0, c1, hvi⟩ := (H.ro 2 rfl).now.at_ hx
      have K2 := H.alloc_cst #[.int .i64 x.id, .slice x.A x.n x.c] 119
      have HCE := hid (show slCells ((l.map Rw.sl).take k) ++ (#[Value.slice x.A x.n x.c]).toList = slCells ((l.map Rw.sl).take (k + 1)) by rw [List.take_add_one, List.getElem?_map, hx]; simp [slCells, Sl.cells, Rw.sl])
      clear hx hvi
      have FA := K2.facts
      simp only [World.size_alloc, World.size_drew, factsL, cellsF, Nat.reduceAdd, List.toList_toArray, List.set_cons_zero, List.set_cons_succ, List.setIfInBounds_toArray, and_true, true_and] at FA
      go_wp2_with (at_builtin; go_must (refine wpList_appH K2 1 rfl Tryz.elSlc #[.slice x.A x.n x.c] rfl (.tmp 13) (.tmp 16) rfl rfl _ (by first | rfl | simp) rfl rfl (by intro u hu; simp at hu; rcases hu with rfl; rfl) (by omega) (by omega) ?_); intro g9 cap9 w9 hc9 hm9 KB; rw [HCE.out] at KB; simp only [List.set_cons_zero, List.set_cons_succ] at KB)
      have KC := KB.drop (List.sublist_cons_self _ _)
      go_roundw
      case rel => exact ⟨k + 1, cap9, _, by omega, by first | rfl | go_num, by first | rfl | go_num, KC⟩
      case measure => simp [intOf]; omega
    · obtain rfl : k = m := by omega
      have hdd : decide ((k : Int) < (k : Int)) = false := by simp
      obtain ⟨hc1, hc2, _⟩ := own_caps (H.get 0 rfl)
      have HTK := hid (show (l.map Rw.sl).take k = l.map Rw.sl from List.take_of_length_le (by rw [List.length_map, HL.out]; exact Nat.le_refl _))
      have KS := H.sealRow 0 rfl
      rw [HTK.out] at KS
      simp only [List.set_cons_zero] at KS
      have KV := KS.swapRo 0 rfl (((KS.ro 0 rfl).and (KS.ro 2 rfl)).imp fun w2 h => (⟨h.1, slv_of_rws h.2⟩ : SlsIn C k (l.map Rw.sl) w2))
      simp only [List.set_cons_zero] at KV
      clear H KS
      go_wp2_with fail
      refine (tsort_any _ _ KV.mutLt C k cap (l.map Rw.sl) (KV.ro 0 rfl) hm (fun s hs => by obtain ⟨r, hr, rfl⟩ := List.mem_map.1 hs; exact HQ.out.2 r hr) (fun s hs => by obtain ⟨r, hr, rfl⟩ := List.mem_map.1 hs; exact rw_sl_ok (HQ.out.1 r hr))).mono ?_
      rintro e w3 ⟨A3, n3, c3, ls, rfl, h31, h32, r3, o3, m3, e3, b3⟩
      have K5 := (KV.call b3)
      have r4 : Ro w3 M _ := r3.less fun b hb => .inl hb
      have HE := hid e3
      clear e3
      go_wp2_with fail
      go_ret
      exact ⟨A3, n3, c3, ls, rfl, h31, h32, r4, o3, m3, by rw [HE.out, List.map_map]; rfl, K5.below⟩
set_option maxHeartbeats 4000000 in
set_option maxRecDepth 100000 in
theorem rtbagt_any (M : Nat → Prop) (w : World) (hM : ∀ b, M b → b < w.heap.size) (x0 : Value) (x1 : Value) (x2 : Value) (B : Option Addr) (m d : Nat) (l : List Rw) (hE : Ro w M (RwsIn B m l)) (hm : m ≤ 4398046511104) (hok : ∀ r ∈ l, r.ok) (hr : ∀ r ∈ l, r.n ≤ 4398046511104) :
    Calls Tryz.prog 96 #[.agg #[x0, x1, x2, .slice B m d]] w fun e w' => SlsRet w M (sortV (l.map Rw.vs)) e w' := by
  have HL := hid hE.now.len
  have HQ := hid (And.intro hok hr)
  have K0 := ((((Hold.start M w hM).add (hE.less (by simp [Mut]))).alloc_cst #[x0, x1, x2, .slice B m d] 58).nil 51 1)
  have F0 := K0.facts
  simp only [World.size_alloc, World.size_drew, factsL, cellsF, Nat.reduceAdd, List.toList_toArray, List.set_cons_zero, List.set_cons_succ, List.setIfInBounds_toArray, and_true, true_and] at F0
  clear hE hok hr
  go_enter Tryz.func96, Tryz.ntmps96
  go_wp2_with fail
  clear F0
  go_loopw [3, 9] (fun ov iv wr => ∃ (k cap : Nat) (C : Option Addr), k ≤ m ∧ ov = .slice C k cap ∧ iv = .int .i64 k ∧ Hold M none w wr [.own 51 1 (.slice C k cap) k (slCells ((l.map Rw.sl).take k)), .cst w.heap.size 58 #[x0, x1, x2, .slice B m d], .ro (RwsIn B m l)]) (fun _ iv _ => m - (intOf iv).toNat)
  case atStart => exact ⟨0, 0, none, by omega, rfl, rfl, K0⟩
  case round =>
    clear K0
    obtain ⟨k, cap, C, hk, rfl, rfl, H⟩ := hrel
    by_cases hlt : k < m
    · have hdd : decide ((k : Int) < (m : Int)) = true := by simp; omega
      have j0 : (0 : Int) ≤ (k : Int) := by omega
      obtain ⟨x, hx⟩ := get_of HL.out hlt
      obtain ⟨g, o, rfl, hgb, c0, c1, hvi⟩ := (H.ro 2 rfl).now.at_ hx
      have K2 := H.alloc_cst #[.int .i64 x.id, .slice x.A x.n x.c] 119
      have HCE := hid (show slCells ((l.map Rw.sl).take k) ++ (#[Value.slice x.A x.n x.c]).toList = slCells ((l.map Rw.sl).take (k + 1)) by rw [List.take_add_one, List.getElem?_map, hx]; simp [slCells, Sl.cells, Rw.sl])
      clear hx hvi
      have FA := K2.facts
      simp only [World.size_alloc, World.size_drew, factsL, cellsF, Nat.reduceAdd, List.toList_toArray, List.set_cons_zero, List.set_cons_succ, List.setIfInBounds_toArray, and_true, true_and] at FA
      go_wp2_with (at_builtin; go_must (refine wpList_appH K2 1 rfl Tryz.elSlc #[.slice x.A x.n x.c] rfl (.tmp 13) (.tmp 16) rfl rfl _ (by first | rfl | simp) rfl rfl (by intro u hu; simp at hu; rcases hu with rfl; rfl) (by omega) (by omega) ?_); intro g9 cap9 w9 hc9 hm9 KB; rw [HCE.out] at KB; simp only [List.set_cons_zero, List.set_cons_succ] at KB)
      have KC := KB.drop (List.sublist_cons_self _ _)
      go_roundw
      case rel => exact ⟨k + 1, cap9, _, by omega, by first | rfl | go_num, by first | rfl | go_num, KC⟩
      case measure => simp [intOf]; omega
    · obtain rfl : k = m := by omega
      have hdd : decide ((k : Int) < (k : Int)) = false := by simp
      obtain ⟨hc1, hc2, _⟩ := own_caps (H.get 0 rfl)
      have HTK := hid (show (l.map Rw.sl).take k = l.map Rw.sl from List.take_of_length_le (by rw [List.length_map, HL.out]; exact Nat.le_refl _))
      have KS := H.sealRow 0 rfl
      rw [HTK.out] at KS
      simp only [List.set_cons_zero] at KS
      have KV := KS.swapRo 0 rfl (((KS.ro 0 rfl).and (KS.ro 2 rfl)).imp fun w2 h => (⟨h.1, slv_of_rws h.2⟩ : SlsIn C k (l.map Rw.sl) w2))
      simp only [List.set_cons_zero] at KV
      clear H KS
      go_wp2_with fail
      refine (rsort_any _ _ KV.mutLt C k cap (l.map Rw.sl) (KV.ro 0 rfl) hm (fun s hs => by obtain ⟨r, hr, rfl⟩ := List.mem_map.1 hs; exact HQ.out.2 r hr) (fun s hs => by obtain ⟨r, hr, rfl⟩ := List.mem_map.1 hs; exact rw_sl_ok (HQ.out.1 r hr))).mono ?_
      rintro e w3 ⟨A3, n3, c3, ls, rfl, h31, h32, r3, o3, m3, e3, b3⟩
      have K5 := (KV.call b3)
      have r4 : Ro w3 M _ := r3.less fun b hb => .inl hb
      have HE := hid e3
      clear e3
      go_wp2_with fail
      go_ret
      exact ⟨A3, n3, c3, ls, rfl, h31, h32, r4, o3, m3, by rw [HE.out, List.map_map]; rfl, K5.below⟩
end Go.Proofs.YtedogodccblfeaaGreatDoor

namespace Go.Proofs.YtedogodccblfeaaGreatDoor
open Go.RowKit
set_option linter.unusedVariables false
set_option linter.unusedSimpArgs false

theorem sametuple_any (w : World) (A : Option Addr) (n c : Nat) (xs : List Vl) (B : Option Addr) (m d : Nat) (ys : List Vl) (hD : VlsIn A n xs w) (hE : VlsIn B m ys w) (hn : n ≤ 4398046511104) :
    Calls Tryz.prog 98 #[.slice A n c, .slice B m d] w fun e w' => e = .returned (.bool (decide (xs = ys))) ∧ ∃ q, w' = w.drewN q := by
  have HE := hid (eqVls_any w A n c xs B m d ys hD hE hn)
  clear hD hE
  go_enter Tryz.func98, Tryz.ntmps98
  go_wp2_with fail
  refine HE.out.mono ?_
  rintro e w1 ⟨rfl, q, rfl⟩
  obtain ⟨r, hr0⟩ : ∃ r, r = decide (xs = ys) := ⟨_, rfl⟩
  rw [← hr0]
  have HRR := hid hr0
  clear hr0
  go_wp2_with fail
  go_ret
  exact ⟨by rw [← HRR.out] <;> rfl, q, rfl⟩
set_option maxHeartbeats 2000000 in
set_option maxRecDepth 100000 in
theorem eqTps_any (M : Nat → Prop) (w : World) (hM : ∀ b, M b → b < w.heap.size) (A : Option Addr) (n c : Nat) (xs : List Sl) (B : Option Addr) (m d : Nat) (ys : List Sl) (hD : Ro w M (SlsIn A n xs)) (hE : Ro w M (SlsIn B m ys)) (hn : n ≤ 4398046511204) (hr : ∀ r ∈ xs, r.n ≤ 4398046511104) :
    Calls Tryz.prog 97 #[.slice A n c, .slice B m d, .func (.func 98) #[] #[]] w fun e w' => e = .returned (.bool (decide (xs.map Sl.vs = ys.map Sl.vs))) ∧ Below w.heap.size w w' := by
  have HL := hid hD.now.len
  have HK := hid hE.now.len
  by_cases hnm : n = m
  · subst hnm
    have hb : ((n : Int) != (n : Int)) = false := by simp
    have K0 := ((Hold.start M w hM).add (hE.less (by simp [Mut]))).add (hD.less (by simp [Mut, Hp.foot]))
    clear hD hE
    go_enter Tryz.func97, Tryz.ntmps97
    go_wp2_with fail
    go_loopw [17] (fun i wr => ∃ (k : Nat), k ≤ n ∧ i = .int .i64 k ∧ Hid ((xs.map Sl.vs).take k = (ys.map Sl.vs).take k) ∧ Hold M none w wr [.ro (SlsIn A n xs), .ro (SlsIn B n ys)]) (fun i _ => n - (intOf i).toNat)
    case atStart => exact ⟨0, by omega, rfl, hid (by simp), K0⟩
    case round =>
      clear K0
      obtain ⟨k, hk, rfl, HTK, H⟩ := hrel
      by_cases hlt : k < n
      · have hd : decide ((k : Int) < (n : Int)) = true := by simp; omega
        have i0 : (0 : Int) ≤ (k : Int) := by omega
        have i1 : (k : Int) < (n : Int) := by omega
        obtain ⟨x, hx⟩ := get_of HL.out hlt
        obtain ⟨y, hy⟩ := get_of HK.out hlt
        have hxn := hr x (List.mem_of_getElem? hx)
        have HX := hid (show (xs.map Sl.vs)[k]? = some x.vs by simp [hx])
        have HY := hid (show (ys.map Sl.vs)[k]? = some y.vs by simp [hy])
        obtain ⟨g, o, rfl, hbx, x0, hvx⟩ := (H.ro 0 rfl).now.at_ hx
        obtain ⟨g', o', rfl, hby, y0, hvy⟩ := (H.ro 1 rfl).now.at_ hy
        have HVX := hid hvx
        have HVY := hid hvy
        clear hx hy hvx hvy
        go_wp2_with fail
        refine (sametuple_any _ x.A x.n x.c x.vs y.A y.n y.c y.vs HVX.out HVY.out hxn).mono ?_
        rintro e w3 ⟨rfl, q3, rfl⟩
        have K3 := H.drewN q3
        clear H
        by_cases hb : x.vs = y.vs
        · have HB := hid (takeEq_succ HX.out HY.out HTK.out hb)
          rw [decide_eq_true hb]
          clear hb
          go_wp2_with fail
          go_roundw
          case rel => exact ⟨k + 1, by omega, by go_num, HB, K3⟩
          case measure => simp [intOf]; omega
        · have HB := hid (beqL_no HX.out HY.out hb)
          rw [decide_eq_false hb]
          clear hb
          go_wp2_with fail
          go_ret
          exact ⟨by rw [HB.out] <;> rfl, K3.below⟩
      · obtain rfl : n = k := by omega
        have hd : decide ((n : Int) < (n : Int)) = false := by simp
        have HB := hid (show decide (xs.map Sl.vs = ys.map Sl.vs) = true by
          have h := HTK.out
          rw [List.take_of_length_le (by rw [List.length_map, HL.out]; exact Nat.le_refl _), List.take_of_length_le (by rw [List.length_map, HK.out]; exact Nat.le_refl _)] at h
          simp [h])
        go_wp2_with fail
        go_ret
        exact ⟨by rw [HB.out] <;> rfl, H.below⟩
  · have hb : ((n : Int) != (m : Int)) = true := by simp; omega
    have HB := hid (show decide (xs.map Sl.vs = ys.map Sl.vs) = false by
      rw [decide_eq_false_iff_not]; intro h; have h1 := congrArg List.length h; rw [List.length_map, List.length_map, HL.out, HK.out] at h1; exact hnm h1)
    go_enter Tryz.func97, Tryz.ntmps97
    go_wp2_with fail
    go_ret
    exact ⟨by rw [HB.out] <;> rfl, Below.refl _ _⟩

theorem sametuples_any (M : Nat → Prop) (w : World) (hM : ∀ b, M b → b < w.heap.size) (A : Option Addr) (n c : Nat) (xs : List Sl) (B : Option Addr) (m d : Nat) (ys : List Sl) (hD : Ro w M (SlsIn A n xs)) (hE : Ro w M (SlsIn B m ys)) (hn : n ≤ 4398046511204) (hr : ∀ r ∈ xs, r.n ≤ 4398046511104) :
    Calls Tryz.prog 42 #[.slice A n c, .slice B m d] w fun e w' => e = .returned (.bool (decide (xs.map Sl.vs = ys.map Sl.vs))) ∧ Below w.heap.size w w' := by
  have HE := hid (eqTps_any M w hM A n c xs B m d ys hD hE hn hr)
  clear hD hE
  go_enter Tryz.func42, Tryz.ntmps42
  go_wp2_with fail
  refine HE.out.mono ?_
  rintro e w1 ⟨rfl, b1⟩
  have HB := hid b1
  clear b1
  obtain ⟨r, hr0⟩ : ∃ r, r = decide (xs.map Sl.vs = ys.map Sl.vs) := ⟨_, rfl⟩
  rw [← hr0]
  have HRR := hid hr0
  clear hr0
  go_wp2_with fail
  go_ret
  exact ⟨by rw [← HRR.out] <;> rfl, HB.out⟩
end Go.Proofs.YtedogodccblfeaaGreatDoor

namespace Go.Proofs.YtedogodccblfeaaGreatDoor
open Go.RowKit
set_option linter.unusedVariables false
set_option linter.unusedSimpArgs false

/-- a list of rows without numbers, in memory -/
structure Bg where
  A : Option Addr
  n : Nat
  c : Nat
  l : List Sl
def Bg.val (b : Bg) : Value := .slice b.A b.n b.c
def Bg.vs (b : Bg) : List (List Vl) := b.l.map Sl.vs
def BgIn (b : Bg) (w : World) : Prop := SlsIn b.A b.n b.l w
def BgVals (bs : List Bg) (w : World) : Prop := ∀ b ∈ bs, BgIn b w
def BgsIn (A : Option Addr) (n : Nat) (bs : List Bg) (w : World) : Prop := SlR 1 A n (bs.map Bg.val) w ∧ BgVals bs w
structure Bg.ok (b : Bg) : Prop where
  n : b.n ≤ 1000000
  l : ∀ s ∈ b.l, s.n ≤ 4398046511104
theorem bgVals_nil (w : World) (M : Nat → Prop) : Ro w M (BgVals []) := fun _ _ _ r hr => nomatch hr
theorem bgVals_snoc {M : Nat → Prop} {w : World} {rs : List Bg} {r : Bg} (h : Ro w M (BgVals rs)) (k : Ro w M (BgIn r)) : Ro w M (BgVals (rs ++ [r])) := fun w2 h1 h2 x hx => by
  rcases List.mem_append.1 hx with hx | hx
  · exact h w2 h1 h2 x hx
  · simp at hx; subst hx; exact k w2 h1 h2
def BgsRet (w : World) (M : Nat → Prop) (L : List (List (List Vl))) (e : Ending) (w' : World) : Prop := ∃ (A : Option Addr) (n c : Nat) (bs : List Bg), e = .returned (.slice A n c) ∧ n ≤ c ∧ c ≤ 9223372036854775807 ∧ bs.map Bg.vs = L ∧ (∀ b ∈ bs, b.ok) ∧ Ro w' M (BgsIn A n bs) ∧ Below w.heap.size w w'
theorem Tryz.elBg : ElemT Tryz.prog 91 74 1 24 (.slice none 0 0) := ⟨Tryz.underlying91, by kernel_rfl, rfl, by omega⟩
set_option maxHeartbeats 4000000 in
set_option maxRecDepth 100000 in
theorem sbags_any (M : Nat → Prop) (w : World) (hM : ∀ b, M b → b < w.heap.size) (A : Option Addr) (n c : Nat) (l : List Te) (hok : ∀ x ∈ l, TeLim x) (hD : Ro w M (TesIn A n l)) (hn : n ≤ 1000000) :
    Calls Tryz.prog 40 #[.slice A n c] w fun e w' => BgsRet w M (l.map fun x => sortV (x.l.map Rw.vs)) e w' := by
  have HL := hid hD.now.len
  have HOK := hid hok
  clear hok
  have K0 := (((Hold.start M w hM).add (hD.less (by simp [Mut]))).add (bgVals_nil _ _)).nil 74 1
  clear hD
  go_enter Tryz.func40, Tryz.ntmps40
  go_wp2_with fail
  go_loopw [3, 8] (fun ov iv wr => ∃ (j cap : Nat) (O : Option Addr) (outs : List Bg), j ≤ n ∧ iv = .int .i64 j ∧ ov = .slice O j cap ∧ Hid (outs.map Bg.vs = (l.take j).map (fun x => sortV (x.l.map Rw.vs)) ∧ ∀ b ∈ outs, b.ok) ∧ Hold M none w wr [.own 74 1 (.slice O j cap) j (outs.map Bg.val), .ro (BgVals outs), .ro (TesIn A n l)]) (fun _ iv _ => n - (intOf iv).toNat)
  case atStart => exact ⟨0, 0, none, [], by omega, rfl, rfl, hid ⟨rfl, fun r hr => nomatch hr⟩, K0⟩
  case round =>
    clear K0
    obtain ⟨j, cap, O, outs, hj, rfl, rfl, HW, H⟩ := hrel
    by_cases hlt : j < n
    · have hd : decide ((j : Int) < (n : Int)) = true := by simp; omega
      have j0 : (0 : Int) ≤ (j : Int) := by omega
      have j1 : (j : Int) < (n : Int) := by omega
      obtain ⟨x, hx⟩ := get_of HL.out hlt
      obtain ⟨g, o, rfl, hb, c0, c1, c2, c3, -⟩ := (H.ro 2 rfl).now.at_ hx
      have HXO := hid (HOK.out x (List.mem_of_getElem? hx))
      have HXM := hid (List.mem_of_getElem? hx)
      have HXG := hid hx
      clear hx
      have K1 := H.alloc_cst #[.string x.nm, .slice x.A x.n x.c, .int .i64 x.nx, .slice x.B x.m x.d] 58
      have FA := K1.facts
      simp only [World.size_alloc, World.size_drew, factsL, cellsF, Nat.reduceAdd, List.toList_toArray, List.set_cons_zero, List.set_cons_succ, List.setIfInBounds_toArray, and_true, true_and] at FA
      clear H
      go_wp2_with fail
      refine (tbagt_any _ _ K1.mutLt (.string x.nm) (.slice x.A x.n x.c) (.int .i64 x.nx) x.B x.m x.d x.l ((K1.ro 3 rfl).imp fun w2 h2 => (h2.2 x HXM.out).2) (by have := HXO.out.2.1; omega) (fun r hr => (HXO.out.2.2 r hr).1) (fun r hr => (HXO.out.2.2 r hr).2)).mono ?_
      rintro e w2 ⟨C, m2, d2, ls, rfl, h1, h2, r2, o2, n2, e2, b2⟩
      have hlm : x.l.length = x.m := ((K1.ro 3 rfl).now.2 x HXM.out).2.len
      have hll : ls.length = m2 := SlsIn.len r2.now
      have hm2 : m2 ≤ 1000000 := by
        have a := congrArg List.length e2
        rw [List.length_map, sortV_len, List.length_map] at a
        have := HXO.out.2.1
        omega
      obtain ⟨y, hy⟩ : ∃ y : Bg, y = ⟨C, m2, d2, ls⟩ := ⟨_, rfl⟩
      have HY := hid (show y.ok ∧ y.vs = sortV (x.l.map Rw.vs) by rw [hy]; exact ⟨⟨hm2, n2⟩, e2⟩)
      have ry := (show Ro w2 _ (BgIn ⟨C, m2, d2, ls⟩) from r2)
      rw [← hy] at ry
      have K2 := ((K1.call b2).add ry)
      have hyv : Value.slice C m2 d2 = .slice y.A y.n y.c := by rw [hy]
      clear r2 o2 n2 e2 b2 ry hlm hll FA c0 c1 c2 c3 K1
      rw [hyv]
      have hcat : outs.map Bg.val ++ (#[Value.slice y.A y.n y.c]).toList = (outs ++ [y]).map Bg.val := by simp [Bg.val]
      have HCAT := hid hcat
      clear hyv hcat hy
      go_wp2_with (at_builtin; go_must (refine wpList_appH K2 2 rfl Tryz.elBg #[.slice y.A y.n y.c] rfl (.tmp 12) (.tmp 15) rfl rfl _ (by first | rfl | simp) rfl rfl (by intro u hu; simp at hu; rcases hu with rfl; rfl) (by omega) (by omega) ?_); intro g9 cap9 w9 hc9 hm9 KB; rw [HCAT.out] at KB; simp only [List.set_cons_zero, List.set_cons_succ] at KB)
      have KC := (KB.swapRo 3 rfl (bgVals_snoc (KB.ro 3 rfl) (KB.ro 0 rfl))).drop (.cons _ (List.sublist_cons_self _ _))
      simp only [List.set_cons_zero, List.set_cons_succ, List.setIfInBounds_toArray] at KC
      go_roundw
      case rel => exact ⟨j + 1, cap9, _, outs ++ [y], by omega, by first | rfl | go_num, by first | rfl | go_num, hid ⟨by rw [List.take_add_one, HXG.out, List.map_append, List.map_append, HW.out.1]; simp [HY.out.2], fun b hb => by
        rcases List.mem_append.1 hb with hb | hb
        · exact HW.out.2 b hb
        · simp at hb; subst hb; exact HY.out.1⟩, KC⟩
      case measure => simp [intOf] <;> omega
    · obtain rfl : j = n := by omega
      have hd : decide ((j : Int) < (j : Int)) = false := by simp
      have hcap := own_caps (H.get 0 rfl)
      have KS := H.sealRow 0 rfl
      simp only [List.set_cons_zero] at KS
      have r1 := (KS.roOut 0 rfl).and (KS.roOut 1 rfl)
      have HG := hid KS.below
      have HW2 := hid (show outs.map Bg.vs = l.map fun x => sortV (x.l.map Rw.vs) by have h := HW.out.1; rwa [List.take_of_length_le (by rw [HL.out]; exact Nat.le_refl _)] at h)
      clear H KS
      go_wp2_with fail
      go_ret
      exact ⟨O, j, cap, outs, rfl, hcap.1, hcap.2.1, HW2.out, HW.out.2, r1, HG.out⟩
set_option maxHeartbeats 4000000 in
set_option maxRecDepth 100000 in
theorem rsbags_any (M : Nat → Prop) (w : World) (hM : ∀ b, M b → b < w.heap.size) (A : Option Addr) (n c : Nat) (l : List Te) (hok : ∀ x ∈ l, TeLim x) (hD : Ro w M (TesIn A n l)) (hn : n ≤ 1000000) :
    Calls Tryz.prog 41 #[.slice A n c] w fun e w' => BgsRet w M (l.map fun x => sortV (x.l.map Rw.vs)) e w' := by
  have HL := hid hD.now.len
  have HOK := hid hok
  clear hok
  have K0 := (((Hold.start M w hM).add (hD.less (by simp [Mut]))).add (bgVals_nil _ _)).nil 74 1
  clear hD
  go_enter Tryz.func41, Tryz.ntmps41
  go_wp2_with fail
  go_loopw [3, 8] (fun ov iv wr => ∃ (j cap : Nat) (O : Option Addr) (outs : List Bg), j ≤ n ∧ iv = .int .i64 j ∧ ov = .slice O j cap ∧ Hid (outs.map Bg.vs = (l.take j).map (fun x => sortV (x.l.map Rw.vs)) ∧ ∀ b ∈ outs, b.ok) ∧ Hold M none w wr [.own 74 1 (.slice O j cap) j (outs.map Bg.val), .ro (BgVals outs), .ro (TesIn A n l)]) (fun _ iv _ => n - (intOf iv).toNat)
  case atStart => exact ⟨0, 0, none, [], by omega, rfl, rfl, hid ⟨rfl, fun r hr => nomatch hr⟩, K0⟩
  case round =>
    clear K0
    obtain ⟨j, cap, O, outs, hj, rfl, rfl, HW, H⟩ := hrel
    by_cases hlt : j < n
    · have hd : decide ((j : Int) < (n : Int)) = true := by simp; omega
      have j0 : (0 : Int) ≤ (j : Int) := by omega
      have j1 : (j : Int) < (n : Int) := by omega
      obtain ⟨x, hx⟩ := get_of HL.out hlt
      obtain ⟨g, o, rfl, hb, c0, c1, c2, c3, -⟩ := (H.ro 2 rfl).now.at_ hx
      have HXO := hid (HOK.out x (List.mem_of_getElem? hx))
      have HXM := hid (List.mem_of_getElem? hx)
      have HXG := hid hx
      clear hx
      have K1 := H.alloc_cst #[.string x.nm, .slice x.A x.n x.c, .int .i64 x.nx, .slice x.B x.m x.d] 58
      have FA := K1.facts
      simp only [World.size_alloc, World.size_drew, factsL, cellsF, Nat.reduceAdd, List.toList_toArray, List.set_cons_zero, List.set_cons_succ, List.setIfInBounds_toArray, and_true, true_and] at FA
      clear H
      go_wp2_with fail
      refine (rtbagt_any _ _ K1.mutLt (.string x.nm) (.slice x.A x.n x.c) (.int .i64 x.nx) x.B x.m x.d x.l ((K1.ro 3 rfl).imp fun w2 h2 => (h2.2 x HXM.out).2) (by have := HXO.out.2.1; omega) (fun r hr => (HXO.out.2.2 r hr).1) (fun r hr => (HXO.out.2.2 r hr).2)).mono ?_
      rintro e w2 ⟨C, m2, d2, ls, rfl, h1, h2, r2, o2, n2, e2, b2⟩
      have hlm : x.l.length = x.m := ((K1.ro 3 rfl).now.2 x HXM.out).2.len
      have hll : ls.length = m2 := SlsIn.len r2.now
      have hm2 : m2 ≤ 1000000 := by
        have a := congrArg List.length e2
        rw [List.length_map, sortV_len, List.length_map] at a
        have := HXO.out.2.1
        omega
      obtain ⟨y, hy⟩ : ∃ y : Bg, y = ⟨C, m2, d2, ls⟩ := ⟨_, rfl⟩
      have HY := hid (show y.ok ∧ y.vs = sortV (x.l.map Rw.vs) by rw [hy]; exact ⟨⟨hm2, n2⟩, e2⟩)
      have ry := (show Ro w2 _ (BgIn ⟨C, m2, d2, ls⟩) from r2)
      rw [← hy] at ry
      have K2 := ((K1.call b2).add ry)
      have hyv : Value.slice C m2 d2 = .slice y.A y.n y.c := by rw [hy]
      clear r2 o2 n2 e2 b2 ry hlm hll FA c0 c1 c2 c3 K1
      rw [hyv]
      have hcat : outs.map Bg.val ++ (#[Value.slice y.A y.n y.c]).toList = (outs ++ [y]).map Bg.val := by simp [Bg.val]
      have HCAT := hid hcat
      clear hyv hcat hy
      go_wp2_with (at_builtin; go_must (refine wpList_appH K2 2 rfl Tryz.elBg #[.slice y.A y.n y.c] rfl (.tmp 12) (.tmp 15) rfl rfl _ (by first | rfl | simp) rfl rfl (by intro u hu; simp at hu; rcases hu with rfl; rfl) (by omega) (by omega) ?_); intro g9 cap9 w9 hc9 hm9 KB; rw [HCAT.out] at KB; simp only [List.set_cons_zero, List.set_cons_succ] at KB)
      have KC := (KB.swapRo 3 rfl (bgVals_snoc (KB.ro 3 rfl) (KB.ro 0 rfl))).drop (.cons _ (List.sublist_cons_self _ _))
      simp only [List.set_cons_zero, List.set_cons_succ, List.setIfInBounds_toArray] at KC
      go_roundw
      case rel => exact ⟨j + 1, cap9, _, outs ++ [y], by omega, by first | rfl | go_num, by first | rfl | go_num, hid ⟨by rw [List.take_add_one, HXG.out, List.map_append, List.map_append, HW.out.1]; simp [HY.out.2], fun b hb => by
        rcases List.mem_append.1 hb with hb | hb
        · exact HW.out.2 b hb
        · simp at hb; subst hb; exact HY.out.1⟩, KC⟩
      case measure => simp [intOf] <;> omega
    · obtain rfl : j = n := by omega
      have hd : decide ((j : Int) < (j : Int)) = false := by simp
      have hcap := own_caps (H.get 0 rfl)
      have KS := H.sealRow 0 rfl
      simp only [List.set_cons_zero] at KS
      have r1 := (KS.roOut 0 rfl).and (KS.roOut 1 rfl)
      have HG := hid KS.below
      have HW2 := hid (show outs.map Bg.vs = l.map fun x => sortV (x.l.map Rw.vs) by have h := HW.out.1; rwa [List.take_of_length_le (by rw [HL.out]; exact Nat.le_refl _)] at h)
      clear H KS
      go_wp2_with fail
      go_ret
      exact ⟨O, j, cap, outs, rfl, hcap.1, hcap.2.1, HW2.out, HW.out.2, r1, HG.out⟩
end Go.Proofs.YtedogodccblfeaaGreatDoor

namespace Go.Proofs.YtedogodccblfeaaGreatDoor
open Go.RowKit
set_option linter.unusedVariables false
set_option linter.unusedSimpArgs false

section
variable {P : Program} {M : Nat → Prop} {row : Option Nat} {w0 w : World} {L : List Hp} {ops : Array Oper} {Q : Exit → Act → World → Prop} {Kn : Act → World → Prop} {a : Act}
end
end Go.Proofs.YtedogodccblfeaaGreatDoor

namespace Go.Proofs.YtedogodccblfeaaGreatDoor
open Go.RowKit
set_option linter.unusedVariables false
set_option linter.unusedSimpArgs false

end Go.Proofs.YtedogodccblfeaaGreatDoor

namespace Go.Proofs.YtedogodccblfeaaGreatDoor
open Go.RowKit
set_option linter.unusedVariables false
set_option linter.unusedSimpArgs false

structure El where
  nm : ByteArray
  I : Option Addr
  ni : Nat
  ci : Nat
  D : Option Addr
  nd : Nat
  cd : Nat
  U : Option Addr
  nu : Nat
  cu : Nat
  li : List Rw
  ld : List Rw
  lu : List Pr
def El.cells (x : El) : List Value := [.string x.nm, .slice x.I x.ni x.ci, .slice x.D x.nd x.cd, .slice x.U x.nu x.cu]
def El.val (x : El) : Value := .agg #[.string x.nm, .slice x.I x.ni x.ci, .slice x.D x.nd x.cd, .slice x.U x.nu x.cu]
def El.dl (x : El) : Dl := ⟨x.nm, x.li.map Rw.row, x.ld.map Rw.row, x.lu.map Pr.upd⟩
def ElIn (x : El) (w : World) : Prop := RwsIn x.I x.ni x.li w ∧ RwsIn x.D x.nd x.ld w ∧ PrsIn x.U x.nu x.lu w
structure El.good (x : El) (N K : Nat) : Prop where
  i : x.ni ≤ N
  d : x.nd ≤ N
  u : x.nu ≤ N
  ci : x.ni ≤ x.ci ∧ x.ci ≤ 9223372036854775807
  cd : x.nd ≤ x.cd ∧ x.cd ≤ 9223372036854775807
  cu : x.nu ≤ x.cu ∧ x.cu ≤ 9223372036854775807
  li : ∀ r ∈ x.li, r.ok ∧ r.n ≤ K
  ld : ∀ r ∈ x.ld, r.ok ∧ r.n ≤ K
  lu : ∀ p ∈ x.lu, p.ok ∧ p.on ≤ K ∧ p.nn ≤ K
theorem El.good.more {x : El} {N K N' K' : Nat} (h : x.good N K) (hi : x.ni ≤ N') (hd : x.nd ≤ N') (hu : x.nu ≤ N') (hK : K ≤ K') : x.good N' K' :=
  ⟨hi, hd, hu, h.ci, h.cd, h.cu, fun r hr => ⟨(h.li r hr).1, Nat.le_trans (h.li r hr).2 hK⟩, fun r hr => ⟨(h.ld r hr).1, Nat.le_trans (h.ld r hr).2 hK⟩, fun p hp => ⟨(h.lu p hp).1, Nat.le_trans (h.lu p hp).2.1 hK, Nat.le_trans (h.lu p hp).2.2 hK⟩⟩
theorem dl_el {w : World} {M : Nat → Prop} {v : Value} {d : Dl} {N K : Nat} (h : DlAt w M v d) (h1 : d.ins.length ≤ N) (h2 : d.del.length ≤ N) (h3 : d.upd.length ≤ N) (h4 : ∀ r ∈ d.ins, r.2.length ≤ K) (h5 : ∀ r ∈ d.del, r.2.length ≤ K) (h6 : ∀ u ∈ d.upd, u.2.1.length ≤ K ∧ u.2.2.length ≤ K) :
    ∃ x : El, v = x.val ∧ x.dl = d ∧ x.good N K ∧ Ro w M (ElIn x) := by
  obtain ⟨I, ni, ci, D, nd, cd, U, nu, cu, li, ld, lu, rfl, q1, q2, q3, r1, r2, r3, o1, o2, o3, e1, e2, e3⟩ := h
  have l1 : li.length = ni := r1.now.len
  have l2 : ld.length = nd := r2.now.len
  have l3 : lu.length = nu := r3.now.len
  refine ⟨⟨d.nm, I, ni, ci, D, nd, cd, U, nu, cu, li, ld, lu⟩, rfl, by simp only [El.dl, e1, e2, e3], ⟨?_, ?_, ?_, q1, q2, q3, fun r hr => ⟨o1 r hr, ?_⟩, fun r hr => ⟨o2 r hr, ?_⟩, fun p hp => ⟨o3 p hp, ?_, ?_⟩⟩, r1.and (r2.and r3)⟩
  · have := congrArg List.length e1; rw [List.length_map] at this; show ni ≤ N; omega
  · have := congrArg List.length e2; rw [List.length_map] at this; show nd ≤ N; omega
  · have := congrArg List.length e3; rw [List.length_map] at this; show nu ≤ N; omega
  · have a := h4 r.row (by rw [← e1]; exact List.mem_map_of_mem hr)
    have b : r.vs.length = r.n := (r1.now.2 r hr).len
    simp only [Rw.row] at a; omega
  · have a := h5 r.row (by rw [← e2]; exact List.mem_map_of_mem hr)
    have b : r.vs.length = r.n := (r2.now.2 r hr).len
    simp only [Rw.row] at a; omega
  · have a := h6 p.upd (by rw [← e3]; exact List.mem_map_of_mem hp)
    have b : p.old.length = p.on := (r3.now.2 p hp).1.len
    simp only [Pr.upd] at a; omega
  · have a := h6 p.upd (by rw [← e3]; exact List.mem_map_of_mem hp)
    have b : p.new.length = p.nn := (r3.now.2 p hp).2.len
    simp only [Pr.upd] at a; omega
end Go.Proofs.YtedogodccblfeaaGreatDoor

namespace Go.Proofs.YtedogodccblfeaaGreatDoor
open Go.RowKit
set_option linter.unusedVariables false
set_option linter.unusedSimpArgs false

/-- a row handed back, its values in memory -/
def RowOne (w : World) (M : Nat → Prop) (id : Int) (vs : List Vl) (e : Ending) (w' : World) : Prop := ∃ (A : Option Addr) (n c : Nat), e = .returned (.agg #[.int .i64 id, .slice A n c]) ∧ n = vs.length ∧ n ≤ c ∧ c ≤ 9223372036854775807 ∧ Ro w' M (VlsIn A n vs) ∧ Below w.heap.size w w'
set_option maxHeartbeats 2000000 in
set_option maxRecDepth 100000 in
theorem dcopied_any (M : Nat → Prop) (w : World) (hM : ∀ b, M b → b < w.heap.size) (id : Int) (A : Option Addr) (n c : Nat) (vs : List Vl) (hD : Ro w M (VlsIn A n vs)) (hn : n ≤ 4398046511104) : Calls Tryz.prog 147 #[.agg #[.int .i64 id, .slice A n c]] w fun e w' => RowOne w M id vs e w' := by
  have K0 := ((Hold.start M w hM).add (hD.less (by simp [Mut]))).alloc_cst #[.int .i64 id, .slice A n c] 119 |>.alloc #[.int .i64 0, .slice none 0 0] 119
  simp only [World.size_alloc] at K0
  clear hD
  go_enter Tryz.func147, Tryz.ntmps147
  go_wp2_with fail
  obtain ⟨g1, hg1⟩ : ∃ g, g = w.heap.size := ⟨_, rfl⟩
  obtain ⟨g2, hg2⟩ : ∃ g, g = g1 + 1 := ⟨_, rfl⟩
  rw [← hg1, ← hg2] at K0 ⊢
  generalize (w.alloc _).alloc _ = w1 at K0 ⊢
  have HG := hid hg1
  clear hg1 hg2
  obtain ⟨KL, hKL, KN⟩ := K0.name
  have HF : Hid (∀ wv, Hold M none w wv KL → (wv.cell? ⟨g1, 0, none⟩ = some (.int .i64 id) ∧ wv.cell? ⟨g1, 1, none⟩ = some (.slice A n c) ∧ g1 < wv.heap.size) ∧ Ro wv (Mut M KL) (VlsIn A n vs)) := hid fun wv HC => by
    rw [hKL] at HC ⊢
    have y1 := HC.cst_ 1 rfl
    exact ⟨⟨cell_of_row _ _ 0 _ _ _ y1, cell_of_row _ _ 1 _ _ _ y1, Blk.lt y1⟩, HC.ro 2 rfl⟩
  have HKL := hid hKL
  clear hKL K0
  refine wp_region_any (by kernel_rfl) ?_
  refine wpAny_hold 6 9 (KL) (spL [(7, VlsSlot (Mut M KL) vs)]) (by kernel_rfl) (by kernel_rfl) (by kernel_rfl) rfl ?_ (KN.drew) ?_
  · exact stays_cons vlsSlot_mono (stays_nil _)
  simp only [List.take_succ_cons, List.take_zero, List.drop_succ_cons, List.drop_zero, Act.put, List.getElem_toArray, List.getElem_cons_zero, List.getElem_cons_succ, List.setIfInBounds_toArray, List.set_cons_succ, List.set_cons_zero]
  refine dw_val rfl rfl rfl ?_; apply Exists.intro; refine ⟨fun wv HC => ?_, ?_⟩
  ·  go_simp <;> rfl
  simp only [Act.put, List.setIfInBounds_toArray, List.set_cons_succ, List.set_cons_zero]
  refine dw_val rfl rfl rfl ?_; apply Exists.intro; refine ⟨fun wv HC => ?_, ?_⟩
  · obtain ⟨⟨f0, f1, f2⟩, _⟩ := HF.out _ HC; go_simp <;> rfl
  simp only [Act.put, List.setIfInBounds_toArray, List.set_cons_succ, List.set_cons_zero]
  refine dw_val rfl rfl rfl ?_; apply Exists.intro; refine ⟨fun wv HC => ?_, ?_⟩
  ·  go_simp <;> rfl
  simp only [Act.put, List.setIfInBounds_toArray, List.set_cons_succ, List.set_cons_zero]
  refine dw_val rfl rfl rfl ?_; apply Exists.intro; refine ⟨fun wv HC => ?_, ?_⟩
  · obtain ⟨⟨f0, f1, f2⟩, _⟩ := HF.out _ HC; go_simp <;> rfl
  simp only [Act.put, List.setIfInBounds_toArray, List.set_cons_succ, List.set_cons_zero]
  refine dw_callR 7 (VlsSlot (Mut M KL) vs) (f := 149) (args := #[.slice A n c]) rfl rfl rfl rfl (fun wv => ?_) (fun wv HC hrm hD => ?_) ?_
  · go_simp <;> rfl
  · refine (cloneVls_any _ wv HC.mutLt A n c vs (HF.out _ HC).2 hn).mono ?_
    rintro e w5 ⟨A5, n5, c5, rfl, h50, h51, h52, h53, b5⟩
    exact ⟨_, rfl, ⟨A5, n5, c5, rfl, h50, h51, h52, h53⟩, HC.call b5, RM.below b5⟩
  rintro x_ wx HCx ⟨A5, n5, c5, rfl, -, -, -, -⟩
  simp only [Act.put, List.setIfInBounds_toArray, List.set_cons_succ, List.set_cons_zero]
  clear HCx
  refine dw_val rfl rfl rfl ⟨.agg #[.int .i64 id, .slice A5 n5 c5], fun wv HC => ?_, ?_⟩
  · go_simp <;> rfl
  simp only [Act.put, List.setIfInBounds_toArray, List.set_cons_succ, List.set_cons_zero]
  refine rel_nil ?_
  rintro wx2 HX
  rintro _hrm HGW
  have hb : VlsSlot (Mut M KL) vs (.slice A5 n5 c5) wx2 := (GW_on (d := 7) rfl).1 (HGW 4 _ rfl (by omega))
  clear HGW _hrm
  obtain ⟨A6, n6, c6, e6, k0_, k1_, k2_, k3_⟩ := hb
  obtain ⟨rfl, rfl, rfl⟩ : A5 = A6 ∧ n5 = n6 ∧ c5 = c6 := by injection e6 with h1 h2 h3; exact ⟨h1, h2, h3⟩
  clear e6
  have K1 := HX.add k3_
  rw [HKL.out] at K1
  have F1 := K1.facts
  simp only [World.size_alloc, World.size_drew, factsL, cellsF, Nat.reduceAdd, List.toList_toArray, List.set_cons_zero, List.set_cons_succ, List.setIfInBounds_toArray, and_true, true_and] at F1
  have H0 := hid k0_
  clear HF KN k3_ HX k0_
  have KN := (K1.store 1 rfl 0 (.int .i64 id)).store 1 rfl 1 (.slice A5 n5 c5)
  have r1 := KN.roOut 0 rfl
  go_wp2_with fail
  exact bodyPost_ret (v := .agg #[.int .i64 id, .slice A5 n5 c5]) (by simp [results, Tryz.results147, go_sem, F1]) rfl ⟨A5, n5, c5, rfl, H0.out, k1_, k2_, r1, KN.below⟩
set_option maxHeartbeats 1000000 in
set_option maxRecDepth 100000 in
theorem dsameschema_any (w : World) (nm : ByteArray) (A : Option Addr) (n c : Nat) (cs : List Col) (nm2 : ByteArray) (B : Option Addr) (m d : Nat) (ds : List Col) (hD : ColsIn A n cs w) (hE : ColsIn B m ds w) (hn : n ≤ 4398046511104) :
    Calls Tryz.prog 146 #[.agg #[.string nm, .slice A n c], .agg #[.string nm2, .slice B m d]] w fun e w' => e = .returned (.bool (decide (nm = nm2 ∧ cs = ds))) ∧ Below w.heap.size w w' := by
  have K0 := ((((Hold.start None_ w (fun b hb => hb.elim)).add (Rd.ro hE (Nat.le_refl _) (by simp [Mut, None_]) : Ro w _ (ColsIn B m ds))).add (Rd.ro hD (Nat.le_refl _) (by simp [Mut, None_, Hp.foot]) : Ro w _ (ColsIn A n cs))).alloc_cst #[.string nm, .slice A n c] 49).alloc_cst #[.string nm2, .slice B m d] 49
  rw [World.size_alloc] at K0
  have F0 := K0.facts
  simp only [World.size_alloc, World.size_drew, factsL, cellsF, Nat.reduceAdd, List.toList_toArray, List.set_cons_zero, List.set_cons_succ, List.setIfInBounds_toArray, and_true, true_and] at F0
  clear hD hE
  by_cases hi : nm = nm2
  · have h1 : (nm.toList == nm2.toList) = true := by simp [hi]
    have HI := hid hi; clear hi
    go_enter Tryz.func146, Tryz.ntmps146
    go_wp2_with fail
    refine (eqCols_any _ A n c cs B m d ds (K0.ro 2 rfl).now (K0.ro 3 rfl).now hn).mono ?_
    rintro e w1 ⟨rfl, q, rfl⟩
    have K1 := K0.drewN q
    have HB := hid (show decide (nm = nm2 ∧ cs = ds) = decide (cs = ds) by simp [HI.out])
    go_wp2_with fail
    go_ret
    exact ⟨by rw [HB.out] <;> first | rfl | simp, K1.below⟩
  · have h1 : (nm.toList == nm2.toList) = false := by rw [beq_eq_false_iff_ne]; exact fun h => hi (bytesEq h)
    have HB := hid (show decide (nm = nm2 ∧ cs = ds) = false by simp [hi])
    clear hi
    go_enter Tryz.func146, Tryz.ntmps146
    go_wp2_with fail
    go_ret
    exact ⟨by rw [HB.out] <;> rfl, K0.below⟩
end Go.Proofs.YtedogodccblfeaaGreatDoor

namespace Go.Proofs.YtedogodccblfeaaGreatDoor
open Go.RowKit
set_option linter.unusedVariables false
set_option linter.unusedSimpArgs false

/-- a difference whose rows are short -/
structure DlShort (d : Dl) : Prop where
  fi : d.ins.length ≤ 4398046511104
  fd : d.del.length ≤ 4398046511104
  fu : d.upd.length ≤ 4398046511104
  ri : ∀ r ∈ d.ins, r.2.length ≤ 4398046511104
  rd : ∀ r ∈ d.del, r.2.length ≤ 4398046511104
  ru : ∀ u ∈ d.upd, u.2.1.length ≤ 4398046511104 ∧ u.2.2.length ≤ 4398046511104

end Go.Proofs.YtedogodccblfeaaGreatDoor

namespace Go.Proofs.YtedogodccblfeaaGreatDoor
open Go.RowKit
set_option linter.unusedVariables false
set_option linter.unusedSimpArgs false

def elCells (l : List El) : List Value := l.flatMap El.cells
theorem elCells_len (l : List El) : (elCells l).length = l.length * 4 := flat_len _ 4 (fun _ => rfl) l
def ElsIn (A : Option Addr) (n : Nat) (l : List El) (w : World) : Prop := SlR 4 A n (elCells l) w ∧ ∀ x ∈ l, ElIn x w
theorem ElsIn.len {w : World} {A : Option Addr} {n : Nat} {l : List El} (h : ElsIn A n l w) : l.length = n := by
  have := (show Rd w w.heap.size 4 A n (elCells l) from h.1).1
  rw [elCells_len] at this
  omega
theorem ElsIn.at_ {w : World} {A : Option Addr} {n : Nat} {l : List El} (h : ElsIn A n l w) {k : Nat} {x : El} (hx : l[k]? = some x) :
    ∃ b o, A = some ⟨b, o, none⟩ ∧ b < w.heap.size ∧ w.cell? ⟨b, o + k * 4, none⟩ = some (.string x.nm) ∧ w.cell? ⟨b, o + k * 4 + 1, none⟩ = some (.slice x.I x.ni x.ci) ∧ w.cell? ⟨b, o + k * 4 + 2, none⟩ = some (.slice x.D x.nd x.cd) ∧ w.cell? ⟨b, o + k * 4 + 3, none⟩ = some (.slice x.U x.nu x.cu) ∧ ElIn x w := by
  have hk : k < n := by rw [← h.len]; exact (List.getElem?_eq_some_iff.1 hx).1
  obtain ⟨b, o, e, hb, hc⟩ := (show Rd w w.heap.size 4 A n (elCells l) from h.1).2 (by omega)
  exact ⟨b, o, e, hb, hc _ _ (flat_get El.cells 4 (fun _ => rfl) l k 0 x (by omega) hx), hc _ _ (flat_get El.cells 4 (fun _ => rfl) l k 1 x (by omega) hx), hc _ _ (flat_get El.cells 4 (fun _ => rfl) l k 2 x (by omega) hx), hc _ _ (flat_get El.cells 4 (fun _ => rfl) l k 3 x (by omega) hx), h.2 x (List.mem_of_getElem? hx)⟩
end Go.Proofs.YtedogodccblfeaaGreatDoor

namespace Go.Proofs.YtedogodccblfeaaGreatDoor
open Go.RowKit
set_option linter.unusedVariables false
set_option linter.unusedSimpArgs false

theorem storB_tab {l : List Tb} (h : storB l = true) : ∀ t ∈ l, tabB t.nm t.cs t.nx t.rs = true := fun t ht => by
  obtain ⟨j, hj⟩ := List.getElem?_of_mem ht
  cases hb : tabB t.nm t.cs t.nx t.rs with
  | true => rfl
  | false =>
    have := storB_bad (List.getElem?_eq_some_iff.1 hj).1 (stoOk_tab hj hb)
    rw [h] at this; cases this
end Go.Proofs.YtedogodccblfeaaGreatDoor

namespace Go.Proofs.YtedogodccblfeaaGreatDoor
open Go.RowKit
set_option linter.unusedVariables false
set_option linter.unusedSimpArgs false

end Go.Proofs.YtedogodccblfeaaGreatDoor

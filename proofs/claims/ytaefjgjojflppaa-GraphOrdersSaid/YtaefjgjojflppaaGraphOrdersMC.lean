/- GWout: clear at a Hold; Clone, IndexFunc, DeleteFunc over edges; graph.Without. -/
import Derived.Test.YtaefjgjojflppaaGraphOrdersMB
import Derived.Test.YtaefjgjojflppaaGraphOrdersMA
import Derived.WalkSmall
import Derived.Lib.SliceRun
namespace Go.Proofs.Ytaefjgjojflppaa
open Go.RowKit
set_option linter.unusedVariables false
set_option linter.unusedSimpArgs false

/-- A list of strings in memory. -/
def strCells (l : List ByteArray) : List Value := l.map .string
def StrsIn (A : Option Addr) (n : Nat) (l : List ByteArray) : World → Prop := SlR 1 A n (strCells l)
theorem StrsIn.len {w : World} {A : Option Addr} {n : Nat} {l : List ByteArray} (h : StrsIn A n l w) : l.length = n := by
  have := (show Rd w w.heap.size 1 A n (strCells l) from h).1
  simpa [strCells] using this
theorem StrsIn.at_ {w : World} {A : Option Addr} {n : Nat} {l : List ByteArray} (h : StrsIn A n l w) {k : Nat} {x : ByteArray} (hx : l[k]? = some x) :
    ∃ b o, A = some ⟨b, o, none⟩ ∧ b < w.heap.size ∧ w.cell? ⟨b, o + k, none⟩ = some (.string x) := by
  have hk : k < n := by rw [← h.len]; exact (List.getElem?_eq_some_iff.1 hx).1
  obtain ⟨b, o, e, hb, hc⟩ := (show Rd w w.heap.size 1 A n (strCells l) from h).2 (by omega)
  exact ⟨b, o, e, hb, hc k _ (by simp [strCells, hx])⟩
theorem one_lks (l : List Lk) : ∀ u ∈ lkCells l, u.oneCell' = true := by
  intro u hu
  obtain ⟨x, _, hx⟩ := List.mem_flatMap.1 hu
  simp [Lk.cells] at hx
  rcases hx with rfl | rfl <;> rfl

theorem valid_at {l : List Lk} (h : validB l = true) {i : Nat} (hi : i < l.length) : okAt l i = true := by
  unfold validB at h
  rw [List.all_eq_true] at h
  exact h i (by simpa using hi)
theorem pair_of_step : ∀ {l : List Lk}, (∀ i, i + 1 < l.length → befB (lkAt l i) (lkAt l (i + 1)) = true) → LkSorted l
  | [], _ => List.Pairwise.nil
  | [x], _ => List.pairwise_singleton _ _
  | x :: y :: l, h => by
    have ih : LkSorted (y :: l) := pair_of_step fun i hi => by
      have := h (i + 1) (by simp at hi ⊢; omega)
      simpa [lkAt] using this
    have hxy : befB x y = true := by have := h 0 (by simp); simpa [lkAt] using this
    refine List.pairwise_cons.2 ⟨fun z hz => ?_, ih⟩
    rcases List.mem_cons.1 hz with rfl | hz
    · exact hxy
    · exact bef_trans hxy ((List.pairwise_cons.1 ih).1 z hz)
theorem valid_sorted {l : List Lk} (h : validB l = true) : LkSorted l := pair_of_step fun i hi => by
  have := valid_at h hi
  unfold okAt at this
  simp only [Bool.and_eq_true, Bool.or_eq_true] at this
  rcases this.1.2 with h1 | h1
  · simp at h1
  · simpa using h1

def insMany (f : ByteArray → Lk) (o : List Lk) (ss : List ByteArray) : List Lk := ss.foldl (fun o s => insL (f s) o) o
theorem insMany_succ (f : ByteArray → Lk) (o : List Lk) {ss : List ByteArray} {k : Nat} {s : ByteArray} (h : ss[k]? = some s) : insMany f o (ss.take (k + 1)) = insL (f s) (insMany f o (ss.take k)) := by
  obtain ⟨hk, rfl⟩ := List.getElem?_eq_some_iff.1 h
  unfold insMany
  rw [List.take_succ_eq_append_getElem hk, List.foldl_append]
  rfl
theorem insMany_spec (f : ByteArray → Lk) : ∀ (ss : List ByteArray) (o : List Lk), LkSorted o → LkSorted (insMany f o ss) ∧ ∀ z, z ∈ insMany f o ss ↔ z ∈ o ∨ ∃ s ∈ ss, z = f s
  | [], o, h => ⟨h, fun z => by simp [insMany]⟩
  | s :: ss, o, h => by
    obtain ⟨h1, h2⟩ := insMany_spec f ss (insL (f s) o) (insL_sorted h)
    refine ⟨h1, fun z => ?_⟩
    show z ∈ insMany f (insL (f s) o) ss ↔ _
    rw [h2 z, insL_mem h]
    simp only [List.mem_cons, exists_eq_or_imp]
    constructor
    · rintro ((h | h) | h)
      · exact .inr (.inl h)
      · exact .inl h
      · exact .inr (.inr h)
    · rintro (h | h | h)
      · exact .inl (.inr h)
      · exact .inl (.inl h)
      · exact .inr h
theorem insMany_names {ns : List ByteArray} {f : ByteArray → Lk} {ss : List ByteArray} {o : List Lk} (hs : LkSorted o) (ho : NamesIn ns o) (hf : ∀ s ∈ ss, (f s).a ∈ ns ∧ (f s).b ∈ ns) : NamesIn ns (insMany f o ss) := fun z hz => by
  rcases ((insMany_spec f ss o hs).2 z).1 hz with h | ⟨s, h, rfl⟩
  · exact ho z h
  · exact hf s h
/-- the links from which Add starts -/
def addS (l : List Lk) (nm : ByteArray) (ps fs : List ByteArray) : List Lk := insMany (fun s => ⟨s, nm⟩) (insMany (fun s => ⟨nm, s⟩) l ps) fs

/-- What Add answers. -/
def AddRet (w : World) (M : Nat → Prop) (l : List Lk) (nm : ByteArray) (ps fs : List ByteArray) (e : Ending) (w' : World) : Prop :=
  Below w.heap.size w w' ∧ ((validB l = false ∧ e = .returned (.tuple #[.slice none 0 0, .int .i64 17])) ∨
   (validB l = true ∧ ∃ r, ClosOf (addS l nm ps fs) r ∧ ((validB r = false ∧ e = .returned (.tuple #[.slice none 0 0, .int .i64 13])) ∨
     (validB r = true ∧ ∃ (A : Option Addr) (n c : Nat), e = .returned (.tuple #[.slice A n c, .int .i64 0]) ∧ n = r.length ∧ n ≤ c ∧ c ≤ 9223372036854775807 ∧ Ro w' M (LksIn A n r)))))

set_option maxHeartbeats 4000000 in
set_option maxRecDepth 100000 in
theorem radd_any (M : Nat → Prop) (w : World) (hM : ∀ b, M b → b < w.heap.size) (A : Option Addr) (n c : Nat) (l : List Lk) (nm : ByteArray) (A1 : Option Addr) (n1 c1 : Nat) (ps : List ByteArray) (A2 : Option Addr) (n2 c2 : Nat) (fs : List ByteArray) (ns : List ByteArray)
    (hD : Ro w M (LksIn A n l)) (hP : Ro w M (StrsIn A1 n1 ps)) (hF : Ro w M (StrsIn A2 n2 fs)) (hl : NamesIn ns l) (hnm : nm ∈ ns) (hps : ∀ s ∈ ps, s ∈ ns) (hfs : ∀ s ∈ fs, s ∈ ns) (hB : ns.length * ns.length ≤ 1000000) (hn : n ≤ 1000000) (hn1 : n1 ≤ 1000000) (hn2 : n2 ≤ 1000000) :
    Calls Try.prog 38 #[.slice A n c, .string nm, .slice A1 n1 c1, .slice A2 n2 c2] w fun e w' => AddRet w M l nm ps fs e w' := by
  have HL := hid hD.now.len
  have HP := hid hP.now.len
  have HF := hid hF.now.len
  have K0 := ((((Hold.start M w hM).add (hF.less (by simp [Mut]))).add (hP.less (by simp [Mut, Hp.foot]))).add (hD.less (by simp [Mut, Hp.foot])))
  cases hv : validB l
  · have HV := hid hv; clear hv
    go_enter Try.func38, Try.ntmps38
    go_wp2_with fail
    refine (rvalid_any (Mut M _) _ K0.mutLt A n c l (K0.ro 0 rfl) hn).mono ?_
    rintro e w1 ⟨rfl, b1⟩
    rw [HV.out]
    have K1 := K0.call b1
    go_wp2_with fail
    go_ret2
    exact ⟨K1.below, .inl ⟨HV.out, rfl⟩⟩
  have HV := hid hv; clear hv
  have HS := hid (valid_sorted HV.out)
  have HNM := hid (And.intro hl (And.intro hnm (And.intro hps hfs)))
  clear hl hnm hps hfs
  go_enter Try.func38, Try.ntmps38
  go_wp2_with fail
  refine (rvalid_any (Mut M _) _ K0.mutLt A n c l (K0.ro 0 rfl) hn).mono ?_
  rintro e w1 ⟨rfl, b1⟩
  rw [HV.out]
  have K1 := (K0.call b1).nil 30 2
  have r1 := hid (K1.ro 1 rfl).now
  clear b1
  go_wp2_with (at_builtin; go_must (refine wpList_appAllH K1 0 rfl Try.elLink r1.out rfl (.const (.slice none 0 0)) (.tmp 18) rfl rfl rfl (one_lks _) (by omega) (by omega) ?_); intro C' cap' w2 hc1 hc2 K2)
  have K3 := K2.sealRow 0 rfl
  simp only [List.set_cons_zero, Nat.zero_add, List.nil_append] at K3 hc1
  have K3 : Hold M none w w2 [.ro (LksIn C' n l), .ro (LksIn A n l), .ro (StrsIn A1 n1 ps), .ro (StrsIn A2 n2 fs)] := K3
  have K4 := K3.drop (List.Sublist.cons_cons _ (List.sublist_cons_self _ _))
  clear K1 K2 K3 r1
  go_loopw [10, 22] (fun v i wr => ∃ (A' : Option Addr) (n' c' k : Nat) (o : List Lk), v = .slice A' n' c' ∧ k ≤ n1 ∧ i = .int .i64 k ∧ n' ≤ c' ∧ c' ≤ 9223372036854775807 ∧ Hid (o = insMany (fun s => ⟨nm, s⟩) l (ps.take k)) ∧ Hold M none w wr [.ro (LksIn A' n' o), .ro (StrsIn A1 n1 ps), .ro (StrsIn A2 n2 fs)]) (fun _ i _ => n1 - (intOf i).toNat)
  case atStart => exact ⟨_, _, _, 0, l, by first | rfl | simp, by omega, rfl, hc1, hc2, hid rfl, K4⟩
  case round =>
    clear K4 hc1 hc2
    obtain ⟨A', n', c', k, o, rfl, hk, rfl, hc', hcm', HO, H⟩ := hrel
    have hn'l := (H.ro 0 rfl).now.len
    have HSO := hid (show LkSorted o ∧ NamesIn ns o by rw [HO.out]; exact ⟨(insMany_spec _ _ l HS.out).1, insMany_names HS.out HNM.out.1 fun s hs => ⟨HNM.out.2.1, HNM.out.2.2.1 s (List.mem_of_mem_take hs)⟩⟩)
    have hn'B : n' ≤ 1000000 := by rw [← hn'l]; exact Nat.le_trans (NamesIn.len HSO.out.2 HSO.out.1) hB
    clear hn'l
    by_cases hlt : k < n1
    · have hd : decide ((k : Int) < (n1 : Int)) = true := by simp; omega
      obtain ⟨s, hs⟩ := get_of HP.out hlt
      obtain ⟨g, oo, rfl, hb, c0⟩ := (H.ro 1 rfl).now.at_ hs
      have HX := hid (insMany_succ (fun s => (⟨nm, s⟩ : Lk)) l hs); clear hs
      go_wp2_with fail
      refine (insert_any (Mut M _) _ H.mutLt A' n' c' o ⟨nm, s⟩ (H.ro 0 rfl) hn'B).mono ?_
      rintro e w5 ⟨A5, n5, c5, rfl, h51, h52, h53, r5, b5⟩
      have H51 := hid h51; clear h51
      have K5 := ((H.call b5).add r5).drop (List.Sublist.cons_cons _ (List.sublist_cons_self _ _))
      clear r5 b5
      go_wp2_with fail
      go_roundw
      case rel => exact ⟨A5, n5, c5, k + 1, _, rfl, by omega, by go_num, h52, h53, hid (by rw [HX.out, ← HO.out]), K5⟩
      case measure => simp [intOf]; omega
    · obtain rfl : n1 = k := by omega
      have HO1 := hid (show o = insMany (fun s => ⟨nm, s⟩) l ps by have := HO.out; rwa [List.take_of_length_le (by rw [HP.out]; omega)] at this)
      have HSO1 := HSO
      clear HO hlt
      have KN := H.drop (List.Sublist.cons_cons _ (List.sublist_cons_self _ _))
      clear H hn'B HSO
      go_wp2_with fail
      go_loopw [10, 34] (fun v i wr => ∃ (A' : Option Addr) (n' c' k : Nat) (o2 : List Lk), v = .slice A' n' c' ∧ k ≤ n2 ∧ i = .int .i64 k ∧ n' ≤ c' ∧ c' ≤ 9223372036854775807 ∧ Hid (o2 = insMany (fun s => ⟨s, nm⟩) o (fs.take k)) ∧ Hold M none w wr [.ro (LksIn A' n' o2), .ro (StrsIn A2 n2 fs)]) (fun _ i _ => n2 - (intOf i).toNat)
      case atStart => exact ⟨_, _, _, 0, o, rfl, by omega, rfl, hc', hcm', hid rfl, KN⟩
      case round =>
        clear KN hc' hcm'
        obtain ⟨A', n', c', k, o2, rfl, hk, rfl, hc', hcm', HO, H⟩ := hrel
        have hn'l := (H.ro 0 rfl).now.len
        have HSO := hid (show LkSorted o2 ∧ NamesIn ns o2 by rw [HO.out]; exact ⟨(insMany_spec _ _ o HSO1.out.1).1, insMany_names HSO1.out.1 HSO1.out.2 fun s hs => ⟨HNM.out.2.2.2 s (List.mem_of_mem_take hs), HNM.out.2.1⟩⟩)
        have hn'B : n' ≤ 1000000 := by rw [← hn'l]; exact Nat.le_trans (NamesIn.len HSO.out.2 HSO.out.1) hB
        clear hn'l
        by_cases hlt : k < n2
        · have hd : decide ((k : Int) < (n2 : Int)) = true := by simp; omega
          obtain ⟨s, hs⟩ := get_of HF.out hlt
          obtain ⟨g, oo, rfl, hb, c0⟩ := (H.ro 1 rfl).now.at_ hs
          have HX := hid (insMany_succ (fun s => (⟨s, nm⟩ : Lk)) o hs); clear hs
          go_wp2_with fail
          refine (insert_any (Mut M _) _ H.mutLt A' n' c' o2 ⟨s, nm⟩ (H.ro 0 rfl) hn'B).mono ?_
          rintro e w5 ⟨A5, n5, c5, rfl, h51, h52, h53, r5, b5⟩
          have H51 := hid h51; clear h51
          have K5 := ((H.call b5).add r5).drop (List.Sublist.cons_cons _ (List.sublist_cons_self _ _))
          clear r5 b5
          go_wp2_with fail
          go_roundw
          case rel => exact ⟨A5, n5, c5, k + 1, _, rfl, by omega, by go_num, h52, h53, hid (by rw [HX.out, ← HO.out]), K5⟩
          case measure => simp [intOf]; omega
        · obtain rfl : n2 = k := by omega
          have HO2 := hid (show o2 = addS l nm ps fs by have := HO.out; rw [List.take_of_length_le (by rw [HF.out]; omega), HO1.out] at this; exact this)
          clear HO hlt
          go_wp2_with fail
          refine (closure_any (Mut M _) _ H.mutLt A' n' c' o2 ns (H.ro 0 rfl) HSO.out.1 HSO.out.2 hB hc' hcm').mono ?_
          rintro e w6 ⟨r, hr, A6, n6, c6, rfl, h61, h62, h63, r6, b6⟩
          have hn6 : n6 ≤ 1000000 := by rw [h61]; exact Nat.le_trans (NamesIn.len (fun z hz => Tr.names HSO.out.2 ((hr.2 z.a z.b).1 hz)) hr.1) hB
          have HR := hid (show ClosOf (addS l nm ps fs) r by rw [← HO2.out]; exact hr)
          have H61 := hid h61
          have K6 := (H.call b6).add r6
          clear r6 b6 hr h61
          cases hvr : validB r
          · have HVR := hid hvr; clear hvr
            go_wp2_with fail
            refine (rvalid_any (Mut M _) _ K6.mutLt A6 n6 c6 r (K6.ro 0 rfl) hn6).mono ?_
            rintro e w7 ⟨rfl, b7⟩
            rw [HVR.out]
            have K7 := K6.call b7
            clear b7
            go_wp2_with fail
            go_ret2
            exact ⟨K7.below, .inr ⟨HV.out, r, HR.out, .inl ⟨HVR.out, rfl⟩⟩⟩
          · have HVR := hid hvr; clear hvr
            go_wp2_with fail
            refine (rvalid_any (Mut M _) _ K6.mutLt A6 n6 c6 r (K6.ro 0 rfl) hn6).mono ?_
            rintro e w7 ⟨rfl, b7⟩
            rw [HVR.out]
            have K7 := K6.call b7
            clear b7
            go_wp2_with fail
            go_ret2
            exact ⟨K7.below, .inr ⟨HV.out, r, HR.out, .inr ⟨HVR.out, A6, n6, c6, rfl, H61.out, h62, h63, K7.roOut 0 rfl⟩⟩⟩
end Go.Proofs.Ytaefjgjojflppaa

namespace Go.Proofs.Ytaefjgjojflppaa
open Go.RowKit
set_option linter.unusedVariables false
set_option linter.unusedSimpArgs false

/-- the letters a to d -/
def letters : List ByteArray := [⟨#[97]⟩, ⟨#[98]⟩, ⟨#[99]⟩, ⟨#[100]⟩]
def letAt (k : Nat) : ByteArray := letters.getD k ⟨#[]⟩
def letCells : Array Value := #[.string ⟨#[97]⟩, .string ⟨#[98]⟩, .string ⟨#[99]⟩, .string ⟨#[100]⟩]
theorem let_cell {w : World} {g : Nat} {t : TypeId} (h : Blk w g t letCells) {r : Nat} (hr : r < 4) : w.cell? ⟨g, r, none⟩ = some (.string (letAt r)) := by
  rw [h.cell]
  obtain rfl | rfl | rfl | rfl : r = 0 ∨ r = 1 ∨ r = 2 ∨ r = 3 := by omega
  all_goals rfl
theorem Try.elItem : ElemT Try.prog 23 27 4 72 (.agg #[.string ⟨#[]⟩, .int .i64 0, .slice none 0 0, .slice none 0 0]) := ⟨Try.underlying23, by kernel_rfl, rfl, by omega⟩

theorem letAt_mem {r : Nat} (hr : r < 4) : letAt r ∈ letters := by
  obtain rfl | rfl | rfl | rfl : r = 0 ∨ r = 1 ∨ r = 2 ∨ r = 3 := by omega
  all_goals simp [letAt, letters]
/-- What made leaves: items and a valid order, in memory that nobody writes. -/
def MadeRet (w : World) (T : Nat) (M : Nat → Prop) (N : Nat) (e : Ending) (w' : World) : Prop :=
  ∃ (A : Option Addr) (n c : Nat) (its : List It) (B : Option Addr) (m d : Nat) (l : List Lk), e = .returned (.tuple #[.slice A n c, .slice B m d]) ∧ n ≤ N ∧ n ≤ c ∧ c ≤ 9223372036854775807 ∧ m ≤ 16 ∧ m ≤ d ∧ d ≤ 9223372036854775807 ∧ validB l = true ∧
    Ro w' M (ItsIn A n its) ∧ Ro w' M (LksIn B m l) ∧ Tp w' T ∧ w.grownBy w' (some T)
/-- what Add left in its slot -/
def AddSlot (M : Nat → Prop) (u : Value) (w : World) : Prop :=
  (∃ ec : Int, u = .tuple #[.slice none 0 0, .int .i64 ec] ∧ (ec == 0) = false) ∨
  ∃ (A : Option Addr) (n c : Nat) (r : List Lk), u = .tuple #[.slice A n c, .int .i64 0] ∧ NamesIn letters r ∧ validB r = true ∧ n ≤ c ∧ c ≤ 9223372036854775807 ∧ Ro w M (LksIn A n r)
def StrSlot (M : Nat → Prop) (u : Value) (w : World) : Prop := ∃ r g : Nat, r < 4 ∧ u = .slice (some ⟨g, 0, none⟩) 1 1 ∧ Ro w M (StrsIn (some ⟨g, 0, none⟩) 1 [letAt r])
theorem addSlot_mono {M : Nat → Prop} (u : Value) (w w' : World) (hr : RM M w w') (h : AddSlot M u w) : AddSlot M u w' := by
  rcases h with h | ⟨A, n, c, r, h1, h2, h3, h4, h5, h6⟩
  · exact .inl h
  · exact .inr ⟨A, n, c, r, h1, h2, h3, h4, h5, hr.ro h6⟩
theorem strSlot_mono {M : Nat → Prop} (u : Value) (w w' : World) (hr : RM M w w') (h : StrSlot M u w) : StrSlot M u w' := by
  obtain ⟨r, g, h1, h2, h3⟩ := h
  exact ⟨r, g, h1, h2, hr.ro h3⟩

set_option maxHeartbeats 8000000 in
set_option maxRecDepth 100000 in
theorem made_any (M : Nat → Prop) (T : Nat) (N : Nat) (w : World) (hM : ∀ b, M b → b < w.heap.size) (ht : Tp w T) (hMT : ∀ b, M b → T ≤ b) (hN2 : N ≤ 20) :
    Calls Try.prog 15 #[.pointer (some ⟨T, 0, none⟩), .int .i64 N] w fun e w' => MadeRet w T M N e w' := by
  have K0 := Hold.startT M w T hM ht hMT
  have K1 := K0.alloc_cst letCells 9
  go_enter Try.func15, Try.ntmps15
  go_wp2_with fail
  refine (next_any T (N + 1) _ (K1.tp_ 1 rfl) (by omega) (by omega)).mono ?_
  rintro e w1 ⟨n, rfl, n0, n1, t1, g1⟩
  have K2 := (Hold.callT K1 1 rfl g1 t1).nil 27 4
  clear g1 t1 K0 K1
  obtain ⟨n, rfl⟩ := Int.eq_ofNat_of_zero_le n0
  obtain ⟨B, hB⟩ : ∃ B, w.heap.size = B := ⟨_, rfl⟩
  rw [hB] at K2 ⊢
  have HB := hid hB; clear hB
  go_wp2_with fail
  go_loopw [7, 8] (fun v i wr => ∃ (k q cap : Nat) (A : Option Addr) (its : List It), i = .int .i64 k ∧ v = .slice A q cap ∧ q + k = n ∧ Hold M (some T) w wr [.own 27 4 (.slice A q cap) q (itCells its), .cst B 9 letCells, .tp T]) (fun _ i _ => (intOf i).toNat)
  case atStart => exact ⟨n, 0, 0, none, [], rfl, rfl, by omega, K2⟩
  case round =>
    obtain ⟨k, q, cap, A, its, rfl, rfl, hqk, H⟩ := hrel
    by_cases hlt : 0 < k
    · have hd : decide ((0 : Int) < (k : Int)) = true := by simp; omega
      go_wp2_with fail
      refine wp_region_any (by kernel_rfl) ?_
      refine wpAny_take (i := 0) (v := .slice A q cap) rfl (by kernel_rfl) (by kernel_rfl) (by kernel_rfl) (fun _ _ _ h => h) (Or.inl ⟨by rfl, fun w => ?_⟩) ?_
      · go_simp
      refine wpAny_draws 9 60 (fun w' => Hold M (some T) w w' [.own 27 4 (.slice A q cap) q (itCells its), .cst B 9 letCells, .tp T]) (fun d => if d = 25 then some (NatB 4) else if d = 29 then some (NatB 9) else none) (by kernel_rfl) (by kernel_rfl) (by kernel_rfl) rfl H.drew ?_
      simp only [List.take_succ_cons, List.take_zero, List.drop_succ_cons, List.drop_zero, Act.put, List.getElem_toArray, List.getElem_cons_zero, List.getElem_cons_succ, List.setIfInBounds_toArray, List.set_cons_succ, List.set_cons_zero]
      refine rel_done rfl ?_
      refine dr_val' rfl rfl rfl ?_; apply Exists.intro; refine ⟨fun wv HC => ?_, ?_⟩
      ·  go_simp <;> rfl
      simp only [Act.put, List.setIfInBounds_toArray, List.set_cons_succ, List.set_cons_zero]
      refine dr_val' rfl rfl rfl ?_; apply Exists.intro; refine ⟨fun wv HC => ?_, ?_⟩
      ·  go_simp <;> rfl
      simp only [Act.put, List.setIfInBounds_toArray, List.set_cons_succ, List.set_cons_zero]
      refine dr_next 4 2 rfl 25 rfl rfl rfl rfl (fun wv => ?_) ?_
      · go_simp <;> rfl
      rintro r hr
      simp only [Act.put, List.setIfInBounds_toArray, List.set_cons_succ, List.set_cons_zero]
      have r4 : (r : Int) < 4 := by omega
      have r0 : (0 : Int) ≤ (r : Int) := by omega
      refine dr_val' rfl rfl rfl ?_; apply Exists.intro; refine ⟨fun wv HC => ?_, ?_⟩
      ·  go_simp <;> rfl
      simp only [Act.put, List.setIfInBounds_toArray, List.set_cons_succ, List.set_cons_zero]
      refine dr_val' rfl rfl rfl ?_; apply Exists.intro; refine ⟨fun wv HC => ?_, ?_⟩
      · have hc := let_cell (HC.cst_ 1 rfl) hr; go_simp <;> rfl
      simp only [Act.put, List.setIfInBounds_toArray, List.set_cons_succ, List.set_cons_zero]
      refine dr_val' rfl rfl rfl ?_; apply Exists.intro; refine ⟨fun wv HC => ?_, ?_⟩
      ·  go_simp <;> rfl
      simp only [Act.put, List.setIfInBounds_toArray, List.set_cons_succ, List.set_cons_zero]
      refine dr_next 9 2 rfl 29 rfl rfl rfl rfl (fun wv => ?_) ?_
      · go_simp <;> rfl
      rintro s hs
      simp only [Act.put, List.setIfInBounds_toArray, List.set_cons_succ, List.set_cons_zero]
      refine dr_val' rfl rfl rfl ?_; apply Exists.intro; refine ⟨fun wv HC => ?_, ?_⟩
      ·  go_simp <;> rfl
      simp only [Act.put, List.setIfInBounds_toArray, List.set_cons_succ, List.set_cons_zero]
      refine rel_nil ?_
      rintro wx HX
      go_wp2_with (at_builtin; go_must (refine wpList_appH HX 0 rfl Try.elItem #[.string (letAt r), .int .i64 s, .slice none 0 0, .slice none 0 0] rfl (.tmp 22) (.tmp 31) rfl rfl wx.heap.size rfl rfl rfl (by intro u hu; simp at hu; rcases hu with rfl | rfl | rfl | rfl <;> rfl) (by omega) (by omega) ?_); intro g2 cap2 w2 hc2 hm2 K3)
      go_roundw
      case rel =>
        refine ⟨k - 1, q + 1, cap2, _, its ++ [⟨letAt r, s, none, 0, 0, none, 0, 0⟩], ?_, rfl, by omega, ?_⟩
        · rw [show ((k - 1 : Nat) : Int) = (k : Int) - 1 by omega]
        · have e : itCells (its ++ [⟨letAt r, s, none, 0, 0, none, 0, 0⟩]) = itCells its ++ (#[Value.string (letAt r), .int .i64 s, .slice none 0 0, .slice none 0 0]).toList := by simp [itCells, It.cells]
          rw [e]; exact K3
      case measure => simp [intOf]; omega
    · obtain rfl : k = 0 := by omega
      have hqn : q = n := by omega
      have HQN := hid hqn
      have hcap := own_caps (H.get 0 rfl)
      have KS := H.sealRow 0 rfl
      simp only [List.set_cons_zero] at KS
      have KL := KS.add (S := LksIn none 0 []) ro_nil
      clear KS H K2
      go_wp2_with fail
      refine (next_any T 4 _ (KL.tp_ 3 rfl) (by omega) (by omega)).mono ?_
      rintro e w3 ⟨m, rfl, m0, m1, t3, g3⟩
      have K4 := Hold.callT KL 3 rfl g3 t3
      clear g3 t3 KL
      obtain ⟨m, rfl⟩ := Int.eq_ofNat_of_zero_le m0
      go_wp2_with fail
      go_loopw [9, 10] (fun v i wr => ∃ (k m c : Nat) (A2 : Option Addr) (l : List Lk), i = .int .i64 k ∧ k ≤ 4 ∧ v = .slice A2 m c ∧ m ≤ c ∧ c ≤ 9223372036854775807 ∧ Hid (NamesIn letters l ∧ validB l = true) ∧ Hold M (some T) w wr [.ro (LksIn A2 m l), .ro (SlR 4 A q (itCells its)), .cst B 9 letCells, .tp T]) (fun _ i _ => (intOf i).toNat)
      case atStart => exact ⟨m, 0, 0, none, [], rfl, by omega, rfl, by omega, by omega, hid ⟨fun z hz => (by cases hz), by decide⟩, K4⟩
      case round =>
        clear K4 m1 m0
        obtain ⟨k, m, c, A2, l, rfl, hk, rfl, hmc, hcm, HV, H⟩ := hrel
        have hml : m ≤ 16 := by
          rw [← (H.ro 0 rfl).now.len]
          exact HV.out.1.len (valid_sorted HV.out.2)
        by_cases hlt : 0 < k
        · have hd : decide ((0 : Int) < (k : Int)) = true := by simp; omega
          go_wp2_with fail
          refine wp_region_any (by kernel_rfl) ?_
          refine wpAny_holdC 13 60 ([.ro (LksIn A2 m l), .ro (SlR 4 A q (itCells its)), .cst B 9 letCells, .tp T]) (spL [(43, fun u _ => NatB 4 u), (48, fun u _ => NatB 4 u), (51, StrSlot (Mut M [.ro (LksIn A2 m l), .ro (SlR 4 A q (itCells its)), .cst B 9 letCells, .tp T])), (52, AddSlot (Mut M [.ro (LksIn A2 m l), .ro (SlR 4 A q (itCells its)), .cst B 9 letCells, .tp T]))]) (by kernel_rfl) (by kernel_rfl) (by kernel_rfl) rfl ?_ (H.drew) ?_
          · exact stays_cons (fun _ _ _ _ h => h) (stays_cons (fun _ _ _ _ h => h) (stays_cons strSlot_mono (stays_cons addSlot_mono (stays_nil _))))
          simp only [List.take_succ_cons, List.take_zero, List.drop_succ_cons, List.drop_zero, Act.put, List.getElem_toArray, List.getElem_cons_zero, List.getElem_cons_succ, List.setIfInBounds_toArray, List.set_cons_succ, List.set_cons_zero]
          refine dw_val rfl rfl rfl ?_; apply Exists.intro; refine ⟨fun wv HC => ?_, ?_⟩
          ·  go_simp <;> rfl
          simp only [Act.put, List.setIfInBounds_toArray, List.set_cons_succ, List.set_cons_zero]
          refine dw_val rfl rfl rfl ?_; apply Exists.intro; refine ⟨fun wv HC => ?_, ?_⟩
          ·  go_simp <;> rfl
          simp only [Act.put, List.setIfInBounds_toArray, List.set_cons_succ, List.set_cons_zero]
          refine dw_val rfl rfl rfl ?_; apply Exists.intro; refine ⟨fun wv HC => ?_, ?_⟩
          ·  go_simp <;> rfl
          simp only [Act.put, List.setIfInBounds_toArray, List.set_cons_succ, List.set_cons_zero]
          refine dw_next 4 3 rfl 43 rfl rfl rfl rfl (fun wv => ?_) ?_
          · go_simp <;> rfl
          rintro r hr
          simp only [Act.put, List.setIfInBounds_toArray, List.set_cons_succ, List.set_cons_zero]
          have r4 : (r : Int) < 4 := by omega
          have r0 : (0 : Int) ≤ (r : Int) := by omega
          refine dw_val rfl rfl rfl ?_; apply Exists.intro; refine ⟨fun wv HC => ?_, ?_⟩
          ·  go_simp <;> rfl
          simp only [Act.put, List.setIfInBounds_toArray, List.set_cons_succ, List.set_cons_zero]
          refine dw_val rfl rfl rfl ?_; apply Exists.intro; refine ⟨fun wv HC => ?_, ?_⟩
          · have hc := let_cell (HC.cst_ 2 rfl) hr; go_simp <;> rfl
          simp only [Act.put, List.setIfInBounds_toArray, List.set_cons_succ, List.set_cons_zero]
          refine dw_val rfl rfl rfl ?_; apply Exists.intro; refine ⟨fun wv HC => ?_, ?_⟩
          ·  go_simp <;> rfl
          simp only [Act.put, List.setIfInBounds_toArray, List.set_cons_succ, List.set_cons_zero]
          refine dw_val rfl rfl rfl ?_; apply Exists.intro; refine ⟨fun wv HC => ?_, ?_⟩
          ·  go_simp <;> rfl
          simp only [Act.put, List.setIfInBounds_toArray, List.set_cons_succ, List.set_cons_zero]
          refine dw_next 4 3 rfl 48 rfl rfl rfl rfl (fun wv => ?_) ?_
          · go_simp <;> rfl
          rintro s hs
          simp only [Act.put, List.setIfInBounds_toArray, List.set_cons_succ, List.set_cons_zero]
          have s4 : (s : Int) < 4 := by omega
          have s0 : (0 : Int) ≤ (s : Int) := by omega
          refine dw_val rfl rfl rfl ?_; apply Exists.intro; refine ⟨fun wv HC => ?_, ?_⟩
          ·  go_simp <;> rfl
          simp only [Act.put, List.setIfInBounds_toArray, List.set_cons_succ, List.set_cons_zero]
          refine dw_val rfl rfl rfl ?_; apply Exists.intro; refine ⟨fun wv HC => ?_, ?_⟩
          · have hc := let_cell (HC.cst_ 2 rfl) hs; go_simp <;> rfl
          simp only [Act.put, List.setIfInBounds_toArray, List.set_cons_succ, List.set_cons_zero]
          refine dw_new #[.string (letAt s)] 9 51 (StrSlot (Mut M [.ro (LksIn A2 m l), .ro (SlR 4 A q (itCells its)), .cst B 9 letCells, .tp T])) (fun g => .slice (some ⟨g, 0, none⟩) 1 1) rfl rfl rfl rfl (fun wv => ?_) (fun wv HC _ _ hro => ⟨s, _, hs, rfl, ro_block (hro _ HC.mutLt) rfl⟩) ?_
          · go_simp <;> rfl
          rintro g wg HCg hsl
          simp only [Act.put, List.setIfInBounds_toArray, List.set_cons_succ, List.set_cons_zero]
          clear hsl HCg
          refine dw_call 52 (AddSlot (Mut M [.ro (LksIn A2 m l), .ro (SlR 4 A q (itCells its)), .cst B 9 letCells, .tp T])) (f := 38) (args := #[.slice A2 m c, .string (letAt r), .slice (some ⟨g, 0, none⟩) 1 1, .slice none 0 0]) rfl rfl rfl rfl (fun wv => ?_) (fun wv HC hD => ?_) ?_
          · go_simp <;> rfl
          · have hsl : StrSlot _ (.slice (some ⟨g, 0, none⟩) 1 1) wv := deps_at hD 11 rfl (by kernel_rfl) rfl rfl
            obtain ⟨x, g', hx, e, hS⟩ := hsl
            obtain rfl : g = g' := by injection e with e; injection e with e; injection e
            refine (radd_any _ wv HC.mutLt A2 m c l (letAt r) (some ⟨g, 0, none⟩) 1 1 [letAt x] none 0 0 [] letters (HC.ro 0 rfl) hS ro_nil HV.out.1 (letAt_mem hr) (by intro y hy; simp at hy; rw [hy]; exact letAt_mem hx) (by intro y hy; cases hy) (by decide) (by omega) (by omega) (by omega)).mono ?_
            rintro e w' ⟨hb, hcase⟩
            rcases hcase with ⟨_, rfl⟩ | ⟨hvl, rr, hcl, ⟨_, rfl⟩ | ⟨hvr, A5, n5, c5, rfl, h5, h6, h7, h8⟩⟩
            · exact ⟨_, rfl, .inl ⟨17, rfl, by decide⟩, HC.call hb, RM.below hb⟩
            · exact ⟨_, rfl, .inl ⟨13, rfl, by decide⟩, HC.call hb, RM.below hb⟩
            · refine ⟨_, rfl, .inr ⟨A5, n5, c5, rr, rfl, fun z hz => Tr.names ?_ ((hcl.2 z.a z.b).1 hz), hvr, h6, h7, h8⟩, HC.call hb, RM.below hb⟩
              have hsl := valid_sorted hvl
              exact insMany_names (insMany_spec _ _ l hsl).1 (insMany_names hsl HV.out.1 fun y hy => ⟨letAt_mem hr, by simp at hy; rw [hy]; exact letAt_mem hx⟩) (fun y hy => by cases hy)
          rintro u wu HCu _
          simp only [Act.put, List.setIfInBounds_toArray, List.set_cons_succ, List.set_cons_zero]
          refine rel_nil ?_
          rintro wx HX _hrm HG
          simp only [List.length_cons, List.length_nil, Nat.reduceAdd, Nat.reduceSub]
          have hu : AddSlot (Mut M [.ro (LksIn A2 m l), .ro (SlR 4 A q (itCells its)), .cst B 9 letCells, .tp T]) u wx := (GW_on (d := 52) rfl).1 (HG 12 _ rfl (by omega))
          clear HG HCu
          rcases hu with ⟨ec, rfl, hec⟩ | ⟨A5, n5, c5, rr, rfl, hn5, hv5, h55, h56, r5⟩
          · have _hh := hec
            refine wpAny_take (i := 13) (v := .tuple #[.slice none 0 0, .int .i64 ec]) rfl (by kernel_rfl) (by kernel_rfl) (by kernel_rfl) (fun _ _ _ h => h) (Or.inl ⟨by rfl, fun w => ?_⟩) ?_
            · go_simp
            simp only [Act.put, List.getElem_toArray, List.getElem_cons_zero, List.getElem_cons_succ, List.setIfInBounds_toArray, List.set_cons_succ, List.set_cons_zero]
            refine wpAny_take (i := 14) (v := .slice none 0 0) rfl (by kernel_rfl) (by kernel_rfl) (by kernel_rfl) (fun _ _ _ h => h) (Or.inl ⟨by rfl, fun w => ?_⟩) ?_
            · go_simp
            simp only [Act.put, List.getElem_toArray, List.getElem_cons_zero, List.getElem_cons_succ, List.setIfInBounds_toArray, List.set_cons_succ, List.set_cons_zero]
            refine wpAny_take (i := 16) (v := .slice none 0 0) rfl (by kernel_rfl) (by kernel_rfl) (by kernel_rfl) (fun _ _ _ h => h) (Or.inl ⟨by rfl, fun w => ?_⟩) ?_
            · go_simp
            simp only [Act.put, List.getElem_toArray, List.getElem_cons_zero, List.getElem_cons_succ, List.setIfInBounds_toArray, List.set_cons_succ, List.set_cons_zero]
            refine wpAny_take (i := 15) (v := .int .i64 ec) rfl (by kernel_rfl) (by kernel_rfl) (by kernel_rfl) (fun _ _ _ h => h) (Or.inl ⟨by rfl, fun w => ?_⟩) ?_
            · go_simp
            simp only [Act.put, List.getElem_toArray, List.getElem_cons_zero, List.getElem_cons_succ, List.setIfInBounds_toArray, List.set_cons_succ, List.set_cons_zero]
            refine wpAny_take (i := 17) (v := .int .i64 ec) rfl (by kernel_rfl) (by kernel_rfl) (by kernel_rfl) (fun _ _ _ h => h) (Or.inl ⟨by rfl, fun w => ?_⟩) ?_
            · go_simp
            simp only [Act.put, List.getElem_toArray, List.getElem_cons_zero, List.getElem_cons_succ, List.setIfInBounds_toArray, List.set_cons_succ, List.set_cons_zero]
            refine wpAny_done (by kernel_rfl) ?_ _
            go_wp2_with fail
            go_roundw
            case rel =>
              refine ⟨k - 1, m, c, A2, l, ?_, by omega, rfl, hmc, hcm, HV, HX⟩
              rw [show ((k - 1 : Nat) : Int) = (k : Int) - 1 by omega]
            case measure => simp [intOf]; omega
          · have HV5 := hid (And.intro hn5 hv5)
            have K5 := (HX.add r5).drop (List.Sublist.cons_cons _ (List.sublist_cons_self _ _))
            refine wpAny_take (i := 13) (v := .tuple #[.slice A5 n5 c5, .int .i64 0]) rfl (by kernel_rfl) (by kernel_rfl) (by kernel_rfl) (fun _ _ _ h => h) (Or.inl ⟨by rfl, fun w => ?_⟩) ?_
            · go_simp
            simp only [Act.put, List.getElem_toArray, List.getElem_cons_zero, List.getElem_cons_succ, List.setIfInBounds_toArray, List.set_cons_succ, List.set_cons_zero]
            refine wpAny_take (i := 14) (v := .slice A5 n5 c5) rfl (by kernel_rfl) (by kernel_rfl) (by kernel_rfl) (fun _ _ _ h => h) (Or.inl ⟨by rfl, fun w => ?_⟩) ?_
            · go_simp
            simp only [Act.put, List.getElem_toArray, List.getElem_cons_zero, List.getElem_cons_succ, List.setIfInBounds_toArray, List.set_cons_succ, List.set_cons_zero]
            refine wpAny_take (i := 16) (v := .slice A5 n5 c5) rfl (by kernel_rfl) (by kernel_rfl) (by kernel_rfl) (fun _ _ _ h => h) (Or.inl ⟨by rfl, fun w => ?_⟩) ?_
            · go_simp
            simp only [Act.put, List.getElem_toArray, List.getElem_cons_zero, List.getElem_cons_succ, List.setIfInBounds_toArray, List.set_cons_succ, List.set_cons_zero]
            refine wpAny_take (i := 15) (v := .int .i64 0) rfl (by kernel_rfl) (by kernel_rfl) (by kernel_rfl) (fun _ _ _ h => h) (Or.inl ⟨by rfl, fun w => ?_⟩) ?_
            · go_simp
            simp only [Act.put, List.getElem_toArray, List.getElem_cons_zero, List.getElem_cons_succ, List.setIfInBounds_toArray, List.set_cons_succ, List.set_cons_zero]
            refine wpAny_take (i := 17) (v := .int .i64 0) rfl (by kernel_rfl) (by kernel_rfl) (by kernel_rfl) (fun _ _ _ h => h) (Or.inl ⟨by rfl, fun w => ?_⟩) ?_
            · go_simp
            simp only [Act.put, List.getElem_toArray, List.getElem_cons_zero, List.getElem_cons_succ, List.setIfInBounds_toArray, List.set_cons_succ, List.set_cons_zero]
            refine wpAny_done (by kernel_rfl) ?_ _
            go_wp2_with fail
            go_roundw
            case rel =>
              refine ⟨k - 1, n5, c5, A5, rr, ?_, by omega, rfl, h55, h56, HV5, K5⟩
              rw [show ((k - 1 : Nat) : Int) = (k : Int) - 1 by omega]
            case measure => simp [intOf]; omega
        · go_wp2_with fail
          go_ret2
          exact ⟨A, n, cap, its, A2, m, c, l, rfl, by omega, by omega, hcap.2.1, hml, hmc, hcm, HV.out.2, by have := H.roOut 1 rfl; rwa [HQN.out] at this, H.roOut 0 rfl, H.tp_ 3 rfl, H.grow⟩
end Go.Proofs.Ytaefjgjojflppaa

namespace Go.Proofs.Ytaefjgjojflppaa
open Go.RowKit
set_option linter.unusedVariables false
set_option linter.unusedSimpArgs false

theorem valid_link {l : List Lk} (h : validB l = true) {x : Lk} (hx : x ∈ l) : x.a ≠ x.b ∧ ∀ y ∈ l, x.b = y.a → (⟨x.a, y.b⟩ : Lk) ∈ l := by
  obtain ⟨i, hi, rfl⟩ := List.getElem_of_mem hx
  have h1 := valid_at h hi
  unfold okAt at h1
  rw [show lkAt l i = l[i] by simp [lkAt, List.getD, hi]] at h1
  simp only [Bool.and_eq_true, Bool.not_eq_true'] at h1
  refine ⟨fun e => ?_, fun y hy hb => ?_⟩
  · have := h1.1.1; rw [e] at this; simp at this
  · have h2 := List.all_eq_true.1 h1.2 y hy
    unfold trB at h2
    rw [Bool.or_eq_true] at h2
    rcases h2 with h2 | h2
    · rw [hb] at h2; simp at h2
    · exact precB_iff.1 h2
theorem prec_irr {l : List Lk} (h : validB l = true) (a : ByteArray) : precB l a a = false := by
  cases hp : precB l a a
  · rfl
  · exact absurd rfl (valid_link h (precB_iff.1 hp)).1
theorem prec_tr {l : List Lk} (h : validB l = true) {a b c : ByteArray} (h1 : precB l a b = true) (h2 : precB l b c = true) : precB l a c = true :=
  precB_iff.2 ((valid_link h (precB_iff.1 h1)).2 _ (precB_iff.1 h2) rfl)
theorem exists_min {f : Nat → Nat → Bool} (hi : ∀ a, f a a = false) (ht : ∀ a b c, f a b = true → f b c = true → f a c = true) : ∀ L : List Nat, L ≠ [] → ∃ x ∈ L, ∀ k ∈ L, f k x = false
  | [], h => absurd rfl h
  | [a], _ => ⟨a, by simp, fun k hk => by simp at hk; rw [hk]; exact hi a⟩
  | a :: b :: L, _ => by
    obtain ⟨x, hx, hm⟩ := exists_min hi ht (b :: L) (by simp)
    cases hax : f a x
    · exact ⟨x, List.mem_cons_of_mem _ hx, fun k hk => by
        rcases List.mem_cons.1 hk with rfl | hk
        · exact hax
        · exact hm k hk⟩
    · refine ⟨a, by simp, fun k hk => ?_⟩
      rcases List.mem_cons.1 hk with rfl | hk
      · exact hi k
      · cases hka : f k a
        · rfl
        · have := ht k a x hka hax
          rw [hm k hk] at this; cases this
abbrev toI (L : List Nat) : List Int := L.map fun (i : Nat) => (i : Int)
def marks (n : Nat) (L : List Nat) : List Bool := (List.range n).map fun i => !L.contains i
theorem marks_get {n : Nat} (L : List Nat) {i : Nat} (hi : i < n) : (marks n L).getD i false = !L.contains i := by simp [marks, List.getD, hi]
theorem marks_all (n : Nat) : marks n (List.range n) = List.replicate n false := by
  apply List.ext_getElem
  · simp [marks]
  · intro i h1 h2
    have : i < n := by simpa using h2
    simp [marks, this]
structure FI (f : Nat → Nat → Bool) (n : Nat) (L F : List Nat) : Prop where
  nd : L.Nodup
  lt : ∀ x ∈ L, x < n
  ltF : ∀ x ∈ F, x < n
  len : F.length + L.length = n
  ext : ∀ x ∈ extS f n (L.length + 1) (marks n L) (toI F), x ∈ extS f n (n + 1) (List.replicate n false) []
  pw : F.Pairwise fun a b => f b a = false
  nb : ∀ a ∈ F, ∀ b ∈ L, f b a = false
theorem FI.start (f : Nat → Nat → Bool) (n : Nat) : FI f n (List.range n) [] where
  nd := List.nodup_range
  lt := fun x hx => List.mem_range.1 hx
  ltF := fun x hx => by cases hx
  len := by simp
  ext := fun x hx => by rw [marks_all, List.length_range] at hx; exact hx
  pw := List.Pairwise.nil
  nb := fun a ha => by cases ha
theorem FI.step {f : Nat → Nat → Bool} {n : Nat} {X Y F : List Nat} {x : Nat} (h : FI f n (X ++ x :: Y) F) (hf : ∀ k ∈ X ++ Y, f k x = false) (hxx : f x x = false) : FI f n (X ++ Y) (F ++ [x]) := by
  have hsub : List.Sublist (X ++ Y) (X ++ x :: Y) := List.Sublist.append (List.Sublist.refl _) (List.sublist_cons_self _ _)
  have hxl : x ∈ X ++ x :: Y := by simp
  have hxn : x < n := h.lt x hxl
  have hnot : x ∉ X ++ Y := by
    have := h.nd
    rw [List.nodup_append] at this
    obtain ⟨h1, h2, h3⟩ := this
    intro hm
    rcases List.mem_append.1 hm with hm | hm
    · exact h3 x hm x (by simp) rfl
    · exact (List.nodup_cons.1 h2).1 hm
  have hlen := h.len
  simp only [List.length_append, List.length_cons] at hlen
  refine ⟨h.nd.sublist hsub, fun y hy => h.lt y (hsub.subset hy), fun y hy => ?_, by simp; omega, fun z hz => ?_, ?_, fun a ha b hb => ?_⟩
  · rcases List.mem_append.1 hy with hy | hy
    · exact h.ltF y hy
    · simp at hy; subst hy; exact hxn
  · refine h.ext z ?_
    have hl2 : (X ++ x :: Y).length = (X ++ Y).length + 1 := by simp; omega
    rw [hl2, extS_part (by simp; omega)]
    unfold extP
    rw [List.mem_flatMap]
    refine ⟨x, List.mem_range.2 hxn, ?_⟩
    unfold extB
    have hfree : freeU f (marks n (X ++ x :: Y)) n x = true := by
      unfold freeU
      rw [marks_get _ hxn]
      have hc : (X ++ x :: Y).contains x = true := by simp
      rw [hc]
      simp only [Bool.not_true, Bool.not_false, Bool.true_and, Bool.not_eq_true']
      unfold blkU
      rw [List.any_eq_false]
      intro k hk
      have hkn := List.mem_range.1 hk
      rw [marks_get _ hkn]
      simp only [Bool.not_not, Bool.and_eq_true, bne_iff_ne, ne_eq, not_and, Bool.not_eq_true]
      intro hkx hck
      refine hf k ?_
      have : k ∈ X ++ x :: Y := by simpa using hck
      rcases List.mem_append.1 this with hm | hm
      · exact List.mem_append_left _ hm
      · rcases List.mem_cons.1 hm with hm | hm
        · exact absurd hm hkx
        · exact List.mem_append_right _ hm
    rw [if_pos hfree]
    have hset : (marks n (X ++ x :: Y)).set x true = marks n (X ++ Y) := by
      apply List.ext_getElem
      · simp [marks]
      · intro i h1 h2
        have hin : i < n := by simpa [marks] using h2
        rw [List.getElem_set]
        split
        · rename_i hxi; subst hxi
          simp only [marks, List.getElem_map, List.getElem_range]
          have : (X ++ Y).contains x = false := by
            cases hc : (X ++ Y).contains x
            · rfl
            · exact absurd (by simpa using hc) hnot
          rw [this]; rfl
        · rename_i hxi
          simp only [marks, List.getElem_map, List.getElem_range]
          congr 1
          rw [Bool.eq_iff_iff]
          simp only [List.contains_iff_mem, List.mem_append, List.mem_cons]
          constructor
          · rintro (h | h | h)
            · exact .inl h
            · exact absurd h.symm hxi
            · exact .inr h
          · rintro (h | h)
            · exact .inl h
            · exact .inr (.inr h)
    rw [hset]
    simpa using hz
  · rw [List.pairwise_append]
    exact ⟨h.pw, List.pairwise_singleton _ _, fun a ha b hb => by simp at hb; subst hb; exact h.nb a ha b hxl⟩
  · rcases List.mem_append.1 ha with ha | ha
    · exact h.nb a ha b (hsub.subset hb)
    · simp at ha; subst ha; exact hf b hb
theorem FI.done {f : Nat → Nat → Bool} {n : Nat} {F : List Nat} (h : FI f n [] F) : toI F ∈ extS f n (n + 1) (List.replicate n false) [] := by
  refine h.ext _ ?_
  have hl := h.len
  simp only [List.length_nil, Nat.zero_add] at hl ⊢
  rw [extS_full (by simp; omega)]
  simp
def eligI (its : List It) (l : List Lk) : List Int := (eligN its l its.length).map fun (i : Nat) => (i : Int)
theorem eligL_cells (its : List It) (l : List Lk) : eligL its l its.length = iCells (eligI its l) := by simp [eligL, eligI, iCells]
theorem eligI_le (its : List It) (l : List Lk) : (eligI its l).length ≤ its.length := by
  unfold eligI eligN
  rw [List.length_map]
  exact Nat.le_trans (List.length_filter_le _ _) (by simp)
/-- how many sequences at most -/
def facN : Nat → Nat | 0 => 1 | k + 1 => facN k * (k + 1)
theorem flatMap_le {α β : Type} (p : α → Bool) (g : α → List β) (B : Nat) : ∀ L : List α, (∀ x ∈ L, p x = false → g x = []) → (∀ x ∈ L, p x = true → (g x).length ≤ B) → (L.flatMap g).length ≤ L.countP p * B
  | [], _, _ => by simp
  | x :: L, h1, h2 => by
    have ih := flatMap_le p g B L (fun y hy => h1 y (List.mem_cons_of_mem _ hy)) (fun y hy => h2 y (List.mem_cons_of_mem _ hy))
    rw [List.flatMap_cons, List.length_append, List.countP_cons]
    cases hp : p x
    · rw [h1 x (by simp) hp]; simpa using ih
    · have := h2 x (by simp) hp
      simp only [if_true, Nat.add_mul, Nat.one_mul]
      omega
theorem count_range (us : List Bool) : (List.range us.length).countP (fun i => !us.getD i false) = us.countP (!·) := by
  have : us.countP (!·) = ((List.range us.length).map fun i => us.getD i false).countP (!·) := by
    congr 1
    apply List.ext_getElem
    · simp
    · intro i h1 h2
      simp [List.getD, h1]
  rw [this, List.countP_map]
  rfl
theorem count_set_f {us : List Bool} {k : Nat} (hk : k < us.length) (h : us.getD k false = false) : (us.set k true).countP (!·) + 1 = us.countP (!·) := by
  have h1 : us[k] = false := by simpa [List.getD, hk] using h
  conv => rhs; rw [← List.take_append_drop k us, List.drop_eq_getElem_cons hk, h1]
  rw [List.set_eq_take_append_cons_drop, if_pos hk]
  simp only [List.countP_append, List.countP_cons]
  simp
  omega
theorem extS_count (f : Nat → Nat → Bool) (n : Nat) : ∀ (fuel : Nat) (us : List Bool) (nw : List Int), us.length = n → (extS f n fuel us nw).length ≤ facN (us.countP (!·))
  | 0, us, nw, _ => by simp [extS]
  | fuel + 1, us, nw, hl => by
    have hpos : ∀ k, 1 ≤ facN k := fun k => by
      induction k with
      | zero => exact Nat.le_refl _
      | succ k ih => exact Nat.le_trans ih (Nat.le_mul_of_pos_right _ (by omega))
    unfold extS
    split
    · exact hpos _
    · cases hc : us.countP (!·) with
      | zero =>
        have hall : ((List.range n).flatMap fun i => if freeU f us n i then extS f n fuel (us.set i true) (nw ++ [(i : Int)]) else []) = [] := by
          rw [List.flatMap_eq_nil_iff]
          intro i hi
          have hin := List.mem_range.1 hi
          have : us.getD i false = true := by
            have := List.countP_eq_zero.1 hc us[i] (List.getElem_mem (by omega))
            simpa [List.getD, hl ▸ hin, show i < us.length by omega] using this
          simp only [freeU, this, Bool.not_true, Bool.false_and]
          rfl
        rw [hall]; exact Nat.zero_le _
      | succ u =>
        have h1 := flatMap_le (fun i => !us.getD i false) (fun i => if freeU f us n i then extS f n fuel (us.set i true) (nw ++ [(i : Int)]) else []) (facN u) (List.range n) (fun i hi hp => by
          have : us.getD i false = true := by simpa using hp
          simp only [freeU, this, Bool.not_true, Bool.false_and]
          rfl) (fun i hi hp => by
          have hin := List.mem_range.1 hi
          have hu : us.getD i false = false := by simpa using hp
          split
          · have h2 := extS_count f n fuel (us.set i true) (nw ++ [(i : Int)]) (by simpa using hl)
            have h3 := count_set_f (us := us) (k := i) (by omega) hu
            rw [show (us.set i true).countP (!·) = u by omega] at h2
            exact h2
          · exact Nat.zero_le _)
        have h4 := count_range us
        rw [hl, hc] at h4
        rw [h4, Nat.mul_comm] at h1
        exact h1
theorem extS_all (f : Nat → Nat → Bool) (n : Nat) (hn : n ≤ 5) : ordL f n 200 = extS f n (n + 1) (List.replicate n false) [] := by
  unfold ordL
  rw [if_neg (by omega), List.take_of_length_le]
  have h := extS_count f n (n + 1) (List.replicate n false) [] (by simp)
  rw [List.countP_replicate] at h
  simp only [Bool.not_false, if_true] at h
  have : facN n ≤ 120 := by
    rcases (show n = 0 ∨ n = 1 ∨ n = 2 ∨ n = 3 ∨ n = 4 ∨ n = 5 by omega) with rfl | rfl | rfl | rfl | rfl | rfl <;> decide
  show _ ≤ 200
  omega
/-- the items that are left -/
def it0 : It := ⟨⟨#[]⟩, 0, none, 0, 0, none, 0, 0⟩
def nowL (its : List It) (L : List Nat) : List It := L.map fun i => its.getD i it0
theorem trAt_now {its : List It} {L : List Nat} {p : Nat} (hp : p < L.length) (hl : ∀ x ∈ L, x < its.length) : trAt (nowL its L) p = trAt its L[p] := by
  have h1 := hl L[p] (List.getElem_mem hp)
  unfold trAt nowL
  simp [List.getD, hp, h1]
theorem now_blk {its : List It} {l : List Lk} {L : List Nat} {p : Nat} (hp : p < L.length) (hl : ∀ x ∈ L, x < its.length) (h : blkB (nowL its L) l p (nowL its L).length = false) : ∀ k (hk : k < L.length), k ≠ p → ordF its l L[k] L[p] = false := fun k hk hkp => by
  unfold blkB at h
  rw [List.any_eq_false] at h
  have := h k (List.mem_range.2 (by simpa [nowL] using hk))
  rw [trAt_now hk hl, trAt_now hp hl] at this
  unfold ordF
  simpa [hkp] using this
theorem now_blk' {its : List It} {l : List Lk} {L : List Nat} {p : Nat} (hp : p < L.length) (hl : ∀ x ∈ L, x < its.length) (h : ∀ k ∈ L, ordF its l k L[p] = false) : blkB (nowL its L) l p (nowL its L).length = false := by
  unfold blkB
  rw [List.any_eq_false]
  intro k hk
  have hk : k < L.length := by have := List.mem_range.1 hk; simpa [nowL] using this
  rw [trAt_now hk hl, trAt_now hp hl]
  have := h L[k] (List.getElem_mem hk)
  unfold ordF at this
  simp [this]
theorem eligI_at {its : List It} {l : List Lk} {c : Nat} {x : Int} (h : (eligI its l)[c]? = some x) : ∃ p : Nat, x = (p : Int) ∧ p < its.length ∧ blkB its l p its.length = false := by
  unfold eligI at h
  rw [List.getElem?_map] at h
  obtain ⟨p, hp, rfl⟩ := Option.map_eq_some_iff.1 h
  have hm := List.mem_of_getElem? hp
  unfold eligN at hm
  rw [List.mem_filter] at hm
  exact ⟨p, rfl, List.mem_range.1 hm.1, by simpa using hm.2⟩
theorem eligI_some {its : List It} {l : List Lk} {L : List Nat} (hv : validB l = true) (hL : L ≠ []) (hl : ∀ x ∈ L, x < its.length) : 0 < (eligI (nowL its L) l).length := by
  obtain ⟨x, hx, hm⟩ := exists_min (f := ordF its l) (fun a => prec_irr hv _) (fun a b c => prec_tr hv) L hL
  obtain ⟨p, hp, rfl⟩ := List.getElem_of_mem hx
  have hb := now_blk' (l := l) hp hl hm
  have hmem : p ∈ eligN (nowL its L) l (nowL its L).length := by
    unfold eligN
    rw [List.mem_filter]
    exact ⟨List.mem_range.2 (by simpa [nowL] using hp), by simpa using hb⟩
  unfold eligI
  rw [List.length_map]
  exact List.length_pos_of_mem hmem
theorem chosen_in {N : Nat} (h : 0 < N) (xs : List Int) : 0 ≤ chosenK N xs ∧ chosenK N xs < N := by
  unfold chosenK
  split
  · omega
  · rename_i x r
    split
    · omega
    · unfold pickK
      have b1 : -(N : Int) < x.tmod N := Int.lt_tmod_of_pos x (by omega)
      have b2 : x.tmod N < N := Int.tmod_lt_of_pos x (by omega)
      split <;> omega
theorem nowL_snoc (its : List It) (L : List Nat) (i : Nat) : nowL its (L ++ [i]) = nowL its L ++ [its.getD i it0] := by simp [nowL]
theorem FI.fire {its : List It} {l : List Lk} {L F : List Nat} {p : Nat} (hv : validB l = true) (h : FI (ordF its l) its.length L F) (hp : p < L.length) (hb : blkB (nowL its L) l p (nowL its L).length = false) :
    FI (ordF its l) its.length (L.take p ++ L.drop (p + 1)) (F ++ [L[p]]) := by
  have e : L = L.take p ++ L[p] :: L.drop (p + 1) := by rw [← List.drop_eq_getElem_cons hp, List.take_append_drop]
  have h2 : FI (ordF its l) its.length (L.take p ++ L[p] :: L.drop (p + 1)) F := by rw [← e]; exact h
  refine h2.step (fun k hk => ?_) (prec_irr hv _)
  have hn := now_blk hp h.lt hb
  rcases List.mem_append.1 hk with hm | hm
  · obtain ⟨i, hi, rfl⟩ := List.getElem_of_mem hm
    rw [List.getElem_take]
    simp at hi
    exact hn i (by omega) (by omega)
  · obtain ⟨i, hi, rfl⟩ := List.getElem_of_mem hm
    rw [List.getElem_drop]
    simp at hi
    exact hn (p + 1 + i) (by omega) (by omega)
theorem fired_ok {f : Nat → Nat → Bool} {n : Nat} {L F : List Nat} (h : FI f n L F) {i j : Nat} (hi : i < F.length) (hj : j < i) : f F[i] F[j] = false := (List.pairwise_iff_getElem.1 h.pw) j i (by omega) hi hj
end Go.Proofs.Ytaefjgjojflppaa

namespace Go.Proofs.Ytaefjgjojflppaa
open Go.RowKit
set_option linter.unusedVariables false
set_option linter.unusedSimpArgs false

def onB (n : Nat) (l : List Ed) (i : Nat) : Bool := (reachL n l i).getD i false
def onN (n : Nat) (l : List Ed) (k : Nat) : List Nat := (List.range k).filter (onB n l)
def onL (N : Int) (l : List Ed) : List Int := if validG N l then toI (onN N.toNat l N.toNat) else []
theorem onN_succ (n : Nat) (l : List Ed) (k : Nat) : onN n l (k + 1) = onN n l k ++ (if onB n l k then [k] else []) := by
  unfold onN
  rw [List.range_succ, List.filter_append]
  congr 1
  cases h : onB n l k <;> simp [h]
theorem onN_le (n : Nat) (l : List Ed) (k : Nat) : (onN n l k).length ≤ k := by
  unfold onN
  exact Nat.le_trans (List.length_filter_le _ _) (by simp)
theorem valid_range {N : Int} {l : List Ed} (h : validG N l = true) : 0 ≤ N ∧ N ≤ 64 := by
  unfold validG at h
  simp only [Bool.and_eq_true, decide_eq_true_eq] at h
  exact h.1
theorem onL_no {N : Int} {l : List Ed} (h : validG N l = false) : onL N l = [] := by unfold onL; rw [h]; rfl
theorem onL_yes {N : Nat} {l : List Ed} (h : validG N l = true) : onL N l = toI (onN N l N) := by unfold onL; rw [h]; simp
set_option maxHeartbeats 4000000 in
set_option maxRecDepth 100000 in
theorem ron_any (M : Nat → Prop) (w : World) (hM : ∀ b, M b → b < w.heap.size) (N : Int) (A : Option Addr) (n c : Nat) (l : List Ed) (hD : Ro w M (EdsIn A n l)) (hn : n ≤ 1000000) :
    Calls Try.prog 48 #[.int .i64 N, .slice A n c] w fun e w' => IntsRet w M (iCells (onL N l)) e w' := by
  have K0 := (Hold.start M w hM).add (hD.less (by simp [Mut]))
  go_enter Try.func48, Try.ntmps48
  go_wp2_with fail
  refine (rgvalid_any _ _ K0.mutLt N A n c l (K0.ro 0 rfl) (by omega)).mono ?_
  rintro e w1 ⟨rfl, b1⟩
  have K1 := K0.call b1
  clear K0 b1
  cases hv : validG N l
  · have HO := hid (onL_no hv)
    go_wp2_with fail
    go_ret
    rw [HO.out]
    exact ⟨none, 0, 0, by first | rfl | simp, rfl, by omega, by omega, ro_nil, K1.below⟩
  · have hr := valid_range hv
    obtain ⟨N, rfl⟩ := Int.eq_ofNat_of_zero_le hr.1
    have hN : N ≤ 64 := by omega
    have HO := hid (onL_yes hv)
    have HVV := hid hv
    clear hv hr
    have K2 := K1.nil 3 1
    go_wp2_with fail
    go_loopw [5, 6] (fun v i wr => ∃ (k q cc : Nat) (O : Option Addr), k ≤ N ∧ q ≤ k ∧ i = .int .i64 k ∧ v = .slice O q cc ∧ Hold M none w wr [.own 3 1 (.slice O q cc) q (iCells (toI (onN N l k))), .ro (EdsIn A n l)]) (fun _ i _ => N - (intOf i).toNat)
    case atStart => exact ⟨0, 0, 0, none, by omega, by omega, rfl, rfl, K2⟩
    case round =>
      clear K2
      obtain ⟨k, q, cc, O, hk, hq, rfl, rfl, H⟩ := hrel
      by_cases hlt : k < N
      · have hd : decide ((k : Int) < (N : Int)) = true := by simp; omega
        have i0 : (0 : Int) ≤ (k : Int) := by omega
        have i1 : (k : Int) < (N : Int) := by omega
        go_wp2_with fail
        refine (rreach_any _ _ H.mutLt N A n c l k (H.ro 1 rfl) HVV.out hN hn).mono ?_
        rintro e w3 ⟨A3, n3, c3, rfl, hn3, r3, b3⟩
        have hnN : N = n3 := by rw [hn3]; unfold reachL; rw [rnd_len]
        subst hnN
        have K3 := (H.call b3).add r3
        obtain ⟨b, o, rfl, _, hcc⟩ := (show Rd w3 w3.heap.size 1 A3 N (bCells (reachL N l k)) from (K3.ro 0 rfl).now).2 (by omega)
        have ck : w3.cell? ⟨b, o + k, none⟩ = some (.bool (onB N l k)) := hcc k _ (by
          have : k < (reachL N l (k : Int)).length := by rw [← hn3]; exact hlt
          simp [bCells, onB, List.getD, this])
        have HS := hid (onN_succ N l k)
        clear b3 r3 H hcc hn3
        cases hb : onB N l k
        · rw [hb] at ck
          have HB := hid hb; clear hb
          go_wp2_with fail
          go_roundw
          case rel => exact ⟨k + 1, q, cc, O, by omega, by omega, by go_num, rfl, by rw [HS.out, HB.out]; simpa using K3.drop (List.sublist_cons_self _ _)⟩
          case measure => simp [intOf]; omega
        · rw [hb] at ck
          have HB := hid hb; clear hb
          go_wp2_with (at_builtin; go_must (refine wpList_appH K3 1 rfl Try.elInt #[.int .i64 k] rfl (.tmp 23) (.tmp 25) rfl rfl w3.heap.size rfl rfl rfl (by intro z hz; simp at hz; subst hz; rfl) (by omega) (by omega) ?_); intro g5 cap5 w5 hc5 hm5 H5)
          have e1 : iCells (toI (onN N l k)) ++ (#[Value.int .i64 (k : Int)]).toList = iCells (toI (onN N l (k + 1))) := by rw [HS.out, HB.out]; simp [iCells]
          simp only [List.set_cons_zero, List.set_cons_succ] at H5
          rw [e1] at H5
          go_roundw
          case rel => exact ⟨k + 1, q + 1, cap5, _, by omega, by omega, by go_num, rfl, H5.drop (List.sublist_cons_self _ _)⟩
          case measure => simp [intOf]; omega
      · obtain rfl : N = k := by omega
        have hd : decide ((N : Int) < (N : Int)) = false := by simp
        have hcl := own_caps (H.get 0 rfl)
        have hql := hid (show q = (iCells (toI (onN N l N))).length by have := (H.get 0 rfl).1; omega)
        have KS := H.sealRow 0 rfl
        go_wp2_with fail
        go_ret
        rw [HO.out]
        exact ⟨O, q, cc, by first | rfl | simp, hql.out, hcl.1, hcl.2.1, KS.roOut 0 rfl, KS.below⟩
end Go.Proofs.Ytaefjgjojflppaa

namespace Go.Proofs.Ytaefjgjojflppaa
open Go.RowKit
set_option linter.unusedVariables false

theorem pow_wrap (t : Nat) (h : t < 64) : IntKind.u64.wrap (2 ^ t) = ((2 ^ t : Nat) : Int) := by
  have h2 : 2 ^ t < 2 ^ 64 := Nat.pow_lt_pow_right (by omega) h
  have e : ((2 : Int) ^ t) = ((2 ^ t : Nat) : Int) := by simp
  rw [e]
  generalize 2 ^ t = p at *
  unfold IntKind.wrap
  simp only [IntKind.signed, IntKind.bits]
  simp
  omega
theorem or_u64 (a b : Nat) (ha : a < 2 ^ 64) (hb : b < 2 ^ 64) : bits BinOp.or IntKind.u64 (a : Int) (b : Int) = ((a ||| b : Nat) : Int) := bits_or_u64_nat a b ha hb
theorem bit_u64 (a k : Nat) (ha : a < 2 ^ 64) : (bits BinOp.and IntKind.u64 ((a : Int) / 2 ^ k) 1 == 1) = a.testBit k := by
  have e : ((a : Int) / 2 ^ k) = ((a / 2 ^ k : Nat) : Int) := by simp
  rw [e]
  have hlt : a / 2 ^ k < 2 ^ 64 := Nat.lt_of_le_of_lt (Nat.div_le_self _ _) ha
  have h := bits_and_u64_nat (a / 2 ^ k) 1 hlt (by omega)
  rw [Nat.and_one_is_mod] at h
  have h2 : bits BinOp.and IntKind.u64 ((a / 2 ^ k : Nat) : Int) 1 = ((a / 2 ^ k % 2 : Nat) : Int) := h
  rw [h2, Nat.testBit_eq_decide_div_mod_eq]
  rcases (show a / 2 ^ k % 2 = 0 ∨ a / 2 ^ k % 2 = 1 by omega) with h3 | h3 <;> rw [h3] <;> rfl
end Go.Proofs.Ytaefjgjojflppaa

namespace Go.Proofs.Ytaefjgjojflppaa
open Go.RowKit
set_option linter.unusedVariables false
set_option linter.unusedSimpArgs false

/-- an edge's bit is set -/
def orE (R : List Nat) (e : Ed) : List Nat := R.set e.f.toNat (R.getD e.f.toNat 0 ||| 2 ^ e.t.toNat)
theorem fold_orE {l : List Ed} {k : Nat} {x : Ed} (R : List Nat) (hx : l[k]? = some x) : (l.take (k + 1)).foldl orE R = orE ((l.take k).foldl orE R) x := by
  rw [List.take_add_one, hx, List.foldl_append]; rfl
theorem orE_lt {R : List Nat} {e : Ed} (h : ∀ x ∈ R, x < 2 ^ 64) (ht : e.t.toNat < 64) : ∀ x ∈ orE R e, x < 2 ^ 64 := fun x hx => by
  unfold orE at hx
  rcases List.mem_or_eq_of_mem_set hx with hx | rfl
  · exact h x hx
  · refine Nat.or_lt_two_pow ?_ (Nat.pow_lt_pow_right (by omega) ht)
    rcases Nat.lt_or_ge e.f.toNat R.length with hl | hl
    · rw [List.getD, List.getElem?_eq_getElem hl]; exact h _ (List.getElem_mem hl)
    · rw [List.getD, List.getElem?_eq_none hl]; exact Nat.two_pow_pos 64
/-- one row takes in another, if it reaches it -/
def warI (R : List Nat) (k i : Nat) : List Nat := if (R.getD i 0).testBit k then R.set i (R.getD i 0 ||| R.getD k 0) else R
def warP (R : List Nat) (k : Nat) : Nat → List Nat
  | 0 => R
  | i + 1 => warI (warP R k i) k i
def war (n : Nat) (R : List Nat) : Nat → List Nat
  | 0 => R
  | k + 1 => warP (war n R k) k n
def bitB (W : List Nat) (i : Nat) : Bool := (W.getD i 0).testBit i
def onW (W : List Nat) (k : Nat) : List Nat := (List.range k).filter (bitB W)
def warL (n : Nat) (l : List Ed) : List Nat := war n (l.foldl orE (List.replicate 64 0)) n
def wonL (N : Int) (l : List Ed) : List Int := if validG N l then toI (onW (warL N.toNat l) N.toNat) else []
theorem wonL_no {N : Int} {l : List Ed} (h : validG N l = false) : wonL N l = [] := by unfold wonL; rw [h]; rfl
theorem wonL_yes {N : Nat} {l : List Ed} (h : validG N l = true) : wonL N l = toI (onW (warL N l) N) := by unfold wonL; rw [h]; simp
theorem onW_succ (W : List Nat) (k : Nat) : onW W (k + 1) = onW W k ++ (if bitB W k then [k] else []) := by
  unfold onW
  rw [List.range_succ, List.filter_append]
  congr 1
  cases h : bitB W k <;> simp [h]
def uCells (R : List Nat) : List Value := R.map fun (r : Nat) => .int .u64 (r : Int)
set_option maxHeartbeats 4000000 in
set_option maxRecDepth 100000 in
theorem gon_any (M : Nat → Prop) (w : World) (hM : ∀ b, M b → b < w.heap.size) (N : Int) (A : Option Addr) (n c : Nat) (l : List Ed) (hD : Ro w M (EdsIn A n l)) (hn : n ≤ 1000000) :
    Calls Try.prog 31 #[.int .i64 N, .slice A n c] w fun e w' => IntsRet w M (iCells (wonL N l)) e w' := by
  have K0 := (Hold.start M w hM).add (hD.less (by simp [Mut]))
  go_enter Try.func31, Try.ntmps31
  go_wp2_with fail
  refine (gvalid_any _ _ K0.mutLt N A n c l (K0.ro 0 rfl) (by omega)).mono ?_
  rintro e w1 ⟨rfl, b1⟩
  have K1 := K0.call b1
  clear K0 b1
  cases hv : validG N l
  · have HO := hid (wonL_no hv)
    go_wp2_with fail
    go_ret
    rw [HO.out]
    exact ⟨none, 0, 0, by first | rfl | simp, rfl, by omega, by omega, ro_nil, K1.below⟩
  · have hr := valid_range hv
    obtain ⟨N, rfl⟩ := Int.eq_ofNat_of_zero_le hr.1
    have hN : N ≤ 64 := by omega
    have HO := hid (wonL_yes hv)
    have HVV := hid hv
    clear hv hr
    have K2 := K1.alloc_own (List.replicate 64 (.int .u64 0)).toArray 83 1 64 (by unfold maxLen; omega) (by simp)
    obtain ⟨g, hg⟩ : ∃ g, g = w1.heap.size := ⟨_, rfl⟩
    rw [← hg] at K2
    have HGG := hid hg
    go_wp2_with fail
    rw [← hg]
    clear hg K1
    go_loopw [18] (fun i wr => ∃ (j : Nat) (R : List Nat), j ≤ n ∧ i = .int .i64 j ∧ Hid (R.length = 64 ∧ (∀ x ∈ R, x < 2 ^ 64) ∧ R = (l.take j).foldl orE (List.replicate 64 0)) ∧ Hold M none w wr [.own 83 1 (.slice (some ⟨g, 0, none⟩) 64 64) 64 (uCells R), .ro (EdsIn A n l)]) (fun i _ => n - (intOf i).toNat)
    case atStart => exact ⟨0, List.replicate 64 0, by omega, rfl, hid ⟨by simp, by intro x hx; rw [List.eq_of_mem_replicate hx]; decide, rfl⟩, K2⟩
    case round =>
      clear K2
      obtain ⟨j, R, hj, rfl, hR, H⟩ := hrel
      have HRR := hR
      have HR := hid hR.out.1; clear hR
      have HL := hid (show l.length = n from (H.ro 1 rfl).now.len)
      by_cases hlt : j < n
      · have hd : decide ((j : Int) < (n : Int)) = true := by simp; omega
        obtain ⟨x, hx⟩ := get_of HL.out hlt
        obtain ⟨v1, v2, v3, v4⟩ := valid_in HVV.out (List.mem_of_getElem? hx)
        obtain ⟨ga, o, rfl, hb, c0, c1⟩ := (H.ro 1 rfl).now.at_ hx
        have HS := hid (fold_orE (List.replicate 64 0) hx)
        clear hx
        obtain ⟨f, t⟩ := x
        simp only at v1 v2 v3 v4 c0 c1
        obtain ⟨f, rfl⟩ := Int.eq_ofNat_of_zero_le v1
        obtain ⟨t, rfl⟩ := Int.eq_ofNat_of_zero_le v3
        have hof : f < 64 := by omega
        have hot : t < 64 := by omega
        have K1 := H.alloc_cst #[.int .i64 (f : Int), .int .i64 (t : Int)] 53
        obtain ⟨KL, hKL⟩ : ∃ KL : List Hp, KL = [Hp.cst wr.heap.size 53 #[.int .i64 (f : Int), .int .i64 (t : Int)], Hp.own 83 1 (.slice (some ⟨g, 0, none⟩) 64 64) 64 (uCells R), Hp.ro (EdsIn (some ⟨ga, o, none⟩) n l)] := ⟨_, rfl⟩
        rw [← hKL] at K1
        have i0 : (0 : Int) ≤ (f : Int) := by omega
        have i1 : (f : Int) < 64 := by omega
        have i2 : (0 : Int) ≤ (t : Int) := by omega
        obtain ⟨gb, hgb⟩ : ∃ gb, gb = wr.heap.size := ⟨_, rfl⟩
        rw [← hgb] at hKL
        have HF : Hid (∀ wv, Hold M none w wv KL → wv.cell? ⟨gb, 0, none⟩ = some (.int .i64 (f : Int)) ∧ wv.cell? ⟨gb, 1, none⟩ = some (.int .i64 (t : Int)) ∧ wv.cell? ⟨g, f, none⟩ = some (.int .u64 (R.getD f 0 : Nat)) ∧ gb < wv.heap.size ∧ g < wv.heap.size) := hid fun wv HC => by
          rw [hKL] at HC
          have b0 := HC.cst_ 0 rfl
          refine ⟨cell_of_row _ _ 0 _ _ _ b0, cell_of_row _ _ 1 _ _ _ b0, ?_, Blk.lt b0, (HC.fresh _ (List.mem_cons_of_mem _ (List.mem_cons_self ..)) g rfl).2⟩
          rw [(HC.get 1 rfl).cellAt f (by omega)]
          simp [uCells, List.getD, HR.out, hof]
        go_wp2_with fail
        rw [← hgb]
        have HGB := hid hgb
        have HKL := hid hKL
        clear hgb hKL
        generalize wr.alloc (.cells #[.int .i64 (f : Int), .int .i64 (t : Int)] 53) = w2 at *
        refine wp_region_any (by kernel_rfl) ?_
        refine wpAny_hold 9 74 (KL) (spL []) (by kernel_rfl) (by kernel_rfl) (by kernel_rfl) rfl ?_ (K1.drew) ?_
        · exact stays_nil _
        simp only [List.take_succ_cons, List.take_zero, List.drop_succ_cons, List.drop_zero, Act.put, List.getElem_toArray, List.getElem_cons_zero, List.getElem_cons_succ, List.setIfInBounds_toArray, List.set_cons_succ, List.set_cons_zero]
        refine dw_val rfl rfl rfl ?_; apply Exists.intro; refine ⟨fun wv HC => ?_, ?_⟩
        · obtain ⟨f0, f1, f2, f3, f4⟩ := HF.out _ HC; go_simp <;> rfl
        simp only [Act.put, List.setIfInBounds_toArray, List.set_cons_succ, List.set_cons_zero]
        refine dw_val rfl rfl rfl ?_; apply Exists.intro; refine ⟨fun wv HC => ?_, ?_⟩
        · obtain ⟨f0, f1, f2, f3, f4⟩ := HF.out _ HC; go_simp <;> rfl
        simp only [Act.put, List.setIfInBounds_toArray, List.set_cons_succ, List.set_cons_zero]
        refine dw_val rfl rfl rfl ?_; apply Exists.intro; refine ⟨fun wv HC => ?_, ?_⟩
        · obtain ⟨f0, f1, f2, f3, f4⟩ := HF.out _ HC; go_simp <;> rfl
        simp only [Act.put, List.setIfInBounds_toArray, List.set_cons_succ, List.set_cons_zero]
        refine dw_val rfl rfl rfl ?_; apply Exists.intro; refine ⟨fun wv HC => ?_, ?_⟩
        · obtain ⟨f0, f1, f2, f3, f4⟩ := HF.out _ HC; go_simp <;> rfl
        simp only [Act.put, List.setIfInBounds_toArray, List.set_cons_succ, List.set_cons_zero]
        refine dw_val rfl rfl rfl ?_; apply Exists.intro; refine ⟨fun wv HC => ?_, ?_⟩
        · obtain ⟨f0, f1, f2, f3, f4⟩ := HF.out _ HC; go_simp <;> rfl
        simp only [Act.put, List.setIfInBounds_toArray, List.set_cons_succ, List.set_cons_zero]
        refine dw_val rfl rfl rfl ?_; apply Exists.intro; refine ⟨fun wv HC => ?_, ?_⟩
        · obtain ⟨f0, f1, f2, f3, f4⟩ := HF.out _ HC; go_simp <;> rfl
        simp only [Act.put, List.setIfInBounds_toArray, List.set_cons_succ, List.set_cons_zero]
        refine dw_val rfl rfl rfl ?_; apply Exists.intro; refine ⟨fun wv HC => ?_, ?_⟩
        ·  go_simp <;> rfl
        simp only [Act.put, List.setIfInBounds_toArray, List.set_cons_succ, List.set_cons_zero]
        refine dw_val rfl rfl rfl ?_; apply Exists.intro; refine ⟨fun wv HC => ?_, ?_⟩
        ·  go_simp <;> rfl
        simp only [Act.put, List.setIfInBounds_toArray, List.set_cons_succ, List.set_cons_zero]
        refine dw_val rfl rfl rfl ?_; apply Exists.intro; refine ⟨fun wv HC => ?_, ?_⟩
        · obtain ⟨f0, f1, f2, f3, f4⟩ := HF.out _ HC; go_simp <;> rfl
        simp only [Act.put, List.setIfInBounds_toArray, List.set_cons_succ, List.set_cons_zero]
        refine rel_nil ?_
        rintro wx HX
        rintro hrm HG
        clear hrm HG
        rw [HKL.out] at HX
        have hR2 : R.getD f 0 < 2 ^ 64 := by
          have : f < R.length := by rw [HR.out]; exact hof
          rw [List.getD, List.getElem?_eq_getElem this]
          exact HRR.out.2.1 _ (List.getElem_mem this)
        have hp2 : 2 ^ t < 2 ^ 64 := Nat.pow_lt_pow_right (by omega) hot
        have hbit : bits BinOp.or IntKind.u64 ((R[f]?.getD 0 : Nat) : Int) (IntKind.u64.wrap (2 ^ t)) = ((R.getD f 0 ||| 2 ^ t : Nat) : Int) := by
          rw [pow_wrap t hot]; exact or_u64 _ _ hR2 hp2
        rw [hbit]
        obtain ⟨y, hy⟩ : ∃ y, wx.cell? ⟨g, f, none⟩ = some y := ⟨_, ((HX.get 1 rfl).cellAt f (by omega)).trans (List.getElem?_eq_getElem (by simp [uCells, HR.out]; exact hof))⟩
        have hfy := (HX.get 1 rfl).frozenAt f
        have K3 := HX.put_ 1 rfl f (.int .u64 ((R.getD f 0 ||| 2 ^ t : Nat) : Int))
        have e1 : (uCells R).set f (.int .u64 ((R.getD f 0 ||| 2 ^ t : Nat) : Int)) = uCells (orE R ⟨f, t⟩) := by simp [uCells, orE, List.map_set]
        rw [e1] at K3
        have HOR := hid (Nat.or_lt_two_pow hR2 hp2)
        clear hbit hR2 hp2 e1
        generalize (R.getD f 0 ||| 2 ^ t : Nat) = nv at *
        go_wp2_with fail
        go_roundw
        case rel =>
          refine ⟨j + 1, orE R ⟨f, t⟩, by omega, by go_num, hid ⟨by simp [orE, HR.out], ?_, by rw [HS.out, ← HRR.out.2.2]⟩, K3.drop (List.sublist_cons_self _ _)⟩
          exact orE_lt HRR.out.2.1 (by simpa using hot)
        case measure => simp [intOf]; omega
      · obtain rfl : n = j := by omega
        have hd : decide ((n : Int) < (n : Int)) = false := by simp
        have hR0 := HRR.out.2.2
        rw [List.take_of_length_le (show l.length ≤ n by rw [HL.out]; exact Nat.le_refl _)] at hR0
        have HR0 := hid hR0
        have hRb := hid HRR.out.2.1
        clear hR0 HRR
        go_wp2_with fail
        go_loopw [33] (fun i wr => ∃ (k : Nat) (R2 : List Nat), k ≤ N ∧ i = .int .i64 k ∧ Hid (R2.length = 64 ∧ (∀ x ∈ R2, x < 2 ^ 64) ∧ R2 = war N R k) ∧ Hold M none w wr [.own 83 1 (.slice (some ⟨g, 0, none⟩) 64 64) 64 (uCells R2), .ro (EdsIn A n l)]) (fun i _ => N - (intOf i).toNat)
        case atStart => exact ⟨0, R, by omega, rfl, hid ⟨HR.out, hRb.out, rfl⟩, H⟩
        case round =>
          clear H
          obtain ⟨k, R2, hk, rfl, HR2, H⟩ := hrel
          by_cases hlt2 : k < N
          · have hd2 : decide ((k : Int) < (N : Int)) = true := by simp; omega
            go_wp2_with fail
            go_loopw [37] (fun i wr => ∃ (p : Nat) (R3 : List Nat), p ≤ N ∧ i = .int .i64 p ∧ Hid (R3.length = 64 ∧ (∀ x ∈ R3, x < 2 ^ 64) ∧ R3 = warP R2 k p) ∧ Hold M none w wr [.own 83 1 (.slice (some ⟨g, 0, none⟩) 64 64) 64 (uCells R3), .ro (EdsIn A n l)]) (fun i _ => N - (intOf i).toNat)
            case atStart => exact ⟨0, R2, by omega, rfl, hid ⟨HR2.out.1, HR2.out.2.1, rfl⟩, H⟩
            case round =>
              clear H
              obtain ⟨p, R3, hp, rfl, HR3, H⟩ := hrel
              by_cases hlt3 : p < N
              · have hd3 : decide ((p : Int) < (N : Int)) = true := by simp; omega
                have i0 : (0 : Int) ≤ (p : Int) := by omega
                have i1 : (p : Int) < 64 := by omega
                have i2 : (0 : Int) ≤ (k : Int) := by omega
                have i3 : (k : Int) < 64 := by omega
                have cp : wr.cell? ⟨g, p, none⟩ = some (.int .u64 (R3.getD p 0 : Nat)) := by
                  rw [(H.get 0 rfl).cellAt p (by omega)]
                  simp [uCells, List.getD, HR3.out.1, show p < 64 by omega]
                have hgl : g < wr.heap.size := (H.fresh _ (List.mem_cons_self ..) g rfl).2
                have hbd : ∀ i, R3.getD i 0 < 2 ^ 64 := fun i => by
                  rcases Nat.lt_or_ge i R3.length with hl | hl
                  · rw [List.getD, List.getElem?_eq_getElem hl]; exact HR3.out.2.1 _ (List.getElem_mem hl)
                  · rw [List.getD, List.getElem?_eq_none hl]; exact Nat.two_pow_pos 64
                cases hb : (R3.getD p 0).testBit k
                · have hbv : (bits BinOp.and IntKind.u64 (((R3[p]?.getD 0 : Nat) : Int) / 2 ^ k) 1 == 1) = false := (bit_u64 _ k (hbd p)).trans hb
                  have HB := hid hb
                  clear hb hbd
                  go_wp2_with fail
                  go_roundw
                  case rel => exact ⟨p + 1, R3, by omega, by go_num, hid ⟨HR3.out.1, HR3.out.2.1, by rw [warP, ← HR3.out.2.2]; unfold warI; rw [HB.out]; rfl⟩, H⟩
                  case measure => simp [intOf]; omega
                · have hbv : (bits BinOp.and IntKind.u64 (((R3[p]?.getD 0 : Nat) : Int) / 2 ^ k) 1 == 1) = true := (bit_u64 _ k (hbd p)).trans hb
                  have HB := hid hb
                  have HBD := hid hbd
                  clear hb hbd
                  have HF : Hid (∀ wv, Hold M none w wv [.own 83 1 (.slice (some ⟨g, 0, none⟩) 64 64) 64 (uCells R3), .ro (EdsIn A n l)] → wv.cell? ⟨g, p, none⟩ = some (.int .u64 (R3.getD p 0 : Nat)) ∧ wv.cell? ⟨g, k, none⟩ = some (.int .u64 (R3.getD k 0 : Nat)) ∧ g < wv.heap.size) := hid fun wv HC => by
                    refine ⟨?_, ?_, (HC.fresh _ (List.mem_cons_self ..) g rfl).2⟩
                    · rw [(HC.get 0 rfl).cellAt p (by omega)]
                      simp [uCells, List.getD, HR3.out.1, show p < 64 by omega]
                    · rw [(HC.get 0 rfl).cellAt k (by omega)]
                      simp [uCells, List.getD, HR3.out.1, show k < 64 by omega]
                  go_wp2_with fail
                  refine wp_region_any (by kernel_rfl) ?_
                  refine wpAny_hold 8 74 ([.own 83 1 (.slice (some ⟨g, 0, none⟩) 64 64) 64 (uCells R3), .ro (EdsIn A n l)]) (spL []) (by kernel_rfl) (by kernel_rfl) (by kernel_rfl) rfl ?_ (H.drew) ?_
                  · exact stays_nil _
                  simp only [List.take_succ_cons, List.take_zero, List.drop_succ_cons, List.drop_zero, Act.put, List.getElem_toArray, List.getElem_cons_zero, List.getElem_cons_succ, List.setIfInBounds_toArray, List.set_cons_succ, List.set_cons_zero]
                  refine dw_val rfl rfl rfl ?_; apply Exists.intro; refine ⟨fun wv HC => ?_, ?_⟩
                  ·  go_simp <;> rfl
                  simp only [Act.put, List.setIfInBounds_toArray, List.set_cons_succ, List.set_cons_zero]
                  refine dw_val rfl rfl rfl ?_; apply Exists.intro; refine ⟨fun wv HC => ?_, ?_⟩
                  · obtain ⟨f0, f1, f2⟩ := HF.out _ HC; go_simp <;> rfl
                  simp only [Act.put, List.setIfInBounds_toArray, List.set_cons_succ, List.set_cons_zero]
                  refine dw_val rfl rfl rfl ?_; apply Exists.intro; refine ⟨fun wv HC => ?_, ?_⟩
                  · obtain ⟨f0, f1, f2⟩ := HF.out _ HC; go_simp <;> rfl
                  simp only [Act.put, List.setIfInBounds_toArray, List.set_cons_succ, List.set_cons_zero]
                  refine dw_val rfl rfl rfl ?_; apply Exists.intro; refine ⟨fun wv HC => ?_, ?_⟩
                  ·  go_simp <;> rfl
                  simp only [Act.put, List.setIfInBounds_toArray, List.set_cons_succ, List.set_cons_zero]
                  refine dw_val rfl rfl rfl ?_; apply Exists.intro; refine ⟨fun wv HC => ?_, ?_⟩
                  · obtain ⟨f0, f1, f2⟩ := HF.out _ HC; go_simp <;> rfl
                  simp only [Act.put, List.setIfInBounds_toArray, List.set_cons_succ, List.set_cons_zero]
                  refine dw_val rfl rfl rfl ?_; apply Exists.intro; refine ⟨fun wv HC => ?_, ?_⟩
                  · obtain ⟨f0, f1, f2⟩ := HF.out _ HC; go_simp <;> rfl
                  simp only [Act.put, List.setIfInBounds_toArray, List.set_cons_succ, List.set_cons_zero]
                  refine dw_val rfl rfl rfl ?_; apply Exists.intro; refine ⟨fun wv HC => ?_, ?_⟩
                  ·  go_simp <;> rfl
                  simp only [Act.put, List.setIfInBounds_toArray, List.set_cons_succ, List.set_cons_zero]
                  refine dw_val rfl rfl rfl ?_; apply Exists.intro; refine ⟨fun wv HC => ?_, ?_⟩
                  · obtain ⟨f0, f1, f2⟩ := HF.out _ HC; go_simp <;> rfl
                  simp only [Act.put, List.setIfInBounds_toArray, List.set_cons_succ, List.set_cons_zero]
                  refine rel_nil ?_
                  rintro wx HX
                  rintro hrm HG
                  clear hrm HG
                  have hbit : bits BinOp.or IntKind.u64 ((R3[p]?.getD 0 : Nat) : Int) ((R3[k]?.getD 0 : Nat) : Int) = ((R3.getD p 0 ||| R3.getD k 0 : Nat) : Int) := or_u64 _ _ (HBD.out p) (HBD.out k)
                  rw [hbit]
                  obtain ⟨y, hy⟩ : ∃ y, wx.cell? ⟨g, p, none⟩ = some y := ⟨_, ((HX.get 0 rfl).cellAt p (by omega)).trans (List.getElem?_eq_getElem (by simp [uCells, HR3.out.1]; omega))⟩
                  have hfy := (HX.get 0 rfl).frozenAt p
                  have K3 := HX.put_ 0 rfl p (.int .u64 ((R3.getD p 0 ||| R3.getD k 0 : Nat) : Int))
                  have HW := hid (show warI R3 k p = R3.set p (R3.getD p 0 ||| R3.getD k 0) by unfold warI; rw [HB.out]; rfl)
                  have e1 : (uCells R3).set p (.int .u64 ((R3.getD p 0 ||| R3.getD k 0 : Nat) : Int)) = uCells (warI R3 k p) := by rw [HW.out]; simp [uCells, List.map_set]
                  rw [e1] at K3
                  have HLT := hid (Nat.or_lt_two_pow (HBD.out p) (HBD.out k))
                  clear hbit e1
                  generalize (R3.getD p 0 ||| R3.getD k 0 : Nat) = nv at *
                  go_wp2_with fail
                  go_roundw
                  case rel =>
                    refine ⟨p + 1, warI R3 k p, by omega, by go_num, hid ⟨by rw [HW.out]; simpa using HR3.out.1, fun x hx => ?_, by rw [warP, ← HR3.out.2.2]⟩, K3⟩
                    rw [HW.out] at hx
                    rcases List.mem_or_eq_of_mem_set hx with hx | rfl
                    · exact HR3.out.2.1 x hx
                    · exact HLT.out
                  case measure => simp [intOf]; omega
              · obtain rfl : N = p := by omega
                have hd3 : decide ((N : Int) < (N : Int)) = false := by simp
                go_wp2_with fail
                go_roundw
                case rel => exact ⟨k + 1, R3, by omega, by go_num, hid ⟨HR3.out.1, HR3.out.2.1, by rw [HR3.out.2.2, HR2.out.2.2]; rfl⟩, H⟩
                case measure => simp [intOf]; omega
          · obtain rfl : N = k := by omega
            have hd2 : decide ((N : Int) < (N : Int)) = false := by simp
            have HW := hid (show R2 = warL N l by rw [HR2.out.2.2, HR0.out]; rfl)
            have H2 := H.nil 3 1
            clear H
            go_wp2_with fail
            go_loopw [10, 58] (fun v i wr => ∃ (p q cc : Nat) (O : Option Addr), p ≤ N ∧ q ≤ p ∧ i = .int .i64 p ∧ v = .slice O q cc ∧ Hold M none w wr [.own 3 1 (.slice O q cc) q (iCells (toI (onW R2 p))), .own 83 1 (.slice (some ⟨g, 0, none⟩) 64 64) 64 (uCells R2), .ro (EdsIn A n l)]) (fun _ i _ => N - (intOf i).toNat)
            case atStart => exact ⟨0, 0, 0, none, by omega, by omega, rfl, rfl, H2⟩
            case round =>
              clear H2
              obtain ⟨p, q, cc, O, hp, hq, rfl, rfl, H⟩ := hrel
              by_cases hlt3 : p < N
              · have hd3 : decide ((p : Int) < (N : Int)) = true := by simp; omega
                have i0 : (0 : Int) ≤ (p : Int) := by omega
                have i1 : (p : Int) < 64 := by omega
                have cp : wr.cell? ⟨g, p, none⟩ = some (.int .u64 (R2.getD p 0 : Nat)) := by
                  rw [(H.get 1 rfl).cellAt p (by omega)]
                  simp [uCells, List.getD, HR2.out.1, show p < 64 by omega]
                have hgl : g < wr.heap.size := (H.fresh _ (List.mem_cons_of_mem _ (List.mem_cons_self ..)) g rfl).2
                have hbd : R2.getD p 0 < 2 ^ 64 := by
                  rcases Nat.lt_or_ge p R2.length with hl | hl
                  · rw [List.getD, List.getElem?_eq_getElem hl]; exact HR2.out.2.1 _ (List.getElem_mem hl)
                  · rw [List.getD, List.getElem?_eq_none hl]; exact Nat.two_pow_pos 64
                have HS := hid (onW_succ R2 p)
                cases hb : bitB R2 p
                · have hbv : (bits BinOp.and IntKind.u64 (((R2[p]?.getD 0 : Nat) : Int) / 2 ^ p) 1 == 1) = false := (bit_u64 _ p hbd).trans hb
                  have HB := hid hb
                  clear hb hbd
                  go_wp2_with fail
                  go_roundw
                  case rel => exact ⟨p + 1, q, cc, O, by omega, by omega, by go_num, rfl, by rw [HS.out, HB.out]; simpa using H⟩
                  case measure => simp [intOf]; omega
                · have hbv : (bits BinOp.and IntKind.u64 (((R2[p]?.getD 0 : Nat) : Int) / 2 ^ p) 1 == 1) = true := (bit_u64 _ p hbd).trans hb
                  have HB := hid hb
                  clear hb hbd
                  go_wp2_with (at_builtin; go_must (refine wpList_appH H 0 rfl Try.elInt #[.int .i64 p] rfl (.tmp 68) (.tmp 70) rfl rfl wr.heap.size rfl rfl rfl (by intro z hz; simp at hz; subst hz; rfl) (by omega) (by omega) ?_); intro g5 cap5 w5 hc5 hm5 H5)
                  have e1 : iCells (toI (onW R2 p)) ++ (#[Value.int .i64 (p : Int)]).toList = iCells (toI (onW R2 (p + 1))) := by rw [HS.out, HB.out]; simp [iCells]
                  simp only [List.set_cons_zero, List.set_cons_succ] at H5
                  rw [e1] at H5
                  go_roundw
                  case rel => exact ⟨p + 1, q + 1, cap5, _, by omega, by omega, by go_num, rfl, H5⟩
                  case measure => simp [intOf]; omega
              · obtain rfl : N = p := by omega
                have hd3 : decide ((N : Int) < (N : Int)) = false := by simp
                have hcl := own_caps (H.get 0 rfl)
                have hql := hid (show q = (iCells (toI (onW R2 N))).length by have := (H.get 0 rfl).1; omega)
                have KS := H.sealRow 0 rfl
                go_wp2_with fail
                go_ret
                rw [HO.out, ← HW.out]
                exact ⟨O, q, cc, by first | rfl | simp, hql.out, hcl.1, hcl.2.1, KS.roOut 0 rfl, KS.below⟩
end Go.Proofs.Ytaefjgjojflppaa

namespace Go.Proofs.Ytaefjgjojflppaa
open Go.RowKit
set_option linter.unusedVariables false
set_option linter.unusedSimpArgs false

def Eg (l : List Ed) (a b : Nat) : Prop := (⟨(a : Int), (b : Int)⟩ : Ed) ∈ l
inductive Pth (l : List Ed) : Nat → Nat → Prop
  | one {a b : Nat} : Eg l a b → Pth l a b
  | more {a m b : Nat} : Pth l a m → Eg l m b → Pth l a b
theorem Pth.trans {l : List Ed} {a m b : Nat} (h : Pth l a m) (k : Pth l m b) : Pth l a b := by
  induction k with
  | one e => exact .more h e
  | more _ e ih => exact .more ih e
/-- all edges between nodes below n -/
def EdIn (n : Nat) (l : List Ed) : Prop := ∀ x ∈ l, ∃ a b : Nat, x = ⟨(a : Int), (b : Int)⟩ ∧ a < n ∧ b < n
theorem EdIn.of_valid {n : Nat} {l : List Ed} (h : validG n l = true) : EdIn n l := fun x hx => by
  obtain ⟨h1, h2, h3, h4⟩ := valid_in h hx
  exact ⟨x.f.toNat, x.t.toNat, by cases x; simp only [Ed.mk.injEq]; simp only at h1 h3; omega, by omega, by omega⟩
/-- the marks are those that a path from a leads to, as far as they go -/
def SoundR (l : List Ed) (a : Nat) (out : List Bool) : Prop := ∀ j, out.getD j false = true → Pth l a j
theorem SoundR.step {n : Nat} {l : List Ed} (hl : EdIn n l) {a : Nat} {out : List Bool} (h : SoundR l a out) {x : Ed} (hx : x ∈ l) : SoundR l a (stepE a out x) := by
  obtain ⟨f, t, rfl, hf, ht⟩ := hl x hx
  intro j hj
  unfold stepE at hj
  split at hj
  · rename_i hc
    simp only [Int.toNat_natCast] at hj hc
    by_cases hjt : t = j
    · subst hjt
      simp only [Bool.or_eq_true, beq_iff_eq] at hc
      rcases hc with hc | hc
      · have : f = a := by omega
        subst this
        exact .one hx
      · exact .more (h f hc) hx
    · refine h j ?_
      rwa [List.getD, List.getElem?_set_ne hjt] at hj
  · exact h j hj
theorem SoundR.fold {n : Nat} {l : List Ed} (hl : EdIn n l) {a : Nat} : ∀ (m : List Ed), (∀ x ∈ m, x ∈ l) → ∀ out, SoundR l a out → SoundR l a (m.foldl (stepE a) out)
  | [], _, _, h => h
  | x :: m, hm, out, h => SoundR.fold hl m (fun y hy => hm y (List.mem_cons_of_mem _ hy)) _ (h.step hl (hm x (List.mem_cons_self ..)))
theorem SoundR.rnd {n : Nat} {l : List Ed} (hl : EdIn n l) (a : Nat) : ∀ r, SoundR l a (rnd l a n r)
  | 0 => fun j hj => by
    simp only [Ytaefjgjojflppaa.rnd, List.getD, List.getElem?_replicate] at hj
    split at hj <;> simp at hj
  | r + 1 => SoundR.fold hl l (fun _ h => h) _ (SoundR.rnd hl a r)
abbrev cnt (out : List Bool) : Nat := out.countP id
theorem set_same {out : List Bool} {t : Nat} (ht : t < out.length) (h : out.getD t false = true) : out.set t true = out := by
  apply List.ext_getElem?
  intro j
  rw [List.getElem?_set]
  split
  · rename_i e; subst e
    first | rw [if_pos ht, List.getElem?_eq_getElem ht] | rw [List.getElem?_eq_getElem ht]
    rw [List.getD, List.getElem?_eq_getElem ht, Option.getD_some] at h
    rw [h]
  · rfl
theorem step_or (a : Int) (out : List Bool) (x : Ed) (ht : x.t.toNat < out.length) : stepE a out x = out ∨ cnt out < cnt (stepE a out x) := by
  unfold stepE
  split
  · cases h : out.getD x.t.toNat false
    · right
      unfold cnt
      rw [count_set ht h]; omega
    · left; exact set_same ht h
  · exact .inl rfl
theorem fold_or (a : Int) : ∀ (m : List Ed) (out : List Bool), (∀ x ∈ m, x.t.toNat < out.length) → ((∀ x ∈ m, stepE a out x = out) ∧ m.foldl (stepE a) out = out) ∨ cnt out < cnt (m.foldl (stepE a) out)
  | [], out, _ => .inl ⟨(fun _ h => by cases h), rfl⟩
  | x :: m, out, h => by
    rw [List.foldl_cons]
    rcases step_or a out x (h x (List.mem_cons_self ..)) with h1 | h1
    · rw [h1]
      rcases fold_or a m out (fun y hy => h y (List.mem_cons_of_mem _ hy)) with h2 | h2
      · refine .inl ⟨fun y hy => ?_, h2.2⟩
        rcases List.mem_cons.1 hy with rfl | hy
        · exact h1
        · exact h2.1 y hy
      · exact .inr h2
    · rcases fold_or a m (stepE a out x) (fun y hy => by rw [stepE_len]; exact h y (List.mem_cons_of_mem _ hy)) with h2 | h2
      · rw [h2.2]; exact .inr h1
      · exact .inr (Nat.lt_trans h1 h2)
theorem still_or {n : Nat} {l : List Ed} (hl : EdIn n l) (a : Int) : ∀ r, (∀ x ∈ l, stepE a (rnd l a n r) x = rnd l a n r) ∨ r ≤ cnt (rnd l a n r)
  | 0 => .inr (Nat.zero_le _)
  | r + 1 => by
    have hlt : ∀ x ∈ l, x.t.toNat < (rnd l a n r).length := fun x hx => by
      obtain ⟨f, t, rfl, hf, ht⟩ := hl x hx
      rw [rnd_len]; simpa using ht
    rcases fold_or a l (rnd l a n r) hlt with h | h
    · left
      rw [Ytaefjgjojflppaa.rnd, h.2]; exact h.1
    · rcases still_or hl a r with h2 | h2
      · left
        have e : l.foldl (stepE a) (rnd l a n r) = rnd l a n r := by
          have : ∀ m : List Ed, (∀ x ∈ m, stepE a (rnd l a n r) x = rnd l a n r) → m.foldl (stepE a) (rnd l a n r) = rnd l a n r := by
            intro m
            induction m with
            | nil => intro _; rfl
            | cons y m ih => intro hm; rw [List.foldl_cons, hm y (List.mem_cons_self ..)]; exact ih fun z hz => hm z (List.mem_cons_of_mem _ hz)
          exact this l h2
        rw [Ytaefjgjojflppaa.rnd, e]; exact h2
      · right
        rw [Ytaefjgjojflppaa.rnd]; omega
theorem reach_still {n : Nat} {l : List Ed} (hl : EdIn n l) (a : Int) : ∀ x ∈ l, stepE a (reachL n l a) x = reachL n l a := by
  rcases still_or hl a (n + 1) with h | h
  · exact h
  · have h1 : cnt (rnd l a n (n + 1)) ≤ (rnd l a n (n + 1)).length := List.countP_le_length
    rw [rnd_len] at h1
    omega
theorem reach_full {n : Nat} {l : List Ed} (hl : EdIn n l) (a : Nat) {b : Nat} (h : Pth l a b) : (reachL n l a).getD b false = true := by
  have hs := reach_still hl (a : Int)
  have close : ∀ f t : Nat, Eg l f t → (f = a ∨ (reachL n l a).getD f false = true) → (reachL n l a).getD t false = true := fun f t he hf => by
    obtain ⟨f', t', e, _, ht⟩ := hl _ he
    simp only [Ed.mk.injEq] at e
    have ht2 : t < (reachL n l (a : Int)).length := by unfold reachL; rw [rnd_len]; omega
    have h1 := hs _ he
    unfold stepE at h1
    rw [if_pos (by
      simp only [Int.toNat_natCast, Bool.or_eq_true, beq_iff_eq]
      rcases hf with rfl | hf
      · exact .inl rfl
      · exact .inr hf)] at h1
    simp only [Int.toNat_natCast] at h1
    rw [← h1]
    exact getD_set_same ht2
  induction h with
  | one e => exact close _ _ e (.inl rfl)
  | more _ e ih => exact close _ _ e (.inr ih)
theorem onB_iff {n : Nat} {l : List Ed} (hl : EdIn n l) (i : Nat) : onB n l i = true ↔ Pth l i i := ⟨fun h => SoundR.rnd hl i (n + 1) i h, fun h => reach_full hl i h⟩
end Go.Proofs.Ytaefjgjojflppaa

namespace Go.Proofs.Ytaefjgjojflppaa
open Go.RowKit
set_option linter.unusedVariables false
set_option linter.unusedSimpArgs false

def bt (R : List Nat) (i j : Nat) : Bool := (R.getD i 0).testBit j
theorem bt_set {R : List Nat} {p v : Nat} (hp : p < R.length) (i j : Nat) : bt (R.set p v) i j = if i = p then v.testBit j else bt R i j := by
  unfold bt
  by_cases h : i = p
  · subst h; simp [List.getD, hp]
  · rw [if_neg h, List.getD, List.getElem?_set_ne (fun e => h e.symm)]; rfl
theorem bt_orE {R : List Nat} {e : Ed} (hf : e.f.toNat < R.length) (i j : Nat) : bt (orE R e) i j = true ↔ bt R i j = true ∨ (i = e.f.toNat ∧ j = e.t.toNat) := by
  unfold orE
  rw [bt_set hf]
  split
  · rename_i h; subst h
    rw [Nat.testBit_or, Bool.or_eq_true, Nat.testBit_two_pow]
    simp only [decide_eq_true_eq, bt, true_and]
    constructor
    · rintro (h | h)
      · exact .inl h
      · exact .inr h.symm
    · rintro (h | h)
      · exact .inl h
      · exact .inr h.symm
  · rename_i h
    simp [h]
theorem warI_len (R : List Nat) (k i : Nat) : (warI R k i).length = R.length := by unfold warI; split <;> simp
theorem warP_len (R : List Nat) (k : Nat) : ∀ m, (warP R k m).length = R.length
  | 0 => rfl
  | m + 1 => by rw [warP, warI_len, warP_len R k m]
theorem bt_warI {R : List Nat} {p : Nat} (hp : p < R.length) (k i j : Nat) : bt (warI R k p) i j = true ↔ bt R i j = true ∨ (i = p ∧ bt R p k = true ∧ bt R k j = true) := by
  unfold warI
  split
  · rename_i hb
    rw [bt_set hp]
    split
    · rename_i h; subst h
      rw [Nat.testBit_or, Bool.or_eq_true]
      have hb2 : bt R i k = true := hb
      simp only [hb2, true_and]
      exact Iff.rfl
    · rename_i h; simp [h]
  · rename_i hb
    have hb2 : ¬ bt R p k = true := hb
    constructor
    · exact .inl
    · rintro (h | ⟨_, h, _⟩)
      · exact h
      · exact absurd h hb2
theorem bt_warP {R : List Nat} (k : Nat) : ∀ m, m ≤ R.length → ∀ i j, bt (warP R k m) i j = true ↔ bt R i j = true ∨ (i < m ∧ bt R i k = true ∧ bt R k j = true)
  | 0, _, i, j => by simp [warP]
  | m + 1, hm, i, j => by
    have ih := bt_warP (R := R) k m (by omega)
    rw [warP, bt_warI (by rw [warP_len]; omega), ih i j, ih m k, ih k j]
    constructor
    · rintro ((h | ⟨h1, h2, h3⟩) | ⟨rfl, h2, h3⟩)
      · exact .inl h
      · exact .inr ⟨by omega, h2, h3⟩
      · refine .inr ⟨by omega, ?_, ?_⟩
        · rcases h2 with h2 | ⟨_, h2, _⟩ <;> exact h2
        · rcases h3 with h3 | ⟨_, _, h3⟩ <;> exact h3
    · rintro (h | ⟨h1, h2, h3⟩)
      · exact .inl (.inl h)
      · by_cases him : i = m
        · subst him
          exact .inr ⟨rfl, .inl h2, .inl h3⟩
        · exact .inl (.inr ⟨by omega, h2, h3⟩)
theorem war_len (n : Nat) (R : List Nat) : ∀ k, (war n R k).length = R.length
  | 0 => rfl
  | k + 1 => by rw [war, warP_len, war_len n R k]
theorem bt_war {n : Nat} {R : List Nat} (hn : n ≤ R.length) (k i j : Nat) : bt (war n R (k + 1)) i j = true ↔ bt (war n R k) i j = true ∨ (i < n ∧ bt (war n R k) i k = true ∧ bt (war n R k) k j = true) := by
  rw [war, bt_warP k n (by rw [war_len]; exact hn)]
theorem war_more {n : Nat} {R : List Nat} (hn : n ≤ R.length) {i j : Nat} (h : bt R i j = true) : ∀ k, bt (war n R k) i j = true
  | 0 => h
  | k + 1 => (bt_war hn k i j).2 (.inl (war_more hn h k))
theorem war_sound {n : Nat} {R : List Nat} {l : List Ed} (hn : n ≤ R.length) (h : ∀ i j, bt R i j = true → Pth l i j) : ∀ k i j, bt (war n R k) i j = true → Pth l i j
  | 0, i, j, hb => h i j hb
  | k + 1, i, j, hb => by
    rcases (bt_war hn k i j).1 hb with h1 | ⟨_, h1, h2⟩
    · exact war_sound hn h k i j h1
    · exact (war_sound hn h k i k h1).trans (war_sound hn h k k j h2)
theorem war_closed {n : Nat} {R : List Nat} (hn : n ≤ R.length) : ∀ k, k ≤ n → ∀ m, m < k → ∀ i, i < n → ∀ j, bt (war n R k) i m = true → bt (war n R k) m j = true → bt (war n R k) i j = true
  | 0, _, m, hm, _, _, _, _, _ => absurd hm (by omega)
  | k + 1, hk, m, hm, i, hi, j, h1, h2 => by
    have ih := war_closed hn k (by omega)
    rw [bt_war hn] at h1 h2 ⊢
    by_cases hmk : m = k
    · subst hmk
      have a1 : bt (war n R m) i m = true := by rcases h1 with h1 | ⟨_, h1, _⟩ <;> exact h1
      have a2 : bt (war n R m) m j = true := by rcases h2 with h2 | ⟨_, _, h2⟩ <;> exact h2
      exact .inr ⟨hi, a1, a2⟩
    · have hm2 : m < k := by omega
      rcases h1 with h1 | ⟨_, h1, h1'⟩ <;> rcases h2 with h2 | ⟨hmn, h2, h2'⟩
      · exact .inl (ih m hm2 i hi j h1 h2)
      · exact .inr ⟨hi, ih m hm2 i hi k h1 h2, h2'⟩
      · exact .inr ⟨hi, h1, ih m hm2 k (by omega) j h1' h2⟩
      · exact .inr ⟨hi, h1, h2'⟩
theorem fold_bt {l : List Ed} (hl : EdIn 64 l) : ∀ (m : List Ed), (∀ x ∈ m, x ∈ l) → ∀ R : List Nat, R.length = 64 → (m.foldl orE R).length = 64 ∧ ∀ i j, bt (m.foldl orE R) i j = true ↔ bt R i j = true ∨ Eg m i j
  | [], _, R, h => ⟨h, fun i j => by simp [Eg]⟩
  | x :: m, hm, R, h => by
    obtain ⟨f, t, rfl, hf, ht⟩ := hl x (hm x (List.mem_cons_self ..))
    have h2 : (orE R ⟨(f : Int), (t : Int)⟩).length = 64 := by simp [orE, h]
    obtain ⟨h3, h4⟩ := fold_bt hl m (fun y hy => hm y (List.mem_cons_of_mem _ hy)) _ h2
    refine ⟨h3, fun i j => ?_⟩
    rw [List.foldl_cons, h4, bt_orE (by simpa [h] using hf)]
    unfold Eg
    simp only [Int.toNat_natCast, List.mem_cons, Ed.mk.injEq]
    constructor
    · rintro ((h | ⟨rfl, rfl⟩) | h)
      · exact .inl h
      · exact .inr (.inl ⟨rfl, rfl⟩)
      · exact .inr (.inr h)
    · rintro (h | ⟨h1, h2⟩ | h)
      · exact .inl (.inl h)
      · exact .inl (.inr ⟨by omega, by omega⟩)
      · exact .inr h
theorem war_iff {N : Nat} {l : List Ed} (hN : N ≤ 64) (hl : EdIn N l) (i j : Nat) (hi : i < N) : bt (warL N l) i j = true ↔ Pth l i j := by
  have hl64 : EdIn 64 l := fun x hx => by
    obtain ⟨a, b, e, h1, h2⟩ := hl x hx
    exact ⟨a, b, e, by omega, by omega⟩
  obtain ⟨h3, h4⟩ := fold_bt hl64 l (fun _ h => h) (List.replicate 64 0) (by simp)
  have hz : ∀ i j, bt (List.replicate 64 0) i j = false := fun i j => by
    unfold bt
    have : (List.replicate 64 0).getD i 0 = 0 := by
      simp only [List.getD, List.getElem?_replicate]
      split <;> rfl
    rw [this]; simp
  have hr : ∀ i j, bt (l.foldl orE (List.replicate 64 0)) i j = true ↔ Eg l i j := fun i j => by
    rw [h4, hz]; simp
  have hn : N ≤ (l.foldl orE (List.replicate 64 0)).length := by rw [h3]; exact hN
  constructor
  · exact war_sound hn (fun i j h => .one ((hr i j).1 h)) N i j
  · intro h
    induction h with
    | one e => exact war_more hn ((hr _ _).2 e) N
    | more h e ih =>
      rename_i m b
      obtain ⟨a', b', e', hm, _⟩ := hl _ e
      simp only [Ed.mk.injEq] at e'
      exact war_closed hn N (Nat.le_refl _) m (by omega) i hi b ih (war_more hn ((hr _ _).2 e) N)
theorem won_on {N : Int} {l : List Ed} : wonL N l = onL N l := by
  cases hv : validG N l
  · rw [wonL_no hv, onL_no hv]
  · obtain ⟨h0, h1⟩ := valid_range hv
    obtain ⟨n, rfl⟩ := Int.eq_ofNat_of_zero_le h0
    have hl := EdIn.of_valid hv
    rw [wonL_yes hv, onL_yes hv]
    congr 1
    unfold onW onN
    apply List.filter_congr
    intro i hi
    have hin := List.mem_range.1 hi
    rw [Bool.eq_iff_iff, onB_iff hl]
    exact war_iff (by omega) hl i i hin
end Go.Proofs.Ytaefjgjojflppaa

namespace Go.Proofs.Ytaefjgjojflppaa
open Go.RowKit
set_option linter.unusedVariables false
set_option linter.unusedSimpArgs false

/-- all edges into i come from nodes that are done -/
def inB (l : List Ed) (out : List Nat) (i : Nat) : Bool := l.all fun e => !(e.t == (i : Int)) || out.contains e.f.toNat
def candB (l : List Ed) (out : List Nat) (i : Nat) : Bool := !out.contains i && inB l out i
def nextN (n : Nat) (l : List Ed) (out : List Nat) : Option Nat := (List.range n).find? (candB l out)
def topF (n : Nat) (l : List Ed) : Nat → List Nat → Option (List Nat)
  | 0, out => some out
  | k + 1, out => match nextN n l out with
    | some i => topF n l k (out ++ [i])
    | none => none
def topN (n : Nat) (l : List Ed) : Option (List Nat) := topF n l n []
theorem nextN_none {n : Nat} {l : List Ed} {out : List Nat} (h : ∀ j, j < n → candB l out j = false) : nextN n l out = none := by
  unfold nextN
  rw [List.find?_eq_none]
  intro x hx
  rw [h x (List.mem_range.1 hx)]; simp
theorem nextN_some {n i : Nat} {l : List Ed} {out : List Nat} (hi : i < n) (h : ∀ j, j < i → candB l out j = false) (hc : candB l out i = true) : nextN n l out = some i := by
  unfold nextN
  rw [List.find?_eq_some_iff_getElem]
  exact ⟨hc, i, by simpa using hi, by simp, fun j hj => by simp [h j hj]⟩
/-- what a table of marks says -/
def MkOf (n : Nat) (mk : List Bool) (out : List Nat) : Prop := ∀ j, j < n → mk.getD j false = out.contains j
theorem MkOf.start (n m : Nat) : MkOf n (List.replicate m false) [] := fun j _ => by
  simp only [List.getD, List.getElem?_replicate]
  split <;> simp
theorem MkOf.snoc {n : Nat} {mk : List Bool} {out : List Nat} (h : MkOf n mk out) {i : Nat} (hi : i < mk.length) : MkOf n (mk.set i true) (out ++ [i]) := fun j hj => by
  by_cases hij : i = j
  · subst hij
    rw [getD_set_same hi]; simp
  · rw [getD_set_other hij, h j hj]
    rw [Bool.eq_iff_iff]
    simp only [List.contains_iff_mem, List.mem_append, List.mem_singleton]
    constructor
    · exact .inl
    · rintro (h | h)
      · exact h
      · exact absurd h.symm hij

/-- out so far: nodes below n, each once, the edges' sources first -/
structure Topo (n : Nat) (l : List Ed) (out : List Nat) : Prop where
  lt : ∀ x ∈ out, x < n
  nd : out.Nodup
  pre : ∀ i, i < out.length → ∀ a, Eg l a (out.getD i 0) → ∃ j, j < i ∧ out.getD j 0 = a
theorem Topo.nil (n : Nat) (l : List Ed) : Topo n l [] := ⟨fun x h => (by simp at h), List.nodup_nil, fun i h => absurd h (by simp)⟩
theorem in_mem {l : List Ed} {out : List Nat} {i a : Nat} (h : inB l out i = true) (e : Eg l a i) : a ∈ out := by
  unfold inB at h
  rw [List.all_eq_true] at h
  have := h _ e
  simpa using this
theorem getD_lt {out : List Nat} {i : Nat} (h : i < out.length) (ys : List Nat) : (out ++ ys).getD i 0 = out.getD i 0 := by
  simp [List.getD, List.getElem?_append_left h]
theorem getD_snoc (out : List Nat) (x : Nat) : (out ++ [x]).getD out.length 0 = x := by simp [List.getD]
theorem mem_getD {out : List Nat} {a : Nat} (h : a ∈ out) : ∃ j, j < out.length ∧ out.getD j 0 = a := by
  obtain ⟨j, hj, e⟩ := List.getElem_of_mem h
  exact ⟨j, hj, by simp [List.getD, hj, e]⟩
theorem getD_mem {out : List Nat} {j : Nat} (h : j < out.length) : out.getD j 0 ∈ out := by
  simp [List.getD, h]
theorem Topo.snoc {n i : Nat} {l : List Ed} {out : List Nat} (h : Topo n l out) (hi : i < n) (hc : candB l out i = true) : Topo n l (out ++ [i]) := by
  unfold candB at hc
  rw [Bool.and_eq_true] at hc
  have hni : i ∉ out := by simpa using hc.1
  refine ⟨fun x hx => ?_, ?_, fun k hk a ha => ?_⟩
  · rcases List.mem_append.1 hx with hx | hx
    · exact h.lt x hx
    · simp at hx; omega
  · rw [List.nodup_append]
    refine ⟨h.nd, by simp, fun a ha b hb => ?_⟩
    simp at hb; subst hb
    exact fun e => hni (e ▸ ha)
  · rcases Nat.lt_or_ge k out.length with hlt | hge
    · rw [getD_lt hlt] at ha
      obtain ⟨j, hj, e⟩ := h.pre k hlt a ha
      exact ⟨j, hj, by rw [getD_lt (by omega)]; exact e⟩
    · obtain rfl : k = out.length := by simp at hk; omega
      rw [getD_snoc] at ha
      obtain ⟨j, hj, e⟩ := mem_getD (in_mem hc.2 ha)
      exact ⟨j, hj, by rw [getD_lt hj]; exact e⟩
theorem nextN_is {n i : Nat} {l : List Ed} {out : List Nat} (h : nextN n l out = some i) : i < n ∧ candB l out i = true := by
  unfold nextN at h
  have h1 := List.mem_of_find?_eq_some h
  exact ⟨List.mem_range.1 h1, List.find?_some h⟩
theorem nextN_no {n : Nat} {l : List Ed} {out : List Nat} (h : nextN n l out = none) : ∀ j, j < n → candB l out j = false := by
  unfold nextN at h
  rw [List.find?_eq_none] at h
  intro j hj
  simpa using h j (List.mem_range.2 hj)
theorem topF_topo {n : Nat} {l : List Ed} : ∀ (k : Nat) (out o : List Nat), Topo n l out → topF n l k out = some o → Topo n l o ∧ o.length = out.length + k
  | 0, out, o, h, e => by
    simp only [topF, Option.some.injEq] at e
    subst e; exact ⟨h, by omega⟩
  | k + 1, out, o, h, e => by
    rw [topF] at e
    cases hn : nextN n l out with
    | none => rw [hn] at e; cases e
    | some i =>
      rw [hn] at e
      obtain ⟨h1, h2⟩ := nextN_is hn
      obtain ⟨h3, h4⟩ := topF_topo k _ _ (h.snoc h1 h2) e
      exact ⟨h3, by rw [h4]; simp; omega⟩
theorem nodup_le : ∀ (n : Nat) (L : List Nat), L.Nodup → (∀ x ∈ L, x < n) → L.length ≤ n
  | 0, L, _, h => by
    cases L with
    | nil => simp
    | cons a L => exact absurd (h a (by simp)) (by omega)
  | n + 1, L, hd, h => by
    by_cases hm : n ∈ L
    · have := nodup_le n (L.erase n) (hd.erase n) fun x hx => by
        have h1 := h x (List.mem_of_mem_erase hx)
        have h2 : x ≠ n := fun e => by subst e; exact (List.Nodup.not_mem_erase hd) hx
        omega
      rw [List.length_erase_of_mem hm] at this
      omega
    · have := nodup_le n L hd fun x hx => by
        have h1 := h x hx
        have h2 : x ≠ n := fun e => hm (e ▸ hx)
        omega
      omega
theorem full_mem {n : Nat} {L : List Nat} (hd : L.Nodup) (h : ∀ x ∈ L, x < n) (hl : L.length = n) {j : Nat} (hj : j < n) : j ∈ L := by
  by_cases hm : j ∈ L
  · exact hm
  · have := nodup_le n (j :: L) (List.nodup_cons.2 ⟨hm, hd⟩) fun x hx => by
      rcases List.mem_cons.1 hx with rfl | hx
      · exact hj
      · exact h x hx
    simp at this; omega
theorem full_len : ∀ (n : Nat) (L : List Nat), (∀ j, j < n → j ∈ L) → n ≤ L.length
  | 0, _, _ => Nat.zero_le _
  | n + 1, L, h => by
    have := full_len n (L.erase n) fun j hj => (List.mem_erase_of_ne (by omega)).2 (h j (by omega))
    rw [List.length_erase_of_mem (h n (by omega))] at this
    have h2 : 0 < L.length := List.length_pos_of_mem (h n (by omega))
    omega
theorem Topo.path {n : Nat} {l : List Ed} {o : List Nat} (h : Topo n l o) {a b : Nat} (hp : Pth l a b) : ∀ i, i < o.length → o.getD i 0 = b → ∃ j, j < i ∧ o.getD j 0 = a := by
  induction hp with
  | one e => intro i hi hb; subst hb; exact h.pre i hi _ e
  | more _ e ih =>
    intro i hi hb
    subst hb
    obtain ⟨j, hj, e1⟩ := h.pre i hi _ e
    obtain ⟨k, hk, e2⟩ := ih j (by omega) e1
    exact ⟨k, by omega, e2⟩
theorem getD_inj {o : List Nat} (hd : o.Nodup) {i j : Nat} (hi : i < o.length) (hj : j < o.length) (e : o.getD i 0 = o.getD j 0) : i = j := by
  simp only [List.getD, List.getElem?_eq_getElem hi, List.getElem?_eq_getElem hj, Option.getD_some] at e
  exact (List.getElem_inj hd).1 e
theorem Topo.acyclic {n : Nat} {l : List Ed} {o : List Nat} (h : Topo n l o) (hl : o.length = n) {i : Nat} (hi : i < n) : ¬ Pth l i i := fun hp => by
  obtain ⟨j, hj, e⟩ := mem_getD (full_mem h.nd h.lt hl hi)
  obtain ⟨k, hk, e2⟩ := h.path hp j hj e
  have := getD_inj h.nd (by omega) hj (e2.trans e.symm)
  omega
/-- without cycles there is always a next one -/
theorem nextN_ex {n : Nat} {l : List Ed} (hE : EdIn n l) (hc : ∀ i, i < n → ¬ Pth l i i) {out : List Nat} (h : out.length < n) : ∃ i, nextN n l out = some i := by
  cases hn : nextN n l out with
  | some i => exact ⟨i, rfl⟩
  | none =>
    exfalso
    have hno := nextN_no hn
    have hU : ((List.range n).filter fun j => !out.contains j) ≠ [] := fun e => by
      have h1 : ∀ j, j < n → j ∈ out := fun j hj => by
        have := List.filter_eq_nil_iff.1 e j (List.mem_range.2 hj)
        simpa using this
      have := full_len n out h1
      omega
    classical
    obtain ⟨x, hx, hm⟩ := exists_min (f := fun a b => decide (a < n ∧ b < n ∧ Pth l a b)) (fun a => by rw [decide_eq_false_iff_not]; exact fun h => hc a h.1 h.2.2)
      (fun a b c h1 h2 => by simp at h1 h2 ⊢; exact ⟨h1.1, h2.2.1, h1.2.2.trans h2.2.2⟩) _ hU
    simp only [List.mem_filter, List.mem_range, Bool.not_eq_true', List.contains_eq_mem, decide_eq_false_iff_not] at hx
    have h1 := hno x hx.1
    unfold candB at h1
    rw [show out.contains x = false by simpa using hx.2] at h1
    simp only [Bool.not_false, Bool.true_and] at h1
    unfold inB at h1
    rw [List.all_eq_false] at h1
    obtain ⟨e, he, h2⟩ := h1
    obtain ⟨a, b, rfl, ha, hb⟩ := hE e he
    simp at h2
    have hbx : b = x := by omega
    subst hbx
    have := hm a (by simp; exact ⟨ha, h2.2⟩)
    simp at this
    exact this ha hb (.one he)
theorem topF_ex {n : Nat} {l : List Ed} (hE : EdIn n l) (hc : ∀ i, i < n → ¬ Pth l i i) : ∀ (k : Nat) (out : List Nat), out.length + k = n → ∃ o, topF n l k out = some o
  | 0, out, _ => ⟨out, rfl⟩
  | k + 1, out, h => by
    obtain ⟨i, hi⟩ := nextN_ex hE hc (out := out) (by omega)
    rw [topF, hi]
    exact topF_ex hE hc k _ (by simp; omega)
theorem topN_iff {n : Nat} {l : List Ed} (hE : EdIn n l) : (topN n l).isSome = true ↔ onN n l n = [] := by
  have hon : onN n l n = [] ↔ ∀ i, i < n → ¬ Pth l i i := by
    unfold onN
    rw [List.filter_eq_nil_iff]
    constructor
    · intro h i hi hp; exact h i (List.mem_range.2 hi) ((onB_iff hE i).2 hp)
    · intro h i hi hp; exact h i (List.mem_range.1 hi) ((onB_iff hE i).1 hp)
  rw [hon]
  constructor
  · intro h i hi
    obtain ⟨o, ho⟩ := Option.isSome_iff_exists.1 h
    obtain ⟨h1, h2⟩ := topF_topo n [] o (Topo.nil n l) ho
    exact h1.acyclic (by simpa using h2) hi
  · intro h
    obtain ⟨o, ho⟩ := topF_ex hE h n [] (by simp)
    exact Option.isSome_iff_exists.2 ⟨o, ho⟩
end Go.Proofs.Ytaefjgjojflppaa

namespace Go.Proofs.Ytaefjgjojflppaa
open Go.RowKit
set_option linter.unusedVariables false
set_option linter.unusedSimpArgs false

/-- the greatest of a list of numbers that are let in -/
def mxF (c : Ed → Bool) (f : Ed → Nat) (l : List Ed) (a : Nat) : Nat := l.foldl (fun acc e => if c e then max acc (f e) else acc) a
theorem mxF_le (c : Ed → Bool) (f : Ed → Nat) (m : Nat) : ∀ (l : List Ed) (a : Nat), mxF c f l a ≤ m ↔ a ≤ m ∧ ∀ e ∈ l, c e = true → f e ≤ m
  | [], a => by simp [mxF]
  | x :: l, a => by
    have ih := mxF_le c f m l (if c x then max a (f x) else a)
    unfold mxF at ih ⊢
    rw [List.foldl_cons, ih]
    cases hc : c x
    · simp [hc]
    · simp only [if_true, Nat.max_le, List.mem_cons, forall_eq_or_imp, hc]
      constructor
      · rintro ⟨⟨h1, h2⟩, h3⟩; exact ⟨h1, fun _ => h2, h3⟩
      · rintro ⟨h1, h2, h3⟩; exact ⟨⟨h1, h2 trivial⟩, h3⟩
theorem eq_of_le {a b : Nat} (h : ∀ m, a ≤ m ↔ b ≤ m) : a = b := by
  have h1 := (h b).2 (Nat.le_refl _)
  have h2 := (h a).1 (Nat.le_refl _)
  omega
/-- one edge, pushed from node i -/
def stG (i : Nat) (G : List Nat) (e : Ed) : List Nat := if e.f == (i : Int) then G.set e.t.toNat (max (G.getD e.t.toNat 0) (G.getD i 0)) else G
/-- one edge, pulled to node i -/
def stR (i : Nat) (R : List Nat) (e : Ed) : List Nat := if e.t == (i : Int) then R.set i (max (R.getD i 0) (R.getD e.f.toNat 0 + 1)) else R
def gUp (G : List Nat) (i : Nat) : List Nat := G.set i (G.getD i 0 + 1)
def gStep (l : List Ed) (s : List Nat × Nat) (i : Nat) : List Nat × Nat := (l.foldl (stG i) (gUp s.1 i), max s.2 ((gUp s.1 i).getD i 0))
def rStep (l : List Ed) (s : List Nat × Nat) (i : Nat) : List Nat × Nat :=
  ((l.foldl (stR i) (s.1.set i 1)), max s.2 ((l.foldl (stR i) (s.1.set i 1)).getD i 0))
def gLng (l : List Ed) (o : List Nat) : List Nat × Nat := o.foldl (gStep l) (List.replicate 64 0, 0)
def rLng (n : Nat) (l : List Ed) (o : List Nat) : List Nat × Nat := o.foldl (rStep l) (List.replicate n 0, 0)
theorem gd_set_same {R : List Nat} {i v : Nat} (h : i < R.length) : (R.set i v).getD i 0 = v := by simp [List.getD, h]
theorem gd_set_other {R : List Nat} {i j v : Nat} (h : i ≠ j) : (R.set i v).getD j 0 = R.getD j 0 := by simp [List.getD, List.getElem?_set, h]
theorem stG_len (i : Nat) (G : List Nat) (e : Ed) : (stG i G e).length = G.length := by unfold stG; split <;> simp
theorem stR_len (i : Nat) (G : List Nat) (e : Ed) : (stR i G e).length = G.length := by unfold stR; split <;> simp
theorem foldG_len (i : Nat) : ∀ (l : List Ed) (G : List Nat), (l.foldl (stG i) G).length = G.length
  | [], _ => rfl
  | e :: l, G => by rw [List.foldl_cons, foldG_len i l, stG_len]
theorem foldR_len (i : Nat) : ∀ (l : List Ed) (G : List Nat), (l.foldl (stR i) G).length = G.length
  | [], _ => rfl
  | e :: l, G => by rw [List.foldl_cons, foldR_len i l, stR_len]
/-- what the pull leaves -/
theorem foldR_get {i : Nat} : ∀ (l : List Ed) (R : List Nat), i < R.length → (∀ e ∈ l, e.t = (i : Int) → e.f.toNat ≠ i) →
    (∀ j, j ≠ i → (l.foldl (stR i) R).getD j 0 = R.getD j 0) ∧ (l.foldl (stR i) R).getD i 0 = mxF (fun e => e.t == (i : Int)) (fun e => R.getD e.f.toNat 0 + 1) l (R.getD i 0)
  | [], R, _, _ => ⟨fun _ _ => rfl, rfl⟩
  | x :: l, R, hi, hs => by
    obtain ⟨h1, h2⟩ := foldR_get l (stR i R x) (by rw [stR_len]; exact hi) fun e he => hs e (List.mem_cons_of_mem _ he)
    have ho : ∀ j, j ≠ i → (stR i R x).getD j 0 = R.getD j 0 := fun j hj => by
      unfold stR; split
      · exact gd_set_other (Ne.symm hj)
      · rfl
    have hii : (stR i R x).getD i 0 = if x.t == (i : Int) then max (R.getD i 0) (R.getD x.f.toNat 0 + 1) else R.getD i 0 := by
      unfold stR; split
      · exact gd_set_same hi
      · rfl
    rw [List.foldl_cons]
    refine ⟨fun j hj => (h1 j hj).trans (ho j hj), ?_⟩
    rw [h2]
    apply eq_of_le
    intro m
    rw [mxF_le, mxF_le, hii]
    simp only [List.mem_cons, forall_eq_or_imp, beq_iff_eq]
    have hrest : (∀ e ∈ l, e.t = (i : Int) → (stR i R x).getD e.f.toNat 0 + 1 ≤ m) ↔ ∀ e ∈ l, e.t = (i : Int) → R.getD e.f.toNat 0 + 1 ≤ m :=
      forall_congr' fun e => forall_congr' fun he => forall_congr' fun ht => by rw [ho _ (hs e (List.mem_cons_of_mem _ he) ht)]
    rw [hrest]
    by_cases hx : x.t = (i : Int)
    · simp only [hx, if_true, Nat.max_le]
      constructor
      · rintro ⟨⟨a, b⟩, c⟩; exact ⟨a, fun _ => b, c⟩
      · rintro ⟨a, b, c⟩; exact ⟨⟨a, b trivial⟩, c⟩
    · simp only [hx, if_false, false_implies, true_and]
/-- what the push leaves -/
theorem foldG_get {i : Nat} : ∀ (l : List Ed) (G : List Nat), (∀ e ∈ l, 0 ≤ e.t ∧ e.t.toNat < G.length) → (∀ e ∈ l, e.f = (i : Int) → e.t.toNat ≠ i) →
    ∀ j, (l.foldl (stG i) G).getD j 0 = mxF (fun e => e.f == (i : Int) && e.t == (j : Int)) (fun _ => G.getD i 0) l (G.getD j 0)
  | [], R, _, _ => fun _ => rfl
  | x :: l, G, hl, hs => fun j => by
    have ih := foldG_get l (stG i G x) (fun e he => by rw [stG_len]; exact hl e (List.mem_cons_of_mem _ he)) (fun e he => hs e (List.mem_cons_of_mem _ he)) j
    have hii : (stG i G x).getD i 0 = G.getD i 0 := by
      unfold stG; split
      · rename_i h
        exact gd_set_other (hs x (List.mem_cons_self ..) (by simpa using h))
      · rfl
    have hx := hl x (List.mem_cons_self ..)
    have hjj : (stG i G x).getD j 0 = if x.f = (i : Int) ∧ x.t = (j : Int) then max (G.getD j 0) (G.getD i 0) else G.getD j 0 := by
      unfold stG
      by_cases hf : x.f = (i : Int)
      · simp only [hf, beq_self_eq_true, if_true, true_and]
        by_cases ht : x.t = (j : Int)
        · rw [if_pos ht]
          have : x.t.toNat = j := by omega
          rw [this]
          exact gd_set_same (by omega)
        · rw [if_neg ht]
          exact gd_set_other (by omega)
      · simp [hf]
    rw [List.foldl_cons, ih]
    apply eq_of_le
    intro m
    rw [mxF_le, mxF_le, hii, hjj]
    simp only [List.mem_cons, forall_eq_or_imp, beq_iff_eq, Bool.and_eq_true]
    by_cases hx : x.f = (i : Int) ∧ x.t = (j : Int)
    · simp only [hx, and_self, if_true, Nat.max_le]
      constructor
      · rintro ⟨⟨a, b⟩, c⟩; exact ⟨a, fun _ => b, c⟩
      · rintro ⟨a, b, c⟩; exact ⟨⟨a, b trivial⟩, c⟩
    · simp only [hx, if_false, false_implies, true_and]
/-- both tables, with the nodes of p taken -/
structure Lng (n : Nat) (l : List Ed) (p : List Nat) (s t : List Nat × Nat) : Prop where
  gl : s.1.length = 64
  rl : t.1.length = n
  same : s.2 = t.2
  le : t.2 ≤ p.length
  rle : ∀ j, t.1.getD j 0 ≤ p.length
  in_ : ∀ j, j ∈ p → s.1.getD j 0 = t.1.getD j 0
  out_ : ∀ j, j < n → j ∉ p → s.1.getD j 0 = mxF (fun e => e.t == (j : Int) && p.contains e.f.toNat) (fun e => t.1.getD e.f.toNat 0) l 0
theorem Lng.start (n : Nat) (l : List Ed) : Lng n l [] (List.replicate 64 0, 0) (List.replicate n 0, 0) := by
  have hz : ∀ k j : Nat, (List.replicate k 0).getD j 0 = 0 := fun k j => by
    simp only [List.getD, List.getElem?_replicate]
    split <;> rfl
  refine ⟨by simp, by simp, rfl, by simp, fun j => by rw [hz]; simp, fun j h => by simp at h, fun j _ _ => ?_⟩
  rw [hz]
  apply eq_of_le
  intro m
  rw [mxF_le]
  simp
theorem Lng.step {n i : Nat} {l : List Ed} (hE : EdIn n l) (hn : n ≤ 64) {p : List Nat} {s t : List Nat × Nat} (h : Lng n l p s t) (hT : Topo n l p) (hi : i < n) (hc : candB l p i = true) : Lng n l (p ++ [i]) (gStep l s i) (rStep l t i) := by
  unfold candB at hc
  rw [Bool.and_eq_true] at hc
  have hni : i ∉ p := by simpa using hc.1
  have hself : ∀ e ∈ l, e.t = (i : Int) → e.f.toNat ≠ i := fun e he ht => by
    obtain ⟨a, b, rfl, ha, hb⟩ := hE e he
    simp only at ht
    have hbi : b = i := by omega
    subst hbi
    have := in_mem hc.2 he
    simp only [Int.toNat_natCast]
    exact fun e => hni (e ▸ this)
  have hself2 : ∀ e ∈ l, e.f = (i : Int) → e.t.toNat ≠ i := fun e he hf ht => by
    obtain ⟨a, b, rfl, ha, hb⟩ := hE e he
    simp only [Int.toNat_natCast] at hf ht
    exact hself _ he (by simp only; omega) (by simp only [Int.toNat_natCast]; omega)
  have hin : ∀ e ∈ l, e.t = (i : Int) → e.f.toNat ∈ p := fun e he ht => by
    obtain ⟨a, b, rfl, ha, hb⟩ := hE e he
    simp only at ht
    have hbi : b = i := by omega
    subst hbi
    simpa using in_mem hc.2 he
  have hnp : ∀ e ∈ l, e.f = (i : Int) → e.t.toNat ∉ p := fun e he hf hp => by
    obtain ⟨a, b, rfl, ha, hb⟩ := hE e he
    simp only [Int.toNat_natCast] at hf hp
    obtain ⟨j, hj, hjb⟩ := mem_getD hp
    obtain ⟨k, hk, hka⟩ := hT.pre j hj a (by rw [hjb]; exact he)
    have hai : a = i := by omega
    subst hai
    exact hni (hka ▸ getD_mem (by omega))
  obtain ⟨r1, r2⟩ := foldR_get l (t.1.set i 1) (by rw [List.length_set, h.rl]; exact hi) hself
  have hiR : i < t.1.length := by rw [h.rl]; exact hi
  have hiG : i < s.1.length := by rw [h.gl]; omega
  have r1' : ∀ j, j ≠ i → (l.foldl (stR i) (t.1.set i 1)).getD j 0 = t.1.getD j 0 := fun j hj => (r1 j hj).trans (gd_set_other (Ne.symm hj))
  have hgi : s.1.getD i 0 + 1 = (l.foldl (stR i) (t.1.set i 1)).getD i 0 := by
    rw [r2, h.out_ i hi hni, gd_set_same hiR]
    apply eq_of_le
    intro m
    rw [mxF_le]
    cases m with
    | zero => simp
    | succ m =>
      rw [Nat.succ_le_succ_iff, mxF_le]
      simp only [Nat.zero_le, true_and, Bool.and_eq_true, beq_iff_eq, Nat.le_add_left]
      constructor
      · intro k e he ht
        rw [gd_set_other (Ne.symm (hself e he ht))]
        have := k e he ⟨ht, by simpa using hin e he ht⟩
        omega
      · intro k e he ht
        have := k e he ht.1
        rw [gd_set_other (Ne.symm (hself e he ht.1))] at this
        omega
  have hG1 : (gUp s.1 i).getD i 0 = (l.foldl (stR i) (t.1.set i 1)).getD i 0 := by unfold gUp; rw [gd_set_same hiG]; exact hgi
  have hG1o : ∀ j, j ≠ i → (gUp s.1 i).getD j 0 = s.1.getD j 0 := fun j hj => by unfold gUp; exact gd_set_other (Ne.symm hj)
  have g1 := foldG_get (i := i) l (gUp s.1 i) (fun e he => by
    obtain ⟨a, b, rfl, ha, hb⟩ := hE e he
    simp [gUp, h.gl]; omega) hself2
  have hRi : (l.foldl (stR i) (t.1.set i 1)).getD i 0 ≤ p.length + 1 := by
    rw [r2, mxF_le, gd_set_same hiR]
    refine ⟨by omega, fun e he ht => ?_⟩
    rw [gd_set_other (Ne.symm (hself e he (by simpa using ht)))]
    have := h.rle e.f.toNat
    omega
  refine ⟨by simp [gStep, foldG_len, gUp, h.gl], by simp [rStep, foldR_len, h.rl], by simp only [gStep, rStep]; rw [h.same, hG1], ?_, fun j => ?_, fun j hj => ?_, fun j hj hjp => ?_⟩
  · simp only [rStep, List.length_append, List.length_cons, List.length_nil, Nat.max_le]
    have := h.le
    omega
  · simp only [rStep, List.length_append, List.length_cons, List.length_nil]
    by_cases hji : j = i
    · subst hji; exact hRi
    · rw [r1' j hji]; have := h.rle j; omega
  · simp only [gStep, rStep]
    rw [g1 j]
    apply eq_of_le
    intro m
    rw [mxF_le]
    have hno : ∀ e ∈ l, (e.f == (i : Int) && e.t == (j : Int)) = true → False := fun e he hc2 => by
      simp only [Bool.and_eq_true, beq_iff_eq] at hc2
      have htj : e.t.toNat = j := by omega
      rcases List.mem_append.1 hj with hp | hp
      · exact hnp e he hc2.1 (htj ▸ hp)
      · simp at hp; subst hp; exact hself2 e he hc2.1 htj
    have hv : (gUp s.1 i).getD j 0 = (l.foldl (stR i) (t.1.set i 1)).getD j 0 := by
      by_cases hji : j = i
      · subst hji; exact hG1
      · rw [hG1o j hji, r1' j hji]
        rcases List.mem_append.1 hj with hp | hp
        · exact h.in_ j hp
        · simp at hp; exact absurd hp hji
    rw [hv]
    constructor
    · exact fun h => h.1
    · exact fun h => ⟨h, fun e he hc2 => (hno e he hc2).elim⟩
  · simp only [gStep, rStep]
    have hjp1 : j ∉ p := fun hp => hjp (List.mem_append_left _ hp)
    have hji : j ≠ i := fun e => hjp (by simp [e])
    rw [g1 j, hG1o j hji, h.out_ j hj hjp1, hG1]
    apply eq_of_le
    intro m
    rw [mxF_le, mxF_le, mxF_le]
    simp only [Nat.zero_le, true_and, Bool.and_eq_true, beq_iff_eq, List.contains_iff_mem, List.mem_append, List.mem_singleton]
    constructor
    · rintro ⟨h1, h2⟩ e he ⟨ht, hp | hp⟩
      · rw [r1' _ (fun e2 => hni (e2 ▸ hp))]
        exact h1 e he ⟨ht, hp⟩
      · rw [hp]
        obtain ⟨a, b, rfl, ha, hb⟩ := hE e he
        exact h2 _ he ⟨by simp only [Int.toNat_natCast] at hp; simp only [hp], ht⟩
    · intro h1
      refine ⟨fun e he ⟨ht, hp⟩ => ?_, fun e he ⟨hf, ht⟩ => ?_⟩
      · have := h1 e he ⟨ht, .inl hp⟩
        rwa [r1' _ (fun e2 => hni (e2 ▸ hp))] at this
      · have hfi : e.f.toNat = i := by omega
        have := h1 e he ⟨ht, .inr hfi⟩
        rwa [hfi] at this
theorem lng_all {n : Nat} {l : List Ed} (hE : EdIn n l) (hn : n ≤ 64) : ∀ (k : Nat) (p o : List Nat), Topo n l p → Lng n l p (gLng l p) (rLng n l p) → topF n l k p = some o → Lng n l o (gLng l o) (rLng n l o)
  | 0, p, o, _, h, e => by
    simp only [topF, Option.some.injEq] at e
    subst e; exact h
  | k + 1, p, o, hT, h, e => by
    rw [topF] at e
    cases hx : nextN n l p with
    | none => rw [hx] at e; cases e
    | some i =>
      rw [hx] at e
      obtain ⟨h1, h2⟩ := nextN_is hx
      refine lng_all hE hn k (p ++ [i]) o (hT.snoc h1 h2) ?_ e
      unfold gLng rLng
      rw [List.foldl_append, List.foldl_append]
      exact h.step hE hn hT h1 h2
theorem gLng_rLng {n : Nat} {l : List Ed} (hE : EdIn n l) (hn : n ≤ 64) {o : List Nat} (h : topN n l = some o) : (gLng l o).2 = (rLng n l o).2 ∧ (rLng n l o).2 ≤ n := by
  have h1 := lng_all hE hn n [] o (Topo.nil n l) (Lng.start n l) h
  have h2 := (topF_topo n [] o (Topo.nil n l) h).2
  exact ⟨h1.same, by have := h1.le; simp at h2; omega⟩
end Go.Proofs.Ytaefjgjojflppaa

namespace Go.Proofs.Ytaefjgjojflppaa
open Go.RowKit
set_option linter.unusedVariables false
set_option linter.unusedSimpArgs false

/-- what Topological answers -/
def TopRet (w : World) (M : Nat → Prop) (o : Option (List Nat)) (e : Ending) (w' : World) : Prop :=
  ∃ (A : Option Addr) (n c : Nat), e = .returned (.tuple #[.slice A n c, .bool o.isSome]) ∧ n = (o.getD []).length ∧ n ≤ c ∧ c ≤ 9223372036854775807 ∧ Ro w' M (IsIn A n (toI (o.getD []))) ∧ Below w.heap.size w w'
def topL (N : Int) (l : List Ed) : Option (List Nat) := if validG N l then topN N.toNat l else none
theorem topL_no {N : Int} {l : List Ed} (h : validG N l = false) : topL N l = none := by unfold topL; rw [h]; rfl
theorem topL_yes {N : Nat} {l : List Ed} (h : validG N l = true) : topL N l = topN N l := by unfold topL; rw [h]; simp
theorem inB_all {l : List Ed} {out : List Nat} {i : Nat} (h : ∀ e ∈ l, e.t = (i : Int) → e.f.toNat ∈ out) : inB l out i = true := by
  unfold inB
  rw [List.all_eq_true]
  intro e he
  by_cases ht : e.t = (i : Int)
  · simp [ht, h e he ht]
  · simp [ht]
theorem cand_in {l : List Ed} {out : List Nat} {i : Nat} (h : i ∈ out) : candB l out i = false := by unfold candB; simp [h]
theorem cand_not {l : List Ed} {out : List Nat} {i f t : Nat} (he : (⟨(f : Int), (t : Int)⟩ : Ed) ∈ l) (ht : t = i) (hf : f ∉ out) : candB l out i = false := by
  subst ht
  unfold candB inB
  rw [Bool.and_eq_false_iff]
  right
  rw [List.all_eq_false]
  exact ⟨_, he, by simp [hf]⟩
theorem cand_yes {l : List Ed} {out : List Nat} {i : Nat} (hi : i ∉ out) (h : ∀ e ∈ l, e.t = (i : Int) → e.f.toNat ∈ out) : candB l out i = true := by
  unfold candB; rw [inB_all h]; simp [hi]
/-- the greedy order stands at out -/
structure TopAt (D N : Nat) (l : List Ed) (mk : List Bool) (out : List Nat) (gh : Nat) : Prop where
  ln : mk.length = D
  marks : MkOf N mk out
  eq : topN N l = topF N l gh out
theorem TopAt.next {D N : Nat} {l : List Ed} {mk : List Bool} {out : List Nat} {gh : Nat} (h : TopAt D N l mk out (gh + 1)) {i : Nat} (hi : i < N) (hN : N ≤ D) (hm : ∀ j, j < i → candB l out j = false) (hc : candB l out i = true)   : TopAt D N l (mk.set i true) (out ++ [i]) gh := by
  refine ⟨by simp [h.ln], h.marks.snoc (by rw [h.ln]; omega), ?_⟩
  rw [h.eq, topF, nextN_some hi hm hc]
theorem TopAt.stuck {D N : Nat} {l : List Ed} {mk : List Bool} {out : List Nat} {gh : Nat} (h : TopAt D N l mk out (gh + 1)) (hm : ∀ j, j < N → candB l out j = false) : topN N l = none := by
  rw [h.eq, topF, nextN_none hm]
set_option maxHeartbeats 4000000 in
set_option maxRecDepth 100000 in
theorem gtop_any (M : Nat → Prop) (w : World) (hM : ∀ b, M b → b < w.heap.size) (N : Int) (A : Option Addr) (n c : Nat) (l : List Ed) (hD : Ro w M (EdsIn A n l)) (hn : n ≤ 1000000) :
    Calls Try.prog 30 #[.int .i64 N, .slice A n c] w fun e w' => TopRet w M (topL N l) e w' := by
  have K0 := (Hold.start M w hM).add (hD.less (by simp [Mut]))
  go_enter Try.func30, Try.ntmps30
  go_wp2
  go_step3
  go_wp2_with fail
  refine (gvalid_any _ _ K0.mutLt N A n c l (K0.ro 0 rfl) (by omega)).mono ?_
  rintro e w1 ⟨rfl, b1⟩
  have K1 := K0.call b1
  clear K0 b1
  cases hv : validG N l
  · have HO := hid (topL_no hv)
    go_wp2_with fail
    go_ret2
    rw [HO.out]
    exact ⟨none, 0, 0, rfl, rfl, by omega, by omega, ro_nil, K1.below⟩
  · have hr := valid_range hv
    obtain ⟨N, rfl⟩ := Int.eq_ofNat_of_zero_le hr.1
    have hN : N ≤ 64 := by omega
    have HO := hid (topL_yes hv)
    have HVV := hid hv
    clear hv hr
    have K2 := (K1.alloc_own (List.replicate 64 (.bool false)).toArray 81 1 64 (by unfold maxLen; omega) (by simp)).nil 3 1
    obtain ⟨g, hg⟩ : ∃ g, g = w1.heap.size := ⟨_, rfl⟩
    rw [← hg] at K2
    have HGG := hid hg
    go_wp2
    go_step3
    go_wp2
    rw [← hg]
    clear hg K1
    go_loopg [7] N (fun gh v wr => ∃ (out : List Nat) (mk : List Bool) (q cc : Nat) (O : Option Addr), v = .slice O q cc ∧ q + gh = N ∧ Hid (q = out.length) ∧ q ≤ cc ∧ cc ≤ 9223372036854775807 ∧ Hid (TopAt 64 N l mk out gh) ∧ Hold M none w wr [.own 3 1 (.slice O q cc) q (iCells (toI out)), .own 81 1 (.slice (some ⟨g, 0, none⟩) 64 64) 64 (bCells mk), .ro (EdsIn A n l)])
    case atStart => exact ⟨[], List.replicate 64 false, 0, 0, none, rfl, by omega, hid rfl, by omega, by omega, hid ⟨by simp, MkOf.start N 64, rfl⟩, K2⟩
    case round =>
      clear K2
      obtain ⟨out, mk, q, cc, O, rfl, hq, HQ, hqc, hcc, HT, H⟩ := hrel
      cases gk with
      | succ go =>
        have hlt : q < N := by omega
        have hd : decide ((q : Int) < (N : Int)) = true := by simp; omega
        go_wp2
        go_step3
        go_wp2
        go_step3
        go_wp2
        go_loopg [7, 20] N (fun gh v iv wq => ∃ i : Nat, v = .slice O q cc ∧ i + gh = N ∧ iv = .int .i64 i ∧ Hid (∀ j, j < i → candB l out j = false) ∧ Hold M none w wq [.own 3 1 (.slice O q cc) q (iCells (toI out)), .own 81 1 (.slice (some ⟨g, 0, none⟩) 64 64) 64 (bCells mk), .ro (EdsIn A n l)])
        case atStart => exact ⟨0, rfl, by omega, rfl, hid (fun j hj => absurd hj (by omega)), H⟩
        case round =>
          clear H
          obtain ⟨i, rfl, hi, rfl, HC, H⟩ := hrel
          cases gk with
          | succ gi =>
            have hin : i < N := by omega
            have hd2 : decide ((i : Int) < (N : Int)) = true := by simp; omega
            have i0 : (0 : Int) ≤ (i : Int) := by omega
            have i1 : (i : Int) < 64 := by omega
            have ci : wr.cell? ⟨g, i, none⟩ = some (.bool (out.contains i)) := by
              rw [(H.get 1 rfl).cellAt i (by omega), bCells_get]
              have h1 := HT.out.marks i hin
              have h2 : i < mk.length := by rw [HT.out.ln]; omega
              rw [List.getD, List.getElem?_eq_getElem h2, Option.getD_some] at h1
              rw [List.getElem?_eq_getElem h2, h1]; rfl
            cases hc : out.contains i
            · rw [hc] at ci
              have HNI := hid (show i ∉ out by simpa using hc)
              clear hc
              go_wp2_with fail
              go_loopg [28] n (fun gh kv wq => ∃ k : Nat, k + gh = n ∧ kv = .int .i64 k ∧ Hid (∀ e ∈ l.take k, e.t = (i : Int) → e.f.toNat ∈ out) ∧ Hold M none w wq [.own 3 1 (.slice O q cc) q (iCells (toI out)), .own 81 1 (.slice (some ⟨g, 0, none⟩) 64 64) 64 (bCells mk), .ro (EdsIn A n l)])
              case atStart => exact ⟨0, by omega, rfl, hid (by simp), H⟩
              case round =>
                clear H ci
                obtain ⟨k, hk, rfl, HK, H⟩ := hrel
                cases gk with
                | succ gj =>
                  have hkn : k < n := by omega
                  have hd3 : decide ((k : Int) < (n : Int)) = true := by simp; omega
                  have k0 : (0 : Int) ≤ (k : Int) := by omega
                  have HL := hid (show l.length = n from (H.ro 2 rfl).now.len)
                  obtain ⟨x, hx⟩ := get_of HL.out hkn
                  obtain ⟨v1, v2, v3, v4⟩ := valid_in HVV.out (List.mem_of_getElem? hx)
                  obtain ⟨ga, o, rfl, hb, c0, c1⟩ := (H.ro 2 rfl).now.at_ hx
                  obtain ⟨f, t⟩ := x
                  simp only at v1 v2 v3 v4 c0 c1
                  obtain ⟨f, rfl⟩ := Int.eq_ofNat_of_zero_le v1
                  obtain ⟨t, rfl⟩ := Int.eq_ofNat_of_zero_le v3
                  have f1 : (f : Int) < 64 := by omega
                  have hfN : f < N := by omega
                  have HX := hid hx; clear hx
                  have K1 := H.alloc_cst #[.int .i64 (f : Int), .int .i64 (t : Int)] 53
                  have cf : wr.cell? ⟨g, f, none⟩ = some (.bool (out.contains f)) := by
                    rw [(H.get 1 rfl).cellAt f (by omega), bCells_get]
                    have h1 := HT.out.marks f hfN
                    have h2 : f < mk.length := by rw [HT.out.ln]; omega
                    rw [List.getD, List.getElem?_eq_getElem h2, Option.getD_some] at h1
                    rw [List.getElem?_eq_getElem h2, h1]; rfl
                  have hgl : g < wr.heap.size := (H.fresh _ (List.mem_cons_of_mem _ (List.mem_cons_self ..)) g rfl).2
                  by_cases ht : t = i
                  · have e1 : ((t : Int) == (i : Int)) = true := by simp [ht]
                    have HTI := hid ht
                    clear ht
                    cases hcf : out.contains f
                    · rw [hcf] at cf
                      have HN := hid (cand_not (List.mem_of_getElem? HX.out) HTI.out (show f ∉ out by simpa using hcf))
                      clear hcf
                      go_wp2_with fail
                      go_roundg gi
                      case measure => omega
                      case rel =>
                        refine ⟨i + 1, rfl, by omega, by go_num, hid (fun j hj => ?_), K1.drop (List.sublist_cons_self _ _)⟩
                        rcases Nat.lt_or_ge j i with h | h
                        · exact HC.out j h
                        · obtain rfl : j = i := by omega
                          exact HN.out
                    · rw [hcf] at cf
                      have HN := hid (show ∀ e ∈ l.take (k + 1), e.t = (i : Int) → e.f.toNat ∈ out by
                        intro e he ht
                        rw [List.take_add_one, HX.out] at he
                        rcases List.mem_append.1 he with he | he
                        · exact HK.out e he ht
                        · simp at he; subst he; simpa using hcf)
                      clear hcf
                      go_wp2_with fail
                      go_roundg gj
                      case measure => omega
                      case rel => exact ⟨k + 1, by omega, by go_num, HN, K1.drop (List.sublist_cons_self _ _)⟩
                  · have e1 : ((t : Int) == (i : Int)) = false := by simp; omega
                    have HN := hid (show ∀ e ∈ l.take (k + 1), e.t = (i : Int) → e.f.toNat ∈ out by
                      intro e he ht
                      rw [List.take_add_one, HX.out] at he
                      rcases List.mem_append.1 he with he | he
                      · exact HK.out e he ht
                      · simp at he; subst he; simp only at ht; omega)
                    clear ht
                    go_wp2_with fail
                    go_roundg gj
                    case measure => omega
                    case rel => exact ⟨k + 1, by omega, by go_num, HN, K1.drop (List.sublist_cons_self _ _)⟩
                | zero =>
                  obtain rfl : k = n := by omega
                  have hd3 : decide ((k : Int) < (k : Int)) = false := by simp
                  have HL := hid (show l.length = k from (H.ro 2 rfl).now.len)
                  have HY := hid (show candB l out i = true by
                    have h := HK.out
                    rw [List.take_of_length_le (show l.length ≤ k by rw [HL.out]; exact Nat.le_refl _)] at h
                    exact cand_yes HNI.out h)
                  obtain ⟨y, hy⟩ : ∃ y, wr.cell? ⟨g, i, none⟩ = some y := ⟨_, ((H.get 1 rfl).cellAt i (by omega)).trans (List.getElem?_eq_getElem (by rw [bCells_len, HT.out.ln]; omega))⟩
                  have hfy := (H.get 1 rfl).frozenAt i
                  have hgl : g < wr.heap.size := (H.fresh _ (List.mem_cons_of_mem _ (List.mem_cons_self ..)) g rfl).2
                  have K3 := H.put_ 1 rfl i (.bool true)
                  simp only [List.set_cons_zero, List.set_cons_succ, bCells_set] at K3
                  have hq6 : q < 64 := by omega
                  go_wp2_with (at_builtin; go_must (refine wpList_appH K3 0 rfl Try.elInt #[.int .i64 i] rfl (.tmp 46) (.tmp 48) rfl rfl wr.heap.size (by simp [World.setCell]) rfl rfl (by intro z hz; simp at hz; subst hz; rfl) (by omega) (by omega) ?_); intro g5 cap5 w5 hc5 hm5 H5)
                  have e1 : iCells (toI out) ++ (#[Value.int .i64 (i : Int)]).toList = iCells (toI (out ++ [i])) := by simp [iCells]
                  simp only [List.set_cons_zero, List.set_cons_succ] at H5
                  rw [e1] at H5
                  go_roundg go
                  case measure => omega
                  case rel => exact ⟨out ++ [i], mk.set i true, q + 1, cap5, _, rfl, by omega, hid (by rw [HQ.out]; simp), hc5, hm5, hid (HT.out.next hin hN HC.out HY.out), H5⟩
            · rw [hc] at ci
              have HN := hid (show candB l out i = false from cand_in (by simpa using hc))
              clear hc
              go_wp2_with fail
              go_roundg gi
              case measure => omega
              case rel =>
                refine ⟨i + 1, rfl, by omega, by go_num, hid (fun j hj => ?_), H⟩
                rcases Nat.lt_or_ge j i with h | h
                · exact HC.out j h
                · obtain rfl : j = i := by omega
                  exact HN.out
          | zero =>
            obtain rfl : i = N := by omega
            have hd2 : decide ((i : Int) < (i : Int)) = false := by simp
            have HS := hid (HT.out.stuck HC.out)
            go_wp2_with fail
            (try rw [Exit.noGoto_ret])
            go_ret2
            rw [HO.out, HS.out]
            exact ⟨none, 0, 0, rfl, rfl, by omega, by omega, ro_nil, H.below⟩
      | zero =>
        obtain rfl : q = N := by omega
        have hd : decide ((q : Int) < (q : Int)) = false := by simp
        have HE := hid (show topN q l = some out by rw [HT.out.eq]; rfl)
        have KS := H.sealRow 0 rfl
        go_wp2_with fail
        (try rw [Exit.noGoto_ret])
        go_ret2
        rw [HO.out, HE.out]
        exact ⟨O, q, cc, rfl, HQ.out, hqc, hcc, KS.roOut 0 rfl, KS.below⟩
end Go.Proofs.Ytaefjgjojflppaa

namespace Go.Proofs.Ytaefjgjojflppaa
open Go.RowKit
set_option linter.unusedVariables false
set_option linter.unusedSimpArgs false

/-- free so far -/
def freeE (l : List Ed) (out : List Nat) (i k : Nat) : Bool := !out.contains i && (l.take k).all fun e => !(e.t == (i : Int)) || out.contains e.f.toNat
theorem freeE_all {l : List Ed} {out : List Nat} {i k : Nat} (h : l.length ≤ k) : freeE l out i k = candB l out i := by
  unfold freeE candB inB; rw [List.take_of_length_le h]
theorem freeE_next {l : List Ed} {out : List Nat} {i k : Nat} {x : Ed} (hx : l[k]? = some x) : freeE l out i (k + 1) = (freeE l out i k && (!(x.t == (i : Int)) || out.contains x.f.toNat)) := by
  unfold freeE; rw [List.take_add_one, hx, List.all_append]; simp [Bool.and_assoc]
theorem topL_on {N : Nat} {l : List Ed} (hv : validG N l = true) (h : onN N l N ≠ []) : topL N l = none := by
  rw [topL_yes hv]
  have h1 : (topN N l).isSome ≠ true := fun e => h ((topN_iff (EdIn.of_valid hv)).1 e)
  cases ho : topN N l with
  | none => rfl
  | some o => rw [ho] at h1; exact absurd rfl h1
theorem topL_off {N : Nat} {l : List Ed} (hv : validG N l = true) (h : onN N l N = []) : ∃ o, topN N l = some o := Option.isSome_iff_exists.1 ((topN_iff (EdIn.of_valid hv)).2 h)
set_option maxHeartbeats 4000000 in
set_option maxRecDepth 100000 in
theorem rtop_any (M : Nat → Prop) (w : World) (hM : ∀ b, M b → b < w.heap.size) (N : Int) (A : Option Addr) (n c : Nat) (l : List Ed) (hD : Ro w M (EdsIn A n l)) (hn : n ≤ 1000000) :
    Calls Try.prog 43 #[.int .i64 N, .slice A n c] w fun e w' => TopRet w M (topL N l) e w' := by
  have K0 := (Hold.start M w hM).add (hD.less (by simp [Mut]))
  go_enter Try.func43, Try.ntmps43
  go_wp2_with fail
  refine (rgvalid_any _ _ K0.mutLt N A n c l (K0.ro 0 rfl) (by omega)).mono ?_
  rintro e w1 ⟨rfl, b1⟩
  have K1 := K0.call b1
  clear K0 b1
  cases hv : validG N l
  · have HO := hid (topL_no hv)
    go_wp2_with fail
    go_ret2
    rw [HO.out]
    exact ⟨none, 0, 0, rfl, rfl, by omega, by omega, ro_nil, K1.below⟩
  · have hr := valid_range hv
    obtain ⟨N, rfl⟩ := Int.eq_ofNat_of_zero_le hr.1
    have hN : N ≤ 64 := by omega
    have HVV := hid hv
    have HON := hid (onL_yes hv)
    clear hv hr
    go_wp2_with fail
    refine (ron_any _ _ K1.mutLt N A n c l (K1.ro 0 rfl) hn).mono ?_
    rintro e w2 ⟨A2, n2, c2, rfl, hn2, hc2, hc22, r2, b2⟩
    have K2 := K1.call b2
    clear r2 b2 K1
    have hn3 : n2 = (onN N l N).length := by rw [hn2, HON.out]; simp [iCells]
    have hn4 : n2 ≤ 64 := by have := onN_le N l N; omega
    by_cases hz : onN N l N = []
    · obtain rfl : n2 = 0 := by rw [hn3, hz]; rfl
      obtain ⟨o, ho⟩ := topL_off HVV.out hz
      have HTN := hid ho
      have HO := hid (topL_yes HVV.out)
      clear ho hz hn3 hn2 hn4 HON
      go_wp2_with (at_make; go_must (refine wpList_makeH K2 Try.elBool rfl (.tmp 23) (.tmp 23) rfl N rfl rfl (by omega) (by unfold maxLen; omega) ?_); intro g w3 hg K3; (have HGG := hid hg); clear hg)
      rw [made_false] at K3
      have K4 := K3.nil 3 1
      clear K2 K3
      go_loopg [7] N (fun gh v wr => ∃ (out : List Nat) (mk : List Bool) (q cc : Nat) (O : Option Addr), v = .slice O q cc ∧ q + gh = N ∧ Hid (q = out.length) ∧ q ≤ cc ∧ cc ≤ 9223372036854775807 ∧ Hid (TopAt N N l mk out gh) ∧ Hold M none w wr [.own 3 1 (.slice O q cc) q (iCells (toI out)), .own 4 1 (.slice (some ⟨g, 0, none⟩) N N) N (bCells mk), .ro (EdsIn A n l)])
      case atStart => exact ⟨[], List.replicate N false, 0, 0, none, rfl, by omega, hid rfl, by omega, by omega, hid ⟨by simp, MkOf.start N N, rfl⟩, K4⟩
      case round =>
        clear K4
        obtain ⟨out, mk, q, cc, O, rfl, hq, HQ, hqc, hcc, HT, H⟩ := hrel
        cases gk with
        | succ go =>
          have hlt : q < N := by omega
          have hd : decide ((q : Int) < (N : Int)) = true := by simp; omega
          go_wp2_with fail
          go_loopg [7, 8] N (fun gh v iv wq => ∃ i : Nat, v = .slice O q cc ∧ i + gh = N ∧ iv = .int .i64 i ∧ Hid (∀ j, j < i → candB l out j = false) ∧ Hold M none w wq [.own 3 1 (.slice O q cc) q (iCells (toI out)), .own 4 1 (.slice (some ⟨g, 0, none⟩) N N) N (bCells mk), .ro (EdsIn A n l)])
          case atStart => exact ⟨0, rfl, by omega, rfl, hid (fun j hj => absurd hj (by omega)), H⟩
          case round =>
            clear H
            obtain ⟨i, rfl, hi, rfl, HC, H⟩ := hrel
            cases gk with
            | succ gi =>
              have hin : i < N := by omega
              have hd2 : decide ((i : Int) < (N : Int)) = true := by simp; omega
              have i0 : (0 : Int) ≤ (i : Int) := by omega
              have i1 : (i : Int) < (N : Int) := by omega
              have ci : wr.cell? ⟨g, i, none⟩ = some (.bool (out.contains i)) := by
                rw [(H.get 1 rfl).cellAt i (by omega), bCells_get]
                have h1 := HT.out.marks i hin
                have h2 : i < mk.length := by rw [HT.out.ln]; omega
                rw [List.getD, List.getElem?_eq_getElem h2, Option.getD_some] at h1
                rw [List.getElem?_eq_getElem h2, h1]; rfl
              go_wp2_with fail
              go_loopg [9, 41] n (fun gh fv kv wq => ∃ k : Nat, k + gh = n ∧ kv = .int .i64 k ∧ fv = .bool (freeE l out i k) ∧ Hold M none w wq [.own 3 1 (.slice O q cc) q (iCells (toI out)), .own 4 1 (.slice (some ⟨g, 0, none⟩) N N) N (bCells mk), .ro (EdsIn A n l)])
              case atStart => exact ⟨0, by omega, rfl, by simp [freeE], H⟩
              case round =>
                clear H ci
                obtain ⟨k, hk, rfl, rfl, H⟩ := hrel
                cases gk with
                | succ gj =>
                  have hkn : k < n := by omega
                  have hd3 : decide ((k : Int) < (n : Int)) = true := by simp; omega
                  have k0 : (0 : Int) ≤ (k : Int) := by omega
                  have HL := hid (show l.length = n from (H.ro 2 rfl).now.len)
                  obtain ⟨x, hx⟩ := get_of HL.out hkn
                  obtain ⟨v1, v2, v3, v4⟩ := valid_in HVV.out (List.mem_of_getElem? hx)
                  obtain ⟨ga, o, rfl, hb, c0, c1⟩ := (H.ro 2 rfl).now.at_ hx
                  have HX := hid (freeE_next (out := out) (i := i) hx); clear hx
                  obtain ⟨f, t⟩ := x
                  simp only at v1 v2 v3 v4 c0 c1
                  obtain ⟨f, rfl⟩ := Int.eq_ofNat_of_zero_le v1
                  obtain ⟨t, rfl⟩ := Int.eq_ofNat_of_zero_le v3
                  have hfN : f < N := by omega
                  have K1 := H.alloc_cst #[.int .i64 (f : Int), .int .i64 (t : Int)] 53
                  have cf : wr.cell? ⟨g, f, none⟩ = some (.bool (out.contains f)) := by
                    rw [(H.get 1 rfl).cellAt f (by omega), bCells_get]
                    have h1 := HT.out.marks f hfN
                    have h2 : f < mk.length := by rw [HT.out.ln]; omega
                    rw [List.getD, List.getElem?_eq_getElem h2, Option.getD_some] at h1
                    rw [List.getElem?_eq_getElem h2, h1]; rfl
                  have hgl : g < wr.heap.size := (H.fresh _ (List.mem_cons_of_mem _ (List.mem_cons_self ..)) g rfl).2
                  cases hfr : freeE l out i k
                  · rw [hfr] at HX
                    have HN := hid (show freeE l out i (k + 1) = false by rw [HX.out]; rfl)
                    clear hfr
                    go_wp2_with fail
                    go_roundg gj
                    case measure => omega
                    case rel => exact ⟨k + 1, by omega, by go_num, by rw [HN.out], K1.drop (List.sublist_cons_self _ _)⟩
                  · rw [hfr] at HX
                    clear hfr
                    by_cases ht : t = i
                    · have e1 : ((t : Int) != (i : Int)) = false := by rw [bne_eq_false_iff_eq]; omega
                      have HN := hid (show freeE l out i (k + 1) = out.contains f by rw [HX.out]; simp [ht])
                      clear ht
                      cases hcf : out.contains f
                      · rw [hcf] at cf HN
                        clear hcf
                        go_wp2_with fail
                        go_roundg gj
                        case measure => omega
                        case rel => exact ⟨k + 1, by omega, by go_num, by rw [HN.out], K1.drop (List.sublist_cons_self _ _)⟩
                      · rw [hcf] at cf HN
                        clear hcf
                        go_wp2_with fail
                        go_roundg gj
                        case measure => omega
                        case rel => exact ⟨k + 1, by omega, by go_num, by rw [HN.out], K1.drop (List.sublist_cons_self _ _)⟩
                    · have e1 : ((t : Int) != (i : Int)) = true := by rw [bne_iff_ne]; omega
                      have HN := hid (show freeE l out i (k + 1) = true by
                        rw [HX.out]
                        have : ((t : Int) == (i : Int)) = false := by simp; omega
                        simp [this])
                      clear ht
                      go_wp2_with fail
                      go_roundg gj
                      case measure => omega
                      case rel => exact ⟨k + 1, by omega, by go_num, by rw [HN.out], K1.drop (List.sublist_cons_self _ _)⟩
                | zero =>
                  obtain rfl : k = n := by omega
                  have hd3 : decide ((k : Int) < (k : Int)) = false := by simp
                  have HL := hid (show l.length = k from (H.ro 2 rfl).now.len)
                  have HY := hid (show freeE l out i k = candB l out i from freeE_all (by rw [HL.out]; exact Nat.le_refl _))
                  rw [HY.out]
                  cases hcb : candB l out i
                  · have HN := hid hcb; clear hcb
                    go_wp2_with fail
                    go_roundg gi
                    case measure => omega
                    case rel =>
                      refine ⟨i + 1, rfl, by omega, by go_num, hid (fun j hj => ?_), H⟩
                      rcases Nat.lt_or_ge j i with h | h
                      · exact HC.out j h
                      · obtain rfl : j = i := by omega
                        exact HN.out
                  · have HYY := hid hcb; clear hcb
                    obtain ⟨y, hy⟩ : ∃ y, wr.cell? ⟨g, i, none⟩ = some y := ⟨_, ((H.get 1 rfl).cellAt i (by omega)).trans (List.getElem?_eq_getElem (by rw [bCells_len, HT.out.ln]; omega))⟩
                    have hfy := (H.get 1 rfl).frozenAt i
                    have hgl : g < wr.heap.size := (H.fresh _ (List.mem_cons_of_mem _ (List.mem_cons_self ..)) g rfl).2
                    have K3 := H.put_ 1 rfl i (.bool true)
                    simp only [List.set_cons_zero, List.set_cons_succ, bCells_set] at K3
                    have hq6 : q < 64 := by omega
                    go_wp2_with (at_builtin; go_must (refine wpList_appH K3 0 rfl Try.elInt #[.int .i64 i] rfl (.tmp 64) (.tmp 66) rfl rfl wr.heap.size (by simp [World.setCell]) rfl rfl (by intro z hz; simp at hz; subst hz; rfl) (by omega) (by omega) ?_); intro g5 cap5 w5 hc5 hm5 H5)
                    have e1 : iCells (toI out) ++ (#[Value.int .i64 (i : Int)]).toList = iCells (toI (out ++ [i])) := by simp [iCells]
                    simp only [List.set_cons_zero, List.set_cons_succ] at H5
                    rw [e1] at H5
                    go_roundg go
                    case measure => omega
                    case rel => exact ⟨out ++ [i], mk.set i true, q + 1, cap5, _, rfl, by omega, hid (by rw [HQ.out]; simp), hc5, hm5, hid (HT.out.next hin (Nat.le_refl _) HC.out HYY.out), H5⟩
            | zero =>
              exfalso
              obtain rfl : i = N := by omega
              have h1 := HT.out.stuck HC.out
              rw [HTN.out] at h1
              cases h1
        | zero =>
          obtain rfl : q = N := by omega
          have hd : decide ((q : Int) < (q : Int)) = false := by simp
          have HE := hid (show topN q l = some out by rw [HT.out.eq]; rfl)
          have KS := H.sealRow 0 rfl
          go_wp2_with fail
          (try rw [Exit.noGoto_ret])
          go_ret2
          rw [HO.out, HE.out]
          exact ⟨O, q, cc, rfl, HQ.out, hqc, hcc, KS.roOut 0 rfl, KS.below⟩
    · have hpos : 0 < n2 := by rw [hn3]; exact List.length_pos_iff.2 hz
      have hd0 : decide ((n2 : Int) > 0) = true := by simp; omega
      have HO := hid (topL_on HVV.out hz)
      clear hz hn3 hn2
      go_wp2_with fail
      go_ret2
      rw [HO.out]
      exact ⟨none, 0, 0, rfl, rfl, by omega, by omega, ro_nil, K2.below⟩
end Go.Proofs.Ytaefjgjojflppaa

namespace Go.Proofs.Ytaefjgjojflppaa
open Go.RowKit
set_option linter.unusedVariables false
set_option linter.unusedSimpArgs false

/-- all entries at most k -/
def Bnd (G : List Nat) (k : Nat) : Prop := ∀ j, G.getD j 0 ≤ k
theorem Bnd.mono {G : List Nat} {k m : Nat} (h : Bnd G k) (hk : k ≤ m) : Bnd G m := fun j => Nat.le_trans (h j) hk
theorem Bnd.set {G : List Nat} {k v : Nat} (h : Bnd G k) (hv : v ≤ k) (i : Nat) : Bnd (G.set i v) k := fun j => by
  by_cases hi : i = j
  · subst hi
    by_cases hl : i < G.length
    · rw [gd_set_same hl]; exact hv
    · have : (G.set i v).getD i 0 = 0 := by simp [List.getD, List.getElem?_eq_none (show (G.set i v).length ≤ i by simp; omega)]
      omega
  · rw [gd_set_other hi]; exact h j
theorem Bnd.stG {G : List Nat} {k : Nat} (h : Bnd G k) (i : Nat) (e : Ed) : Bnd (stG i G e) k := by
  unfold Ytaefjgjojflppaa.stG; split
  · exact h.set (Nat.max_le.2 ⟨h _, h _⟩) _
  · exact h
theorem Bnd.stR {G : List Nat} {k : Nat} (h : Bnd G k) (i : Nat) (e : Ed) : Bnd (stR i G e) (k + 1) := by
  unfold Ytaefjgjojflppaa.stR; split
  · exact (h.mono (Nat.le_succ _)).set (Nat.max_le.2 ⟨Nat.le_succ_of_le (h _), Nat.succ_le_succ (h _)⟩) _
  · exact h.mono (Nat.le_succ _)
theorem Bnd.rep (n k : Nat) : Bnd (List.replicate n 0) k := fun j => by
  simp only [List.getD, List.getElem?_replicate]
  split <;> simp
theorem toI_set (G : List Nat) (i v : Nat) : (iCells (toI G)).set i (.int .i64 (v : Int)) = iCells (toI (G.set i v)) := by simp [iCells, List.map_set]
theorem toI_get {G : List Nat} {i : Nat} (hi : i < G.length) : (iCells (toI G))[i]? = some (.int .i64 ((G.getD i 0 : Nat) : Int)) := by simp [iCells, List.getD, hi]
theorem toI_len (G : List Nat) : (iCells (toI G)).length = G.length := by simp [iCells]
theorem fold_stG {l : List Ed} {k : Nat} {x : Ed} (i : Nat) (G : List Nat) (hx : l[k]? = some x) : (l.take (k + 1)).foldl (stG i) G = stG i ((l.take k).foldl (stG i) G) x := by
  rw [List.take_add_one, hx, List.foldl_append]; rfl
theorem fold_stR {l : List Ed} {k : Nat} {x : Ed} (i : Nat) (G : List Nat) (hx : l[k]? = some x) : (l.take (k + 1)).foldl (stR i) G = stR i ((l.take k).foldl (stR i) G) x := by
  rw [List.take_add_one, hx, List.foldl_append]; rfl
theorem fold_o {o : List Nat} {p x : Nat} {α : Type} (f : α → Nat → α) (s : α) (hx : o[p]? = some x) : (o.take (p + 1)).foldl f s = f ((o.take p).foldl f s) x := by
  rw [List.take_add_one, hx, List.foldl_append]; rfl
/-- what Longest answers -/
def lngL (N : Int) (l : List Ed) : Int := match topL N l with
  | some o => ((gLng l o).2 : Int)
  | none => -1
theorem lngL_no {N : Int} {l : List Ed} (h : topL N l = none) : lngL N l = -1 := by unfold lngL; rw [h]
theorem lngL_yes {N : Int} {l : List Ed} {o : List Nat} (h : topL N l = some o) : lngL N l = ((gLng l o).2 : Int) := by unfold lngL; rw [h]
theorem topL_is {N : Int} {l : List Ed} {o : List Nat} (h : topL N l = some o) : ∃ n : Nat, N = n ∧ n ≤ 64 ∧ validG N l = true ∧ topN n l = some o ∧ o.length = n ∧ ∀ x ∈ o, x < n := by
  unfold topL at h
  cases hv : validG N l
  · rw [hv] at h; cases h
  · rw [hv] at h
    obtain ⟨h0, h1⟩ := valid_range hv
    obtain ⟨n, rfl⟩ := Int.eq_ofNat_of_zero_le h0
    simp only [Int.toNat_natCast, if_true] at h
    obtain ⟨h3, h4⟩ := topF_topo n [] o (Topo.nil n l) h
    exact ⟨n, rfl, by omega, rfl, h, by simpa using h4, h3.lt⟩
set_option maxHeartbeats 4000000 in
set_option maxRecDepth 100000 in
theorem glng_any (M : Nat → Prop) (w : World) (hM : ∀ b, M b → b < w.heap.size) (N : Int) (A : Option Addr) (n c : Nat) (l : List Ed) (hD : Ro w M (EdsIn A n l)) (hn : n ≤ 1000000) :
    Calls Try.prog 32 #[.int .i64 N, .slice A n c] w fun e w' => e = .returned (.int .i64 (lngL N l)) ∧ Below w.heap.size w w' := by
  have K0 := (Hold.start M w hM).add (hD.less (by simp [Mut]))
  go_enter Try.func32, Try.ntmps32
  go_wp2_with fail
  refine (gtop_any _ _ K0.mutLt N A n c l (K0.ro 0 rfl) hn).mono ?_
  rintro e w1 ⟨B, m, d, rfl, hm, hmd, hd, r1, b1⟩
  have K1 := (K0.call b1).add r1
  clear K0 b1 r1
  cases ho : topL N l with
  | none =>
    have HO := hid (lngL_no ho)
    simp only [ho, Option.isSome_none]
    go_wp2_with fail
    go_ret
    exact ⟨by rw [HO.out] <;> rfl, K1.below⟩
  | some o =>
    obtain ⟨N, rfl, hN, hv, _, hol, holt⟩ := topL_is ho
    have HO := hid (lngL_yes ho)
    have HVV := hid hv
    simp only [ho, Option.isSome_some, Option.getD_some] at hm K1 ⊢
    have hm : m = N := by omega
    subst hm
    have HOL := hid hol
    have HLT := hid holt
    clear ho hv hol holt
    have K2 := K1.alloc_own (List.replicate 64 (.int .i64 0)).toArray 84 1 64 (by unfold maxLen; omega) (by simp)
    obtain ⟨g, hg⟩ : ∃ g, g = w1.heap.size := ⟨_, rfl⟩
    rw [← hg] at K2
    have HGG := hid hg
    go_wp2_with fail
    rw [← hg]
    clear hg K1
    go_loopg [8, 23] m (fun gh bv iv wr => ∃ (p : Nat) (s : List Nat × Nat), p + gh = m ∧ iv = .int .i64 p ∧ bv = .int .i64 (s.2 : Int) ∧ s.2 ≤ p ∧ s.1.length = 64 ∧ Hid (Bnd s.1 p ∧ s = (o.take p).foldl (gStep l) (List.replicate 64 0, 0)) ∧ Hold M none w wr [.own 84 1 (.slice (some ⟨g, 0, none⟩) 64 64) 64 (iCells (toI s.1)), .ro (IsIn B m (toI o)), .ro (EdsIn A n l)])
    case atStart => exact ⟨0, (List.replicate 64 0, 0), by omega, rfl, rfl, by omega, by simp, hid ⟨Bnd.rep _ _, rfl⟩, K2⟩
    case round =>
      clear K2
      obtain ⟨p, ⟨G, b⟩, hp, rfl, rfl, hb, hGl, HS, H⟩ := hrel
      simp only at hb hGl HS H ⊢
      cases gk with
      | succ go =>
        have hlt : p < m := by omega
        have hdd : decide ((p : Int) < (m : Int)) = true := by simp; omega
        have p0 : (0 : Int) ≤ (p : Int) := by omega
        obtain ⟨i, hi⟩ := get_of HOL.out hlt
        have hiN : i < 64 := by have := HLT.out i (List.mem_of_getElem? hi); omega
        have i0 : (0 : Int) ≤ (i : Int) := by omega
        have i1 : (i : Int) < 64 := by omega
        obtain ⟨b2, o2, rfl, hbb, hcc⟩ := (show Rd wr wr.heap.size 1 B m (iCells (toI o)) from (H.ro 1 rfl).now).2 (by omega)
        have ci : wr.cell? ⟨b2, o2 + p, none⟩ = some (.int .i64 (i : Int)) := hcc p _ (by simp [iCells, hi])
        clear hcc
        have HI := hid hi; clear hi
        have cg : wr.cell? ⟨g, i, none⟩ = some (.int .i64 ((G.getD i 0 : Nat) : Int)) := by
          rw [(H.get 0 rfl).cellAt i (by omega), toI_get (by simpa using (by omega : i < G.length))]
        have hfy := (H.get 0 rfl).frozenAt i
        have hgl : g < wr.heap.size := (H.fresh _ (List.mem_cons_self ..) g rfl).2
        have hbd : G.getD i 0 ≤ p := HS.out.1 i
        generalize hgi : G.getD i 0 = gi at *
        have K3 := H.put_ 0 rfl i (.int .i64 ((gi : Int) + 1))
        have e0 : (iCells (toI G)).set i (.int .i64 ((gi : Int) + 1)) = iCells (toI (gUp G i)) := by unfold gUp; rw [hgi]; exact toI_set G i (gi + 1)
        simp only [List.set_cons_zero] at K3
        rw [e0] at K3
        have hUi : (gUp G i).getD i 0 = gi + 1 := by unfold gUp; rw [hgi, gd_set_same (by omega)]
        have cg2 : ((wr.setCell ⟨g, i, none⟩ (.int .i64 ((gi : Int) + 1))).cell? ⟨g, i, none⟩) = some (.int .i64 ((gi : Int) + 1)) := by
          rw [(K3.get 0 rfl).cellAt i (by omega), toI_get (by simp [gUp]; omega), hUi]; rfl
        have HU := hid (show (gUp G i).length = 64 ∧ Bnd (gUp G i) (p + 1) ∧ (gUp G i).getD i 0 = gi + 1 from ⟨by simp [gUp, hGl], by unfold gUp; exact (HS.out.1.mono (Nat.le_succ _)).set (by omega) _, hUi⟩)
        have HSU := hid (show gStep l (G, b) i = (l.foldl (stG i) (gUp G i), max b (gi + 1)) by unfold gStep; simp only; rw [hUi])
        have HSP := hid (fold_o (gStep l) (List.replicate 64 0, 0) HI.out)
        clear e0 hUi hgi
        generalize gUp G i = U at *
        go_wp2_with fail
        clear H cg ci
        go_loopg [39] n (fun gh jv wq => ∃ (j : Nat) (G2 : List Nat), j + gh = n ∧ jv = .int .i64 j ∧ G2.length = 64 ∧ Hid (Bnd G2 (p + 1) ∧ G2 = (l.take j).foldl (stG i) U) ∧ Hold M none w wq [.own 84 1 (.slice (some ⟨g, 0, none⟩) 64 64) 64 (iCells (toI G2)), .ro (IsIn (some ⟨b2, o2, none⟩) m (toI o)), .ro (EdsIn A n l)])
        case atStart => exact ⟨0, U, by omega, rfl, HU.out.1, hid ⟨HU.out.2.1, rfl⟩, K3⟩
        case round =>
          clear K3 cg2 hfy hgl hbb
          obtain ⟨j, G2, hj, rfl, hG2l, HG2, H⟩ := hrel
          have HL := hid (show l.length = n from (H.ro 2 rfl).now.len)
          cases gk with
          | succ gj =>
            have hjn : j < n := by omega
            have hd3 : decide ((j : Int) < (n : Int)) = true := by simp; omega
            have j0 : (0 : Int) ≤ (j : Int) := by omega
            obtain ⟨x, hx⟩ := get_of HL.out hjn
            obtain ⟨v1, v2, v3, v4⟩ := valid_in HVV.out (List.mem_of_getElem? hx)
            obtain ⟨ga, o3, rfl, hb3, c0, c1⟩ := (H.ro 2 rfl).now.at_ hx
            have HX := hid (fold_stG i U hx); clear hx
            obtain ⟨f, t⟩ := x
            simp only at v1 v2 v3 v4 c0 c1
            obtain ⟨f, rfl⟩ := Int.eq_ofNat_of_zero_le v1
            obtain ⟨t, rfl⟩ := Int.eq_ofNat_of_zero_le v3
            have t0 : (0 : Int) ≤ (t : Int) := by omega
            have t1 : (t : Int) < 64 := by omega
            have ht64 : t < 64 := by omega
            have K1 := H.alloc_cst #[.int .i64 (f : Int), .int .i64 (t : Int)] 53
            by_cases hfi : f = i
            · have e1 : ((f : Int) == (i : Int)) = true := by simp [hfi]
              obtain ⟨av, hav⟩ : ∃ av, G2.getD t 0 = av := ⟨_, rfl⟩
              obtain ⟨bv, hbv⟩ : ∃ bv, G2.getD i 0 = bv := ⟨_, rfl⟩
              have HSG := hid (show stG i G2 ⟨(f : Int), (t : Int)⟩ = G2.set t (max av bv) by rw [← hav, ← hbv]; unfold stG; simp [hfi])
              clear hfi
              obtain ⟨gb, hgb⟩ : ∃ gb, gb = wr.heap.size := ⟨_, rfl⟩
              obtain ⟨KL, hKL⟩ : ∃ KL : List Hp, KL = [Hp.cst wr.heap.size 53 #[.int .i64 (f : Int), .int .i64 (t : Int)], .own 84 1 (.slice (some ⟨g, 0, none⟩) 64 64) 64 (iCells (toI G2)), .ro (IsIn (some ⟨b2, o2, none⟩) m (toI o)), .ro (EdsIn (some ⟨ga, o3, none⟩) n l)] := ⟨_, rfl⟩
              rw [← hKL] at K1
              rw [← hgb] at hKL
              have HF : Hid (∀ wv, Hold M none w wv KL → wv.cell? ⟨gb, 0, none⟩ = some (.int .i64 (f : Int)) ∧ wv.cell? ⟨gb, 1, none⟩ = some (.int .i64 (t : Int)) ∧ wv.cell? ⟨g, t, none⟩ = some (.int .i64 (av : Int)) ∧ wv.cell? ⟨g, i, none⟩ = some (.int .i64 (bv : Int)) ∧ gb < wv.heap.size ∧ g < wv.heap.size) := hid fun wv HC => by
                rw [hKL] at HC
                have b0 := HC.cst_ 0 rfl
                refine ⟨cell_of_row _ _ 0 _ _ _ b0, cell_of_row _ _ 1 _ _ _ b0, ?_, ?_, Blk.lt b0, (HC.fresh _ (List.mem_cons_of_mem _ (List.mem_cons_self ..)) g rfl).2⟩
                · rw [(HC.get 1 rfl).cellAt t (by omega), toI_get (by omega), hav]
                · rw [(HC.get 1 rfl).cellAt i (by omega), toI_get (by omega), hbv]
              clear hav hbv
              go_wp2_with fail
              rw [← hgb]
              have HGB := hid hgb
              have HKL := hid hKL
              clear hgb hKL
              generalize wr.alloc (.cells #[.int .i64 (f : Int), .int .i64 (t : Int)] 53) = w2 at *
              refine wp_region_any (by kernel_rfl) ?_
              refine wpAny_hold 11 61 (KL) (spL []) (by kernel_rfl) (by kernel_rfl) (by kernel_rfl) rfl ?_ (K1.drew) ?_
              · exact stays_nil _
              simp only [List.take_succ_cons, List.take_zero, List.drop_succ_cons, List.drop_zero, Act.put, List.getElem_toArray, List.getElem_cons_zero, List.getElem_cons_succ, List.setIfInBounds_toArray, List.set_cons_succ, List.set_cons_zero]
              refine dw_val rfl rfl rfl ?_; apply Exists.intro; refine ⟨fun wv HC => ?_, ?_⟩
              · obtain ⟨f0, f1, f2, f3, f4, f5⟩ := HF.out _ HC; go_simp <;> rfl
              simp only [Act.put, List.setIfInBounds_toArray, List.set_cons_succ, List.set_cons_zero]
              refine dw_val rfl rfl rfl ?_; apply Exists.intro; refine ⟨fun wv HC => ?_, ?_⟩
              · obtain ⟨f0, f1, f2, f3, f4, f5⟩ := HF.out _ HC; go_simp <;> rfl
              simp only [Act.put, List.setIfInBounds_toArray, List.set_cons_succ, List.set_cons_zero]
              refine dw_val rfl rfl rfl ?_; apply Exists.intro; refine ⟨fun wv HC => ?_, ?_⟩
              · obtain ⟨f0, f1, f2, f3, f4, f5⟩ := HF.out _ HC; go_simp <;> rfl
              simp only [Act.put, List.setIfInBounds_toArray, List.set_cons_succ, List.set_cons_zero]
              refine dw_val rfl rfl rfl ?_; apply Exists.intro; refine ⟨fun wv HC => ?_, ?_⟩
              · obtain ⟨f0, f1, f2, f3, f4, f5⟩ := HF.out _ HC; go_simp <;> rfl
              simp only [Act.put, List.setIfInBounds_toArray, List.set_cons_succ, List.set_cons_zero]
              refine dw_val rfl rfl rfl ?_; apply Exists.intro; refine ⟨fun wv HC => ?_, ?_⟩
              · obtain ⟨f0, f1, f2, f3, f4, f5⟩ := HF.out _ HC; go_simp <;> rfl
              simp only [Act.put, List.setIfInBounds_toArray, List.set_cons_succ, List.set_cons_zero]
              refine dw_val rfl rfl rfl ?_; apply Exists.intro; refine ⟨fun wv HC => ?_, ?_⟩
              · obtain ⟨f0, f1, f2, f3, f4, f5⟩ := HF.out _ HC; go_simp <;> rfl
              simp only [Act.put, List.setIfInBounds_toArray, List.set_cons_succ, List.set_cons_zero]
              refine dw_val rfl rfl rfl ?_; apply Exists.intro; refine ⟨fun wv HC => ?_, ?_⟩
              ·  go_simp <;> rfl
              simp only [Act.put, List.setIfInBounds_toArray, List.set_cons_succ, List.set_cons_zero]
              refine dw_val rfl rfl rfl ?_; apply Exists.intro; refine ⟨fun wv HC => ?_, ?_⟩
              · obtain ⟨f0, f1, f2, f3, f4, f5⟩ := HF.out _ HC; go_simp <;> rfl
              simp only [Act.put, List.setIfInBounds_toArray, List.set_cons_succ, List.set_cons_zero]
              refine dw_val rfl rfl rfl ?_; apply Exists.intro; refine ⟨fun wv HC => ?_, ?_⟩
              · obtain ⟨f0, f1, f2, f3, f4, f5⟩ := HF.out _ HC; go_simp <;> rfl
              simp only [Act.put, List.setIfInBounds_toArray, List.set_cons_succ, List.set_cons_zero]
              refine dw_val rfl rfl rfl ?_; apply Exists.intro; refine ⟨fun wv HC => ?_, ?_⟩
              ·  go_simp <;> rfl
              simp only [Act.put, List.setIfInBounds_toArray, List.set_cons_succ, List.set_cons_zero]
              refine dw_val rfl rfl rfl ?_; apply Exists.intro; refine ⟨fun wv HC => ?_, ?_⟩
              · obtain ⟨f0, f1, f2, f3, f4, f5⟩ := HF.out _ HC; go_simp <;> rfl
              simp only [Act.put, List.setIfInBounds_toArray, List.set_cons_succ, List.set_cons_zero]
              refine rel_nil ?_
              rintro wx HX2
              rintro hrm HG
              clear hrm HG
              rw [HKL.out] at HX2
              have hmx : max (av : Int) (bv : Int) = ((max av bv : Nat) : Int) := by omega
              rw [hmx]
              obtain ⟨y, hy⟩ : ∃ y, wx.cell? ⟨g, t, none⟩ = some y := ⟨_, ((HX2.get 1 rfl).cellAt t (by omega)).trans (toI_get (by omega))⟩
              have hfy := (HX2.get 1 rfl).frozenAt t
              have K3 := HX2.put_ 1 rfl t (.int .i64 ((max av bv : Nat) : Int))
              rw [toI_set, ← HSG.out] at K3
              have HB2 := hid (show Bnd (stG i G2 ⟨(f : Int), (t : Int)⟩) (p + 1) from HG2.out.1.stG i _)
              clear hmx
              generalize (max av bv : Nat) = nv at *
              go_wp2_with fail
              go_roundg gj
              case measure => omega
              case rel => exact ⟨j + 1, _, by omega, by go_num, by rw [stG_len]; exact hG2l, hid ⟨HB2.out, by rw [HX.out, ← HG2.out.2]⟩, K3.drop (List.sublist_cons_self _ _)⟩
            · have e1 : ((f : Int) == (i : Int)) = false := by simp; omega
              have HSG := hid (show stG i G2 ⟨(f : Int), (t : Int)⟩ = G2 by unfold stG; simp [e1])
              clear hfi
              go_wp2_with fail
              go_roundg gj
              case measure => omega
              case rel => exact ⟨j + 1, G2, by omega, by go_num, hG2l, hid ⟨HG2.out.1, by rw [HX.out, ← HG2.out.2, HSG.out]⟩, K1.drop (List.sublist_cons_self _ _)⟩
          | zero =>
            obtain rfl : j = n := by omega
            have hd3 : decide ((j : Int) < (j : Int)) = false := by simp
            have HE := hid (show G2 = l.foldl (stG i) U by rw [HG2.out.2, List.take_of_length_le (by rw [HL.out]; exact Nat.le_refl _)])
            go_wp2_with fail
            go_roundg go
            case measure => omega
            case rel => exact ⟨p + 1, (G2, max b (gi + 1)), by omega, by go_num, by simp only; congr 1; omega, by simp only; omega, hG2l, hid ⟨HG2.out.1, by rw [HSP.out, ← HS.out.2, HSU.out, HE.out]⟩, H⟩
      | zero =>
        obtain rfl : p = m := by omega
        have hdd : decide ((p : Int) < (p : Int)) = false := by simp
        have HE := hid (show (gLng l o).2 = b by
          have h := HS.out.2
          rw [List.take_of_length_le (by rw [HOL.out]; exact Nat.le_refl _)] at h
          unfold gLng; rw [← h])
        go_wp2_with fail
        go_ret
        exact ⟨by rw [HO.out, HE.out] <;> rfl, H.below⟩
end Go.Proofs.Ytaefjgjojflppaa

namespace Go.Proofs.Ytaefjgjojflppaa
open Go.RowKit
set_option linter.unusedVariables false
set_option linter.unusedSimpArgs false

theorem made_zero (n : Nat) : (madeCells (Value.int IntKind.i64 0).cells (n * 1)).toList = iCells (toI (List.replicate n 0)) := by
  rw [Nat.mul_one]
  unfold madeCells iCells
  apply List.ext_getElem
  · simp
  · intro i h1 h2
    simp [Value.cells, Nat.mod_one]
set_option maxHeartbeats 4000000 in
set_option maxRecDepth 100000 in
theorem rlng_any (M : Nat → Prop) (w : World) (hM : ∀ b, M b → b < w.heap.size) (N : Int) (A : Option Addr) (n c : Nat) (l : List Ed) (hD : Ro w M (EdsIn A n l)) (hn : n ≤ 1000000) :
    Calls Try.prog 49 #[.int .i64 N, .slice A n c] w fun e w' => e = .returned (.int .i64 (lngL N l)) ∧ Below w.heap.size w w' := by
  have K0 := (Hold.start M w hM).add (hD.less (by simp [Mut]))
  go_enter Try.func49, Try.ntmps49
  go_wp2_with fail
  refine (rtop_any _ _ K0.mutLt N A n c l (K0.ro 0 rfl) hn).mono ?_
  rintro e w1 ⟨B, m, d, rfl, hm, hmd, hd, r1, b1⟩
  have K1 := (K0.call b1).add r1
  clear K0 b1 r1
  cases ho : topL N l with
  | none =>
    have HO := hid (lngL_no ho)
    simp only [ho, Option.isSome_none]
    go_wp2_with fail
    go_ret
    exact ⟨by rw [HO.out] <;> rfl, K1.below⟩
  | some o =>
    obtain ⟨N, rfl, hN, hv, hto, hol, holt⟩ := topL_is ho
    have HO := hid (show lngL (N : Int) l = ((rLng N l o).2 : Int) by rw [lngL_yes ho, (gLng_rLng (EdIn.of_valid hv) hN hto).1])
    have HVV := hid hv
    simp only [ho, Option.isSome_some, Option.getD_some] at hm K1 ⊢
    have hmN : N = m := by omega
    clear hm
    subst hmN
    have HOL := hid hol
    have HLT := hid holt
    clear ho hv hol holt hto
    go_wp2_with (at_make; go_must (refine wpList_makeH K1 Try.elInt rfl (.tmp 21) (.tmp 21) rfl N rfl rfl (by omega) (by unfold maxLen; omega) ?_); intro g w3 hg K2; (have HGG := hid hg); clear hg)
    rw [show (madeCells (Value.int IntKind.i64 0).cells (N * 1)).toList = iCells (toI (List.replicate N 0)) from made_zero N] at K2
    clear K1
    go_loopg [8, 25] N (fun gh bv iv wr => ∃ (p : Nat) (s : List Nat × Nat), p + gh = N ∧ iv = .int .i64 p ∧ bv = .int .i64 (s.2 : Int) ∧ s.2 ≤ p * (n + 1) ∧ s.1.length = N ∧ Hid (Bnd s.1 (p * (n + 1)) ∧ s = (o.take p).foldl (rStep l) (List.replicate N 0, 0)) ∧ Hold M none w wr [.own 3 1 (.slice (some ⟨g, 0, none⟩) N N) N (iCells (toI s.1)), .ro (IsIn B N (toI o)), .ro (EdsIn A n l)])
    case atStart => exact ⟨0, (List.replicate N 0, 0), by omega, rfl, rfl, by omega, by simp, hid ⟨Bnd.rep _ _, rfl⟩, K2⟩
    case round =>
      clear K2
      obtain ⟨p, ⟨G, b⟩, hp, rfl, rfl, hb, hGl, HS, H⟩ := hrel
      simp only at hb hGl HS H ⊢
      cases gk with
      | succ go =>
        have hlt : p < N := by omega
        have hdd : decide ((p : Int) < (N : Int)) = true := by simp; omega
        have p0 : (0 : Int) ≤ (p : Int) := by omega
        have hK : p * (n + 1) ≤ 64 * 1000001 := Nat.mul_le_mul (by omega) (by omega)
        have HKS := hid (Nat.succ_mul p (n + 1))
        obtain ⟨i, hi⟩ := get_of HOL.out hlt
        have hiN : i < N := HLT.out i (List.mem_of_getElem? hi)
        have i0 : (0 : Int) ≤ (i : Int) := by omega
        have i1 : (i : Int) < (N : Int) := by omega
        obtain ⟨b2, o2, rfl, hbb, hcc⟩ := (show Rd wr wr.heap.size 1 B N (iCells (toI o)) from (H.ro 1 rfl).now).2 (by omega)
        have ci : wr.cell? ⟨b2, o2 + p, none⟩ = some (.int .i64 (i : Int)) := hcc p _ (by simp [iCells, hi])
        clear hcc
        have HI := hid hi; clear hi
        obtain ⟨y, hy⟩ : ∃ y, wr.cell? ⟨g, i, none⟩ = some y := ⟨_, ((H.get 0 rfl).cellAt i (by omega)).trans (toI_get (by omega))⟩
        have hfy := (H.get 0 rfl).frozenAt i
        have hgl : g < wr.heap.size := (H.fresh _ (List.mem_cons_self ..) g rfl).2
        have K3 := H.put_ 0 rfl i (.int .i64 1)
        have e0 : (iCells (toI G)).set i (.int .i64 1) = iCells (toI (G.set i 1)) := toI_set G i 1
        simp only [List.set_cons_zero] at K3
        rw [e0] at K3
        have HU := hid (show (G.set i 1).length = N ∧ Bnd (G.set i 1) (p * (n + 1) + 1) from ⟨by simp [hGl], (HS.out.1.mono (Nat.le_succ _)).set (by omega) _⟩)
        have HSU := hid (show rStep l (G, b) i = (l.foldl (stR i) (G.set i 1), max b ((l.foldl (stR i) (G.set i 1)).getD i 0)) from rfl)
        have HSP := hid (fold_o (rStep l) (List.replicate N 0, 0) HI.out)
        clear e0
        generalize G.set i 1 = U at *
        generalize hKK : p * (n + 1) = KK at *
        have HKK := hid hKK; clear hKK
        go_wp2_with fail
        clear H ci hy
        go_loopg [34] n (fun gh jv wq => ∃ (j : Nat) (G2 : List Nat), j + gh = n ∧ jv = .int .i64 j ∧ G2.length = N ∧ Hid (Bnd G2 (KK + 1 + j) ∧ G2 = (l.take j).foldl (stR i) U) ∧ Hold M none w wq [.own 3 1 (.slice (some ⟨g, 0, none⟩) N N) N (iCells (toI G2)), .ro (IsIn (some ⟨b2, o2, none⟩) N (toI o)), .ro (EdsIn A n l)])
        case atStart => exact ⟨0, U, by omega, rfl, HU.out.1, hid ⟨HU.out.2, rfl⟩, K3⟩
        case round =>
          clear K3 hfy hgl hbb
          obtain ⟨j, G2, hj, rfl, hG2l, HG2, H⟩ := hrel
          have HL := hid (show l.length = n from (H.ro 2 rfl).now.len)
          cases gk with
          | succ gj =>
            have hjn : j < n := by omega
            have hd3 : decide ((j : Int) < (n : Int)) = true := by simp; omega
            have j0 : (0 : Int) ≤ (j : Int) := by omega
            obtain ⟨x, hx⟩ := get_of HL.out hjn
            obtain ⟨v1, v2, v3, v4⟩ := valid_in HVV.out (List.mem_of_getElem? hx)
            obtain ⟨ga, o3, rfl, hb3, c0, c1⟩ := (H.ro 2 rfl).now.at_ hx
            have HX := hid (fold_stR i U hx); clear hx
            obtain ⟨f, t⟩ := x
            simp only at v1 v2 v3 v4 c0 c1
            obtain ⟨f, rfl⟩ := Int.eq_ofNat_of_zero_le v1
            obtain ⟨t, rfl⟩ := Int.eq_ofNat_of_zero_le v3
            have f0 : (0 : Int) ≤ (f : Int) := by omega
            have f1 : (f : Int) < (N : Int) := by omega
            have hfN : f < N := by omega
            have K1 := H.alloc_cst #[.int .i64 (f : Int), .int .i64 (t : Int)] 53
            by_cases hfi : t = i
            · have e1 : ((t : Int) == (i : Int)) = true := by simp [hfi]
              obtain ⟨av, hav⟩ : ∃ av, G2.getD i 0 = av := ⟨_, rfl⟩
              obtain ⟨bv, hbv⟩ : ∃ bv, G2.getD f 0 = bv := ⟨_, rfl⟩
              have HSG := hid (show stR i G2 ⟨(f : Int), (t : Int)⟩ = G2.set i (max av (bv + 1)) by rw [← hav, ← hbv]; unfold stR; simp [hfi])
              have hbl : bv ≤ KK + 1 + j := by rw [← hbv]; exact HG2.out.1 f
              clear hfi
              obtain ⟨gb, hgb⟩ : ∃ gb, gb = wr.heap.size := ⟨_, rfl⟩
              obtain ⟨KL, hKL⟩ : ∃ KL : List Hp, KL = [Hp.cst wr.heap.size 53 #[.int .i64 (f : Int), .int .i64 (t : Int)], .own 3 1 (.slice (some ⟨g, 0, none⟩) N N) N (iCells (toI G2)), .ro (IsIn (some ⟨b2, o2, none⟩) N (toI o)), .ro (EdsIn (some ⟨ga, o3, none⟩) n l)] := ⟨_, rfl⟩
              rw [← hKL] at K1
              rw [← hgb] at hKL
              have HF : Hid (∀ wv, Hold M none w wv KL → wv.cell? ⟨gb, 0, none⟩ = some (.int .i64 (f : Int)) ∧ wv.cell? ⟨gb, 1, none⟩ = some (.int .i64 (t : Int)) ∧ wv.cell? ⟨g, i, none⟩ = some (.int .i64 (av : Int)) ∧ wv.cell? ⟨g, f, none⟩ = some (.int .i64 (bv : Int)) ∧ gb < wv.heap.size ∧ g < wv.heap.size) := hid fun wv HC => by
                rw [hKL] at HC
                have b0 := HC.cst_ 0 rfl
                refine ⟨cell_of_row _ _ 0 _ _ _ b0, cell_of_row _ _ 1 _ _ _ b0, ?_, ?_, Blk.lt b0, (HC.fresh _ (List.mem_cons_of_mem _ (List.mem_cons_self ..)) g rfl).2⟩
                · rw [(HC.get 1 rfl).cellAt i (by omega), toI_get (by omega), hav]
                · rw [(HC.get 1 rfl).cellAt f (by omega), toI_get (by omega), hbv]
              clear hav hbv
              go_wp2_with fail
              rw [← hgb]
              have HGB := hid hgb
              have HKL := hid hKL
              clear hgb hKL
              generalize wr.alloc (.cells #[.int .i64 (f : Int), .int .i64 (t : Int)] 53) = w2 at *
              refine wp_region_any (by kernel_rfl) ?_
              refine wpAny_hold 14 65 (KL) (spL []) (by kernel_rfl) (by kernel_rfl) (by kernel_rfl) rfl ?_ (K1.drew) ?_
              · exact stays_nil _
              simp only [List.take_succ_cons, List.take_zero, List.drop_succ_cons, List.drop_zero, Act.put, List.getElem_toArray, List.getElem_cons_zero, List.getElem_cons_succ, List.setIfInBounds_toArray, List.set_cons_succ, List.set_cons_zero]
              refine dw_val rfl rfl rfl ?_; apply Exists.intro; refine ⟨fun wv HC => ?_, ?_⟩
              · obtain ⟨f0, f1, f2, f3, f4, f5⟩ := HF.out _ HC; go_simp <;> rfl
              simp only [Act.put, List.setIfInBounds_toArray, List.set_cons_succ, List.set_cons_zero]
              refine dw_val rfl rfl rfl ?_; apply Exists.intro; refine ⟨fun wv HC => ?_, ?_⟩
              · obtain ⟨f0, f1, f2, f3, f4, f5⟩ := HF.out _ HC; go_simp <;> rfl
              simp only [Act.put, List.setIfInBounds_toArray, List.set_cons_succ, List.set_cons_zero]
              refine dw_val rfl rfl rfl ?_; apply Exists.intro; refine ⟨fun wv HC => ?_, ?_⟩
              · obtain ⟨f0, f1, f2, f3, f4, f5⟩ := HF.out _ HC; go_simp <;> rfl
              simp only [Act.put, List.setIfInBounds_toArray, List.set_cons_succ, List.set_cons_zero]
              refine dw_val rfl rfl rfl ?_; apply Exists.intro; refine ⟨fun wv HC => ?_, ?_⟩
              · obtain ⟨f0, f1, f2, f3, f4, f5⟩ := HF.out _ HC; go_simp <;> rfl
              simp only [Act.put, List.setIfInBounds_toArray, List.set_cons_succ, List.set_cons_zero]
              refine dw_val rfl rfl rfl ?_; apply Exists.intro; refine ⟨fun wv HC => ?_, ?_⟩
              · obtain ⟨f0, f1, f2, f3, f4, f5⟩ := HF.out _ HC; go_simp <;> rfl
              simp only [Act.put, List.setIfInBounds_toArray, List.set_cons_succ, List.set_cons_zero]
              refine dw_val rfl rfl rfl ?_; apply Exists.intro; refine ⟨fun wv HC => ?_, ?_⟩
              · obtain ⟨f0, f1, f2, f3, f4, f5⟩ := HF.out _ HC; go_simp <;> rfl
              simp only [Act.put, List.setIfInBounds_toArray, List.set_cons_succ, List.set_cons_zero]
              refine dw_val rfl rfl rfl ?_; apply Exists.intro; refine ⟨fun wv HC => ?_, ?_⟩
              ·  go_simp <;> rfl
              simp only [Act.put, List.setIfInBounds_toArray, List.set_cons_succ, List.set_cons_zero]
              refine dw_val rfl rfl rfl ?_; apply Exists.intro; refine ⟨fun wv HC => ?_, ?_⟩
              · obtain ⟨f0, f1, f2, f3, f4, f5⟩ := HF.out _ HC; go_simp <;> rfl
              simp only [Act.put, List.setIfInBounds_toArray, List.set_cons_succ, List.set_cons_zero]
              refine dw_val rfl rfl rfl ?_; apply Exists.intro; refine ⟨fun wv HC => ?_, ?_⟩
              · obtain ⟨f0, f1, f2, f3, f4, f5⟩ := HF.out _ HC; go_simp <;> rfl
              simp only [Act.put, List.setIfInBounds_toArray, List.set_cons_succ, List.set_cons_zero]
              refine dw_val rfl rfl rfl ?_; apply Exists.intro; refine ⟨fun wv HC => ?_, ?_⟩
              · obtain ⟨f0, f1, f2, f3, f4, f5⟩ := HF.out _ HC; go_simp <;> rfl
              simp only [Act.put, List.setIfInBounds_toArray, List.set_cons_succ, List.set_cons_zero]
              refine dw_val rfl rfl rfl ?_; apply Exists.intro; refine ⟨fun wv HC => ?_, ?_⟩
              · obtain ⟨f0, f1, f2, f3, f4, f5⟩ := HF.out _ HC; go_simp <;> rfl
              simp only [Act.put, List.setIfInBounds_toArray, List.set_cons_succ, List.set_cons_zero]
              refine dw_val rfl rfl rfl ?_; apply Exists.intro; refine ⟨fun wv HC => ?_, ?_⟩
              ·  go_simp <;> rfl
              simp only [Act.put, List.setIfInBounds_toArray, List.set_cons_succ, List.set_cons_zero]
              refine dw_val rfl rfl rfl ?_; apply Exists.intro; refine ⟨fun wv HC => ?_, ?_⟩
              ·  go_simp <;> rfl
              simp only [Act.put, List.setIfInBounds_toArray, List.set_cons_succ, List.set_cons_zero]
              refine dw_val rfl rfl rfl ?_; apply Exists.intro; refine ⟨fun wv HC => ?_, ?_⟩
              · obtain ⟨f0, f1, f2, f3, f4, f5⟩ := HF.out _ HC; go_simp <;> rfl
              simp only [Act.put, List.setIfInBounds_toArray, List.set_cons_succ, List.set_cons_zero]
              refine rel_nil ?_
              rintro wx HX2
              rintro hrm HG
              clear hrm HG
              rw [HKL.out] at HX2
              have hmx : max (av : Int) (IntKind.i64.wrap ((bv : Int) + 1)) = ((max av (bv + 1) : Nat) : Int) := by
                have : IntKind.i64.wrap ((bv : Int) + 1) = (bv : Int) + 1 := by rw [IntKind.wrap_i64]; omega
                omega
              rw [hmx]
              obtain ⟨y, hy⟩ : ∃ y, wx.cell? ⟨g, i, none⟩ = some y := ⟨_, ((HX2.get 1 rfl).cellAt i (by omega)).trans (toI_get (by omega))⟩
              have hfy := (HX2.get 1 rfl).frozenAt i
              have K3 := HX2.put_ 1 rfl i (.int .i64 ((max av (bv + 1) : Nat) : Int))
              rw [toI_set, ← HSG.out] at K3
              have HB2 := hid (show Bnd (stR i G2 ⟨(f : Int), (t : Int)⟩) (KK + 1 + (j + 1)) from HG2.out.1.stR i _)
              clear hmx
              generalize (max av (bv + 1) : Nat) = nv at *
              go_wp2_with fail
              go_roundg gj
              case measure => omega
              case rel => exact ⟨j + 1, _, by omega, by go_num, by rw [stR_len]; exact hG2l, hid ⟨HB2.out, by rw [HX.out, ← HG2.out.2]⟩, K3.drop (List.sublist_cons_self _ _)⟩
            · have e1 : ((t : Int) == (i : Int)) = false := by simp; omega
              have HSG := hid (show stR i G2 ⟨(f : Int), (t : Int)⟩ = G2 by unfold stR; simp [e1])
              clear hfi
              go_wp2_with fail
              go_roundg gj
              case measure => omega
              case rel => exact ⟨j + 1, G2, by omega, by go_num, hG2l, hid ⟨HG2.out.1.mono (Nat.le_succ _), by rw [HX.out, ← HG2.out.2, HSG.out]⟩, K1.drop (List.sublist_cons_self _ _)⟩
          | zero =>
            obtain rfl : j = n := by omega
            have hd3 : decide ((j : Int) < (j : Int)) = false := by simp
            have HE := hid (show G2 = l.foldl (stR i) U by rw [HG2.out.2, List.take_of_length_le (by rw [HL.out]; exact Nat.le_refl _)])
            have cg : wr.cell? ⟨g, i, none⟩ = some (.int .i64 ((G2.getD i 0 : Nat) : Int)) := by
              rw [(H.get 0 rfl).cellAt i (by omega), toI_get (by omega)]
            have hbi : G2.getD i 0 ≤ KK + 1 + j := HG2.out.1 i
            have HGI := hid (show G2.getD i 0 = (l.foldl (stR i) U).getD i 0 by rw [HE.out])
            have HN := hid (show (p + 1) * (j + 1) = KK + (j + 1) from HKS.out)
            generalize G2.getD i 0 = gi at *
            go_wp2_with fail
            go_roundg go
            case measure => omega
            case rel => exact ⟨p + 1, (G2, max b gi), by omega, by go_num, by simp only; congr 1; omega, by simp only; rw [HN.out]; omega, hG2l, hid ⟨by rw [HN.out]; exact HG2.out.1.mono (by omega), by rw [HSP.out, ← HS.out.2, HSU.out, HE.out, HGI.out]⟩, H⟩
      | zero =>
        obtain rfl : p = N := by omega
        have hdd : decide ((p : Int) < (p : Int)) = false := by simp
        have HE := hid (show (rLng p l o).2 = b by
          have h := HS.out.2
          rw [List.take_of_length_le (by rw [HOL.out]; exact Nat.le_refl _)] at h
          unfold rLng; rw [← h])
        go_wp2_with fail
        go_ret
        exact ⟨by rw [HO.out, HE.out] <;> rfl, H.below⟩
end Go.Proofs.Ytaefjgjojflppaa

namespace Go.Proofs.Ytaefjgjojflppaa
open Go.RowKit
set_option linter.unusedVariables false
set_option linter.unusedSimpArgs false

def DrawnB (w : World) (T : Nat) (e : Ending) (w' : World) : Prop :=
  ∃ b : Bool, e = .returned (.bool b) ∧ Tp w' T ∧ w.grownBy w' (some T)

set_option maxHeartbeats 400000 in
theorem bool_any (T : Nat) (n : Int) (w : World) (ht : Tp w T) (h0 : 0 < n) (h1 : n ≤ 9223372036854775807) :
    Calls Try.prog 42 #[.pointer (some ⟨T, 0, none⟩), .int .i64 n] w fun e w' => DrawnB w T e w' := by
  go_enter Try.func42, Try.ntmps42
  go_wp2_with fail
  refine (next_any T n _ ht h0 h1).mono ?_
  rintro e w1 ⟨r, rfl, r0, r1, t1, g1⟩
  go_wp2
  go_ret
  exact ⟨_, rfl, t1, g1⟩

end Go.Proofs.Ytaefjgjojflppaa

namespace Go.Proofs.Ytaefjgjojflppaa
open Go.RowKit
set_option linter.unusedVariables false
set_option linter.unusedSimpArgs false

theorem beqE_no {xs ys : List Ed} {k : Nat} {x y : Ed} (hx : xs[k]? = some x) (hy : ys[k]? = some y) (h : x ≠ y) : decide (xs = ys) = false := by
  rw [decide_eq_false_iff_not]
  rintro rfl
  rw [hx] at hy
  exact h (by injection hy)
set_option maxHeartbeats 4000000 in
set_option maxRecDepth 100000 in
theorem eqEds_any (w : World) (A : Option Addr) (n c : Nat) (xs : List Ed) (B : Option Addr) (m d : Nat) (ys : List Ed) (hD : EdsIn A n xs w) (hE : EdsIn B m ys w) (hn : n ≤ 1000000) :
    Calls Try.prog 46 #[.slice A n c, .slice B m d] w fun e w' => e = .returned (.bool (decide (xs = ys))) ∧ ∃ q, w' = w.drewN q := by
  have HL := hid hD.len
  have HK := hid hE.len
  by_cases hnm : n = m
  · subst hnm
    have hb : ((n : Int) != (n : Int)) = false := by simp
    go_enter Try.func46, Try.ntmps46
    go_wp2_with fail
    go_loopw [13] (fun i wr => ∃ (k q : Nat), k ≤ n ∧ i = .int .i64 k ∧ wr = w.drewN q ∧ Hid (xs.take k = ys.take k)) (fun i _ => n - (intOf i).toNat)
    case atStart => exact ⟨0, 0, by omega, rfl, rfl, hid (by simp)⟩
    case round =>
      obtain ⟨k, q, hk, rfl, rfl, HTK⟩ := hrel
      by_cases hlt : k < n
      · have hd : decide ((k : Int) < (n : Int)) = true := by simp; omega
        have i0 : (0 : Int) ≤ (k : Int) := by omega
        have i1 : (k : Int) < (n : Int) := by omega
        obtain ⟨x, hx⟩ := get_of HL.out hlt
        obtain ⟨y, hy⟩ := get_of HK.out hlt
        obtain ⟨g, o, rfl, hbx, x0, x1⟩ := hD.at_ hx
        obtain ⟨g', o', rfl, hby, y0, y1⟩ := hE.at_ hy
        have HX := hid hx; have HY := hid hy; clear hx hy
        by_cases hf : x.f = y.f
        · by_cases ht : x.t = y.t
          · have e1 : (x.f == y.f) = true := by simpa using hf
            have e2 : (x.t == y.t) = true := by simpa using ht
            have HXY := hid (show x = y by cases x; cases y; simp_all)
            clear hf ht
            go_wp2_with fail
            go_quiet (fail)
            go_wp2_with fail
            go_roundw
            case rel => exact ⟨k + 1, q + nq, by omega, by go_num, by first | rfl | exact World.drewN_drewN .., hid (take_eq_succ HX.out HY.out HTK.out HXY.out)⟩
            case measure => simp [intOf]; omega
          · have e1 : (x.f == y.f) = true := by simpa using hf
            have e2 : (x.t == y.t) = false := by simpa using ht
            have HN := hid (beqE_no HX.out HY.out (by intro h; exact ht (by rw [h])))
            clear hf ht
            go_wp2_with fail
            go_quiet (fail)
            go_wp2_with fail
            go_ret
            exact ⟨by rw [HN.out] <;> rfl, q + nq, World.drewN_drewN ..⟩
        · have e1 : (x.f == y.f) = false := by simpa using hf
          have HN := hid (beqE_no HX.out HY.out (by intro h; exact hf (by rw [h])))
          clear hf
          go_wp2_with fail
          go_quiet (fail)
          go_wp2_with fail
          go_ret
          exact ⟨by rw [HN.out] <;> rfl, q + nq, World.drewN_drewN ..⟩
      · obtain rfl : n = k := by omega
        have hd : decide ((n : Int) < (n : Int)) = false := by simp
        have HE := hid (show decide (xs = ys) = true by
          have h := HTK.out
          rw [List.take_of_length_le (by rw [HL.out]; exact Nat.le_refl _), List.take_of_length_le (by rw [HK.out]; exact Nat.le_refl _)] at h
          simp [h])
        go_wp2_with fail
        go_ret
        exact ⟨by rw [HE.out] <;> rfl, q, rfl⟩
  · have hb : ((n : Int) != (m : Int)) = true := by simp; omega
    have HB := hid (show decide (xs = ys) = false by
      rw [decide_eq_false_iff_not]; rintro rfl; have := HL.out; have := HK.out; omega)
    go_enter Try.func46, Try.ntmps46
    go_wp2_with fail
    go_ret
    exact ⟨by rw [HB.out] <;> rfl, 0, rfl⟩
end Go.Proofs.Ytaefjgjojflppaa

namespace Go.Proofs.Ytaefjgjojflppaa
open Go.RowKit
set_option linter.unusedVariables false
set_option linter.unusedSimpArgs false

def touB (rm : List Int) (x : Ed) : Bool := rm.any fun r => x.f == r || x.t == r
def woutL (l : List Ed) (rm : List Int) : List Ed := l.filter fun x => !touB rm x
theorem wout_snoc {l : List Ed} {rm : List Int} {k : Nat} {x : Ed} (hx : l[k]? = some x) : woutL (l.take (k + 1)) rm = woutL (l.take k) rm ++ (if touB rm x then [] else [x]) := by
  unfold woutL
  rw [List.take_add_one, hx, List.filter_append]
  congr 1
  cases h : touB rm x <;> simp [h]
theorem wout_le (l : List Ed) (rm : List Int) (k : Nat) : (woutL (l.take k) rm).length ≤ k := by
  unfold woutL
  exact Nat.le_trans (List.length_filter_le _ _) (by rw [List.length_take]; omega)
def EdsRet (w : World) (M : Nat → Prop) (l : List Ed) (e : Ending) (w' : World) : Prop :=
  ∃ (A : Option Addr) (n c : Nat), e = .returned (.slice A n c) ∧ n = l.length ∧ n ≤ c ∧ c ≤ 9223372036854775807 ∧ Ro w' M (EdsIn A n l) ∧ Below w.heap.size w w'
set_option maxHeartbeats 4000000 in
set_option maxRecDepth 100000 in
theorem rwout_any (M : Nat → Prop) (w : World) (hM : ∀ b, M b → b < w.heap.size) (A : Option Addr) (n c : Nat) (l : List Ed) (R : Option Addr) (m d : Nat) (rm : List Int) (hD : Ro w M (EdsIn A n l)) (hE : Ro w M (IsIn R m rm)) (hn : n ≤ 1000000) (hm : m ≤ 9223372036854775807) :
    Calls Try.prog 47 #[.slice A n c, .slice R m d] w fun e w' => EdsRet w M (woutL l rm) e w' := by
  have HL := hid hD.now.len
  have HR := hid hE.now.len
  have K0 := (((Hold.start M w hM).add (hE.less (by simp [Mut]))).add (hD.less (by simp [Mut, Hp.foot]))).nil 53 2
  go_enter Try.func47, Try.ntmps47
  go_wp2_with fail
  go_loopw [5, 13] (fun v i wr => ∃ (k q cc : Nat) (O : Option Addr), k ≤ n ∧ q ≤ k ∧ i = .int .i64 k ∧ v = .slice O q cc ∧ Hold M none w wr [.own 53 2 (.slice O q cc) q (edCells (woutL (l.take k) rm)), .ro (EdsIn A n l), .ro (IsIn R m rm)]) (fun _ i _ => n - (intOf i).toNat)
  case atStart => exact ⟨0, 0, 0, none, by omega, by omega, rfl, rfl, K0⟩
  case round =>
    clear K0
    obtain ⟨k, q, cc, O, hk, hq, rfl, rfl, H⟩ := hrel
    by_cases hlt : k < n
    · have hd : decide ((k : Int) < (n : Int)) = true := by simp; omega
      obtain ⟨x, hx⟩ := get_of HL.out hlt
      obtain ⟨g, o, rfl, hb, c0, c1⟩ := (H.ro 1 rfl).now.at_ hx
      have HW := hid (wout_snoc (rm := rm) hx); clear hx
      have K1 := H.alloc_cst #[.int .i64 x.f, .int .i64 x.t] 53
      obtain ⟨wo, rfl⟩ : ∃ wo : World, wo = wr := ⟨_, rfl⟩
      go_wp2_with fail
      go_loopw [8, 19] (fun tv i wr => ∃ p : Nat, p ≤ m ∧ i = .int .i64 p ∧ tv = .bool (touB (rm.take p) x) ∧ Hold M none w wr [.cst wo.heap.size 53 #[.int .i64 x.f, .int .i64 x.t], .own 53 2 (.slice O q cc) q (edCells (woutL (l.take k) rm)), .ro (EdsIn (some ⟨g, o, none⟩) n l), .ro (IsIn R m rm)]) (fun _ i _ => m - (intOf i).toNat)
      case atStart => exact ⟨0, by omega, rfl, rfl, K1⟩
      case round =>
        clear K1
        obtain ⟨p, hp, rfl, rfl, H2⟩ := hrel
        have F2 := H2.facts
        simp only [World.size_alloc, World.size_drew, factsL, cellsF, Nat.reduceAdd, List.toList_toArray, and_true, true_and] at F2
        by_cases hlt2 : p < m
        · have hd2 : decide ((p : Int) < (m : Int)) = true := by simp; omega
          obtain ⟨r, hr⟩ := get_of HR.out hlt2
          obtain ⟨bR, oR, rfl, _, hcc⟩ := (H2.ro 3 rfl).now.cells (by omega)
          have cr := hcc p (by rw [HR.out]; exact hlt2)
          rw [List.getD, hr, Option.getD_some] at cr
          have HT := hid (show touB (rm.take (p + 1)) x = (touB (rm.take p) x || (x.f == r || x.t == r)) by
            unfold touB; rw [List.take_add_one, hr, List.any_append]; simp)
          clear hr hcc
          generalize touB (rm.take p) x = fd at *
          cases fd
          · cases h1 : (x.f == r)
            · cases h2 : (x.t == r)
              all_goals
                have HT2 := HT.out
                rw [h1, h2] at HT2
                have HT3 := hid HT2; clear HT2
                go_wp2_with fail
                go_roundw
                case rel => exact ⟨p + 1, by omega, by go_num, by rw [HT3.out]; rfl, H2⟩
                case measure => simp [intOf]; omega
            · have HT2 := HT.out
              rw [h1] at HT2
              have HT3 := hid HT2; clear HT2
              go_wp2_with fail
              go_roundw
              case rel => exact ⟨p + 1, by omega, by go_num, by rw [HT3.out]; rfl, H2⟩
              case measure => simp [intOf]; omega
          · go_wp2_with fail
            go_roundw
            case rel => exact ⟨p + 1, by omega, by go_num, by rw [HT.out]; rfl, H2⟩
            case measure => simp [intOf]; omega
        · obtain rfl : m = p := by omega
          have hd2 : decide ((m : Int) < (m : Int)) = false := by simp
          rw [List.take_of_length_le (show rm.length ≤ m by rw [HR.out]; exact Nat.le_refl _)]
          cases ht : touB rm x
          · have HT := hid ht; clear ht
            go_wp2_with (at_builtin; go_must (refine wpList_appH H2 1 rfl Try.elEd #[.int .i64 x.f, .int .i64 x.t] rfl (.tmp 39) (.tmp 41) rfl rfl wr.heap.size rfl rfl rfl (by intro z hz; simp at hz; rcases hz with rfl | rfl <;> rfl) (by omega) (by omega) ?_); intro g5 cap5 w5 hc5 hm5 H5)
            have e1 : edCells (woutL (l.take k) rm) ++ (#[Value.int .i64 x.f, .int .i64 x.t]).toList = edCells (woutL (l.take (k + 1)) rm) := by rw [HW.out, HT.out]; simp [edCells, Ed.cells]
            simp only [List.set_cons_zero, List.set_cons_succ] at H5
            rw [e1] at H5
            go_roundw
            case rel => exact ⟨k + 1, q + 1, cap5, _, by omega, by omega, by go_num, rfl, H5.drop (List.sublist_cons_self _ _)⟩
            case measure => simp [intOf]; omega
          · have HT := hid ht; clear ht
            go_wp2_with fail
            go_roundw
            case rel => exact ⟨k + 1, q, cc, _, by omega, by omega, by go_num, rfl, by rw [HW.out, HT.out]; simpa using H2.drop (List.sublist_cons_self _ _)⟩
            case measure => simp [intOf]; omega
    · obtain rfl : n = k := by omega
      have hd : decide ((n : Int) < (n : Int)) = false := by simp
      have hcl := own_caps (H.get 0 rfl)
      have hql := hid (show q = (woutL l rm).length by
        have := (H.get 0 rfl).1
        rw [List.take_of_length_le (show l.length ≤ n by rw [HL.out]; exact Nat.le_refl _), edCells_len] at this
        omega)
      have KS := H.sealRow 0 rfl
      rw [List.take_of_length_le (show l.length ≤ n by rw [HL.out]; exact Nat.le_refl _)] at KS
      go_wp2_with fail
      go_ret
      exact ⟨O, q, cc, rfl, hql.out, hcl.1, hcl.2.1, KS.roOut 0 rfl, KS.below⟩
end Go.Proofs.Ytaefjgjojflppaa

namespace Go.Proofs.Ytaefjgjojflppaa
open Go.RowKit
set_option linter.unusedVariables false
set_option linter.unusedSimpArgs false

def setL : List Value → Nat → List Value → List Value
  | xs, _, [] => xs
  | xs, o, v :: r => setL (xs.set o v) (o + 1) r
theorem setL_len : ∀ (vs xs : List Value) (o : Nat), (setL xs o vs).length = xs.length
  | [], _, _ => rfl
  | v :: r, xs, o => by rw [setL, setL_len r]; simp
theorem setL_take : ∀ (vs xs : List Value) (o q : Nat), q ≤ o → (setL xs o vs).take q = xs.take q
  | [], _, _, _, _ => rfl
  | v :: r, xs, o, q, h => by
    rw [setL, setL_take r _ _ _ (by omega)]
    apply List.ext_getElem?
    intro j
    rw [List.getElem?_take, List.getElem?_take]
    split
    · rw [List.getElem?_set_ne (by omega)]
    · rfl
section
variable {M : Nat → Prop} {row : Option Nat} {w0 w : World} {L : List Hp}
theorem Hold.setCells {i : Nat} {e : TypeId} {size n cap g : Nat} : ∀ (vs xs : List Value) (o : Nat) (w : World) (L : List Hp) (h : Hold M row w0 w L) (hi : L[i]? = some (.own e size (.slice (some ⟨g, 0, none⟩) n cap) n xs)),
    Hold M row w0 (w.setCells g o vs) (L.set i (.own e size (.slice (some ⟨g, 0, none⟩) n cap) n (setL xs o vs)))
  | [], xs, o, w, L, h, hi => by
    have e1 : L.set i (.own e size (.slice (some ⟨g, 0, none⟩) n cap) n xs) = L := by
      apply List.ext_getElem?
      intro j
      rw [List.getElem?_set]
      split
      · subst i; split
        · exact hi.symm
        · rw [List.getElem?_eq_none (by omega)]
      · rfl
    rw [setL, World.setCells, e1]; exact h
  | v :: r, xs, o, w, L, h, hi => by
    have h1 := h.put_ i hi o v
    have hl : i < L.length := (List.getElem?_eq_some_iff.1 hi).1
    have h2 := Hold.setCells r (xs.set o v) (o + 1) _ _ h1 (by rw [List.getElem?_set_self hl])
    rw [List.set_set] at h2
    rw [setL, World.setCells]; exact h2
end
theorem run_clear_ed (w : World) (ty : TypeId) (b o n c : Nat) (hn : 0 < n)
    (hc : ∀ j, j < n * 2 → (w.cell? ⟨b, o + j, none⟩).isSome = true) (hf : ∀ j, j < n * 2 → w.frozen? ⟨b, o + j, none⟩ = false) :
    (Builtin.clear_ #[49] ty #[.slice (some ⟨b, o, none⟩) n c]).run Try.prog w = .ok (.tuple #[]) (w.setCells b o (List.replicate (n * 2) (.int .i64 0))) := by
  have hv : ∀ w, (zeroValue 53).run Try.prog w = .ok (.agg #[.int .i64 0, .int .i64 0]) w := fun w => by kernel_rfl
  have hzc : (Builtin.zeroCells (Value.agg #[.int .i64 0, .int .i64 0]).cells n).toList = List.replicate (n * 2) (.int .i64 0) := by
    apply List.ext_getElem
    · simp [Builtin.zeroCells, Value.cells]
    · intro i h1 h2
      simp [Builtin.zeroCells, Value.cells]
      rcases (show i % 2 = 0 ∨ i % 2 = 1 by omega) with h | h <;> simp [h]
  have hst := run_storeCells_cells (P := Try.prog) b o (List.replicate (n * 2) (.int .i64 0)) 0 w (by simpa using hc) (by simpa using hf) (by intro v hv'; rw [List.eq_of_mem_replicate hv']; rfl)
  simp only [Nat.add_zero] at hst
  obtain ⟨m, rfl⟩ : ∃ m, n = m + 1 := ⟨n - 1, by omega⟩
  simp [Builtin.clear_, run_underlying Try.underlying49, hv, hzc, hst]
theorem wpList_clear {P : Program} {ops : Array Oper} {rest : List Oper} {o : Oper} {a : Act} {Q : Exit → Act → World → Prop} {w w' : World} (x : Operand) (t : TypeId) (v : Value) (hgd : o.guard = none)
    (ho : o.op = .call { callee := .builtin .clear, args := #[x], argTypes := #[t] }) (hx : a.eval x = v) (hrun : (Builtin.clear_ #[t] o.type #[v]).run P w = .ok (.tuple #[]) w')
    (h : wpList P ops Q rest (a.put o.dst (.tuple #[])) w') : wpList P ops Q (o :: rest) a w := by
  refine wpList_plain hgd fun K' hK' => ?_
  unfold Oper.wp execOp
  simp only [ho, resolve, invoke, builtin, Sem.run_bind, Sem.run_pure, Result.andThen_ok, List.map_toArray, List.map_cons, List.map_nil, hx, hrun]
  exact hK' _ _ h
/-- Clone of edges: a row of the call's own. -/
def OwnEds (w : World) (l : List Ed) (e : Ending) (w' : World) : Prop :=
  ∃ (A : Option Addr) (n c : Nat), e = .returned (.slice A n c) ∧ n = l.length ∧ w'.ownsRow w.heap.size 53 2 (.slice A n c) n (edCells l) ∧ Below w.heap.size w w'
set_option maxHeartbeats 4000000 in
set_option maxRecDepth 100000 in
theorem cloneEds_any (w : World) (A : Option Addr) (n c : Nat) (l : List Ed) (hD : EdsIn A n l w) (hn : n ≤ 1000000) :
    Calls Try.prog 27 #[.slice A n c] w fun e w' => OwnEds w l e w' := by
  have hl := hid hD.len
  have hq : ∀ (w : World) (a : Option Addr) (n c : Nat), (binOp .eql 49 (.slice a n c) (.slice none 0 0)).run Try.prog w = .ok (.bool a.isNone) w := fun w a n c => Go.Lib.run_eql_slice_nil w _ _ a n c 0 0 Try.underlying49
  rcases A with _ | a
  · have h0 : n = 0 := by
      rcases Nat.eq_zero_or_pos n with h | h
      · exact h
      · obtain ⟨_, _, e, _⟩ := (show Rd w w.heap.size 2 none n (edCells l) from hD).2 h; cases e
    subst h0
    obtain rfl : l = [] := List.length_eq_zero_iff.1 hl.out
    go_enter Try.func27, Try.ntmps27
    go_wp2_with fail
    go_ret
    exact ⟨none, 0, 0, rfl, rfl, World.ownsRow_nil _ _ _ _, Below.refl _ _⟩
  · have K0 := (Hold.start None_ w (fun b hb => hb.elim)).add (show Ro w _ (EdsIn (some a) n l) from Rd.ro hD (Nat.le_refl _) (by simp [Mut, None_]))
    have K1 := K0.alloc_own #[] 53 2 0 (by unfold maxLen; omega) rfl
    have hr := hid (show EdsIn (some a) n l _ from (K1.ro 1 rfl).now)
    have h1 := hid (one_eds l)
    go_enter Try.func27, Try.ntmps27
    go_wp2_with (at_builtin; go_must (refine wpList_appAllH K1 0 rfl Try.elEd hr.out rfl (.tmp 5) (.tmp 6) rfl rfl rfl h1.out (by omega) (by omega) ?_); intro C' cap' w2 hc1 hm1 K2)
    go_ret
    have hb := K2.below
    have ho := K2.get 0 rfl
    simp only [Nat.zero_add, List.nil_append] at ho
    exact ⟨C', n, cap', by first | rfl | simp, hl.out.symm, ho, hb⟩
set_option maxHeartbeats 4000000 in
/-- the closure of Without -/
theorem gwclos_any (M : Nat → Prop) (w : World) (hM : ∀ b, M b → b < w.heap.size) (x : Ed) (bx : Nat) (R : Option Addr) (m d : Nat) (rm : List Int) (hB : Ro w M (fun w => w.heap[bx]? = some (.cells #[.slice R m d] 33 (0, 0)))) (hE : Ro w M (IsIn R m rm)) (hm : m ≤ 17592186044416) :
    Calls Try.prog 51 #[.agg #[.int .i64 x.f, .int .i64 x.t], .pointer (some ⟨bx, 0, none⟩)] w fun e w' => e = .returned (.bool (touB rm x)) ∧ Below w.heap.size w w' := by
  have K0 := (((Hold.start M w hM).add (hE.less (by simp [Mut]))).add (hB.less (by simp [Mut, Hp.foot]))).alloc_cst #[.int .i64 x.f, .int .i64 x.t] 53
  have F0 := K0.facts
  simp only [World.size_alloc, World.size_drew, factsL, cellsF, Nat.reduceAdd, List.toList_toArray, and_true, true_and] at F0
  have hblk : Blk _ bx 33 #[.slice R m d] := (K0.ro 1 rfl).now
  have c0 := cell_of_row _ bx 0 _ _ _ hblk
  have hI := hid (K0.ro 2 rfl).now
  have hT := hid (show touB rm x = (rm.contains x.f || rm.contains x.t) by
    unfold touB
    rw [Bool.eq_iff_iff]
    simp only [List.any_eq_true, Bool.or_eq_true, beq_iff_eq, List.contains_iff_mem]
    constructor
    · rintro ⟨r, hr, h | h⟩
      · exact .inl (h ▸ hr)
      · exact .inr (h ▸ hr)
    · rintro (h | h)
      · exact ⟨_, h, .inl rfl⟩
      · exact ⟨_, h, .inr rfl⟩)
  clear hblk
  go_enter Try.func51, Try.ntmps51
  go_wp2_with fail
  refine (contInts_any _ R m d rm x.f hI.out hm).mono ?_
  rintro e w1 ⟨rfl, rfl⟩
  cases h1 : rm.contains x.f
  · go_wp2_with fail
    refine (contInts_any _ R m d rm x.t hI.out hm).mono ?_
    rintro e w1 ⟨rfl, rfl⟩
    have HE := hid (show touB rm x = rm.contains x.t by rw [hT.out, h1]; rfl)
    rw [← HE.out]
    go_wp2_with fail
    go_ret
    exact ⟨rfl, K0.below⟩
  · have HE := hid (show touB rm x = true by rw [hT.out, h1]; rfl)
    go_wp2_with fail
    go_ret
    exact ⟨by rw [HE.out] <;> rfl, K0.below⟩
end Go.Proofs.Ytaefjgjojflppaa

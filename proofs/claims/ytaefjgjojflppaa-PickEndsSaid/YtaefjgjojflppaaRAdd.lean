/- RAdd: the contract of Add, of order's reference. -/
import Derived.Test.YtaefjgjojflppaaRClos
namespace Go.Proofs.Ytaefjgjojflppaa
open Go.RowKit
set_option linter.unusedVariables false
set_option linter.unusedSimpArgs false

/-- A list of strings in memory. -/
def strCells (l : List ByteArray) : List Value := l.map .string
def StrsIn (A : Option Addr) (n : Nat) (l : List ByteArray) : World → Prop := SlR 1 A n (strCells l)
theorem StrsIn.len {w : World} {A : Option Addr} {n : Nat} {l : List ByteArray} (h : StrsIn A n l w) : l.length = n := by
  have := (show Rd w w.heap.size 1 A n (strCells l) from h).1
  simpa [strCells] using this
theorem StrsIn.at_ {w : World} {A : Option Addr} {n : Nat} {l : List ByteArray} (h : StrsIn A n l w) {k : Nat} {x : ByteArray} (hx : l[k]? = some x) :
    ∃ b o, A = some ⟨b, o, none⟩ ∧ b < w.heap.size ∧ w.cell? ⟨b, o + k, none⟩ = some (.string x) := by
  have hk : k < n := by rw [← h.len]; exact (List.getElem?_eq_some_iff.1 hx).1
  obtain ⟨b, o, e, hb, hc⟩ := (show Rd w w.heap.size 1 A n (strCells l) from h).2 (by omega)
  exact ⟨b, o, e, hb, hc k _ (by simp [strCells, hx])⟩
theorem one_lks (l : List Lk) : ∀ u ∈ lkCells l, u.oneCell' = true := by
  intro u hu
  obtain ⟨x, _, hx⟩ := List.mem_flatMap.1 hu
  simp [Lk.cells] at hx
  rcases hx with rfl | rfl <;> rfl

theorem valid_at {l : List Lk} (h : validB l = true) {i : Nat} (hi : i < l.length) : okAt l i = true := by
  unfold validB at h
  rw [List.all_eq_true] at h
  exact h i (by simpa using hi)
theorem pair_of_step : ∀ {l : List Lk}, (∀ i, i + 1 < l.length → befB (lkAt l i) (lkAt l (i + 1)) = true) → LkSorted l
  | [], _ => List.Pairwise.nil
  | [x], _ => List.pairwise_singleton _ _
  | x :: y :: l, h => by
    have ih : LkSorted (y :: l) := pair_of_step fun i hi => by
      have := h (i + 1) (by simp at hi ⊢; omega)
      simpa [lkAt] using this
    have hxy : befB x y = true := by have := h 0 (by simp); simpa [lkAt] using this
    refine List.pairwise_cons.2 ⟨fun z hz => ?_, ih⟩
    rcases List.mem_cons.1 hz with rfl | hz
    · exact hxy
    · exact bef_trans hxy ((List.pairwise_cons.1 ih).1 z hz)
theorem valid_sorted {l : List Lk} (h : validB l = true) : LkSorted l := pair_of_step fun i hi => by
  have := valid_at h hi
  unfold okAt at this
  simp only [Bool.and_eq_true, Bool.or_eq_true] at this
  rcases this.1.2 with h1 | h1
  · simp at h1
  · simpa using h1

def insMany (f : ByteArray → Lk) (o : List Lk) (ss : List ByteArray) : List Lk := ss.foldl (fun o s => insL (f s) o) o
theorem insMany_succ (f : ByteArray → Lk) (o : List Lk) {ss : List ByteArray} {k : Nat} {s : ByteArray} (h : ss[k]? = some s) : insMany f o (ss.take (k + 1)) = insL (f s) (insMany f o (ss.take k)) := by
  obtain ⟨hk, rfl⟩ := List.getElem?_eq_some_iff.1 h
  unfold insMany
  rw [List.take_succ_eq_append_getElem hk, List.foldl_append]
  rfl
theorem insMany_spec (f : ByteArray → Lk) : ∀ (ss : List ByteArray) (o : List Lk), LkSorted o → LkSorted (insMany f o ss) ∧ ∀ z, z ∈ insMany f o ss ↔ z ∈ o ∨ ∃ s ∈ ss, z = f s
  | [], o, h => ⟨h, fun z => by simp [insMany]⟩
  | s :: ss, o, h => by
    obtain ⟨h1, h2⟩ := insMany_spec f ss (insL (f s) o) (insL_sorted h)
    refine ⟨h1, fun z => ?_⟩
    show z ∈ insMany f (insL (f s) o) ss ↔ _
    rw [h2 z, insL_mem h]
    simp only [List.mem_cons, exists_eq_or_imp]
    constructor
    · rintro ((h | h) | h)
      · exact .inr (.inl h)
      · exact .inl h
      · exact .inr (.inr h)
    · rintro (h | h | h)
      · exact .inl (.inr h)
      · exact .inl (.inl h)
      · exact .inr h
theorem insMany_names {ns : List ByteArray} {f : ByteArray → Lk} {ss : List ByteArray} {o : List Lk} (hs : LkSorted o) (ho : NamesIn ns o) (hf : ∀ s ∈ ss, (f s).a ∈ ns ∧ (f s).b ∈ ns) : NamesIn ns (insMany f o ss) := fun z hz => by
  rcases ((insMany_spec f ss o hs).2 z).1 hz with h | ⟨s, h, rfl⟩
  · exact ho z h
  · exact hf s h
/-- the links from which Add starts -/
def addS (l : List Lk) (nm : ByteArray) (ps fs : List ByteArray) : List Lk := insMany (fun s => ⟨s, nm⟩) (insMany (fun s => ⟨nm, s⟩) l ps) fs

/-- What Add answers. -/
def AddRet (w : World) (M : Nat → Prop) (l : List Lk) (nm : ByteArray) (ps fs : List ByteArray) (e : Ending) (w' : World) : Prop :=
  Below w.heap.size w w' ∧ ((validB l = false ∧ e = .returned (.tuple #[.slice none 0 0, .int .i64 17])) ∨
   (validB l = true ∧ ∃ r, ClosOf (addS l nm ps fs) r ∧ ((validB r = false ∧ e = .returned (.tuple #[.slice none 0 0, .int .i64 13])) ∨
     (validB r = true ∧ ∃ (A : Option Addr) (n c : Nat), e = .returned (.tuple #[.slice A n c, .int .i64 0]) ∧ n = r.length ∧ n ≤ c ∧ c ≤ 9223372036854775807 ∧ Ro w' M (LksIn A n r)))))

set_option maxHeartbeats 4000000 in
set_option maxRecDepth 100000 in
theorem radd_any (M : Nat → Prop) (w : World) (hM : ∀ b, M b → b < w.heap.size) (A : Option Addr) (n c : Nat) (l : List Lk) (nm : ByteArray) (A1 : Option Addr) (n1 c1 : Nat) (ps : List ByteArray) (A2 : Option Addr) (n2 c2 : Nat) (fs : List ByteArray) (ns : List ByteArray)
    (hD : Ro w M (LksIn A n l)) (hP : Ro w M (StrsIn A1 n1 ps)) (hF : Ro w M (StrsIn A2 n2 fs)) (hl : NamesIn ns l) (hnm : nm ∈ ns) (hps : ∀ s ∈ ps, s ∈ ns) (hfs : ∀ s ∈ fs, s ∈ ns) (hB : ns.length * ns.length ≤ 1000000) (hn : n ≤ 1000000) (hn1 : n1 ≤ 1000000) (hn2 : n2 ≤ 1000000) :
    Calls Try.prog 38 #[.slice A n c, .string nm, .slice A1 n1 c1, .slice A2 n2 c2] w fun e w' => AddRet w M l nm ps fs e w' := by
  have HL := hid hD.now.len
  have HP := hid hP.now.len
  have HF := hid hF.now.len
  have K0 := ((((Hold.start M w hM).add (hF.less (by simp [Mut]))).add (hP.less (by simp [Mut, Hp.foot]))).add (hD.less (by simp [Mut, Hp.foot])))
  cases hv : validB l
  · have HV := hid hv; clear hv
    go_enter Try.func38, Try.ntmps38
    go_wp2_with fail
    refine (rvalid_any (Mut M _) _ K0.mutLt A n c l (K0.ro 0 rfl) hn).mono ?_
    rintro e w1 ⟨rfl, b1⟩
    rw [HV.out]
    have K1 := K0.call b1
    go_wp2_with fail
    go_ret2
    exact ⟨K1.below, .inl ⟨HV.out, rfl⟩⟩
  have HV := hid hv; clear hv
  have HS := hid (valid_sorted HV.out)
  have HNM := hid (And.intro hl (And.intro hnm (And.intro hps hfs)))
  clear hl hnm hps hfs
  go_enter Try.func38, Try.ntmps38
  go_wp2_with fail
  refine (rvalid_any (Mut M _) _ K0.mutLt A n c l (K0.ro 0 rfl) hn).mono ?_
  rintro e w1 ⟨rfl, b1⟩
  rw [HV.out]
  have K1 := (K0.call b1).nil 30 2
  have r1 := hid (K1.ro 1 rfl).now
  clear b1
  go_wp2_with (at_builtin; go_must (refine wpList_appAllH K1 0 rfl Try.elLink r1.out rfl (.const (.slice none 0 0)) (.tmp 18) rfl rfl rfl (one_lks _) (by omega) (by omega) ?_); intro C' cap' w2 hc1 hc2 K2)
  have K3 := K2.sealRow 0 rfl
  simp only [List.set_cons_zero, Nat.zero_add, List.nil_append] at K3 hc1
  have K3 : Hold M none w w2 [.ro (LksIn C' n l), .ro (LksIn A n l), .ro (StrsIn A1 n1 ps), .ro (StrsIn A2 n2 fs)] := K3
  have K4 := K3.drop (List.Sublist.cons_cons _ (List.sublist_cons_self _ _))
  clear K1 K2 K3 r1
  go_loopw [10, 22] (fun v i wr => ∃ (A' : Option Addr) (n' c' k : Nat) (o : List Lk), v = .slice A' n' c' ∧ k ≤ n1 ∧ i = .int .i64 k ∧ n' ≤ c' ∧ c' ≤ 9223372036854775807 ∧ Hid (o = insMany (fun s => ⟨nm, s⟩) l (ps.take k)) ∧ Hold M none w wr [.ro (LksIn A' n' o), .ro (StrsIn A1 n1 ps), .ro (StrsIn A2 n2 fs)]) (fun _ i _ => n1 - (intOf i).toNat)
  case atStart => exact ⟨_, _, _, 0, l, by first | rfl | simp, by omega, rfl, hc1, hc2, hid rfl, K4⟩
  case round =>
    clear K4 hc1 hc2
    obtain ⟨A', n', c', k, o, rfl, hk, rfl, hc', hcm', HO, H⟩ := hrel
    have hn'l := (H.ro 0 rfl).now.len
    have HSO := hid (show LkSorted o ∧ NamesIn ns o by rw [HO.out]; exact ⟨(insMany_spec _ _ l HS.out).1, insMany_names HS.out HNM.out.1 fun s hs => ⟨HNM.out.2.1, HNM.out.2.2.1 s (List.mem_of_mem_take hs)⟩⟩)
    have hn'B : n' ≤ 1000000 := by rw [← hn'l]; exact Nat.le_trans (NamesIn.len HSO.out.2 HSO.out.1) hB
    clear hn'l
    by_cases hlt : k < n1
    · have hd : decide ((k : Int) < (n1 : Int)) = true := by simp; omega
      obtain ⟨s, hs⟩ := get_of HP.out hlt
      obtain ⟨g, oo, rfl, hb, c0⟩ := (H.ro 1 rfl).now.at_ hs
      have HX := hid (insMany_succ (fun s => (⟨nm, s⟩ : Lk)) l hs); clear hs
      go_wp2_with fail
      refine (insert_any (Mut M _) _ H.mutLt A' n' c' o ⟨nm, s⟩ (H.ro 0 rfl) hn'B).mono ?_
      rintro e w5 ⟨A5, n5, c5, rfl, h51, h52, h53, r5, b5⟩
      have H51 := hid h51; clear h51
      have K5 := ((H.call b5).add r5).drop (List.Sublist.cons_cons _ (List.sublist_cons_self _ _))
      clear r5 b5
      go_wp2_with fail
      go_roundw
      case rel => exact ⟨A5, n5, c5, k + 1, _, rfl, by omega, by go_num, h52, h53, hid (by rw [HX.out, ← HO.out]), K5⟩
      case measure => simp [intOf]; omega
    · obtain rfl : n1 = k := by omega
      have HO1 := hid (show o = insMany (fun s => ⟨nm, s⟩) l ps by have := HO.out; rwa [List.take_of_length_le (by rw [HP.out]; omega)] at this)
      have HSO1 := HSO
      clear HO hlt
      have KN := H.drop (List.Sublist.cons_cons _ (List.sublist_cons_self _ _))
      clear H hn'B HSO
      go_wp2_with fail
      go_loopw [10, 34] (fun v i wr => ∃ (A' : Option Addr) (n' c' k : Nat) (o2 : List Lk), v = .slice A' n' c' ∧ k ≤ n2 ∧ i = .int .i64 k ∧ n' ≤ c' ∧ c' ≤ 9223372036854775807 ∧ Hid (o2 = insMany (fun s => ⟨s, nm⟩) o (fs.take k)) ∧ Hold M none w wr [.ro (LksIn A' n' o2), .ro (StrsIn A2 n2 fs)]) (fun _ i _ => n2 - (intOf i).toNat)
      case atStart => exact ⟨_, _, _, 0, o, rfl, by omega, rfl, hc', hcm', hid rfl, KN⟩
      case round =>
        clear KN hc' hcm'
        obtain ⟨A', n', c', k, o2, rfl, hk, rfl, hc', hcm', HO, H⟩ := hrel
        have hn'l := (H.ro 0 rfl).now.len
        have HSO := hid (show LkSorted o2 ∧ NamesIn ns o2 by rw [HO.out]; exact ⟨(insMany_spec _ _ o HSO1.out.1).1, insMany_names HSO1.out.1 HSO1.out.2 fun s hs => ⟨HNM.out.2.2.2 s (List.mem_of_mem_take hs), HNM.out.2.1⟩⟩)
        have hn'B : n' ≤ 1000000 := by rw [← hn'l]; exact Nat.le_trans (NamesIn.len HSO.out.2 HSO.out.1) hB
        clear hn'l
        by_cases hlt : k < n2
        · have hd : decide ((k : Int) < (n2 : Int)) = true := by simp; omega
          obtain ⟨s, hs⟩ := get_of HF.out hlt
          obtain ⟨g, oo, rfl, hb, c0⟩ := (H.ro 1 rfl).now.at_ hs
          have HX := hid (insMany_succ (fun s => (⟨s, nm⟩ : Lk)) o hs); clear hs
          go_wp2_with fail
          refine (insert_any (Mut M _) _ H.mutLt A' n' c' o2 ⟨s, nm⟩ (H.ro 0 rfl) hn'B).mono ?_
          rintro e w5 ⟨A5, n5, c5, rfl, h51, h52, h53, r5, b5⟩
          have H51 := hid h51; clear h51
          have K5 := ((H.call b5).add r5).drop (List.Sublist.cons_cons _ (List.sublist_cons_self _ _))
          clear r5 b5
          go_wp2_with fail
          go_roundw
          case rel => exact ⟨A5, n5, c5, k + 1, _, rfl, by omega, by go_num, h52, h53, hid (by rw [HX.out, ← HO.out]), K5⟩
          case measure => simp [intOf]; omega
        · obtain rfl : n2 = k := by omega
          have HO2 := hid (show o2 = addS l nm ps fs by have := HO.out; rw [List.take_of_length_le (by rw [HF.out]; omega), HO1.out] at this; exact this)
          clear HO hlt
          go_wp2_with fail
          refine (closure_any (Mut M _) _ H.mutLt A' n' c' o2 ns (H.ro 0 rfl) HSO.out.1 HSO.out.2 hB hc' hcm').mono ?_
          rintro e w6 ⟨r, hr, A6, n6, c6, rfl, h61, h62, h63, r6, b6⟩
          have hn6 : n6 ≤ 1000000 := by rw [h61]; exact Nat.le_trans (NamesIn.len (fun z hz => Tr.names HSO.out.2 ((hr.2 z.a z.b).1 hz)) hr.1) hB
          have HR := hid (show ClosOf (addS l nm ps fs) r by rw [← HO2.out]; exact hr)
          have H61 := hid h61
          have K6 := (H.call b6).add r6
          clear r6 b6 hr h61
          cases hvr : validB r
          · have HVR := hid hvr; clear hvr
            go_wp2_with fail
            refine (rvalid_any (Mut M _) _ K6.mutLt A6 n6 c6 r (K6.ro 0 rfl) hn6).mono ?_
            rintro e w7 ⟨rfl, b7⟩
            rw [HVR.out]
            have K7 := K6.call b7
            clear b7
            go_wp2_with fail
            go_ret2
            exact ⟨K7.below, .inr ⟨HV.out, r, HR.out, .inl ⟨HVR.out, rfl⟩⟩⟩
          · have HVR := hid hvr; clear hvr
            go_wp2_with fail
            refine (rvalid_any (Mut M _) _ K6.mutLt A6 n6 c6 r (K6.ro 0 rfl) hn6).mono ?_
            rintro e w7 ⟨rfl, b7⟩
            rw [HVR.out]
            have K7 := K6.call b7
            clear b7
            go_wp2_with fail
            go_ret2
            exact ⟨K7.below, .inr ⟨HV.out, r, HR.out, .inr ⟨HVR.out, A6, n6, c6, rfl, H61.out, h62, h63, K7.roOut 0 rfl⟩⟩⟩
end Go.Proofs.Ytaefjgjojflppaa

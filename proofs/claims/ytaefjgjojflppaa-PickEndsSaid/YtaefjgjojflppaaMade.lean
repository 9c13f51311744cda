/- Made: the contract of pick's laws' made. -/
import Derived.Test.YtaefjgjojflppaaRAdd
import Derived.Test.YtaefjgjojflppaaDraws2
import Derived.Test.YtaefjgjojflppaaPChoose
namespace Go.Proofs.Ytaefjgjojflppaa
open Go.RowKit
set_option linter.unusedVariables false
set_option linter.unusedSimpArgs false

/-- the letters a to d -/
def letters : List ByteArray := [⟨#[97]⟩, ⟨#[98]⟩, ⟨#[99]⟩, ⟨#[100]⟩]
def letAt (k : Nat) : ByteArray := letters.getD k ⟨#[]⟩
def letCells : Array Value := #[.string ⟨#[97]⟩, .string ⟨#[98]⟩, .string ⟨#[99]⟩, .string ⟨#[100]⟩]
theorem let_cell {w : World} {g : Nat} {t : TypeId} (h : Blk w g t letCells) {r : Nat} (hr : r < 4) : w.cell? ⟨g, r, none⟩ = some (.string (letAt r)) := by
  rw [h.cell]
  obtain rfl | rfl | rfl | rfl : r = 0 ∨ r = 1 ∨ r = 2 ∨ r = 3 := by omega
  all_goals rfl
theorem Try.elItem : ElemT Try.prog 23 27 4 72 (.agg #[.string ⟨#[]⟩, .int .i64 0, .slice none 0 0, .slice none 0 0]) := ⟨Try.underlying23, by kernel_rfl, rfl, by omega⟩

theorem letAt_mem {r : Nat} (hr : r < 4) : letAt r ∈ letters := by
  obtain rfl | rfl | rfl | rfl : r = 0 ∨ r = 1 ∨ r = 2 ∨ r = 3 := by omega
  all_goals simp [letAt, letters]
/-- What made leaves: items and a valid order, in memory that nobody writes. -/
def MadeRet (w : World) (T : Nat) (M : Nat → Prop) (N : Nat) (e : Ending) (w' : World) : Prop :=
  ∃ (A : Option Addr) (n c : Nat) (its : List It) (B : Option Addr) (m d : Nat) (l : List Lk), e = .returned (.tuple #[.slice A n c, .slice B m d]) ∧ n ≤ N ∧ n ≤ c ∧ c ≤ 9223372036854775807 ∧ m ≤ 16 ∧ m ≤ d ∧ d ≤ 9223372036854775807 ∧ validB l = true ∧
    Ro w' M (ItsIn A n its) ∧ Ro w' M (LksIn B m l) ∧ Tp w' T ∧ w.grownBy w' (some T)
/-- what Add left in its slot -/
def AddSlot (M : Nat → Prop) (u : Value) (w : World) : Prop :=
  (∃ ec : Int, u = .tuple #[.slice none 0 0, .int .i64 ec] ∧ (ec == 0) = false) ∨
  ∃ (A : Option Addr) (n c : Nat) (r : List Lk), u = .tuple #[.slice A n c, .int .i64 0] ∧ NamesIn letters r ∧ validB r = true ∧ n ≤ c ∧ c ≤ 9223372036854775807 ∧ Ro w M (LksIn A n r)
def StrSlot (M : Nat → Prop) (u : Value) (w : World) : Prop := ∃ r g : Nat, r < 4 ∧ u = .slice (some ⟨g, 0, none⟩) 1 1 ∧ Ro w M (StrsIn (some ⟨g, 0, none⟩) 1 [letAt r])
theorem addSlot_mono {M : Nat → Prop} (u : Value) (w w' : World) (hr : RM M w w') (h : AddSlot M u w) : AddSlot M u w' := by
  rcases h with h | ⟨A, n, c, r, h1, h2, h3, h4, h5, h6⟩
  · exact .inl h
  · exact .inr ⟨A, n, c, r, h1, h2, h3, h4, h5, hr.ro h6⟩
theorem strSlot_mono {M : Nat → Prop} (u : Value) (w w' : World) (hr : RM M w w') (h : StrSlot M u w) : StrSlot M u w' := by
  obtain ⟨r, g, h1, h2, h3⟩ := h
  exact ⟨r, g, h1, h2, hr.ro h3⟩

set_option maxHeartbeats 8000000 in
set_option maxRecDepth 100000 in
theorem made_any (M : Nat → Prop) (T : Nat) (N : Nat) (w : World) (hM : ∀ b, M b → b < w.heap.size) (ht : Tp w T) (hMT : ∀ b, M b → T ≤ b) (hN2 : N ≤ 20) :
    Calls Try.prog 15 #[.pointer (some ⟨T, 0, none⟩), .int .i64 N] w fun e w' => MadeRet w T M N e w' := by
  have K0 := Hold.startT M w T hM ht hMT
  have K1 := K0.alloc_cst letCells 9
  go_enter Try.func15, Try.ntmps15
  go_wp2_with fail
  refine (next_any T (N + 1) _ (K1.tp_ 1 rfl) (by omega) (by omega)).mono ?_
  rintro e w1 ⟨n, rfl, n0, n1, t1, g1⟩
  have K2 := (Hold.callT K1 1 rfl g1 t1).nil 27 4
  clear g1 t1 K0 K1
  obtain ⟨n, rfl⟩ := Int.eq_ofNat_of_zero_le n0
  obtain ⟨B, hB⟩ : ∃ B, w.heap.size = B := ⟨_, rfl⟩
  rw [hB] at K2 ⊢
  have HB := hid hB; clear hB
  go_wp2_with fail
  go_loopw [7, 8] (fun v i wr => ∃ (k q cap : Nat) (A : Option Addr) (its : List It), i = .int .i64 k ∧ v = .slice A q cap ∧ q + k = n ∧ Hold M (some T) w wr [.own 27 4 (.slice A q cap) q (itCells its), .cst B 9 letCells, .tp T]) (fun _ i _ => (intOf i).toNat)
  case atStart => exact ⟨n, 0, 0, none, [], rfl, rfl, by omega, K2⟩
  case round =>
    obtain ⟨k, q, cap, A, its, rfl, rfl, hqk, H⟩ := hrel
    by_cases hlt : 0 < k
    · have hd : decide ((0 : Int) < (k : Int)) = true := by simp; omega
      go_wp2_with fail
      refine wp_region_any (by kernel_rfl) ?_
      refine wpAny_take (i := 0) (v := .slice A q cap) rfl (by kernel_rfl) (by kernel_rfl) (by kernel_rfl) (fun _ _ _ h => h) (Or.inl ⟨by rfl, fun w => ?_⟩) ?_
      · go_simp
      refine wpAny_draws 9 60 (fun w' => Hold M (some T) w w' [.own 27 4 (.slice A q cap) q (itCells its), .cst B 9 letCells, .tp T]) (fun d => if d = 25 then some (NatB 4) else if d = 29 then some (NatB 9) else none) (by kernel_rfl) (by kernel_rfl) (by kernel_rfl) rfl H.drew ?_
      simp only [List.take_succ_cons, List.take_zero, List.drop_succ_cons, List.drop_zero, Act.put, List.getElem_toArray, List.getElem_cons_zero, List.getElem_cons_succ, List.setIfInBounds_toArray, List.set_cons_succ, List.set_cons_zero]
      refine rel_done rfl ?_
      refine dr_val' rfl rfl rfl ?_; apply Exists.intro; refine ⟨fun wv HC => ?_, ?_⟩
      ·  go_simp <;> rfl
      simp only [Act.put, List.setIfInBounds_toArray, List.set_cons_succ, List.set_cons_zero]
      refine dr_val' rfl rfl rfl ?_; apply Exists.intro; refine ⟨fun wv HC => ?_, ?_⟩
      ·  go_simp <;> rfl
      simp only [Act.put, List.setIfInBounds_toArray, List.set_cons_succ, List.set_cons_zero]
      refine dr_next 4 2 rfl 25 rfl rfl rfl rfl (fun wv => ?_) ?_
      · go_simp <;> rfl
      rintro r hr
      simp only [Act.put, List.setIfInBounds_toArray, List.set_cons_succ, List.set_cons_zero]
      have r4 : (r : Int) < 4 := by omega
      have r0 : (0 : Int) ≤ (r : Int) := by omega
      refine dr_val' rfl rfl rfl ?_; apply Exists.intro; refine ⟨fun wv HC => ?_, ?_⟩
      ·  go_simp <;> rfl
      simp only [Act.put, List.setIfInBounds_toArray, List.set_cons_succ, List.set_cons_zero]
      refine dr_val' rfl rfl rfl ?_; apply Exists.intro; refine ⟨fun wv HC => ?_, ?_⟩
      · have hc := let_cell (HC.cst_ 1 rfl) hr; go_simp <;> rfl
      simp only [Act.put, List.setIfInBounds_toArray, List.set_cons_succ, List.set_cons_zero]
      refine dr_val' rfl rfl rfl ?_; apply Exists.intro; refine ⟨fun wv HC => ?_, ?_⟩
      ·  go_simp <;> rfl
      simp only [Act.put, List.setIfInBounds_toArray, List.set_cons_succ, List.set_cons_zero]
      refine dr_next 9 2 rfl 29 rfl rfl rfl rfl (fun wv => ?_) ?_
      · go_simp <;> rfl
      rintro s hs
      simp only [Act.put, List.setIfInBounds_toArray, List.set_cons_succ, List.set_cons_zero]
      refine dr_val' rfl rfl rfl ?_; apply Exists.intro; refine ⟨fun wv HC => ?_, ?_⟩
      ·  go_simp <;> rfl
      simp only [Act.put, List.setIfInBounds_toArray, List.set_cons_succ, List.set_cons_zero]
      refine rel_nil ?_
      rintro wx HX
      go_wp2_with (at_builtin; go_must (refine wpList_appH HX 0 rfl Try.elItem #[.string (letAt r), .int .i64 s, .slice none 0 0, .slice none 0 0] rfl (.tmp 22) (.tmp 31) rfl rfl wx.heap.size rfl rfl rfl (by intro u hu; simp at hu; rcases hu with rfl | rfl | rfl | rfl <;> rfl) (by omega) (by omega) ?_); intro g2 cap2 w2 hc2 hm2 K3)
      go_roundw
      case rel =>
        refine ⟨k - 1, q + 1, cap2, _, its ++ [⟨letAt r, s, none, 0, 0, none, 0, 0⟩], ?_, rfl, by omega, ?_⟩
        · rw [show ((k - 1 : Nat) : Int) = (k : Int) - 1 by omega]
        · have e : itCells (its ++ [⟨letAt r, s, none, 0, 0, none, 0, 0⟩]) = itCells its ++ (#[Value.string (letAt r), .int .i64 s, .slice none 0 0, .slice none 0 0]).toList := by simp [itCells, It.cells]
          rw [e]; exact K3
      case measure => simp [intOf]; omega
    · obtain rfl : k = 0 := by omega
      have hqn : q = n := by omega
      have HQN := hid hqn
      have hcap := own_caps (H.get 0 rfl)
      have KS := H.sealRow 0 rfl
      simp only [List.set_cons_zero] at KS
      have KL := KS.add (S := LksIn none 0 []) ro_nil
      clear KS H K2
      go_wp2_with fail
      refine (next_any T 4 _ (KL.tp_ 3 rfl) (by omega) (by omega)).mono ?_
      rintro e w3 ⟨m, rfl, m0, m1, t3, g3⟩
      have K4 := Hold.callT KL 3 rfl g3 t3
      clear g3 t3 KL
      obtain ⟨m, rfl⟩ := Int.eq_ofNat_of_zero_le m0
      go_wp2_with fail
      go_loopw [9, 10] (fun v i wr => ∃ (k m c : Nat) (A2 : Option Addr) (l : List Lk), i = .int .i64 k ∧ k ≤ 4 ∧ v = .slice A2 m c ∧ m ≤ c ∧ c ≤ 9223372036854775807 ∧ Hid (NamesIn letters l ∧ validB l = true) ∧ Hold M (some T) w wr [.ro (LksIn A2 m l), .ro (SlR 4 A q (itCells its)), .cst B 9 letCells, .tp T]) (fun _ i _ => (intOf i).toNat)
      case atStart => exact ⟨m, 0, 0, none, [], rfl, by omega, rfl, by omega, by omega, hid ⟨fun z hz => (by cases hz), by decide⟩, K4⟩
      case round =>
        clear K4 m1 m0
        obtain ⟨k, m, c, A2, l, rfl, hk, rfl, hmc, hcm, HV, H⟩ := hrel
        have hml : m ≤ 16 := by
          rw [← (H.ro 0 rfl).now.len]
          exact HV.out.1.len (valid_sorted HV.out.2)
        by_cases hlt : 0 < k
        · have hd : decide ((0 : Int) < (k : Int)) = true := by simp; omega
          go_wp2_with fail
          refine wp_region_any (by kernel_rfl) ?_
          refine wpAny_holdC 13 60 ([.ro (LksIn A2 m l), .ro (SlR 4 A q (itCells its)), .cst B 9 letCells, .tp T]) (spL [(43, fun u _ => NatB 4 u), (48, fun u _ => NatB 4 u), (51, StrSlot (Mut M [.ro (LksIn A2 m l), .ro (SlR 4 A q (itCells its)), .cst B 9 letCells, .tp T])), (52, AddSlot (Mut M [.ro (LksIn A2 m l), .ro (SlR 4 A q (itCells its)), .cst B 9 letCells, .tp T]))]) (by kernel_rfl) (by kernel_rfl) (by kernel_rfl) rfl ?_ (H.drew) ?_
          · exact stays_cons (fun _ _ _ _ h => h) (stays_cons (fun _ _ _ _ h => h) (stays_cons strSlot_mono (stays_cons addSlot_mono (stays_nil _))))
          simp only [List.take_succ_cons, List.take_zero, List.drop_succ_cons, List.drop_zero, Act.put, List.getElem_toArray, List.getElem_cons_zero, List.getElem_cons_succ, List.setIfInBounds_toArray, List.set_cons_succ, List.set_cons_zero]
          refine dw_val rfl rfl rfl ?_; apply Exists.intro; refine ⟨fun wv HC => ?_, ?_⟩
          ·  go_simp <;> rfl
          simp only [Act.put, List.setIfInBounds_toArray, List.set_cons_succ, List.set_cons_zero]
          refine dw_val rfl rfl rfl ?_; apply Exists.intro; refine ⟨fun wv HC => ?_, ?_⟩
          ·  go_simp <;> rfl
          simp only [Act.put, List.setIfInBounds_toArray, List.set_cons_succ, List.set_cons_zero]
          refine dw_val rfl rfl rfl ?_; apply Exists.intro; refine ⟨fun wv HC => ?_, ?_⟩
          ·  go_simp <;> rfl
          simp only [Act.put, List.setIfInBounds_toArray, List.set_cons_succ, List.set_cons_zero]
          refine dw_next 4 3 rfl 43 rfl rfl rfl rfl (fun wv => ?_) ?_
          · go_simp <;> rfl
          rintro r hr
          simp only [Act.put, List.setIfInBounds_toArray, List.set_cons_succ, List.set_cons_zero]
          have r4 : (r : Int) < 4 := by omega
          have r0 : (0 : Int) ≤ (r : Int) := by omega
          refine dw_val rfl rfl rfl ?_; apply Exists.intro; refine ⟨fun wv HC => ?_, ?_⟩
          ·  go_simp <;> rfl
          simp only [Act.put, List.setIfInBounds_toArray, List.set_cons_succ, List.set_cons_zero]
          refine dw_val rfl rfl rfl ?_; apply Exists.intro; refine ⟨fun wv HC => ?_, ?_⟩
          · have hc := let_cell (HC.cst_ 2 rfl) hr; go_simp <;> rfl
          simp only [Act.put, List.setIfInBounds_toArray, List.set_cons_succ, List.set_cons_zero]
          refine dw_val rfl rfl rfl ?_; apply Exists.intro; refine ⟨fun wv HC => ?_, ?_⟩
          ·  go_simp <;> rfl
          simp only [Act.put, List.setIfInBounds_toArray, List.set_cons_succ, List.set_cons_zero]
          refine dw_val rfl rfl rfl ?_; apply Exists.intro; refine ⟨fun wv HC => ?_, ?_⟩
          ·  go_simp <;> rfl
          simp only [Act.put, List.setIfInBounds_toArray, List.set_cons_succ, List.set_cons_zero]
          refine dw_next 4 3 rfl 48 rfl rfl rfl rfl (fun wv => ?_) ?_
          · go_simp <;> rfl
          rintro s hs
          simp only [Act.put, List.setIfInBounds_toArray, List.set_cons_succ, List.set_cons_zero]
          have s4 : (s : Int) < 4 := by omega
          have s0 : (0 : Int) ≤ (s : Int) := by omega
          refine dw_val rfl rfl rfl ?_; apply Exists.intro; refine ⟨fun wv HC => ?_, ?_⟩
          ·  go_simp <;> rfl
          simp only [Act.put, List.setIfInBounds_toArray, List.set_cons_succ, List.set_cons_zero]
          refine dw_val rfl rfl rfl ?_; apply Exists.intro; refine ⟨fun wv HC => ?_, ?_⟩
          · have hc := let_cell (HC.cst_ 2 rfl) hs; go_simp <;> rfl
          simp only [Act.put, List.setIfInBounds_toArray, List.set_cons_succ, List.set_cons_zero]
          refine dw_new #[.string (letAt s)] 9 51 (StrSlot (Mut M [.ro (LksIn A2 m l), .ro (SlR 4 A q (itCells its)), .cst B 9 letCells, .tp T])) (fun g => .slice (some ⟨g, 0, none⟩) 1 1) rfl rfl rfl rfl (fun wv => ?_) (fun wv HC _ _ hro => ⟨s, _, hs, rfl, ro_block (hro _ HC.mutLt) rfl⟩) ?_
          · go_simp <;> rfl
          rintro g wg HCg hsl
          simp only [Act.put, List.setIfInBounds_toArray, List.set_cons_succ, List.set_cons_zero]
          clear hsl HCg
          refine dw_call 52 (AddSlot (Mut M [.ro (LksIn A2 m l), .ro (SlR 4 A q (itCells its)), .cst B 9 letCells, .tp T])) (f := 38) (args := #[.slice A2 m c, .string (letAt r), .slice (some ⟨g, 0, none⟩) 1 1, .slice none 0 0]) rfl rfl rfl rfl (fun wv => ?_) (fun wv HC hD => ?_) ?_
          · go_simp <;> rfl
          · have hsl : StrSlot _ (.slice (some ⟨g, 0, none⟩) 1 1) wv := deps_at hD 11 rfl (by kernel_rfl) rfl rfl
            obtain ⟨x, g', hx, e, hS⟩ := hsl
            obtain rfl : g = g' := by injection e with e; injection e with e; injection e
            refine (radd_any _ wv HC.mutLt A2 m c l (letAt r) (some ⟨g, 0, none⟩) 1 1 [letAt x] none 0 0 [] letters (HC.ro 0 rfl) hS ro_nil HV.out.1 (letAt_mem hr) (by intro y hy; simp at hy; rw [hy]; exact letAt_mem hx) (by intro y hy; cases hy) (by decide) (by omega) (by omega) (by omega)).mono ?_
            rintro e w' ⟨hb, hcase⟩
            rcases hcase with ⟨_, rfl⟩ | ⟨hvl, rr, hcl, ⟨_, rfl⟩ | ⟨hvr, A5, n5, c5, rfl, h5, h6, h7, h8⟩⟩
            · exact ⟨_, rfl, .inl ⟨17, rfl, by decide⟩, HC.call hb, RM.below hb⟩
            · exact ⟨_, rfl, .inl ⟨13, rfl, by decide⟩, HC.call hb, RM.below hb⟩
            · refine ⟨_, rfl, .inr ⟨A5, n5, c5, rr, rfl, fun z hz => Tr.names ?_ ((hcl.2 z.a z.b).1 hz), hvr, h6, h7, h8⟩, HC.call hb, RM.below hb⟩
              have hsl := valid_sorted hvl
              exact insMany_names (insMany_spec _ _ l hsl).1 (insMany_names hsl HV.out.1 fun y hy => ⟨letAt_mem hr, by simp at hy; rw [hy]; exact letAt_mem hx⟩) (fun y hy => by cases hy)
          rintro u wu HCu _
          simp only [Act.put, List.setIfInBounds_toArray, List.set_cons_succ, List.set_cons_zero]
          refine rel_nil ?_
          rintro wx HX _hrm HG
          simp only [List.length_cons, List.length_nil, Nat.reduceAdd, Nat.reduceSub]
          have hu : AddSlot (Mut M [.ro (LksIn A2 m l), .ro (SlR 4 A q (itCells its)), .cst B 9 letCells, .tp T]) u wx := (GW_on (d := 52) rfl).1 (HG 12 _ rfl (by omega))
          clear HG HCu
          rcases hu with ⟨ec, rfl, hec⟩ | ⟨A5, n5, c5, rr, rfl, hn5, hv5, h55, h56, r5⟩
          · have _hh := hec
            refine wpAny_take (i := 13) (v := .tuple #[.slice none 0 0, .int .i64 ec]) rfl (by kernel_rfl) (by kernel_rfl) (by kernel_rfl) (fun _ _ _ h => h) (Or.inl ⟨by rfl, fun w => ?_⟩) ?_
            · go_simp
            simp only [Act.put, List.getElem_toArray, List.getElem_cons_zero, List.getElem_cons_succ, List.setIfInBounds_toArray, List.set_cons_succ, List.set_cons_zero]
            refine wpAny_take (i := 14) (v := .slice none 0 0) rfl (by kernel_rfl) (by kernel_rfl) (by kernel_rfl) (fun _ _ _ h => h) (Or.inl ⟨by rfl, fun w => ?_⟩) ?_
            · go_simp
            simp only [Act.put, List.getElem_toArray, List.getElem_cons_zero, List.getElem_cons_succ, List.setIfInBounds_toArray, List.set_cons_succ, List.set_cons_zero]
            refine wpAny_take (i := 16) (v := .slice none 0 0) rfl (by kernel_rfl) (by kernel_rfl) (by kernel_rfl) (fun _ _ _ h => h) (Or.inl ⟨by rfl, fun w => ?_⟩) ?_
            · go_simp
            simp only [Act.put, List.getElem_toArray, List.getElem_cons_zero, List.getElem_cons_succ, List.setIfInBounds_toArray, List.set_cons_succ, List.set_cons_zero]
            refine wpAny_take (i := 15) (v := .int .i64 ec) rfl (by kernel_rfl) (by kernel_rfl) (by kernel_rfl) (fun _ _ _ h => h) (Or.inl ⟨by rfl, fun w => ?_⟩) ?_
            · go_simp
            simp only [Act.put, List.getElem_toArray, List.getElem_cons_zero, List.getElem_cons_succ, List.setIfInBounds_toArray, List.set_cons_succ, List.set_cons_zero]
            refine wpAny_take (i := 17) (v := .int .i64 ec) rfl (by kernel_rfl) (by kernel_rfl) (by kernel_rfl) (fun _ _ _ h => h) (Or.inl ⟨by rfl, fun w => ?_⟩) ?_
            · go_simp
            simp only [Act.put, List.getElem_toArray, List.getElem_cons_zero, List.getElem_cons_succ, List.setIfInBounds_toArray, List.set_cons_succ, List.set_cons_zero]
            refine wpAny_done (by kernel_rfl) ?_ _
            go_wp2_with fail
            go_roundw
            case rel =>
              refine ⟨k - 1, m, c, A2, l, ?_, by omega, rfl, hmc, hcm, HV, HX⟩
              rw [show ((k - 1 : Nat) : Int) = (k : Int) - 1 by omega]
            case measure => simp [intOf]; omega
          · have HV5 := hid (And.intro hn5 hv5)
            have K5 := (HX.add r5).drop (List.Sublist.cons_cons _ (List.sublist_cons_self _ _))
            refine wpAny_take (i := 13) (v := .tuple #[.slice A5 n5 c5, .int .i64 0]) rfl (by kernel_rfl) (by kernel_rfl) (by kernel_rfl) (fun _ _ _ h => h) (Or.inl ⟨by rfl, fun w => ?_⟩) ?_
            · go_simp
            simp only [Act.put, List.getElem_toArray, List.getElem_cons_zero, List.getElem_cons_succ, List.setIfInBounds_toArray, List.set_cons_succ, List.set_cons_zero]
            refine wpAny_take (i := 14) (v := .slice A5 n5 c5) rfl (by kernel_rfl) (by kernel_rfl) (by kernel_rfl) (fun _ _ _ h => h) (Or.inl ⟨by rfl, fun w => ?_⟩) ?_
            · go_simp
            simp only [Act.put, List.getElem_toArray, List.getElem_cons_zero, List.getElem_cons_succ, List.setIfInBounds_toArray, List.set_cons_succ, List.set_cons_zero]
            refine wpAny_take (i := 16) (v := .slice A5 n5 c5) rfl (by kernel_rfl) (by kernel_rfl) (by kernel_rfl) (fun _ _ _ h => h) (Or.inl ⟨by rfl, fun w => ?_⟩) ?_
            · go_simp
            simp only [Act.put, List.getElem_toArray, List.getElem_cons_zero, List.getElem_cons_succ, List.setIfInBounds_toArray, List.set_cons_succ, List.set_cons_zero]
            refine wpAny_take (i := 15) (v := .int .i64 0) rfl (by kernel_rfl) (by kernel_rfl) (by kernel_rfl) (fun _ _ _ h => h) (Or.inl ⟨by rfl, fun w => ?_⟩) ?_
            · go_simp
            simp only [Act.put, List.getElem_toArray, List.getElem_cons_zero, List.getElem_cons_succ, List.setIfInBounds_toArray, List.set_cons_succ, List.set_cons_zero]
            refine wpAny_take (i := 17) (v := .int .i64 0) rfl (by kernel_rfl) (by kernel_rfl) (by kernel_rfl) (fun _ _ _ h => h) (Or.inl ⟨by rfl, fun w => ?_⟩) ?_
            · go_simp
            simp only [Act.put, List.getElem_toArray, List.getElem_cons_zero, List.getElem_cons_succ, List.setIfInBounds_toArray, List.set_cons_succ, List.set_cons_zero]
            refine wpAny_done (by kernel_rfl) ?_ _
            go_wp2_with fail
            go_roundw
            case rel =>
              refine ⟨k - 1, n5, c5, A5, rr, ?_, by omega, rfl, h55, h56, HV5, K5⟩
              rw [show ((k - 1 : Nat) : Int) = (k : Int) - 1 by omega]
            case measure => simp [intOf]; omega
        · go_wp2_with fail
          go_ret2
          exact ⟨A, n, cap, its, A2, m, c, l, rfl, by omega, by omega, hcap.2.1, hml, hmc, hcm, HV.out.2, by have := H.roOut 1 rfl; rwa [HQN.out] at this, H.roOut 0 rfl, H.tp_ 3 rfl, H.grow⟩
end Go.Proofs.Ytaefjgjojflppaa

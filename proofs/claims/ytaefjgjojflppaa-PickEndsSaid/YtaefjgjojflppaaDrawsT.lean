/- Draws from the tape inside a region that draws its order. -/
import Derived.Test.YtaefjgjojflppaaDraws
import Derived.Test.YtaefjgjojflppaaHold
import Derived.Test.YtaefjgjojflppaaTape
namespace Go.Proofs.Ytaefjgjojflppaa
open Go.RowKit
set_option linter.unusedVariables false
set_option linter.unusedSimpArgs false
/-- a number below n -/
def NatB (n : Nat) (u : Value) : Prop := ∃ r : Nat, r < n ∧ u = .int .i64 r
section
variable {sp : Sp} {F : Act → Prop} {S0 : Array Bool} {ops : Array Oper} {o : Oper} {rest : List Oper} {a : Act} {k : Nat} {M : Nat → Prop} {row : Option Nat} {w0 : World} {L : List Hp} {T : Nat}
theorem dr_next (n : Nat) (i : Nat) (hi : L[i]? = some (.tp T)) (d : Tmp) (hS : S0.getD k false = false) (hw : Region.wanted o (yielded ops a.tmps) = true) (hd : o.dst = some d) (hsp : sp d = some (NatB n))
    (hrun : ∀ w, (execOp a.eval o).run Try.prog w = .ok (.enter 28 #[.pointer (some ⟨T, 0, none⟩), .int .i64 n]) w) (hn : ∀ r : Nat, r < n → wpRel Try.prog ops (fun w' => Hold M row w0 w' L) (GV sp) RT S0 F (k + 1) rest (a.put (some d) (.int .i64 r)))
    (hpos : 0 < n := by omega) (hmax : n ≤ 9223372036854775807 := by omega) : wpRel Try.prog ops (fun w' => Hold M row w0 w' L) (GV sp) RT S0 F k (o :: rest) a := by
  refine dr_call d (NatB n) hS hw hd hsp (fun w _ => hrun w) (fun w HC => ?_) (fun u ⟨r, hr, hu⟩ => by subst hu; exact hn r hr)
  refine (next_any T n w (HC.tp_ i hi) (by omega) (by omega)).mono ?_
  rintro e w5 ⟨r, rfl, r0, r1, t5, g5⟩
  exact ⟨_, rfl, ⟨r.toNat, by omega, by rw [Int.toNat_of_nonneg r0]⟩, Hold.callT HC i hi g5 t5⟩
end
end Go.Proofs.Ytaefjgjojflppaa

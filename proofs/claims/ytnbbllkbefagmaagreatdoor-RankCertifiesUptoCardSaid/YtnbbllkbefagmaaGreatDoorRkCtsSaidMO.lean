import Derived.Test.YtnbbllkbefagmaaGreatDoorRkCtsSaidMH
namespace Go.Proofs.YtnbbllkbefagmaaGreatDoor
open Go.RowKit
set_option linter.unusedVariables false
set_option linter.unusedSimpArgs false
def ValsSlot (M:Nat→Prop) (n:Nat) (vs:List Value) (u:Value) (w:World):Prop:=∃ g:Nat,u=.slice (some ⟨g,0,none⟩) n n∧vs.length=n∧Ro w M (SlR 1 (some ⟨g,0,none⟩) n vs)
theorem Jv {M:Nat→Prop} {n:Nat} {vs:List Value} (u:Value) (w w' :World) (hr:RM M w w') (h:ValsSlot M n vs u w):ValsSlot M n vs u w' :=by
 obtain ⟨g,h1,h2,h3⟩:=h
 exact ⟨g,h1,h2,hr.ro h3⟩
def Xh (M:Nat→Prop) (Z:Value→Prop) (u:Value) (w:World):Prop:=∃ (g o:Nat) (z:Value),u=.pointer (some ⟨g,o,none⟩)∧Z z∧Ro w M (fun w=>w.cell? ⟨g,o,none⟩=some z)
theorem QO {M:Nat→Prop} {Z:Value→Prop} (u:Value) (w w' :World) (hr:RM M w w') (h:Xh M Z u w):Xh M Z u w' :=by
 obtain ⟨g,o,z,h1,h2,h3⟩:=h
 exact ⟨g,o,z,h1,h2,hr.ro h3⟩
def WT (u:Value):Prop:=∃ s:ByteArray,u=.string s
def Wo (u:Value) (_:World):Prop:=WT u
theorem QH {M:Nat→Prop} (u:Value) (w w' :World) (hr:RM M w w') (h:Wo u w):Wo u w' :=h
theorem ValsSlot.cell {M:Nat→Prop} {n:Nat} {vs:List Value} {Z:Value→Prop} {g r:Nat} {w:World} (h:ValsSlot M n vs (.slice (some ⟨g,0,none⟩) n n) w) (hZ:∀ z∈vs,Z z) (hr:r<n):Xh M Z (.pointer (some ⟨g,r,none⟩)) w:=by
 obtain ⟨g',e,hl,h3⟩:=h
 obtain rfl:g=g' :=by injection e with e;injection e with e;injection e
 obtain ⟨z,hz⟩:∃ z,vs[r]? =some z:=⟨vs[r]'(by omega),List.getElem?_eq_getElem _⟩
 refine ⟨g,r,z,rfl,hZ z (List.mem_of_getElem? hz),h3.imp fun w2 h2=>?_⟩
 obtain ⟨b,o,e,hb,hc⟩:=h2.2 (by omega)
 obtain ⟨rfl,rfl⟩:g=b∧0=o:=by injection e with e;injection e with e1 e2;exact ⟨e1,e2⟩
 have:=hc r z hz
 simpa using this
end Go.Proofs.YtnbbllkbefagmaaGreatDoor

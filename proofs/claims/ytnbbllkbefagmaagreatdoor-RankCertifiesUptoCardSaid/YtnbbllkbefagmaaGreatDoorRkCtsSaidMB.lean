import Derived.Test.YtnbbllkbefagmaaGreatDoorCards
import Derived.Test.YtnbbllkbefagmaaGreatDoorTie
import Derived.Test.YtnbbllkbefagmaaGreatDoorRkCtsSaidMA
namespace Go.Proofs.YtnbbllkbefagmaaGreatDoor
open Go.ChangeShapes Go.WideShapes Go.ChangeAt Go.RowKit
theorem ZeI:(Rows.rankCertifiesUptoRow.inPlace==Tryz.pinned.checked.prog.inPlace 6)=true:=by kernel_rfl
theorem ZeR:(Rows.rankCertifiesUptoRow.unfollowed==Tryz.pinned.checked.prog.unfollowed 6)=true:=by kernel_rfl
theorem Zb5:(Rows.rankCertifiesUptoRow.recurses==Tryz.pinned.checked.prog.recurses 6)=true:=by kernel_rfl
theorem ZgD:(Rows.rankCertifiesUptoRow.named==Tryz.pinned.checked.prog.varsNamed 6)=true:=by kernel_rfl
theorem Zgl:joinedFacts Tryz.pinned.checked.prog 6 Tryz.f6 (Rows.OpenSpec.upto Rows.rankCertifiesSpec).bare Rows.rankCertifiesUptoRow=true:=by
 unfold joinedFacts
 rw [ZeI,ZeR,Zb5,ZgD]
 kernel_rfl
end Go.Proofs.YtnbbllkbefagmaaGreatDoor

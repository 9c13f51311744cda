import Derived.Test.YtnbbllkbefagmaaGreatDoorCards
import Derived.Test.YtnbbllkbefagmaaGreatDoorTie
import Derived.Test.YtnbbllkbefagmaaGreatDoorEvCntSaidMA
namespace Go.Proofs.YtnbbllkbefagmaaGreatDoor
open Go.ChangeShapes Go.WideShapes Go.ChangeAt Go.RowKit
theorem Zed:(Rows.eventCountsRow.inPlace==Tryz.pinned.checked.prog.inPlace 3)=true:=by kernel_rfl
theorem ZhJ:(Rows.eventCountsRow.unfollowed==Tryz.pinned.checked.prog.unfollowed 3)=true:=by kernel_rfl
theorem Zhp:(Rows.eventCountsRow.recurses==Tryz.pinned.checked.prog.recurses 3)=true:=by kernel_rfl
theorem ZfG:(Rows.eventCountsRow.named==Tryz.pinned.checked.prog.varsNamed 3)=true:=by kernel_rfl
theorem ZfH:joinedFacts Tryz.pinned.checked.prog 3 Tryz.f3 (OpenSpec.ofChange Rows.eventCountsSpec).bare Rows.eventCountsRow=true:=by
 unfold joinedFacts
 rw [Zed,ZhJ,Zhp,ZfG]
 kernel_rfl
end Go.Proofs.YtnbbllkbefagmaaGreatDoor

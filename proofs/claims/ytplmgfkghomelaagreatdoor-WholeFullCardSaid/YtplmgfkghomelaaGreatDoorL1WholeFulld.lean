/- Lemmas. -/
import Derived.Test.YtplmgfkghomelaaGreatDoorCards
import Derived.Test.YtplmgfkghomelaaGreatDoorTie
import Derived.Test.YtplmgfkghomelaaGreatDoorLib
set_option linter.unusedVariables false
set_option linter.unusedSimpArgs false
namespace Go.Proofs.YtplmgfkghomelaaGreatDoor
open Go.Sx Go.ChangeShapes Go.WideShapes Go.ChangeAt Go.RowKit
theorem B5:(Rows.wholeFullRow.inPlace==Tryz.pinned.checked.prog.inPlace 6)=true:=by kernel_rfl
theorem B6:(Rows.wholeFullRow.unfollowed==Tryz.pinned.checked.prog.unfollowed 6)=true:=by kernel_rfl
theorem B7:(Rows.wholeFullRow.recurses==Tryz.pinned.checked.prog.recurses 6)=true:=by kernel_rfl
theorem B8:(Rows.wholeFullRow.named==Tryz.pinned.checked.prog.varsNamed 6)=true:=by kernel_rfl
end Go.Proofs.YtplmgfkghomelaaGreatDoor

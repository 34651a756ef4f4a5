/- Lemmas. -/
import Derived.Test.YtplmgfkghomelaaGreatDoorCards
import Derived.Test.YtplmgfkghomelaaGreatDoorTie
import Derived.Test.YtplmgfkghomelaaGreatDoorLib
set_option linter.unusedVariables false
set_option linter.unusedSimpArgs false
namespace Go.Proofs.YtplmgfkghomelaaGreatDoor
open Go.Sx Go.ChangeShapes Go.WideShapes Go.ChangeAt Go.RowKit
theorem B6:(Rows.hostTurnsRow.inPlace==Tryz.pinned.checked.prog.inPlace 4)=true:=by kernel_rfl
theorem B7:(Rows.hostTurnsRow.unfollowed==Tryz.pinned.checked.prog.unfollowed 4)=true:=by kernel_rfl
theorem B8:(Rows.hostTurnsRow.recurses==Tryz.pinned.checked.prog.recurses 4)=true:=by kernel_rfl
theorem B9:(Rows.hostTurnsRow.named==Tryz.pinned.checked.prog.varsNamed 4)=true:=by kernel_rfl
end Go.Proofs.YtplmgfkghomelaaGreatDoor

/- Lemmas. -/
import Derived.Test.YtplmgfkghomelaaGreatDoorCards
import Derived.Test.YtplmgfkghomelaaGreatDoorTie
import Derived.Test.YtplmgfkghomelaaGreatDoorLib
set_option linter.unusedVariables false
set_option linter.unusedSimpArgs false
namespace Go.Proofs.YtplmgfkghomelaaGreatDoor
open Go.Sx Go.ChangeShapes Go.WideShapes Go.ChangeAt Go.RowKit
theorem rl:(Rows.hostGrowsUptoRow.inPlace==Tryz.pinned.checked.prog.inPlace 3)=true:=by kernel_rfl
theorem rm:(Rows.hostGrowsUptoRow.unfollowed==Tryz.pinned.checked.prog.unfollowed 3)=true:=by kernel_rfl
theorem rq:(Rows.hostGrowsUptoRow.recurses==Tryz.pinned.checked.prog.recurses 3)=true:=by kernel_rfl
theorem rr:(Rows.hostGrowsUptoRow.named==Tryz.pinned.checked.prog.varsNamed 3)=true:=by kernel_rfl
end Go.Proofs.YtplmgfkghomelaaGreatDoor

/- Lemmas. -/
import Derived.Test.YtplmgfkghomelaaGreatDoorRows
import Derived.Test.YtplmgfkghomelaaGreatDoorCards
import Derived.Test.YtplmgfkghomelaaGreatDoorTie
import Derived.Test.YtplmgfkghomelaaGreatDoorLib
import Derived.Test.YtplmgfkghomelaaGreatDoorProg
set_option linter.all false
namespace Go.Proofs.YtplmgfkghomelaaGreatDoor
open Go.Sx Go.ChangeShapes Go.WideShapes Go.ChangeAt Go.RowKit
theorem uZ:(Rows.wholeCountsRow.inPlace==Tryz.pinned.checked.prog.inPlace 8)=true:=by kernel_rfl
theorem wa:(Rows.wholeCountsRow.unfollowed==Tryz.pinned.checked.prog.unfollowed 8)=true:=by kernel_rfl
theorem wc:(Rows.wholeCountsRow.recurses==Tryz.pinned.checked.prog.recurses 8)=true:=by kernel_rfl
theorem wd:(Rows.wholeCountsRow.named==Tryz.pinned.checked.prog.varsNamed 8)=true:=by kernel_rfl
end Go.Proofs.YtplmgfkghomelaaGreatDoor

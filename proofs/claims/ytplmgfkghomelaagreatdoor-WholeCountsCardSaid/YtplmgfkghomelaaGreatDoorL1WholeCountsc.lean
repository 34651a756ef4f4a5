/- Lemmas. -/
import Derived.Test.YtplmgfkghomelaaGreatDoorRows
import Derived.Test.YtplmgfkghomelaaGreatDoorCards
import Derived.Test.YtplmgfkghomelaaGreatDoorTie
import Derived.Test.YtplmgfkghomelaaGreatDoorLib
import Derived.Test.YtplmgfkghomelaaGreatDoorProg
set_option linter.all false
namespace Go.Proofs.YtplmgfkghomelaaGreatDoor
open Go.Sx Go.ChangeShapes Go.WideShapes Go.ChangeAt Go.RowKit
theorem uV:laidOutB Tryz.pinned.checked.prog=true:=by kernel_rfl
theorem uW:mapsRowed Tryz.pinned.checked.prog=true:=by kernel_rfl
theorem uX:(Rows.wholeCountsRow.plainKeys==Tryz.pinned.checked.prog.plainKeys)=true:=by kernel_rfl
theorem uY:Tryz.pinned.checked.prog.mayEnter=true:=by kernel_rfl
end Go.Proofs.YtplmgfkghomelaaGreatDoor

/- Lemmas. -/
import Derived.Test.YtplmgfkghomelaaGreatDoorCards
import Derived.Test.YtplmgfkghomelaaGreatDoorTie
import Derived.Test.YtplmgfkghomelaaGreatDoorLib
set_option linter.all false
namespace Go.Proofs.YtplmgfkghomelaaGreatDoor
open Go.Sx Go.ChangeShapes Go.WideShapes Go.ChangeAt Go.RowKit
theorem CV:laidOutB Tryz.pinned.checked.prog=true:=by kernel_rfl
theorem CX:mapsRowed Tryz.pinned.checked.prog=true:=by kernel_rfl
theorem CY:(Rows.wholeRefsRow.plainKeys==Tryz.pinned.checked.prog.plainKeys)=true:=by kernel_rfl
theorem CZ:Tryz.pinned.checked.prog.mayEnter=true:=by kernel_rfl
end Go.Proofs.YtplmgfkghomelaaGreatDoor

/- Lemmas. -/
import Derived.Test.YtplmgfkghomelaaGreatDoorCards
import Derived.Test.YtplmgfkghomelaaGreatDoorTie
import Derived.Test.YtplmgfkghomelaaGreatDoorLib
set_option linter.all false
namespace Go.Proofs.YtplmgfkghomelaaGreatDoor
open Go.Sx Go.ChangeShapes Go.WideShapes Go.ChangeAt Go.RowKit
theorem sQ:laidOutB Tryz.pinned.checked.prog=true:=by kernel_rfl
theorem sR:mapsRowed Tryz.pinned.checked.prog=true:=by kernel_rfl
theorem sS:(Rows.wholeEndsUptoRow.plainKeys==Tryz.pinned.checked.prog.plainKeys)=true:=by kernel_rfl
theorem sT:Tryz.pinned.checked.prog.mayEnter=true:=by kernel_rfl
end Go.Proofs.YtplmgfkghomelaaGreatDoor

/- Lemmas. -/
import Derived.Test.YtplmgfkghomelaaGreatDoorCards
import Derived.Test.YtplmgfkghomelaaGreatDoorTie
import Derived.Test.YtplmgfkghomelaaGreatDoorLib
set_option linter.all false
namespace Go.Proofs.YtplmgfkghomelaaGreatDoor
open Go.Sx Go.ChangeShapes Go.WideShapes Go.ChangeAt Go.RowKit
theorem C1:(Rows.wholeRefsRow.inPlace==Tryz.pinned.checked.prog.inPlace 9)=true:=by kernel_rfl
theorem C2:(Rows.wholeRefsRow.unfollowed==Tryz.pinned.checked.prog.unfollowed 9)=true:=by kernel_rfl
theorem C3:(Rows.wholeRefsRow.recurses==Tryz.pinned.checked.prog.recurses 9)=true:=by kernel_rfl
theorem C4:(Rows.wholeRefsRow.named==Tryz.pinned.checked.prog.varsNamed 9)=true:=by kernel_rfl
end Go.Proofs.YtplmgfkghomelaaGreatDoor

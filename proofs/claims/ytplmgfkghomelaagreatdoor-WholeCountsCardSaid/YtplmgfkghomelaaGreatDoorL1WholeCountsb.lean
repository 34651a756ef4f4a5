/- Lemmas. -/
import Derived.Test.YtplmgfkghomelaaGreatDoorL1WholeCountsa
import Derived.Test.YtplmgfkghomelaaGreatDoorL1WholeCountsc
import Derived.Test.YtplmgfkghomelaaGreatDoorL1WholeCountsd
set_option linter.all false
namespace Go.Proofs.YtplmgfkghomelaaGreatDoor
open Go.Sx Go.ChangeShapes Go.WideShapes Go.ChangeAt Go.RowKit
theorem Re{a b:Bool}(h:a=true)(c:b=true):(a&&b)=true:=by rw [h,c];rfl
set_option maxHeartbeats 40000000 in
theorem pC:joinedFacts Tryz.pinned.checked.prog 8 Tryz.f8 (OpenSpec.ofChange Rows.wholeCountsSpec).bare Rows.wholeCountsRow=true:=by unfold joinedFacts;(repeat' (with_reducible apply Re));all_goals (first|with_reducible exact uV|with_reducible exact uW|with_reducible exact uX|with_reducible exact uY|with_reducible exact uZ|with_reducible exact wa|with_reducible exact wc|with_reducible exact wd|(as_aux_lemma=>kernel_rfl))
end Go.Proofs.YtplmgfkghomelaaGreatDoor

/- Lemmas. -/
import Derived.Test.YtplmgfkghomelaaGreatDoorL1WholeFulla
import Derived.Test.YtplmgfkghomelaaGreatDoorL1WholeFullc
import Derived.Test.YtplmgfkghomelaaGreatDoorL1WholeFulld
set_option linter.unusedVariables false
set_option linter.unusedSimpArgs false
namespace Go.Proofs.YtplmgfkghomelaaGreatDoor
open Go.Sx Go.ChangeShapes Go.WideShapes Go.ChangeAt Go.RowKit
theorem QU{a b:Bool}(h1:a=true)(h2:b=true):(a&&b)=true:=by rw [h1,h2];rfl
set_option maxHeartbeats 40000000 in
theorem rH:joinedFacts Tryz.pinned.checked.prog 6 Tryz.f6 (OpenSpec.ofChange Rows.wholeFullSpec).bare Rows.wholeFullRow=true:=by unfold joinedFacts;(repeat' (with_reducible apply QU));all_goals (first|with_reducible exact BX|with_reducible exact BZ|with_reducible exact B3|with_reducible exact B4|with_reducible exact B5|with_reducible exact B6|with_reducible exact B7|with_reducible exact B8|(as_aux_lemma=>kernel_rfl))
end Go.Proofs.YtplmgfkghomelaaGreatDoor

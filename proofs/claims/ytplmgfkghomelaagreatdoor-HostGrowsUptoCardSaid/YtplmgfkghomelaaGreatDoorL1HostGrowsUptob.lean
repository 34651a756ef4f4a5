/- Lemmas. -/
import Derived.Test.YtplmgfkghomelaaGreatDoorL1HostGrowsUptoa
import Derived.Test.YtplmgfkghomelaaGreatDoorL1HostGrowsUptoc
import Derived.Test.YtplmgfkghomelaaGreatDoorL1HostGrowsUptod
set_option linter.unusedVariables false
set_option linter.unusedSimpArgs false
namespace Go.Proofs.YtplmgfkghomelaaGreatDoor
open Go.Sx Go.ChangeShapes Go.WideShapes Go.ChangeAt Go.RowKit
theorem PP{a b:Bool}(h1:a=true)(h2:b=true):(a&&b)=true:=by rw [h1,h2];rfl
set_option maxHeartbeats 40000000 in
theorem mj:joinedFacts Tryz.pinned.checked.prog 3 Tryz.f3 (Rows.OpenSpec.upto Rows.hostGrowsSpec).bare Rows.hostGrowsUptoRow=true:=by unfold joinedFacts;(repeat' (with_reducible apply PP));all_goals (first|with_reducible exact pY|with_reducible exact pZ|with_reducible exact rh|with_reducible exact rk|with_reducible exact rl|with_reducible exact rm|with_reducible exact rq|with_reducible exact rr|(as_aux_lemma=>kernel_rfl))
end Go.Proofs.YtplmgfkghomelaaGreatDoor

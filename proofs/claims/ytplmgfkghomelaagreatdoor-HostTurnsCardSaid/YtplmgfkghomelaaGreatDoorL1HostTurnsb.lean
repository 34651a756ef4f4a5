/- Lemmas. -/
import Derived.Test.YtplmgfkghomelaaGreatDoorL1HostTurnsa
import Derived.Test.YtplmgfkghomelaaGreatDoorL1HostTurnsc
import Derived.Test.YtplmgfkghomelaaGreatDoorL1HostTurnsd
set_option linter.unusedVariables false
set_option linter.unusedSimpArgs false
namespace Go.Proofs.YtplmgfkghomelaaGreatDoor
open Go.Sx Go.ChangeShapes Go.WideShapes Go.ChangeAt Go.RowKit
theorem QQ{a b:Bool}(h1:a=true)(h2:b=true):(a&&b)=true:=by rw [h1,h2];rfl
set_option maxHeartbeats 40000000 in
theorem rN:joinedFacts Tryz.pinned.checked.prog 4 Tryz.f4 (OpenSpec.ofChange Rows.hostTurnsSpec).bare Rows.hostTurnsRow=true:=by unfold joinedFacts;(repeat' (with_reducible apply QQ));all_goals (first|with_reducible exact BZ|with_reducible exact B3|with_reducible exact B4|with_reducible exact B5|with_reducible exact B6|with_reducible exact B7|with_reducible exact B8|with_reducible exact B9|(as_aux_lemma=>kernel_rfl))
end Go.Proofs.YtplmgfkghomelaaGreatDoor

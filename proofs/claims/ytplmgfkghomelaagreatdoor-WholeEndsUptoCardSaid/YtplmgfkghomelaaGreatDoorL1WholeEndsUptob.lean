/- Lemmas. -/
import Derived.Test.YtplmgfkghomelaaGreatDoorL1WholeEndsUptoa
import Derived.Test.YtplmgfkghomelaaGreatDoorL1WholeEndsUptoc
import Derived.Test.YtplmgfkghomelaaGreatDoorL1WholeEndsUptod
set_option linter.all false
namespace Go.Proofs.YtplmgfkghomelaaGreatDoor
open Go.Sx Go.ChangeShapes Go.WideShapes Go.ChangeAt Go.RowKit
theorem RA{a b:Bool}(h:a=true)(c:b=true):(a&&b)=true:=by rw [h,c];rfl
set_option maxHeartbeats 40000000 in
theorem nT:joinedFacts Tryz.pinned.checked.prog 7 Tryz.f7 (Rows.OpenSpec.upto Rows.wholeEndsSpec).bare Rows.wholeEndsUptoRow=true:=by unfold joinedFacts;(repeat' (with_reducible apply RA));all_goals (first|with_reducible exact sQ|with_reducible exact sR|with_reducible exact sS|with_reducible exact sT|with_reducible exact sV|with_reducible exact sW|with_reducible exact sX|with_reducible exact sY|(as_aux_lemma=>kernel_rfl))
end Go.Proofs.YtplmgfkghomelaaGreatDoor

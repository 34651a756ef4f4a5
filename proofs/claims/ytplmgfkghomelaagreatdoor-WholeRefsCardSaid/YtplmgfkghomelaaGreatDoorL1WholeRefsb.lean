/- Lemmas. -/
import Derived.Test.YtplmgfkghomelaaGreatDoorL1WholeRefsa
import Derived.Test.YtplmgfkghomelaaGreatDoorL1WholeRefsc
import Derived.Test.YtplmgfkghomelaaGreatDoorL1WholeRefsd
set_option linter.all false
namespace Go.Proofs.YtplmgfkghomelaaGreatDoor
open Go.Sx Go.ChangeShapes Go.WideShapes Go.ChangeAt Go.RowKit
theorem SD{a b:Bool}(h:a=true)(c:b=true):(a&&b)=true:=by rw [h,c];rfl
set_option maxHeartbeats 40000000 in
theorem tm:joinedFacts Tryz.pinned.checked.prog 9 Tryz.f9 (OpenSpec.ofChange Rows.wholeRefsSpec).bare Rows.wholeRefsRow=true:=by unfold joinedFacts;(repeat' (with_reducible apply SD));all_goals (first|with_reducible exact CV|with_reducible exact CX|with_reducible exact CY|with_reducible exact CZ|with_reducible exact C1|with_reducible exact C2|with_reducible exact C3|with_reducible exact C4|(as_aux_lemma=>kernel_rfl))
end Go.Proofs.YtplmgfkghomelaaGreatDoor

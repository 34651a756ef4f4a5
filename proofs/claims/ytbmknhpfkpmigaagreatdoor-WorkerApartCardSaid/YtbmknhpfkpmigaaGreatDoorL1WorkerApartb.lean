/- Texts L1WorkerApartb of this proof. -/
import Derived.Test.YtbmknhpfkpmigaaGreatDoorL1WorkerAparta
set_option linter.unusedVariables false
set_option linter.unusedSimpArgs false
namespace Go.Proofs.YtbmknhpfkpmigaaGreatDoor
open Go.Sx Go.ChangeShapes Go.WideShapes Go.ChangeAt Go.RowKit
theorem zqc {a b : Bool} (h1 : a = true) (h2 : b = true) : (a && b) = true := by rw [h1, h2]; rfl
set_option maxHeartbeats 40000000 in
theorem zfK : joinedFacts Tryz.pinned.checked.prog 4 Tryz.f4 (OpenSpec.ofChange Rows.workerApartSpec).bare Rows.workerApartRow = true := by unfold joinedFacts; repeat' (with_reducible apply zqc); all_goals (as_aux_lemma => kernel_rfl)
end Go.Proofs.YtbmknhpfkpmigaaGreatDoor

/- Texts W1p17 of this proof. -/
import Derived.Test.YtbmknhpfkpmigaaGreatDoorW1p16
set_option linter.unusedVariables false
set_option linter.unusedSimpArgs false
set_option maxRecDepth 10000
set_option maxHeartbeats 4000000
namespace Go.Proofs.YtbmknhpfkpmigaaGreatDoor
open Go.Sx
end Go.Proofs.YtbmknhpfkpmigaaGreatDoor

/- Texts W1 of this proof. -/
import Derived.Test.YtbmknhpfkpmigaaGreatDoorProg
import Derived.Test.YtbmknhpfkpmigaaGreatDoorF1
import Derived.Test.YtbmknhpfkpmigaaGreatDoorEng8
import Derived.Test.YtbmknhpfkpmigaaGreatDoorEng4
import Derived.Test.YtbmknhpfkpmigaaGreatDoorArr
import Derived.Test.YtbmknhpfkpmigaaGreatDoorO1
import Derived.Test.YtbmknhpfkpmigaaGreatDoorW1p17
set_option linter.unusedVariables false
set_option linter.unusedSimpArgs false
set_option maxRecDepth 10000
set_option maxHeartbeats 4000000
namespace Go.Proofs.YtbmknhpfkpmigaaGreatDoor
open Go.Sx
end Go.Proofs.YtbmknhpfkpmigaaGreatDoor

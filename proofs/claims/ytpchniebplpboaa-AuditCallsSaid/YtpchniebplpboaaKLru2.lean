/- The bounded maps do the same. -/
import Derived.Test.YtpchniebplpboaaKLru
set_option linter.unusedVariables false
set_option linter.unusedSimpArgs false
namespace Go.Proofs.Ytpchniebplpboaa
open Go.Sx

end Go.Proofs.Ytpchniebplpboaa

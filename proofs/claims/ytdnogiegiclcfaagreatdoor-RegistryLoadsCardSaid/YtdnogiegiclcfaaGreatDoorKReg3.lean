/- The registry's operations, one by one: workers, retiring, settling. -/
import Derived.Test.YtdnogiegiclcfaaGreatDoorKReg2
set_option linter.unusedVariables false
set_option linter.unusedSimpArgs false
namespace Go.Proofs.YtdnogiegiclcfaaGreatDoor
open Go.Sx
variable {H M W n : Nat} {r : registry_Registry}

def withC (r : registry_Registry) (c : epoch_Clock) : registry_Registry := ⟨r.Table, r.Refs, c, r.hooks, r.maps, r.given, r.progs, r.waiting⟩
end Go.Proofs.YtdnogiegiclcfaaGreatDoor

/- The registry's operations, one by one: retiring and settling. -/
import Derived.Test.YtdnogiegiclcfaaGreatDoorKReg3
set_option linter.unusedVariables false
set_option linter.unusedSimpArgs false
namespace Go.Proofs.YtdnogiegiclcfaaGreatDoor
open Go.Sx
variable {H M W n : Nat} {r : registry_Registry}

def retired (r : registry_Registry) (p : Int) (x : registry_program) : registry_Registry :=
  ⟨r.Table, r.Refs, ⟨r.Clock.now + 1, r.Clock.in_⟩, r.hooks, r.maps, r.given, mset r.progs p ⟨x.module, r.Clock.now + 1⟩, r.waiting ++ [p]⟩
def safeP (r : registry_Registry) (p : Int) : Bool := match mget r.progs p with
  | some x => decide (∀ e ∈ r.Clock.in_, e = 0 ∨ x.retiring ≤ e)
  | none => false
def takeB (P : Int → Bool) (k : Int) : List Int → List Int
  | [] => []
  | x :: l => if 0 < k ∧ P x = true then x :: takeB P (k - 1) l else takeB P k l
def goneOf (r : registry_Registry) (most : Int) : List Int := takeB (safeP r) most r.waiting
end Go.Proofs.YtdnogiegiclcfaaGreatDoor

import Derived.Test.YtgmmfjpmahcocaaGreatDoorReg
set_option linter.unusedVariables false
set_option linter.unusedSimpArgs false
namespace Go.Sx
open Go.RowKit
section
variable {α : Type} {enc : α -> List Value} {sz : Nat}
end
section
variable {P : Program} {N : Nat} {Q : Exit -> Act -> World -> Prop} {fr fr' : List (Nat × Value)} {w w0 : World} {l : List Oper} {i : Nat} {o : Oper} {S0 : List Nat} {L : List Item} {α : Type} {enc : α -> List Value} {sz : Nat}
end
end Go.Sx

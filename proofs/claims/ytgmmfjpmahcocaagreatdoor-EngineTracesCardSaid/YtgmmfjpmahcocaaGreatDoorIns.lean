import Derived.Test.YtgmmfjpmahcocaaGreatDoorCuts
import Derived.Lib.Overlaps
import Derived.Lib.AppendZerosOnto
import Derived.Laws.Externs
set_option linter.unusedVariables false
set_option linter.unusedSimpArgs false
namespace Go.Sx
open Go.RowKit
section
variable {P : Program} {N : Nat} {Q : Exit -> Act -> World -> Prop} {fr fr' : List (Nat × Value)} {w w0 : World} {l : List Oper} {i : Nat} {o : Oper} {S0 : List Nat} {L : List Item} {α : Type} {enc : α -> List Value} {sz : Nat}
def zoq {α : Type} (xs : List α) (lo : Nat) (ys : List α) : List α := xs.take lo ++ ys.take (xs.length - lo) ++ xs.drop (lo + ys.length)
def znb (sz : Nat) : Nat -> List Value -> List (List Value)
 | 0, _ => []
 | n + 1, cs => cs.take sz :: znb sz n (cs.drop sz)
end
end Go.Sx

/- Interfaces: a value of one of several types; rows that are laid of data with memory; looks into maps; maps of flat values that are ranged over. -/
import Derived.Test.YtkgajppghpmkbaaDoorIns
set_option linter.unusedVariables false
set_option linter.unusedSimpArgs false
namespace Go.Sx
open Go.RowKit
section
variable {P : Program} {N : Nat} {Q : Exit → Act → World → Prop} {fr fr' : List (Nat × Value)} {w w0 : World} {l : List Oper} {i : Nat} {o : Oper} {S0 : List Nat} {L : List Item} {α β : Type} {A : Rp α} {B : Rp β} {hA : A.sz = 1} {hB : B.sz = 1} {v u : Value} {S : List Nat}
def looks (fr : List (Nat × Value)) : List Operand → Option (List Value)
  | [] => some []
  | x :: r => match look fr x, looks fr r with
    | some v, some vs => some (v :: vs)
    | _, _ => none
theorem St.optNil (h : St w0 S0 w L) (T : TypeId) (A : Rp α) : St w0 S0 w (L ++ [itI (optP T A) [.pointer none] [] none]) := h.push (Chg.refl _ _) ⟨rfl, rfl⟩ (fun b hb => by simp [itI] at hb) List.nodup_nil
end
end Go.Sx

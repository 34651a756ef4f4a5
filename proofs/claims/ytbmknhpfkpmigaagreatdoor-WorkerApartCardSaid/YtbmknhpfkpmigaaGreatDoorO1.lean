/- Texts O1 of this proof. -/
import Derived.Test.YtbmknhpfkpmigaaGreatDoorF1
set_option linter.unusedVariables false
set_option linter.unusedSimpArgs false
namespace Go.Proofs.YtbmknhpfkpmigaaGreatDoor
open Go.Sx
def Pst {α : Type} (o : Option α) (Q : α -> Prop) : Prop := ∀ r, o = some r -> Q r
theorem Pst.ret {α : Type} {x : α} {Q : α -> Prop} (h : Q x) : Pst (some x) Q := fun r e => by cases e; exact h
theorem Pst.bind {α β : Type} {o : Option α} {f : α -> Option β} {Q : β -> Prop} (h : ∀ x, Pst (f x) Q) : Pst (o.bind f) Q := fun r e => by
 obtain ⟨x, _, hx⟩ := zn e
 exact h x r hx
theorem Pst.ite {α : Type} {c : Bool} {A B : Option α} {Q : α -> Prop} (h1 : Pst A Q) (h2 : Pst B Q) : Pst (if c then A else B) Q := by
 cases c with
 | true => exact h1
 | false => exact h2
theorem zca {p0 : zh} {p1 : zc} {g0 : zk} {r : Int × zh × zk} (h : qP p0 p1 g0 = some r) : r.2.1.at_ = p0.at_ := by
 have : Pst (qP p0 p1 g0) (fun r => r.2.1.at_ = p0.at_) := by
  unfold qP
  refine Pst.ite (Pst.bind fun _ => Pst.bind fun _ => Pst.ret rfl) ?_
  refine Pst.ite (Pst.bind fun _ => Pst.bind fun _ => Pst.bind fun _ => Pst.ret rfl) ?_
  refine Pst.ite (Pst.bind fun _ => Pst.bind fun _ => Pst.bind fun _ => Pst.ret rfl) ?_
  refine Pst.ite (Pst.bind fun _ => Pst.ite (Pst.ret rfl) (Pst.ret rfl)) ?_
  refine Pst.ite (Pst.bind fun _ => Pst.ret rfl) ?_
  refine Pst.ite (Pst.ret rfl) ?_
  refine Pst.ite (Pst.bind fun _ => Pst.ite (Pst.bind fun _ => Pst.ret rfl) (Pst.bind fun _ => Pst.ret rfl)) ?_
  refine Pst.bind fun _ => Pst.bind fun _ => Pst.bind fun _ => Pst.ite (Pst.bind fun _ => Pst.ret rfl) (Pst.bind fun _ => Pst.bind fun _ => Pst.ite (Pst.ret rfl) (Pst.ret rfl))
 exact this r h
end Go.Proofs.YtbmknhpfkpmigaaGreatDoor

/- Texts O1 of this proof. -/
import Derived.Test.YtgmmfjpmahcocaaGreatDoorF1
set_option linter.unusedVariables false
set_option linter.unusedSimpArgs false
namespace Go.Proofs.YtgmmfjpmahcocaaGreatDoor
open Go.Sx
def Pst {α : Type} (o : Option α) (Q : α -> Prop) : Prop := ∀ r, o = some r -> Q r
theorem Pst.ret {α : Type} {x : α} {Q : α -> Prop} (h : Q x) : Pst (some x) Q := fun r e => by cases e; exact h
theorem Pst.bind {α β : Type} {o : Option α} {f : α -> Option β} {Q : β -> Prop} (h : ∀ x, Pst (f x) Q) : Pst (o.bind f) Q := fun r e => by
 obtain ⟨x, _, hx⟩ := bind_some' e
 exact h x r hx
theorem Pst.ite {α : Type} {c : Bool} {A B : Option α} {Q : α -> Prop} (h1 : Pst A Q) (h2 : Pst B Q) : Pst (if c then A else B) Q := by
 cases c with
 | true => exact h1
 | false => exact h2
theorem engine_Machine_run_keeps_at_ {p0 : engine_Machine} {p1 : api_Inst} {r : Int × engine_Machine} (h : engine_Machine_run p0 p1 = some r) : r.2.at_ = p0.at_ := by
 have : Pst (engine_Machine_run p0 p1) (fun r => r.2.at_ = p0.at_) := by
  unfold engine_Machine_run
  refine Pst.ite (Pst.bind fun _ => Pst.bind fun _ => Pst.ret rfl) ?_
  refine Pst.ite (Pst.bind fun _ => Pst.bind fun _ => Pst.bind fun _ => Pst.ret rfl) ?_
  refine Pst.ite (Pst.bind fun _ => Pst.bind fun _ => Pst.bind fun _ => Pst.ret rfl) ?_
  refine Pst.ite (Pst.bind fun _ => Pst.ite (Pst.ret rfl) (Pst.ret rfl)) ?_
  refine Pst.ite (Pst.bind fun _ => Pst.ret rfl) ?_
  refine Pst.ite (Pst.ret rfl) ?_
  refine Pst.ite (Pst.bind fun _ => Pst.ite (Pst.bind fun _ => Pst.ret rfl) (Pst.bind fun _ => Pst.ret rfl)) ?_
  refine Pst.bind fun _ => Pst.bind fun _ => Pst.bind fun _ => Pst.ite (Pst.bind fun _ => Pst.ret rfl) (Pst.bind fun _ => Pst.bind fun _ => Pst.ite (Pst.ret rfl) (Pst.ret rfl))
 exact this r h

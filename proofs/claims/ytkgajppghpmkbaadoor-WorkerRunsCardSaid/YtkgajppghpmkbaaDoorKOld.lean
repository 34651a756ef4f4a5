/- The machine with its scratch within (the form that the engine's texts are written for), and what stands between the two forms. -/
import Derived.Test.YtkgajppghpmkbaaDoorF1
set_option linter.unusedVariables false
set_option linter.unusedSimpArgs false
namespace Go.Proofs.YtkgajppghpmkbaaDoor
open Go.Sx

structure EM where
  Event : api_Event
  module : api_Module
  scratch : scratch_Scratch
  regs : Nat → Int
  turns : Nat → Int
  at_ : Int
  steps : Int
  state : Int

def EM_call (fu : Nat) (p0 : EM) (p1 : Int) : Option (api_Act × EM) :=
  (sigs_Asks p1).bind fun r29 =>
  if r29.2 then
    (idx p0.module.Maps (p0.regs 1)).bind fun x49 =>
    (sigs_Args fu p1).bind fun r64 =>
    (if decide (((r64).length : Int) > 2) then
      some (p0.regs 3)
    else
      some 0).bind fun o78 =>
    some ((api_Act.mk 2 p0.at_ (api_Item.mk x49 r29.1 (p0.regs 2) o78) 0), (EM.mk p0.Event p0.module p0.scratch p0.regs p0.turns p0.at_ p0.steps 1))
  else
    (if (p1 == 5) then
      (scratch_Counters_Mark p0.scratch.Counters (w64 (p0.regs 1))).bind fun r133 =>
      some ((EM.mk p0.Event p0.module (scratch_Scratch.mk p0.scratch.Words r133.2.2) (aset p0.regs 0 r133.1) p0.turns p0.at_ p0.steps p0.state), (api_Act.mk 1 p0.at_ (api_Item.mk 0 0 0 0) r133.1))
    else
      some ((EM.mk p0.Event p0.module p0.scratch (aset p0.regs 0 0) p0.turns p0.at_ p0.steps p0.state), (api_Act.mk 3 p0.at_ (api_Item.mk 0 0 0 0) (p0.regs 1)))).bind fun o121 =>
    some (o121.2, (EM.mk o121.1.Event o121.1.module o121.1.scratch o121.1.regs o121.1.turns (w64 (o121.1.at_ + 1)) o121.1.steps o121.1.state))

def EM_source (p0 : EM) (p1 : api_Inst) : Option Int :=
  if (p1.B == 8) then
    some (wu64 p1.Imm)
  else
    (ain 8 p1.B).bind fun i12 =>
    some (p0.regs i12)

def EM_run (p0 : EM) (p1 : api_Inst) : Option (Int × EM) :=
  if (p1.Op == 0) then
    (EM_source p0 p1).bind fun r31 =>
    (ain 8 p1.D).bind fun i35 =>
    some (1, (EM.mk p0.Event p0.module p0.scratch (aset p0.regs i35 r31) p0.turns p0.at_ p0.steps p0.state))
  else
    if (p1.Op == 11) then
      (EM_source p0 p1).bind fun r68 =>
      (scratch_Words_Load p0.scratch.Words (w64 r68)).bind fun r72 =>
      (ain 8 p1.D).bind fun i76 =>
      some (1, (EM.mk p0.Event p0.module p0.scratch (aset p0.regs i76 r72.1) p0.turns p0.at_ p0.steps p0.state))
    else
      if (p1.Op == 12) then
        (ain 8 p1.A).bind fun i108 =>
        (EM_source p0 p1).bind fun r110 =>
        (scratch_Words_Store p0.scratch.Words (w64 r110) (p0.regs i108)).bind fun r114 =>
        some (1, (EM.mk p0.Event p0.module (scratch_Scratch.mk r114.2 p0.scratch.Counters) p0.regs p0.turns p0.at_ p0.steps p0.state))
      else
        if (p1.Op == 13) then
          (ain 8 p1.D).bind fun i140 =>
          if (p1.Imm == 1) then
            some (1, (EM.mk p0.Event p0.module p0.scratch (aset (aset p0.regs i140 p0.Event.A) i140 p0.Event.B) p0.turns p0.at_ p0.steps p0.state))
          else
            some (1, (EM.mk p0.Event p0.module p0.scratch (aset p0.regs i140 p0.Event.A) p0.turns p0.at_ p0.steps p0.state))
        else
          if (p1.Op == 14) then
            (ain 8 p1.D).bind fun i173 =>
            some (1, (EM.mk p0.Event p0.module p0.scratch (aset p0.regs i173 (wu64 p1.Imm)) p0.turns p0.at_ p0.steps p0.state))
          else
            if (p1.Op == 15) then
              some (w64 (p1.D + 1), p0)
            else
              if (p1.Op == 20) then
                ((ain 8 p1.A).bind fun i210 =>
                if ((p0.regs i210) != 0) then
                  (ain 64 p0.at_).bind fun i213 =>
                  some (decide ((p0.turns i213) < p1.Imm))
                else
                  some false).bind fun o206 =>
                if o206 then
                  (ain 64 p0.at_).bind fun i238 =>
                  some (w64 (0 - p1.D), (EM.mk p0.Event p0.module p0.scratch p0.regs (aset p0.turns i238 (w64 ((p0.turns i238) + 1))) p0.at_ p0.steps p0.state))
                else
                  (ain 64 p0.at_).bind fun i262 =>
                  some (1, (EM.mk p0.Event p0.module p0.scratch p0.regs (aset p0.turns i262 0) p0.at_ p0.steps p0.state))
              else
                (ain 8 p1.A).bind fun i293 =>
                (EM_source p0 p1).bind fun r295 =>
                (arith_Do p1.Op (p0.regs i293) r295).bind fun r299 =>
                if r299.2 then
                  (ain 8 p1.D).bind fun i311 =>
                  some (1, (EM.mk p0.Event p0.module p0.scratch (aset p0.regs i311 r299.1) p0.turns p0.at_ p0.steps p0.state))
                else
                  (EM_source p0 p1).bind fun r327 =>
                  (arith_Holds p1.Op (p0.regs i293) r327).bind fun r331 =>
                  if r331.1 then
                    some (w64 (p1.D + 1), p0)
                  else
                    some (1, p0)

def EM_Step (fu : Nat) (p0 : EM) : Option (api_Act × EM) :=
  if (p0.state == 1) then
    some ((api_Act.mk 5 p0.at_ (api_Item.mk 0 0 0 0) 0), p0)
  else
    if (p0.state == 2) then
      (idx p0.module.Code p0.at_).bind fun x37 =>
      (ain 8 x37.A).bind fun i43 =>
      some ((api_Act.mk 6 p0.at_ (api_Item.mk 0 0 0 0) (p0.regs i43)), p0)
    else
      (idx p0.module.Code p0.at_).bind fun x62 =>
      if (x62.Op == 21) then
        (EM_call fu (EM.mk p0.Event p0.module p0.scratch p0.regs p0.turns p0.at_ (w64 (p0.steps + 1)) p0.state) x62.Imm).bind fun r80 =>
        some (r80.1, r80.2)
      else
        if (x62.Op == 22) then
          (ain 8 x62.A).bind fun i96 =>
          some ((api_Act.mk 4 p0.at_ (api_Item.mk 0 0 0 0) (p0.regs i96)), (EM.mk p0.Event p0.module p0.scratch p0.regs p0.turns p0.at_ (w64 (p0.steps + 1)) 2))
        else
          (EM_run (EM.mk p0.Event p0.module p0.scratch p0.regs p0.turns p0.at_ (w64 (p0.steps + 1)) p0.state) x62).bind fun r132 =>
          some ((api_Act.mk 1 p0.at_ (api_Item.mk 0 0 0 0) 0), (EM.mk r132.2.Event r132.2.module r132.2.scratch r132.2.regs r132.2.turns (w64 (p0.at_ + r132.1)) r132.2.steps r132.2.state))

def EM_Answer (p0 : EM) (p1 : api_Res) : Option (Int × EM) :=
  if (p0.state != 1) then
    some (2, p0)
  else
    (idx p0.module.Code p0.at_).bind fun x36 =>
    (sigs_Value x36.Imm p1).bind fun r42 =>
    some (0, (EM.mk p0.Event p0.module p0.scratch (aset p0.regs 0 r42) p0.turns (w64 (p0.at_ + 1)) p0.steps 0))

def pk (M : engine_Machine) (S : scratch_Scratch) : EM := ⟨M.Event, M.module, S, M.regs, M.turns, M.at_, M.steps, M.state⟩
theorem Br.ite {α β : Type} {f : α → β} {c : Bool} {A B : Option β} {A' B' : Option α} (h1 : A = A'.map f) (h2 : B = B'.map f) : (if c then A else B) = (if c then A' else B').map f := by
  cases c with
  | true => exact h1
  | false => exact h2
theorem Br.bind {α β γ : Type} {f : α → β} {o : Option γ} {A : γ → Option β} {A' : γ → Option α} (h : ∀ x, A x = (A' x).map f) : o.bind A = (o.bind A').map f := by
  cases o with
  | none => rfl
  | some x => exact h x
theorem Br.bind2 {α β γ δ : Type} {f : α → β} {g : γ → δ} {o : Option δ} {o' : Option γ} {A : δ → Option β} {A' : γ → Option α} (ho : o = o'.map g) (h : ∀ x, A (g x) = (A' x).map f) : o.bind A = (o'.bind A').map f := by
  subst ho
  cases o' with
  | none => rfl
  | some x => exact h x
def pk2 {α : Type} (r : α × engine_Machine × scratch_Scratch) : α × EM := (r.1, pk r.2.1 r.2.2)
theorem run_br (M : engine_Machine) (S : scratch_Scratch) (i : api_Inst) : EM_run (pk M S) i = (engine_Machine_run M i S).map pk2 := by
  unfold EM_run engine_Machine_run
  refine Br.ite (Br.bind fun _ => Br.bind fun _ => rfl) ?_
  refine Br.ite (Br.bind fun _ => Br.bind fun _ => Br.bind fun _ => rfl) ?_
  refine Br.ite (Br.bind fun _ => Br.bind fun _ => Br.bind fun _ => rfl) ?_
  refine Br.ite (Br.bind fun _ => Br.ite rfl rfl) ?_
  refine Br.ite (Br.bind fun _ => rfl) ?_
  refine Br.ite rfl ?_
  refine Br.ite (Br.bind fun _ => Br.ite (Br.bind fun _ => rfl) (Br.bind fun _ => rfl)) ?_
  exact Br.bind fun _ => Br.bind fun _ => Br.bind fun _ => Br.ite (Br.bind fun _ => rfl) (Br.bind fun _ => Br.bind fun _ => Br.ite rfl rfl)
theorem call_br (fu : Nat) (M : engine_Machine) (S : scratch_Scratch) (k : Int) : EM_call fu (pk M S) k = (engine_Machine_call fu M k S).map pk2 := by
  unfold EM_call engine_Machine_call
  refine Br.bind fun _ => Br.ite (Br.bind fun _ => Br.bind fun _ => Br.bind fun _ => rfl) ?_
  exact Br.bind2 (g := fun o : engine_Machine × scratch_Scratch × api_Act => (pk o.1 o.2.1, o.2.2)) (Br.ite (Br.bind fun _ => rfl) rfl) (fun _ => rfl)
theorem step_br (fu : Nat) (M : engine_Machine) (S : scratch_Scratch) : EM_Step fu (pk M S) = (engine_Machine_Step fu M S).map pk2 := by
  unfold EM_Step engine_Machine_Step
  refine Br.ite rfl (Br.ite (Br.bind fun _ => Br.bind fun _ => rfl) (Br.bind fun _ => Br.ite ?_ (Br.ite (Br.bind fun _ => rfl) ?_)))
  · exact Br.bind2 (g := pk2) (call_br fu ⟨M.Event, M.module, M.regs, M.turns, M.at_, w64 (M.steps + 1), M.state⟩ S _) (fun _ => rfl)
  · exact Br.bind2 (g := pk2) (run_br ⟨M.Event, M.module, M.regs, M.turns, M.at_, w64 (M.steps + 1), M.state⟩ S _) (fun _ => rfl)
theorem answer_br (M : engine_Machine) (S : scratch_Scratch) (r : api_Res) : EM_Answer (pk M S) r = (engine_Machine_Answer M r S).map (fun x => (x.1, pk x.2 S)) := by
  unfold EM_Answer engine_Machine_Answer
  exact Br.ite rfl (Br.bind fun _ => Br.bind fun _ => rfl)
end Go.Proofs.YtkgajppghpmkbaaDoor

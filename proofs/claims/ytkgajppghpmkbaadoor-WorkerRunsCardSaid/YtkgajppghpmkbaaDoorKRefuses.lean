/- WorkerRefuses: the plain law. -/
import Derived.Test.YtkgajppghpmkbaaDoorKWk
set_option linter.unusedVariables false
set_option linter.unusedSimpArgs false
namespace Go.Proofs.YtkgajppghpmkbaaDoor
open Go.Sx

structure WI (m : api_Module) (w : worker_Worker) : Prop where
  told : AllU w.Stats
  hook : 0 ≤ w.job.hook ∧ w.job.hook < 4
  ev : u64 w.job.event.Event.A ∧ u64 w.job.event.Event.B
  is : w.mode_ = 0 ∨ w.mode_ = 1 ∨ (w.mode_ = 2 ∧ ∃ M j p, w.job.machine = some M ∧ Sound m j ∧ Run m j (pk M w.Scratch) p ∧ M.state = 0) ∨
    (w.mode_ = 3 ∧ ∃ M j p i, w.job.machine = some M ∧ Sound m j ∧ Run m j (pk M w.Scratch) p ∧ M.state = 1 ∧ m.Code[p]? = some i ∧ i.Op = 21 ∧ i.Imm ≤ 4)
theorem u5z : U5 ⟨0, 0, 0, 0, 0⟩ := ⟨⟨by decide, by decide⟩, ⟨by decide, by decide⟩, ⟨by decide, by decide⟩, ⟨by decide, by decide⟩, by decide, by decide⟩
theorem h04 : (0 : Int) ≤ 0 ∧ (0 : Int) < 4 := by decide
theorem z64 : u64 0 ∧ u64 0 := ⟨⟨by decide, by decide⟩, by decide, by decide⟩
theorem WI.new (m : api_Module) : ∃ w, worker_New = some w ∧ WI m w ∧ w.mode_ = 0 := by
  refine ⟨_, rfl, ⟨fun i => ?_, h04, z64, .inl rfl⟩, rfl⟩
  exact u5z
theorem Take_on {w : worker_Worker} {h : Int} {q : api_Queued} (h0 : 0 ≤ h) (h1 : h < 4) : worker_Worker_Take w h q = some (if w.mode_ = 0 then (0, ⟨w.Scratch, w.Stats, 1, ⟨h, q, 0, 0, 0, none⟩⟩) else (42, w)) := by
  unfold worker_Worker_Take
  rw [if_neg (by simp; omega)]
  by_cases e : w.mode_ = 0
  · rw [if_neg (by simp [e]), if_pos e]
  · rw [if_pos (by simpa using e), if_neg e]
theorem Enter_bad {w : worker_Worker} (h : w.mode_ = 1) {m : api_Module} {o : Option judge_judge} {q e : Int} (hj : judge_judged 1000 m = some (o, q, e)) (he : e ≠ 0) (v p : Int) : worker_Worker_Enter 1000 w v p m = some (e, w) := by
  unfold worker_Worker_Enter
  rw [if_neg (by simp [h]), enew_bad hj he]
  simp only [Option.bind_some]
  show (if (e != 0) = true then _ else _) = _
  rw [if_pos (by simpa using he)]
theorem Enter_good {w : worker_Worker} (h : w.mode_ = 1) {m : api_Module} (h1 : m.Maps.length * 8 ≤ 140737488355328) (h2 : m.Code.length * 40 ≤ 140737488355328) {o : Option judge_judge} (hj : judge_judged 1000 m = some (o, 0, 0)) (v p : Int) :
    worker_Worker_Enter 1000 w v p m = some (0, ⟨⟨⟨fun _ => 0⟩, w.Scratch.Counters⟩, w.Stats, 2, ⟨w.job.hook, w.job.event, v, p, w.job.calls, some (newE m w.job.event.Event)⟩⟩) := by
  unfold worker_Worker_Enter
  rw [if_neg (by simp [h]), enew_good h1 h2 hj]
  rfl
theorem Skip_off {w : worker_Worker} (h : w.mode_ ≠ 1) : worker_Worker_Skip w = some (41, w) := by
  unfold worker_Worker_Skip
  rw [if_pos (by simpa using h)]
theorem Skip_on {w : worker_Worker} (h : w.mode_ = 1) (h0 : 0 ≤ w.job.hook) (h1 : w.job.hook < 4) : worker_Worker_Skip w = some (0, ⟨w.Scratch, ⟨aset w.Stats.hooks w.job.hook.toNat (missed (w.Stats.hooks w.job.hook.toNat))⟩, 0, ⟨0, ⟨0, ⟨0, 0⟩⟩, 0, 0, 0, none⟩⟩) := by
  unfold worker_Worker_Skip
  rw [if_neg (by simp [h]), Missed_eq h0 h1]
  rfl
theorem Answer_off {w : worker_Worker} (h : w.mode_ ≠ 3) (r : api_Res) : worker_Worker_Answer w r = some (41, w) := by
  unfold worker_Worker_Answer
  rw [if_pos (by simpa using h)]
theorem Step_off {w : worker_Worker} (h : w.mode_ ≠ 2) : worker_Worker_Step 1000 w = some (⟨0, 0, ⟨0, 0, 0, 0⟩, 0⟩, false, w) := by
  unfold worker_Worker_Step
  rw [if_pos (by simpa using h)]
theorem WI.step {m : api_Module} {w : worker_Worker} (h : WI m w) (h2 : w.mode_ = 2) : ∃ a w', worker_Worker_Step 1000 w = some (a, true, w') ∧ WI m w' := by
  obtain ⟨M, j, p, hM, hS, hR, h0⟩ : ∃ M j p, w.job.machine = some M ∧ Sound m j ∧ Run m j (pk M w.Scratch) p ∧ M.state = 0 := by
    rcases h.is with e | e | e | e
    · omega
    · omega
    · exact e.2
    · omega
  obtain ⟨i, hi, _⟩ := idx_lt hR.lt
  obtain ⟨⟨a, M1'⟩, h1, hst, hpc⟩ := step_ok' hS hR h0 hi
  obtain ⟨M1, S1, g1, rfl⟩ := step_get h1
  simp only at g1
  unfold worker_Worker_Step
  rw [if_neg (by simp [h2]), hM]
  simp only [Option.bind_some, g1]
  cases hst with
  | ends e1 e2 e3 e4 =>
    simp only at e2
    rw [if_neg (by simp [e2]), if_pos (by simp [e2])]
    unfold engine_Machine_Steps
    simp only [Option.bind_some]
    rw [Ran_eq h.hook.1 h.hook.2 (h.told _)]
    simp only [Option.bind_some]
    exact ⟨a, _, rfl, ⟨h.told.aset _ (u5_added _ _), h04, z64, .inl rfl⟩⟩
  | asks e1 e2 e3 e4 e5 e6 e7 =>
    simp only at e3 e4 e5
    rw [if_pos (by simp [e3])]
    exact ⟨a, _, rfl, ⟨h.told, h.hook, h.ev, .inr (.inr (.inr ⟨rfl, M1, j, p, i, rfl, hS, e5, e4, hi, e1, e2⟩))⟩⟩
  | goes e1 e2 e3 =>
    simp only at e1 e2 e3
    obtain ⟨q, hR2, _, _⟩ := e3
    rw [if_neg (by simp; omega), if_neg (by simp; omega)]
    exact ⟨a, _, rfl, ⟨h.told, h.hook, h.ev, .inr (.inr (.inl ⟨h2, M1, j, q, rfl, hS, hR2, e2⟩))⟩⟩
theorem run0w {m : api_Module} {j : judge_judge} (hS : Sound m j) {E : api_Event} (hE : u64 E.A ∧ u64 E.B) (C : scratch_Counters) : Run m j (pk (newE m E) ⟨⟨fun _ => 0⟩, C⟩) 0 := run0 hS hE C
def Out (m : api_Module) (w : worker_Worker) (o : worker_Worker × Int × Bool × Bool) : Prop := (o.2.2.1 && (o.2.1 == 0)) = o.2.2.2 ∧ WI m o.1 ∧ (o.2.2.2 = false → o.1.mode_ = w.mode_ ∧ o.1.job = w.job)
end Go.Proofs.YtkgajppghpmkbaaDoor

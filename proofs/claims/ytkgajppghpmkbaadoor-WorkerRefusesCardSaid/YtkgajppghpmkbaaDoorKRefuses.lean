/- WorkerRefuses: the plain law. -/
import Derived.Test.YtkgajppghpmkbaaDoorKWk
set_option linter.unusedVariables false
set_option linter.unusedSimpArgs false
namespace Go.Proofs.YtkgajppghpmkbaaDoor
open Go.Sx

structure WI (m : api_Module) (w : worker_Worker) : Prop where
  told : AllU w.Stats
  hook : 0 ≤ w.job.hook ∧ w.job.hook < 4
  ev : u64 w.job.event.Event.A ∧ u64 w.job.event.Event.B
  is : w.mode_ = 0 ∨ w.mode_ = 1 ∨ (w.mode_ = 2 ∧ ∃ M j p, w.job.machine = some M ∧ Sound m j ∧ Run m j (pk M w.Scratch) p ∧ M.state = 0) ∨
    (w.mode_ = 3 ∧ ∃ M j p i, w.job.machine = some M ∧ Sound m j ∧ Run m j (pk M w.Scratch) p ∧ M.state = 1 ∧ m.Code[p]? = some i ∧ i.Op = 21 ∧ i.Imm ≤ 4)
theorem u5z : U5 ⟨0, 0, 0, 0, 0⟩ := ⟨⟨by decide, by decide⟩, ⟨by decide, by decide⟩, ⟨by decide, by decide⟩, ⟨by decide, by decide⟩, by decide, by decide⟩
theorem h04 : (0 : Int) ≤ 0 ∧ (0 : Int) < 4 := by decide
theorem h24 : (0 : Int) ≤ 2 ∧ (2 : Int) < 4 := by decide
theorem z64 : u64 0 ∧ u64 0 := ⟨⟨by decide, by decide⟩, by decide, by decide⟩
theorem WI.new (m : api_Module) : ∃ w, worker_New = some w ∧ WI m w ∧ w.mode_ = 0 := by
  refine ⟨_, rfl, ⟨fun i => ?_, h04, z64, .inl rfl⟩, rfl⟩
  exact u5z
theorem Take_on {w : worker_Worker} {h : Int} {q : api_Queued} (h0 : 0 ≤ h) (h1 : h < 4) : worker_Worker_Take w h q = some (if w.mode_ = 0 then (0, ⟨w.Scratch, w.Stats, 1, ⟨h, q, 0, 0, 0, none⟩⟩) else (42, w)) := by
  unfold worker_Worker_Take
  rw [if_neg (by simp; omega)]
  by_cases e : w.mode_ = 0
  · rw [if_neg (by simp [e]), if_pos e]
  · rw [if_pos (by simpa using e), if_neg e]
theorem Take_off {w : worker_Worker} {h : Int} {q : api_Queued} (h0 : h < 0 ∨ 4 ≤ h) : worker_Worker_Take w h q = some (2, w) := by
  unfold worker_Worker_Take
  rw [if_pos (by simp; omega)]
theorem Enter_off {fu : Nat} {w : worker_Worker} (h : w.mode_ ≠ 1) (v p : Int) (m : api_Module) : worker_Worker_Enter fu w v p m = some (41, w) := by
  unfold worker_Worker_Enter
  rw [if_pos (by simpa using h)]
theorem Enter_bad {w : worker_Worker} (h : w.mode_ = 1) {m : api_Module} {o : Option judge_judge} {q e : Int} (hj : judge_judged 1000 m = some (o, q, e)) (he : e ≠ 0) (v p : Int) : worker_Worker_Enter 1000 w v p m = some (e, w) := by
  unfold worker_Worker_Enter
  rw [if_neg (by simp [h]), enew_bad hj he]
  simp only [Option.bind_some]
  show (if (e != 0) = true then _ else _) = _
  rw [if_pos (by simpa using he)]
theorem Enter_good {w : worker_Worker} (h : w.mode_ = 1) {m : api_Module} (h1 : m.Maps.length * 8 ≤ 140737488355328) (h2 : m.Code.length * 40 ≤ 140737488355328) {o : Option judge_judge} (hj : judge_judged 1000 m = some (o, 0, 0)) (v p : Int) :
    worker_Worker_Enter 1000 w v p m = some (0, ⟨⟨⟨fun _ => 0⟩, w.Scratch.Counters⟩, w.Stats, 2, ⟨w.job.hook, w.job.event, v, p, w.job.calls, some (newE m w.job.event.Event)⟩⟩) := by
  unfold worker_Worker_Enter
  rw [if_neg (by simp [h]), enew_good h1 h2 hj]
  rfl
theorem Skip_off {w : worker_Worker} (h : w.mode_ ≠ 1) : worker_Worker_Skip w = some (41, w) := by
  unfold worker_Worker_Skip
  rw [if_pos (by simpa using h)]
theorem Skip_on {w : worker_Worker} (h : w.mode_ = 1) (h0 : 0 ≤ w.job.hook) (h1 : w.job.hook < 4) : worker_Worker_Skip w = some (0, ⟨w.Scratch, ⟨aset w.Stats.hooks w.job.hook.toNat (missed (w.Stats.hooks w.job.hook.toNat))⟩, 0, ⟨0, ⟨0, ⟨0, 0⟩⟩, 0, 0, 0, none⟩⟩) := by
  unfold worker_Worker_Skip
  rw [if_neg (by simp [h]), Missed_eq h0 h1]
  rfl
theorem Answer_off {w : worker_Worker} (h : w.mode_ ≠ 3) (r : api_Res) : worker_Worker_Answer w r = some (41, w) := by
  unfold worker_Worker_Answer
  rw [if_pos (by simpa using h)]
theorem Step_off {w : worker_Worker} (h : w.mode_ ≠ 2) : worker_Worker_Step 1000 w = some (⟨0, 0, ⟨0, 0, 0, 0⟩, 0⟩, false, w) := by
  unfold worker_Worker_Step
  rw [if_pos (by simpa using h)]
theorem WI.step {m : api_Module} {w : worker_Worker} (h : WI m w) (h2 : w.mode_ = 2) : ∃ a w', worker_Worker_Step 1000 w = some (a, true, w') ∧ WI m w' := by
  obtain ⟨M, j, p, hM, hS, hR, h0⟩ : ∃ M j p, w.job.machine = some M ∧ Sound m j ∧ Run m j (pk M w.Scratch) p ∧ M.state = 0 := by
    rcases h.is with e | e | e | e
    · omega
    · omega
    · exact e.2
    · omega
  obtain ⟨i, hi, _⟩ := idx_lt hR.lt
  obtain ⟨⟨a, M1'⟩, h1, hst, hpc⟩ := step_ok' hS hR h0 hi
  obtain ⟨M1, S1, g1, rfl⟩ := step_get h1
  simp only at g1
  unfold worker_Worker_Step
  rw [if_neg (by simp [h2]), hM]
  simp only [Option.bind_some, g1]
  cases hst with
  | ends e1 e2 e3 e4 =>
    simp only at e2
    rw [if_neg (by simp [e2]), if_pos (by simp [e2])]
    unfold engine_Machine_Steps
    simp only [Option.bind_some]
    rw [Ran_eq h.hook.1 h.hook.2 (h.told _)]
    simp only [Option.bind_some]
    exact ⟨a, _, rfl, ⟨h.told.aset _ (u5_added _ _), h04, z64, .inl rfl⟩⟩
  | asks e1 e2 e3 e4 e5 e6 e7 =>
    simp only at e3 e4 e5
    rw [if_pos (by simp [e3])]
    exact ⟨a, _, rfl, ⟨h.told, h.hook, h.ev, .inr (.inr (.inr ⟨rfl, M1, j, p, i, rfl, hS, e5, e4, hi, e1, e2⟩))⟩⟩
  | goes e1 e2 e3 =>
    simp only at e1 e2 e3
    obtain ⟨q, hR2, _, _⟩ := e3
    rw [if_neg (by simp; omega), if_neg (by simp; omega)]
    exact ⟨a, _, rfl, ⟨h.told, h.hook, h.ev, .inr (.inr (.inl ⟨h2, M1, j, q, rfl, hS, hR2, e2⟩))⟩⟩
theorem WI.answer {m : api_Module} {w : worker_Worker} (h : WI m w) (h3 : w.mode_ = 3) {c : api_Res} (hc : u64 c.Val) : ∃ w', worker_Worker_Answer w c = some (0, w') ∧ WI m w' := by
  obtain ⟨M, j, p, i, hM, hS, hR, h0, hi, ho, h4⟩ : ∃ M j p i, w.job.machine = some M ∧ Sound m j ∧ Run m j (pk M w.Scratch) p ∧ M.state = 1 ∧ m.Code[p]? = some i ∧ i.Op = 21 ∧ i.Imm ≤ 4 := by
    rcases h.is with e | e | e | e
    · omega
    · omega
    · omega
    · exact e.2
  obtain ⟨⟨e, M1'⟩, h1, he, s0, q, hR2, _, _⟩ := answer_ok hS hR h0 hi ho h4 hc
  obtain ⟨M1, g1, rfl⟩ := answer_get h1
  simp only at g1 he s0 hR2
  subst he
  unfold worker_Worker_Answer
  rw [if_neg (by simp [h3]), hM]
  simp only [Option.bind_some, g1]
  exact ⟨_, rfl, ⟨h.told, h.hook, h.ev, .inr (.inr (.inl ⟨rfl, M1, j, q, rfl, hS, hR2, s0⟩))⟩⟩
theorem run0w {m : api_Module} {j : judge_judge} (hS : Sound m j) {E : api_Event} (hE : u64 E.A ∧ u64 E.B) (C : scratch_Counters) : Run m j (pk (newE m E) ⟨⟨fun _ => 0⟩, C⟩) 0 := run0 hS hE C
def Out (m : api_Module) (w : worker_Worker) (o : worker_Worker × Int × Bool × Bool) : Prop := (o.2.2.1 && (o.2.1 == 0)) = o.2.2.2 ∧ WI m o.1 ∧ (o.2.2.2 = false → o.1.mode_ = w.mode_ ∧ o.1.job = w.job)
theorem refuses_l1 (p0 : tappetlaw23_Event) (p1 : List Int) (h1 : p0.M.Maps.length * 8 ≤ 140737488355328) (h2 : p0.M.Code.length * 40 ≤ 140737488355328) (hE : u64 p0.E.A ∧ u64 p0.E.B) {w : worker_Worker} (hw : WI p0.M w) :
    OK (loop (tappetlaw23_WorkerRefuses_l1 1000 p0 p1) 1000 (w, 0)) (fun o => ∃ w', o = Sum.inl w' ∧ True) := by
  refine OK.rounds (fun (s : worker_Worker × Int) => WI p0.M s.1 ∧ 0 ≤ s.2 ∧ s.2 ≤ 200) (fun s => (200 - s.2).toNat) (fun s again hI k => ?_) 1000 _ ⟨hw, Int.le_refl 0, (by omega : (0 : Int) ≤ 200)⟩ (by show (200 - 0 : Int).toNat < 1000; decide)
  obtain ⟨w, x⟩ := s
  obtain ⟨hI, hx0, hx⟩ := hI
  simp only at hI hx0 hx
  unfold tappetlaw23_WorkerRefuses_l1
  refine OK.ite (fun hc => ?_) (fun _ => OK.ret ⟨_, rfl, trivial⟩)
  simp only [Bool.and_eq_true, decide_eq_true_eq] at hc
  show OK ((worker_Worker_Mode w).bind _) _
  unfold worker_Worker_Mode worker_Worker_Has worker_Worker_Runs
  simp only [Option.bind_some]
  refine OK.bind (OK.get (by simpa using hx0) hc.1 (fun c _ => ?_))
  refine OK.bind2 (R := Out p0.M w) ?_ (fun o ho => ?_)
  · refine OK.ite (fun _ => ?_) (fun _ => OK.ite (fun _ => ?_) (fun _ => OK.ite (fun _ => ?_) (fun _ => OK.ite (fun _ => ?_) (fun _ => ?_))))
    · rw [Take_on (by decide) (by decide)]
      refine OK.ret ?_
      by_cases e : w.mode_ = 0
      · rw [if_pos e]
        exact ⟨by simp [e], ⟨hI.told, h24, hE, .inr (.inl rfl)⟩, fun hf => by simp [e] at hf⟩
      · rw [if_neg e]
        exact ⟨by simp [e], hI, fun _ => ⟨rfl, rfl⟩⟩
    · rw [copied_w _ h1 h2]
      simp only [Option.bind_some]
      obtain ⟨o, p, e, hj, hc⟩ := judged_cases p0.M
      rw [Judge_eq hj]
      simp only [Option.bind_some]
      by_cases e1 : w.mode_ = 1
      · rcases hc with ⟨he, _⟩ | ⟨rfl, rfl, j, rfl, hS⟩
        · rw [Enter_bad e1 hj he]
          simp only [Option.bind_some]
          refine OK.ite_true (by simp [e1]) (OK.ret ⟨by simp [he], hI, fun _ => ⟨rfl, rfl⟩⟩)
        · rw [Enter_good e1 h1 h2 hj]
          simp only [Option.bind_some]
          refine OK.ite_true (by simp [e1]) (OK.ret ⟨rfl, ⟨hI.told, hI.hook, hI.ev, .inr (.inr (.inl ⟨rfl, _, j, 0, rfl, hS, run0w hS hI.ev _, rfl⟩))⟩, fun hf => by cases hf⟩)
      · rw [Enter_off e1]
        simp only [Option.bind_some]
        exact OK.ite_false (by simp [e1]) (OK.ret ⟨rfl, hI, fun _ => ⟨rfl, rfl⟩⟩)
    · by_cases e1 : w.mode_ = 1
      · rw [Skip_on e1 hI.hook.1 hI.hook.2]
        exact OK.ret ⟨by simp [e1], ⟨hI.told.aset _ (u5_missed (hI.told _)), h04, z64, .inl rfl⟩, fun hf => by simp [e1] at hf⟩
      · rw [Skip_off e1]
        exact OK.ret ⟨by simp [e1], hI, fun _ => ⟨rfl, rfl⟩⟩
    · by_cases e1 : w.mode_ = 3
      · obtain ⟨w', a, b⟩ := hI.answer e1 (c := ⟨0, false, 4, false, 0, 0⟩) ⟨by decide, by decide⟩
        rw [a]
        exact OK.ret ⟨by simp [e1], b, fun hf => by simp [e1] at hf⟩
      · rw [Answer_off e1]
        exact OK.ret ⟨by simp [e1], hI, fun _ => ⟨rfl, rfl⟩⟩
    · by_cases e1 : w.mode_ = 2
      · obtain ⟨a, w', b, c⟩ := hI.step e1
        rw [b]
        exact OK.ret ⟨by simp [e1], c, fun hf => by simp [e1] at hf⟩
      · rw [Step_off e1]
        exact OK.ret ⟨by simp [e1], hI, fun _ => ⟨rfl, rfl⟩⟩
  · obtain ⟨o1, o2, o3⟩ := ho
    refine OK.ite_false (by simp [o1]) ?_
    have e1 : w64 (x + 1) = x + 1 := w64_eq (by omega) (by omega)
    have hk : OK (again (o.1, w64 (x + 1))) (fun o => ∃ w', o = Sum.inl w' ∧ True) := by
      rw [e1]
      exact k _ ⟨o2, by show 0 ≤ x + 1; omega, by show x + 1 ≤ 200; omega⟩ (by show (200 - (x + 1)).toNat < (200 - x).toNat; omega)
    refine OK.ite (fun _ => hk) (fun hf => ?_)
    obtain ⟨m1, m2⟩ := o3 hf
    rw [m1, m2]
    refine OK.bind2 (R := fun b => b = false) ?_ (fun b hb => by subst hb; exact OK.ite_false rfl hk)
    refine OK.ite_false (by simp) (OK.ite_false (by simp) (OK.ite_false (by simp) (OK.ite_false (by simp) (OK.ret (by simp)))))
theorem workerRefuses_law (p0 : tappetlaw23_Event) (p1 : List Int) (h1 : p0.M.Maps.length * 8 ≤ 140737488355328) (h2 : p0.M.Code.length * 40 ≤ 140737488355328) (hE : u64 p0.E.A ∧ u64 p0.E.B) :
    tappetlaw23_WorkerRefuses 1000 p0 p1 = some true := by
  unfold tappetlaw23_WorkerRefuses
  rw [awake_ok]
  simp only [Option.bind_some, Bool.not_true, Bool.false_eq_true, if_false]
  obtain ⟨w, hn, hw, _⟩ := WI.new p0.M
  rw [hn]
  simp only [Option.bind_some]
  refine OK.is (OK.bind2 (refuses_l1 p0 p1 h1 h2 hE hw) (fun o ho => ?_))
  obtain ⟨w', rfl, _⟩ := ho
  show OK (Option.bind _ _) _
  rw [Take_off (by omega)]
  simp only [Option.bind_some]
  rw [if_pos (by decide), Take_off (by omega)]
  exact OK.ret rfl
end Go.Proofs.YtkgajppghpmkbaaDoor

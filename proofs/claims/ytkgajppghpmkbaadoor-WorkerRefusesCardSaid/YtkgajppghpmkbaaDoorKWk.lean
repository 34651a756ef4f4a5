/- The worker: what its machine shows, apart from the scratch's counters; what it tells. -/
import Derived.Test.YtkgajppghpmkbaaDoorKEng
import Derived.Test.YtkgajppghpmkbaaDoorO1
set_option linter.unusedVariables false
set_option linter.unusedSimpArgs false
namespace Go.Proofs.YtkgajppghpmkbaaDoor
open Go.Sx

theorem Pst.bind2 {α β : Type} {o : Option α} {f : α → Option β} {R : α → Prop} {Q : β → Prop} (h0 : Pst o R) (h : ∀ x, R x → Pst (f x) Q) : Pst (o.bind f) Q := fun r e => by
  obtain ⟨x, h1, hx⟩ := bind_some' e
  exact h x (h0 x h1) r hx
theorem step_get {fu : Nat} {M : engine_Machine} {S : scratch_Scratch} {r : api_Act × EM} (h : EM_Step fu (pk M S) = some r) : ∃ M1 S1, engine_Machine_Step fu M S = some (r.1, M1, S1) ∧ r.2 = pk M1 S1 := by
  rw [step_br] at h
  obtain ⟨⟨a, M1, S1⟩, h1, rfl⟩ := Option.map_eq_some_iff.1 h
  exact ⟨M1, S1, h1, rfl⟩
theorem answer_get {M : engine_Machine} {S : scratch_Scratch} {c : api_Res} {r : Int × EM} (h : EM_Answer (pk M S) c = some r) : ∃ M1, engine_Machine_Answer M c S = some (r.1, M1) ∧ r.2 = pk M1 S := by
  rw [answer_br] at h
  obtain ⟨⟨e, M1⟩, h1, rfl⟩ := Option.map_eq_some_iff.1 h
  exact ⟨M1, h1, rfl⟩
inductive Acts : engine_Machine → scratch_Scratch → List api_Res → List api_Act → Nat → Prop
  | stop {M M1 : engine_Machine} {S S1 : scratch_Scratch} {a : api_Act} {rs : List api_Res} : engine_Machine_Step 1000 M S = some (a, M1, S1) → a.Kind = 4 → M1.steps = w64 (M.steps + 1) → Acts M S rs [a] 0
  | ask {M M1 M2 : engine_Machine} {S S1 : scratch_Scratch} {a : api_Act} {c : api_Res} {rs : List api_Res} {l : List api_Act} {n : Nat} : engine_Machine_Step 1000 M S = some (a, M1, S1) → a.Kind = 2 → engine_Machine_Answer M1 c S1 = some (0, M2) →
      M2.steps = w64 (M.steps + 1) → Acts M2 S1 rs l n → Acts M S (c :: rs) (a :: l) (n + 1)
  | go {M M1 : engine_Machine} {S S1 : scratch_Scratch} {a : api_Act} {rs : List api_Res} {l : List api_Act} {n : Nat} : engine_Machine_Step 1000 M S = some (a, M1, S1) → a.Kind = 1 ∨ a.Kind = 3 → M1.steps = w64 (M.steps + 1) → Acts M1 S1 rs l n → Acts M S rs (a :: l) n
def newE (m : api_Module) (E : api_Event) : engine_Machine := ⟨E, m, fun _ => 0, fun _ => 0, 0, 0, 0⟩
theorem enew_good {m : api_Module} (h1 : m.Maps.length * 8 ≤ 140737488355328) (h2 : m.Code.length * 40 ≤ 140737488355328) {o : Option judge_judge} (h : judge_judged 1000 m = some (o, 0, 0)) (E : api_Event) (S : scratch_Scratch) :
    engine_New 1000 m E S = some (some (newE m E), 0, ⟨⟨fun _ => 0⟩, S.Counters⟩) := by
  unfold engine_New
  rw [Judge_eq h]
  simp only [Option.bind_some]
  rw [if_neg (by simp)]
  simp only [scratch_Words_Wipe, clone_i h1, clone_c h2, Option.bind_some]
  rfl
theorem enew_bad {m : api_Module} {o : Option judge_judge} {p e : Int} (h : judge_judged 1000 m = some (o, p, e)) (he : e ≠ 0) (E : api_Event) (S : scratch_Scratch) :
    engine_New 1000 m E S = some (none, e, S) := by
  unfold engine_New
  rw [Judge_eq h]
  simp only [Option.bind_some]
  rw [if_pos (by simpa using he)]
def U5 (t : api_Tally) : Prop := u64 t.Runs ∧ u64 t.Missed ∧ u64 t.Steps ∧ u64 t.Calls ∧ u64 t.Sum
def added (t u : api_Tally) : api_Tally := ⟨wu64 (t.Runs + u.Runs), wu64 (t.Missed + u.Missed), wu64 (t.Steps + u.Steps), wu64 (t.Calls + u.Calls), wu64 (t.Sum + u.Sum)⟩
theorem u5_added (t u : api_Tally) : U5 (added t u) := ⟨wu64_rng _, wu64_rng _, wu64_rng _, wu64_rng _, wu64_rng _⟩
theorem zadd {x : Int} (h : u64 x) : wu64 (0 + x) = x := by rw [Int.zero_add, wu64_eq h.1 h.2]
theorem Add_eq {t u : api_Tally} (h : U5 t) : stats_Add [t, u] = some (added t u) := by
  obtain ⟨a, b, c, d, e⟩ := h
  show some (added (added ⟨0, 0, 0, 0, 0⟩ t) u) = _
  have : added ⟨0, 0, 0, 0, 0⟩ t = t := by
    unfold added
    simp only [zadd a, zadd b, zadd c, zadd d, zadd e]
  rw [this]
theorem known_eq {h : Int} (h0 : 0 ≤ h) (h1 : h < 4) : stats_known h = some true := by
  unfold stats_known
  simp [h0, h1]
theorem ain4 {h : Int} (h0 : 0 ≤ h) (h1 : h < 4) : ain 4 h = some h.toNat := by unfold ain; rw [if_pos ⟨h0, by omega⟩]
theorem Ran_eq {st : stats_Stats} {h : Int} (h0 : 0 ≤ h) (h1 : h < 4) (hu : U5 (st.hooks h.toNat)) (s c v : Int) : stats_Stats_Ran st h s c v = some (0, ⟨aset st.hooks h.toNat (added (st.hooks h.toNat) ⟨1, 0, s, c, v⟩)⟩) := by
  unfold stats_Stats_Ran
  rw [known_eq h0 h1]
  simp only [Option.bind_some, ain4 h0 h1, Add_eq hu]
  rfl
def missed (t : api_Tally) : api_Tally := ⟨t.Runs, wu64 (t.Missed + 1), t.Steps, t.Calls, t.Sum⟩
theorem Missed_eq {st : stats_Stats} {h : Int} (h0 : 0 ≤ h) (h1 : h < 4) : stats_Stats_Missed st [h] = some (0, ⟨aset st.hooks h.toNat (missed (st.hooks h.toNat))⟩) := by
  unfold stats_Stats_Missed
  have e1 : forN (stats_Stats_Missed_l1 st [h]) (fun (s127 : Unit) => (.inl ())) ([h]).length 0 () = some (.inl ()) := by
    show stats_Stats_Missed_l1 st [h] 0 _ () = _
    unfold stats_Stats_Missed_l1
    have : idx [h] ((0 : Nat) : Int) = some h := rfl
    rw [this]
    simp only [Option.bind_some, known_eq h0 h1]
    rfl
  have e2 : forN (stats_Stats_Missed_l2 [h]) (fun (s284 : stats_Stats) => s284) ([h]).length 0 st = some ⟨aset st.hooks h.toNat (missed (st.hooks h.toNat))⟩ := by
    show stats_Stats_Missed_l2 [h] 0 _ st = _
    unfold stats_Stats_Missed_l2
    have : idx [h] ((0 : Nat) : Int) = some h := rfl
    rw [this]
    simp only [Option.bind_some, ain4 h0 h1]
    rfl
  rw [e1]
  simp only [Option.bind_some]
  rw [e2]
  rfl
def AllU (st : stats_Stats) : Prop := ∀ i, U5 (st.hooks i)
theorem AllU.aset {st : stats_Stats} (h : AllU st) (k : Nat) {t : api_Tally} (ht : U5 t) : AllU ⟨Go.Sx.aset st.hooks k t⟩ := by
  intro i
  show U5 (Go.Sx.aset st.hooks k t i)
  unfold Go.Sx.aset
  split
  · exact ht
  · exact h i
theorem u5_missed {t : api_Tally} (h : U5 t) : U5 (missed t) := ⟨h.1, wu64_rng _, h.2.2.1, h.2.2.2.1, h.2.2.2.2⟩
theorem copied_w (m : api_Module) (h1 : m.Maps.length * 8 ≤ 140737488355328) (h2 : m.Code.length * 40 ≤ 140737488355328) : tappetlaw23_copied m = some m := copied_eq m h1 h2
theorem awake_ok : tappetlaw23_awake 1000 = some true := by decide +kernel
end Go.Proofs.YtkgajppghpmkbaaDoor

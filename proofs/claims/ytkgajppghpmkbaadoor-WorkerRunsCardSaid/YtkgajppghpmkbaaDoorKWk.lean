/- The worker: what its machine shows, apart from the scratch's counters; what it tells. -/
import Derived.Test.YtkgajppghpmkbaaDoorKEng
import Derived.Test.YtkgajppghpmkbaaDoorO1
set_option linter.unusedVariables false
set_option linter.unusedSimpArgs false
namespace Go.Proofs.YtkgajppghpmkbaaDoor
open Go.Sx

theorem room_ok {n b : Nat} (h : n * b ≤ 140737488355328) : room n b = some () := by
  unfold room
  rw [if_pos h]
theorem run_count (M : EM) (i : api_Inst) : Pst (EM_run M i) (fun r => r.2.steps = M.steps) := by
  unfold EM_run
  refine Pst.ite (Pst.bind fun _ => Pst.bind fun _ => Pst.ret rfl) ?_
  refine Pst.ite (Pst.bind fun _ => Pst.bind fun _ => Pst.bind fun _ => Pst.ret rfl) ?_
  refine Pst.ite (Pst.bind fun _ => Pst.bind fun _ => Pst.bind fun _ => Pst.ret rfl) ?_
  refine Pst.ite (Pst.bind fun _ => Pst.ite (Pst.ret rfl) (Pst.ret rfl)) ?_
  refine Pst.ite (Pst.bind fun _ => Pst.ret rfl) ?_
  refine Pst.ite (Pst.ret rfl) ?_
  refine Pst.ite (Pst.bind fun _ => Pst.ite (Pst.bind fun _ => Pst.ret rfl) (Pst.bind fun _ => Pst.ret rfl)) ?_
  exact Pst.bind fun _ => Pst.bind fun _ => Pst.bind fun _ => Pst.ite (Pst.bind fun _ => Pst.ret rfl) (Pst.bind fun _ => Pst.bind fun _ => Pst.ite (Pst.ret rfl) (Pst.ret rfl))
theorem Pst.bind2 {α β : Type} {o : Option α} {f : α → Option β} {R : α → Prop} {Q : β → Prop} (h0 : Pst o R) (h : ∀ x, R x → Pst (f x) Q) : Pst (o.bind f) Q := fun r e => by
  obtain ⟨x, h1, hx⟩ := bind_some' e
  exact h x (h0 x h1) r hx
theorem call_count (fu : Nat) (M : EM) (k : Int) : Pst (EM_call fu M k) (fun r => r.2.steps = M.steps) := by
  unfold EM_call
  refine Pst.bind fun _ => Pst.ite (Pst.bind fun _ => Pst.bind fun _ => Pst.bind fun _ => Pst.ret rfl) ?_
  exact Pst.bind2 (R := fun o : EM × api_Act => o.1.steps = M.steps) (Pst.ite (Pst.bind fun _ => Pst.ret rfl) (Pst.ret rfl)) (fun o ho => Pst.ret ho)
theorem step_count (fu : Nat) {M : EM} (h0 : M.state = 0) : Pst (EM_Step fu M) (fun r => r.2.steps = w64 (M.steps + 1)) := by
  unfold EM_Step
  rw [if_neg (by simp [h0]), if_neg (by simp [h0])]
  refine Pst.bind fun _ => Pst.ite ?_ (Pst.ite (Pst.bind fun _ => Pst.ret rfl) ?_)
  · exact Pst.bind2 (call_count fu ⟨M.Event, M.module, M.scratch, M.regs, M.turns, M.at_, w64 (M.steps + 1), M.state⟩ _) (fun o ho => Pst.ret ho)
  · exact Pst.bind2 (run_count ⟨M.Event, M.module, M.scratch, M.regs, M.turns, M.at_, w64 (M.steps + 1), M.state⟩ _) (fun o ho => Pst.ret ho)
theorem answer_count (M : EM) (c : api_Res) : Pst (EM_Answer M c) (fun r => r.2.steps = M.steps) := by
  unfold EM_Answer
  exact Pst.ite (Pst.ret rfl) (Pst.bind fun _ => Pst.bind fun _ => Pst.ret rfl)
theorem step_get {fu : Nat} {M : engine_Machine} {S : scratch_Scratch} {r : api_Act × EM} (h : EM_Step fu (pk M S) = some r) : ∃ M1 S1, engine_Machine_Step fu M S = some (r.1, M1, S1) ∧ r.2 = pk M1 S1 := by
  rw [step_br] at h
  obtain ⟨⟨a, M1, S1⟩, h1, rfl⟩ := Option.map_eq_some_iff.1 h
  exact ⟨M1, S1, h1, rfl⟩
theorem answer_get {M : engine_Machine} {S : scratch_Scratch} {c : api_Res} {r : Int × EM} (h : EM_Answer (pk M S) c = some r) : ∃ M1, engine_Machine_Answer M c S = some (r.1, M1) ∧ r.2 = pk M1 S := by
  rw [answer_br] at h
  obtain ⟨⟨e, M1⟩, h1, rfl⟩ := Option.map_eq_some_iff.1 h
  exact ⟨M1, h1, rfl⟩
def wC {α : Type} (C : scratch_Counters) (r : α × engine_Machine × scratch_Scratch) : α × engine_Machine × scratch_Scratch := (r.1, r.2.1, ⟨r.2.2.Words, C⟩)
theorem run_C (M : engine_Machine) (S : scratch_Scratch) (C : scratch_Counters) (i : api_Inst) : engine_Machine_run M i ⟨S.Words, C⟩ = (engine_Machine_run M i S).map (wC C) := by
  unfold engine_Machine_run
  refine Br.ite (Br.bind fun _ => Br.bind fun _ => rfl) ?_
  refine Br.ite (Br.bind fun _ => Br.bind fun _ => Br.bind fun _ => rfl) ?_
  refine Br.ite (Br.bind fun _ => Br.bind fun _ => Br.bind fun _ => rfl) ?_
  refine Br.ite (Br.bind fun _ => Br.ite rfl rfl) ?_
  refine Br.ite (Br.bind fun _ => rfl) ?_
  refine Br.ite rfl ?_
  refine Br.ite (Br.bind fun _ => Br.ite (Br.bind fun _ => rfl) (Br.bind fun _ => rfl)) ?_
  exact Br.bind fun _ => Br.bind fun _ => Br.bind fun _ => Br.ite (Br.bind fun _ => rfl) (Br.bind fun _ => Br.bind fun _ => Br.ite rfl rfl)
theorem call_C (fu : Nat) (M : engine_Machine) (S : scratch_Scratch) (C : scratch_Counters) {k : Int} (hk : k ≠ 5) : engine_Machine_call fu M k ⟨S.Words, C⟩ = (engine_Machine_call fu M k S).map (wC C) := by
  unfold engine_Machine_call
  refine Br.bind fun _ => Br.ite (Br.bind fun _ => Br.bind fun _ => Br.bind fun _ => rfl) ?_
  rw [if_neg (by simpa using hk), if_neg (by simpa using hk)]
  rfl
theorem step_C (fu : Nat) (M : engine_Machine) (S : scratch_Scratch) (C : scratch_Counters) (h : ∀ i, idx M.module.Code M.at_ = some i → ¬(i.Op = 21 ∧ i.Imm = 5)) :
    engine_Machine_Step fu M ⟨S.Words, C⟩ = (engine_Machine_Step fu M S).map (wC C) := by
  unfold engine_Machine_Step
  refine Br.ite rfl (Br.ite (Br.bind fun _ => Br.bind fun _ => rfl) ?_)
  cases hi : idx M.module.Code M.at_ with
  | none => rfl
  | some i =>
    simp only [Option.bind_some]
    rcases Bool.eq_false_or_eq_true (i.Op == 21) with e | e
    · rw [if_pos e, if_pos e]
      have : i.Imm ≠ 5 := fun h5 => h i hi ⟨by simpa using e, h5⟩
      exact Br.bind2 (g := wC C) (call_C fu _ S C this) (fun _ => rfl)
    · have e' : ¬ (i.Op == 21) = true := by simp [e]
      rw [if_neg e', if_neg e']
      refine Br.ite (Br.bind fun _ => rfl) ?_
      exact Br.bind2 (g := wC C) (run_C _ S C i) (fun _ => rfl)
inductive Acts : engine_Machine → scratch_Scratch → List api_Res → List api_Act → Nat → Prop
  | stop {M M1 : engine_Machine} {S S1 : scratch_Scratch} {a : api_Act} {rs : List api_Res} : engine_Machine_Step 1000 M S = some (a, M1, S1) → a.Kind = 4 → M1.steps = w64 (M.steps + 1) → Acts M S rs [a] 0
  | ask {M M1 M2 : engine_Machine} {S S1 : scratch_Scratch} {a : api_Act} {c : api_Res} {rs : List api_Res} {l : List api_Act} {n : Nat} : engine_Machine_Step 1000 M S = some (a, M1, S1) → a.Kind = 2 → engine_Machine_Answer M1 c S1 = some (0, M2) →
      M2.steps = w64 (M.steps + 1) → Acts M2 S1 rs l n → Acts M S (c :: rs) (a :: l) (n + 1)
  | go {M M1 : engine_Machine} {S S1 : scratch_Scratch} {a : api_Act} {rs : List api_Res} {l : List api_Act} {n : Nat} : engine_Machine_Step 1000 M S = some (a, M1, S1) → a.Kind = 1 ∨ a.Kind = 3 → M1.steps = w64 (M.steps + 1) → Acts M1 S1 rs l n → Acts M S rs (a :: l) n
def NoMark (m : api_Module) : Prop := ∀ i ∈ m.Code, ¬(i.Op = 21 ∧ i.Imm = 5)
theorem acts_of {m : api_Module} {j : judge_judge} (hS : Sound m j) : ∀ (k : Nat) (M : engine_Machine) (S : scratch_Scratch) (p : Nat), Run m j (pk M S) p → M.state = 0 → pot m.Code M.turns p m.Code.length ≤ k → ∀ rs : List api_Res, (∀ r ∈ rs, u64 r.Val) → k ≤ rs.length →
    ∃ l n, l.length ≤ k ∧ Acts M S rs l n ∧ (NoMark m → ∀ C, Acts M ⟨S.Words, C⟩ rs l n) := by
  intro k
  induction k with
  | zero =>
    intro M S p h _ hp
    have := pot_pos hS.good h.fit h.lt
    have : pot m.Code M.turns p m.Code.length = pot m.Code (pk M S).turns p m.Code.length := rfl
    omega
  | succ k ih =>
    intro M S p h h0 hp rs hrs hk
    obtain ⟨i, hi, hi2⟩ := idx_lt h.lt
    have hi2 : idx M.module.Code M.at_ = some i := by
      have e1 : M.module = m := h.mod
      have e2 : M.at_ = p := h.at_
      rw [e1, e2]; exact hi2
    obtain ⟨⟨a, M1'⟩, h1, hst, hpc⟩ := step_ok' hS h h0 hi
    have hct := step_count 1000 (M := pk M S) h0 _ h1
    obtain ⟨M1, S1, g1, rfl⟩ := step_get h1
    simp only at g1 hct
    have hC : NoMark m → ∀ C, engine_Machine_Step 1000 M ⟨S.Words, C⟩ = some (a, M1, ⟨S1.Words, C⟩) := by
      intro hn C
      rw [step_C 1000 M S C (fun i' hi' => by
        rw [hi2] at hi'; cases hi'
        exact hn i (List.mem_of_getElem? hi)), g1]
      rfl
    have hp' : pot m.Code (pk M S).turns p m.Code.length ≤ ((k + 1 : Nat) : Int) := hp
    cases hst with
    | ends e1 e2 e3 e4 => exact ⟨[a], 0, by simp, .stop g1 e2 hct, fun hn C => .stop (hC hn C) e2 hct⟩
    | asks e1 e2 e3 e4 e5 e6 e7 =>
      simp only at e3 e4 e6
      obtain ⟨c, rs, rfl⟩ : ∃ c r, rs = c :: r := by
        cases rs with
        | nil => simp at hk
        | cons c r => exact ⟨c, r, rfl⟩
      obtain ⟨⟨e, M2'⟩, hr2, he, s0, q, hR, hq, hN⟩ := answer_ok hS e5 e4 hi e1 e2 (hrs c (by simp))
      have hc2 := answer_count _ _ _ hr2
      obtain ⟨M2, g2, rfl⟩ := answer_get hr2
      simp only at g2 he s0 hR hq hc2
      subst he
      rw [e6] at hq
      obtain ⟨l, n, hl, ha, hb⟩ := ih M2 S1 q hR s0 (by have : pot m.Code M2.turns q m.Code.length = pot m.Code (pk M2 S1).turns q m.Code.length := rfl; omega) rs (fun r hr => hrs r (by simp [hr])) (by simp at hk; omega)
      have hs2 : M2.steps = w64 (M.steps + 1) := by
        have : M2.steps = M1.steps := hc2
        rw [this]; exact hct
      exact ⟨a :: l, n + 1, by simp; omega, .ask g1 e3 g2 hs2 ha, fun hn C => .ask (hC hn C) e3 g2 hs2 (hb hn C)⟩
    | goes e1 e2 e3 =>
      simp only at e1 e2
      obtain ⟨q, hR, hq, hN⟩ := e3
      simp only at hR hq
      obtain ⟨l, n, hl, ha, hb⟩ := ih M1 S1 q hR e2 (by have : pot m.Code M1.turns q m.Code.length = pot m.Code (pk M1 S1).turns q m.Code.length := rfl; omega) rs hrs (by omega)
      exact ⟨a :: l, n, by simp; omega, .go g1 e1 hct ha, fun hn C => .go (hC hn C) e1 hct (hb hn C)⟩
theorem cut_tail {c : api_Res} (l : List api_Res) : cut (c :: l) 1 ((c :: l).length : Int) = some l := by
  unfold cut
  rw [if_pos (by simp; omega)]
  simp
theorem trace_loop {M : engine_Machine} {S : scratch_Scratch} {rs : List api_Res} {l : List api_Act} {n : Nat} (h : Acts M S rs l n) : ∀ (fu : Nat) (acc : List api_Act), l.length ≤ fu → acc.length + l.length ≤ 1000 →
    loop (engine_Trace_l1 1000) fu (rs, M, S, acc) = some (acc ++ l, 0) := by
  induction h with
  | @stop M M1 S S1 a rs h1 h2 h3 =>
    intro fu acc hf hr
    simp only [List.length_cons, List.length_nil] at hf hr
    obtain ⟨fu, rfl⟩ : ∃ f, fu = f + 1 := ⟨fu - 1, by omega⟩
    show engine_Trace_l1 1000 (loop (engine_Trace_l1 1000) fu) (rs, M, S, acc) = _
    unfold engine_Trace_l1
    simp only [h1, Option.bind_some]
    rw [room_ok (by simp; omega)]
    simp only [Option.bind_some, h2]
    rfl
  | @ask M M1 M2 S S1 a c rs l n h1 h2 h3 h5 h4 ih =>
    intro fu acc hf hr
    simp only [List.length_cons] at hf hr
    obtain ⟨fu, rfl⟩ : ∃ f, fu = f + 1 := ⟨fu - 1, by omega⟩
    show engine_Trace_l1 1000 (loop (engine_Trace_l1 1000) fu) (c :: rs, M, S, acc) = _
    have key : ∀ again : ((List api_Res) × engine_Machine × scratch_Scratch × (List api_Act)) → Option ((List api_Act) × Int), engine_Trace_l1 1000 again (c :: rs, M, S, acc) = again (rs, M2, S1, acc ++ [a]) := by
      intro again
      unfold engine_Trace_l1
      simp only [h1, Option.bind_some]
      rw [room_ok (by simp; omega)]
      have e4 : (a.Kind == 4) = false := by simp; omega
      have e2 : (a.Kind == 2) = true := by simp; omega
      have e0 : (((c :: rs).length : Int) == 0) = false := by rw [List.length_cons]; simp; omega
      have ei : idx (c :: rs) 0 = some c := by
        have := idxN (xs := c :: rs) (i := 0) (by simp)
        simpa using this
      simp only [Option.bind_some, e4, e2, e0, ei, h3, cut_tail]
      simp only [Bool.false_eq_true, if_false, if_true, Option.bind_some, e0, ei, h3, cut_tail]
    rw [key, ih fu (acc ++ [a]) (by omega) (by simp; omega)]
    simp
  | @go M M1 S S1 a rs l n h1 h2 h5 h3 ih =>
    intro fu acc hf hr
    simp only [List.length_cons] at hf hr
    obtain ⟨fu, rfl⟩ : ∃ f, fu = f + 1 := ⟨fu - 1, by omega⟩
    show engine_Trace_l1 1000 (loop (engine_Trace_l1 1000) fu) (rs, M, S, acc) = _
    have key : ∀ again : ((List api_Res) × engine_Machine × scratch_Scratch × (List api_Act)) → Option ((List api_Act) × Int), engine_Trace_l1 1000 again (rs, M, S, acc) = again (rs, M1, S1, acc ++ [a]) := by
      intro again
      unfold engine_Trace_l1
      simp only [h1, Option.bind_some]
      rw [room_ok (by simp; omega)]
      have e4 : (a.Kind == 4) = false := by simp; omega
      have e2 : (a.Kind == 2) = false := by simp; omega
      simp only [Option.bind_some, e4, e2]
      simp only [Bool.false_eq_true, if_false, Option.bind_some]
    rw [key, ih fu (acc ++ [a]) (by omega) (by simp; omega)]
    simp
def newE (m : api_Module) (E : api_Event) : engine_Machine := ⟨E, m, fun _ => 0, fun _ => 0, 0, 0, 0⟩
theorem enew_good {m : api_Module} (h1 : m.Maps.length * 8 ≤ 140737488355328) (h2 : m.Code.length * 40 ≤ 140737488355328) {o : Option judge_judge} (h : judge_judged 1000 m = some (o, 0, 0)) (E : api_Event) (S : scratch_Scratch) :
    engine_New 1000 m E S = some (some (newE m E), 0, ⟨⟨fun _ => 0⟩, S.Counters⟩) := by
  unfold engine_New
  rw [Judge_eq h]
  simp only [Option.bind_some]
  rw [if_neg (by simp)]
  simp only [scratch_Words_Wipe, clone_i h1, clone_c h2, Option.bind_some]
  rfl
theorem enew_bad {m : api_Module} {o : Option judge_judge} {p e : Int} (h : judge_judged 1000 m = some (o, p, e)) (he : e ≠ 0) (E : api_Event) (S : scratch_Scratch) :
    engine_New 1000 m E S = some (none, e, S) := by
  unfold engine_New
  rw [Judge_eq h]
  simp only [Option.bind_some]
  rw [if_pos (by simpa using he)]
theorem Trace_acts {m : api_Module} (h1 : m.Maps.length * 8 ≤ 140737488355328) (h2 : m.Code.length * 40 ≤ 140737488355328) {o : Option judge_judge} (hj : judge_judged 1000 m = some (o, 0, 0)) {E : api_Event} {rs : List api_Res} {l : List api_Act} {n : Nat}
    (hA : Acts (newE m E) ⟨⟨fun _ => 0⟩, ⟨fun _ => 0⟩⟩ rs l n) (hn : l.length ≤ 1000) : engine_Trace 1000 m E rs = some (l, 0) := by
  unfold engine_Trace
  rw [show scratch_New = some ⟨⟨fun _ => 0⟩, ⟨fun _ => 0⟩⟩ from rfl]
  simp only [Option.bind_some]
  rw [enew_good h1 h2 hj]
  simp only [Option.bind_some]
  show (if ((0 : Int) != 0) = true then some (([] : List api_Act), (0 : Int)) else loop (engine_Trace_l1 1000) 1000 (rs, newE m E, ⟨⟨fun _ => 0⟩, ⟨fun _ => 0⟩⟩, ([] : List api_Act))) = _
  rw [if_neg (by decide), trace_loop hA 1000 [] hn (by simpa using hn)]
  simp
def U5 (t : api_Tally) : Prop := u64 t.Runs ∧ u64 t.Missed ∧ u64 t.Steps ∧ u64 t.Calls ∧ u64 t.Sum
def added (t u : api_Tally) : api_Tally := ⟨wu64 (t.Runs + u.Runs), wu64 (t.Missed + u.Missed), wu64 (t.Steps + u.Steps), wu64 (t.Calls + u.Calls), wu64 (t.Sum + u.Sum)⟩
theorem u5_added (t u : api_Tally) : U5 (added t u) := ⟨wu64_rng _, wu64_rng _, wu64_rng _, wu64_rng _, wu64_rng _⟩
theorem zadd {x : Int} (h : u64 x) : wu64 (0 + x) = x := by rw [Int.zero_add, wu64_eq h.1 h.2]
theorem Add_eq {t u : api_Tally} (h : U5 t) : stats_Add [t, u] = some (added t u) := by
  obtain ⟨a, b, c, d, e⟩ := h
  show some (added (added ⟨0, 0, 0, 0, 0⟩ t) u) = _
  have : added ⟨0, 0, 0, 0, 0⟩ t = t := by
    unfold added
    simp only [zadd a, zadd b, zadd c, zadd d, zadd e]
  rw [this]
theorem known_eq {h : Int} (h0 : 0 ≤ h) (h1 : h < 4) : stats_known h = some true := by
  unfold stats_known
  simp [h0, h1]
theorem ain4 {h : Int} (h0 : 0 ≤ h) (h1 : h < 4) : ain 4 h = some h.toNat := by unfold ain; rw [if_pos ⟨h0, by omega⟩]
theorem Ran_eq {st : stats_Stats} {h : Int} (h0 : 0 ≤ h) (h1 : h < 4) (hu : U5 (st.hooks h.toNat)) (s c v : Int) : stats_Stats_Ran st h s c v = some (0, ⟨aset st.hooks h.toNat (added (st.hooks h.toNat) ⟨1, 0, s, c, v⟩)⟩) := by
  unfold stats_Stats_Ran
  rw [known_eq h0 h1]
  simp only [Option.bind_some, ain4 h0 h1, Add_eq hu]
  rfl
theorem Of_eq {st : stats_Stats} {h : Int} (h0 : 0 ≤ h) (h1 : h < 4) : stats_Stats_Of st h = some (st.hooks h.toNat, 0) := by
  unfold stats_Stats_Of
  rw [known_eq h0 h1]
  simp only [Option.bind_some, ain4 h0 h1]
  rfl
def missed (t : api_Tally) : api_Tally := ⟨t.Runs, wu64 (t.Missed + 1), t.Steps, t.Calls, t.Sum⟩
theorem Missed_eq {st : stats_Stats} {h : Int} (h0 : 0 ≤ h) (h1 : h < 4) : stats_Stats_Missed st [h] = some (0, ⟨aset st.hooks h.toNat (missed (st.hooks h.toNat))⟩) := by
  unfold stats_Stats_Missed
  have e1 : forN (stats_Stats_Missed_l1 st [h]) (fun (s127 : Unit) => (.inl ())) ([h]).length 0 () = some (.inl ()) := by
    show stats_Stats_Missed_l1 st [h] 0 _ () = _
    unfold stats_Stats_Missed_l1
    have : idx [h] ((0 : Nat) : Int) = some h := rfl
    rw [this]
    simp only [Option.bind_some, known_eq h0 h1]
    rfl
  have e2 : forN (stats_Stats_Missed_l2 [h]) (fun (s284 : stats_Stats) => s284) ([h]).length 0 st = some ⟨aset st.hooks h.toNat (missed (st.hooks h.toNat))⟩ := by
    show stats_Stats_Missed_l2 [h] 0 _ st = _
    unfold stats_Stats_Missed_l2
    have : idx [h] ((0 : Nat) : Int) = some h := rfl
    rw [this]
    simp only [Option.bind_some, ain4 h0 h1]
    rfl
  rw [e1]
  simp only [Option.bind_some]
  rw [e2]
  rfl
def AllU (st : stats_Stats) : Prop := ∀ i, U5 (st.hooks i)
theorem AllU.aset {st : stats_Stats} (h : AllU st) (k : Nat) {t : api_Tally} (ht : U5 t) : AllU ⟨Go.Sx.aset st.hooks k t⟩ := by
  intro i
  show U5 (Go.Sx.aset st.hooks k t i)
  unfold Go.Sx.aset
  split
  · exact ht
  · exact h i
theorem u5_missed {t : api_Tally} (h : U5 t) : U5 (missed t) := ⟨h.1, wu64_rng _, h.2.2.1, h.2.2.2.1, h.2.2.2.2⟩
theorem copied_w (m : api_Module) (h1 : m.Maps.length * 8 ≤ 140737488355328) (h2 : m.Code.length * 40 ≤ 140737488355328) : tappetlaw23_copied m = some m := copied_eq m h1 h2
theorem awake_ok : tappetlaw23_awake 1000 = some true := by decide +kernel
end Go.Proofs.YtkgajppghpmkbaaDoor

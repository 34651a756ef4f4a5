/- EngineApart: two machines in turns, and each by itself, show the same acts. -/
import Derived.Test.YtgmmfjpmahcocaaDoorKSafe
set_option linter.unusedVariables false
set_option linter.unusedSimpArgs false
namespace Go.Proofs.YtgmmfjpmahcocaaDoor
open Go.Sx

/-- the acts that a machine will still show, each question answered by c -/
inductive Acts (c : api_Res) : engine_Machine → List api_Act → Prop
  | nil {M : engine_Machine} {x : api_Act} : engine_Machine_Step 1000 M = some (x, M) → x.Kind = 6 → Acts c M []
  | stop {M M1 : engine_Machine} {a : api_Act} : engine_Machine_Step 1000 M = some (a, M1) → a.Kind = 4 → Acts c M1 [] → Acts c M [a]
  | ask {M M1 M2 : engine_Machine} {a : api_Act} {e : Int} {l : List api_Act} : engine_Machine_Step 1000 M = some (a, M1) → a.Kind = 2 → engine_Machine_Answer M1 c = some (e, M2) → l ≠ [] → Acts c M2 l → Acts c M (a :: l)
  | go {M M1 : engine_Machine} {a : api_Act} {l : List api_Act} : engine_Machine_Step 1000 M = some (a, M1) → a.Kind = 1 ∨ a.Kind = 3 → l ≠ [] → Acts c M1 l → Acts c M (a :: l)
theorem ended_step {m : api_Module} {j : judge_judge} (hS : Sound m j) {M : engine_Machine} {p : Nat} (h : Run m j M p) (h2 : M.state = 2) : ∃ x, engine_Machine_Step 1000 M = some (x, M) ∧ x.Kind = 6 := by
  obtain ⟨i, hi, hi2⟩ := idx_lt h.lt
  have hi2 : idx M.module.Code M.at_ = some i := by rw [h.mod, h.at_]; exact hi2
  have hA := right_A (hS.good.fine.right hi)
  unfold engine_Machine_Step
  rw [if_neg (by rw [h2]; decide), if_pos (by rw [h2]; rfl), hi2]
  simp only [Option.bind_some, ain8 hA.1 hA.2]
  exact ⟨_, rfl, rfl⟩
theorem acts_of {m : api_Module} {j : judge_judge} (hS : Sound m j) {c : api_Res} (hc : u64 c.Val) : ∀ (k : Nat) (M : engine_Machine) (p : Nat), Run m j M p → M.state = 0 → pot m.Code M.turns p m.Code.length ≤ k → ∃ l, Acts c M l ∧ l.length ≤ k ∧ l ≠ [] := by
  intro k
  induction k with
  | zero =>
    intro M p h _ hp
    have := pot_pos hS.good h.fit h.lt
    omega
  | succ k ih =>
    intro M p h h0 hp
    obtain ⟨i, hi, _⟩ := idx_lt h.lt
    obtain ⟨r, hr, hst, _⟩ := step_ok' hS h h0 hi
    cases hst with
    | ends a b c' d =>
      obtain ⟨x, hx, hx6⟩ := ended_step hS d c'
      exact ⟨[r.1], .stop hr b (.nil hx hx6), by simp, by simp⟩
    | asks a b c' d e f =>
      obtain ⟨r2, hr2, _, s0, q, hR, hq⟩ := answer_ok hS e d hi a b hc
      rw [f] at hq
      obtain ⟨l, hl, hn, hne⟩ := ih r2.2 q hR s0 (by omega)
      exact ⟨r.1 :: l, .ask hr c' hr2 hne hl, by simp; omega, by simp⟩
    | goes a b c' =>
      obtain ⟨q, hR, hq⟩ := c'
      obtain ⟨l, hl, hn, hne⟩ := ih r.2 q hR b (by omega)
      exact ⟨r.1 :: l, .go hr a hne hl, by simp; omega, by simp⟩
/-- one round -/
theorem acts_round {c : api_Res} {M : engine_Machine} {l : List api_Act} (h : Acts c M l) : ∃ a M1 M2, engine_Machine_Step 1000 M = some (a, M1) ∧
    (if (a.Kind == 2) then (engine_Machine_Answer M1 c).bind fun r => some r.2 else some M1) = some M2 ∧ (a.Kind = 6 → l = [] ∧ Acts c M2 []) ∧ (a.Kind ≠ 6 → ∃ l', l = a :: l' ∧ Acts c M2 l') := by
  cases h with
  | nil h1 h2 => exact ⟨_, M, M, h1, by rw [if_neg (by rw [h2]; decide)], fun _ => ⟨rfl, .nil h1 h2⟩, fun h => absurd h2 h⟩
  | @stop _ M1 a h1 h2 h3 => exact ⟨a, _, M1, h1, by rw [if_neg (by rw [h2]; decide)], fun h => by omega, fun _ => ⟨[], rfl, h3⟩⟩
  | @ask _ M1 M2 a e l h1 h2 h3 _ h4 => exact ⟨a, M1, M2, h1, by rw [if_pos (by rw [h2]; rfl), h3]; rfl, fun h => by omega, fun _ => ⟨l, rfl, h4⟩⟩
  | @go _ M1 a l h1 h2 _ h3 => exact ⟨a, M1, M1, h1, by rw [if_neg (by simp; omega)], fun h => by omega, fun _ => ⟨l, rfl, h3⟩⟩
theorem cut_rep {c : api_Res} (n : Nat) : cut (List.replicate (n + 1) c) 1 ((List.replicate (n + 1) c).length : Int) = some (List.replicate n c) := by
  unfold cut
  rw [if_pos (by simp; omega)]
  simp [List.replicate_succ]
theorem room_ok {n b : Nat} (h : n * b ≤ 140737488355328) : room n b = some () := by
  unfold room
  rw [if_pos h]
theorem trace_loop {c : api_Res} {M : engine_Machine} {l : List api_Act} (h : Acts c M l) (hne : l ≠ []) : ∀ (fu n : Nat) (acc : List api_Act), l.length ≤ n → l.length ≤ fu → acc.length + l.length ≤ 1000 →
    loop (engine_Trace_l1 1000) fu (List.replicate n c, M, acc) = some (acc ++ l, 0) := by
  induction h with
  | nil h1 h2 => exact absurd rfl hne
  | @stop M M1 a h1 h2 h3 ih =>
    intro fu n acc hn hf hr
    simp only [List.length_cons, List.length_nil] at hn hf hr
    obtain ⟨fu, rfl⟩ : ∃ f, fu = f + 1 := ⟨fu - 1, by omega⟩
    show engine_Trace_l1 1000 (loop (engine_Trace_l1 1000) fu) (List.replicate n c, M, acc) = _
    unfold engine_Trace_l1
    simp only [h1, Option.bind_some]
    rw [room_ok (by simp; omega)]
    simp only [Option.bind_some, h2]
    rfl
  | @ask M M1 M2 a e l h1 h2 h3 hl h4 ih =>
    intro fu n acc hn hf hr
    simp only [List.length_cons] at hn hf hr
    obtain ⟨fu, rfl⟩ : ∃ f, fu = f + 1 := ⟨fu - 1, by omega⟩
    obtain ⟨n, rfl⟩ : ∃ f, n = f + 1 := ⟨n - 1, by omega⟩
    show engine_Trace_l1 1000 (loop (engine_Trace_l1 1000) fu) (List.replicate (n + 1) c, M, acc) = _
    have key : ∀ again : ((List api_Res) × engine_Machine × (List api_Act)) → Option ((List api_Act) × Int), engine_Trace_l1 1000 again (List.replicate (n + 1) c, M, acc) = again (List.replicate n c, M2, acc ++ [a]) := by
      intro again
      unfold engine_Trace_l1
      simp only [h1, Option.bind_some]
      rw [room_ok (by simp; omega)]
      have e4 : (a.Kind == 4) = false := by simp; omega
      have e2 : (a.Kind == 2) = true := by simp; omega
      have e0 : (((List.replicate (n + 1) c).length : Int) == 0) = false := by rw [List.length_replicate]; simp; omega
      have ei : idx (List.replicate (n + 1) c) 0 = some c := by
        have := idxN (xs := List.replicate (n + 1) c) (i := 0) (by simp)
        simpa using this
      simp only [Option.bind_some, e4, e2, e0, ei, h3, cut_rep]
      simp only [Bool.false_eq_true, if_false, if_true, Option.bind_some, e0, ei, h3, cut_rep]
    rw [key, ih hl fu n (acc ++ [a]) (by omega) (by omega) (by simp; omega)]
    simp
  | @go M M1 a l h1 h2 hl h3 ih =>
    intro fu n acc hn hf hr
    simp only [List.length_cons] at hn hf hr
    obtain ⟨fu, rfl⟩ : ∃ f, fu = f + 1 := ⟨fu - 1, by omega⟩
    show engine_Trace_l1 1000 (loop (engine_Trace_l1 1000) fu) (List.replicate n c, M, acc) = _
    have key : ∀ again : ((List api_Res) × engine_Machine × (List api_Act)) → Option ((List api_Act) × Int), engine_Trace_l1 1000 again (List.replicate n c, M, acc) = again (List.replicate n c, M1, acc ++ [a]) := by
      intro again
      unfold engine_Trace_l1
      simp only [h1, Option.bind_some]
      rw [room_ok (by simp; omega)]
      have e4 : (a.Kind == 4) = false := by simp; omega
      have e2 : (a.Kind == 2) = false := by simp; omega
      simp only [Option.bind_some, e4, e2]
      simp only [Bool.false_eq_true, if_false, Option.bind_some]
    rw [key, ih hl fu n (acc ++ [a]) (by omega) (by omega) (by simp; omega)]
    simp
/-- a trace with answers enough -/
theorem Trace_eq {m : api_Module} (h1 : m.Maps.length * 8 ≤ 140737488355328) (h2 : m.Code.length * 40 ≤ 140737488355328) {j : judge_judge} (hj : judge_judged 1000 m = some (some j, 0, 0)) {E : api_Event} {c : api_Res} {l : List api_Act}
    (hA : Acts c (newM m E ⟨fun _ => 0⟩) l) (hne : l ≠ []) (hn : l.length ≤ 256) : engine_Trace 1000 m E (List.replicate 256 c) = some (l, 0) := by
  unfold engine_Trace
  rw [show scratch_New = some ⟨⟨fun _ => 0⟩, ⟨fun _ => 0⟩⟩ from rfl]
  simp only [Option.bind_some]
  rw [New_eq h1 h2 hj]
  simp only [Option.bind_some, if_true]
  show (if ((0 : Int) != 0) = true then some (([] : List api_Act), (0 : Int)) else loop (engine_Trace_l1 1000) 1000 (List.replicate 256 c, newM m E ⟨fun _ => 0⟩, ([] : List api_Act))) = _
  rw [if_neg (by decide), trace_loop hA hne 1000 256 [] hn (by omega) (by simp; omega)]
  simp
theorem alike_eq (l : List api_Act) : tappetlaw11_alike l l = some true := by
  unfold tappetlaw11_alike
  rw [if_neg (by simp)]
  refine OK.is (OK.bind2 (OK.count (Q := fun o => o = Sum.inl ()) (fun _ _ => True) trivial (fun q s again hq _ kk => ?_) (fun _ _ => rfl)) (fun o ho => by subst ho; exact OK.ret rfl))
  unfold tappetlaw11_alike_l1
  rw [idxN hq]
  simp only [Option.bind_some]
  exact OK.ite_false (by simp) (kk () trivial)
theorem l2_res : forN tappetlaw11_EngineApart_l2 (fun (s1453 : (List api_Res) × (List api_Res)) => (s1453.1, s1453.2)) 256 0 (([] : List api_Res), ([] : List api_Res)) = some (List.replicate 256 (api_Res.mk 0 true 6 false 0 0), List.replicate 256 (api_Res.mk 0 false 7 false 0 0)) := by
  refine OK.is (OK.count (fun i s => s = (List.replicate i (api_Res.mk 0 true 6 false 0 0), List.replicate i (api_Res.mk 0 false 7 false 0 0))) rfl (fun i s again hi hI kk => ?_) (fun s hI => by rw [hI]))
  subst hI
  unfold tappetlaw11_EngineApart_l2
  rw [room_ok (by simp; omega), room_ok (by simp; omega)]
  simp only [Option.bind_some]
  exact kk _ (by simp [List.replicate_succ'])
theorem l1_acts {c0 c1 : api_Res} (e0 : c0 = api_Res.mk 0 true 6 false 0 0) (e1 : c1 = api_Res.mk 0 false 7 false 0 0) {M0 M1 : engine_Machine} {T0 T1 : List api_Act} (h0 : Acts c0 M0 T0) (h1 : Acts c1 M1 T1) (n0 : T0.length ≤ 256) (n1 : T1.length ≤ 256) :
    forN (tappetlaw11_EngineApart_l1 1000) (fun (s1040 : engine_Machine × engine_Machine × (List api_Act) × (List api_Act)) => (s1040.2.2.1, s1040.2.2.2)) 516 0 (M0, M1, ([] : List api_Act), ([] : List api_Act)) = some (T0, T1) := by
  refine OK.is (OK.count (fun k s => ∃ l0 l1, Acts c0 s.1 l0 ∧ Acts c1 s.2.1 l1 ∧ s.2.2.1 ++ l0 = T0 ∧ s.2.2.2 ++ l1 = T1 ∧ l0.length + k ≤ 516 ∧ l1.length + k ≤ 516) ⟨T0, T1, h0, h1, rfl, rfl, by omega, by omega⟩ (fun k s again hk hI kk => ?_) (fun s hI => ?_))
  · obtain ⟨l0, l1, a0, a1, t0, t1, k0, k1⟩ := hI
    obtain ⟨x0, X0, Y0, s0, u0, v0, w0⟩ := acts_round a0
    obtain ⟨x1, X1, Y1, s1, u1, v1, w1⟩ := acts_round a1
    have r0 : s.2.2.1.length ≤ 256 := by rw [← t0] at n0; simp at n0; omega
    have r1 : s.2.2.2.length ≤ 256 := by rw [← t1] at n1; simp at n1; omega
    subst e0 e1
    unfold tappetlaw11_EngineApart_l1
    simp only [s0, s1, Option.bind_some, u0, u1]
    rw [room_ok (by simp; omega), room_ok (by simp; omega)]
    simp only [Option.bind_some]
    have side : ∀ {c : api_Res} {x : api_Act} {Y : engine_Machine} {l acc T : List api_Act} {k : Nat}, (x.Kind = 6 → l = [] ∧ Acts c Y []) → (x.Kind ≠ 6 → ∃ l', l = x :: l' ∧ Acts c Y l') → acc ++ l = T → l.length + k ≤ 516 → k < 516 →
        ∃ acc' l', (if (x.Kind != 6) = true then some (acc ++ [x]) else some acc) = some acc' ∧ Acts c Y l' ∧ acc' ++ l' = T ∧ l'.length + (k + 1) ≤ 516 := by
      intro c x Y l acc T k hv hw ht hk hk2
      by_cases e : x.Kind = 6
      · obtain ⟨rfl, hY⟩ := hv e
        exact ⟨acc, [], by rw [if_neg (by simp [e])], hY, ht, by simp; omega⟩
      · obtain ⟨l', rfl, hY⟩ := hw e
        exact ⟨acc ++ [x], l', by rw [if_pos (by simpa using e)], hY, by rw [← ht]; simp, by simp at hk; omega⟩
    obtain ⟨A0, L0, g0, q0, z0, y0⟩ := side v0 w0 t0 k0 hk
    obtain ⟨A1, L1, g1, q1, z1, y1⟩ := side v1 w1 t1 k1 hk
    rw [g0]
    simp only [Option.bind_some]
    refine OK.ite (fun h => ?_) (fun h => ?_)
    · rw [if_pos h] at g1
      cases g1
      exact kk _ ⟨L0, L1, q0, q1, z0, z1, y0, y1⟩
    · rw [if_neg (by rw [h]; decide)] at g1
      cases g1
      exact kk _ ⟨L0, L1, q0, q1, z0, z1, y0, y1⟩
  · obtain ⟨l0, l1, a0, a1, t0, t1, k0, k1⟩ := hI
    have : l0 = [] := List.length_eq_zero_iff.1 (by omega)
    subst this
    have : l1 = [] := List.length_eq_zero_iff.1 (by omega)
    subst this
    simp at t0 t1
    rw [t0, t1]
theorem engineApart_law (p0 p1 : tappetlaw11_Run) (h1 : p0.M.Maps.length * 8 ≤ 140737488355328) (h2 : p0.M.Code.length * 40 ≤ 140737488355328) (h3 : p1.M.Maps.length * 8 ≤ 140737488355328) (h4 : p1.M.Code.length * 40 ≤ 140737488355328) (hE : u64 p0.E.A ∧ u64 p0.E.B) (hE1 : u64 p1.E.A ∧ u64 p1.E.B) :
    tappetlaw11_EngineApart 1000 p0 p1 = some true := by
  unfold tappetlaw11_EngineApart
  rw [awake_ok]
  simp only [Option.bind_some, copied_eq _ h1 h2, copied_eq _ h3 h4, Bool.not_true, Bool.false_eq_true, if_false]
  rw [show scratch_New = some ⟨⟨fun _ => 0⟩, ⟨fun _ => 0⟩⟩ from rfl]
  simp only [Option.bind_some]
  obtain ⟨o, p, e, hj, hc⟩ := judged_cases p0.M
  obtain ⟨o1, q1, e1, hj1, hc1⟩ := judged_cases p1.M
  simp only [New_eq h1 h2 hj, New_eq h3 h4 hj1, Option.bind_some]
  rcases hc with ⟨he, _⟩ | ⟨rfl, rfl, j, rfl, hS⟩
  · rcases hc1 with ⟨he1, _⟩ | ⟨rfl, rfl, j1, rfl, hS1⟩
    · simp only [if_neg he, if_neg he1, ocase]
      simp [he, he1]
    · simp only [if_neg he, if_true, ocase]
      simp [he]
  · rcases hc1 with ⟨he1, _⟩ | ⟨rfl, rfl, j1, rfl, hS1⟩
    · simp only [if_neg he1, if_true, ocase]
      simp [he1]
    · simp only [if_true, ocase]
      have g := hS.good
      have g1 := hS1.good
      obtain ⟨T0, A0, n0, ne0⟩ := acts_of hS (c := api_Res.mk 0 true 6 false 0 0) ⟨by decide, by decide⟩ 256 (newM p0.M p0.E ⟨fun _ => 0⟩) 0 (run0 hS hE _) rfl (by have := g.cost; have := pot_start g (q := 0); simpa [newM] using (by omega : pot p0.M.Code (fun _ => 0) 0 p0.M.Code.length ≤ 256))
      obtain ⟨T1, A1, n1, ne1⟩ := acts_of hS1 (c := api_Res.mk 0 false 7 false 0 0) ⟨by decide, by decide⟩ 256 (newM p1.M p1.E ⟨fun _ => 0⟩) 0 (run0 hS1 hE1 _) rfl (by have := g1.cost; have := pot_start g1 (q := 0); simpa [newM] using (by omega : pot p1.M.Code (fun _ => 0) 0 p1.M.Code.length ≤ 256))
      rw [if_neg (by decide), l1_acts rfl rfl A0 A1 n0 n1, l2_res]
      simp only [Option.bind_some]
      rw [Trace_eq h1 h2 hj A0 ne0 n0, Trace_eq h3 h4 hj1 A1 ne1 n1]
      simp only [Option.bind_some, alike_eq, if_true]
end Go.Proofs.YtgmmfjpmahcocaaDoor

/- WorkerRuns: the plain law. -/
import Derived.Test.YtkgajppghpmkbaaDoorKRefuses
set_option linter.unusedVariables false
set_option linter.unusedSimpArgs false
namespace Go.Proofs.YtkgajppghpmkbaaDoor
open Go.Sx

theorem l2_marks (x : tappetlaw23_Event) : OK (forN (tappetlaw23_WorkerRuns_l2 x) (fun (s9278 : Bool) => s9278) (x.M.Code).length 0 false) (fun b => b = false → NoMark x.M) := by
  refine OK.count (fun n s => s = false → ∀ t : Nat, t < n → ∀ i, x.M.Code[t]? = some i → ¬(i.Op = 21 ∧ i.Imm = 5)) (fun _ t ht => by omega) (fun n s again hn hI k => ?_) (fun s hI => ?_)
  · unfold tappetlaw23_WorkerRuns_l2
    refine OK.ite (fun _ => k _ (fun h => by cases h)) (fun hs => ?_)
    obtain ⟨i, hi, hi2⟩ := idx_lt hn
    rw [hi2]
    simp only [Option.bind_some]
    refine OK.ite (fun ho => k _ (fun hb t ht i' hi' => ?_)) (fun ho => k _ (fun hb t ht i' hi' => ?_))
    · by_cases e : t = n
      · subst e
        rw [hi] at hi'; cases hi'
        exact fun h => by simp [h.2] at hb
      · exact hI hs t (by omega) i' hi'
    · by_cases e : t = n
      · subst e
        rw [hi] at hi'; cases hi'
        exact fun h => by simp [h.1] at ho
      · exact hI hs t (by omega) i' hi'
  · intro hs i hi
    obtain ⟨t, ht⟩ := List.mem_iff_getElem?.1 hi
    exact hI hs t (List.getElem?_eq_some_iff.1 ht).1 i ht
theorem l3_answers (x : tappetlaw23_Event) (hres : ∀ r ∈ x.Res, u64 r.Val) : OK (forN (tappetlaw23_WorkerRuns_l3 x) (fun (s9611 : (List api_Res)) => s9611) 256 0 ([] : List api_Res)) (fun rs => rs.length = 256 ∧ ∀ r ∈ rs, u64 r.Val) := by
  refine OK.count (fun n s => s.length = n ∧ ∀ r ∈ s, u64 r.Val) ⟨rfl, fun r hr => by simp at hr⟩ (fun n s again hn hI k => ?_) (fun s hI => hI)
  unfold tappetlaw23_WorkerRuns_l3
  refine OK.bind2 (R := fun o => u64 o.Val) ?_ (fun o ho => OK.bind (OK.hasRoom (by simp [hI.1]; omega) (k _ ⟨by simp [hI.1], fun r hr => ?_⟩)))
  · refine OK.ite (fun hl => OK.bind (OK.get (by omega) (by simpa using hl) (fun y hy => OK.ret (hres y (List.mem_of_getElem? hy))))) (fun _ => OK.ret ?_)
    exact wu64_rng _
  · rcases List.mem_append.1 hr with h | h
    · exact hI.2 r h
    · simp at h; subst h; exact ho
theorem wstep_go {w : worker_Worker} {M M1 : engine_Machine} {S1 : scratch_Scratch} {a : api_Act} (h2 : w.mode_ = 2) (hM : w.job.machine = some M) (h : engine_Machine_Step 1000 M w.Scratch = some (a, M1, S1)) (ha : a.Kind = 1 ∨ a.Kind = 3) :
    worker_Worker_Step 1000 w = some (a, true, ⟨S1, w.Stats, 2, ⟨w.job.hook, w.job.event, w.job.version, w.job.prog, w.job.calls, some M1⟩⟩) := by
  unfold worker_Worker_Step
  rw [if_neg (by simp [h2]), hM]
  simp only [Option.bind_some, h]
  rw [if_neg (by simp; omega), if_neg (by simp; omega), h2]
theorem wstep_ask {w : worker_Worker} {M M1 : engine_Machine} {S1 : scratch_Scratch} {a : api_Act} (h2 : w.mode_ = 2) (hM : w.job.machine = some M) (h : engine_Machine_Step 1000 M w.Scratch = some (a, M1, S1)) (ha : a.Kind = 2) :
    worker_Worker_Step 1000 w = some (a, true, ⟨S1, w.Stats, 3, ⟨w.job.hook, w.job.event, w.job.version, w.job.prog, wu64 (w.job.calls + 1), some M1⟩⟩) := by
  unfold worker_Worker_Step
  rw [if_neg (by simp [h2]), hM]
  simp only [Option.bind_some, h]
  rw [if_pos (by simp [ha])]
theorem wstep_stop {w : worker_Worker} {M M1 : engine_Machine} {S1 : scratch_Scratch} {a : api_Act} (h2 : w.mode_ = 2) (hM : w.job.machine = some M) (h : engine_Machine_Step 1000 M w.Scratch = some (a, M1, S1)) (ha : a.Kind = 4) (h0 : 0 ≤ w.job.hook) (h4 : w.job.hook < 4) (hu : AllU w.Stats) :
    ∃ w', worker_Worker_Step 1000 w = some (a, true, w') ∧ w'.mode_ = 0 ∧ w'.Stats = ⟨aset w.Stats.hooks w.job.hook.toNat (added (w.Stats.hooks w.job.hook.toNat) ⟨1, 0, wu64 M1.steps, w.job.calls, a.Val⟩)⟩ := by
  unfold worker_Worker_Step
  rw [if_neg (by simp [h2]), hM]
  simp only [Option.bind_some, h]
  rw [if_neg (by simp [ha]), if_pos (by simp [ha])]
  unfold engine_Machine_Steps
  simp only [Option.bind_some]
  rw [Ran_eq h0 h4 (hu _)]
  exact ⟨_, rfl, rfl, rfl⟩
theorem wanswer {w : worker_Worker} {M M1 : engine_Machine} {c : api_Res} (h3 : w.mode_ = 3) (hM : w.job.machine = some M) (h : engine_Machine_Answer M c w.Scratch = some (0, M1)) :
    worker_Worker_Answer w c = some (0, ⟨w.Scratch, w.Stats, 2, ⟨w.job.hook, w.job.event, w.job.version, w.job.prog, w.job.calls, some M1⟩⟩) := by
  unfold worker_Worker_Answer
  rw [if_neg (by simp [h3]), hM]
  simp only [Option.bind_some, h]
theorem check_ok {b : Bool} {tr : (List api_Act) × Int} {k : Nat} {a : api_Act} {l : List api_Act} (h : b = true ∨ tr.1.drop k = a :: l) :
    (if (!b) then
        if decide ((k : Int) ≥ ((tr.1).length : Int)) then some true
        else
          (idx tr.1 (k : Int)).bind fun x10510 =>
          some (!((a.Kind == x10510.Kind) && ((a.Pc == x10510.Pc) && (((a.Item.Map == x10510.Item.Map) && ((a.Item.Op == x10510.Item.Op) && ((a.Item.Key == x10510.Item.Key) && ((a.Item.Val == x10510.Item.Val) && true)))) && ((a.Val == x10510.Val) && true)))))
      else some false) = some false := by
  rcases h with rfl | h
  · rfl
  cases b with
  | true => rfl
  | false =>
    have hk : k < tr.1.length := by
      have := congrArg List.length h
      simp at this
      omega
    have hx : tr.1[k]? = some a := by
      have : (tr.1.drop k)[0]? = some a := by rw [h]; rfl
      simpa using this
    obtain ⟨x, x1, x2⟩ := idx_lt hk
    rw [hx] at x1; cases x1
    rw [if_pos (show (!false) = true from rfl), if_neg (by simp; omega), x2]
    simp
variable {s : worker_Worker × Int} {b : Bool} {ans : List api_Res} {tr : (List api_Act) × Int}
theorem l4_end {again : (worker_Worker × Int × Int × api_Act) → Option ((worker_Worker × Int × Int × api_Act) ⊕ Bool)} {w : worker_Worker} {an k : Int} {last : api_Act} (h : w.mode_ = 0) :
    tappetlaw23_WorkerRuns_l4 1000 s b ans tr again (w, an, k, last) = some (.inl (w, an, k, last)) := by
  unfold tappetlaw23_WorkerRuns_l4 worker_Worker_Mode
  simp only [Option.bind_some, h]
  by_cases e : k ≤ 256
  · rw [if_pos (by simpa using e)]; rfl
  · rw [if_neg (by simpa using e)]; rfl
theorem l4_go {again : (worker_Worker × Int × Int × api_Act) → Option ((worker_Worker × Int × Int × api_Act) ⊕ Bool)} {w w1 : worker_Worker} {an : Int} {k : Nat} {last a : api_Act} {l : List api_Act} (h2 : w.mode_ = 2) (hk : k ≤ 256)
    (hv : w.job.version = w64 (s.2 + 5)) (hp : w.job.prog = s.2) (h : worker_Worker_Step 1000 w = some (a, true, w1)) (ha : a.Kind ≠ 2) (hc : b = true ∨ tr.1.drop k = a :: l) :
    tappetlaw23_WorkerRuns_l4 1000 s b ans tr again (w, an, (k : Int), last) = again (w1, an, ((k + 1 : Nat) : Int), a) := by
  unfold tappetlaw23_WorkerRuns_l4 worker_Worker_Mode worker_Worker_Runs
  simp only [Option.bind_some, h, h2, hv, hp]
  rw [if_pos (by simp; omega)]
  simp only [Option.bind_some]
  rw [if_pos (by decide), if_neg (by decide), if_neg (by simp), if_neg (by simp), check_ok hc]
  simp only [Option.bind_some]
  rw [if_neg (by decide), if_neg (by simpa using ha), w64_eq (by omega) (by omega)]
  rfl
theorem l4_ask {again : (worker_Worker × Int × Int × api_Act) → Option ((worker_Worker × Int × Int × api_Act) ⊕ Bool)} {w w1 w2 : worker_Worker} {an k : Nat} {last a : api_Act} {c : api_Res} {l : List api_Act} (h2 : w.mode_ = 2) (hk : k ≤ 256)
    (hv : w.job.version = w64 (s.2 + 5)) (hp : w.job.prog = s.2) (h : worker_Worker_Step 1000 w = some (a, true, w1)) (ha : a.Kind = 2) (hc : b = true ∨ tr.1.drop k = a :: l) (h3 : w1.mode_ = 3)
    (hn : an < ans.length) (hn2 : an ≤ 256) (hi : ans[an]? = some c) (h4 : worker_Worker_Answer w1 c = some (0, w2)) :
    tappetlaw23_WorkerRuns_l4 1000 s b ans tr again (w, (an : Int), (k : Int), last) = again (w2, ((an + 1 : Nat) : Int), ((k + 1 : Nat) : Int), a) := by
  have hi2 : idx ans (an : Int) = some c := by
    obtain ⟨x, x1, x2⟩ := idx_lt hn
    rw [hi] at x1; cases x1; exact x2
  unfold tappetlaw23_WorkerRuns_l4 worker_Worker_Mode worker_Worker_Runs
  simp only [Option.bind_some, h, h2, hv, hp]
  rw [if_pos (by simp; omega)]
  simp only [Option.bind_some]
  rw [if_pos (by decide), if_neg (by decide), if_neg (by simp), if_neg (by simp), check_ok hc]
  simp only [Option.bind_some]
  rw [if_neg (by decide), if_pos (by simp [ha]), Step_off (by omega)]
  simp only [Option.bind_some]
  rw [if_neg (by decide), if_neg (by simp; omega), h3, if_neg (by decide), hi2]
  simp only [Option.bind_some, h4]
  rw [if_neg (by decide), w64_eq (by omega) (by omega), w64_eq (by omega) (by omega)]
  rfl
theorem runs_l4 {M : engine_Machine} {S : scratch_Scratch} {rs : List api_Res} {l : List api_Act} {n : Nat} (h : Acts M S rs l n) : ∀ (fu : Nat) (w : worker_Worker) (an k : Nat) (last : api_Act),
    w.mode_ = 2 → w.job.machine = some M → w.Scratch = S → w.job.version = w64 (s.2 + 5) → w.job.prog = s.2 → 0 ≤ w.job.hook → w.job.hook < 4 → AllU w.Stats → M.steps = k → w.job.calls = an → ans.length = 256 → ans.drop an = rs → (b = true ∨ tr.1.drop k = l) →
    k + l.length ≤ 256 → an ≤ k → l.length < fu →
    ∃ w' a, loop (tappetlaw23_WorkerRuns_l4 1000 s b ans tr) fu (w, (an : Int), (k : Int), last) = some (.inl (w', ((an + n : Nat) : Int), ((k + l.length : Nat) : Int), a)) ∧ w'.mode_ = 0 ∧ a.Kind = 4 ∧ an + n ≤ 256 ∧
      w'.Stats = ⟨aset w.Stats.hooks w.job.hook.toNat (added (w.Stats.hooks w.job.hook.toNat) ⟨1, 0, ((k + l.length : Nat) : Int), ((an + n : Nat) : Int), a.Val⟩)⟩ := by
  induction h with
  | @stop M M1 S S1 a rs g1 g2 g3 =>
    intro fu w an k last h2 hM hSc hv hp h0 h4 hu hs hcl hal hd hc hk hak hf
    subst hSc
    simp only [List.length_cons, List.length_nil] at hk hf ⊢
    obtain ⟨fu, rfl⟩ : ∃ f, fu = f + 1 + 1 := ⟨fu - 2, by omega⟩
    obtain ⟨w', e1, e2, e3⟩ := wstep_stop h2 hM g1 g2 h0 h4 hu
    have hst : wu64 M1.steps = ((k + (0 + 1) : Nat) : Int) := by rw [g3, hs, w64_eq (by omega) (by omega), wu64_eq (by omega) (by omega)]; omega
    refine ⟨w', a, ?_, e2, g2, by omega, by rw [e3, hst, hcl]; rfl⟩
    show tappetlaw23_WorkerRuns_l4 1000 s b ans tr (loop (tappetlaw23_WorkerRuns_l4 1000 s b ans tr) (fu + 1)) (w, (an : Int), (k : Int), last) = _
    rw [l4_go h2 (by omega) hv hp e1 (by omega) hc]
    show tappetlaw23_WorkerRuns_l4 1000 s b ans tr (loop (tappetlaw23_WorkerRuns_l4 1000 s b ans tr) fu) (w', (an : Int), ((k + 1 : Nat) : Int), a) = _
    rw [l4_end e2]
    rfl
  | @ask M M1 M2 S S1 a c rs l n g1 g2 g3 g5 g4 ih =>
    intro fu w an k last h2 hM hSc hv hp h0 h4 hu hs hcl hal hd hc hk hak hf
    subst hSc
    simp only [List.length_cons] at hk hf ⊢
    obtain ⟨fu, rfl⟩ : ∃ f, fu = f + 1 := ⟨fu - 1, by omega⟩
    have hn : an < ans.length := by
      have := congrArg List.length hd
      simp at this
      omega
    have hx : ans[an]? = some c := by
      have : (ans.drop an)[0]? = some c := by rw [hd]; rfl
      simpa using this
    have hd2 : ans.drop (an + 1) = rs := by rw [← List.tail_drop, hd]; rfl
    have e1 := wstep_ask h2 hM g1 g2
    have e2 := wanswer (w := ⟨S1, w.Stats, 3, ⟨w.job.hook, w.job.event, w.job.version, w.job.prog, wu64 (w.job.calls + 1), some M1⟩⟩) (c := c) rfl rfl g3
    have hcl2 : wu64 (w.job.calls + 1) = ((an + 1 : Nat) : Int) := by rw [hcl, wu64_eq (by omega) (by omega)]; omega
    obtain ⟨w', a', e3, e4, e5, e7, e6⟩ := ih fu ⟨S1, w.Stats, 2, ⟨w.job.hook, w.job.event, w.job.version, w.job.prog, wu64 (w.job.calls + 1), some M2⟩⟩ (an + 1) (k + 1) a rfl rfl rfl hv hp h0 h4 hu
      (by rw [g5, hs, w64_eq (by omega) (by omega)]; omega) hcl2 hal hd2 (hc.imp id (fun hc => by rw [← List.tail_drop, hc]; rfl)) (by omega) (by omega) (by omega)
    refine ⟨w', a', ?_, e4, e5, by omega, ?_⟩
    · show tappetlaw23_WorkerRuns_l4 1000 s b ans tr (loop (tappetlaw23_WorkerRuns_l4 1000 s b ans tr) fu) (w, (an : Int), (k : Int), last) = _
      rw [l4_ask h2 (by omega) hv hp e1 g2 hc rfl hn (by omega) hx e2, e3]
      have x1 : an + 1 + n = an + (n + 1) := by omega
      have x2 : k + 1 + l.length = k + (l.length + 1) := by omega
      rw [x1, x2]
    · rw [e6]
      have x1 : an + 1 + n = an + (n + 1) := by omega
      have x2 : k + 1 + l.length = k + (l.length + 1) := by omega
      rw [x1, x2]
  | @go M M1 S S1 a rs l n g1 g2 g5 g3 ih =>
    intro fu w an k last h2 hM hSc hv hp h0 h4 hu hs hcl hal hd hc hk hak hf
    subst hSc
    simp only [List.length_cons] at hk hf ⊢
    obtain ⟨fu, rfl⟩ : ∃ f, fu = f + 1 := ⟨fu - 1, by omega⟩
    have e1 := wstep_go h2 hM g1 g2
    obtain ⟨w', a', e3, e4, e5, e7, e6⟩ := ih fu ⟨S1, w.Stats, 2, ⟨w.job.hook, w.job.event, w.job.version, w.job.prog, w.job.calls, some M1⟩⟩ an (k + 1) a rfl rfl rfl hv hp h0 h4 hu
      (by rw [g5, hs, w64_eq (by omega) (by omega)]; omega) hcl hal hd (hc.imp id (fun hc => by rw [← List.tail_drop, hc]; rfl)) (by omega) (by omega) (by omega)
    refine ⟨w', a', ?_, e4, e5, by omega, ?_⟩
    · show tappetlaw23_WorkerRuns_l4 1000 s b ans tr (loop (tappetlaw23_WorkerRuns_l4 1000 s b ans tr) fu) (w, (an : Int), (k : Int), last) = _
      rw [l4_go h2 (by omega) hv hp e1 (by omega) hc, e3]
      have x2 : k + 1 + l.length = k + (l.length + 1) := by omega
      rw [x2]
    · rw [e6]
      have x2 : k + 1 + l.length = k + (l.length + 1) := by omega
      rw [x2]
def Fits (x : tappetlaw23_Event) : Prop := x.M.Maps.length * 8 ≤ 140737488355328 ∧ x.M.Code.length * 40 ≤ 140737488355328 ∧ (u64 x.E.A ∧ u64 x.E.B) ∧ ∀ r ∈ x.Res, u64 r.Val
theorem hook4 (h : Int) : 0 ≤ (w64 ((h.tmod 4) + 4)).tmod 4 ∧ (w64 ((h.tmod 4) + 4)).tmod 4 < 4 := by
  have a := Int.tmod_lt_of_pos h (b := 4) (by decide)
  have b : -4 < h.tmod 4 := by
    rcases Int.le_total 0 h with e | e
    · have := Int.tmod_nonneg 4 e; omega
    · have h1 := Int.tmod_nonneg (a := -h) 4 (by omega)
      have h2 := Int.tmod_lt_of_pos (-h) (b := 4) (by decide)
      rw [Int.neg_tmod] at h2
      omega
  rw [w64_eq (by omega) (by omega), Int.tmod_eq_emod_of_nonneg (by omega)]
  omega
theorem aset_at {α : Type} (f : Nat → α) (k : Nat) (x : α) : aset f k x k = x := by unfold aset; rw [if_pos rfl]
theorem runs_l1 (p0 : List tappetlaw23_Event) (hp : ∀ x ∈ p0, Fits x) {w : worker_Worker} (hw : w.mode_ = 0) (hu : AllU w.Stats) : OK (loop (tappetlaw23_WorkerRuns_l1 1000 p0) 1000 (w, 0)) (fun o => o = Sum.inl ()) := by
  refine OK.rounds (fun (s : worker_Worker × Int) => s.1.mode_ = 0 ∧ AllU s.1.Stats ∧ 0 ≤ s.2 ∧ s.2 ≤ 40) (fun s => (40 - s.2).toNat) (fun s again hI k => ?_) 1000 _ ⟨hw, hu, Int.le_refl 0, (by omega : (0 : Int) ≤ 40)⟩ (by show (40 - 0 : Int).toNat < 1000; decide)
  obtain ⟨w, i⟩ := s
  obtain ⟨hw, hu, hi0, hi⟩ := hI
  simp only at hw hu hi0 hi
  unfold tappetlaw23_WorkerRuns_l1
  refine OK.ite (fun hc => ?_) (fun _ => OK.ret rfl)
  simp only [Bool.and_eq_true, decide_eq_true_eq] at hc
  have hk : ∀ w' : worker_Worker, w'.mode_ = 0 → AllU w'.Stats → OK (again (w', w64 (i + 1))) (fun o => o = Sum.inl ()) := by
    intro w' a b
    have e1 : w64 (i + 1) = i + 1 := w64_eq (by omega) (by omega)
    rw [e1]
    exact k _ ⟨a, b, by show 0 ≤ i + 1; omega, by show i + 1 ≤ 40; omega⟩ (by show (40 - (i + 1)).toNat < (40 - i).toNat; omega)
  refine OK.bind (OK.get hi0 hc.1 (fun x hx => ?_))
  obtain ⟨f1, f2, f3, f4⟩ := hp x (List.mem_of_getElem? hx)
  obtain ⟨H0, H4⟩ := hook4 x.Hook
  generalize (w64 ((x.Hook.tmod 4) + 4)).tmod 4 = H at H0 H4
  simp only [Of_eq H0 H4, Take_on H0 H4, hw, if_true, Option.bind_some, copied_w _ f1 f2]
  rw [if_neg (by decide)]
  obtain ⟨o, p, e, hj, hcs⟩ := judged_cases x.M
  rw [Judge_eq hj]
  simp only [Option.bind_some]
  rcases hcs with ⟨he, _⟩ | ⟨rfl, rfl, j, rfl, hS⟩
  · rw [Enter_bad rfl hj he]
    simp only [Option.bind_some]
    rw [if_neg (by simp), if_pos (by simpa using he)]
    refine OK.bind2 (R := fun q => q.2 = false ∧ q.1.mode_ = 0 ∧ q.1.Stats = ⟨aset w.Stats.hooks H.toNat (missed (w.Stats.hooks H.toNat))⟩) ?_ (fun q hq => ?_)
    · refine OK.ite_false (by simp) ?_
      show OK (Option.bind (some 1) _) _
      simp only [Option.bind_some]
      rw [if_neg (by decide), Skip_on rfl H0 H4]
      exact OK.ret ⟨rfl, rfl, rfl⟩
    · obtain ⟨q1, q2, q3⟩ := hq
      refine OK.ite_false q1 ?_
      rw [q3]
      simp only [aset_at]
      refine OK.ite_false (by simp [missed]) (hk _ q2 ?_)
      rw [q3]
      exact hu.aset _ (u5_missed (hu _))
  · rw [Enter_good rfl f1 f2 hj]
    simp only [Option.bind_some]
    rw [if_neg (by decide), if_neg (by decide)]
    refine OK.bind2 (l2_marks x) (fun b hb => OK.bind2 (l3_answers x f4) (fun rs hrs => ?_))
    obtain ⟨hlen, hru⟩ := hrs
    have g := hS.good
    have hcost := g.cost
    have hz := sumT_nonneg g.fine x.M.Code.length
    have hps := pot_start g (q := 0)
    obtain ⟨l0, n0, hl0, hA0, hC0⟩ := acts_of hS (sumT x.M.Code x.M.Code.length).toNat (newE x.M x.E) ⟨⟨fun _ => 0⟩, ⟨fun _ => 0⟩⟩ 0 (run0w hS f3 _) rfl (by show pot x.M.Code (fun _ => 0) 0 x.M.Code.length ≤ _; omega) rs hru (by omega)
    obtain ⟨l1, n1, hl1, hA1, _⟩ := acts_of hS (sumT x.M.Code x.M.Code.length).toNat (newE x.M x.E) ⟨⟨fun _ => 0⟩, w.Scratch.Counters⟩ 0 (run0w hS f3 _) rfl (by show pot x.M.Code (fun _ => 0) 0 x.M.Code.length ≤ _; omega) rs hru (by omega)
    rw [Trace_acts f1 f2 hj hA0 (by omega)]
    simp only [Option.bind_some]
    obtain ⟨l, n, hln, hA, hbl⟩ : ∃ l n, l.length ≤ 256 ∧ Acts (newE x.M x.E) ⟨⟨fun _ => 0⟩, w.Scratch.Counters⟩ rs l n ∧ (b = true ∨ l0 = l) := by
      cases b with
      | true => exact ⟨l1, n1, by omega, hA1, .inl rfl⟩
      | false => exact ⟨l0, n0, by omega, hC0 (hb rfl) _, .inr rfl⟩
    obtain ⟨w', a, e1, e2, e3, e5, e4⟩ := runs_l4 (s := (w, i)) (b := b) (ans := rs) (tr := (l0, 0)) hA 1000 ⟨⟨⟨fun _ => 0⟩, w.Scratch.Counters⟩, w.Stats, 2, ⟨H, ⟨w64 (i + 1), x.E⟩, w64 (i + 5), i, 0, some (newE x.M x.E)⟩⟩ 0 0 ⟨0, 0, ⟨0, 0, 0, 0⟩, 0⟩
      rfl rfl rfl rfl rfl H0 H4 hu rfl rfl hlen rfl (hbl.imp id (fun h => by rw [← h]; rfl)) (by omega) (Nat.le_refl _) (by omega)
    have e1' : loop (tappetlaw23_WorkerRuns_l4 1000 (w, i) b rs (l0, 0)) 1000 (⟨⟨⟨fun _ => 0⟩, w.Scratch.Counters⟩, w.Stats, 2, ⟨H, ⟨w64 (i + 1), x.E⟩, w64 (i + 5), i, 0, some (newE x.M x.E)⟩⟩, 0, 0, ⟨0, 0, ⟨0, 0, 0, 0⟩, 0⟩) = _ := e1
    rw [e1']
    simp only [Option.bind_some]
    rw [e4]
    simp only [aset_at]
    obtain ⟨u1, u2, u3, u4, u5⟩ := hu H.toNat
    have zz : wu64 ((w.Stats.hooks H.toNat).Missed + 0) = (w.Stats.hooks H.toNat).Missed := by rw [Int.add_zero, wu64_eq u2.1 u2.2]
    have z1 : wu64 ((0 + l.length : Nat) : Int) = ((0 + l.length : Nat) : Int) := wu64_eq (by omega) (by omega)
    have z2 : wu64 ((0 + n : Nat) : Int) = ((0 + n : Nat) : Int) := wu64_eq (by omega) (by omega)
    refine OK.bind2 (R := fun q => q.2 = false ∧ q.1 = w') ?_ (fun q hq => ?_)
    · refine OK.ite_false (by simp [e3]) (OK.ite_false ?_ ?_)
      · simp only [added, zz, z1, z2]
        simp
      · rw [Answer_off (by omega)]
        simp only [Option.bind_some]
        rw [if_neg (by decide), Skip_off (by omega)]
        exact OK.ret ⟨rfl, rfl⟩
    · obtain ⟨q1, q2⟩ := hq
      refine OK.ite_false q1 ?_
      rw [q2]
      exact hk _ e2 (by rw [e4]; exact hu.aset _ (u5_added _ _))
theorem workerRuns_law (p0 : List tappetlaw23_Event) (hp : ∀ x ∈ p0, Fits x) : tappetlaw23_WorkerRuns 1000 p0 = some true := by
  unfold tappetlaw23_WorkerRuns
  rw [awake_ok]
  simp only [Option.bind_some, Bool.not_true, Bool.false_eq_true, if_false]
  obtain ⟨w, hn, hw, h0⟩ := WI.new ⟨[], []⟩
  rw [hn]
  simp only [Option.bind_some]
  refine OK.is (OK.bind2 (runs_l1 p0 hp h0 hw.told) (fun o ho => ?_))
  subst ho
  exact OK.ret rfl
end Go.Proofs.YtkgajppghpmkbaaDoor

/- flow.Check is the document's; what it says of a code that is taken. -/
import Derived.Test.YtjhmkpklhajpcaaDoorKFlow
set_option linter.unusedVariables false
set_option linter.unusedSimpArgs false
namespace Go.Proofs.YtjhmkpklhajpcaaDoor
open Go.Sx

structure Good (code : List api_Inst) : Prop where
  n1 : 1 ≤ code.length
  n64 : code.length ≤ 64
  fine : Fine code
  cr : ∀ l, l < code.length → ¬ Cr code l
  en : ∀ p, p < code.length → ¬ En code p
  cost : sumT code code.length ≤ 256

theorem flowNested {code : List api_Inst} (hn : code.length ≤ 64) (hD : Fine code) :
    ∃ o, First (Cr code) code.length o ∧ flow_nested code = some (match o with | some l => ((l : Int), 31) | none => (findN (fun p => pick (En code p) ((p : Int), (31 : Int))) code.length 0).getD (0, 0)) := by
  obtain ⟨o, h1, h2⟩ := nested1 hn hD
  refine ⟨o, h1, ?_⟩
  unfold flow_nested
  rw [loops_eq hn hD]
  simp only [Option.bind_some, h2, nested2 hn hD]
  cases o with
  | some l => rfl
  | none => cases findN (fun p => pick (En code p) ((p : Int), (31 : Int))) code.length 0 <;> rfl

theorem check_both (code : List api_Inst) (fu : Nat) (hf : 100 ≤ fu) : ∃ r, flow_Check code = some r ∧ tappetref07_Check fu code = some r ∧ (r.2 = 0 → r.1 = 0 ∧ Good code) ∧ (Good code → r.2 = 0) := by
  unfold flow_Check tappetref07_Check
  by_cases h0 : code.length = 0
  · refine ⟨(0, 10), ?_, ?_, by simp, fun h => by have := h.n1; omega⟩ <;> simp [h0]
  · have e0 : ((code.length : Int) == 0) = false := by simp; exact fun h => h0 (by simp [h])
    by_cases h1 : 64 < code.length
    · have e1 : decide ((code.length : Int) > 64) = true := by simp; omega
      refine ⟨(0, 11), ?_, ?_, by simp, fun h => by have := h.n64; omega⟩ <;> simp only [e0, e1] <;> rfl
    · have e1 : decide ((code.length : Int) > 64) = false := by simp; omega
      have hn : code.length ≤ 64 := by omega
      simp only [e0, e1, places_eq code hn, refPlaces code hn, Option.bind_some]
      cases hp : findN (placeErr code) code.length 0 with
      | some v =>
        obtain ⟨j, _, h2, h3, _⟩ := findN_some hp
        have hne : v.2 ≠ 0 := by
          unfold placeErr at h3
          split at h3
          · split at h3
            · cases h3
            · rename_i h4; cases h3; exact h4
          · cases h3
        refine ⟨v, ?_, ?_, fun h => absurd h hne, fun h => ?_⟩
        · have : (v.2 != 0) = true := by simpa using hne
          simp [this]
        · rfl
        · rw [fine_none h.fine] at hp; cases hp
      | none =>
        have hD := fine_of hp
        obtain ⟨B, hB0, hBl, hB⟩ := bodies_eq hn hD fu hf
        obtain ⟨o, o1, o2⟩ := flowNested hn hD
        obtain ⟨o', o1', o2'⟩ := refCrossing hn hD hB hBl fu
        have := First.unique o1 o1'
        subst this
        simp only [sumOf, hB0, o2, o2', Option.bind_some, Option.getD_none]
        cases o with
        | some l =>
          refine ⟨((l : Int), 31), by simp, by simp, by simp, fun h => absurd o1.2.1 (h.cr l o1.1)⟩
        | none =>
          simp only [refEntering hn hD hB hBl fu hf, Option.bind_some]
          obtain ⟨p, p1, p2⟩ := first_findN (X := En code) (n := code.length) (v := fun p => ((p : Int), (31 : Int)))
          obtain ⟨p', p1', p2'⟩ := first_findN (X := En code) (n := code.length) (v := fun p => ((p : Int), true))
          have := First.unique p1 p1'
          subst this
          rw [p2, p2']
          cases p with
          | some l => exact ⟨((l : Int), 31), by simp, by simp, by simp, fun h => absurd p1.2.1 (h.en l p1.1)⟩
          | none =>
            obtain ⟨S, hS, hS2⟩ := refCost hn hD hB hBl fu hf
            simp only [flowCost hn hD, hS, Option.bind_some, Option.map_none, Option.getD_none]
            have hS3 : decide (S > 256) = decide (mn (sumT code code.length) > 256) := by
              rw [← hS2, Bool.eq_iff_iff]; unfold mn; simp; split <;> omega
            rw [hS3]
            have hmn := mn_le (sumT code code.length)
            by_cases hc : mn (sumT code code.length) > 256
            · refine ⟨(0, 32), by simp [hc], by simp [hc], by simp, fun h => ?_⟩
              have := h.cost; omega
            · refine ⟨(0, 0), by simp [hc], by simp [hc], fun _ => ⟨rfl, ⟨by omega, hn, hD, o1, p1, ?_⟩⟩, fun _ => rfl⟩
              unfold mn at hc
              split at hc <;> omega
theorem check_good {code : List api_Inst} (h : Good code) : flow_Check code = some (0, 0) := by
  obtain ⟨r, h1, _, h2, h3⟩ := check_both code 100 (by omega)
  have := h3 h
  have h4 := (h2 this).1
  rw [h1]
  obtain ⟨a, b⟩ := r
  simp only at this h4
  subst this; subst h4; rfl
theorem good_loops {code : List api_Inst} (h : Good code) : flow_Loops code = some (lps code code.length, 0) := by
  unfold flow_Loops
  rw [check_good h]
  simp [loops_eq h.n64 h.fine]
theorem mn_small {x : Int} (h : x ≤ 256) : mn x = x := by unfold mn; rw [if_pos (by omega)]
theorem good_cost {code : List api_Inst} (h : Good code) : flow_Cost code = some (sumT code code.length, 0) := by
  unfold flow_Cost
  rw [check_good h]
  simp [flowCost h.n64 h.fine, mn_small h.cost]
theorem copied_eq (code : List api_Inst) (h : code.length * 40 ≤ 140737488355328) : tappetlaw07_copied code = some code := by
  unfold tappetlaw07_copied
  have : room (([] : List api_Inst).length + code.length) 40 = some () := by unfold room; rw [if_pos (by simpa using h)]
  rw [this]; rfl
set_option maxRecDepth 100000 in
theorem awake_true : tappetlaw07_awake = some true := by decide +kernel

theorem inst_eq (x y : api_Inst) (h : x = y) : ((x.Op == y.Op) && ((x.D == y.D) && ((x.A == y.A) && ((x.B == y.B) && ((x.Imm == y.Imm) && true))))) = true := by subst h; simp
theorem flowChecks_law (code : List api_Inst) (h : code.length * 40 ≤ 140737488355328) : tappetlaw07_FlowChecks 100 code = some true := by
  obtain ⟨r, h1, h2, _, _⟩ := check_both code 100 (by omega)
  unfold tappetlaw07_FlowChecks
  simp only [awake_true, copied_eq code h, h1, h2, Option.bind_some]
  rw [search0 (fun _ => none) (N := code.length)]
  · rw [findN_none' (fun _ _ _ => rfl)]
    simp [sumOf]
  · intro j again hj
    unfold tappetlaw07_FlowChecks_l1
    simp only [idxN hj, Option.bind_some, inst_eq _ _ rfl]
    rfl
theorem ref_loops (code : List api_Inst) (fu : Nat) (hf : 100 ≤ fu) : ∃ l e, flow_Loops code = some (l, e) ∧ tappetref07_Loops fu code = some (l, e) ∧ (e = 0 → Good code ∧ l = lps code code.length) ∧ (e ≠ 0 → l = []) := by
  obtain ⟨r, h1, h2, h3, h4⟩ := check_both code fu hf
  unfold flow_Loops tappetref07_Loops
  simp only [h1, h2, Option.bind_some]
  by_cases h : r.2 = 0
  · have g := (h3 h).2
    exact ⟨lps code code.length, 0, by simp [h, loops_eq g.n64 g.fine], by simp [h, refLoops_eq g.n64 g.fine], fun _ => ⟨g, rfl⟩, fun h => absurd rfl h⟩
  · have : (r.2 != 0) = true := by simpa using h
    exact ⟨[], r.2, by simp [this], by simp [this], fun e => absurd e h, fun _ => rfl⟩
theorem ref_cost (code : List api_Inst) (fu : Nat) (hf : 100 ≤ fu) : ∃ l e, flow_Cost code = some (l, e) ∧ tappetref07_Cost fu code = some (l, e) := by
  obtain ⟨r, h1, h2, h3, h4⟩ := check_both code fu hf
  unfold flow_Cost tappetref07_Cost
  simp only [h1, h2, Option.bind_some]
  by_cases h : r.2 = 0
  · have g := (h3 h).2
    obtain ⟨B, hB0, hBl, hB⟩ := bodies_eq g.n64 g.fine fu hf
    obtain ⟨S, hS, hS2⟩ := refCost g.n64 g.fine hB hBl fu hf
    have e : S = sumT code code.length := by
      have := g.cost
      rw [mn_small this] at hS2
      unfold mn at hS2
      split at hS2 <;> omega
    refine ⟨sumT code code.length, 0, by simp [h, flowCost g.n64 g.fine, mn_small g.cost], by simp [h, hB0, hS, e]⟩
  · have : (r.2 != 0) = true := by simpa using h
    exact ⟨0, r.2, by simp [this], by simp [this]⟩
theorem loop_eq (x y : api_Loop) (h : x = y) : ((x.Head == y.Head) && ((x.At == y.At) && ((x.Bound == y.Bound) && true))) = true := by subst h; simp
theorem flowLoops_law (code : List api_Inst) (h : code.length * 40 ≤ 140737488355328) : tappetlaw07_FlowLoops 100 code = some true := by
  obtain ⟨l, e, h1, h2, h3, h4⟩ := ref_loops code 100 (by omega)
  obtain ⟨c, f, h5, h6⟩ := ref_cost code 100 (by omega)
  unfold tappetlaw07_FlowLoops
  simp only [awake_true, copied_eq code h, h1, h2, h5, h6, Option.bind_some]
  have hl : l.length ≤ 64 := by
    by_cases he : e = 0
    · obtain ⟨g, rfl⟩ := h3 he
      have := lps_len code code.length
      have := g.n64
      omega
    · rw [h4 he]; simp
  have hloop : OK (loop tappetlaw07_FlowLoops_l1 100 (l, 0)) (fun _ => True) := by
    refine OK.rounds (fun (s : List api_Loop × Int) => 0 ≤ s.2 ∧ s.2 ≤ s.1.length ∧ s.1.length = l.length) (fun s => ((l.length : Int) - s.2).toNat) ?_ 100 _ ⟨by simp, by simp, rfl⟩ (by simp; omega)
    rintro ⟨xs, i⟩ again ⟨i0, i1, i2⟩ k
    simp only at i0 i1 i2
    unfold tappetlaw07_FlowLoops_l1
    refine OK.ite (fun hc => ?_) (fun hc => OK.ret trivial)
    have hi : i < xs.length := by simpa using hc
    refine OK.bind (OK.get i0 hi (fun x hx => ?_))
    have e3 : w64 (i + 1) = i + 1 := w64_eq (by omega) (by omega)
    rw [e3]
    exact k _ ⟨by simp only; omega, by simp only [List.length_set]; omega, by simpa using i2⟩ (by simp only; omega)
  obtain ⟨u, hu, _⟩ := hloop
  simp only [bne_self_eq_false, Bool.or_self, Bool.false_eq_true, if_false, hu, Option.bind_some]
  rw [search0 (fun _ => none) (N := l.length)]
  · rw [findN_none' (fun _ _ _ => rfl)]
    simp [sumOf]
  · intro j again hj
    unfold tappetlaw07_FlowLoops_l2
    simp only [idxN hj, Option.bind_some, loop_eq _ _ rfl]
    rfl
end Go.Proofs.YtjhmkpklhajpcaaDoor

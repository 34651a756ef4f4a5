/- flow.Check: always an answer; what it says of a code that is taken. -/
import Derived.Test.YtkgajppghpmkbaaDoorKFlow
set_option linter.unusedVariables false
set_option linter.unusedSimpArgs false
namespace Go.Proofs.YtkgajppghpmkbaaDoor
open Go.Sx

structure Good (code : List api_Inst) : Prop where
  n1 : 1 ≤ code.length
  n64 : code.length ≤ 64
  fine : Fine code
  cr : ∀ l, l < code.length → ¬ Cr code l
  en : ∀ p, p < code.length → ¬ En code p
  cost : sumT code code.length ≤ 256

theorem flowNested {code : List api_Inst} (hn : code.length ≤ 64) (hD : Fine code) :
    ∃ o, First (Cr code) code.length o ∧ flow_nested code = some (match o with | some l => ((l : Int), 31) | none => (findN (fun p => pick (En code p) ((p : Int), (31 : Int))) code.length 0).getD (0, 0)) := by
  obtain ⟨o, h1, h2⟩ := nested1 hn hD
  refine ⟨o, h1, ?_⟩
  unfold flow_nested
  rw [loops_eq hn hD]
  simp only [Option.bind_some, h2, nested2 hn hD]
  cases o with
  | some l => rfl
  | none => cases findN (fun p => pick (En code p) ((p : Int), (31 : Int))) code.length 0 <;> rfl

theorem check_one (code : List api_Inst) : ∃ r, flow_Check code = some r ∧ (r.1 = 0 ∨ 0 ≤ r.1 ∧ r.1 < code.length) ∧ (r.2 = 0 → r.1 = 0 ∧ Good code) ∧ (Good code → r.2 = 0) := by
  unfold flow_Check
  by_cases h0 : code.length = 0
  · refine ⟨(0, 10), ?_, .inl rfl, by simp, fun h => by have := h.n1; omega⟩
    simp [h0]
  · have e0 : ((code.length : Int) == 0) = false := by simp; exact fun h => h0 (by simp [h])
    by_cases h1 : 64 < code.length
    · have e1 : decide ((code.length : Int) > 64) = true := by simp; omega
      refine ⟨(0, 11), ?_, .inl rfl, by simp, fun h => by have := h.n64; omega⟩
      simp only [e0, e1]; rfl
    · have e1 : decide ((code.length : Int) > 64) = false := by simp; omega
      have hn : code.length ≤ 64 := by omega
      simp only [e0, e1, places_eq code hn, Option.bind_some]
      cases hp : findN (placeErr code) code.length 0 with
      | some v =>
        obtain ⟨j, _, h2, h3, _⟩ := findN_some hp
        have hne : v.2 ≠ 0 ∧ v.1 = j := by
          unfold placeErr at h3
          split at h3
          · split at h3
            · cases h3
            · rename_i h4; cases h3; exact ⟨h4, rfl⟩
          · cases h3
        refine ⟨v, ?_, .inr ⟨by rw [hne.2]; omega, by rw [hne.2]; omega⟩, fun h => absurd h hne.1, fun h => ?_⟩
        · have : (v.2 != 0) = true := by simpa using hne.1
          simp [this]
        · rw [fine_none h.fine] at hp; cases hp
      | none =>
        have hD := fine_of hp
        obtain ⟨o, o1, o2⟩ := flowNested hn hD
        simp only [o2, Option.bind_some, Option.getD_none]
        cases o with
        | some l =>
          have := o1.1
          refine ⟨((l : Int), 31), by simp, .inr ⟨by simp, by simpa using this⟩, by simp, fun h => absurd o1.2.1 (h.cr l o1.1)⟩
        | none =>
          obtain ⟨p, p1, p2⟩ := first_findN (X := En code) (n := code.length) (v := fun p => ((p : Int), (31 : Int)))
          rw [p2]
          cases p with
          | some l =>
            have := p1.1
            exact ⟨((l : Int), 31), by simp, .inr ⟨by simp, by simpa using this⟩, by simp, fun h => absurd p1.2.1 (h.en l p1.1)⟩
          | none =>
            simp only [flowCost hn hD, Option.bind_some, Option.map_none, Option.getD_none]
            have hmn := mn_le (sumT code code.length)
            by_cases hc : mn (sumT code code.length) > 256
            · refine ⟨(0, 32), by simp [hc], .inl rfl, by simp, fun h => ?_⟩
              have := h.cost; omega
            · refine ⟨(0, 0), by simp [hc], .inl rfl, fun _ => ⟨rfl, ⟨by omega, hn, hD, o1, p1, ?_⟩⟩, fun _ => rfl⟩
              unfold mn at hc
              split at hc <;> omega
theorem check_good {code : List api_Inst} (h : Good code) : flow_Check code = some (0, 0) := by
  obtain ⟨r, h1, _, h2, h3⟩ := check_one code
  have := h3 h
  have h4 := (h2 this).1
  rw [h1]
  obtain ⟨a, b⟩ := r
  simp only at this h4
  subst this; subst h4; rfl
theorem good_loops {code : List api_Inst} (h : Good code) : flow_Loops code = some (lps code code.length, 0) := by
  unfold flow_Loops
  rw [check_good h]
  simp [loops_eq h.n64 h.fine]
end Go.Proofs.YtkgajppghpmkbaaDoor

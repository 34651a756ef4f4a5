/- LinesFresh: the plain law. -/
import Derived.Test.YteaedkohbgediaaDoorKParse
set_option linter.unusedVariables false
set_option linter.unusedSimpArgs false
namespace Go.Proofs.YteaedkohbgediaaDoor
open Go.Sx

theorem fresh_loop (xs : List api_Inst) (fu : Nat) (h : xs.length < fu) (hl : xs.length ≤ 9223372036854775806) : OK (loop tappetlaw03_LinesFresh_l1 fu (xs, 0)) (fun r => r.length = xs.length) := by
  refine OK.rounds (fun (s : List api_Inst × Int) => s.1.length = xs.length ∧ 0 ≤ s.2 ∧ s.2 ≤ (xs.length : Int)) (fun s => ((xs.length : Int) - s.2).toNat) (fun s again hI k => ?_) fu (xs, 0) ⟨rfl, by simp, by simp⟩ (by simp; omega)
  obtain ⟨a, i⟩ := s
  obtain ⟨h1, h2, h3⟩ := hI
  simp only at h1 h2 h3
  unfold tappetlaw03_LinesFresh_l1
  refine OK.ite (fun e => ?_) (fun e => OK.ret h1)
  have e : i < (a.length : Int) := by simpa using e
  refine OK.bind (OK.get h2 e (fun x hx => ?_))
  have hw : w64 (i + 1) = i + 1 := w64_eq (by omega) (by omega)
  refine k _ ⟨by simp [h1], ?_, ?_⟩ ?_
  · show 0 ≤ w64 (i + 1); omega
  · show w64 (i + 1) ≤ _; omega
  · show ((xs.length : Int) - w64 (i + 1)).toNat < ((xs.length : Int) - i).toNat; omega
theorem linesFresh_law (p0 : List api_Inst) (hl : (p0.length + 2) * 40 ≤ 140737488355328) (hI : ∀ x ∈ p0, immOk x) : tappetlaw03_LinesFresh (p0.length + 1000) p0 = some true := by
  have key : ∃ (s : ByteArray) (xs : List api_Inst) (n e : Int), lines_Print 1000 p0 = some (s, e) ∧ xs.length ≤ p0.length ∧ lines_Parse (p0.length + 1000) s = some (xs, n, 0) := by
    rw [Print_eq (by omega) hI]
    cases ha : p0.all rightB with
    | true =>
      have hall := List.all_eq_true.1 ha
      exact ⟨_, p0, 0, 0, rfl, Nat.le_refl _, parse_lines (fun x hx => ⟨hall x hx, hI x hx⟩) (by omega) (by omega)⟩
    | false => exact ⟨_, [], 0, 12, rfl, Nat.zero_le _, parse_lines (xs := []) (fun x hx => by cases hx) (by decide) (by simp)⟩
  obtain ⟨s, xs, n, e, h1, h2, h3⟩ := key
  refine OK.is ?_
  unfold tappetlaw03_LinesFresh
  rw [awake_fu (by omega), print_fu (by omega), h1]
  simp only [Option.bind_some, Bool.not_true, Bool.false_eq_true, if_false, h3]
  refine OK.bind2 (fresh_loop xs _ (by omega) (by omega)) (fun o ho => ?_)
  refine OK.bind (OK.hasRoom (by simp; omega) ?_)
  rw [alike_refl]
  simp only [Option.bind_some, if_true]
  refine OK.ret ?_
  rw [w64_eq (by omega) (by omega)]
  simp [ho]
end Go.Proofs.YteaedkohbgediaaDoor

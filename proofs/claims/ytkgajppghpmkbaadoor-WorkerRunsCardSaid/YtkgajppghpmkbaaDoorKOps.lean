/- What ops' functions and the document's compute: the same plain answers. -/
import Derived.Test.YtkgajppghpmkbaaDoorPure
import Derived.Test.YtkgajppghpmkbaaDoorF1
set_option linter.unusedVariables false
set_option linter.unusedSimpArgs false
namespace Go.Proofs.YtkgajppghpmkbaaDoor
open Go.Sx

def regB (n : Int) : Bool := decide (0 ≤ n) && decide (n < 8)
def srcB (i : api_Inst) : Bool := i.B == 8 || (regB i.B && i.Imm == 0)
def inB (n lo hi : Int) : Bool := decide (lo ≤ n) && decide (n ≤ hi)
def rightB (i : api_Inst) : Bool :=
  if i.Op == 0 || i.Op == 11 then regB i.D && i.A == 0 && srcB i
  else if inB i.Op 1 10 then regB i.D && regB i.A && srcB i
  else if i.Op == 12 then i.D == 0 && regB i.A && srcB i
  else if i.Op == 13 then regB i.D && i.A == 0 && i.B == 0 && inB i.Imm 0 1
  else if i.Op == 14 then regB i.D && i.A == 0 && i.B == 0 && inB i.Imm 0 3
  else if i.Op == 15 then inB i.D 0 63 && i.A == 0 && i.B == 0 && i.Imm == 0
  else if inB i.Op 16 19 then inB i.D 0 63 && regB i.A && srcB i
  else if i.Op == 20 then inB i.D 1 63 && regB i.A && i.B == 0 && inB i.Imm 1 255
  else if i.Op == 21 then i.D == 0 && i.A == 0 && i.B == 0 && inB i.Imm 0 6
  else if i.Op == 22 then i.D == 0 && regB i.A && i.B == 0 && i.Imm == 0
  else false
def jumpsB (i : api_Inst) : Bool := rightB i && inB i.Op 15 19
def loopsB (i : api_Inst) : Bool := rightB i && i.Op == 20
def goesB (i : api_Inst) : Int × Bool × Bool :=
  if jumpsB i then (i.D + 1, true, i.Op != 15)
  else if loopsB i then (-i.D, true, true)
  else (0, false, rightB i && i.Op != 22)

theorem ops_cases (n : Int) : n < 0 ∨ n ≥ 23 ∨ n = 0 ∨ n = 1 ∨ n = 2 ∨ n = 3 ∨ n = 4 ∨ n = 5 ∨ n = 6 ∨ n = 7 ∨ n = 8 ∨ n = 9 ∨ n = 10 ∨ n = 11 ∨ n = 12 ∨ n = 13 ∨ n = 14 ∨ n = 15 ∨ n = 16 ∨ n = 17 ∨ n = 18 ∨ n = 19 ∨ n = 20 ∨ n = 21 ∨ n = 22 := by omega

theorem register_eq (n : Int) : ops_register n = some (regB n) := rfl
theorem within_eq (n lo hi : Int) : ops_within n lo hi = some (inB n lo hi) := rfl
def fstep (p : api_Inst) (s : Bool × api_Inst) (c : Int) : Bool × api_Inst :=
  if c == 100 then (s.1 && regB p.D, ⟨s.2.Op, 0, s.2.A, s.2.B, s.2.Imm⟩)
  else if c == 97 then (s.1 && regB p.A, ⟨s.2.Op, s.2.D, 0, s.2.B, s.2.Imm⟩)
  else if c == 115 then (if p.B == 8 then (s.1, ⟨s.2.Op, s.2.D, s.2.A, 0, 0⟩) else (s.1 && regB p.B, ⟨s.2.Op, s.2.D, s.2.A, 0, s.2.Imm⟩))
  else if c == 102 then (s.1 && inB p.Imm 0 1, ⟨s.2.Op, s.2.D, s.2.A, s.2.B, 0⟩)
  else if c == 109 then (s.1 && inB p.Imm 0 3, ⟨s.2.Op, s.2.D, s.2.A, s.2.B, 0⟩)
  else if c == 104 then (s.1 && inB p.Imm 0 6, ⟨s.2.Op, s.2.D, s.2.A, s.2.B, 0⟩)
  else if c == 110 then (s.1 && inB p.Imm 1 255, ⟨s.2.Op, s.2.D, s.2.A, s.2.B, 0⟩)
  else if c == 106 then (s.1 && inB p.D 0 63, ⟨s.2.Op, 0, s.2.A, s.2.B, s.2.Imm⟩)
  else if c == 98 then (s.1 && inB p.D 1 63, ⟨s.2.Op, 0, s.2.A, s.2.B, s.2.Imm⟩)
  else s
section
variable {p : api_Inst} {x : Bool} {o d a b m : Int}
theorem fs_d : fstep p (x, ⟨o, d, a, b, m⟩) 100 = (x && regB p.D, ⟨o, 0, a, b, m⟩) := rfl
theorem fs_a : fstep p (x, ⟨o, d, a, b, m⟩) 97 = (x && regB p.A, ⟨o, d, 0, b, m⟩) := rfl
theorem fs_s : fstep p (x, ⟨o, d, a, b, m⟩) 115 = (if p.B == 8 then (x, ⟨o, d, a, 0, 0⟩) else (x && regB p.B, ⟨o, d, a, 0, m⟩)) := rfl
theorem fs_f : fstep p (x, ⟨o, d, a, b, m⟩) 102 = (x && inB p.Imm 0 1, ⟨o, d, a, b, 0⟩) := rfl
theorem fs_m : fstep p (x, ⟨o, d, a, b, m⟩) 109 = (x && inB p.Imm 0 3, ⟨o, d, a, b, 0⟩) := rfl
theorem fs_h : fstep p (x, ⟨o, d, a, b, m⟩) 104 = (x && inB p.Imm 0 6, ⟨o, d, a, b, 0⟩) := rfl
theorem fs_n : fstep p (x, ⟨o, d, a, b, m⟩) 110 = (x && inB p.Imm 1 255, ⟨o, d, a, b, 0⟩) := rfl
theorem fs_j : fstep p (x, ⟨o, d, a, b, m⟩) 106 = (x && inB p.D 0 63, ⟨o, 0, a, b, m⟩) := rfl
theorem fs_b : fstep p (x, ⟨o, d, a, b, m⟩) 98 = (x && inB p.D 1 63, ⟨o, 0, a, b, m⟩) := rfl
end
theorem ite_again {σ ρ : Type} {again : σ → Option ρ} {c : Bool} {A B : Option ρ} {a b : σ} (hA : A = again a) (hB : B = again b) : (if c then A else B) = again (if c then a else b) := by
  cases c <;> simp [hA, hB]
theorem and_again {σ ρ : Type} {again : (Bool × σ) → Option ρ} {x y : Bool} {z : σ} : (if x then again (y, z) else again (false, z)) = again (x && y, z) := by
  cases x <;> simp
theorem l1_step {p : api_Inst} {r : ops_form × Bool} {i : Nat} {c : Int} {again : (Bool × api_Inst) → Option (Bool × api_Inst)} {s : Bool × api_Inst} (h : sidx r.1.fields (i : Int) = some c) :
    ops_right_l1 p r i again s = again (fstep p s c) := by
  unfold ops_right_l1 fstep
  simp only [h, Option.bind_some, register_eq, within_eq]
  refine ite_again and_again ?_
  refine ite_again and_again ?_
  refine ite_again (ite_again rfl and_again) ?_
  refine ite_again and_again ?_
  refine ite_again and_again ?_
  refine ite_again and_again ?_
  refine ite_again and_again ?_
  refine ite_again and_again ?_
  refine ite_again and_again rfl
def fin (x : Bool × api_Inst) : Bool := x.1 && ((x.2.Op == 0) && ((x.2.D == 0) && ((x.2.A == 0) && ((x.2.B == 0) && (x.2.Imm == 0)))))
theorem right_at {p : api_Inst} {f : ops_form} (ho : ops_of p.Op = some (f, true)) {x : Bool × api_Inst} (hz : f.fields.size ≤ 3)
    (h : forN (ops_right_l1 p (f, true)) (fun (s : Bool × api_Inst) => (s.1, s.2)) f.fields.size 0 (true, ⟨0, p.D, p.A, p.B, p.Imm⟩) = some x) : ops_right p = some (fin x) := by
  have hr : room f.fields.size 1 = some () := by unfold room; rw [if_pos (by omega)]
  unfold ops_right fin
  simp only [ho, Option.bind_some, h, hr]
  cases x.1 <;> simp
theorem run1 {p : api_Inst} {f : ops_form} {c0 : Int} (ho : ops_of p.Op = some (f, true)) (hs : f.fields.size = 1) (h0 : sidx f.fields 0 = some c0) :
    ops_right p = some (fin (fstep p (true, ⟨0, p.D, p.A, p.B, p.Imm⟩) c0)) := by
  refine right_at ho (by omega) ?_
  rw [hs]
  simp only [forN]
  rw [l1_step (i := 0) (by simpa using h0)]
theorem run2 {p : api_Inst} {f : ops_form} {c0 c1 : Int} (ho : ops_of p.Op = some (f, true)) (hs : f.fields.size = 2) (h0 : sidx f.fields 0 = some c0) (h1 : sidx f.fields 1 = some c1) :
    ops_right p = some (fin (fstep p (fstep p (true, ⟨0, p.D, p.A, p.B, p.Imm⟩) c0) c1)) := by
  refine right_at ho (by omega) ?_
  rw [hs]
  simp only [forN]
  rw [l1_step (i := 0) (by simpa using h0), l1_step (i := 0 + 1) (by simpa using h1)]
theorem run3 {p : api_Inst} {f : ops_form} {c0 c1 c2 : Int} (ho : ops_of p.Op = some (f, true)) (hs : f.fields.size = 3) (h0 : sidx f.fields 0 = some c0) (h1 : sidx f.fields 1 = some c1) (h2 : sidx f.fields 2 = some c2) :
    ops_right p = some (fin (fstep p (fstep p (fstep p (true, ⟨0, p.D, p.A, p.B, p.Imm⟩) c0) c1) c2)) := by
  refine right_at ho (by omega) ?_
  rw [hs]
  simp only [forN]
  rw [l1_step (i := 0) (by simpa using h0), l1_step (i := 0 + 1) (by simpa using h1), l1_step (i := 0 + 1 + 1) (by simpa using h2)]
theorem opsRight_eq (i : api_Inst) : ops_right i = some (rightB i) := by
  have hcase := ops_cases i.Op
  obtain ⟨op, d, a, b, m⟩ := i
  simp only at hcase
  have out : op < 0 ∨ op ≥ 23 → ops_right ⟨op, d, a, b, m⟩ = some (rightB ⟨op, d, a, b, m⟩) := by
    intro h
    have e : ops_of op = some (⟨ByteArray.empty, ByteArray.empty⟩, false) := by unfold ops_of; rw [if_pos (by simp; omega)]
    have k : ∀ k : Int, 0 ≤ k → k ≤ 22 → (op == k) = false := by intro k h1 h2; simp; omega
    have d1 : inB op 1 10 = false := by simp [inB]; omega
    have d2 : inB op 16 19 = false := by simp [inB]; omega
    have r : rightB ⟨op, d, a, b, m⟩ = false := by
      unfold rightB
      simp only [k 0 (by decide) (by decide), k 11 (by decide) (by decide), k 12 (by decide) (by decide), k 13 (by decide) (by decide), k 14 (by decide) (by decide), k 15 (by decide) (by decide), k 20 (by decide) (by decide), k 21 (by decide) (by decide), k 22 (by decide) (by decide), d1, d2]
      rfl
    unfold ops_right
    rw [r]; simp [e]
  rcases hcase with h | h | h | h | h | h | h | h | h | h | h | h | h | h | h | h | h | h | h | h | h | h | h | h | h
  · exact out (.inl h)
  · exact out (.inr h)
  all_goals subst h
  all_goals
    first
      | rw [run2 (c0 := 100) (c1 := 115) rfl rfl rfl rfl]
      | rw [run3 (c0 := 100) (c1 := 97) (c2 := 115) rfl rfl rfl rfl rfl]
      | rw [run2 (c0 := 97) (c1 := 115) rfl rfl rfl rfl]
      | rw [run2 (c0 := 100) (c1 := 102) rfl rfl rfl rfl]
      | rw [run2 (c0 := 100) (c1 := 109) rfl rfl rfl rfl]
      | rw [run1 (c0 := 106) rfl rfl rfl]
      | rw [run3 (c0 := 106) (c1 := 97) (c2 := 115) rfl rfl rfl rfl rfl]
      | rw [run3 (c0 := 98) (c1 := 97) (c2 := 110) rfl rfl rfl rfl rfl]
      | rw [run1 (c0 := 104) rfl rfl rfl]
      | rw [run1 (c0 := 97) rfl rfl rfl]
    congr 1
    simp only [fs_d, fs_a, fs_s, fs_f, fs_m, fs_h, fs_n, fs_j, fs_b, fin, rightB, srcB]
    cases h8 : (b == 8)
    · simp [h8, inB]
      try (rw [Bool.eq_iff_iff]; simp; constructor <;> intro h <;> simp_all; done)
    · simp only [beq_iff_eq] at h8
      subst h8
      simp [inB]
      try (rw [Bool.eq_iff_iff]; simp; constructor <;> intro h <;> simp_all; done)
theorem uses_eq (op : Int) (h0 : 0 ≤ op) (h1 : op < 23) : ∃ f, ops_of op = some (f, true) ∧ ops_form_uses f 106 = some (inB op 15 19) ∧ ops_form_uses f 98 = some (op == 20) := by
  have hcase := ops_cases op
  rcases hcase with h | h | h | h | h | h | h | h | h | h | h | h | h | h | h | h | h | h | h | h | h | h | h | h | h
  · omega
  · omega
  all_goals subst h
  all_goals exact ⟨_, rfl, rfl, rfl⟩
theorem rightB_op {i : api_Inst} (h : rightB i = true) : 0 ≤ i.Op ∧ i.Op < 23 := by
  rcases Int.lt_or_le i.Op 0 with h0 | h0
  · exfalso
    have k : ∀ k : Int, 0 ≤ k → (i.Op == k) = false := by intro k h1; simp; omega
    unfold rightB inB at h
    simp only [k 0 (by decide), k 11 (by decide), k 12 (by decide), k 13 (by decide), k 14 (by decide), k 15 (by decide), k 20 (by decide), k 21 (by decide), k 22 (by decide)] at h
    simp at h
    repeat' (split at h)
    all_goals first
      | omega
      | cases h
  · refine ⟨h0, ?_⟩
    rcases Int.lt_or_le i.Op 23 with h1 | h1
    · exact h1
    · exfalso
      have k : ∀ k : Int, k ≤ 22 → (i.Op == k) = false := by intro k h1; simp; omega
      unfold rightB inB at h
      simp only [k 0 (by decide), k 11 (by decide), k 12 (by decide), k 13 (by decide), k 14 (by decide), k 15 (by decide), k 20 (by decide), k 21 (by decide), k 22 (by decide)] at h
      simp at h
      repeat' (split at h)
      all_goals first
        | omega
        | cases h
theorem jump_D {i : api_Inst} (h : jumpsB i = true) : 0 ≤ i.D ∧ i.D ≤ 63 ∧ 15 ≤ i.Op ∧ i.Op ≤ 19 := by
  unfold jumpsB at h
  simp only [Bool.and_eq_true] at h
  obtain ⟨hr, ho⟩ := h
  have hb : 15 ≤ i.Op ∧ i.Op ≤ 19 := by simpa [inB] using ho
  refine ⟨?_, ?_, hb⟩ <;>
  · have k : ∀ k : Int, k < 15 ∨ k > 19 → (i.Op == k) = false := by intro k h1; simp; omega
    have d1 : inB i.Op 1 10 = false := by simp [inB]; omega
    unfold rightB at hr
    simp only [k 0 (by decide), k 11 (by decide), k 12 (by decide), k 13 (by decide), k 14 (by decide), k 20 (by decide), k 21 (by decide), k 22 (by decide), d1] at hr
    simp [inB] at hr
    split at hr
    · omega
    · omega
theorem loop_D {i : api_Inst} (h : loopsB i = true) : 1 ≤ i.D ∧ i.D ≤ 63 ∧ i.Op = 20 ∧ 1 ≤ i.Imm ∧ i.Imm ≤ 255 := by
  unfold loopsB at h
  simp only [Bool.and_eq_true, beq_iff_eq] at h
  obtain ⟨hr, ho⟩ := h
  obtain ⟨op, d, a, b, m⟩ := i
  simp only at ho
  subst ho
  simp [rightB, inB] at hr
  simp
  omega
theorem opsGoes_eq (i : api_Inst) : ops_Goes i = some (goesB i) := by
  unfold ops_Goes
  rw [opsRight_eq]
  simp only [Option.bind_some]
  cases hr : rightB i with
  | false => simp [goesB, jumpsB, loopsB, hr]
  | true =>
    obtain ⟨f, h1, h2, h3⟩ := uses_eq i.Op (rightB_op hr).1 (rightB_op hr).2
    simp only [h1, Option.bind_some, h2, h3]
    cases hj : inB i.Op 15 19 with
    | true =>
      have := jump_D (i := i) (by simp [jumpsB, hr, hj])
      simp [goesB, jumpsB, hr, hj, w64_eq (x := i.D + 1) (by omega) (by omega)]
    | false =>
      cases hl : (i.Op == 20) with
      | true =>
        have := loop_D (i := i) (by simp [loopsB, hr, hl])
        have e : w64 (0 - i.D) = -i.D := by rw [w64_eq (by omega) (by omega)]; omega
        simp only [goesB, jumpsB, loopsB, hr, hj, hl, e]
        rfl
      | false =>
        simp [goesB, jumpsB, loopsB, hr, hj, hl]
end Go.Proofs.YtkgajppghpmkbaaDoor

/- A right instruction's line: short, and without a line feed. (KOps: judge's, less uses_eq and opsGoes_eq.) -/
import Derived.Test.YteaedkohbgediaaDoorKOps
import Derived.Test.YteaedkohbgediaaDoorKLine
set_option linter.unusedVariables false
set_option linter.unusedSimpArgs false
namespace Go.Proofs.YteaedkohbgediaaDoor
open Go.Sx

theorem right_D {i : api_Inst} (h : rightB i = true) (ho : ¬ (15 ≤ i.Op ∧ i.Op ≤ 20)) : 0 ≤ i.D ∧ i.D < 8 := by
  unfold rightB at h
  simp only [inB, regB] at h
  simp only [Bool.and_eq_true, Bool.or_eq_true, decide_eq_true_eq, beq_iff_eq] at h
  iterate 11 (all_goals (try split at h))
  all_goals simp only [Bool.and_eq_true, Bool.or_eq_true, decide_eq_true_eq, beq_iff_eq, Bool.false_eq_true] at h
  all_goals omega
theorem right_A {i : api_Inst} (h : rightB i = true) : 0 ≤ i.A ∧ i.A < 8 := by
  unfold rightB at h
  simp only [inB, regB] at h
  simp only [Bool.and_eq_true, Bool.or_eq_true, decide_eq_true_eq, beq_iff_eq] at h
  iterate 11 (all_goals (try split at h))
  all_goals simp only [Bool.and_eq_true, Bool.or_eq_true, decide_eq_true_eq, beq_iff_eq, Bool.false_eq_true] at h
  all_goals omega
theorem right_op {i : api_Inst} (h : rightB i = true) : 0 ≤ i.Op ∧ i.Op ≤ 22 := by
  unfold rightB at h
  simp only [inB, regB] at h
  simp only [Bool.and_eq_true, Bool.or_eq_true, decide_eq_true_eq, beq_iff_eq] at h
  iterate 11 (all_goals (try split at h))
  all_goals simp only [Bool.and_eq_true, Bool.or_eq_true, decide_eq_true_eq, beq_iff_eq, Bool.false_eq_true] at h
  all_goals omega
theorem right_src {i : api_Inst} (h : rightB i = true) (ho : i.Op ≤ 12 ∨ (16 ≤ i.Op ∧ i.Op ≤ 19)) : i.B = 8 ∨ (0 ≤ i.B ∧ i.B < 8) := by
  unfold rightB at h
  simp only [inB, regB, srcB] at h
  simp only [Bool.and_eq_true, Bool.or_eq_true, decide_eq_true_eq, beq_iff_eq] at h
  iterate 11 (all_goals (try split at h))
  all_goals simp only [Bool.and_eq_true, Bool.or_eq_true, decide_eq_true_eq, beq_iff_eq, Bool.false_eq_true] at h
  all_goals omega
theorem right_j {i : api_Inst} (h : rightB i = true) (ho : 15 ≤ i.Op ∧ i.Op ≤ 20) : 0 ≤ i.D ∧ i.D ≤ 63 := by
  unfold rightB at h
  simp only [inB, regB] at h
  simp only [Bool.and_eq_true, Bool.or_eq_true, decide_eq_true_eq, beq_iff_eq] at h
  iterate 11 (all_goals (try split at h))
  all_goals simp only [Bool.and_eq_true, Bool.or_eq_true, decide_eq_true_eq, beq_iff_eq, Bool.false_eq_true] at h
  all_goals omega
theorem itoa1 : ∀ k : Fin 8, (Lib.itoa ((k : Nat) : Int)).length = 1 := by decide +kernel
theorem itoa3 : ∀ k : Fin 64, (Lib.itoa ((k : Nat) : Int)).length ≤ 3 := by decide +kernel
theorem reg_word {n : Int} (h0 : 0 ≤ n) (h1 : n < 8) : OK (lines_reg n) (Word 2) := by
  unfold lines_reg
  refine OK.bind2 (itoa_word (by omega) (by omega)) (fun r hr => ?_)
  obtain ⟨hw, he⟩ := hr
  obtain ⟨k, rfl⟩ := Int.eq_ofNat_of_zero_le h0
  have hs : r.size = 1 := by
    rw [he]
    simpa [ByteArray.size] using itoa1 ⟨k, by omega⟩
  refine OK.bind (cat_ok (by rw [hs]; decide) (OK.ret ⟨?_, ?_⟩))
  · rw [ByteArray.size_append, hs]; decide
  · rw [ByteArray.data_append, Array.toList_append]
    refine nonl_append ?_ hw.nonl
    intro b hb e
    subst e
    simp at hb
def kf (c : Int) : Nat := if c = 100 ∨ c = 97 then 2 else if c = 106 then 3 else 21
theorem Word.up {a b : Nat} {w : ByteArray} (h : Word a w) (hab : a ≤ b) : Word b w := ⟨Nat.le_trans h.size hab, h.nonl⟩
theorem field_ok {x : api_Inst} (hr : rightB x = true) (hI : -9223372036854775808 ≤ x.Imm ∧ x.Imm ≤ 9223372036854775807) {c : Int}
    (hc : c = 100 ∧ ¬ (15 ≤ x.Op ∧ x.Op ≤ 20) ∨ c = 97 ∨ c = 106 ∧ 15 ≤ x.Op ∧ x.Op ≤ 20 ∨ c = 115 ∧ (x.Op ≤ 12 ∨ (16 ≤ x.Op ∧ x.Op ≤ 19)) ∨ c = 110) : OK (fieldW x c) (Word (kf c)) := by
  have hf : OK (strconv_FormatInt x.Imm 10) (Word 21) := by
    unfold strconv_FormatInt
    rw [if_pos ⟨rfl, hI⟩]
    exact ⟨_, rfl, ⟨by simpa [ByteArray.size] using Lib.itoa_length_le x.Imm hI.1 hI.2, by simpa using itoa_nonl x.Imm⟩⟩
  unfold fieldW
  rcases hc with ⟨rfl, h⟩ | rfl | ⟨rfl, h⟩ | ⟨rfl, h⟩ | rfl
  · have := right_D hr h
    exact reg_word this.1 this.2
  · have := right_A hr
    exact reg_word this.1 this.2
  · have := right_j hr h
    refine (itoa_word (by omega) (by omega)).mono (fun r hw => ⟨?_, hw.1.nonl⟩)
    obtain ⟨k, hk⟩ := Int.eq_ofNat_of_zero_le this.1
    rw [hw.2, hk]
    simpa [ByteArray.size, kf] using itoa3 ⟨k, by omega⟩
  · show OK (if ((115 : Int) == 115 && x.B != 8) = true then lines_reg x.B else strconv_FormatInt x.Imm 10) (Word 21)
    refine OK.ite (fun e => ?_) (fun e => hf)
    have hB : x.B ≠ 8 := by simpa using e
    have := (right_src hr h).resolve_left hB
    exact (reg_word this.1 this.2).mono (fun r hw => hw.up (by decide))
  · exact hf
end Go.Proofs.YteaedkohbgediaaDoor

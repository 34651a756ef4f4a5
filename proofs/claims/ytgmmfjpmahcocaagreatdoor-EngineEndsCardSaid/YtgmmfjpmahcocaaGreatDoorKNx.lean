/- Next: the places behind a place. -/
import Derived.Test.YtgmmfjpmahcocaaGreatDoorKCheck
set_option linter.unusedVariables false
set_option linter.unusedSimpArgs false
namespace Go.Proofs.YtgmmfjpmahcocaaGreatDoor
open Go.Sx

def nx (i : api_Inst) (p : Int) : List Int :=
  if (goesB i).2.1 then
    (if (goesB i).2.2 then (if p + (goesB i).1 < p + 1 then [p + (goesB i).1, p + 1] else if p + 1 < p + (goesB i).1 then [p + 1, p + (goesB i).1] else [p + 1]) else [p + (goesB i).1])
  else (if (goesB i).2.2 then [p + 1] else [])
theorem mem_nx {i : api_Inst} {p x : Int} : x ∈ nx i p ↔ ((goesB i).2.1 = true ∧ x = p + (goesB i).1) ∨ ((goesB i).2.2 = true ∧ x = p + 1) := by
  unfold nx
  rcases Bool.eq_false_or_eq_true (goesB i).2.1 with h1 | h1 <;> rcases Bool.eq_false_or_eq_true (goesB i).2.2 with h2 | h2 <;> simp only [h1, h2]
  · simp only [if_true]
    split
    · simp
    · split
      · simp; omega
      · simp; omega
  · simp
  · simp
  · simp
theorem check_at {code : List api_Inst} (g : Good code) {p : Int} (h0 : 0 ≤ p) (h1 : p < code.length) : flow_check code p = some 0 := by
  unfold flow_check
  rw [check_good g]
  have a : decide (p < 0) = false := by simp; omega
  have b : decide (p ≥ (code.length : Int)) = false := by simp; omega
  simp [a, b]
theorem sort_compact (l : List Int) (h : l.length ≤ 2) : ((slices_Sort_int_int l).bind fun r => slices_Compact_int_int r) = some (match l with | [] => [] | [a] => [a] | a :: b :: _ => if a < b then [a, b] else if b < a then [b, a] else [a]) := by
  unfold slices_Sort_int_int slices_Compact_int_int
  rw [if_pos (by omega)]
  match l, h with
  | [], _ => simp [Lib.compact, Lib.compactUpTo]
  | [a], _ => simp [Lib.compact, Lib.compactUpTo, Lib.keeps]
  | [a, b], _ =>
    have hs : [a, b].mergeSort (fun x y => decide (x ≤ y)) = if a ≤ b then [a, b] else [b, a] := by
      simp [List.mergeSort, List.MergeSort.Internal.splitInTwo, List.merge]
    rw [hs]
    simp only [Option.bind_some]
    rcases Int.lt_trichotomy a b with h | h | h
    · rw [if_pos (by omega), if_pos h]
      have hne : b ≠ a := by omega
      simp [Lib.compact, Lib.compactUpTo, Lib.keeps, List.range_succ, hne]
    · subst h
      simp [Lib.compact, Lib.compactUpTo, Lib.keeps, List.range_succ]
    · rw [if_neg (by omega), if_neg (by omega), if_pos h]
      have hne : a ≠ b := by omega
      simp [Lib.compact, Lib.compactUpTo, Lib.keeps, List.range_succ, hne]

theorem next_good {code : List api_Inst} (g : Good code) {p : Nat} {i : api_Inst} (hi : code[p]? = some i) : flow_Next code (p : Int) = some (nx i p, 0) := by
  have hp := (List.getElem?_eq_some_iff.1 hi).1
  have hn := g.n64
  have hg := goes_small i
  have e1 : w64 ((p : Int) + (goesB i).1) = p + (goesB i).1 := w64_eq (by omega) (by omega)
  have e2 : w64 ((p : Int) + 1) = p + 1 := w64_eq (by omega) (by omega)
  have hidx : idx code (p : Int) = some i := by rw [idxN hp]; rw [List.getElem?_eq_getElem hp] at hi; exact hi
  have r1 : room 1 8 = some () := rfl
  have r2 : room 2 8 = some () := rfl
  unfold flow_Next
  rw [check_at g (by omega) (by omega)]
  simp only [Option.bind_some, hidx, opsGoes_eq, e1, e2]
  unfold nx
  rcases Bool.eq_false_or_eq_true (goesB i).2.1 with h1 | h1 <;> rcases Bool.eq_false_or_eq_true (goesB i).2.2 with h2 | h2
  · simp only [h1, h2, if_true, List.length_nil, List.length_singleton, Nat.zero_add, r1, Option.bind_some, List.nil_append, r2]
    have := sort_compact [(p : Int) + (goesB i).1, (p : Int) + 1] (by simp)
    have e3 : ([(p : Int) + (goesB i).1] ++ [(p : Int) + 1]) = [(p : Int) + (goesB i).1, (p : Int) + 1] := rfl
    rw [e3]
    simp only [bne_self_eq_false, Bool.false_eq_true, if_false]
    cases hs : slices_Sort_int_int [(p : Int) + (goesB i).1, (p : Int) + 1] with
    | none => rw [hs] at this; cases this
    | some r =>
      rw [hs] at this
      simp only [Option.bind_some] at this ⊢
      rw [this]
      simp only [Option.bind_some]
      congr 2
      split
      · rfl
      · split
        · rfl
        · congr 1; omega
  · simp only [h1, h2, if_true, List.length_nil, List.length_singleton, Nat.zero_add, r1, Option.bind_some, List.nil_append]
    have := sort_compact [(p : Int) + (goesB i).1] (by simp)
    simp only [bne_self_eq_false, Bool.false_eq_true, if_false, Option.bind_some]
    cases hs : slices_Sort_int_int [(p : Int) + (goesB i).1] with
    | none => rw [hs] at this; cases this
    | some r =>
      rw [hs] at this
      simp only [Option.bind_some] at this ⊢
      rw [this]
      rfl
  · simp only [h1, h2, if_true, List.length_nil, List.length_singleton, Nat.zero_add, r1, Option.bind_some, List.nil_append]
    have := sort_compact [(p : Int) + 1] (by simp)
    simp only [bne_self_eq_false, Bool.false_eq_true, if_false, Option.bind_some, List.length_nil, Nat.zero_add, r1, List.nil_append]
    cases hs : slices_Sort_int_int [(p : Int) + 1] with
    | none => rw [hs] at this; cases this
    | some r =>
      rw [hs] at this
      simp only [Option.bind_some] at this ⊢
      rw [this]
      rfl
  · have := sort_compact [] (by simp)
    simp only [h1, h2, bne_self_eq_false, Bool.false_eq_true, if_false, Option.bind_some]
    cases hs : slices_Sort_int_int [] with
    | none => rw [hs] at this; cases this
    | some r =>
      rw [hs] at this
      simp only [Option.bind_some] at this ⊢
      rw [this]
      rfl
end Go.Proofs.YtgmmfjpmahcocaaGreatDoor

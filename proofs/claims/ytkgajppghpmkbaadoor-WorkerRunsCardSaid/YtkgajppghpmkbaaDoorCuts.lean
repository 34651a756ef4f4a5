/- Owned rows that are cut; clear of a row's end. -/
import Derived.Test.YtkgajppghpmkbaaDoorReg
set_option linter.unusedVariables false
set_option linter.unusedSimpArgs false
namespace Go.Sx
open Go.RowKit
section
variable {α : Type} {enc : α → List Value} {sz : Nat}
theorem flat_takeC (he : ∀ x, (enc x).length = sz) (xs : List α) (n : Nat) : (flat enc xs).take (n * sz) = flat enc (xs.take n) := by
  induction xs generalizing n with
  | nil => simp [flat]
  | cons x r ih =>
    cases n with
    | zero => simp [flat]
    | succ n =>
      have h1 := he x
      simp only [flat, List.take_succ_cons]
      rw [List.take_append, h1, Nat.succ_mul, show n * sz + sz - sz = n * sz by omega, ih, List.take_of_length_le (by omega)]
theorem flat_app (xs ys : List α) : flat enc (xs ++ ys) = flat enc xs ++ flat enc ys := by
  induction xs with
  | nil => rfl
  | cons x r ih => simp only [List.cons_append, flat, ih, List.append_assoc]
theorem Owns.pre {w : World} {T : TypeId} {a : Option Addr} {n c : Nat} {xs ys : List α} (he : ∀ x, (enc x).length = sz) (h : Owns w T sz (.slice a n c) xs.length (flat enc xs)) {q : Int} (hc : cut xs 0 q = some ys) :
    Owns w T sz (.slice a ys.length c) ys.length (flat enc ys) := by
  obtain ⟨_, h1, h2, e⟩ := cut_some hc
  have hl := cut_len hc
  have hys : ys = xs.take ys.length := by
    rw [hl]; simpa using e
  refine ⟨flat_length he _, ?_⟩
  rcases h.2 with ⟨h0, a', hv⟩ | ⟨g, o, cap, cur, hv, hp, hg, hnc, hm, hcs, ht⟩
  · simp only [Value.slice.injEq] at hv
    obtain ⟨rfl, rfl, rfl⟩ := hv
    have : ys.length = 0 := by omega
    exact .inl ⟨this, a, by rw [this]⟩
  · simp only [Value.slice.injEq] at hv
    obtain ⟨rfl, rfl, rfl⟩ := hv
    refine .inr ⟨g, o, c, cur, rfl, hp, hg, by omega, hm, hcs, ?_⟩
    have hle : ys.length * sz ≤ xs.length * sz := Nat.mul_le_mul_right _ (by omega)
    have e2 : ((cur.toList.drop o).take (xs.length * sz)).take (ys.length * sz) = (cur.toList.drop o).take (ys.length * sz) := by
      rw [List.take_take, Nat.min_eq_left hle]
    rw [← e2, ht, flat_takeC he]
    exact congrArg (flat enc) hys.symm
end
section
variable {P : Program} {N : Nat} {Q : Exit → Act → World → Prop} {fr fr' : List (Nat × Value)} {w w0 : World} {l : List Oper} {i : Nat} {o : Oper} {S0 : List Nat} {L : List Item} {α : Type} {enc : α → List Value} {sz : Nat}
end
end Go.Sx

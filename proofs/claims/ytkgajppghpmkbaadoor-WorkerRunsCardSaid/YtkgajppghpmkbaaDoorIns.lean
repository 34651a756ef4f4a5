/- copy into an owned row; a row with its spare room; append of noughts: what slices.Insert wants. -/
import Derived.Test.YtkgajppghpmkbaaDoorCuts
import Derived.Lib.Overlaps
import Derived.Lib.AppendZerosOnto
import Derived.Laws.Externs
set_option linter.unusedVariables false
set_option linter.unusedSimpArgs false
namespace Go.Sx
open Go.RowKit
section
variable {P : Program} {N : Nat} {Q : Exit → Act → World → Prop} {fr fr' : List (Nat × Value)} {w w0 : World} {l : List Oper} {i : Nat} {o : Oper} {S0 : List Nat} {L : List Item} {α : Type} {enc : α → List Value} {sz : Nat}
theorem flat_raw (he : ∀ x, (enc x).length = sz) (xs : List α) : flat (fit sz) (xs.map enc) = flat enc xs := by
  induction xs with
  | nil => rfl
  | cons x r ih => simp only [List.map_cons, flat, ih, fit_eq (he x)]
def blocks (sz : Nat) : Nat → List Value → List (List Value)
  | 0, _ => []
  | n + 1, cs => cs.take sz :: blocks sz n (cs.drop sz)
theorem blocks_len (sz n : Nat) (cs : List Value) : (blocks sz n cs).length = n := by
  induction n generalizing cs with
  | zero => rfl
  | succ n ih => simp [blocks, ih]
theorem blocks_flat (sz : Nat) : ∀ (n : Nat) (cs : List Value), cs.length = n * sz → flat (fit sz) (blocks sz n cs) = cs := by
  intro n
  induction n with
  | zero => intro cs h; have : cs = [] := List.eq_nil_of_length_eq_zero (by simpa using h); rw [this]; rfl
  | succ n ih =>
    intro cs h
    simp only [blocks, flat]
    rw [Nat.succ_mul] at h
    rw [fit_eq (by rw [List.length_take]; omega), ih _ (by rw [List.length_drop]; omega), List.take_append_drop]
theorem St.spare {T : TypeId} {a : Option Addr} {n c k : Nat} {xs : List α} (hst : St w0 S0 w L) (j : Nat) (hj : L[j]? = some (rowI (.slice a n c) T enc sz xs)) (he : ∀ x, (enc x).length = sz) (hk : xs.length ≤ k) (hkc : k ≤ c) :
    ∃ junk : List (List Value), junk.length = k - xs.length ∧ St w0 S0 w (L.set j (rowI (.slice a k c) T (fit sz) sz (xs.map enc ++ junk))) := by
  have h : Owns w T sz (.slice a n c) xs.length (flat enc xs) := hst.all j _ hj
  have e : (ownB (.slice a k c)).toList = (ownB (.slice a n c)).toList := by
    cases a with
    | none => rfl
    | some a => cases c <;> rfl
  have fin : ∀ junk : List (List Value), junk.length = k - xs.length → Owns w T sz (.slice a k c) (xs.map enc ++ junk).length (flat (fit sz) (xs.map enc ++ junk)) → St w0 S0 w (L.set j (rowI (.slice a k c) T (fit sz) sz (xs.map enc ++ junk))) := fun junk hl ho =>
    hst.upd j hj (Chg.refl _ _) ho (fun b hb => .inl (by
      show b ∈ (ownB (.slice a n c)).toList
      rw [← e]
      exact hb)) rowI_nodup
  rcases h.2 with ⟨h0, a', hv⟩ | ⟨g, o, cap, cur, hv, hp, hg, hnc, hm, hcs, ht⟩
  · simp only [Value.slice.injEq] at hv
    obtain ⟨rfl, rfl, rfl⟩ := hv
    have hxs : xs = [] := List.eq_nil_of_length_eq_zero h0
    subst hxs
    have : k = 0 := by omega
    subst this
    exact ⟨[], rfl, fin [] rfl (Owns.nil _ _ _ _)⟩
  · simp only [Value.slice.injEq] at hv
    obtain ⟨rfl, rfl, rfl⟩ := hv
    have hks : k * sz ≤ c * sz := Nat.mul_le_mul_right _ hkc
    have hxk : xs.length * sz ≤ k * sz := Nat.mul_le_mul_right _ hk
    have hsub : (k - xs.length) * sz = k * sz - xs.length * sz := Nat.sub_mul ..
    have hwl : ((cur.toList.drop o).take (k * sz)).length = k * sz := by
      rw [List.length_take, List.length_drop, Array.length_toList]; omega
    refine ⟨blocks sz (k - xs.length) (((cur.toList.drop o).take (k * sz)).drop (xs.length * sz)), blocks_len _ _ _, fin _ (blocks_len _ _ _) ?_⟩
    have hfl : flat (fit sz) (xs.map enc ++ blocks sz (k - xs.length) (((cur.toList.drop o).take (k * sz)).drop (xs.length * sz))) = (cur.toList.drop o).take (k * sz) := by
      rw [flat_app, flat_raw he, blocks_flat _ _ _ (by rw [List.length_drop, hwl]; omega), ← ht]
      conv => rhs; rw [← List.take_append_drop (xs.length * sz) ((cur.toList.drop o).take (k * sz))]
      rw [List.take_take, Nat.min_eq_left hxk]
    have hll : (xs.map enc ++ blocks sz (k - xs.length) (((cur.toList.drop o).take (k * sz)).drop (xs.length * sz))).length = k := by
      rw [List.length_append, List.length_map, blocks_len]; omega
    refine ⟨by rw [flat_length (fit_len sz)], .inr ⟨g, o, c, cur, by rw [hll], hp, hg, by rw [hll]; exact hkc, hm, hcs, ?_⟩⟩
    rw [hll, hfl]
end
end Go.Sx

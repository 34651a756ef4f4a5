/- A right instruction's line. -/
import Derived.Test.YteaedkohbgediaaDoorKLine2
set_option linter.unusedVariables false
set_option linter.unusedSimpArgs false
namespace Go.Proofs.YteaedkohbgediaaDoor
open Go.Sx

def condP (k c : Int) : Prop := c = 100 ∧ ¬ (15 ≤ k ∧ k ≤ 20) ∨ c = 97 ∨ c = 106 ∧ 15 ≤ k ∧ k ≤ 20 ∨ c = 115 ∧ (k ≤ 12 ∨ (16 ≤ k ∧ k ≤ 19)) ∨ c = 110
instance (k c : Int) : Decidable (condP k c) := by unfold condP; infer_instance
def chk (k : Int) : Bool := match ops_Name k, lines_order k with
  | some nm, some o => decide (nm.size ≤ 5) && nm.data.toList.all (fun b => b != 10) && decide (o.size ≤ 3) && (List.range o.size).all (fun p => runeEnd o p == p + 1 && decide (condP k (runeAt o p))) && decide (nm.size + ((List.range o.size).map (fun p => kf (runeAt o p))).sum + o.size ≤ 33)
  | _, _ => false
theorem chk_all : ∀ k : Fin 23, chk ((k : Nat) : Int) = true := by decide +kernel
theorem order_ok {x : api_Inst} (hr : rightB x = true) : ∃ nm o, ops_Name x.Op = some nm ∧ lines_order x.Op = some o ∧ NoNL nm.data.toList ∧ o.size ≤ 3 ∧ (∀ p, p < o.size → runeEnd o p = p + 1 ∧ condP x.Op (runeAt o p)) ∧
    nm.size + ((List.range o.size).map (fun p => kf (runeAt o p))).sum + o.size ≤ 33 := by
  have ho := right_op hr
  obtain ⟨k, hk⟩ := Int.eq_ofNat_of_zero_le ho.1
  have h := chk_all ⟨k, by omega⟩
  rw [hk]
  unfold chk at h
  simp only at h
  split at h
  · rename_i nm o h1 h2
    simp only [Bool.and_eq_true, decide_eq_true_eq, List.all_eq_true, List.mem_range, beq_iff_eq, bne_iff_ne] at h
    obtain ⟨⟨⟨⟨a, b⟩, c⟩, d⟩, e⟩ := h
    exact ⟨nm, o, h1, h2, fun q hq => b q hq, c, fun p hp => d p hp, e⟩
  · cases h
theorem sum_le : ∀ (l : List ByteArray) (f : Nat → Nat), (∀ i w, l[i]? = some w → w.size ≤ f i) → (l.map (·.size)).sum ≤ ((List.range l.length).map f).sum
  | [], f, _ => by simp
  | w :: r, f, h => by
    have h1 := h 0 w rfl
    have h2 := sum_le r (fun i => f (i + 1)) (fun i v hv => h (i + 1) v (by simpa using hv))
    rw [List.length_cons, List.range_succ_eq_map, List.map_cons, List.map_cons, List.sum_cons, List.sum_cons, List.map_map]
    exact Nat.add_le_add h1 h2
theorem line_ok {x : api_Inst} (hr : rightB x = true) (hI : -9223372036854775808 ≤ x.Imm ∧ x.Imm ≤ 9223372036854775807) : OK (lines_line 1000 x) (fun r => r.size ≤ 39 ∧ NoNL r.data.toList) := by
  obtain ⟨nm, o, h1, h2, h3, h4, h5, h6⟩ := order_ok hr
  unfold lines_line
  rw [h1, h2]
  simp only [Option.bind_some]
  refine OK.bind2 (line_loop kf (fun p hp => ⟨field_ok hr hI (h5 p hp).2, (h5 p hp).1⟩) o.size 1000 [nm] 0 (by omega) (by omega) (by simp; omega)) (fun r hl => ?_)
  obtain ⟨l, rfl, hn, hw⟩ := hl
  have hs := sum_le l (fun i => kf (runeAt o (0 + i))) (fun i w h => (hw i w h).size)
  rw [hn] at hs
  simp only [Nat.zero_add] at hs
  have hj := join_size (sep := [32]) (([nm] ++ l).map (·.data.toList))
  have hm : ((([nm] ++ l).map (·.data.toList)).map (·.length)).sum = nm.size + (l.map (·.size)).sum := by
    rw [List.map_map]
    simp only [List.singleton_append, List.map_cons, List.sum_cons, Function.comp]
    rfl
  rw [hm] at hj
  simp only [List.length_map, List.length_append, List.length_singleton, List.length_cons, List.length_nil, hn] at hj
  have hlen : (Lib.join (([nm] ++ l).map (·.data.toList)) [32]).length ≤ 39 := by omega
  refine OK.bind2 (R := fun r => r.size ≤ 39 ∧ NoNL r.data.toList) ?_ (fun r h => OK.ret h)
  unfold strings_Join
  rw [show (⟨[32].toArray⟩ : ByteArray).data.toList = [32] from rfl, if_pos ⟨by simp [hn]; omega, by omega⟩]
  refine OK.ret ⟨by simpa [ByteArray.size] using hlen, ?_⟩
  show NoNL (Lib.join _ _).toArray.toList
  rw [List.toList_toArray]
  refine join_nonl (fun b hb e => ?_) (fun w hw2 => ?_)
  · subst e; simp at hb
  · obtain ⟨v, hv, rfl⟩ := List.mem_map.1 hw2
    rcases List.mem_append.1 hv with hv | hv
    · rw [List.mem_singleton] at hv; subst hv; exact h3
    · obtain ⟨i, hi⟩ := List.mem_iff_getElem?.1 hv
      exact (hw i v hi).nonl
end Go.Proofs.YteaedkohbgediaaDoor

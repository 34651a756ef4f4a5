/- Arrays of flat data: functions on places; their cells are written out. -/
import Derived.Test.YtpchniebplpboaaMem
import Derived.Laws.RangeString
import Derived.Laws.Externs
set_option linter.unusedVariables false
set_option linter.unusedSimpArgs false
namespace Go.Sx
open Go.RowKit

section
variable {P : Program} {N : Nat} {Q : Exit → Act → World → Prop} {fr fr' : List (Nat × Value)} {w w0 : World} {l : List Oper} {i : Nat} {o : Oper} {S0 : List Nat} {L : List Item}
end
structure Bor (wb : World) (Sb : List Nat) (w : World) (S : List Nat) : Prop where
  size : wb.heap.size ≤ w.heap.size
  same : ∀ b, b < wb.heap.size → b ∉ Sb → w.heap[b]? = wb.heap[b]?
  sub : ∀ b ∈ S, b ∈ Sb ∨ wb.heap.size ≤ b
theorem Bor.refl (w : World) (S : List Nat) : Bor w S w S := ⟨Nat.le_refl _, fun _ _ _ => rfl, fun _ h => .inl h⟩
theorem Bor.on {wb w w0 : World} {Sb S0 : List Nat} {L : List Item} (h : Bor wb Sb w0 S0) (hst : St w0 S0 w L) (ids : List Nat) : Bor wb Sb w (fp (sel L ids)) := by
  have hc := hst.chg
  refine ⟨Nat.le_trans h.size hc.size, fun b hb hn => ?_, fun b hb => ?_⟩
  · rw [hc.block b (Nat.lt_of_lt_of_le hb h.size) (fun hS => ?_), h.same b hb hn]
    rcases h.sub b hS with h1 | h1
    · exact hn h1
    · omega
  · obtain ⟨j, it, hj, hbs⟩ := mem_fp.1 hb
    obtain ⟨k, _, hk⟩ := sel_get hj
    rcases getD_cases hk with hk | rfl
    · rcases hst.own k it hk b hbs with h1 | h1
      · exact h.sub b h1
      · exact .inr (Nat.le_trans h.size h1)
    · cases hbs
theorem St.freeze {α : Type} {w0 w : World} {S0 : List Nat} {L : List Item} {T : TypeId} {R : Rp α} {v : Value} {S : List Nat} {xs : List α} (h : St w0 S0 w L) (j : Nat) (hj : L[j]? = some (nI T R v S xs none)) (ids : List Nat) (hn : mem? j ids = false) (hd : distinct ids = true) :
    ∃ wz Sz, Bor w0 S0 wz Sz ∧ (∀ w' X, St wz Sz w' X → St w0 S0 w' X) ∧ St wz Sz w (sel L ids) ∧ RdN wz Sz v R.rd R.sz xs := by
  refine ⟨w, fp (sel L ids), (Bor.refl w0 S0).on h ids, fun w' X k => ?_, h.part ids hd, h.seeN j hj ids hn⟩
  have := h.join (rest := []) (idx := ids) (by simpa using hd) k
  simpa [sel] using this
end Go.Sx

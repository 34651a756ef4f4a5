/- Ranging over a map: the order is the world's; what is left is told. And folds whose order does not matter. -/
import Derived.Test.YtkgajppghpmkbaaDoorMaps
set_option linter.unusedVariables false
set_option linter.unusedSimpArgs false
namespace Go.Sx
open Go.RowKit

structure Rng {α : Type} (w : World) (it r : Nat) (R : Rp α) (S : List Nat) (m rem : List (Int × α)) (last : Option (Int × Value × α)) (mv : List (Int × Value)) (Ss : List (List Nat)) (A : Array MapEntry) (clock since : Nat) (seen : Array Nat) (c0 : Nat) : Prop where
  row : MRow w r R S m none mv Ss
  map : w.heap[r]? = some (.map A clock)
  ents : Ents (fun v : Value => v) mv A.toList clock
  iter : w.heap[it]? = some (.mapIter (some r) since seen c0)
  apart : it ∉ S
  hold : ∀ x ∈ A.toList, x.born < since
  le : since ≤ c0
  le2 : since ≤ clock
  left : rem = ((A.toList.zip m).filter (fun p => !seen.contains p.1.born)).map (·.2)
  now : ∀ k v x, last = some (k, v, x) → c0 = clock ∧ ∃ (i : Nat) (e : MapEntry) (s' : Array Nat), A.toList[i]? = some e ∧ mv[i]? = some (k, v) ∧ m[i]? = some (k, x) ∧ seen = s'.push e.born
def rngI {α : Type} (it r : Nat) (R : Rp α) (S : List Nat) (m rem : List (Int × α)) (last : Option (Int × Value × α)) : Item where
  S := it :: S
  Φ w := ∃ mv Ss A clock since seen c0, Rng w it r R S m rem last mv Ss A clock since seen c0
  loc w w' hb h := by
    obtain ⟨mv, Ss, A, clock, since, seen, c0, h⟩ := h
    have hS := h.row.hS
    refine ⟨mv, Ss, A, clock, since, seen, c0, h.row.loc (fun b hbs => hb b (List.mem_cons_of_mem _ hbs)), ?_, h.ents, ?_, h.apart, h.hold, h.le, h.le2, h.left, h.now⟩
    · rw [hb r (List.mem_cons_of_mem _ (by rw [hS]; exact List.mem_cons_self))]; exact h.map
    · rw [hb it List.mem_cons_self]; exact h.iter
  lt w h b hb := by
    obtain ⟨mv, Ss, A, clock, since, seen, c0, h⟩ := h
    rcases List.mem_cons.1 hb with rfl | hb
    · exact (Array.getElem?_eq_some_iff.1 h.iter).1
    · exact h.row.lt b hb
section
variable {P : Program} {N : Nat} {Q : Exit → Act → World → Prop} {fr fr' : List (Nat × Value)} {w w0 : World} {l : List Oper} {i : Nat} {o : Oper} {S0 : List Nat} {L : List Item} {α : Type} {R : Rp α} {r it : Nat} {S : List Nat} {m rem : List (Int × α)} {last : Option (Int × Value × α)}
theorem OW.range {d : Nat} {t tk te : TypeId} {x : Operand} {ty : TypeId} {pos : String} {af : Array Edge} {gdd : Option (Nat × Bool)} (hst : St w0 S0 w L) (j : Nat) (hj : L[j]? = some (mN r R S m none))
    (hl : opAt l i = some ⟨some d, .range t x, ty, pos, af, gdd⟩) (hg : gd l fr ⟨some d, .range t x, ty, pos, af, gdd⟩ = some true) (hN : Nat.blt d N = true) (hx : look fr x = some (.map (some r))) (ht : P.underlying t = some (.map tk te))
    (h : ∀ it w', St w0 S0 w' (L.set j (rngI it r R S m m none)) → OW P l N Q (i + 1) ((d, .pointer (some ⟨it, 0, none⟩)) :: fr) w') : OW P l N Q i fr w := by
  obtain ⟨mv, Ss, hr⟩ := hst.all j _ hj
  obtain ⟨A, clock, hA, hE⟩ := hr.map
  have hlt := hr.lt
  refine OW.op hl hg rfl hN (w' := w.alloc (.mapIter (some r) clock #[] clock)) (fun a ha => ?_) (h w.heap.size _ ?_)
  · have := run_range_map (P := P) w t tk te r A clock ht hA
    simp [execOp, ha.look hx, this]
  · have hchg : Chg (mN r R S m none).S w (w.alloc (.mapIter (some r) clock #[] clock)) := Chg.alloc _ _
    have hold : ∀ b ∈ S, (w.alloc (.mapIter (some r) clock #[] clock)).heap[b]? = w.heap[b]? := fun b hb => Below.heap_alloc _ _ _ (hlt b hb)
    have hnin : w.heap.size ∉ S := fun hb => Nat.lt_irrefl _ (hlt _ hb)
    refine hst.upd j hj hchg ⟨mv, Ss, A, clock, clock, #[], clock, hr.loc hold, ?_, hE, heap_alloc_new _ _, hnin, hE.lt, Nat.le_refl _, Nat.le_refl _, ?_, fun _ _ _ e => (by cases e)⟩ (fun b hb => ?_) (List.nodup_cons.2 ⟨hnin, hr.nd⟩)
    · rw [Below.heap_alloc _ _ _ (Array.getElem?_eq_some_iff.1 hA).1]; exact hA
    · have e1 : (A.toList.zip m).filter (fun p => !(#[] : Array Nat).contains p.1.born) = A.toList.zip m := List.filter_eq_self.2 (fun x _ => by simp)
      rw [e1, List.map_snd_zip (by have := hE.len; have := hr.len; omega)]
    · rcases List.mem_cons.1 hb with rfl | hb
      · exact .inr (Nat.le_refl _)
      · exact .inl hb
end
end Go.Sx

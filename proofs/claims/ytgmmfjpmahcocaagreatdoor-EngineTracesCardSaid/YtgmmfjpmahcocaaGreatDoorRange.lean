import Derived.Test.YtgmmfjpmahcocaaGreatDoorMaps
set_option linter.unusedVariables false
set_option linter.unusedSimpArgs false
namespace Go.Sx
open Go.RowKit
structure Rng {α : Type} (w : World) (it r : Nat) (R : Rp α) (S : List Nat) (m rem : List (Int × α)) (last : Option (Int × Value × α)) (mv : List (Int × Value)) (Ss : List (List Nat)) (A : Array MapEntry) (clock since : Nat) (zfo : Array Nat) (c0 : Nat) : Prop where
 row : zj2 w r R S m none mv Ss
 map : w.heap[r]? = some (.map A clock)
 ents : zle (fun v : Value => v) mv A.toList clock
 iter : w.heap[it]? = some (.mapIter (some r) since zfo c0)
 apart : it ∉ S
 hold : ∀ x ∈ A.toList, x.born < since
 le : since <= c0
 le2 : since <= clock
 left : rem = ((A.toList.zip m).filter (fun p => !zfo.contains p.1.born)).map (·.2)
 now : ∀ k v x, last = some (k, v, x) -> c0 = clock /\ ∃ (i : Nat) (e : MapEntry) (s' : Array Nat), A.toList[i]? = some e /\ mv[i]? = some (k, v) /\ m[i]? = some (k, x) /\ zfo = s'.push e.born
def zor {α : Type} (it r : Nat) (R : Rp α) (S : List Nat) (m rem : List (Int × α)) (last : Option (Int × Value × α)) : Item where
 S := it :: S
 Φ w := ∃ mv Ss A clock since zfo c0, Rng w it r R S m rem last mv Ss A clock since zfo c0
 loc w w' hb h := by
  obtain ⟨mv, Ss, A, clock, since, zfo, c0, h⟩ := h
  have hS := h.row.hS
  refine ⟨mv, Ss, A, clock, since, zfo, c0, h.row.loc (fun b hbs => hb b (zcm _ hbs)), ?_, h.ents, ?_, h.apart, h.hold, h.le, h.le2, h.left, h.now⟩
  ·rw [hb r (zcm _ (by rw [hS]; exact zcs))]; exact h.map
  ·rw [hb it zcs]; exact h.iter
 lt w h b hb := by
  obtain ⟨mv, Ss, A, clock, since, zfo, c0, h⟩ := h
  rcases List.mem_cons.1 hb with rfl | hb
  ·exact (Array.getElem?_eq_some_iff.1 h.iter).1
  ·exact h.row.lt b hb
section
variable {P : Program} {N : Nat} {Q : Exit -> Act -> World -> Prop} {fr fr' : List (Nat × Value)} {w w0 : World} {l : List Oper} {i : Nat} {o : Oper} {S0 : List Nat} {L : List Item} {α : Type} {R : Rp α} {r it : Nat} {S : List Nat} {m rem : List (Int × α)} {last : Option (Int × Value × α)}
end
end Go.Sx

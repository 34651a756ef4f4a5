/- The library's functions, by the kit's contracts: as plain functions, and as rules on rows that are owned. -/
import Derived.Test.YtdnogiegiclcfaaGreatDoorMem
import Derived.Sort.OwnSortedInts
import Derived.Lib.SlicesCompact
set_option linter.unusedVariables false
set_option linter.unusedSimpArgs false
namespace Go.Sx
open Go.RowKit Go.Sort Go.Proofs

theorem flat_encI {k : IntKind} (xs : List Int) : flat (encInt k) xs = xs.map (Value.int k) := by
  induction xs with
  | nil => rfl
  | cons x r ih => simp only [flat, encInt, List.map_cons, ih]; rfl
theorem one_row {α β : Type} {w w' : World} {v v' : Value} {T : TypeId} {enc : α → List Value} {enc' : β → List Value} {sz sz' : Nat} {xs : List α} {ys : List β} (h : St w (fp [rowI v T enc sz xs]) w [rowI v T enc sz xs]) (hc : w.grownBy w' (ownB v))
    (hr : Owns w' T sz' v' ys.length (flat enc' ys)) (hS : ∀ b, ownB v' = some b → ownB v = some b) : St w (fp [rowI v T enc sz xs]) w' [rowI v' T enc' sz' ys] :=
  h.upd (it := rowI v T enc sz xs) (it' := rowI v' T enc' sz' ys) 0 rfl (Chg.grown hc (fun b hb => by simp [rowI, hb])) hr (fun b hb => .inl (by simpa [rowI] using hS b (by simpa [rowI] using hb))) rowI_nodup
theorem holdsO {w : World} {g o : Nat} {cur : Array Value} {e : TypeId} {ss : List Int} (hb : w.heap[g]? = some (.cells cur e (0, 0))) (ht : (cur.toList.drop o).take ss.length = ss.map (Value.int .i64)) : Holds (Value.int .i64) w g o ss.toArray := by
  intro j hj
  have hj' : j < ss.length := by simpa using hj
  refine ⟨?_, by simp [World.frozen?, hb]⟩
  have h1 : ((cur.toList.drop o).take ss.length)[j]? = (ss.map (Value.int .i64))[j]? := by rw [ht]
  rw [List.getElem?_take_of_lt hj', List.getElem?_drop] at h1
  simp only [World.cell?, hb]
  simp only [Option.isSome_none, Bool.false_eq_true, if_false]
  rw [← Array.getElem?_toList, h1]
  simp [hj']
theorem heapO {w : World} {g o n : Nat} {os : Array Obj} {cur : Array Value} {e : TypeId} {fr : Nat × Nat} (d : Array Int) (hb : w.heap[g]? = some (.cells cur e fr)) :
    (grow (putRow (Value.int .i64) (Sort.ahead w n) g o d) os).heap[g]? = some (.cells (putCells (Value.int .i64) o d cur) e fr) := by
  have hg : g < w.heap.size := (Array.getElem?_eq_some_iff.1 hb).1
  rw [heap_grow_old _ _ (by simpa using hg)]
  simp [putRow, mapBlock, Sort.ahead, Array.getElem?_modify, hb, onCells]
theorem grownO {w : World} {g o n : Nat} {os : Array Obj} (d : Array Int) : w.grownBy (grow (putRow (Value.int .i64) (Sort.ahead w n) g o d) os) (some g) := by
  refine ⟨rfl, rfl, rfl, by simp, fun k hk hne => ?_⟩
  rw [heap_grow_old _ _ (by simpa using hk)]
  have : g ≠ k := fun e => hne (by rw [e])
  simp [putRow, mapBlock, Sort.ahead, Array.getElem?_modify, this]
theorem windowO (cur : Array Value) (o : Nat) (ts : List Int) (h : o + ts.length ≤ cur.size) : ((putCells (Value.int .i64) o ts.toArray cur).toList.drop o).take ts.length = ts.map (Value.int .i64) := by
  apply List.ext_getElem?
  intro j
  by_cases hj : j < ts.length
  · rw [List.getElem?_take_of_lt hj, List.getElem?_drop, Array.getElem?_toList]
    simp [putCells, hj, show o + j < cur.size by omega]
  · rw [List.getElem?_take_eq_none (by omega), List.getElem?_eq_none (by simp; omega)]
theorem ownsO {w : World} {g o cap n q : Nat} {e : TypeId} {os : Array Obj} {cur : Array Value} {ts : List Int} (hp : 0 < cap) (hb : w.heap[g]? = some (.cells cur e (0, 0))) (h1 : ts.length ≤ cap) (h2 : cap ≤ maxLen) (h3 : o + cap * 1 ≤ cur.size) (hq : q ≤ ts.length) :
    Owns (grow (putRow (Value.int .i64) (Sort.ahead w n) g o ts.toArray) os) e 1 (.slice (some ⟨g, o, none⟩) q cap) q ((ts.take q).map (Value.int .i64)) := by
  refine ⟨by simp; omega, .inr ⟨g, o, cap, _, rfl, hp, heapO _ hb, by omega, h2, by simpa [putCells] using h3, ?_⟩⟩
  have := windowO cur o ts (by omega)
  have h4 := congrArg (List.take q) this
  rw [List.take_take, Nat.min_eq_left hq] at h4
  rw [Nat.mul_one, h4, List.map_take]

def slices_Sort_int_int (p0 : List Int) : Option (List Int) := if p0.length ≤ 140737488355328 then some (p0.mergeSort fun x y => decide (x ≤ y)) else none
theorem sort_int_ok {P : Program} {f : FuncId} {T : TypeId} {w : World} {v : Value} {xs r : List Int}
    (hs : ∀ (blk off cap : Nat) (zs : List Int) (w : World), Holds (Value.int .i64) w blk off zs.toArray → blk < w.heap.size → zs.length < 4611686018427387904 →
      Calls P f #[.slice (some ⟨blk, off, none⟩) zs.length cap] w fun e w' => e = .returned (.tuple #[]) ∧ ∃ n os, w' = grow (putRow (Value.int .i64) (Sort.ahead w n) blk off (zs.mergeSort fun x y => decide (x ≤ y)).toArray) os)
    (hn : ∀ (p : Option Addr) (cap : Nat) (w : World), Calls P f #[.slice p 0 cap] w fun e w' => e = .returned (.tuple #[]) ∧ w' = w)
    (hF : slices_Sort_int_int xs = some r) (hst : St w (fp [rowI v T (encInt .i64) 1 xs]) w [rowI v T (encInt .i64) 1 xs]) :
    Calls P f [v].toArray w (fun e w' => e = .returned (.tuple #[]) ∧ St w (fp [rowI v T (encInt .i64) 1 xs]) w' [rowI v T (encInt .i64) 1 r]) := by
  unfold slices_Sort_int_int at hF
  split at hF
  · rename_i hb
    cases hF
    have hown : Owns w T 1 v xs.length (flat (encInt .i64) xs) := hst.all 0 _ rfl
    rcases hown.2 with ⟨h0, a, rfl⟩ | ⟨g, o, cap, cur, rfl, hp, hg, hnc, hm, hcs, htake⟩
    · have e : xs = [] := List.eq_nil_of_length_eq_zero h0
      subst e
      refine (hn a 0 w).mono ?_
      rintro e w' ⟨rfl, rfl⟩
      exact ⟨rfl, by simpa using hst⟩
    · rw [Nat.mul_one, flat_encI] at htake
      refine (hs g o cap xs w (holdsO hg htake) (Array.getElem?_eq_some_iff.1 hg).1 (by omega)).mono ?_
      rintro e w' ⟨rfl, n, os, rfl⟩
      refine ⟨rfl, one_row hst (by rw [ownB_pos hp]; exact grownO _) ?_ (fun _ h => h)⟩
      have hl : (xs.mergeSort fun x y => decide (x ≤ y)).length = xs.length := List.length_mergeSort _
      have := ownsO (n := n) (q := xs.length) (os := os) (ts := xs.mergeSort fun x y => decide (x ≤ y)) hp hg (by omega) hm hcs (by omega)
      rw [List.take_of_length_le (by omega)] at this
      rw [flat_encI, hl]
      exact this
  · cases hF
end Go.Sx

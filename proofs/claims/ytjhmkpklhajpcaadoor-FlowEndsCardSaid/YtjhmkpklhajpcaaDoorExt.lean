/- The library's functions, by the kit's contracts: as plain functions, and as rules on rows that are owned. -/
import Derived.Test.YtjhmkpklhajpcaaDoorNest
import Derived.Sort.OwnSortedInts
import Derived.Lib.SlicesCompact
set_option linter.unusedVariables false
namespace Go.Sx
open Go.RowKit Go.Sort Go.Proofs

theorem flat_encI {k : IntKind} (xs : List Int) : flat (encInt k) xs = xs.map (Value.int k) := by
  induction xs with
  | nil => rfl
  | cons x r ih => simp only [flat, encInt, List.map_cons, ih]; rfl
/-- one row changes -/
theorem one_row {α β : Type} {w w' : World} {v v' : Value} {T : TypeId} {enc : α → List Value} {enc' : β → List Value} {sz sz' : Nat} {xs : List α} {ys : List β} (h : St w (fp [rowI v T enc sz xs]) w [rowI v T enc sz xs]) (hc : w.grownBy w' v.ownBlock)
    (hr : w'.ownsRow 0 T sz' v' ys.length (flat enc' ys)) (hS : v'.ownBlock = v.ownBlock) : St w (fp [rowI v T enc sz xs]) w' [rowI v' T enc' sz' ys] :=
  h.upd (it := rowI v T enc sz xs) (it' := rowI v' T enc' sz' ys) 0 rfl (Chg.grown hc (fun b hb => by simp [rowI, hb])) hr (fun b hb => .inl (by simpa [rowI, hS] using hb)) rowI_nodup

def slices_Sort_int_int (p0 : List Int) : Option (List Int) := if p0.length ≤ 140737488355328 then some (p0.mergeSort fun x y => decide (x ≤ y)) else none
theorem sort_int_core {P : Program} {f : FuncId} {T : TypeId} {w : World} {v : Value} {xs : List Int}
    (hs : ∀ (blk off cap : Nat) (zs : List Int) (w : World), Holds (Value.int .i64) w blk off zs.toArray → blk < w.heap.size → zs.length < 4611686018427387904 →
      Calls P f #[.slice (some ⟨blk, off, none⟩) zs.length cap] w fun e w' => e = .returned (.tuple #[]) ∧ ∃ n os, w' = grow (putRow (Value.int .i64) (Sort.ahead w n) blk off (zs.mergeSort fun x y => decide (x ≤ y)).toArray) os)
    (hn : ∀ (p : Option Addr) (cap : Nat) (w : World), Calls P f #[.slice p 0 cap] w fun e w' => e = .returned (.tuple #[]) ∧ w' = w)
    (hb : xs.length ≤ 140737488355328) (hst : St w (fp [rowI v T (encInt .i64) 1 xs]) w [rowI v T (encInt .i64) 1 xs]) (hown : w.ownsRow 0 T 1 v xs.length (xs.map (Value.int .i64))) :
    Calls P f [v].toArray w (fun e w' => e = .returned (.tuple #[]) ∧ St w (fp [rowI v T (encInt .i64) 1 xs]) w' [rowI v T (encInt .i64) 1 (xs.mergeSort fun x y => decide (x ≤ y))]) := by
  rcases hown.2 with ⟨rfl, h0⟩ | ⟨g, cap, cur, rfl, hbase, hg, hnc, hm, hcs, htake⟩
  · have e : xs = [] := List.eq_nil_of_length_eq_zero h0
    subst e
    refine (hn none 0 w).mono ?_
    rintro e w' ⟨rfl, rfl⟩
    exact ⟨rfl, by simpa using hst⟩
  · rw [Nat.mul_one] at htake
    refine (hs g 0 cap xs w (holds_of_blockI hg htake) (Array.getElem?_eq_some_iff.1 hg).1 (by omega)).mono ?_
    rintro e w' ⟨rfl, n, os, rfl⟩
    refine ⟨rfl, one_row hst (grownBy_sortedI _) ?_ rfl⟩
    rw [flat_encI, List.length_mergeSort]
    exact ownsRow_sortedI (List.length_mergeSort _) hbase hg hnc hm hcs
theorem sort_int_ok {P : Program} {f : FuncId} {T : TypeId} {w : World} {v : Value} {xs r : List Int}
    (hs : ∀ (blk off cap : Nat) (zs : List Int) (w : World), Holds (Value.int .i64) w blk off zs.toArray → blk < w.heap.size → zs.length < 4611686018427387904 →
      Calls P f #[.slice (some ⟨blk, off, none⟩) zs.length cap] w fun e w' => e = .returned (.tuple #[]) ∧ ∃ n os, w' = grow (putRow (Value.int .i64) (Sort.ahead w n) blk off (zs.mergeSort fun x y => decide (x ≤ y)).toArray) os)
    (hn : ∀ (p : Option Addr) (cap : Nat) (w : World), Calls P f #[.slice p 0 cap] w fun e w' => e = .returned (.tuple #[]) ∧ w' = w)
    (hF : slices_Sort_int_int xs = some r) (hst : St w (fp [rowI v T (encInt .i64) 1 xs]) w [rowI v T (encInt .i64) 1 xs]) :
    Calls P f [v].toArray w (fun e w' => e = .returned (.tuple #[]) ∧ St w (fp [rowI v T (encInt .i64) 1 xs]) w' [rowI v T (encInt .i64) 1 r]) := by
  unfold slices_Sort_int_int at hF
  split at hF
  · rename_i hb
    cases hF
    have hown := hst.all 0 _ rfl
    have hown : w.ownsRow 0 T 1 v xs.length (flat (encInt .i64) xs) := hown
    rw [flat_encI] at hown
    exact sort_int_core hs hn hb hst hown
  · cases hF
def slices_Compact_int_int (p0 : List Int) : Option (List Int) := some (Lib.compact p0)
theorem compact_len (xs : List Int) : (Lib.compact xs).length ≤ xs.length := by
  unfold Lib.compact Lib.compactUpTo
  rw [List.length_map]
  exact Nat.le_trans (List.length_filter_le _ _) (by simp)
theorem compact_int_ok {P : Program} {f : FuncId} {T : TypeId} {w : World} {v : Value} {xs r : List Int}
    (hs : ∀ (blk off cap : Nat) (zs : List Int) (w : World), Holds (Value.int .i64) w blk off zs.toArray → zs.length ≤ 9223372036854775807 → zs.length ≤ cap →
      Calls P f #[.slice (some ⟨blk, off, none⟩) zs.length cap] w fun e w' => e = .returned (.slice (some ⟨blk, off, none⟩) (Lib.compact zs).length cap) ∧ ∃ q, w' = putRow (Value.int .i64) (Sort.ahead w q) blk off (Lib.compact zs ++ List.replicate (zs.length - (Lib.compact zs).length) 0).toArray)
    (hn : ∀ (a : Option Addr) (cap : Nat) (w : World), Calls P f #[.slice a 0 cap] w fun e w' => e = .returned (.slice a 0 cap) ∧ w' = w)
    (hF : slices_Compact_int_int xs = some r) (hst : St w (fp [rowI v T (encInt .i64) 1 xs]) w [rowI v T (encInt .i64) 1 xs]) :
    Calls P f [v].toArray w (fun e w' => ∃ x0 : Value, e = .returned x0 ∧ St w (fp [rowI v T (encInt .i64) 1 xs]) w' [rowI x0 T (encInt .i64) 1 r]) := by
  cases hF
  have hown := hst.all 0 _ rfl
  have hown : w.ownsRow 0 T 1 v xs.length (flat (encInt .i64) xs) := hown
  rw [flat_encI] at hown
  rcases hown.2 with ⟨rfl, h0⟩ | ⟨g, cap, cur, rfl, hbase, hg, hnc, hm, hcs, htake⟩
  · have e : xs = [] := List.eq_nil_of_length_eq_zero h0
    subst e
    refine (hn none 0 w).mono ?_
    rintro e w' ⟨rfl, rfl⟩
    have e0 : Lib.compact ([] : List Int) = [] := rfl
    exact ⟨_, rfl, by rw [e0]; exact hst⟩
  · rw [Nat.mul_one] at htake
    have hle := compact_len xs
    refine (hs g 0 cap xs w (holds_of_blockI hg htake) (by simp only [maxLen] at hm; omega) hnc).mono ?_
    rintro e w' ⟨rfl, q, rfl⟩
    have hg2 := grownBy_sortedI (w := w) (g := g) (n := q) (os := #[]) (Lib.compact xs ++ List.replicate (xs.length - (Lib.compact xs).length) 0).toArray
    have ho2 := ownsRow_sortedI (n := q) (os := #[]) (ss := xs) (ts := Lib.compact xs ++ List.replicate (xs.length - (Lib.compact xs).length) 0) (by simp; omega) hbase hg hnc hm hcs
    rw [grow_empty] at hg2 ho2
    refine ⟨_, rfl, one_row hst hg2 ?_ rfl⟩
    rcases ho2.2 with ⟨hv, _⟩ | ⟨g', cap', cur', hv, hb', hg', hnc', hm', hcs', htake'⟩
    · cases hv
    · simp only [Value.slice.injEq, Option.some.injEq, Addr.mk.injEq, and_true] at hv
      obtain ⟨rfl, _, rfl⟩ := hv
      refine ⟨by simp [flat_encI], .inr ⟨g, cap, cur', rfl, hb', hg', by omega, hm', hcs', ?_⟩⟩
      rw [flat_encI, Nat.mul_one]
      rw [Nat.mul_one] at htake'
      have := congrArg (List.take (Lib.compact xs).length) htake'
      rw [List.take_take, Nat.min_eq_left hle] at this
      rw [this, List.map_append, List.take_append_of_le_length (by simp)]
      rw [List.take_of_length_le (by simp)]
end Go.Sx

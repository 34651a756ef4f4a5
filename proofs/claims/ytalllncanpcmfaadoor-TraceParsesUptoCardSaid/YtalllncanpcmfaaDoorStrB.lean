/- Bytes appended to a row out of a text; a text made of a row of bytes. -/
import Derived.Test.YtalllncanpcmfaaDoorStr
import Derived.Lib.AppendStr
import Derived.Laws.BytesArg
set_option linter.unusedVariables false
set_option linter.unusedSimpArgs false
namespace Go.Sx
open Go.RowKit

/-- a text's bytes, as numbers -/
def bytesOf (s : ByteArray) : List Int := s.data.toList.map fun b => (b.toNat : Int)
theorem bytesOf_len (s : ByteArray) : (bytesOf s).length = s.size := by
  unfold bytesOf
  rw [List.length_map, Array.length_toList]
  rfl
theorem flat_bytes (s : ByteArray) : flat (encInt .u8) (bytesOf s) = Lib.strCells s := by
  unfold bytesOf Lib.strCells
  induction s.data.toList with
  | nil => rfl
  | cons b r ih =>
    simp only [List.map_cons, flat, encInt]
    rw [ih]
    rfl
theorem run_append_none_str {P : Program} {w : World} {t u ty e : TypeId} {i : TypeInfo} (ht : P.underlying t = some (.slice e)) (hu : P.underlying u = some .string) (hi : P.info? e = some i) (hs : i.size = 1) {m : Nat} {xs : List Value} {v : Value} (hown : Owns w e 1 v m xs) (s : ByteArray) (h0 : s.size = 0) :
    (Builtin.append_ #[t, u] ty #[v, .string s]).run P w = .ok v w := by
  have hn : Lib.strCells s = [] := List.eq_nil_of_length_eq_zero (by rw [Lib.strCells_length]; exact h0)
  have hf := Lib.run_firstCells_string (P := P) w 1 s
  rw [hn, h0] at hf
  rcases hown.2 with ⟨_, b, rfl⟩ | ⟨g, o, cap, cur, rfl, _, _, hnc, _⟩
  · cases b <;> simp [Builtin.append_, run_underlying ht, run_underlying hu, sizeOf, typeInfo, hi, hs, Builtin.lenOf, h0, hf, storeCells]
  · simp [Builtin.append_, run_underlying ht, run_underlying hu, sizeOf, typeInfo, hi, hs, Builtin.lenOf, h0, hf, hnc, storeCells]
theorem run_append_roomS {P : Program} (w : World) (t u ty e : TypeId) (i : TypeInfo) (ht : P.underlying t = some (.slice e)) (hu : P.underlying u = some .string) (hi : P.info? e = some i) (hs1 : i.size = 1)
    (g o sLen sCap : Nat) (cur : Array Value) (hg : w.heap[g]? = some (.cells cur e (0, 0))) (s : ByteArray) (hroom : sLen + s.size ≤ sCap) (hfit : o + sLen + s.size ≤ cur.size) :
    (Builtin.append_ #[t, u] ty #[.slice (some ⟨g, o, none⟩) sLen sCap, .string s]).run P w =
      .ok (.slice (some ⟨g, o, none⟩) (sLen + s.size) sCap) (w.setRow g (splice cur.toList (Lib.strCells s) (o + sLen)).toArray) := by
  have hf := Lib.run_firstCells_string (P := P) w 1 s
  have hst := run_storeCells_at P g (o + sLen) e (Lib.strCells s) 0 cur w hg (by rw [Lib.strCells_length]; omega) (Lib.strCells_oneCell s)
  simp only [Nat.add_zero] at hst
  simp [Builtin.append_, run_underlying ht, run_underlying hu, sizeOf, typeInfo, hi, hs1, Builtin.lenOf, hroom, hf, add_none, hst, splice, Lib.strCells_length]
theorem run_appS {P : Program} (w : World) (t u ty e : TypeId) (i : TypeInfo) (z : Value) (ht : P.underlying t = some (.slice e)) (hu : P.underlying u = some .string) (hi : P.info? e = some i) (hz : i.zero = some z)
    (hsize : i.size = 1) (hby : i.bytes = 1) (hzs : z.cells.size = 1) (v : Value) (n : Nat) (xs : List Value) (hown : Owns w e 1 v n xs) (s : ByteArray) (hm0 : 0 < s.size)
    (h63 : n + s.size ≤ maxLen) (hbytes : n + s.size ≤ 140737488355328) :
    ∃ v' w', (Builtin.append_ #[t, u] ty #[v, .string s]).run P w = .ok v' w' ∧ Owns w' e 1 v' (n + s.size) (xs ++ Lib.strCells s) ∧ w.grownBy w' (ownB v) ∧ (ownB v' = ownB v ∨ ownB v' = some w.heap.size) := by
  have hsmall : n + s.size ≤ 9223372036854775807 := by simp only [maxLen] at h63; omega
  have hxl : xs.length = n := by simpa using hown.1
  have hlen : (xs ++ Lib.strCells s).length = (n + s.size) * 1 := by rw [List.length_append, hxl, Lib.strCells_length, Nat.mul_one]
  have grown : ∀ (old : Nat), old < n + s.size → ∀ (row : Option Nat),
      Owns (w.drew.alloc (.cells (xs.toArray ++ (Lib.strCells s).toArray ++ Builtin.zeroCells z.cells (grownCap w (n + s.size) old e - (n + s.size))) e)) e 1
        (.slice (some ⟨w.heap.size, 0, none⟩) (n + s.size) (grownCap w (n + s.size) old e)) (n + s.size) (xs ++ Lib.strCells s) ∧
      w.grownBy (w.drew.alloc (.cells (xs.toArray ++ (Lib.strCells s).toArray ++ Builtin.zeroCells z.cells (grownCap w (n + s.size) old e - (n + s.size))) e)) row ∧ ownB (.slice (some ⟨w.heap.size, 0, none⟩) (n + s.size) (grownCap w (n + s.size) old e)) = some w.heap.size := by
    intro old ho row
    have hge := grownCap_ge w (n + s.size) old e
    have hcm : grownCap w (n + s.size) old e ≤ maxLen := grownCap_le_maxLen w (n + s.size) old e h63
    refine ⟨⟨hlen, .inr ⟨w.heap.size, 0, _, _, rfl, by omega, heap_alloc_new w.drew _, hge, hcm, ?_, ?_⟩⟩, ⟨rfl, rfl, rfl, by simp, fun k hk _ => heap_alloc_old w.drew _ hk⟩, ownB_pos (by omega)⟩
    · simp only [Array.size_append, List.size_toArray, size_zeroCells, hzs, hxl, Lib.strCells_length, Nat.zero_add, Nat.mul_one]
      omega
    · simp only [Array.toList_append, List.append_assoc, List.drop_zero]
      rw [← List.append_assoc, ← hlen]
      exact List.take_left
  rcases hown.2 with ⟨rfl, b, rfl⟩ | ⟨g, o, cap, cur, rfl, hp, hg, hnc, hcm, hcs, htake⟩
  · have hx : xs = [] := List.eq_nil_of_length_eq_zero (by simpa using hown.1)
    subst hx
    cases b with
    | none =>
      have hr := run_append_nil_string (P := P) w t u ty e i z ht hu hi hz s (by omega) (by omega) (by rw [hby]; omega)
      have hgr := grown 0 (by omega) (ownB (.slice none 0 0))
      have e1 : (s.data.map fun b => Value.int .u8 b.toNat) = (Lib.strCells s).toArray := by
        apply Array.ext'
        simp [Lib.strCells]
      rw [e1] at hr
      simp only [Nat.zero_add, List.nil_append, Array.empty_append] at hgr ⊢
      exact ⟨_, _, hr, hgr.1, hgr.2.1, .inr hgr.2.2⟩
    | some b =>
      have hr := Lib.run_append_grow_string (P := P) w t u ty e i z ht hu hi hz b 0 0 [] (by simp) (fun j v hj => by simp at hj) s (by omega) (by omega) (by rw [hby]; exact growslice_fits (by omega) (by omega))
      have hgr := grown 0 (by omega) (ownB (.slice (some b) 0 0))
      exact ⟨_, _, hr, hgr.1, hgr.2.1, .inr hgr.2.2⟩
  · by_cases hroom : n + s.size ≤ cap
    · have hfit : o + n + s.size ≤ cur.size := by omega
      have hr := run_append_roomS (P := P) w t u ty e i ht hu hi hsize g o n cap cur hg s hroom hfit
      have hsl := Lib.strCells_length s
      refine ⟨_, _, hr, ⟨hlen, .inr ⟨g, o, cap, _, rfl, hp, setRow_heap w g cur _ e _ hg, hroom, hcm, ?_, ?_⟩⟩, ⟨rfl, rfl, rfl, by simp [World.setRow], fun k _ hk => setRow_other w g k _ (fun e => hk (by simp [ownB_pos hp, e]))⟩, .inl (by rw [ownB_pos hp, ownB_pos hp])⟩
      · simp only [splice, List.size_toArray, List.length_append, List.length_take, List.length_drop, Array.length_toList]
        omega
      · show ((splice cur.toList (Lib.strCells s) (o + n)).drop o).take ((n + s.size) * 1) = _
        rw [splice_window (by omega) (by omega) (by have := @Array.length_toList _ cur; omega), show o + n - o = n by omega]
        have ht2 : (cur.toList.drop o).take n = xs := by simpa using htake
        unfold splice
        rw [List.take_take, show min n ((n + s.size) * 1) = n by omega, ht2, List.drop_of_length_le (l := (cur.toList.drop o).take ((n + s.size) * 1)) (by rw [List.length_take]; omega), List.append_nil]
    · have holds : ∀ j u, xs[j]? = some u → w.cell? ((⟨g, o, none⟩ : Addr).add j) = some u := by
        intro j u hu2
        rw [add_none, cell_of_row w g _ cur e (0, 0) hg]
        rw [← htake, List.getElem?_take] at hu2
        split at hu2
        · rw [List.getElem?_drop] at hu2
          simpa using hu2
        · cases hu2
      have hr := Lib.run_append_grow_string (P := P) w t u ty e i z ht hu hi hz ⟨g, o, none⟩ n cap xs (by rw [hsize]; simpa using hxl) holds s (by omega) (by omega) (by rw [hby]; exact growslice_fits (by omega) (by omega))
      have hgr := grown cap (by omega) (ownB (.slice (some ⟨g, o, none⟩) n cap))
      exact ⟨_, _, hr, hgr.1, hgr.2.1, .inr hgr.2.2⟩
section
variable {P : Program} {N : Nat} {Q : Exit → Act → World → Prop} {fr : List (Nat × Value)} {w w0 : World} {l : List Oper} {i : Nat} {S0 : List Nat} {L : List Item}
/-- append of a text's bytes onto an owned row of bytes -/
theorem OW.appS {d t u e : Nat} {x y : Operand} {ty : TypeId} {pos : String} {af : Array Edge} {gdd : Option (Nat × Bool)} {ats : List Nat} (hst : St w0 S0 w L)
    (j : Nat) {v : Value} {xs : List Int} (hj : L[j]? = some (rowI v e (encInt .u8) 1 xs))
    (hl : opAt l i = some ⟨some d, .call ⟨.builtin .append, [x, y].toArray, ats.toArray⟩, ty, pos, af, gdd⟩) (ha : ats = [t, u]) (hg : gd l fr ⟨some d, .call ⟨.builtin .append, [x, y].toArray, ats.toArray⟩, ty, pos, af, gdd⟩ = some true)
    (hN : Nat.blt d N = true) (hx : look fr x = some v) {s : ByteArray} (hy : look fr y = some (.string s)) (ht : P.underlying t = some (.slice e)) (hu : P.underlying u = some .string) (hel : Elem P e 1 1)
    (hb : (xs.length + s.size) * 1 ≤ 140737488355328)
    (h : ∀ v' w', St w0 S0 w' (L.set j (rowI v' e (encInt .u8) 1 (xs ++ bytesOf s))) → OW P l N Q (i + 1) ((d, v') :: fr) w') : OW P l N Q i fr w := by
  subst ha
  have hrow := hst.all j _ hj
  obtain ⟨inf, z, hi, hz, hsz, hby, hzs⟩ := hel.info
  have exec : ∀ {v' : Value} {w' : World}, (Builtin.append_ #[t, u] ty #[v, .string s]).run P w = .ok v' w' → ∀ a, Rep N fr a →
      (execOp a.eval ⟨some d, .call ⟨.builtin .append, [x, y].toArray, [t, u].toArray⟩, ty, pos, af, gdd⟩).run P w = .ok (.value v') w' := by
    intro v' w' hr a ha
    have e1 := ha.look hx
    have e2 := ha.look hy
    simp [execOp, resolve, invoke, builtin, e1, e2, hr]
  rcases Nat.eq_zero_or_pos s.size with h0 | h0
  · have hys : bytesOf s = [] := List.eq_nil_of_length_eq_zero (by rw [bytesOf_len]; exact h0)
    refine OW.op hl hg rfl hN (exec (run_append_none_str ht hu hi hsz hrow s h0)) (h v w ?_)
    have hlt : j < L.length := (List.getElem?_eq_some_iff.1 hj).1
    have : L.set j (rowI v e (encInt .u8) 1 (xs ++ bytesOf s)) = L := by
      rw [hys, List.append_nil]
      apply List.ext_getElem?
      intro k
      rw [List.getElem?_set]
      split
      · rename_i hk; subst hk; simp [hlt]; have := (List.getElem?_eq_some_iff.1 hj).2; exact this.symm
      · rfl
    rw [this]
    exact hst
  · obtain ⟨v', w', hrun, hown, hgr, hat⟩ := run_appS (P := P) w t u ty e inf z ht hu hi hz hsz hby hzs v xs.length (flat (encInt .u8) xs) hrow s h0 (by simp only [maxLen]; omega) (by omega)
    refine OW.op hl hg rfl hN (exec hrun) (h v' w' ?_)
    refine hst.upd j hj (Chg.grown hgr (fun b hb => by simp [rowI, hb])) ?_ (fun b hb => ?_) rowI_nodup
    · show Owns w' e 1 v' _ _
      rw [flat_append, List.length_append, bytesOf_len, flat_bytes]
      exact hown
    · have hb' : ownB v' = some b := by simpa [rowI] using hb
      rcases hat with hat | hat
      · exact .inl (by simp [rowI, ← hat, hb'])
      · rw [hat] at hb'; exact .inr (by simp only [Option.some.injEq] at hb'; omega)
/-- a text made of a row of bytes -/
theorem OW.toStr {d src dst e : Nat} {x : Operand} {ty : TypeId} {pos : String} {af : Array Edge} {gdd : Option (Nat × Bool)} {v : Value} {xs : List Int} {S : List Nat}
    (hl : opAt l i = some ⟨some d, .convert src dst x, ty, pos, af, gdd⟩) (hg : gd l fr ⟨some d, .convert src dst x, ty, pos, af, gdd⟩ = some true) (hN : Nat.blt d N = true) (hx : look fr x = some v)
    (hs : P.underlying src = some (.slice e)) (he : P.underlying e = some (.int .u8)) (hd : P.underlying dst = some .string) (hr : Rd w S v (encInt .u8) 1 xs)
    (h : OW P l N Q (i + 1) ((d, .string (strOfNums xs)) :: fr) w) : OW P l N Q i fr w := by
  have run : (convert src dst v).run P w = .ok (.string (strOfNums xs)) w := by
    obtain ⟨hn, a, c, rfl, hcap, hc⟩ := hr
    cases xs with
    | nil =>
      cases a with
      | none => exact run_convert_bytes_nil (P := P) w src e hs he _ _ dst hd
      | some a =>
        have hl0 : (loadCells a 0).run P w = .ok #[] w := by simp [loadCells, loadCellsFrom]
        show (convert src dst (.slice (some a) 0 c)).run P w = _
        rw [run_convert_bytes_string w src dst e _ _ c hs he hd, run_bytesToString w _ _ c [] hl0]
        rfl
    | cons x0 r =>
      obtain ⟨b, k, rfl, _, _⟩ := hc 0 x0 0 (.int .u8 x0) rfl rfl
      refine run_convert_bytes_arg (P := P) w src e hs he b k _ c (x0 :: r) rfl (fun q hq => ?_) dst hd
      obtain ⟨b', k', hb', _, hcell⟩ := hc q ((x0 :: r)[q]) 0 (.int .u8 ((x0 :: r)[q])) (List.getElem?_eq_getElem hq) rfl
      simp only [Option.some.injEq, Addr.mk.injEq, and_true] at hb'
      obtain ⟨rfl, rfl⟩ := hb'
      rw [show (x0 :: r).getD q 0 = (x0 :: r)[q] from by simp [List.getD, List.getElem?_eq_getElem hq]]
      simpa using hcell
  refine OW.op hl hg rfl hN (fun a ha => ?_) h
  have e1 := ha.look hx
  simp [execOp, e1, run]
end
end Go.Sx

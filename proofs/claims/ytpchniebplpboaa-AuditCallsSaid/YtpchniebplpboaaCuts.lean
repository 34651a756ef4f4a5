/- Owned rows that are cut; clear of a row's end. -/
import Derived.Test.YtpchniebplpboaaReg
set_option linter.unusedVariables false
set_option linter.unusedSimpArgs false
namespace Go.Sx
open Go.RowKit
section
variable {α : Type} {enc : α → List Value} {sz : Nat}
theorem flat_take (he : ∀ x, (enc x).length = sz) (xs : List α) (n : Nat) : (flat enc xs).take (n * sz) = flat enc (xs.take n) := by
  induction xs generalizing n with
  | nil => simp [flat]
  | cons x r ih =>
    cases n with
    | zero => simp [flat]
    | succ n =>
      have h1 := he x
      simp only [flat, List.take_succ_cons]
      rw [List.take_append, h1, Nat.succ_mul, show n * sz + sz - sz = n * sz by omega, ih, List.take_of_length_le (by omega)]
theorem flat_drop (he : ∀ x, (enc x).length = sz) (xs : List α) (n : Nat) : (flat enc xs).drop (n * sz) = flat enc (xs.drop n) := by
  induction xs generalizing n with
  | nil => simp [flat]
  | cons x r ih =>
    cases n with
    | zero => simp
    | succ n =>
      have h1 := he x
      simp only [flat, List.drop_succ_cons]
      rw [List.drop_append, h1, Nat.succ_mul, show n * sz + sz - sz = n * sz by omega, ih, List.drop_of_length_le (by omega), List.nil_append]
theorem flat_app (xs ys : List α) : flat enc (xs ++ ys) = flat enc xs ++ flat enc ys := by
  induction xs with
  | nil => rfl
  | cons x r ih => simp only [List.cons_append, flat, ih, List.append_assoc]
theorem ones_app {a b : List Value} (h1 : ones a = true) (h2 : ones b = true) : ones (a ++ b) = true := by
  induction a with
  | nil => exact h2
  | cons x r ih =>
    unfold ones at h1
    show ones (x :: (r ++ b)) = true
    unfold ones
    cases hx : x.oneCell' with
    | true => rw [hx] at h1; exact ih h1
    | false => rw [hx] at h1; cases h1
theorem ones_flat {z : α} (h : ones (enc z) = true) (n : Nat) : ones (flat enc (List.replicate n z)) = true := by
  induction n with
  | zero => rfl
  | succ n ih => exact ones_app h ih
theorem zeroCells_flat {zs : Array Value} {z : α} (h : zs.toList = enc z) (n : Nat) : (Builtin.zeroCells zs n).toList = flat enc (List.replicate n z) := by
  have hs : zs.size = (enc z).length := by rw [← h]; simp
  have key : ∀ n, (List.range (n * zs.size)).map (fun i => zs[i % zs.size]!) = flat enc (List.replicate n z) := by
    intro n
    induction n with
    | zero => simp [flat]
    | succ n ih =>
      rw [Nat.succ_mul, List.range_add, List.map_append, ih, List.replicate_succ', flat_app]
      congr 1
      simp only [flat, List.append_nil, List.map_map]
      refine List.ext_getElem? (fun i => ?_)
      rw [List.getElem?_map]
      by_cases hi : i < zs.size
      · rw [List.getElem?_range hi]
        simp only [Option.map_some, Function.comp]
        rw [show (n * zs.size + i) % zs.size = i by rw [Nat.add_comm, Nat.add_mul_mod_self_right, Nat.mod_eq_of_lt hi], ← h, getElem!_pos zs i hi]
        simp [hi]
      · rw [List.getElem?_eq_none (by simpa using hi), List.getElem?_eq_none (by omega)]
        rfl
  simpa [Builtin.zeroCells] using key n
theorem Owns.pre {w : World} {T : TypeId} {a : Option Addr} {n c : Nat} {xs ys : List α} (he : ∀ x, (enc x).length = sz) (h : Owns w T sz (.slice a n c) xs.length (flat enc xs)) {q : Int} (hc : cut xs 0 q = some ys) :
    Owns w T sz (.slice a ys.length c) ys.length (flat enc ys) := by
  obtain ⟨_, h1, h2, e⟩ := cut_some hc
  have hl := cut_len hc
  have hys : ys = xs.take ys.length := by
    rw [hl]; simpa using e
  refine ⟨flat_length he _, ?_⟩
  rcases h.2 with ⟨h0, a', hv⟩ | ⟨g, o, cap, cur, hv, hp, hg, hnc, hm, hcs, ht⟩
  · simp only [Value.slice.injEq] at hv
    obtain ⟨rfl, rfl, rfl⟩ := hv
    have : ys.length = 0 := by omega
    exact .inl ⟨this, a, by rw [this]⟩
  · simp only [Value.slice.injEq] at hv
    obtain ⟨rfl, rfl, rfl⟩ := hv
    refine .inr ⟨g, o, c, cur, rfl, hp, hg, by omega, hm, hcs, ?_⟩
    have hle : ys.length * sz ≤ xs.length * sz := Nat.mul_le_mul_right _ (by omega)
    have e2 : ((cur.toList.drop o).take (xs.length * sz)).take (ys.length * sz) = (cur.toList.drop o).take (ys.length * sz) := by
      rw [List.take_take, Nat.min_eq_left hle]
    rw [← e2, ht, flat_take he]
    exact congrArg (flat enc) hys.symm
theorem Owns.suf {w : World} {T : TypeId} {a : Option Addr} {n c : Nat} {xs ys : List α} (he : ∀ x, (enc x).length = sz) (h : Owns w T sz (.slice a n c) xs.length (flat enc xs)) {q : Int} (hc : cut xs q (xs.length : Int) = some ys) :
    Owns w T sz (.slice (shd a c q.toNat sz) ys.length (c - q.toNat)) ys.length (flat enc ys) := by
  obtain ⟨h0, h1, h2, e⟩ := cut_some hc
  have hl := cut_len hc
  have hys : ys = xs.drop q.toNat := by
    rw [e]; simp
  refine ⟨flat_length he _, ?_⟩
  rcases h.2 with ⟨hz, a', hv⟩ | ⟨g, o, cap, cur, hv, hp, hg, hnc, hm, hcs, ht⟩
  · simp only [Value.slice.injEq] at hv
    obtain ⟨rfl, rfl, rfl⟩ := hv
    have h3 : ys.length = 0 := by omega
    exact .inl ⟨h3, _, by rw [h3, Nat.zero_sub]⟩
  · simp only [Value.slice.injEq] at hv
    obtain ⟨rfl, rfl, rfl⟩ := hv
    by_cases hcq : c = q.toNat
    · have h3 : ys.length = 0 := by omega
      exact .inl ⟨h3, _, by rw [h3, hcq, Nat.sub_self]⟩
    · have hqn : q.toNat ≤ xs.length := by omega
      have hlen : ys.length = xs.length - q.toNat := by rw [hys, List.length_drop]
      refine .inr ⟨g, o + q.toNat * sz, c - q.toNat, cur, ?_, by omega, hg, by omega, by omega, ?_, ?_⟩
      · simp [shd, hcq, Addr.add]
      · have : (c - q.toNat) * sz + q.toNat * sz = c * sz := by rw [← Nat.add_mul]; congr 1; omega
        omega
      · have hm1 : q.toNat * sz + ys.length * sz = xs.length * sz := by rw [← Nat.add_mul]; congr 1; omega
        have e3 : ((cur.toList.drop o).take (xs.length * sz)).drop (q.toNat * sz) = (cur.toList.drop (o + q.toNat * sz)).take (ys.length * sz) := by
          rw [List.drop_take, List.drop_drop]
          congr 1
          omega
        rw [← e3, ht, flat_drop he, hys]
end
section
variable {P : Program} {N : Nat} {Q : Exit → Act → World → Prop} {fr fr' : List (Nat × Value)} {w w0 : World} {l : List Oper} {i : Nat} {o : Oper} {S0 : List Nat} {L : List Item} {α : Type} {enc : α → List Value} {sz : Nat}
theorem St.cutRow {T : TypeId} {a : Option Addr} {n c : Nat} {xs ys : List α} (hst : St w0 S0 w L) (j : Nat) (hj : L[j]? = some (rowI (.slice a n c) T enc sz xs)) (he : ∀ x, (enc x).length = sz) {q : Int} (hc : cut xs 0 q = some ys) :
    St w0 S0 w (L.set j (rowI (.slice a ys.length c) T enc sz ys)) := by
  have h := hst.all j _ hj
  have e : (ownB (.slice a ys.length c)).toList = (ownB (.slice a n c)).toList := by
    cases a with
    | none => rfl
    | some a => cases c <;> rfl
  exact hst.upd j hj (Chg.refl _ _) (Owns.pre he h hc) (fun b hb => .inl (by
    show b ∈ (ownB (.slice a n c)).toList
    rw [← e]
    exact hb)) rowI_nodup
theorem St.sufRow {T : TypeId} {a : Option Addr} {n c : Nat} {xs ys : List α} (hst : St w0 S0 w L) (j : Nat) (hj : L[j]? = some (rowI (.slice a n c) T enc sz xs)) (he : ∀ x, (enc x).length = sz) {q : Int} (hc : cut xs q (xs.length : Int) = some ys) :
    St w0 S0 w (L.set j (rowI (.slice (shd a c q.toNat sz) ys.length (c - q.toNat)) T enc sz ys)) := by
  have h := hst.all j _ hj
  refine hst.upd j hj (Chg.refl _ _) (Owns.suf he h hc) (fun b hb => .inl ?_) rowI_nodup
  have hb : b ∈ (ownB (.slice (shd a c q.toNat sz) ys.length (c - q.toNat))).toList := hb
  show b ∈ (ownB (.slice a n c)).toList
  cases c with
  | zero => rw [Nat.zero_sub, ownB_zero] at hb; cases hb
  | succ c =>
    cases a with
    | none =>
      have : shd none (c + 1) q.toNat sz = none := by unfold shd; split <;> rfl
      rw [this] at hb
      cases hb
    | some a =>
      by_cases hcq : c + 1 = q.toNat
      · rw [hcq, Nat.sub_self, ownB_zero] at hb
        cases hb
      · have e1 : shd (some a) (c + 1) q.toNat sz = some (a.add (q.toNat * sz)) := by unfold shd; rw [if_neg hcq]; rfl
        rw [e1] at hb
        rcases Nat.eq_zero_or_pos (c + 1 - q.toNat) with h0 | h0
        · rw [h0, ownB_zero] at hb; cases hb
        · rw [ownB_pos h0] at hb
          rw [ownB_pos (Nat.succ_pos c)]
          have e2 : (a.add (q.toNat * sz)).block = a.block := by
            obtain ⟨b0, o0, s0⟩ := a
            unfold Addr.add
            simp only
            try split
            all_goals rfl
          rw [e2] at hb
          exact hb
theorem OW.clearR {t e : TypeId} {ats : List Nat} {x : Operand} {ty : TypeId} {pos : String} {af : Array Edge} {gdd : Option (Nat × Bool)} (hst : St w0 S0 w L) (j : Nat) {T : TypeId} {a : Option Addr} {n c : Nat} {xs ys : List α} (hj : L[j]? = some (rowI (.slice a n c) T enc sz xs)) (he : ∀ x, (enc x).length = sz)
    (hl : opAt l i = some ⟨none, .call ⟨.builtin .clear, [x].toArray, ats.toArray⟩, ty, pos, af, gdd⟩) (hg : gd l fr ⟨none, .call ⟨.builtin .clear, [x].toArray, ats.toArray⟩, ty, pos, af, gdd⟩ = some true)
    {q : Int} (hc : cut xs q (xs.length : Int) = some ys) (hx : look fr x = some (.slice (shd a c q.toNat sz) ys.length (c - q.toNat))) (ha0 : ats[0]? = some t) (ht : P.underlying t = some (.slice e)) (z : α)
    (hz : (psem P (zeroValue e)).map (·.cells.toList) = some (enc z)) (h1 : ones (enc z) = true)
    (h : ∀ w', St w0 S0 w' (L.set j (rowI (.slice a n c) T enc sz (xs.take q.toNat ++ List.replicate ys.length z))) → OW P l N Q (i + 1) fr w') : OW P l N Q i fr w := by
  obtain ⟨h0, hq1, hq2, e0⟩ := cut_some hc
  have hl0 := cut_len hc
  have hyl : ys.length = xs.length - q.toNat := by omega
  have ha1 : (ats.toArray)[0]? = some t := by simpa using ha0
  have hr : Owns w T sz (.slice a n c) xs.length (flat enc xs) := hst.all j _ hj
  cases hy : ys.length with
  | zero =>
    have hxs : xs.take q.toNat ++ List.replicate ys.length z = xs := by
      rw [hy, List.replicate_zero, List.append_nil, List.take_of_length_le (by omega)]
    have hst' : St w0 S0 w (L.set j (rowI (.slice a n c) T enc sz (xs.take q.toNat ++ List.replicate ys.length z))) := by
      rw [hxs]
      have hlj := (List.getElem?_eq_some_iff.1 hj)
      rw [show L.set j (rowI (.slice a n c) T enc sz xs) = L from by
        obtain ⟨h5, h6⟩ := hlj
        rw [← h6, List.set_getElem_self]]
      exact hst
    refine OW.opn (v := .tuple #[]) hl hg rfl (w' := w) (fun b hb => ?_) (h _ hst')
    have e1 := hb.look hx
    rw [hy] at e1
    cases hshd : shd a c q.toNat sz with
    | none => rw [hshd] at e1; simp [execOp, resolve, invoke, builtin, e1, Builtin.clear_, ha1, run_underlying ht]
    | some a' => rw [hshd] at e1; simp [execOp, resolve, invoke, builtin, e1, Builtin.clear_, ha1, run_underlying ht]
  | succ k =>
    rcases hr.2 with ⟨hz0, _⟩ | ⟨g, o, cap, cur, hv, hp, hgc, hnc, hm, hcs, htake⟩
    · omega
    · simp only [Value.slice.injEq] at hv
      obtain ⟨rfl, rfl, rfl⟩ := hv
      have hcq : ¬ c = q.toNat := by omega
      have eshd : shd (some ⟨g, o, none⟩) c q.toNat sz = some ⟨g, o + q.toNat * sz, none⟩ := by simp [shd, hcq, Addr.add]
      cases hzv : psem P (zeroValue e) with
      | none => rw [hzv] at hz; cases hz
      | some zv =>
        rw [hzv] at hz
        have hzc : zv.cells.toList = enc z := by simpa using hz
        have hvs := zeroCells_flat (enc := enc) hzc (k + 1)
        let vs := flat enc (List.replicate (k + 1) z)
        have hvl : vs.length = (k + 1) * sz := by
          have := flat_length he (List.replicate (k + 1) z)
          simpa using this
        have hsum : q.toNat * sz + (k + 1) * sz = xs.length * sz := by rw [← Nat.add_mul]; congr 1; omega
        have hcap : xs.length * sz ≤ c * sz := Nat.mul_le_mul_right _ hnc
        have hfit : o + q.toNat * sz + vs.length ≤ cur.size := by omega
        have hst2 := run_storeCells_at (P := P) g (o + q.toNat * sz) T vs 0 cur w hgc (by simpa using hfit) (ones_mem (ones_flat h1 _))
        refine OW.opn (v := .tuple #[]) hl hg rfl (w' := w.setRow g (splice cur.toList vs (o + q.toNat * sz)).toArray) (fun b hb => ?_) (h _ ?_)
        · have e1 := hb.look hx
          rw [hy, eshd] at e1
          have hz' := psem_run hzv w
          have h3 : (storeCells ⟨g, o + q.toNat * sz, none⟩ vs).run P w = .ok () (w.setRow g (splice cur.toList vs (o + q.toNat * sz)).toArray) := by simpa [splice] using hst2
          have h4 : (Builtin.zeroCells zv.cells (k + 1)).toList = vs := hvs
          simp [execOp, resolve, invoke, builtin, e1, Builtin.clear_, ha1, run_underlying ht, hz', h4, h3]
        · have hlen : (splice cur.toList vs (o + q.toNat * sz)).length = cur.size := by simp [splice] at hfit ⊢; omega
          refine hst.upd j hj ⟨rfl, rfl, rfl, by simp [World.setRow], fun k' _ hn => setRow_other w g k' _ (by rintro rfl; exact hn (by simp [rowI, ownB_pos hp]))⟩ ?_ (fun k' hk' => .inl hk') rowI_nodup
          have hl2 : (xs.take q.toNat ++ List.replicate ys.length z).length = xs.length := by simp; omega
          show Owns (w.setRow g _) T sz _ _ _
          rw [hl2]
          refine ⟨by rw [flat_length he, hl2], .inr ⟨g, o, c, _, rfl, hp, setRow_heap w g cur _ T _ hgc, hnc, hm, by rw [List.size_toArray, hlen]; exact hcs, ?_⟩⟩
          simp only
          rw [splice_window (by omega) (by omega) (by have := @Array.length_toList _ cur; omega), htake, show o + q.toNat * sz - o = q.toNat * sz by omega]
          rw [flat_app, ← flat_take he, hy]
          unfold splice
          rw [List.drop_of_length_le (by rw [flat_length he]; omega), List.append_nil]
end
end Go.Sx

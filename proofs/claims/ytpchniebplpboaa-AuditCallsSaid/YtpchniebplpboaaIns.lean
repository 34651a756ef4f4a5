/- copy into an owned row; a row with its spare room; append of noughts: what slices.Insert wants. -/
import Derived.Test.YtpchniebplpboaaCuts
import Derived.Lib.Overlaps
import Derived.Lib.AppendZerosOnto
import Derived.Laws.Externs
set_option linter.unusedVariables false
set_option linter.unusedSimpArgs false
namespace Go.Sx
open Go.RowKit
section
variable {P : Program} {N : Nat} {Q : Exit → Act → World → Prop} {fr fr' : List (Nat × Value)} {w w0 : World} {l : List Oper} {i : Nat} {o : Oper} {S0 : List Nat} {L : List Item} {α : Type} {enc : α → List Value} {sz : Nat}
def over {α : Type} (xs : List α) (lo : Nat) (ys : List α) : List α := xs.take lo ++ ys.take (xs.length - lo) ++ xs.drop (lo + ys.length)
theorem over_len {α : Type} (xs : List α) (lo : Nat) (ys : List α) (h : lo ≤ xs.length) : (over xs lo ys).length = xs.length := by
  simp [over]; omega
theorem flat_mem2 {xs : List α} {u : Value} (h : u ∈ flat enc xs) : ∃ x, x ∈ xs ∧ u ∈ enc x := by
  induction xs with
  | nil => cases h
  | cons x r ih =>
    rcases List.mem_append.1 h with h | h
    · exact ⟨x, List.mem_cons_self, h⟩
    · obtain ⟨y, hy, h⟩ := ih h
      exact ⟨y, List.mem_cons_of_mem _ hy, h⟩
theorem cut_prf0 {α : Type} {xs : List α} {q : Nat} (h : q ≤ xs.length) : cut xs 0 (q : Int) = some (xs.take q) := by
  unfold cut
  rw [if_pos ⟨by omega, by omega, by omega⟩]
  simp
theorem OW.copyR {d t t2 e : Nat} {x y : Operand} {ty : TypeId} {pos : String} {af : Array Edge} {gdd : Option (Nat × Bool)} {ats : List Nat} (hst : St w0 S0 w L) (j : Nat) {T : TypeId} {a : Option Addr} {n c : Nat} {xs zs : List α} (hj : L[j]? = some (rowI (.slice a n c) T enc sz xs)) (he : ∀ x, (enc x).length = sz) (hp : 0 < sz)
    (hl : opAt l i = some ⟨some d, .call ⟨.builtin .copy, [x, y].toArray, ats.toArray⟩, ty, pos, af, gdd⟩) (ha : ats = [t, t2]) (hg : gd l fr ⟨some d, .call ⟨.builtin .copy, [x, y].toArray, ats.toArray⟩, ty, pos, af, gdd⟩ = some true) (hN : Nat.blt d N = true)
    {q : Int} (hc : cut xs q (xs.length : Int) = some zs) (hx : look fr x = some (.slice (shd a c q.toNat sz) zs.length (c - q.toNat))) {v2 : Value} (hy : look fr y = some v2) (ht : P.underlying t = some (.slice e)) (hs : psem P (sizeOf e) = some sz)
    {ys : List α} {S : List Nat} (hr : Rd w S v2 enc sz ys) (ho : ∀ y ∈ ys.take zs.length, ones (enc y) = true)
    (h : ∀ w', St w0 S0 w' (L.set j (rowI (.slice a n c) T enc sz (over xs q.toNat ys))) → OW P l N Q (i + 1) ((d, .int .i64 ((Nat.min ys.length zs.length : Nat) : Int)) :: fr) w') : OW P l N Q i fr w := by
  subst ha
  obtain ⟨h0, hq1, hq2, e0⟩ := cut_some hc
  have hl0 := cut_len hc
  have hzl : zs.length = xs.length - q.toNat := by omega
  obtain ⟨hn63, a2, c2, rfl, hlc, hcell0⟩ := hr
  have hrow : Owns w T sz (.slice a n c) xs.length (flat enc xs) := hst.all j _ hj
  obtain ⟨k, hk⟩ : ∃ k, k = Nat.min ys.length zs.length := ⟨_, rfl⟩
  have hk1 : k ≤ ys.length := by rw [hk]; exact Nat.min_le_left _ _
  have hk2 : k ≤ zs.length := by rw [hk]; exact Nat.min_le_right _ _
  have hover : over xs q.toNat ys = xs.take q.toNat ++ ys.take k ++ xs.drop (q.toNat + k) := by
    unfold over
    rw [← hzl]
    by_cases hle : ys.length ≤ zs.length
    · have : k = ys.length := by rw [hk]; exact Nat.min_eq_left hle
      rw [this, List.take_of_length_le hle, List.take_of_length_le (Nat.le_refl _)]
    · have : k = zs.length := by rw [hk]; exact Nat.min_eq_right (by omega)
      rw [this, List.drop_of_length_le (l := xs) (i := q.toNat + ys.length) (by omega), List.drop_of_length_le (l := xs) (i := q.toNat + zs.length) (by omega)]
  have news_len : (flat enc (ys.take k)).length = k * sz := by rw [flat_length he, List.length_take]; congr 1; omega
  have exec : ∀ {cells : Array Value} {w' : World}, (Builtin.firstCells sz k (.slice a2 ys.length c2)).run P w = .ok cells w → (∀ b0, shd a c q.toNat sz = some b0 → (storeCells b0 cells.toList).run P w = .ok () w') → (shd a c q.toNat sz = none → w' = w) → ∀ b, Rep N fr b →
      (execOp b.eval ⟨some d, .call ⟨.builtin .copy, [x, y].toArray, [t, t2].toArray⟩, ty, pos, af, gdd⟩).run P w = .ok (.value (.int .i64 (k : Nat))) w' := by
    intro cells w' hr1 hr2 hr3 b hb
    have e1 := hb.look hx
    have e2 := hb.look hy
    have hs' := psem_run hs w
    cases hsh : shd a c q.toNat sz with
    | none =>
      rw [hsh] at e1
      have hw : w' = w := hr3 hsh
      subst hw
      simp [execOp, resolve, invoke, builtin, e1, e2, Builtin.copy_, run_underlying ht, Builtin.lenOf, hs', ← hk, hr1, goInt]
    | some b' =>
      rw [hsh] at e1
      have h9 := hr2 _ hsh
      simp [execOp, resolve, invoke, builtin, e1, e2, Builtin.copy_, run_underlying ht, Builtin.lenOf, hs', ← hk, hr1, h9, goInt]
  rcases Nat.eq_zero_or_pos k with hk0 | hkp
  · -- nothing is copied
    have hf : (Builtin.firstCells sz k (.slice a2 ys.length c2)).run P w = .ok #[] w := by
      rw [hk0]
      cases a2 <;> simp [Builtin.firstCells, loadCells, loadCellsFrom]
    have hs2 : ∀ b0, shd a c q.toNat sz = some b0 → (storeCells b0 (#[] : Array Value).toList).run P w = .ok () w := fun b0 _ => by simp [storeCells]
    have hsame : over xs q.toNat ys = xs := by
      rw [hover, hk0]; simp
    refine OW.op hl hg rfl hN (exec hf hs2 (fun _ => rfl)) ?_
    have h := h w
    rw [← hk] at h
    refine h ?_
    rw [hsame]
    obtain ⟨h5, h6⟩ := List.getElem?_eq_some_iff.1 hj
    rw [show L.set j (rowI (.slice a n c) T enc sz xs) = L from by rw [← h6, List.set_getElem_self]]
    exact hst
  · rcases hrow.2 with ⟨hz0, _⟩ | ⟨g, o, cap, cur, hv, hp2, hgc, hnc, hm, hcs, htake⟩
    · omega
    · simp only [Value.slice.injEq] at hv
      obtain ⟨rfl, rfl, rfl⟩ := hv
      have hcq : ¬ c = q.toNat := by omega
      have eshd : shd (some ⟨g, o, none⟩) c q.toNat sz = some ⟨g, o + q.toNat * sz, none⟩ := by simp [shd, hcq, Addr.add]
      -- the source's cells
      obtain ⟨y0, hy0⟩ : ∃ y0, ys[0]? = some y0 := ⟨ys[0], List.getElem?_eq_getElem (by omega)⟩
      obtain ⟨u0, hu0⟩ : ∃ u0, (enc y0)[0]? = some u0 := ⟨(enc y0)[0]'(by rw [he]; exact hp), List.getElem?_eq_getElem (by rw [he]; exact hp)⟩
      obtain ⟨b, kk, rfl, _, _⟩ := hcell0 0 y0 0 u0 hy0 hu0
      have hcell : ∀ q u, (flat enc (ys.take k))[q]? = some u → w.cell? ((⟨b, kk, none⟩ : Addr).add q) = some u := by
        intro q u hu
        rw [add_none]
        obtain ⟨t, f, x, hx, hf, hq⟩ := flat_split he hp hu
        have hx' : ys[t]? = some x := by
          rw [List.getElem?_take] at hx
          split at hx
          · exact hx
          · cases hx
        obtain ⟨b', k', hb', _, hcell⟩ := hcell0 t x f u hx' hf
        simp only [Option.some.injEq, Addr.mk.injEq, and_true] at hb'
        obtain ⟨rfl, rfl⟩ := hb'
        rw [hq, ← Nat.add_assoc]
        exact hcell
      have hf : (Builtin.firstCells sz k (.slice (some ⟨b, kk, none⟩) ys.length c2)).run P w = .ok (flat enc (ys.take k)).toArray w :=
        run_firstCells_some (P := P) w sz k ⟨b, kk, none⟩ ys.length c2 _ news_len hcell
      have hone : ∀ u ∈ flat enc (ys.take k), u.oneCell' = true := by
        intro u hu
        obtain ⟨x, hxm, hx⟩ := flat_mem2 hu
        have hxm2 : x ∈ ys.take zs.length := by
          have : ys.take k = (ys.take zs.length).take k := by rw [List.take_take, Nat.min_eq_left hk2]
          rw [this] at hxm
          exact List.mem_of_mem_take hxm
        exact ones_mem (ho x hxm2) u hx
      have hsum : q.toNat * sz + k * sz ≤ xs.length * sz := by rw [← Nat.add_mul]; exact Nat.mul_le_mul_right _ (by omega)
      have hcap : xs.length * sz ≤ c * sz := Nat.mul_le_mul_right _ hnc
      have hfit : o + q.toNat * sz + (flat enc (ys.take k)).length ≤ cur.size := by omega
      have hst2 := run_storeCells_at (P := P) g (o + q.toNat * sz) T (flat enc (ys.take k)) 0 cur w hgc (by simpa using hfit) hone
      refine OW.op hl hg rfl hN (exec hf (w' := w.setRow g (splice cur.toList (flat enc (ys.take k)) (o + q.toNat * sz)).toArray) (fun b0 hb0 => ?_) (fun hb0 => ?_)) ?_
      · rw [eshd] at hb0
        cases hb0
        simpa [splice] using hst2
      · rw [eshd] at hb0
        cases hb0
      · have h := h (w.setRow g (splice cur.toList (flat enc (ys.take k)) (o + q.toNat * sz)).toArray)
        rw [← hk] at h
        refine h ?_
        have hlen : (splice cur.toList (flat enc (ys.take k)) (o + q.toNat * sz)).length = cur.size := by simp [splice] at hfit ⊢; omega
        refine hst.upd j hj ⟨rfl, rfl, rfl, by simp [World.setRow], fun k' _ hn => setRow_other w g k' _ (by rintro rfl; exact hn (by simp [rowI, ownB_pos hp2]))⟩ ?_ (fun k' hk' => .inl hk') rowI_nodup
        have hl2 : (over xs q.toNat ys).length = xs.length := over_len _ _ _ (by omega)
        show Owns (w.setRow g _) T sz _ _ _
        rw [hl2]
        refine ⟨by rw [flat_length he, hl2], .inr ⟨g, o, c, _, rfl, hp2, setRow_heap w g cur _ T _ hgc, hnc, hm, by rw [List.size_toArray, hlen]; exact hcs, ?_⟩⟩
        simp only
        rw [splice_window (by omega) (by omega) (by have := @Array.length_toList _ cur; omega), htake, show o + q.toNat * sz - o = q.toNat * sz by omega]
        rw [hover, flat_app, flat_app]
        unfold splice
        rw [flat_take he, news_len, ← Nat.add_mul, flat_drop he]
theorem OW.appW {d t e : Nat} {x y : Operand} {ty : TypeId} {pos : String} {af : Array Edge} {gdd : Option (Nat × Bool)} {ats : List Nat} {bytes : Nat} (hst : St w0 S0 w L) (j : Nat) {a : Option Addr} {n c p : Nat} {xs : List α} (hj : L[j]? = some (rowI (.slice a n c) e enc sz xs)) (he : ∀ x, (enc x).length = sz) (ho : ∀ x, ones (enc x) = true)
    (hl : opAt l i = some ⟨some d, .call ⟨.builtin .append, [x, y].toArray, ats.toArray⟩, ty, pos, af, gdd⟩) (ha : ats = [t, t]) (hg : gd l fr ⟨some d, .call ⟨.builtin .append, [x, y].toArray, ats.toArray⟩, ty, pos, af, gdd⟩ = some true) (hN : Nat.blt d N = true)
    (hx : look fr x = some (.slice a p c)) {v2 : Value} (hy : look fr y = some v2) (ht : P.underlying t = some (.slice e)) (hel : Elem P e sz bytes)
    {ys : List α} {S : List Nat} (hr : Rd w S v2 enc sz ys) (hp : p + ys.length ≤ xs.length)
    (h : ∀ w', St w0 S0 w' (L.set j (rowI (.slice a n c) e enc sz (over xs p ys))) → OW P l N Q (i + 1) ((d, .slice a (p + ys.length) c) :: fr) w') : OW P l N Q i fr w := by
  subst ha
  obtain ⟨inf, zv, hi, hzi, hsz, hby, hzs⟩ := hel.info
  have hrow : Owns w e sz (.slice a n c) xs.length (flat enc xs) := hst.all j _ hj
  obtain ⟨hn63, a2, c2, rfl, hlc, hc⟩ := hr
  have exec : ∀ {v' : Value} {w' : World}, (Builtin.append_ #[t, t] ty #[.slice a p c, .slice a2 ys.length c2]).run P w = .ok v' w' → ∀ b, Rep N fr b →
      (execOp b.eval ⟨some d, .call ⟨.builtin .append, [x, y].toArray, [t, t].toArray⟩, ty, pos, af, gdd⟩).run P w = .ok (.value v') w' := by
    intro v' w' hr b hb
    have e1 := hb.look hx
    have e2 := hb.look hy
    simp [execOp, resolve, invoke, builtin, e1, e2, hr]
  rcases Nat.eq_zero_or_pos ys.length with h0 | h0
  · have hys : ys = [] := List.eq_nil_of_length_eq_zero h0
    subst hys
    have hpre : Owns w e sz (.slice a (xs.take p).length c) (xs.take p).length (flat enc (xs.take p)) := Owns.pre he hrow (cut_prf0 (q := p) (by simp at hp; exact hp))
    have hl : (xs.take p).length = p := by rw [List.length_take]; simp at hp; omega
    have hrun := run_append_none (ty := ty) ht hel.size hpre a2 c2
    rw [hl] at hrun
    refine OW.op ‹_› hg rfl hN (exec hrun) (h w ?_)
    have hsame : over xs p ([] : List α) = xs := by simp [over]
    rw [hsame]
    obtain ⟨h5, h6⟩ := List.getElem?_eq_some_iff.1 hj
    rw [show L.set j (rowI (.slice a n c) e enc sz xs) = L from by rw [← h6, List.set_getElem_self]]
    exact hst
  · rcases hrow.2 with ⟨hz0, _⟩ | ⟨g, o, cap, cur, hv, hp2, hgc, hnc, hm, hcs, htake⟩
    · omega
    · simp only [Value.slice.injEq] at hv
      obtain ⟨rfl, rfl, rfl⟩ := hv
      obtain ⟨y0, hy0⟩ : ∃ y0, ys[0]? = some y0 := ⟨ys[0], List.getElem?_eq_getElem h0⟩
      obtain ⟨u0, hu0⟩ : ∃ u0, (enc y0)[0]? = some u0 := ⟨(enc y0)[0]'(by rw [he]; exact hel.pos), List.getElem?_eq_getElem (by rw [he]; exact hel.pos)⟩
      obtain ⟨b, kk, rfl, _, _⟩ := hc 0 y0 0 u0 hy0 hu0
      have hcell : ∀ q u, (flat enc ys)[q]? = some u → w.cell? ((⟨b, kk, none⟩ : Addr).add q) = some u := by
        intro q u hu
        rw [add_none]
        obtain ⟨t, f, x, hx, hf, hq⟩ := flat_split he hel.pos hu
        obtain ⟨b', k', hb', _, hcell⟩ := hc t x f u hx hf
        simp only [Option.some.injEq, Addr.mk.injEq, and_true] at hb'
        obtain ⟨rfl, rfl⟩ := hb'
        rw [hq, ← Nat.add_assoc]
        exact hcell
      have hone : ∀ u ∈ flat enc ys, u.oneCell' = true := by
        intro u hu
        obtain ⟨x, hx⟩ := flat_mem hu
        exact ones_mem (ho x) u hx
      have fl : (flat enc ys).length = ys.length * inf.size := by rw [hsz]; exact flat_length he ys
      have hsum : p * sz + ys.length * sz ≤ xs.length * sz := by rw [← Nat.add_mul]; exact Nat.mul_le_mul_right _ hp
      have hcap : xs.length * sz ≤ c * sz := Nat.mul_le_mul_right _ hnc
      have fl2 : (flat enc ys).length = ys.length * sz := flat_length he ys
      have hfit : o + p * sz + (flat enc ys).length ≤ cur.size := by omega
      have hrun := run_append_roomO (P := P) w t ty e inf ht hi g o p c cur hgc ⟨b, kk, none⟩ ys.length c2 (flat enc ys) fl hcell hone (by omega) (by rw [hsz]; exact hfit)
      rw [hsz] at hrun
      refine OW.op ‹_› hg rfl hN (exec hrun) (h _ ?_)
      have hlen : (splice cur.toList (flat enc ys) (o + p * sz)).length = cur.size := by simp [splice] at hfit ⊢; omega
      refine hst.upd j hj ⟨rfl, rfl, rfl, by simp [World.setRow], fun k' _ hn => setRow_other w g k' _ (by rintro rfl; exact hn (by simp [rowI, ownB_pos hp2]))⟩ ?_ (fun k' hk' => .inl hk') rowI_nodup
      have hl2 : (over xs p ys).length = xs.length := over_len _ _ _ (by omega)
      show Owns (w.setRow g _) e sz _ _ _
      rw [hl2]
      refine ⟨by rw [flat_length he, hl2], .inr ⟨g, o, c, _, rfl, hp2, setRow_heap w g cur _ e _ hgc, hnc, hm, by rw [List.size_toArray, hlen]; exact hcs, ?_⟩⟩
      simp only
      rw [splice_window (by omega) (by omega) (by have := @Array.length_toList _ cur; omega), htake, show o + p * sz - o = p * sz by omega]
      unfold over
      rw [flat_app, flat_app, List.take_of_length_le (l := ys) (by omega)]
      unfold splice
      rw [flat_take he, fl2, ← Nat.add_mul, flat_drop he]
theorem sub3_val {t e : TypeId} (a : Option Addr) (n c : Nat) {q r m : Int} (h0 : 0 ≤ q) (h1 : q ≤ r) (h2 : r ≤ m) (h3 : m ≤ (c : Int)) (ht : P.underlying t = some (.slice e)) (hs : psem P (sizeOf e) = some sz) :
    ∃ v, ∀ (o : Oper) (fr : List (Nat × Value)) {x y z u : Operand} {kd ke kf : IntKind}, o.op = .slice t x (some y) (some z) (some u) → look fr x = some (.slice a n c) → look fr y = some (.int kd q) → look fr z = some (.int ke r) → look fr u = some (.int kf m) → ∀ b w, Rep N fr b → (execOp b.eval o).run P w = .ok (.value v) w := by
  refine ⟨.slice (if m.toNat = q.toNat then a else a.map (·.add (q.toNat * sz))) (r.toNat - q.toNat) (m.toNat - q.toNat), fun o fr x y z u kd ke kf ho hx hy hz hu b w hb => ?_⟩
  have e1 := hb.look hx
  have e2 := hb.look hy
  have e4 := hb.look hz
  have e5 := hb.look hu
  obtain ⟨q, rfl⟩ := Int.eq_ofNat_of_zero_le h0
  obtain ⟨r, rfl⟩ := Int.eq_ofNat_of_zero_le (by omega : 0 ≤ r)
  obtain ⟨m, rfl⟩ := Int.eq_ofNat_of_zero_le (by omega : 0 ≤ m)
  have g1 : q ≤ r := by omega
  have g2 : r ≤ m := by omega
  have g3 : m ≤ c := by omega
  simp [execOp, ho, Instr.sliceAt, Instr.slice, Instr.sliceBounds, Instr.sliceBound, run_underlying ht, e1, e2, e4, e5, asIntOf, g1, g2, g3, psem_run hs]
theorem flat_raw (he : ∀ x, (enc x).length = sz) (xs : List α) : flat (fit sz) (xs.map enc) = flat enc xs := by
  induction xs with
  | nil => rfl
  | cons x r ih => simp only [List.map_cons, flat, ih, fit_eq (he x)]
theorem Rd.raw {S : List Nat} {v : Value} {xs : List α} (he : ∀ x, (enc x).length = sz) (h : Rd w S v enc sz xs) : Rd w S v (fit sz) sz (xs.map enc) := by
  obtain ⟨h1, a, c, hv, hlc, hc⟩ := h
  refine ⟨by simpa using h1, a, c, by simpa using hv, by simpa using hlc, fun t x f u hx hu => ?_⟩
  rw [List.getElem?_map] at hx
  cases hxt : xs[t]? with
  | none => rw [hxt] at hx; cases hx
  | some y =>
    rw [hxt] at hx
    cases hx
    rw [fit_eq (he y)] at hu
    exact hc t y f u hxt hu
def blocks (sz : Nat) : Nat → List Value → List (List Value)
  | 0, _ => []
  | n + 1, cs => cs.take sz :: blocks sz n (cs.drop sz)
theorem blocks_len (sz n : Nat) (cs : List Value) : (blocks sz n cs).length = n := by
  induction n generalizing cs with
  | zero => rfl
  | succ n ih => simp [blocks, ih]
theorem blocks_flat (sz : Nat) : ∀ (n : Nat) (cs : List Value), cs.length = n * sz → flat (fit sz) (blocks sz n cs) = cs := by
  intro n
  induction n with
  | zero => intro cs h; have : cs = [] := List.eq_nil_of_length_eq_zero (by simpa using h); rw [this]; rfl
  | succ n ih =>
    intro cs h
    simp only [blocks, flat]
    rw [Nat.succ_mul] at h
    rw [fit_eq (by rw [List.length_take]; omega), ih _ (by rw [List.length_drop]; omega), List.take_append_drop]
theorem St.spare {T : TypeId} {a : Option Addr} {n c k : Nat} {xs : List α} (hst : St w0 S0 w L) (j : Nat) (hj : L[j]? = some (rowI (.slice a n c) T enc sz xs)) (he : ∀ x, (enc x).length = sz) (hk : xs.length ≤ k) (hkc : k ≤ c) :
    ∃ junk : List (List Value), junk.length = k - xs.length ∧ St w0 S0 w (L.set j (rowI (.slice a k c) T (fit sz) sz (xs.map enc ++ junk))) := by
  have h : Owns w T sz (.slice a n c) xs.length (flat enc xs) := hst.all j _ hj
  have e : (ownB (.slice a k c)).toList = (ownB (.slice a n c)).toList := by
    cases a with
    | none => rfl
    | some a => cases c <;> rfl
  have fin : ∀ junk : List (List Value), junk.length = k - xs.length → Owns w T sz (.slice a k c) (xs.map enc ++ junk).length (flat (fit sz) (xs.map enc ++ junk)) → St w0 S0 w (L.set j (rowI (.slice a k c) T (fit sz) sz (xs.map enc ++ junk))) := fun junk hl ho =>
    hst.upd j hj (Chg.refl _ _) ho (fun b hb => .inl (by
      show b ∈ (ownB (.slice a n c)).toList
      rw [← e]
      exact hb)) rowI_nodup
  rcases h.2 with ⟨h0, a', hv⟩ | ⟨g, o, cap, cur, hv, hp, hg, hnc, hm, hcs, ht⟩
  · simp only [Value.slice.injEq] at hv
    obtain ⟨rfl, rfl, rfl⟩ := hv
    have hxs : xs = [] := List.eq_nil_of_length_eq_zero h0
    subst hxs
    have : k = 0 := by omega
    subst this
    exact ⟨[], rfl, fin [] rfl (Owns.nil _ _ _ _)⟩
  · simp only [Value.slice.injEq] at hv
    obtain ⟨rfl, rfl, rfl⟩ := hv
    have hks : k * sz ≤ c * sz := Nat.mul_le_mul_right _ hkc
    have hxk : xs.length * sz ≤ k * sz := Nat.mul_le_mul_right _ hk
    have hsub : (k - xs.length) * sz = k * sz - xs.length * sz := Nat.sub_mul ..
    have hwl : ((cur.toList.drop o).take (k * sz)).length = k * sz := by
      rw [List.length_take, List.length_drop, Array.length_toList]; omega
    refine ⟨blocks sz (k - xs.length) (((cur.toList.drop o).take (k * sz)).drop (xs.length * sz)), blocks_len _ _ _, fin _ (blocks_len _ _ _) ?_⟩
    have hfl : flat (fit sz) (xs.map enc ++ blocks sz (k - xs.length) (((cur.toList.drop o).take (k * sz)).drop (xs.length * sz))) = (cur.toList.drop o).take (k * sz) := by
      rw [flat_app, flat_raw he, blocks_flat _ _ _ (by rw [List.length_drop, hwl]; omega), ← ht]
      conv => rhs; rw [← List.take_append_drop (xs.length * sz) ((cur.toList.drop o).take (k * sz))]
      rw [List.take_take, Nat.min_eq_left hxk]
    have hll : (xs.map enc ++ blocks sz (k - xs.length) (((cur.toList.drop o).take (k * sz)).drop (xs.length * sz))).length = k := by
      rw [List.length_append, List.length_map, blocks_len]; omega
    refine ⟨by rw [flat_length (fit_len sz)], .inr ⟨g, o, c, cur, by rw [hll], hp, hg, by rw [hll]; exact hkc, hm, hcs, ?_⟩⟩
    rw [hll, hfl]
theorem St.typed {T : TypeId} {v : Value} {xs : List α} {css : List (List Value)} (hst : St w0 S0 w L) (j : Nat) (hj : L[j]? = some (rowI v T (fit sz) sz css)) (he : ∀ x, (enc x).length = sz) (hc : css = xs.map enc) : St w0 S0 w (L.set j (rowI v T enc sz xs)) := by
  have h : Owns w T sz v css.length (flat (fit sz) css) := hst.all j _ hj
  subst hc
  rw [flat_raw he, List.length_map] at h
  exact hst.upd j hj (Chg.refl _ _) h (fun b hb => .inl hb) rowI_nodup
theorem ones_fit {cs : List Value} (h : ones cs = true) (hl : cs.length = sz) : ones (fit sz cs) = true := by rw [fit_eq hl]; exact h
theorem room_run {o : Oper} {t e : TypeId} {x y : Operand} {a : Option Addr} {n c k : Nat} {q : Int} {kd : IntKind} (ho : o.op = .slice t x none (some y) none) (hx : look fr x = some (.slice a n c)) (hy : look fr y = some (.int kd q)) (hq : q = (k : Int))
    (hk : k ≤ c) (ht : P.underlying t = some (.slice e)) (hs : psem P (sizeOf e) = some sz) : ∀ b w, Rep N fr b → (execOp b.eval o).run P w = .ok (.value (.slice a k c)) w := by
  intro b w hb
  have e1 := hb.look hx
  have e2 := hb.look hy
  subst hq
  have h3 : (0 : Int) ≤ (k : Int) ∧ (k : Int) ≤ (c : Int) := ⟨by omega, by omega⟩
  have e4 : (if c = 0 then a else a.map (fun x => x.add 0)) = a := by
    split
    · rfl
    · cases a with
      | none => rfl
      | some z => simp [Addr.add]
  simp [execOp, ho, Instr.sliceAt, Instr.slice, Instr.sliceBounds, Instr.sliceBound, run_underlying ht, e1, e2, asIntOf, h3.1, hk, psem_run hs, e4]
theorem firstCells_rd {S : List Nat} {a : Option Addr} {c : Nat} {ys : List α} (he : ∀ x, (enc x).length = sz) (hp : 0 < sz) (hr : Rd w S (.slice a ys.length c) enc sz ys) : (Builtin.firstCells sz ys.length (.slice a ys.length c)).run P w = .ok (flat enc ys).toArray w := by
  obtain ⟨_, a2, c2, hv, _, hc⟩ := hr
  simp only [Value.slice.injEq] at hv
  obtain ⟨rfl, _, rfl⟩ := hv
  rcases Nat.eq_zero_or_pos ys.length with h0 | h0
  · have : ys = [] := List.eq_nil_of_length_eq_zero h0
    subst this
    cases a <;> simp [Builtin.firstCells, loadCells, loadCellsFrom, flat]
  · obtain ⟨y0, hy0⟩ : ∃ y0, ys[0]? = some y0 := ⟨ys[0], List.getElem?_eq_getElem h0⟩
    obtain ⟨u0, hu0⟩ : ∃ u0, (enc y0)[0]? = some u0 := ⟨(enc y0)[0]'(by rw [he]; exact hp), List.getElem?_eq_getElem (by rw [he]; exact hp)⟩
    obtain ⟨b, k, rfl, _, _⟩ := hc 0 y0 0 u0 hy0 hu0
    refine run_firstCells_some (P := P) w sz ys.length ⟨b, k, none⟩ ys.length c _ (flat_length he _) (fun q u hu => ?_)
    rw [add_none]
    obtain ⟨t, f, x, hx, hf, hq⟩ := flat_split he hp hu
    obtain ⟨b', k', hb', _, hcell⟩ := hc t x f u hx hf
    simp only [Option.some.injEq, Addr.mk.injEq, and_true] at hb'
    obtain ⟨rfl, rfl⟩ := hb'
    rw [hq, ← Nat.add_assoc]
    exact hcell
theorem OW.appZ {d t tn e : Nat} {x y : Operand} {ty : TypeId} {pos : String} {af : Array Edge} {gdd : Option (Nat × Bool)} {ats : List Nat} {bytes : Nat} (hst : St w0 S0 w L) (he : ∀ x, (enc x).length = sz)
    (hl : opAt l i = some ⟨some d, .call ⟨.builtin .append, [x, y].toArray, ats.toArray⟩, ty, pos, af, gdd⟩) (ha : ats = [t, tn]) (hg : gd l fr ⟨some d, .call ⟨.builtin .append, [x, y].toArray, ats.toArray⟩, ty, pos, af, gdd⟩ = some true) (hN : Nat.blt d N = true)
    {a : Option Addr} {c : Nat} {ys : List α} (hx : look fr x = some (.slice a ys.length c)) {kd : IntKind} {q : Int} (hy : look fr y = some (.int kd q)) {k : Nat} (hq : q = (k : Int)) (ht : P.underlying t = some (.slice e)) (htn : P.underlying tn = some (.int .i64)) (hel : Elem P e sz bytes)
    {S : List Nat} (hr : Rd w S (.slice a ys.length c) enc sz ys) (z : α) (hz : (psem P (zeroValue e)).map (·.cells.toList) = some (enc z)) (hk : 0 < k) (hc : c < ys.length + k) (hb : (ys.length + k) * bytes ≤ 140737488355328)
    (h : ∀ g cc w', St w0 S0 w' (L ++ [rowI (.slice (some ⟨g, 0, none⟩) (ys.length + k) cc) e enc sz (ys ++ List.replicate k z)]) → ys.length + k ≤ cc → OW P l N Q (i + 1) ((d, .slice (some ⟨g, 0, none⟩) (ys.length + k) cc) :: fr) w') : OW P l N Q i fr w := by
  subst ha; subst hq
  obtain ⟨inf, zv, hi, hzi, hsz, hby, hzs⟩ := hel.info
  have hkb : k * bytes ≤ (ys.length + k) * bytes := Nat.mul_le_mul_right _ (by omega)
  have hnb : ys.length + k ≤ (ys.length + k) * bytes := Nat.le_mul_of_pos_right _ hel.bpos
  have hold : (Builtin.firstCells inf.size ys.length (.slice a ys.length c)).run P w.drew = .ok (flat enc ys).toArray w.drew := by
    rw [hsz]
    have hr' : Rd w.drew S (.slice a ys.length c) enc sz ys := hr
    exact firstCells_rd he hel.pos hr'
  have hrun := Lib.run_append_grow_zeros (P := P) w t tn ty e inf zv kd .i64 ht htn hi hzi a ys.length c (flat enc ys) hold k hk (by rw [hsz]; exact hel.pos) hc (by omega) (by rw [hby]; omega) (by rw [hby]; exact growslice_fits (by omega) hb)
  have hzc : zv.cells.toList = enc z := by
    cases hq : psem P (zeroValue e) with
    | none => rw [hq] at hz; cases hz
    | some z' =>
      have h1 := psem_run hq w
      rw [hq] at hz
      simp only [zeroValue, typeInfo, hi, hzi] at h1
      have : z' = zv := by simpa [Sem.run, typeInfo, hi, hzi] using h1.symm
      rw [← this]
      simpa using hz
  have hge := grownCap_ge w (ys.length + k) c e
  have hcm : grownCap w (ys.length + k) c e ≤ maxLen := grownCap_le_maxLen w (ys.length + k) c e (by simp only [maxLen]; omega)
  obtain ⟨W, hW⟩ : ∃ W, W = (w.drew.alloc (.cells ((flat enc ys).toArray ++ Builtin.zeroCells zv.cells k ++ Builtin.zeroCells zv.cells (grownCap w (ys.length + k) c e - (ys.length + k))) e)) := ⟨_, rfl⟩
  rw [← hW] at hrun
  refine OW.op hl hg rfl hN (w' := W) (fun b hbr => ?_) (h w.heap.size _ W ?_ hge)
  · have e1 := hbr.look hx
    have e2 := hbr.look hy
    simp [execOp, resolve, invoke, builtin, e1, e2, hrun]
  · subst hW
    have hz1 := zeroCells_flat (enc := enc) hzc k
    refine hst.push ⟨rfl, rfl, rfl, by simp, fun k hk _ => heap_alloc_old w.drew _ hk⟩ ?_ (fun b hb => fresh_block hb) rowI_nodup
    show Owns _ e sz _ _ _
    have hl1 : (ys ++ List.replicate k z).length = ys.length + k := by simp
    have hf1 : flat enc (ys ++ List.replicate k z) = flat enc ys ++ (Builtin.zeroCells zv.cells k).toList := by rw [flat_app, hz1]
    rw [hl1]
    refine ⟨by rw [flat_length he, hl1], .inr ⟨w.heap.size, 0, _, _, rfl, by omega, heap_alloc_new w.drew _, hge, hcm, ?_, ?_⟩⟩
    · have e1 : (flat enc ys).length = ys.length * sz := flat_length he _
      simp only [Array.size_append, List.size_toArray, size_zeroCells, hzs, e1, ← Nat.add_mul, Nat.zero_add]
      exact Nat.le_of_eq (by congr 1; omega)
    · simp only [Array.toList_append, List.append_assoc, List.drop_zero]
      have e1 : (flat enc ys ++ (Builtin.zeroCells zv.cells k).toList).length = (ys.length + k) * sz := by rw [← hf1, flat_length he, hl1]
      rw [← List.append_assoc, hf1, ← e1]
      exact List.take_left
theorem overlaps_run {f : FuncId} {fn : Func} {tS tR e : TypeId} {T T2 : TypeId} {a1 a2 : Option Addr} {n1 c1 n2 c2 l2 cc : Nat} {enc2 : α → List Value} {sz2 q : Nat} {β : Type} {enc3 : β → List Value} {sz3 : Nat} {xs : List α} {ys : List β} (hst : St w0 S0 w L) (j1 j2 : Nat) (hne : j1 ≠ j2)
    (h1 : L[j1]? = some (rowI (.slice a1 n1 c1) T enc2 sz2 xs)) (h2 : L[j2]? = some (rowI (.slice a2 n2 c2) T2 enc3 sz3 ys))
    (hf : P.funcs[f]? = some fn) (hname : (fn.name == "runtime.NumGoroutine") = false) (hb : fn.body.isNone = true) (hn : Extern.findNext fn = none) (hx : Extern.find fn = some (Extern.SlicesOverlaps.overlaps #[tS, tS] #[tR])) (ht : P.underlying tS = some (.slice e)) (hs : psem P (sizeOf e) = some sz) (hp3 : 0 < sz3) (hn1 : 0 < xs.length) (hn2 : 0 < ys.length) :
    (callFunc f #[.slice a1 n1 c1, .slice (shd a2 c2 q sz3) l2 cc]).run P w = .ok (.value (.bool false)) w := by
  rw [run_callFunc_extern hf hname hb hn hx]
  have o1 : Owns w T sz2 (.slice a1 n1 c1) xs.length (flat enc2 xs) := hst.all j1 _ h1
  have o2 : Owns w T2 sz3 (.slice a2 n2 c2) ys.length (flat enc3 ys) := hst.all j2 _ h2
  have hz : ∀ w, (Go.sizeOf e).run P w = .ok sz w := fun w => psem_run hs w
  rcases o1.2 with ⟨hz1, _⟩ | ⟨g, o, cap, cur, hv1, hp1, hg1, hnc1, hm1, hcs1, _⟩
  · omega
  · simp only [Value.slice.injEq] at hv1
    obtain ⟨rfl, rfl, rfl⟩ := hv1
    rcases o2.2 with ⟨hz2, _⟩ | ⟨g2, o2', cap2, cur2, hv2, hp2', hg2, hnc2, hm2, hcs2, _⟩
    · omega
    · simp only [Value.slice.injEq] at hv2
      obtain ⟨rfl, rfl, rfl⟩ := hv2
      have hgg : g ≠ g2 := fun e => hst.apart j1 j2 _ _ hne h1 h2 g (by simp [rowI, ownB_pos hp1]) (by rw [e]; simp [rowI, ownB_pos hp2'])
      obtain ⟨o3, ho3⟩ : ∃ o3, shd (some ⟨g2, o2', none⟩) c2 q sz3 = some ⟨g2, o3, none⟩ := by
        unfold shd
        split
        · exact ⟨_, rfl⟩
        · exact ⟨o2' + q * sz3, by simp [Addr.add]⟩
      rw [ho3]
      have hsa : w.shape? g = some (T, cur.size) := by unfold World.shape?; rw [hg1]
      have hsb : w.shape? g2 = some (T2, cur2.size) := by unfold World.shape?; rw [hg2]
      have hk2 : cur2.size ≠ 0 := by
        have : 0 < c2 * sz3 := Nat.mul_pos hp2' hp3
        omega
      rw [Lib.run_overlaps_apart w tS tR e ht sz hz ⟨g, o, none⟩ ⟨g2, o3, none⟩ xs.length c1 l2 cc hgg T T2 cur.size cur2.size hsa hsb hk2 ?_ ?_]
      · rfl
      · simp [World.frozen?, hg1]
      · simp [World.frozen?, hg1]
theorem ovl_run {o : Oper} {x y : Operand} {ats : List Nat} {f : FuncId} {fn : Func} {tS tR e : TypeId} {T T2 : TypeId} {a1 a2 : Option Addr} {n1 c1 n2 c2 l2 cc : Nat} {enc2 : α → List Value} {sz2 q : Nat} {β : Type} {enc3 : β → List Value} {sz3 : Nat} {xs : List α} {ys : List β} (hst : St w0 S0 w L) (j1 j2 : Nat) (hne : Nat.beq j1 j2 = false)
    (h1 : L[j1]? = some (rowI (.slice a1 n1 c1) T enc2 sz2 xs)) (h2 : L[j2]? = some (rowI (.slice a2 n2 c2) T2 enc3 sz3 ys)) (ho : o.op = .call ⟨.value (.func f), [x, y].toArray, ats.toArray⟩) (hx : look fr x = some (.slice a1 n1 c1)) (hy : look fr y = some (.slice (shd a2 c2 q sz3) l2 cc))
    (hf : P.funcs[f]? = some fn) (hname : (fn.name == "runtime.NumGoroutine") = false) (hb : fn.body.isNone = true) (hn : Extern.findNext fn = none) (hxx : Extern.find fn = some (Extern.SlicesOverlaps.overlaps #[tS, tS] #[tR])) (ht : P.underlying tS = some (.slice e)) (hs : psem P (sizeOf e) = some sz) (hp3 : 0 < sz3) (hn1 : 0 < xs.length) (hn2 : 0 < ys.length) :
    ∀ a, Rep N fr a → (execOp a.eval o).run P w = .ok (.value (.bool false)) w := by
  intro a ha
  have e1 := ha.look hx
  have e2 := ha.look hy
  have h5 := overlaps_run (P := P) (tS := tS) (tR := tR) (e := e) (l2 := l2) (cc := cc) (q := q) hst j1 j2 (Nat.ne_of_beq_eq_false hne) h1 h2 hf hname hb hn hxx ht hs hp3 hn1 hn2
  have e4 : a.eval (.func f) = .func (.func f) #[] #[] := rfl
  simp [execOp, ho, resolve, Deferred.ofValue, invoke, e1, e2, e4, h5, Result.andThen]
end
def insF {α : Type} (by_ : Nat) (xs : List α) (i : Int) (ys : List α) : Option (List α × List α) :=
  if 0 ≤ i ∧ i ≤ xs.length ∧ (xs.length + ys.length) * by_ ≤ 140737488355328 then some (xs.take i.toNat ++ ys ++ xs.drop i.toNat, ys) else none
theorem insF_some {α : Type} {b : Nat} {xs ys : List α} {i : Int} {r : List α × List α} (h : insF b xs i ys = some r) : ∃ k : Nat, i = (k : Int) ∧ k ≤ xs.length ∧ (xs.length + ys.length) * b ≤ 140737488355328 ∧ r = (xs.take k ++ ys ++ xs.drop k, ys) := by
  unfold insF at h
  split at h
  · rename_i hc
    obtain ⟨k, rfl⟩ := Int.eq_ofNat_of_zero_le hc.1
    cases h
    exact ⟨k, rfl, by omega, hc.2.2, rfl⟩
  · cases h
theorem cut_suf {α : Type} {xs : List α} {k : Nat} {q : Int} (hq : q = (k : Int)) (h : k ≤ xs.length) : cut xs q (xs.length : Int) = some (xs.drop k) := by
  subst hq
  unfold cut
  rw [if_pos ⟨by omega, by omega, by omega⟩]
  simp
theorem cut_prf {α : Type} {xs : List α} {k : Nat} {q : Int} (hq : q = (k : Int)) (h : k ≤ xs.length) : cut xs 0 q = some (xs.take k) := by
  subst hq
  unfold cut
  rw [if_pos ⟨by omega, by omega, by omega⟩]
  simp
theorem insA {α : Type} {xs ys : List α} {k : Nat} (h : k ≤ xs.length) (z : α) : over (over (xs.take k ++ List.replicate (xs.length + ys.length - k) z) k ys) (k + ys.length) (xs.drop k) = xs.take k ++ ys ++ xs.drop k := by
  have h1 : over (xs.take k ++ List.replicate (xs.length + ys.length - k) z) k ys = xs.take k ++ ys ++ List.replicate (xs.length - k) z := by
    unfold over
    rw [List.take_append_of_le_length (by simp; omega), List.take_take, Nat.min_self, List.take_of_length_le (l := ys) (by simp; omega), List.drop_append, List.drop_of_length_le (by simp; omega), List.drop_replicate]
    simp only [List.nil_append, List.length_take]
    congr 2
    omega
  rw [h1]
  unfold over
  have hl : (xs.take k ++ ys).length = k + ys.length := by simp; omega
  rw [List.take_append_of_le_length (by omega), List.take_of_length_le (by omega), List.take_of_length_le (l := xs.drop k) (by simp; omega), List.drop_of_length_le (l := xs.take k ++ ys ++ List.replicate (xs.length - k) z) (i := k + ys.length + (xs.drop k).length) (by simp; omega), List.append_nil]
theorem insOnes {α : Type} {enc : α → List Value} {sz : Nat} {xs : List α} {k m : Nat} {junk : List (List Value)} (h : k ≤ xs.length) (hj : junk.length = m) (he : ∀ x, (enc x).length = sz) (ho : ∀ x, ones (enc x) = true) :
    ∀ y ∈ ((xs.map enc ++ junk).drop k).take ((xs.map enc ++ junk).drop (k + m)).length, ones (fit sz y) = true := by
  intro y hy
  have hl : ((xs.map enc ++ junk).drop (k + m)).length = xs.length - k := by simp; omega
  rw [hl, ← List.drop_take] at hy
  have hy2 := List.mem_of_mem_drop hy
  rw [List.take_append_of_le_length (by simp), List.take_of_length_le (by simp)] at hy2
  obtain ⟨x, _, rfl⟩ := List.mem_map.1 hy2
  exact ones_fit (ho x) (he x)
theorem insOnes2 {α : Type} {enc : α → List Value} {sz n : Nat} {ys : List α} (he : ∀ x, (enc x).length = sz) (ho : ∀ x, ones (enc x) = true) : ∀ y ∈ (ys.map enc).take n, ones (fit sz y) = true := by
  intro y hy
  obtain ⟨x, _, rfl⟩ := List.mem_map.1 (List.mem_of_mem_take hy)
  exact ones_fit (ho x) (he x)
theorem insB {α : Type} {enc : α → List Value} {xs ys : List α} {k : Nat} {junk : List (List Value)} (h : k ≤ xs.length) (hj : junk.length = ys.length) :
    over (over (xs.map enc ++ junk) (k + ys.length) ((xs.map enc ++ junk).drop k)) k (ys.map enc) = (xs.take k ++ ys ++ xs.drop k).map enc := by
  obtain ⟨X, hX⟩ : ∃ X, X = xs.map enc ++ junk := ⟨_, rfl⟩
  have hXl : X.length = xs.length + ys.length := by rw [hX]; simp [hj]
  have hXt : X.take xs.length = xs.map enc := by rw [hX, List.take_append_of_le_length (by simp), List.take_of_length_le (by simp)]
  rw [← hX]
  have h1 : over X (k + ys.length) (X.drop k) = X.take (k + ys.length) ++ (xs.drop k).map enc := by
    unfold over
    rw [List.drop_of_length_le (l := X) (i := k + ys.length + (X.drop k).length) (by simp; omega), List.append_nil]
    congr 1
    rw [hXl, show xs.length + ys.length - (k + ys.length) = xs.length - k by omega, List.map_drop, ← hXt, List.drop_take]
  rw [h1]
  unfold over
  have hl : (X.take (k + ys.length)).length = k + ys.length := by simp; omega
  rw [List.take_append_of_le_length (by omega), List.take_take, Nat.min_eq_left (by omega), List.take_of_length_le (l := ys.map enc) (by simp; omega), List.drop_append, List.drop_of_length_le (l := X.take (k + ys.length)) (by simp; omega), hl]
  simp only [List.length_map, Nat.sub_self, List.drop_zero, List.nil_append, List.map_append]
  congr 2
  have := congrArg (List.take k) hXt
  rw [List.take_take, Nat.min_eq_left h] at this
  rw [this, List.map_take]
def delF {α : Type} (xs : List α) (i j : Int) : Option (List α) :=
  if 0 ≤ i ∧ i ≤ j ∧ j ≤ xs.length then some (xs.take i.toNat ++ xs.drop j.toNat) else none
theorem delF_some {α : Type} {xs r : List α} {i j : Int} (h : delF xs i j = some r) : ∃ p q : Nat, i = (p : Int) ∧ j = (q : Int) ∧ p ≤ q ∧ q ≤ xs.length ∧ r = xs.take p ++ xs.drop q := by
  unfold delF at h
  split at h
  · rename_i hc
    obtain ⟨p, rfl⟩ := Int.eq_ofNat_of_zero_le hc.1
    obtain ⟨q, rfl⟩ := Int.eq_ofNat_of_zero_le (Int.le_trans hc.1 hc.2.1)
    cases h
    exact ⟨p, q, rfl, rfl, by omega, by omega, rfl⟩
  · cases h
theorem delL {α : Type} {xs : List α} {p q : Nat} (h1 : p ≤ q) (h2 : q ≤ xs.length) (z : α) (n : Nat) : ((over xs p (xs.drop q)).take (p + (xs.drop q).length) ++ List.replicate n z).take (p + (xs.drop q).length) = xs.take p ++ xs.drop q := by
  have hl : (over xs p (xs.drop q)).length = xs.length := over_len _ _ _ (by omega)
  have hd : (xs.drop q).length = xs.length - q := by simp
  rw [List.take_append_of_le_length (by rw [List.length_take, hl]; omega), List.take_take, Nat.min_self]
  unfold over
  rw [List.take_of_length_le (l := xs.drop q) (by omega), List.take_append_of_le_length (by simp; omega), List.take_of_length_le (by simp; omega)]
end Go.Sx

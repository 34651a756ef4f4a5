/- A struct that stands inside a block: what is ahead of it and behind it stays. And clear. -/
import Derived.Test.YtkgajppghpmkbaaDoorArr
set_option linter.unusedVariables false
set_option linter.unusedSimpArgs false
namespace Go.Sx
open Go.RowKit

def partI (b : Nat) (T : TypeId) (A cs C : List Value) : Item := blkI b T (A ++ (cs ++ C))
section
variable {P : Program} {N : Nat} {Q : Exit → Act → World → Prop} {fr fr' : List (Nat × Value)} {w w0 : World} {l : List Oper} {i : Nat} {o : Oper} {S0 : List Nat} {L : List Item}
theorem St.prt (h : St w0 S0 w L) (j : Nat) {b : Nat} {T : TypeId} {A cs C : List Value} (hj : L[j]? = some (partI b T A cs C)) (k : Nat) {v : Value} (hv : cs[k]? = some v) : w.cell? ⟨b, A.length + k, none⟩ = some v := by
  refine h.blk j hj ?_
  rw [List.getElem?_append_right (by omega), show A.length + k - A.length = k by omega, List.getElem?_append_left (List.getElem?_eq_some_iff.1 hv).1]
  exact hv
theorem St.arrP {α : Type} (h : St w0 S0 w L) (j : Nat) {b : Nat} {T : TypeId} {A cs C : List Value} (hj : L[j]? = some (partI b T A cs C)) (enc : α → List Value) {sz : Nat} (he : ∀ x, (enc x).length = sz) (n : Nat) (a : Nat → α) (k0 : Nat)
    (hcs : cs = cs.take k0 ++ (arrC enc n a ++ cs.drop (k0 + n * sz))) (hk : Nat.ble k0 cs.length = true) {q : Int} {t : Nat} (hi : ain n q = some t) :
    ∀ f u, (enc (a t))[f]? = some u → w.cell? ⟨b, A.length + k0 + q.toNat * sz + f, none⟩ = some u :=
  cell_arr (fun f u hf => h.prt j hj f hf) enc he n a k0 hcs hk hi
theorem OW.stPA {α : Type} {t : TypeId} {x y : Operand} {ty : TypeId} {pos : String} {af : Array Edge} {gdd : Option (Nat × Bool)} (hst : St w0 S0 w L) (j : Nat) {b : Nat} {T : TypeId} {A cs C : List Value} (hj : L[j]? = some (partI b T A cs C))
    (hl : opAt l i = some ⟨none, .store t x y, ty, pos, af, gdd⟩) (hg : gd l fr ⟨none, .store t x y, ty, pos, af, gdd⟩ = some true)
    {k : Nat} {v : Value} (hx : look fr x = some (.pointer (some ⟨b, k, none⟩))) (hy : look fr y = some v)
    (hs : psem P (sizeOf t) = some v.cells.toList.length) (h1 : ones v.cells.toList = true)
    (enc : α → List Value) {sz : Nat} (he : ∀ x, (enc x).length = sz) (n : Nat) (a : Nat → α) (k0 : Nat) (hcs : cs = cs.take k0 ++ (arrC enc n a ++ cs.drop (k0 + n * sz))) (hb : Nat.ble k0 cs.length = true) {q : Int} {u : Nat} (hi : ain n q = some u)
    (f : Nat) (hk : k = A.length + k0 + q.toNat * sz + f) (hf : Nat.ble (f + v.cells.toList.length) sz = true) (x' : α) (hx' : splice (enc (a u)) v.cells.toList f = enc x')
    (cs' : List Value) (hcs' : cs' = cs.take k0 ++ (arrC enc n (aset a u x') ++ cs.drop (k0 + n * sz)))
    (h : ∀ w', St w0 S0 w' (L.set j (partI b T A cs' C)) → OW P l N Q (i + 1) fr w') : OW P l N Q i fr w := by
  obtain ⟨e1, e2⟩ := arr_splice enc he n a k0 hcs hb hi hf hx' hcs'
  subst hk
  refine OW.stB (k := A.length + (k0 + q.toNat * sz + f)) hst j hj hl hg (by rw [hx]; congr 4; omega) hy hs h1 (Nat.ble_eq_true_of_le (by rw [List.length_append, List.length_append]; omega)) (A ++ (cs' ++ C)) (by rw [splice_mid e2, e1]) h
theorem OW.clear {t e : TypeId} {ats : List Nat} {x : Operand} {ty : TypeId} {pos : String} {af : Array Edge} {gdd : Option (Nat × Bool)} (hst : St w0 S0 w L) (j : Nat) {b : Nat} {T : TypeId} {cs : List Value} (hj : L[j]? = some (blkI b T cs))
    (hl : opAt l i = some ⟨none, .call ⟨.builtin .clear, [x].toArray, ats.toArray⟩, ty, pos, af, gdd⟩) (hg : gd l fr ⟨none, .call ⟨.builtin .clear, [x].toArray, ats.toArray⟩, ty, pos, af, gdd⟩ = some true)
    {k n c : Nat} {z : Value} (hx : look fr x = some (.slice (some ⟨b, k, none⟩) (n + 1) c)) (ha0 : ats[0]? = some t) (ht : P.underlying t = some (.slice e)) (hz : psem P (zeroValue e) = some z) (vs : List Value) (hvs : (Builtin.zeroCells z.cells (n + 1)).toList = vs) (h1 : ones vs = true)
    (hle : k + vs.length ≤ cs.length) (cs' : List Value) (hcs : splice cs vs k = cs')
    (h : ∀ w', St w0 S0 w' (L.set j (blkI b T cs')) → OW P l N Q (i + 1) fr w') : OW P l N Q i fr w := by
  have hb := hst.all j _ hj
  have hst2 := run_storeCells_at (P := P) b k T vs 0 cs.toArray w hb (by simpa using hle) (ones_mem h1)
  refine OW.opn (v := .tuple #[]) hl hg rfl (w' := w.setRow b (splice cs.toArray.toList vs k).toArray) (fun a ha => ?_) (h _ ?_)
  · have e1 := ha.look hx
    have hz' := psem_run hz w
    have h3 : (storeCells ⟨b, k, none⟩ vs).run P w = .ok () (w.setRow b (splice cs.toArray.toList vs k).toArray) := by simpa [splice] using hst2
    have ha1 : (ats.toArray)[0]? = some t := by simpa using ha0
    simp [execOp, resolve, invoke, builtin, e1, Builtin.clear_, ha1, run_underlying ht, hz', hvs, h3]
  · subst hcs
    refine hst.upd j hj ⟨rfl, rfl, rfl, by simp [World.setRow], fun q _ hn => setRow_other w b q _ (by rintro rfl; exact hn (by simp [blkI]))⟩ ?_ (fun q hq => .inl hq) (by simp [blkI])
    show (w.setRow b _).heap[b]? = _
    rw [setRow_heap w b cs.toArray _ T (0, 0) hb]
theorem OW.clearP {t e : TypeId} {ats : List Nat} {x : Operand} {ty : TypeId} {pos : String} {af : Array Edge} {gdd : Option (Nat × Bool)} (hst : St w0 S0 w L) (j : Nat) {b : Nat} {T : TypeId} {A cs C : List Value} (hj : L[j]? = some (partI b T A cs C))
    (hl : opAt l i = some ⟨none, .call ⟨.builtin .clear, [x].toArray, ats.toArray⟩, ty, pos, af, gdd⟩) (hg : gd l fr ⟨none, .call ⟨.builtin .clear, [x].toArray, ats.toArray⟩, ty, pos, af, gdd⟩ = some true)
    (k : Nat) {n c : Nat} {z : Value} (hx : look fr x = some (.slice (some ⟨b, A.length + k, none⟩) (n + 1) c)) (ha0 : ats[0]? = some t) (ht : P.underlying t = some (.slice e)) (hz : psem P (zeroValue e) = some z) (vs : List Value) (hvs : (Builtin.zeroCells z.cells (n + 1)).toList = vs) (h1 : ones vs = true)
    (hle : Nat.ble (k + vs.length) cs.length = true) (cs' : List Value) (hcs : splice cs vs k = cs')
    (h : ∀ w', St w0 S0 w' (L.set j (partI b T A cs' C)) → OW P l N Q (i + 1) fr w') : OW P l N Q i fr w := by
  have hle' := Nat.le_of_ble_eq_true hle
  exact OW.clear hst j hj hl hg hx ha0 ht hz vs hvs h1 (by rw [List.length_append, List.length_append]; omega) (A ++ (cs' ++ C)) (by rw [splice_mid hle', hcs]) h
end
structure RdB (w : World) (S : List Nat) (b : Nat) (cs : List Value) : Prop where
  out : b ∉ S
  at' : ∀ k u, cs[k]? = some u → w.cell? ⟨b, k, none⟩ = some u
section
variable {w w0 : World} {S0 : List Nat} {L : List Item} {b : Nat} {cs : List Value}
theorem RdB.cell (h : RdB w0 S0 b cs) (hst : St w0 S0 w L) (k : Nat) {u : Value} (hu : cs[k]? = some u) : w.cell? ⟨b, k, none⟩ = some u := by
  have hc := h.at' k u hu
  exact (World.cell?_of_block (hst.chg.block b (cell_lt hc) h.out)).trans hc
theorem RdB.cells (h : RdB w0 S0 b cs) (hst : St w0 S0 w L) (k n : Nat) : ∀ q u, ((cs.drop k).take n)[q]? = some u → w.cell? ⟨b, k + q, none⟩ = some u := by
  intro q u hq
  rw [List.getElem?_take] at hq
  split at hq
  · rw [List.getElem?_drop] at hq
    exact h.cell hst _ hq
  · cases hq
theorem RdB.arr {α : Type} (h : RdB w0 S0 b cs) (hst : St w0 S0 w L) (enc : α → List Value) {sz : Nat} (he : ∀ x, (enc x).length = sz) (n : Nat) (a : Nat → α) (k0 : Nat)
    (hcs : cs = cs.take k0 ++ (arrC enc n a ++ cs.drop (k0 + n * sz))) (hk : Nat.ble k0 cs.length = true) {q : Int} {t : Nat} (hi : ain n q = some t) :
    ∀ f u, (enc (a t))[f]? = some u → w.cell? ⟨b, k0 + q.toNat * sz + f, none⟩ = some u := by
  intro f u hu
  have := cell_arr (w := w) (b := b) (o := 0) (cs := cs) (fun f u hf => by rw [Nat.zero_add]; exact h.cell hst _ hf) enc he n a k0 hcs hk hi f u hu
  rwa [Nat.zero_add] at this
theorem RdB.give {u0 : Value} {cr : List Value} (h : RdB w0 S0 b (u0 :: cr)) (hst : St w0 S0 w L) (ids : List Nat) : RdB w (fp (sel L ids)) b (u0 :: cr) := by
  refine ⟨fun hb => ?_, fun k u hu => h.cell hst k hu⟩
  obtain ⟨j, it, hj, hbs⟩ := mem_fp.1 hb
  obtain ⟨k, _, hk⟩ := sel_get hj
  rcases getD_cases hk with hk | rfl
  · rcases hst.own k it hk b hbs with h1 | h1
    · exact h.out h1
    · have := cell_lt (h.at' 0 u0 rfl)
      simp only at this
      omega
  · cases hbs
theorem St.rdB (hst : St w0 S0 w L) (j : Nat) {T : TypeId} (hj : L[j]? = some (blkI b T cs)) (ids : List Nat) (hm : mem? j ids = false) : RdB w (fp (sel L ids)) b cs :=
  ⟨fun hb => hst.noin j hj ids hm b (by simp [blkI]) hb, fun k u hu => hst.blk j hj hu⟩
end
end Go.Sx

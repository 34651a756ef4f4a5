import Derived.Test.YtgmmfjpmahcocaaGreatDoorArr
set_option linter.unusedVariables false
set_option linter.unusedSimpArgs false
namespace Go.Sx
open Go.RowKit
def zbd (b : Nat) (T : TypeId) (A cs C : List Value) : Item := zs b T (A ++ (cs ++ C))
section
variable {P : Program} {N : Nat} {Q : Exit -> Act -> World -> Prop} {fr fr' : List (Nat × Value)} {w w0 : World} {l : List Oper} {i : Nat} {o : Oper} {S0 : List Nat} {L : List Item}
theorem St.prt (h : St w0 S0 w L) (j : Nat) {b : Nat} {T : TypeId} {A cs C : List Value} (hj : L[j]? = some (zbd b T A cs C)) (k : Nat) {v : Value} (hv : cs[k]? = some v) : w.cell? ⟨b, A.length + k, none⟩ = some v := by
 refine h.blk j hj ?_
 rw [List.getElem?_append_right (by omega), show A.length + k - A.length = k by omega, List.getElem?_append_left (zes.1 hv).1]
 exact hv
theorem St.arrP {α : Type} (h : St w0 S0 w L) (j : Nat) {b : Nat} {T : TypeId} {A cs C : List Value} (hj : L[j]? = some (zbd b T A cs C)) (enc : α -> List Value) {sz : Nat} (he : ∀ x, (enc x).length = sz) (n : Nat) (a : Nat -> α) (k0 : Nat)
  (hcs : cs = cs.take k0 ++ (jU enc n a ++ cs.drop (k0 + n * sz))) (hk : Nat.ble k0 cs.length = true) {q : Int} {t : Nat} (hi : ain n q = some t) :
  ∀ f u, (enc (a t))[f]? = some u -> w.cell? ⟨b, A.length + k0 + q.toNat * sz + f, none⟩ = some u :=
 zd5 (fun f u hf => h.prt j hj f hf) enc he n a k0 hcs hk hi
theorem OW.stPA {α : Type} {t : TypeId} {x y : Operand} {ty : TypeId} {pos : String} {af : Array Edge} {gdd : Option (Nat × Bool)} (hst : St w0 S0 w L) (j : Nat) {b : Nat} {T : TypeId} {A cs C : List Value} (hj : L[j]? = some (zbd b T A cs C))
  (hl : vy l i = some ⟨none, .store t x y, ty, pos, af, gdd⟩) (hg : gd l fr ⟨none, .store t x y, ty, pos, af, gdd⟩ = some true)
  {k : Nat} {v : Value} (hx : look fr x = some (.pointer (some ⟨b, k, none⟩))) (hy : look fr y = some v)
  (hs : zbz P (sizeOf t) = some v.cells.toList.length) (h1 : zhP v.cells.toList = true)
  (enc : α -> List Value) {sz : Nat} (he : ∀ x, (enc x).length = sz) (n : Nat) (a : Nat -> α) (k0 : Nat) (hcs : cs = cs.take k0 ++ (jU enc n a ++ cs.drop (k0 + n * sz))) (hb : Nat.ble k0 cs.length = true) {q : Int} {u : Nat} (hi : ain n q = some u)
  (f : Nat) (hk : k = A.length + k0 + q.toNat * sz + f) (hf : Nat.ble (f + v.cells.toList.length) sz = true) (x' : α) (hx' : qt (enc (a u)) v.cells.toList f = enc x')
  (cs' : List Value) (hcs' : cs' = cs.take k0 ++ (jU enc n (zW a u x') ++ cs.drop (k0 + n * sz)))
  (h : ∀ w', St w0 S0 w' (L.set j (zbd b T A cs' C)) -> OW P l N Q (i + 1) fr w') : OW P l N Q i fr w := by
 obtain ⟨e1, e2⟩ := zfF enc he n a k0 hcs hb hi hf hx' hcs'
 subst hk
 refine OW.stB (k := A.length + (k0 + q.toNat * sz + f)) hst j hj hl hg (by rw [hx]; congr 4; omega) hy hs h1 (Nat.ble_eq_true_of_le (by rw [List.length_append, List.length_append]; omega)) (A ++ (cs' ++ C)) (by rw [zfE e2, e1]) h
theorem OW.clear {t e : TypeId} {ats : List Nat} {x : Operand} {ty : TypeId} {pos : String} {af : Array Edge} {gdd : Option (Nat × Bool)} (hst : St w0 S0 w L) (j : Nat) {b : Nat} {T : TypeId} {cs : List Value} (hj : L[j]? = some (zs b T cs))
  (hl : vy l i = some ⟨none, .call ⟨.builtin .clear, [x].toArray, ats.toArray⟩, ty, pos, af, gdd⟩) (hg : gd l fr ⟨none, .call ⟨.builtin .clear, [x].toArray, ats.toArray⟩, ty, pos, af, gdd⟩ = some true)
  {k n c : Nat} {z : Value} (hx : look fr x = some (.slice (some ⟨b, k, none⟩) (n + 1) c)) (ha0 : ats[0]? = some t) (ht : P.underlying t = some (.slice e)) (hz : zbz P (zeroValue e) = some z) (vs : List Value) (hvs : (Builtin.zeroCells z.cells (n + 1)).toList = vs) (h1 : zhP vs = true)
  (hle : k + vs.length <= cs.length) (cs' : List Value) (hcs : qt cs vs k = cs')
  (h : ∀ w', St w0 S0 w' (L.set j (zs b T cs')) -> OW P l N Q (i + 1) fr w') : OW P l N Q i fr w := by
 have hb := hst.all j _ hj
 have hst2 := run_storeCells_at (P := P) b k T vs 0 cs.toArray w hb (by simpa using hle) (zei h1)
 refine OW.opn (v := .tuple #[]) hl hg rfl (w' := w.setRow b (qt cs.toArray.toList vs k).toArray) (fun a ha => ?_) (h _ ?_)
 ·have e1 := ha.look hx
  have hz' := jE hz w
  have h3 : (storeCells ⟨b, k, none⟩ vs).run P w = .ok () (w.setRow b (qt cs.toArray.toList vs k).toArray) := by simpa [qt] using hst2
  have ha1 : (ats.toArray)[0]? = some t := by simpa using ha0
  simp [execOp, resolve, invoke, builtin, e1, Builtin.clear_, ha1, run_underlying ht, hz', hvs, h3]
 ·subst hcs
  refine hst.upd j hj ⟨rfl, rfl, rfl, by simp [World.setRow], fun q _ hn => setRow_other w b q _ (by rintro rfl; exact hn (by simp [zs]))⟩ ?_ (fun q hq => .inl hq) (by simp [zs])
  show (w.setRow b _).heap[b]? = _
  rw [setRow_heap w b cs.toArray _ T (0, 0) hb]
theorem OW.clearP {t e : TypeId} {ats : List Nat} {x : Operand} {ty : TypeId} {pos : String} {af : Array Edge} {gdd : Option (Nat × Bool)} (hst : St w0 S0 w L) (j : Nat) {b : Nat} {T : TypeId} {A cs C : List Value} (hj : L[j]? = some (zbd b T A cs C))
  (hl : vy l i = some ⟨none, .call ⟨.builtin .clear, [x].toArray, ats.toArray⟩, ty, pos, af, gdd⟩) (hg : gd l fr ⟨none, .call ⟨.builtin .clear, [x].toArray, ats.toArray⟩, ty, pos, af, gdd⟩ = some true)
  (k : Nat) {n c : Nat} {z : Value} (hx : look fr x = some (.slice (some ⟨b, A.length + k, none⟩) (n + 1) c)) (ha0 : ats[0]? = some t) (ht : P.underlying t = some (.slice e)) (hz : zbz P (zeroValue e) = some z) (vs : List Value) (hvs : (Builtin.zeroCells z.cells (n + 1)).toList = vs) (h1 : zhP vs = true)
  (hle : Nat.ble (k + vs.length) cs.length = true) (cs' : List Value) (hcs : qt cs vs k = cs')
  (h : ∀ w', St w0 S0 w' (L.set j (zbd b T A cs' C)) -> OW P l N Q (i + 1) fr w') : OW P l N Q i fr w := by
 have hle' := Nat.le_of_ble_eq_true hle
 exact OW.clear hst j hj hl hg hx ha0 ht hz vs hvs h1 (by rw [List.length_append, List.length_append]; omega) (A ++ (cs' ++ C)) (by rw [zfE hle', hcs]) h
end
structure RdB (w : World) (S : List Nat) (b : Nat) (cs : List Value) : Prop where
 out : b ∉ S
 at' : ∀ k u, cs[k]? = some u -> w.cell? ⟨b, k, none⟩ = some u
section
variable {w w0 : World} {S0 : List Nat} {L : List Item} {b : Nat} {cs : List Value}
theorem RdB.cell (h : RdB w0 S0 b cs) (hst : St w0 S0 w L) (k : Nat) {u : Value} (hu : cs[k]? = some u) : w.cell? ⟨b, k, none⟩ = some u := by
 have hc := h.at' k u hu
 exact (World.cell?_of_block (hst.chg.block b (zeT hc) h.out)).trans hc
theorem RdB.arr {α : Type} (h : RdB w0 S0 b cs) (hst : St w0 S0 w L) (enc : α -> List Value) {sz : Nat} (he : ∀ x, (enc x).length = sz) (n : Nat) (a : Nat -> α) (k0 : Nat)
  (hcs : cs = cs.take k0 ++ (jU enc n a ++ cs.drop (k0 + n * sz))) (hk : Nat.ble k0 cs.length = true) {q : Int} {t : Nat} (hi : ain n q = some t) :
  ∀ f u, (enc (a t))[f]? = some u -> w.cell? ⟨b, k0 + q.toNat * sz + f, none⟩ = some u := by
 intro f u hu
 have := zd5 (w := w) (b := b) (o := 0) (cs := cs) (fun f u hf => by rw [Nat.zero_add]; exact h.cell hst _ hf) enc he n a k0 hcs hk hi f u hu
 rwa [Nat.zero_add] at this
theorem St.rdB (hst : St w0 S0 w L) (j : Nat) {T : TypeId} (hj : L[j]? = some (zs b T cs)) (ids : List Nat) (hm : mem? j ids = false) : RdB w (fp (sel L ids)) b cs :=
 ⟨fun hb => hst.noin j hj ids hm b (by simp [zs]) hb, fun k u hu => hst.blk j hj hu⟩
end
end Go.Sx

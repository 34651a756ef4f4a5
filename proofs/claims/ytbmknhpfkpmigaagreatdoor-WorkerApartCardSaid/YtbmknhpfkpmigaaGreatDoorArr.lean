/- Texts Arr, Open, Dep, Maps, Part of this proof. -/
import Derived.Test.YtbmknhpfkpmigaaGreatDoorPlan
import Derived.Laws.RangeString
import Derived.Laws.Externs
import Derived.Maps.RangeRun
set_option linter.unusedVariables false
set_option linter.unusedSimpArgs false
namespace Go.Sx
open Go.RowKit
def jf {α : Type} (a : Nat -> α) (t : Nat) (v : α) : Nat -> α := fun i => if i = t then v else a i
def zby {α : Type} (enc : α -> List Value) : Nat -> (Nat -> α) -> List Value
 | 0, _ => []
 | n + 1, a => enc (a 0) ++ zby enc n (fun i => a (i + 1))
def ain (n : Nat) (t : Int) : Option Nat := if 0 <= t /\ t < n then some t.toNat else none
theorem zhI {n : Nat} {t : Int} {i : Nat} (h : ain n t = some i) : 0 <= t /\ t < n /\ i < n /\ t.toNat = i := by
 unfold ain at h
 split at h
 ·rename_i hc
  cases h
  exact ⟨hc.1, hc.2, by omega, rfl⟩
 ·cases h
theorem zfk {α : Type} (enc : α -> List Value) : ∀ (n : Nat) (a : Nat -> α), zby enc n a = za3 enc ((List.range n).map a) := by
 intro n
 induction n with
 | zero => intro a; rfl
 | succ n ih =>
  intro a
  rw [List.range_succ_eq_map, List.map_cons, List.map_map]
  show enc (a 0) ++ zby enc n (fun i => a (i + 1)) = enc (a 0) ++ za3 enc _
  rw [ih]
  rfl
theorem zhJ {α : Type} {enc : α -> List Value} {sz : Nat} (he : ∀ x, (enc x).length = sz) (n : Nat) (a : Nat -> α) : (zby enc n a).length = n * sz := by
 rw [zfk, vC he]; simp
theorem zoU {α : Type} {enc : α -> List Value} {sz : Nat} (he : ∀ x, (enc x).length = sz) {n t f : Nat} (ht : t < n) (A C : List Value) (a : Nat -> α) {u : Value} (hu : (enc (a t))[f]? = some u) : (A ++ (zby enc n a ++ C))[A.length + (t * sz + f)]? = some u := by
 have h1 : (za3 enc ((List.range n).map a))[t * sz + f]? = some u := zeJ he (x := a t) (by simp [ht]) hu
 rw [List.getElem?_append_right (by omega), show A.length + (t * sz + f) - A.length = t * sz + f by omega, zfk]
 rw [List.getElem?_append_left (zes.1 h1).1]
 exact h1
theorem zmJ {α : Type} {n t : Nat} (a : Nat -> α) (v : α) : ((List.range n).map a).set t v = (List.range n).map (jf a t v) := by
 apply List.ext_getElem?
 intro i
 rw [List.getElem?_set]
 by_cases h : t = i
 ·subst h
  by_cases hn : t < n
  ·simp [hn, jf]
  ·simp [hn]
 ·rw [if_neg h]
  by_cases hn : i < n
  ·simp [hn, jf, Ne.symm h]
  ·simp [hn]
theorem zfT {A B C vs : List Value} {k : Nat} (h : k + vs.length <= B.length) : qI (A ++ (B ++ C)) vs (A.length + k) = A ++ (qI B vs k ++ C) := by
 unfold qI
 rw [List.take_append, List.take_of_length_le (by omega), show A.length + k - A.length = k by omega, List.take_append_of_le_length (by omega)]
 rw [List.drop_append, List.drop_of_length_le (l := A) (by omega), show A.length + k + vs.length - A.length = k + vs.length by omega, List.drop_append_of_le_length (by omega)]
 simp [List.append_assoc]
theorem znR {α : Type} {enc : α -> List Value} {sz : Nat} (he : ∀ x, (enc x).length = sz) {n t f : Nat} (ht : t < n) (A C : List Value) (a : Nat -> α) {vs : List Value} {x' : α} (hf : f + vs.length <= sz) (hs : qI (enc (a t)) vs f = enc x') :
  qI (A ++ (zby enc n a ++ C)) vs (A.length + (t * sz + f)) = A ++ (zby enc n (jf a t x') ++ C) := by
 have hl := zhJ he n a
 have hm : t * sz + sz <= n * sz := by rw [<- Nat.succ_mul]; exact Nat.mul_le_mul_right _ ht
 rw [zfT (by omega), zfk, zfk, zid he (x := a t) (by simp [ht]) hf hs, zmJ]
theorem zjV {α : Type} {w : World} {b o : Nat} {cs : List Value} (cf : ∀ f u, cs[f]? = some u -> w.cell? ⟨b, o + f, none⟩ = some u) (enc : α -> List Value) {sz : Nat} (he : ∀ x, (enc x).length = sz) (n : Nat) (a : Nat -> α) (k0 : Nat)
  (hcs : cs = cs.take k0 ++ (zby enc n a ++ cs.drop (k0 + n * sz))) (hk : Nat.ble k0 cs.length = true) {q : Int} {t : Nat} (hi : ain n q = some t) :
  ∀ f u, (enc (a t))[f]? = some u -> w.cell? ⟨b, o + k0 + q.toNat * sz + f, none⟩ = some u := by
 intro f u hu
 obtain ⟨h0, h1, h2, rfl⟩ := zhI hi
 have hl : (cs.take k0).length = k0 := by rw [List.length_take]; have := Nat.le_of_ble_eq_true hk; omega
 have := zoU he h2 (cs.take k0) (cs.drop (k0 + n * sz)) a hu
 rw [<- hcs, hl] at this
 have := cf _ u this
 rw [show o + k0 + q.toNat * sz + f = o + (k0 + (q.toNat * sz + f)) by omega]
 exact this
section
variable {P : Program} {N : Nat} {Q : Exit -> Act -> World -> Prop} {fr fr' : List (Nat × Value)} {w w0 : World} {l : List Oper} {i : Nat} {o : Oper} {S0 : List Nat} {L : List Item}
theorem St.arrB {α : Type} (h : St w0 S0 w L) (j : Nat) {b : Nat} {T : TypeId} {cs : List Value} (hj : L[j]? = some (jD b T cs)) (enc : α -> List Value) {sz : Nat} (he : ∀ x, (enc x).length = sz) (n : Nat) (a : Nat -> α) (k0 : Nat)
  (hcs : cs = cs.take k0 ++ (zby enc n a ++ cs.drop (k0 + n * sz))) (hk : Nat.ble k0 cs.length = true) {q : Int} {t : Nat} (hi : ain n q = some t) :
  ∀ f u, (enc (a t))[f]? = some u -> w.cell? ⟨b, k0 + q.toNat * sz + f, none⟩ = some u := by
 intro f u hu
 have := zjV (w := w) (b := b) (o := 0) (cs := cs) (fun f u hf => by rw [Nat.zero_add]; exact h.blk j hj hf) enc he n a k0 hcs hk hi f u hu
 rwa [Nat.zero_add] at this
theorem zfU {α : Type} {cs cs' vs : List Value} (enc : α -> List Value) {sz : Nat} (he : ∀ x, (enc x).length = sz) (n : Nat) (a : Nat -> α) (k0 : Nat)
  (hcs : cs = cs.take k0 ++ (zby enc n a ++ cs.drop (k0 + n * sz))) (hk : Nat.ble k0 cs.length = true) {q : Int} {t : Nat} (hi : ain n q = some t) {f : Nat} (hf : Nat.ble (f + vs.length) sz = true) {x' : α} (hs : qI (enc (a t)) vs f = enc x')
  (hcs' : cs' = cs.take k0 ++ (zby enc n (jf a t x') ++ cs.drop (k0 + n * sz))) : qI cs vs (k0 + q.toNat * sz + f) = cs' /\ k0 + q.toNat * sz + f + vs.length <= cs.length := by
 obtain ⟨h0, h1, h2, rfl⟩ := zhI hi
 have hl : (cs.take k0).length = k0 := by rw [List.length_take]; have := Nat.le_of_ble_eq_true hk; omega
 have hf' := Nat.le_of_ble_eq_true hf
 have hm : q.toNat * sz + sz <= n * sz := by rw [<- Nat.succ_mul]; exact Nat.mul_le_mul_right _ h2
 have hll : cs.length = k0 + (n * sz + (cs.drop (k0 + n * sz)).length) := by
  conv => lhs; rw [hcs]
  rw [List.length_append, List.length_append, zhJ he, hl]
 constructor
 ·rw [hcs']
  have := znR he h2 (cs.take k0) (cs.drop (k0 + n * sz)) a hf' hs
  rw [<- hcs, hl, show k0 + (q.toNat * sz + f) = k0 + q.toNat * sz + f by omega] at this
  exact this
 ·omega
theorem OW.stA {α : Type} {t : TypeId} {x y : Operand} {ty : TypeId} {pos : String} {af : Array Edge} {gdd : Option (Nat × Bool)} (hst : St w0 S0 w L) (j : Nat) {b : Nat} {T : TypeId} {cs : List Value} (hj : L[j]? = some (jD b T cs))
  (hl : vU l i = some ⟨none, .store t x y, ty, pos, af, gdd⟩) (hg : gd l fr ⟨none, .store t x y, ty, pos, af, gdd⟩ = some true)
  {k : Nat} {v : Value} (hx : look fr x = some (.pointer (some ⟨b, k, none⟩))) (hy : look fr y = some v)
  (hs : zbk P (sizeOf t) = some v.cells.toList.length) (h1 : zfi v.cells.toList = true)
  (enc : α -> List Value) {sz : Nat} (he : ∀ x, (enc x).length = sz) (n : Nat) (a : Nat -> α) (k0 : Nat) (hcs : cs = cs.take k0 ++ (zby enc n a ++ cs.drop (k0 + n * sz))) (hb : Nat.ble k0 cs.length = true) {q : Int} {u : Nat} (hi : ain n q = some u)
  (f : Nat) (hk : k = k0 + q.toNat * sz + f) (hf : Nat.ble (f + v.cells.toList.length) sz = true) (x' : α) (hx' : qI (enc (a u)) v.cells.toList f = enc x')
  (cs' : List Value) (hcs' : cs' = cs.take k0 ++ (zby enc n (jf a u x') ++ cs.drop (k0 + n * sz)))
  (h : ∀ w', St w0 S0 w' (L.set j (jD b T cs')) -> OW P l N Q (i + 1) fr w') : OW P l N Q i fr w := by
 obtain ⟨e1, e2⟩ := zfU enc he n a k0 hcs hb hi hf hx' hcs'
 subst hk
 exact OW.stB hst j hj hl hg hx hy hs h1 (Nat.ble_eq_true_of_le e2) cs' e1 h
theorem OW.stRA {α β : Type} {t : TypeId} {x y : Operand} {ty : TypeId} {pos : String} {af : Array Edge} {gdd : Option (Nat × Bool)} (hst : St w0 S0 w L) (j : Nat) {hd : Value} {g o cap m : Nat} {T : TypeId} {ence : β -> List Value} {sze : Nat} {xs : List β}
  (hj : L[j]? = some (jW hd T ence sze xs)) (hv : hd = .slice (some ⟨g, o, none⟩) m cap) (hee : ∀ x, (ence x).length = sze)
  (hl : vU l i = some ⟨none, .store t x y, ty, pos, af, gdd⟩) (hg : gd l fr ⟨none, .store t x y, ty, pos, af, gdd⟩ = some true)
  {p : Int} {z : β} (hz : Sx.idx xs p = some z) {k : Nat} {v : Value} (hx : look fr x = some (.pointer (some ⟨g, k, none⟩))) (hy : look fr y = some v)
  (hs : zbk P (sizeOf t) = some v.cells.toList.length) (h1 : zfi v.cells.toList = true)
  (enc : α -> List Value) {sz : Nat} (he : ∀ x, (enc x).length = sz) (n : Nat) (a : Nat -> α) (k0 : Nat) (hcs : ence z = (ence z).take k0 ++ (zby enc n a ++ (ence z).drop (k0 + n * sz))) (hb : Nat.ble k0 (ence z).length = true) {q : Int} {u : Nat} (hi : ain n q = some u)
  (f : Nat) (hk : k = o + p.toNat * sze + k0 + q.toNat * sz + f) (hf : Nat.ble (f + v.cells.toList.length) sz = true) (x' : α) (hx' : qI (enc (a u)) v.cells.toList f = enc x')
  (z' : β) (hcs' : ence z' = (ence z).take k0 ++ (zby enc n (jf a u x') ++ (ence z).drop (k0 + n * sz)))
  (h : ∀ w', St w0 S0 w' (L.set j (jW hd T ence sze (xs.set p.toNat z'))) -> OW P l N Q (i + 1) fr w') : OW P l N Q i fr w := by
 obtain ⟨e1, e2⟩ := zfU enc he n a k0 hcs hb hi hf hx' hcs'
 rw [hee] at e2
 exact OW.stR hst j hj hv hee hl hg hz (k0 + q.toNat * sz + f) hx (by omega) hy hs h1 (Nat.ble_eq_true_of_le e2) z' e1 h
def xE {α : Type} (n : Nat) (a : Nat -> α) : List α := (List.range n).map a
theorem zaI {α : Type} (n : Nat) (a : Nat -> α) : (xE n a).length = n := by simp [xE]
theorem St.arrRd {α : Type} (h : St w0 S0 w L) (j : Nat) {b : Nat} {T : TypeId} {cs : List Value} (hj : L[j]? = some (jD b T cs)) (enc : α -> List Value) {sz : Nat} (he : ∀ x, (enc x).length = sz) (n : Nat) (a : Nat -> α) (k0 : Nat)
  (hcs : cs = cs.take k0 ++ (zby enc n a ++ cs.drop (k0 + n * sz))) (hk : Nat.ble k0 cs.length = true) (hn : Nat.ble n 9223372036854775807 = true) (ids : List Nat) (hm : mem? j ids = false) :
  Rd w (fp (sel L ids)) (.slice (some ⟨b, k0, none⟩) n n) enc sz (xE n a) := by
 refine ⟨by rw [zaI]; exact Nat.le_of_ble_eq_true hn, some ⟨b, k0, none⟩, n, by rw [zaI], by rw [zaI]; exact Nat.le_refl _, fun t x f u hx hu => ?_⟩
 refine ⟨b, k0, rfl, fun hb => ?_, ?_⟩
 ·exact h.noin j hj ids hm b (by simp [jD]) hb
 ·unfold xE at hx
  rw [List.getElem?_map] at hx
  obtain ⟨y, hy, rfl⟩ := Option.map_eq_some_iff.1 hx
  obtain ⟨hlt, rfl⟩ : t < n /\ y = t := by
   have h1 := zes.1 hy
   obtain ⟨h2, h3⟩ := h1
   simp at h2 h3
   exact ⟨h2, h3.symm⟩
  have := h.arrB j hj enc he n a k0 hcs hk (q := (y : Int)) (t := y) (by simp [ain, hlt]) f u hu
  simpa using this
theorem znS {o : Oper} {t e : TypeId} {x : Operand} {b k0 n : Nat} (sz : Nat) (ho : o.op = .slice t x none none none) (hx : look fr x = some (.pointer (some ⟨b, k0, none⟩)))
  (ht : P.underlying t = some (.array n e)) (hs : zbk P (sizeOf e) = some sz) : ∀ a w, Rep N fr a -> (execOp a.eval o).run P w = .ok (.value (.slice (some ⟨b, k0, none⟩) n n)) w := by
 intro a w ha
 have e1 := ha.look hx
 simp [execOp, ho, Instr.sliceAt, Instr.sliceBounds, Instr.sureAddr, run_underlying ht, e1, xo hs, Addr.add]
theorem znT {α : Type} {o : Oper} {t e : TypeId} {x y z : Operand} {b k0 n : Nat} (sz : Nat) {p q : Int} {kd ke : IntKind} {xs ys : List α} (ho : o.op = .slice t x (some y) (some z) none) (hx : look fr x = some (.pointer (some ⟨b, k0, none⟩)))
  (hy : look fr y = some (.int kd p)) (hz : look fr z = some (.int ke q)) (hn : xs.length = n) (hc : cut xs p q = some ys)
  (ht : P.underlying t = some (.array n e)) (hs : zbk P (sizeOf e) = some sz) : ∀ a w, Rep N fr a -> (execOp a.eval o).run P w = .ok (.value (.slice (shd (some ⟨b, k0, none⟩) n p.toNat sz) ys.length (n - p.toNat))) w := by
 intro a w ha
 have e1 := ha.look hx
 have e2 := ha.look hy
 have e4 := ha.look hz
 obtain ⟨h0, h1, h2, _⟩ := zb9 hc
 have hl := zhi hc
 rw [hn] at h2
 have h3 : 0 <= q /\ q <= (n : Int) := ⟨by omega, h2⟩
 have h5 : 0 <= p /\ p <= q := ⟨h0, h1⟩
 have h6 : (q.toNat : Int) = q := by omega
 have e3 : q.toNat - p.toNat = ys.length := by omega
 have e5 : (some (if n = p.toNat then (⟨b, k0, none⟩ : Addr) else Addr.add ⟨b, k0, none⟩ (p.toNat * sz))) = shd (some ⟨b, k0, none⟩) n p.toNat sz := by
  unfold shd
  split <;> rfl
 simp [execOp, ho, Instr.sliceAt, Instr.sliceBounds, Instr.sliceBound, Instr.sureAddr, run_underlying ht, e1, e2, e4, asIntOf, h3, h5, h6, xo hs, e3, e5]
theorem znU {α : Type} {o : Oper} {t e : TypeId} {x z : Operand} {b k0 n : Nat} (sz : Nat) {q : Int} {ke : IntKind} {xs ys : List α} (ho : o.op = .slice t x none (some z) none) (hx : look fr x = some (.pointer (some ⟨b, k0, none⟩)))
  (hz : look fr z = some (.int ke q)) (hn : xs.length = n) (hc : cut xs 0 q = some ys)
  (ht : P.underlying t = some (.array n e)) (hs : zbk P (sizeOf e) = some sz) : ∀ a w, Rep N fr a -> (execOp a.eval o).run P w = .ok (.value (.slice (some ⟨b, k0, none⟩) ys.length n)) w := by
 intro a w ha
 have e1 := ha.look hx
 have e4 := ha.look hz
 obtain ⟨h0, h1, h2, _⟩ := zb9 hc
 have hl := zhi hc
 rw [hn] at h2
 have h3 : 0 <= q /\ q <= (n : Int) := ⟨by omega, h2⟩
 have e3 : q.toNat = ys.length := by simpa using hl.symm
 simp [execOp, ho, Instr.sliceAt, Instr.sliceBounds, Instr.sliceBound, Instr.sureAddr, run_underlying ht, e1, e4, asIntOf, h3, xo hs, e3, Addr.add]
def zi9 (x y c : Int) : Option (Int × Int) := if 0 <= x /\ 0 <= y /\ 0 <= c /\ c <= 1 then some ((x + y + c) % 18446744073709551616, (x + y + c) / 18446744073709551616) else none
theorem zld {o : Oper} {x y z : Operand} {ats : List Nat} {f : FuncId} {fn : Func} {p q c u v : Int} (ho : o.op = .call ⟨.value (.func f), [x, y, z].toArray, ats.toArray⟩) (hx : look fr x = some (.int .u64 p)) (hy : look fr y = some (.int .u64 q)) (hz : look fr z = some (.int .u64 c))
  (hf : P.funcs[f]? = some fn) (h1 : (fn.name == "runtime.NumGoroutine") = false) (h2 : fn.body.isNone = true) (h3 : Extern.findNext fn = none) (h4 : Extern.find fn = some add64Entry) (h : zi9 p q c = some (u, v)) :
  ∀ a w, Rep N fr a -> (execOp a.eval o).run P w = .ok (.value (.tuple [.int .u64 u, .int .u64 v].toArray)) w := by
 intro a w ha
 have e1 := ha.look hx
 have e2 := ha.look hy
 have e3 := ha.look hz
 unfold zi9 at h
 split at h
 ·rename_i hc
  cases h
  have := run_add64 (P := P) p q c hc.1 hc.2.1 hc.2.2.1 hc.2.2.2 w
  have h5 := run_callFunc_extern (P := P) hf h1 h2 h3 h4 #[.int .u64 p, .int .u64 q, .int .u64 c] w
  rw [this] at h5
  have e4 : a.eval (.func f) = .func (.func f) #[] #[] := rfl
  simp [execOp, ho, resolve, Deferred.ofValue, invoke, e1, e2, e3, e4, h5, Result.andThen]
 ·cases h
def zk9 (it : Nat) (s : ByteArray) (p : Nat) : Item where
 S := [it]
 Φ w := w.heap[it]? = some (.stringIter s p)
 loc w w' hb h := by rw [hb it (by simp)]; exact h
 lt w h b hb := by
  rw [List.mem_singleton.1 hb]
  exact (Array.getElem?_eq_some_iff.1 h).1
def zil (s : ByteArray) (p : Nat) : Int := ((Utf8.decode s p).1 : Int)
def ze3 (s : ByteArray) (p : Nat) : Nat := p + (Utf8.decode s p).2
theorem OW.srange {d : Nat} {t : TypeId} {x : Operand} {ty : TypeId} {pos : String} {af : Array Edge} {gdd : Option (Nat × Bool)} {s : ByteArray} (hst : St w0 S0 w L)
  (hl : vU l i = some ⟨some d, .range t x, ty, pos, af, gdd⟩) (hg : gd l fr ⟨some d, .range t x, ty, pos, af, gdd⟩ = some true) (hN : Nat.blt d N = true) (hx : look fr x = some (.string s)) (ht : P.underlying t = some .string)
  (h : ∀ it w', St w0 S0 w' (L ++ [zk9 it s 0]) -> OW P l N Q (i + 1) ((d, .pointer (some ⟨it, 0, none⟩)) :: fr) w') : OW P l N Q i fr w := by
 refine OW.op hl hg rfl hN (w' := w.iter s 0) (fun a ha => ?_) (h w.heap.size _ ?_)
 ·have := run_range_string (P := P) w t s ht
  simp [execOp, ha.look hx, this]
 ·refine hst.push (Chg.alloc _ _) (World.iter_heap w s 0) (fun b hb => ?_) (by simp [zk9])
  rw [List.mem_singleton.1 hb]
  exact Nat.le_refl _
theorem OW.snext {d : Nat} {x : Operand} {ty : TypeId} {pos : String} {af : Array Edge} {gdd : Option (Nat × Bool)} {s : ByteArray} {it p : Nat} (hst : St w0 S0 w L) (j : Nat) (hj : L[j]? = some (zk9 it s p))
  (hl : vU l i = some ⟨some d, .next x true, ty, pos, af, gdd⟩) (hg : gd l fr ⟨some d, .next x true, ty, pos, af, gdd⟩ = some true) (hN : Nat.blt d N = true) (hx : look fr x = some (.pointer (some ⟨it, 0, none⟩)))
  (h1 : decide (p < s.size) = true -> ∀ w', St w0 S0 w' (L.set j (zk9 it s (ze3 s p))) -> OW P l N Q (i + 1) ((d, .tuple [.bool true, .int .i64 (p : Int), .int .i32 (zil s p)].toArray) :: fr) w')
  (h0 : decide (p < s.size) = false -> OW P l N Q (i + 1) ((d, .tuple [.bool false].toArray) :: fr) w) : OW P l N Q i fr w := by
 have hi : w.heap[it]? = some (.stringIter s p) := hst.all j _ hj
 by_cases hp : p < s.size
 ·refine OW.op hl hg rfl hN (w' := { w with heap := w.heap.setIfInBounds it (.stringIter s (ze3 s p)) }) (fun a ha => ?_) (h1 (by simp [hp]) _ ?_)
  ·simp [execOp, ha.look hx, Instr.next, getObj, setObj, Sem.run, hi, hp, Result.andThen, goInt, zil, ze3]
  ·refine hst.upd j hj ⟨rfl, rfl, rfl, by simp, fun q _ hn => ?_⟩ ?_ (fun q hq => .inl hq) (by simp [zk9])
   ·simp only [Array.getElem?_setIfInBounds]
    rw [if_neg (fun e => hn (by simp [zk9, e]))]
   ·show (w.heap.setIfInBounds it _)[it]? = _
    simp [(Array.getElem?_eq_some_iff.1 hi).1]
 ·refine OW.op hl hg rfl hN (w' := w) (fun a ha => ?_) (h0 (by simp [hp]))
  simp [execOp, ha.look hx, Instr.next, getObj, Sem.run, hi, hp, Result.andThen]
end
structure Bor (wb : World) (Sb : List Nat) (w : World) (S : List Nat) : Prop where
 size : wb.heap.size <= w.heap.size
 same : ∀ b, b < wb.heap.size -> b ∉ Sb -> w.heap[b]? = wb.heap[b]?
 sub : ∀ b ∈ S, b ∈ Sb \/ wb.heap.size <= b
theorem Bor.refl (w : World) (S : List Nat) : Bor w S w S := ⟨Nat.le_refl _, fun _ _ _ => rfl, fun _ h => .inl h⟩
theorem Bor.on {wb w w0 : World} {Sb S0 : List Nat} {L : List Item} (h : Bor wb Sb w0 S0) (hst : St w0 S0 w L) (ids : List Nat) : Bor wb Sb w (fp (sel L ids)) := by
 have hc := hst.chg
 refine ⟨Nat.le_trans h.size hc.size, fun b hb hn => ?_, fun b hb => ?_⟩
 ·rw [hc.block b (Nat.lt_of_lt_of_le hb h.size) (fun hS => ?_), h.same b hb hn]
  rcases h.sub b hS with h1 | h1
  ·exact hn h1
  ·omega
 ·obtain ⟨j, it, hj, hbs⟩ := vW.1 hb
  obtain ⟨k, _, hk⟩ := zcy hj
  rcases vQ hk with hk | rfl
  ·rcases hst.own k it hk b hbs with h1 | h1
   ·exact h.sub b h1
   ·exact .inr (Nat.le_trans h.size h1)
  ·cases hbs
theorem Rd.bor {α : Type} {wb w : World} {Sb S : List Nat} {v : Value} {enc : α -> List Value} {sz : Nat} {xs : List α} (h : Rd wb Sb v enc sz xs) (hb : Bor wb Sb w S) : Rd w S v enc sz xs := h.far hb.same hb.sub
def zmK {α : Type} (wb : World) (Sb : List Nat) (enc : α -> List Value) (sz : Nat) : Rp (List α) where
 sz := 1
 own _ cs S xs := ∃ v, cs = [v] /\ S = [] /\ Rd wb Sb v enc sz xs
 rd _ _ xs cs := ∃ v, cs = [v] /\ Rd wb Sb v enc sz xs
 len := by rintro w cs S x ⟨v, rfl, _⟩; rfl
 loc := by rintro w w' cs S x _ h; exact h
 lt := by rintro w cs S x ⟨v, rfl, rfl, _⟩; simp
 nd := by rintro w cs S x ⟨v, rfl, rfl, _⟩; exact List.nodup_nil
 see := by rintro w cs S x F ⟨v, rfl, rfl, h⟩ _; exact ⟨v, rfl, h⟩
 rlen := by rintro w F x cs ⟨v, rfl, _⟩; rfl
 rloc := by rintro w w' F F' x cs _ _ h; exact h
theorem St.borOut {α : Type} {w0 w wb : World} {S0 Sb S : List Nat} {L : List Item} {enc : α -> List Value} {sz : Nat} {v : Value} {xs : List α} (h : St w0 S0 w L) (j : Nat) (hj : L[j]? = some (itI (zmK wb Sb enc sz) [v] S xs)) : Rd wb Sb v enc sz xs := by
 obtain ⟨u, hu, _, hr⟩ := h.all j _ hj
 cases hu
 exact hr
theorem St.borIn {α : Type} {w0 w wb : World} {S0 Sb : List Nat} {L : List Item} {enc : α -> List Value} {sz : Nat} {v : Value} {xs : List α} (h : St w0 S0 w L) (hr : Rd wb Sb v enc sz xs) : St w0 S0 w (L ++ [itI (zmK wb Sb enc sz) [v] [] xs]) :=
 h.push ⟨rfl, rfl, rfl, Nat.le_refl _, fun _ _ _ => rfl⟩ ⟨v, rfl, rfl, hr⟩ (by simp [itI]) (by simp [itI])
theorem RdN.bor {α : Type} {R : Rp α} {wb w : World} {Sb S : List Nat} {v : Value} {xs : List α} (hp : 0 < R.sz) (h : RdN wb Sb v R.rd R.sz xs) (hb : Bor wb Sb w S) : RdN w S v R.rd R.sz xs := h.far hp hb.same hb.sub
theorem RdN.formB {α : Type} {R : Rp α} {wb w0 : World} {Sb S0 : List Nat} {v : Value} {xs : List α} (h : RdN wb Sb v R.rd R.sz xs) (hb : Bor wb Sb w0 S0) {t : Int} {x : α} (hx : idx xs t = some x) :
  ∃ b o c cs, v = .slice (some ⟨b, o, none⟩) xs.length c /\ R.rd wb Sb x cs /\ ∀ f u, cs[f]? = some u -> ∀ w' L', St w0 S0 w' L' -> w'.cell? ⟨b, o + t.toNat * R.sz + f, none⟩ = some u := by
 obtain ⟨_, a, c, hv, _, hc⟩ := h
 obtain ⟨_, _, h2⟩ := qS hx
 obtain ⟨cs, hD, b, o, ha, hbn, hcell⟩ := hc _ x h2
 refine ⟨b, o, c, cs, by rw [hv, ha], hD, fun f u hu w' L' hst => ?_⟩
 have := hcell f u hu
 exact (World.cell?_of_block ((hb.on hst []).same b (zew this) hbn)).trans this
end Go.Sx
namespace Go.Sx
open Go.RowKit
section
variable {w0 w : World} {S0 : List Nat} {L : List Item}
theorem St.burst2 {A A' : Item} {B : List Item} (h : St w0 S0 w L) (j : Nat) (hj : L[j]? = some A) (hB : vR w A.S (A' :: B)) : St w0 S0 w (L.set j A' ++ B) := by
 have hlt : j < L.length := (zes.1 hj).1
 have h1 := h.burst j hj hB
 have e : (L.set j zdr ++ A' :: B) = (L.set j zdr ++ [A']) ++ B := by simp
 rw [e] at h1
 have g : ∀ (m : Nat) (it : Item), (L.set j A' ++ B)[m]? = some it -> ∃ m', ((L.set j zdr ++ [A']) ++ B)[m']? = some it /\ (m = j /\ m' = L.length \/ m ≠ j /\ m < L.length /\ m' = m \/ L.length <= m /\ m' = m + 1) := by
  intro m it hm
  rcases vD hm with ⟨l1, h2⟩ | ⟨l1, h2⟩
  ·rw [List.length_set] at l1
   rcases zc7 h2 with ⟨rfl, rfl⟩ | ⟨hne, h2⟩
   ·exact ⟨L.length, by rw [List.append_assoc, List.getElem?_append_right (by simp)]; simp, .inl ⟨rfl, rfl⟩⟩
   ·exact ⟨m, by rw [List.append_assoc, List.getElem?_append_left (by simpa using l1), List.getElem?_set_ne (fun e => hne e.symm)]; exact h2, .inr (.inl ⟨hne, l1, rfl⟩)⟩
  ·rw [List.length_set] at l1 h2
   refine ⟨m + 1, ?_, .inr (.inr ⟨l1, rfl⟩)⟩
   rw [List.getElem?_append_right (by simp; omega)]
   simp only [List.length_append, List.length_set, List.length_singleton]
   rw [show m + 1 - (L.length + 1) = m - L.length by omega]
   exact h2
 refine h1.repart (fun m it hm => ?_) (fun m n a b hmn hm hn => ?_)
 ·obtain ⟨m', h2, _⟩ := g m it hm
  exact ⟨h1.all m' it h2, h1.nd m' it h2, fun x hx => vW.2 ⟨m', it, h2, hx⟩⟩
 ·obtain ⟨m', h2, p2⟩ := g m a hm
  obtain ⟨n', h3, p3⟩ := g n b hn
  exact h1.apart m' n' a b (by omega) h2 h3
theorem fp3 {L : List Item} {q : Nat} {it : Item} {ids : List Nat} {b : Nat} (i : Nat) (hi : ids[i]? = some q) (hq : L[q]? = some it) (hb : b ∈ it.S) : b ∈ fp (sel L ids) := by
 refine vW.2 ⟨i, it, ?_, hb⟩
 induction ids generalizing i with
 | nil => simp at hi
 | cons a r ih =>
  cases i with
  | zero =>
   simp at hi
   subst hi
   simp [sel, List.getD_eq_getElem?_getD, hq]
  | succ i => simpa [sel] using ih i (by simpa using hi)
theorem St.openP0 {α : Type} {T : TypeId} {enc : α -> List Value} {sz : Nat} {he : ∀ x, (enc x).length = sz} {v : Value} {S : List Nat} {x : α} (h : St w0 S0 w L) (j : Nat) (hj : L[j]? = some (itI (zbl T (ziZ enc sz he)) [v] S x)) :
  ∃ b, v = .pointer (some ⟨b, 0, none⟩) /\ St w0 S0 w (L.set j (jD b T (enc x))) := by
 obtain ⟨b, cs', S', hv, rfl, hb, hh, rfl, rfl⟩ := h.all j _ hj
 cases hv
 exact ⟨b, rfl, h.turn j hj hh rfl⟩
theorem St.openQ0 {α : Type} {T : TypeId} {enc : α -> List Value} {sz : Nat} {he : ∀ x, (enc x).length = sz} {b : Nat} {S : List Nat} {x : α} (h : St w0 S0 w L) (j : Nat) (hj : L[j]? = some (itI (zbl T (ziZ enc sz he)) [.pointer (some ⟨b, 0, none⟩)] S x)) :
  St w0 S0 w (L.set j (jD b T (enc x))) := by
 obtain ⟨b2, hv, hst⟩ := h.openP0 j hj
 cases hv
 exact hst
theorem St.toRow1 {α : Type} {v : Value} {S : List Nat} {T : TypeId} {enc : α -> List Value} {sz : Nat} {ys : List α} {he : ∀ x, (enc x).length = sz} {hp : 0 < sz} (h : St w0 S0 w L) (j : Nat) (hj : L[j]? = some (itI (zik T enc sz he hp) [v] S ys)) : St w0 S0 w (L.set j (jW v T enc sz ys)) := by
 obtain ⟨u, hu, hst⟩ := h.toRow j hj
 cases hu
 exact hst
theorem St.shutP0 {α : Type} {T : TypeId} {enc : α -> List Value} {sz : Nat} {he : ∀ x, (enc x).length = sz} {cs : List Value} {b : Nat} (h : St w0 S0 w L) (j : Nat) (hj : L[j]? = some (jD b T cs)) (x : α) (hx : cs = enc x) :
  St w0 S0 w (L.set j (itI (zbl T (ziZ enc sz he)) [.pointer (some ⟨b, 0, none⟩)] [b] x)) := by
 subst hx
 exact h.turn j hj ⟨b, enc x, [], rfl, rfl, by simp, h.all j _ hj, rfl, rfl⟩ rfl
theorem sng {v : List Value} (h : v.length = 1) : ∃ u, v = [u] := by
 cases v with
 | nil => cases h
 | cons u r => cases r with
  | nil => exact ⟨u, rfl⟩
  | cons _ _ => simp at h
theorem zbv (h : St w0 S0 w L) {ids : List Nat} (hd : zC ids = true) (i j : Nat) {p q : Nat} {A B : Item} (hij : i ≠ j) (hi : ids[i]? = some p) (hj : ids[j]? = some q) (hp : L[p]? = some A) (hq : L[q]? = some B) : ∀ b ∈ A.S, b ∉ B.S :=
 h.apart p q A B (zaE hd hij hi hj) hp hq
theorem zdQ {a b : List Nat} (h : zC (a ++ b) = true) : zC a = true := by
 induction a with
 | nil => rfl
 | cons x r ih =>
  simp only [List.cons_append, zC] at h |-
  split at h
  ·cases h
  ·rename_i hm
   have : mem? x r = false := by
    cases hx : mem? x r with
    | false => rfl
    | true => rw [mem?_iff.2 (zal _ (mem?_iff.1 hx))] at hm; cases hm
   rw [this]
   exact ih h
end
section
variable {w0 w : World} {S0 : List Nat} {L : List Item} {α : Type} {β1 : Type} {T : TypeId} {f : α -> List Value -> List Value} {sz : Nat} {hl : ∀ x vs, (f x vs).length = sz} {g : α -> β1} {A1 : Rp β1}
end
section
variable {w0 w : World} {S0 : List Nat} {L : List Item} {α : Type} {β1 : Type} {β2 : Type} {T : TypeId} {f : α -> List Value -> List Value} {sz : Nat} {hl : ∀ x vs, (f x vs).length = sz} {g : α -> β1 × β2} {A1 : Rp β1} {A2 : Rp β2}
theorem St.openP2 {v : Value} {S : List Nat} {x : α} (h : St w0 S0 w L) (j : Nat) (hj : L[j]? = some (itI (zbl T (jC f sz hl g (xj A1 A2))) [v] S x)) (z1 : A1.sz = 1) (z2 : A2.sz = 1) :
  ∃ b v1 S1 v2 S2, v = .pointer (some ⟨b, 0, none⟩) /\ St w0 S0 w (L.set j (jD b T (f x [v1, v2])) ++ [itI A1 [v1] S1 (g x).1, itI A2 [v2] S2 (g x).2]) := by
 obtain ⟨b, cs', S', hv, rfl, hb, hh, vs, rfl, c1, d1, S1, R1, rfl, rfl, hd1, hown1, hown2⟩ := h.all j _ hj
 cases hv
 obtain ⟨v1, rfl⟩ := sng ((A1.len _ _ _ _ hown1).trans z1)
 obtain ⟨v2, rfl⟩ := sng ((A2.len _ _ _ _ hown2).trans z2)
 refine ⟨b, v1, S1, v2, R1, rfl, h.burst2 j hj ?_⟩
 exact vR.cons hh (by simp [jD]) (fun c hc => by simp only [jD, List.mem_singleton] at hc; subst hc; exact zcs) (fun c hc => by simp only [jD, List.mem_singleton] at hc; subst hc; exact hb) (vR.cons hown1 (A1.nd _ _ _ _ hown1) (fun b hb => zal _ hb) hd1 (vR.cons hown2 (A2.nd _ _ _ _ hown2) (fun b hb => hb) (S2 := []) (by simp) vR.nil (by simp)) (fun b hb => zar _ hb)) (fun c hc => zcm _ hc)
theorem St.openQ2 {b : Nat} {S : List Nat} {x : α} (h : St w0 S0 w L) (j : Nat) (hj : L[j]? = some (itI (zbl T (jC f sz hl g (xj A1 A2))) [.pointer (some ⟨b, 0, none⟩)] S x)) (z1 : A1.sz = 1) (z2 : A2.sz = 1) :
  ∃ v1 S1 v2 S2, St w0 S0 w (L.set j (jD b T (f x [v1, v2])) ++ [itI A1 [v1] S1 (g x).1, itI A2 [v2] S2 (g x).2]) := by
 obtain ⟨b2, v1, S1, v2, S2, hv, hst⟩ := h.openP2 j hj z1 z2
 cases hv
 exact ⟨v1, S1, v2, S2, hst⟩
theorem St.shutP2 {cs : List Value} {b : Nat} {v1 : Value} {S1 : List Nat} {y1 : β1} {v2 : Value} {S2 : List Nat} {y2 : β2} (h : St w0 S0 w L) (R : Rp α) (hR : R = jC f sz hl g (xj A1 A2)) (j k1 k2 : Nat) (rest : List Nat) (hd : zC ([j, k1, k2] ++ rest) = true) (hj : L[j]? = some (jD b T cs)) (h1 : L[k1]? = some (itI A1 [v1] S1 y1)) (h2 : L[k2]? = some (itI A2 [v2] S2 y2)) (x : α) (hx : cs = f x [v1, v2]) (hg : g x = (y1, y2)) :
  ∃ S, St w0 S0 w (sel L rest ++ [itI (zbl T R) [.pointer (some ⟨b, 0, none⟩)] S x]) := by
 subst hR
 subst hx
 have hd1 := zdQ hd
 have o1 : A1.own w [v1] S1 y1 := h.all k1 _ h1
 have o2 : A2.own w [v2] S2 y2 := h.all k2 _ h2
 have hown : (jC f sz hl g (xj A1 A2)).own w (f x [v1, v2]) (S1 ++ S2) x := by
  refine ⟨[v1, v2], rfl, ?_⟩
  rw [hg]
  refine ⟨[v1], [v2], S1, _, rfl, rfl, ?_, o1, o2⟩
  ·intro b hb hb2
   rcases hb2 with hb2
   ·exact zbv h hd1 1 2 (by decide) rfl rfl h1 h2 b hb hb2
 have hbn : b ∉ (S1 ++ S2) := by
  intro hb
  simp only [List.mem_append] at hb
  rcases hb with hb | hb
  ·exact zbv h hd1 0 1 (by decide) rfl rfl hj h1 b (by simp [jD]) hb
  ·exact zbv h hd1 0 2 (by decide) rfl rfl hj h2 b (by simp [jD]) hb
 have hh : w.heap[b]? = some (.cells (f x [v1, v2]).toArray T (0, 0)) := h.all j _ hj
 have hp : (zbl T (jC f sz hl g (xj A1 A2))).own w [.pointer (some ⟨b, 0, none⟩)] (b :: (S1 ++ S2)) x := ⟨b, _, _, rfl, rfl, hbn, hh, hown⟩
 refine ⟨_, h.gather [j, k1, k2] rest hd (C := itI (zbl T (jC f sz hl g (xj A1 A2))) _ _ x) hp ((zbl T (jC f sz hl g (xj A1 A2))).nd _ _ _ _ hp) (fun c hc => ?_)⟩
 rcases List.mem_cons.1 hc with rfl | hc
 ·exact fp3 0 rfl hj (by simp [jD])
 ·have hc : c ∈ S1 ++ S2 := hc
  simp only [List.mem_append] at hc
  rcases hc with hc | hc
  ·exact fp3 1 rfl h1 hc
  ·exact fp3 2 rfl h2 hc
end
section
variable {w0 w : World} {S0 : List Nat} {L : List Item} {α : Type} {β1 : Type} {β2 : Type} {β3 : Type} {T : TypeId} {f : α -> List Value -> List Value} {sz : Nat} {hl : ∀ x vs, (f x vs).length = sz} {g : α -> β1 × (β2 × β3)} {A1 : Rp β1} {A2 : Rp β2} {A3 : Rp β3}
end
section
variable {w0 w : World} {S0 : List Nat} {L : List Item} {α : Type} {β1 : Type} {β2 : Type} {β3 : Type} {β4 : Type} {T : TypeId} {f : α -> List Value -> List Value} {sz : Nat} {hl : ∀ x vs, (f x vs).length = sz} {g : α -> β1 × (β2 × (β3 × β4))} {A1 : Rp β1} {A2 : Rp β2} {A3 : Rp β3} {A4 : Rp β4}
theorem St.openP4 {v : Value} {S : List Nat} {x : α} (h : St w0 S0 w L) (j : Nat) (hj : L[j]? = some (itI (zbl T (jC f sz hl g (xj A1 (xj A2 (xj A3 A4))))) [v] S x)) (z1 : A1.sz = 1) (z2 : A2.sz = 1) (z3 : A3.sz = 1) (z4 : A4.sz = 1) :
  ∃ b v1 S1 v2 S2 v3 S3 v4 S4, v = .pointer (some ⟨b, 0, none⟩) /\ St w0 S0 w (L.set j (jD b T (f x [v1, v2, v3, v4])) ++ [itI A1 [v1] S1 (g x).1, itI A2 [v2] S2 (g x).2.1, itI A3 [v3] S3 (g x).2.2.1, itI A4 [v4] S4 (g x).2.2.2]) := by
 obtain ⟨b, cs', S', hv, rfl, hb, hh, vs, rfl, c1, d1, S1, R1, rfl, rfl, hd1, hown1, ⟨c2, d2, S2, R2, rfl, rfl, hd2, hown2, ⟨c3, d3, S3, R3, rfl, rfl, hd3, hown3, hown4⟩⟩⟩ := h.all j _ hj
 cases hv
 obtain ⟨v1, rfl⟩ := sng ((A1.len _ _ _ _ hown1).trans z1)
 obtain ⟨v2, rfl⟩ := sng ((A2.len _ _ _ _ hown2).trans z2)
 obtain ⟨v3, rfl⟩ := sng ((A3.len _ _ _ _ hown3).trans z3)
 obtain ⟨v4, rfl⟩ := sng ((A4.len _ _ _ _ hown4).trans z4)
 refine ⟨b, v1, S1, v2, S2, v3, S3, v4, R3, rfl, h.burst2 j hj ?_⟩
 exact vR.cons hh (by simp [jD]) (fun c hc => by simp only [jD, List.mem_singleton] at hc; subst hc; exact zcs) (fun c hc => by simp only [jD, List.mem_singleton] at hc; subst hc; exact hb) (vR.cons hown1 (A1.nd _ _ _ _ hown1) (fun b hb => zal _ hb) hd1 (vR.cons hown2 (A2.nd _ _ _ _ hown2) (fun b hb => zal _ hb) hd2 (vR.cons hown3 (A3.nd _ _ _ _ hown3) (fun b hb => zal _ hb) hd3 (vR.cons hown4 (A4.nd _ _ _ _ hown4) (fun b hb => hb) (S2 := []) (by simp) vR.nil (by simp)) (fun b hb => zar _ hb)) (fun b hb => zar _ hb)) (fun b hb => zar _ hb)) (fun c hc => zcm _ hc)
theorem St.openQ4 {b : Nat} {S : List Nat} {x : α} (h : St w0 S0 w L) (j : Nat) (hj : L[j]? = some (itI (zbl T (jC f sz hl g (xj A1 (xj A2 (xj A3 A4))))) [.pointer (some ⟨b, 0, none⟩)] S x)) (z1 : A1.sz = 1) (z2 : A2.sz = 1) (z3 : A3.sz = 1) (z4 : A4.sz = 1) :
  ∃ v1 S1 v2 S2 v3 S3 v4 S4, St w0 S0 w (L.set j (jD b T (f x [v1, v2, v3, v4])) ++ [itI A1 [v1] S1 (g x).1, itI A2 [v2] S2 (g x).2.1, itI A3 [v3] S3 (g x).2.2.1, itI A4 [v4] S4 (g x).2.2.2]) := by
 obtain ⟨b2, v1, S1, v2, S2, v3, S3, v4, S4, hv, hst⟩ := h.openP4 j hj z1 z2 z3 z4
 cases hv
 exact ⟨v1, S1, v2, S2, v3, S3, v4, S4, hst⟩
theorem St.shutP4 {cs : List Value} {b : Nat} {v1 : Value} {S1 : List Nat} {y1 : β1} {v2 : Value} {S2 : List Nat} {y2 : β2} {v3 : Value} {S3 : List Nat} {y3 : β3} {v4 : Value} {S4 : List Nat} {y4 : β4} (h : St w0 S0 w L) (R : Rp α) (hR : R = jC f sz hl g (xj A1 (xj A2 (xj A3 A4)))) (j k1 k2 k3 k4 : Nat) (rest : List Nat) (hd : zC ([j, k1, k2, k3, k4] ++ rest) = true) (hj : L[j]? = some (jD b T cs)) (h1 : L[k1]? = some (itI A1 [v1] S1 y1)) (h2 : L[k2]? = some (itI A2 [v2] S2 y2)) (h3 : L[k3]? = some (itI A3 [v3] S3 y3)) (h4 : L[k4]? = some (itI A4 [v4] S4 y4)) (x : α) (hx : cs = f x [v1, v2, v3, v4]) (hg : g x = (y1, y2, y3, y4)) :
  ∃ S, St w0 S0 w (sel L rest ++ [itI (zbl T R) [.pointer (some ⟨b, 0, none⟩)] S x]) := by
 subst hR
 subst hx
 have hd1 := zdQ hd
 have o1 : A1.own w [v1] S1 y1 := h.all k1 _ h1
 have o2 : A2.own w [v2] S2 y2 := h.all k2 _ h2
 have o3 : A3.own w [v3] S3 y3 := h.all k3 _ h3
 have o4 : A4.own w [v4] S4 y4 := h.all k4 _ h4
 have hown : (jC f sz hl g (xj A1 (xj A2 (xj A3 A4)))).own w (f x [v1, v2, v3, v4]) (S1 ++ (S2 ++ (S3 ++ S4))) x := by
  refine ⟨[v1, v2, v3, v4], rfl, ?_⟩
  rw [hg]
  refine ⟨[v1], [v2, v3, v4], S1, _, rfl, rfl, ?_, o1, ⟨[v2], [v3, v4], S2, _, rfl, rfl, ?_, o2, ⟨[v3], [v4], S3, _, rfl, rfl, ?_, o3, o4⟩⟩⟩
  ·intro b hb hb2
   simp only [List.mem_append] at hb2
   rcases hb2 with hb2 | hb2 | hb2
   ·exact zbv h hd1 1 2 (by decide) rfl rfl h1 h2 b hb hb2
   ·exact zbv h hd1 1 3 (by decide) rfl rfl h1 h3 b hb hb2
   ·exact zbv h hd1 1 4 (by decide) rfl rfl h1 h4 b hb hb2
  ·intro b hb hb2
   simp only [List.mem_append] at hb2
   rcases hb2 with hb2 | hb2
   ·exact zbv h hd1 2 3 (by decide) rfl rfl h2 h3 b hb hb2
   ·exact zbv h hd1 2 4 (by decide) rfl rfl h2 h4 b hb hb2
  ·intro b hb hb2
   rcases hb2 with hb2
   ·exact zbv h hd1 3 4 (by decide) rfl rfl h3 h4 b hb hb2
 have hbn : b ∉ (S1 ++ (S2 ++ (S3 ++ S4))) := by
  intro hb
  simp only [List.mem_append] at hb
  rcases hb with hb | hb | hb | hb
  ·exact zbv h hd1 0 1 (by decide) rfl rfl hj h1 b (by simp [jD]) hb
  ·exact zbv h hd1 0 2 (by decide) rfl rfl hj h2 b (by simp [jD]) hb
  ·exact zbv h hd1 0 3 (by decide) rfl rfl hj h3 b (by simp [jD]) hb
  ·exact zbv h hd1 0 4 (by decide) rfl rfl hj h4 b (by simp [jD]) hb
 have hh : w.heap[b]? = some (.cells (f x [v1, v2, v3, v4]).toArray T (0, 0)) := h.all j _ hj
 have hp : (zbl T (jC f sz hl g (xj A1 (xj A2 (xj A3 A4))))).own w [.pointer (some ⟨b, 0, none⟩)] (b :: (S1 ++ (S2 ++ (S3 ++ S4)))) x := ⟨b, _, _, rfl, rfl, hbn, hh, hown⟩
 refine ⟨_, h.gather [j, k1, k2, k3, k4] rest hd (C := itI (zbl T (jC f sz hl g (xj A1 (xj A2 (xj A3 A4))))) _ _ x) hp ((zbl T (jC f sz hl g (xj A1 (xj A2 (xj A3 A4))))).nd _ _ _ _ hp) (fun c hc => ?_)⟩
 rcases List.mem_cons.1 hc with rfl | hc
 ·exact fp3 0 rfl hj (by simp [jD])
 ·have hc : c ∈ S1 ++ (S2 ++ (S3 ++ S4)) := hc
  simp only [List.mem_append] at hc
  rcases hc with hc | hc | hc | hc
  ·exact fp3 1 rfl h1 hc
  ·exact fp3 2 rfl h2 hc
  ·exact fp3 3 rfl h3 hc
  ·exact fp3 4 rfl h4 hc
end
section
variable {w0 w : World} {S0 : List Nat} {L : List Item} {α : Type} {β1 : Type} {β2 : Type} {β3 : Type} {β4 : Type} {β5 : Type} {T : TypeId} {f : α -> List Value -> List Value} {sz : Nat} {hl : ∀ x vs, (f x vs).length = sz} {g : α -> β1 × (β2 × (β3 × (β4 × β5)))} {A1 : Rp β1} {A2 : Rp β2} {A3 : Rp β3} {A4 : Rp β4} {A5 : Rp β5}
end
section
variable {w0 w : World} {S0 : List Nat} {L : List Item} {α : Type} {β1 : Type} {β2 : Type} {β3 : Type} {β4 : Type} {β5 : Type} {β6 : Type} {T : TypeId} {f : α -> List Value -> List Value} {sz : Nat} {hl : ∀ x vs, (f x vs).length = sz} {g : α -> β1 × (β2 × (β3 × (β4 × (β5 × β6))))} {A1 : Rp β1} {A2 : Rp β2} {A3 : Rp β3} {A4 : Rp β4} {A5 : Rp β5} {A6 : Rp β6}
end
end Go.Sx
namespace Go.Sx
open Go.RowKit
def zmF {α β γ : Type} (A : Rp α) (B : Rp β) (C : Value -> Rp γ) (n : Nat) (hn : ∀ v, (C v).sz = n) : Rp (α × (β × γ)) where
 sz := A.sz + (B.sz + n)
 own w cs S p := ∃ v1, (xj A (xj B (C v1))).own w cs S p /\ cs[0]? = some v1
 rd w F p cs := ∃ v1, (xj A (xj B (C v1))).rd w F p cs /\ cs[0]? = some v1
 len := by
  rintro w cs S x ⟨v1, h, _⟩
  have := (xj A (xj B (C v1))).len _ _ _ _ h
  rw [this]
  show A.sz + (B.sz + (C v1).sz) = _
  rw [hn]
 loc := by
  rintro w w' cs S x hb ⟨v1, h, e⟩
  exact ⟨v1, (xj A (xj B (C v1))).loc w w' _ _ _ hb h, e⟩
 lt := by
  rintro w cs S x ⟨v1, h, _⟩
  exact (xj A (xj B (C v1))).lt _ _ _ _ h
 nd := by
  rintro w cs S x ⟨v1, h, _⟩
  exact (xj A (xj B (C v1))).nd _ _ _ _ h
 see := by
  rintro w cs S x F ⟨v1, h, e⟩ hF
  exact ⟨v1, (xj A (xj B (C v1))).see _ _ _ _ F h hF, e⟩
 rlen := by
  rintro w F x cs ⟨v1, h, _⟩
  have := (xj A (xj B (C v1))).rlen _ _ _ _ h
  rw [this]
  show A.sz + (B.sz + (C v1).sz) = _
  rw [hn]
 rloc := by
  rintro w w' F F' x cs k1 k2 ⟨v1, h, e⟩
  exact ⟨v1, (xj A (xj B (C v1))).rloc w w' F F' _ _ k1 k2 h, e⟩
section
variable {w0 w : World} {S0 : List Nat} {L : List Item} {α : Type} {β1 : Type} {β2 : Type} {β3 : Type} {T : TypeId} {f : α -> List Value -> List Value} {sz : Nat} {hl : ∀ x vs, (f x vs).length = sz} {g : α -> β1 × (β2 × β3)} {A1 : Rp β1} {A2 : Rp β2} {A3 : Value -> Rp β3} {n : Nat} {hn : ∀ v, (A3 v).sz = n}
theorem St.openD3 {b : Nat} {S : List Nat} {x : α} (h : St w0 S0 w L) (j : Nat) (hj : L[j]? = some (itI (zbl T (jC f sz hl g (zmF A1 A2 A3 n hn))) [.pointer (some ⟨b, 0, none⟩)] S x)) (z1 : A1.sz = 1) (z2 : A2.sz = 1) (z3 : n = 1) :
  ∃ v1 S1 v2 S2 v3 S3, St w0 S0 w (L.set j (jD b T (f x [v1, v2, v3])) ++ [itI A1 [v1] S1 (g x).1, itI A2 [v2] S2 (g x).2.1, itI (A3 v1) [v3] S3 (g x).2.2]) := by
 obtain ⟨b', cs', S', hv, rfl, hb, hh, vs, rfl, v1', ⟨c1, d1, S1, R1, rfl, rfl, hd1, hown1, ⟨c2, d2, S2, R2, rfl, rfl, hd2, hown2, hown3⟩⟩, hv1⟩ := h.all j _ hj
 cases hv
 obtain ⟨v1, rfl⟩ := sng ((A1.len _ _ _ _ hown1).trans z1)
 obtain ⟨v2, rfl⟩ := sng ((A2.len _ _ _ _ hown2).trans z2)
 obtain ⟨v3, rfl⟩ := sng (((A3 v1').len _ _ _ _ hown3).trans ((hn v1').trans z3))
 obtain rfl : v1 = v1' := by simpa using hv1
 refine ⟨v1, S1, v2, S2, v3, R2, h.burst2 j hj ?_⟩
 exact vR.cons hh (by simp [jD]) (fun c hc => by simp only [jD, List.mem_singleton] at hc; subst hc; exact zcs) (fun c hc => by simp only [jD, List.mem_singleton] at hc; subst hc; exact hb) (vR.cons hown1 (A1.nd _ _ _ _ hown1) (fun b hb => zal _ hb) hd1 (vR.cons hown2 (A2.nd _ _ _ _ hown2) (fun b hb => zal _ hb) hd2 (vR.cons hown3 ((A3 v1).nd _ _ _ _ hown3) (fun b hb => hb) (S2 := []) (by simp) vR.nil (by simp)) (fun b hb => zar _ hb)) (fun b hb => zar _ hb)) (fun b hb => zcm _ hb)
theorem St.shutD3 {cs : List Value} {b : Nat} {v1 : Value} {S1 : List Nat} {y1 : β1} {v2 : Value} {S2 : List Nat} {y2 : β2} {v3 : Value} {S3 : List Nat} {y3 : β3} (h : St w0 S0 w L) (R : Rp α) (hR : R = jC f sz hl g (zmF A1 A2 A3 n hn)) (j k1 k2 k3 : Nat) (rest : List Nat) (hd : zC ([j, k1, k2, k3] ++ rest) = true) (hj : L[j]? = some (jD b T cs)) (h1 : L[k1]? = some (itI A1 [v1] S1 y1)) (h2 : L[k2]? = some (itI A2 [v2] S2 y2)) (h3 : L[k3]? = some (itI (A3 v1) [v3] S3 y3)) (x : α) (hx : cs = f x [v1, v2, v3]) (hg : g x = (y1, y2, y3)) :
  ∃ S, St w0 S0 w (sel L rest ++ [itI (zbl T R) [.pointer (some ⟨b, 0, none⟩)] S x]) := by
 subst hR
 subst hx
 have hd1 := zdQ hd
 have o1 : A1.own w [v1] S1 y1 := h.all k1 _ h1
 have o2 : A2.own w [v2] S2 y2 := h.all k2 _ h2
 have o3 : (A3 v1).own w [v3] S3 y3 := h.all k3 _ h3
 have hown : (jC f sz hl g (zmF A1 A2 A3 n hn)).own w (f x [v1, v2, v3]) (S1 ++ (S2 ++ S3)) x := by
  refine ⟨[v1, v2, v3], rfl, ?_⟩
  rw [hg]
  refine ⟨v1, ⟨[v1], [v2, v3], S1, _, rfl, rfl, ?_, o1, ⟨[v2], [v3], S2, _, rfl, rfl, ?_, o2, o3⟩⟩, rfl⟩
  ·intro b hb hb2
   simp only [List.mem_append] at hb2
   rcases hb2 with hb2 | hb2
   ·exact zbv h hd1 1 2 (by decide) rfl rfl h1 h2 b hb hb2
   ·exact zbv h hd1 1 3 (by decide) rfl rfl h1 h3 b hb hb2
  ·intro b hb hb2
   exact zbv h hd1 2 3 (by decide) rfl rfl h2 h3 b hb hb2
 have hbn : b ∉ (S1 ++ (S2 ++ S3)) := by
  intro hb
  simp only [List.mem_append] at hb
  rcases hb with hb | hb | hb
  ·exact zbv h hd1 0 1 (by decide) rfl rfl hj h1 b (by simp [jD]) hb
  ·exact zbv h hd1 0 2 (by decide) rfl rfl hj h2 b (by simp [jD]) hb
  ·exact zbv h hd1 0 3 (by decide) rfl rfl hj h3 b (by simp [jD]) hb
 have hh : w.heap[b]? = some (.cells (f x [v1, v2, v3]).toArray T (0, 0)) := h.all j _ hj
 have hp : (zbl T (jC f sz hl g (zmF A1 A2 A3 n hn))).own w [.pointer (some ⟨b, 0, none⟩)] (b :: (S1 ++ (S2 ++ S3))) x := ⟨b, _, _, rfl, rfl, hbn, hh, hown⟩
 refine ⟨_, h.gather [j, k1, k2, k3] rest hd (C := itI (zbl T (jC f sz hl g (zmF A1 A2 A3 n hn))) _ _ x) hp ((zbl T (jC f sz hl g (zmF A1 A2 A3 n hn))).nd _ _ _ _ hp) (fun c hc => ?_)⟩
 rcases List.mem_cons.1 hc with rfl | hc
 ·exact fp3 0 rfl hj (by simp [jD])
 ·have hc : c ∈ S1 ++ (S2 ++ S3) := hc
  simp only [List.mem_append] at hc
  rcases hc with hc | hc | hc
  ·exact fp3 1 rfl h1 hc
  ·exact fp3 2 rfl h2 hc
  ·exact fp3 3 rfl h3 hc
end
end Go.Sx
namespace Go.Sx
open Go.RowKit
def zmH {α : Type} : List (Int × α) -> Int -> Option α
 | [], _ => none
 | p :: r, k => if p.1 == k then some p.2 else zmH r k
def zk4 {α : Type} : List (Int × α) -> Int -> Option Nat
 | [], _ => none
 | p :: r, k => if p.1 == k then some 0 else (zk4 r k).map (· + 1)
def zpz {α : Type} (val : α -> Value) (p : Int × α) : Value × Value := (.int .i64 p.1, val p.2)
structure zmt {α : Type} (val : α -> Value) (m : List (Int × α)) (A : List MapEntry) (clock : Nat) : Prop where
 eq : A.map (fun e => (e.key, e.val)) = m.map (zpz val)
 born : A.Pairwise (fun a b => a.born < b.born)
 lt : ∀ e ∈ A, e.born < clock
section
variable {α : Type} {val : α -> Value}
theorem zmt.cons {p : Int × α} {m : List (Int × α)} {A : List MapEntry} {clock : Nat} (h : zmt val (p :: m) A clock) : ∃ e B, A = e :: B /\ e.key = .int .i64 p.1 /\ e.val = val p.2 /\ zmt val m B clock := by
 obtain ⟨h1, h2, h3⟩ := h
 cases A with
 | nil => simp at h1
 | cons e B =>
  simp only [List.map_cons, List.cons.injEq, zpz, Prod.mk.injEq] at h1
  exact ⟨e, B, rfl, h1.1.1, h1.1.2, h1.2, (List.pairwise_cons.1 h2).2, fun x hx => h3 x (zcm _ hx)⟩
theorem zmt.nil {A : List MapEntry} {clock : Nat} (h : zmt val ([] : List (Int × α)) A clock) : A = [] := by
 have := h.eq
 simpa using this
theorem zmu {m : List (Int × α)} {k : Int} : (zk4 m k = none ↔ zmH m k = none) := by
 induction m with
 | nil => simp [zk4, zmH]
 | cons p m ih =>
  unfold zk4 zmH
  split
  ·simp
  ·simp [ih]
theorem zkq {m : List (Int × α)} {k : Int} {x : α} (h : zmH m k = some x) : ∃ j, zk4 m k = some j /\ m[j]? = some (k, x) := by
 induction m with
 | nil => cases h
 | cons p m ih =>
  unfold zmH at h
  unfold zk4
  split at h
  ·rename_i hp
   cases h
   refine ⟨0, by simp [hp], ?_⟩
   have : p.1 = k := by simpa using hp
   subst this
   rfl
  ·rename_i hp
   obtain ⟨j, h1, h2⟩ := ih h
   exact ⟨j + 1, by simp [hp, h1], by simpa using h2⟩
theorem zmt.len {m : List (Int × α)} {A : List MapEntry} {clock : Nat} (h : zmt val m A clock) : A.length = m.length := by
 have := congrArg List.length h.eq
 simpa using this
theorem zmt.set {m : List (Int × α)} {A : List MapEntry} {clock j : Nat} {k : Int} {x : α} {e : MapEntry} (h : zmt val m A clock) (he : A[j]? = some e) : zmt val (m.set j (k, x)) (A.set j { e with key := .int .i64 k, val := val x }) clock := by
 refine ⟨?_, ?_, fun y hy => ?_⟩
 ·rw [List.map_set, List.map_set, h.eq]; rfl
 ·have hb := h.born
  rw [List.pairwise_iff_getElem] at hb |-
  intro a b ha hb2 hab
  rw [List.length_set] at ha hb2
  have hj := (zes.1 he).2
  have := hb a b ha hb2 hab
  rw [List.getElem_set, List.getElem_set]
  split <;> split
  ·omega
  ·rename_i h1 h2; subst h1; rw [hj] at this; exact this
  ·rename_i h1 h2; subst h2; rw [hj] at this; exact this
  ·exact this
 ·rcases List.mem_or_eq_of_mem_set hy with hy | rfl
  ·exact h.lt y hy
  ·exact h.lt e (zmg he)
end
section
variable {P : Program} {N : Nat} {fr : List (Nat × Value)} {w w0 : World} {S0 : List Nat} {L : List Item} {α : Type} {val : α -> Value}
end
section
variable {P : Program} {N : Nat} {Q : Exit -> Act -> World -> Prop} {fr fr' : List (Nat × Value)} {w w0 : World} {l : List Oper} {i : Nat} {o : Oper} {S0 : List Nat} {L : List Item} {α : Type} {val : α -> Value}
end
structure zmv {α : Type} (w : World) (r : Nat) (R : Rp α) (S : List Nat) (m : List (Int × α)) (ho : Option (Int × Value)) (mv : List (Int × Value)) (Ss : List (List Nat)) : Prop where
 map : ∃ A clock, w.heap[r]? = some (.map A clock) /\ zmt (fun v : Value => v) mv A.toList clock
 keys : mv.map (·.1) = m.map (·.1)
 ls : Ss.length = m.length
 hS : S = r :: Ss.flatten
 nd : S.Nodup
 out : ∀ (k : Int) (v : Value) (i : Nat), ho = some (k, v) -> zk4 m k = some i -> mv[i]? = some (k, v) /\ Ss[i]? = some []
 own : ∀ (i : Nat) (q : Int × Value) (S' : List Nat) (p : Int × α), (∀ k u, ho = some (k, u) -> zk4 m k ≠ some i) -> mv[i]? = some q -> Ss[i]? = some S' -> m[i]? = some p -> R.own w [q.2] S' p.2
section
variable {α β : Type}
theorem zmw {m : List (Int × α)} {n : List (Int × β)} (h : n.map (·.1) = m.map (·.1)) (k : Int) : zk4 n k = zk4 m k := by
 induction m generalizing n with
 | nil => simp at h; subst h; rfl
 | cons p m ih =>
  cases n with
  | nil => cases h
  | cons q n =>
   simp only [List.map_cons, List.cons.injEq] at h
   simp only [zk4, h.1, ih h.2]
theorem zoJ {m : List (Int × α)} {k : Int} {i : Nat} (h : zk4 m k = some i) : ∃ x, zmH m k = some x /\ m[i]? = some (k, x) := by
 cases hg : zmH m k with
 | none => rw [zmu.2 hg] at h; cases h
 | some x =>
  obtain ⟨j, h1, h2⟩ := zkq hg
  rw [h1] at h
  cases h
  exact ⟨x, rfl, h2⟩
end
section
variable {α : Type} {w w' : World} {r : Nat} {R : Rp α} {S : List Nat} {m : List (Int × α)} {ho : Option (Int × Value)} {mv : List (Int × Value)} {Ss : List (List Nat)}
theorem zmv.len (h : zmv w r R S m ho mv Ss) : mv.length = m.length := by
 have := congrArg List.length h.keys
 simpa using this
theorem zmv.lt (h : zmv w r R S m ho mv Ss) : ∀ b ∈ S, b < w.heap.size := by
 intro b hb
 rw [h.hS] at hb
 rcases List.mem_cons.1 hb with rfl | hb
 ·obtain ⟨A, c, h1, _⟩ := h.map
  exact (Array.getElem?_eq_some_iff.1 h1).1
 ·obtain ⟨S', hS', hb⟩ := List.mem_flatten.1 hb
  obtain ⟨i, hi, rfl⟩ := List.mem_iff_getElem.1 hS'
  have h1 : i < mv.length := by rw [h.len, <- h.ls]; exact hi
  have h2 : i < m.length := by rw [<- h.ls]; exact hi
  by_cases hq : ∃ k u, ho = some (k, u) /\ zk4 m k = some i
  ·obtain ⟨k, u, hc, hp⟩ := hq
   have := (h.out k u i hc hp).2
   rw [zeg hi] at this
   rw [Option.some.inj this] at hb
   exact absurd hb znm
  ·exact R.lt _ _ _ _ (h.own i _ _ _ (fun k u hc hp => hq ⟨k, u, hc, hp⟩) (zeg h1) (zeg hi) (zeg h2)) b hb
theorem zmv.loc (h : zmv w r R S m ho mv Ss) (hb : ∀ b ∈ S, w'.heap[b]? = w.heap[b]?) : zmv w' r R S m ho mv Ss := by
 have hS := h.hS
 obtain ⟨A, c, h1, h2⟩ := h.map
 refine ⟨⟨A, c, by rw [hb r (by rw [hS]; exact zcs)]; exact h1, h2⟩, h.keys, h.ls, h.hS, h.nd, h.out, fun i q S' p g1 g2 g3 g4 => R.loc w w' _ S' _ (fun b hbs => hb b ?_) (h.own i q S' p g1 g2 g3 g4)⟩
 rw [hS]
 exact zcm _ (List.mem_flatten.2 ⟨S', zmg g3, hbs⟩)
end
def mN {α : Type} (r : Nat) (R : Rp α) (S : List Nat) (m : List (Int × α)) (ho : Option (Int × Value)) : Item where
 S := S
 Φ w := ∃ mv Ss, zmv w r R S m ho mv Ss
 loc w w' hb h := by obtain ⟨mv, Ss, h⟩ := h; exact ⟨mv, Ss, h.loc hb⟩
 lt w h := by obtain ⟨mv, Ss, h⟩ := h; exact h.lt
section
variable {α : Type} {w w' : World} {r : Nat} {R : Rp α} {S : List Nat} {m : List (Int × α)} {ho : Option (Int × Value)} {mv : List (Int × Value)} {Ss : List (List Nat)}
theorem zmv.take (h : zmv w r R S m none mv Ss) {k : Int} {x : α} (hx : zmH m k = some x) :
  ∃ v S1 S2 Ss', zmH mv k = some v /\ R.own w [v] S2 x /\ zmv w r R S1 m (some (k, v)) mv Ss' /\ (∀ b ∈ S2, b ∈ S) /\ (∀ b ∈ S1, b ∈ S) /\ ∀ b ∈ S1, b ∉ S2 := by
 obtain ⟨i, hp, hi⟩ := zkq hx
 have hl := (zes.1 hi).1
 obtain ⟨v, hv, hvi⟩ := zoJ ((zmw h.keys k).trans hp)
 have a2 : i < Ss.length := by rw [h.ls]; exact hl
 have hn := h.nd
 rw [h.hS] at hn
 obtain ⟨n1, n2⟩ := List.nodup_cons.1 hn
 have hown := h.own i (k, v) Ss[i] (k, x) (fun _ _ e => (by cases e)) hvi (zeg a2) hi
 have hsub : ∀ b ∈ (Ss.set i []).flatten, b ∈ Ss.flatten := fun b hb => by
  rcases zaF hb with hb | hb
  ·exact absurd hb znm
  ·exact hb
 have n2' : (Ss.set i []).flatten.Nodup := zbJ n2 List.nodup_nil (fun _ _ _ _ b hb => absurd hb znm)
 refine ⟨v, r :: (Ss.set i []).flatten, Ss[i], Ss.set i [], hv, hown, ⟨h.map, h.keys, by rw [List.length_set]; exact h.ls, rfl, ?_, fun k' v' i' e hp' => ?_, fun i' q S' p g1 g2 g3 g4 => ?_⟩, fun b hb => ?_, fun b hb => ?_, fun b hb hb2 => ?_⟩
 ·exact List.nodup_cons.2 ⟨fun hb => n1 (hsub r hb), n2'⟩
 ·simp only [Option.some.injEq, Prod.mk.injEq] at e
  obtain ⟨rfl, rfl⟩ := e
  rw [hp] at hp'
  cases hp'
  exact ⟨hvi, by rw [List.getElem?_set_self a2]⟩
 ·rcases zc7 g3 with ⟨rfl, rfl⟩ | ⟨hne, g3⟩
  ·exact absurd hp (g1 k v rfl)
  ·exact h.own i' q S' p (fun _ _ e => (by cases e)) g2 g3 g4
 ·rw [h.hS]; exact zcm _ (List.mem_flatten.2 ⟨Ss[i], List.getElem_mem a2, hb⟩)
 ·rw [h.hS]
  rcases List.mem_cons.1 hb with rfl | hb
  ·exact zcs
  ·exact zcm _ (hsub b hb)
 ·rcases List.mem_cons.1 hb with rfl | hb
  ·exact n1 (List.mem_flatten.2 ⟨Ss[i], List.getElem_mem a2, hb2⟩)
  ·obtain ⟨S', hS', hb⟩ := List.mem_flatten.1 hb
   obtain ⟨i', hi', rfl⟩ := List.mem_iff_getElem.1 hS'
   rcases zc7 (zeg hi') with ⟨_, e⟩ | ⟨hne, hi2⟩
   ·rw [e] at hb; exact absurd hb znm
   ·exact zfN n2 hne hi2 (zeg a2) b hb hb2
end
section
variable {P : Program} {N : Nat} {Q : Exit -> Act -> World -> Prop} {fr fr' : List (Nat × Value)} {w w0 : World} {l : List Oper} {i : Nat} {o : Oper} {S0 : List Nat} {L : List Item} {α : Type} {R : Rp α} {r : Nat} {S : List Nat} {m : List (Int × α)} {ho : Option (Int × Value)}
end
section
variable {w w0 : World} {S0 : List Nat} {L : List Item} {α : Type} {R : Rp α}
end
end Go.Sx
namespace Go.Sx
open Go.RowKit
def zcb (b : Nat) (T : TypeId) (A cs C : List Value) : Item := jD b T (A ++ (cs ++ C))
section
variable {P : Program} {N : Nat} {Q : Exit -> Act -> World -> Prop} {fr fr' : List (Nat × Value)} {w w0 : World} {l : List Oper} {i : Nat} {o : Oper} {S0 : List Nat} {L : List Item}
theorem St.prt (h : St w0 S0 w L) (j : Nat) {b : Nat} {T : TypeId} {A cs C : List Value} (hj : L[j]? = some (zcb b T A cs C)) (k : Nat) {v : Value} (hv : cs[k]? = some v) : w.cell? ⟨b, A.length + k, none⟩ = some v := by
 refine h.blk j hj ?_
 rw [List.getElem?_append_right (by omega), show A.length + k - A.length = k by omega, List.getElem?_append_left (zes.1 hv).1]
 exact hv
theorem OW.stPA {α : Type} {t : TypeId} {x y : Operand} {ty : TypeId} {pos : String} {af : Array Edge} {gdd : Option (Nat × Bool)} (hst : St w0 S0 w L) (j : Nat) {b : Nat} {T : TypeId} {A cs C : List Value} (hj : L[j]? = some (zcb b T A cs C))
  (hl : vU l i = some ⟨none, .store t x y, ty, pos, af, gdd⟩) (hg : gd l fr ⟨none, .store t x y, ty, pos, af, gdd⟩ = some true)
  {k : Nat} {v : Value} (hx : look fr x = some (.pointer (some ⟨b, k, none⟩))) (hy : look fr y = some v)
  (hs : zbk P (sizeOf t) = some v.cells.toList.length) (h1 : zfi v.cells.toList = true)
  (enc : α -> List Value) {sz : Nat} (he : ∀ x, (enc x).length = sz) (n : Nat) (a : Nat -> α) (k0 : Nat) (hcs : cs = cs.take k0 ++ (zby enc n a ++ cs.drop (k0 + n * sz))) (hb : Nat.ble k0 cs.length = true) {q : Int} {u : Nat} (hi : ain n q = some u)
  (f : Nat) (hk : k = A.length + k0 + q.toNat * sz + f) (hf : Nat.ble (f + v.cells.toList.length) sz = true) (x' : α) (hx' : qI (enc (a u)) v.cells.toList f = enc x')
  (cs' : List Value) (hcs' : cs' = cs.take k0 ++ (zby enc n (jf a u x') ++ cs.drop (k0 + n * sz)))
  (h : ∀ w', St w0 S0 w' (L.set j (zcb b T A cs' C)) -> OW P l N Q (i + 1) fr w') : OW P l N Q i fr w := by
 obtain ⟨e1, e2⟩ := zfU enc he n a k0 hcs hb hi hf hx' hcs'
 subst hk
 refine OW.stB (k := A.length + (k0 + q.toNat * sz + f)) hst j hj hl hg (by rw [hx]; congr 4; omega) hy hs h1 (Nat.ble_eq_true_of_le (by rw [List.length_append, List.length_append]; omega)) (A ++ (cs' ++ C)) (by rw [zfT e2, e1]) h
theorem OW.clear {t e : TypeId} {ats : List Nat} {x : Operand} {ty : TypeId} {pos : String} {af : Array Edge} {gdd : Option (Nat × Bool)} (hst : St w0 S0 w L) (j : Nat) {b : Nat} {T : TypeId} {cs : List Value} (hj : L[j]? = some (jD b T cs))
  (hl : vU l i = some ⟨none, .call ⟨.builtin .clear, [x].toArray, ats.toArray⟩, ty, pos, af, gdd⟩) (hg : gd l fr ⟨none, .call ⟨.builtin .clear, [x].toArray, ats.toArray⟩, ty, pos, af, gdd⟩ = some true)
  {k n c : Nat} {z : Value} (hx : look fr x = some (.slice (some ⟨b, k, none⟩) (n + 1) c)) (ha0 : ats[0]? = some t) (ht : P.underlying t = some (.slice e)) (hz : zbk P (zeroValue e) = some z) (vs : List Value) (hvs : (Builtin.zeroCells z.cells (n + 1)).toList = vs) (h1 : zfi vs = true)
  (hle : k + vs.length <= cs.length) (cs' : List Value) (hcs : qI cs vs k = cs')
  (h : ∀ w', St w0 S0 w' (L.set j (jD b T cs')) -> OW P l N Q (i + 1) fr w') : OW P l N Q i fr w := by
 have hb := hst.all j _ hj
 have hst2 := run_storeCells_at (P := P) b k T vs 0 cs.toArray w hb (by simpa using hle) (zeK h1)
 refine OW.opn (v := .tuple #[]) hl hg rfl (w' := w.setRow b (qI cs.toArray.toList vs k).toArray) (fun a ha => ?_) (h _ ?_)
 ·have e1 := ha.look hx
  have hz' := xo hz w
  have h3 : (storeCells ⟨b, k, none⟩ vs).run P w = .ok () (w.setRow b (qI cs.toArray.toList vs k).toArray) := by simpa [qI] using hst2
  have ha1 : (ats.toArray)[0]? = some t := by simpa using ha0
  simp [execOp, resolve, invoke, builtin, e1, Builtin.clear_, ha1, run_underlying ht, hz', hvs, h3]
 ·subst hcs
  refine hst.upd j hj ⟨rfl, rfl, rfl, by simp [World.setRow], fun q _ hn => setRow_other w b q _ (by rintro rfl; exact hn (by simp [jD]))⟩ ?_ (fun q hq => .inl hq) (by simp [jD])
  show (w.setRow b _).heap[b]? = _
  rw [setRow_heap w b cs.toArray _ T (0, 0) hb]
theorem OW.clearP {t e : TypeId} {ats : List Nat} {x : Operand} {ty : TypeId} {pos : String} {af : Array Edge} {gdd : Option (Nat × Bool)} (hst : St w0 S0 w L) (j : Nat) {b : Nat} {T : TypeId} {A cs C : List Value} (hj : L[j]? = some (zcb b T A cs C))
  (hl : vU l i = some ⟨none, .call ⟨.builtin .clear, [x].toArray, ats.toArray⟩, ty, pos, af, gdd⟩) (hg : gd l fr ⟨none, .call ⟨.builtin .clear, [x].toArray, ats.toArray⟩, ty, pos, af, gdd⟩ = some true)
  (k : Nat) {n c : Nat} {z : Value} (hx : look fr x = some (.slice (some ⟨b, A.length + k, none⟩) (n + 1) c)) (ha0 : ats[0]? = some t) (ht : P.underlying t = some (.slice e)) (hz : zbk P (zeroValue e) = some z) (vs : List Value) (hvs : (Builtin.zeroCells z.cells (n + 1)).toList = vs) (h1 : zfi vs = true)
  (hle : Nat.ble (k + vs.length) cs.length = true) (cs' : List Value) (hcs : qI cs vs k = cs')
  (h : ∀ w', St w0 S0 w' (L.set j (zcb b T A cs' C)) -> OW P l N Q (i + 1) fr w') : OW P l N Q i fr w := by
 have hle' := Nat.le_of_ble_eq_true hle
 exact OW.clear hst j hj hl hg hx ha0 ht hz vs hvs h1 (by rw [List.length_append, List.length_append]; omega) (A ++ (cs' ++ C)) (by rw [zfT hle', hcs]) h
end
structure RdB (w : World) (S : List Nat) (b : Nat) (cs : List Value) : Prop where
 out : b ∉ S
 at' : ∀ k u, cs[k]? = some u -> w.cell? ⟨b, k, none⟩ = some u
section
variable {w w0 : World} {S0 : List Nat} {L : List Item} {b : Nat} {cs : List Value}
theorem RdB.cell (h : RdB w0 S0 b cs) (hst : St w0 S0 w L) (k : Nat) {u : Value} (hu : cs[k]? = some u) : w.cell? ⟨b, k, none⟩ = some u := by
 have hc := h.at' k u hu
 exact (World.cell?_of_block (hst.chg.block b (zew hc) h.out)).trans hc
theorem St.rdB (hst : St w0 S0 w L) (j : Nat) {T : TypeId} (hj : L[j]? = some (jD b T cs)) (ids : List Nat) (hm : mem? j ids = false) : RdB w (fp (sel L ids)) b cs :=
 ⟨fun hb => hst.noin j hj ids hm b (by simp [jD]) hb, fun k u hu => hst.blk j hj hu⟩
end
end Go.Sx

import Derived.Test.YtgmmfjpmahcocaaGreatDoorMem
import Derived.Laws.RangeString
import Derived.Laws.Externs
set_option linter.unusedVariables false
set_option linter.unusedSimpArgs false
namespace Go.Sx
open Go.RowKit
def zW {α : Type} (a : Nat -> α) (t : Nat) (v : α) : Nat -> α := fun i => if i = t then v else a i
def jU {α : Type} (enc : α -> List Value) : Nat -> (Nat -> α) -> List Value
 | 0, _ => []
 | n + 1, a => enc (a 0) ++ jU enc n (fun i => a (i + 1))
def ain (n : Nat) (t : Int) : Option Nat := if 0 <= t /\ t < n then some t.toNat else none
theorem zn {n : Nat} {t : Int} {i : Nat} (h : ain n t = some i) : 0 <= t /\ t < n /\ i < n /\ t.toNat = i := by
 unfold ain at h
 split at h
 ·rename_i hc
  cases h
  exact ⟨hc.1, hc.2, by omega, rfl⟩
 ·cases h
theorem ze3 {α : Type} (enc : α -> List Value) : ∀ (n : Nat) (a : Nat -> α), jU enc n a = zaX enc ((List.range n).map a) := by
 intro n
 induction n with
 | zero => intro a; rfl
 | succ n ih =>
  intro a
  rw [List.range_succ_eq_map, List.map_cons, List.map_map]
  show enc (a 0) ++ jU enc n (fun i => a (i + 1)) = enc (a 0) ++ zaX enc _
  rw [ih]
  rfl
theorem zja {α : Type} {enc : α -> List Value} {sz : Nat} (he : ∀ x, (enc x).length = sz) (n : Nat) (a : Nat -> α) : (jU enc n a).length = n * sz := by
 rw [ze3, xS he]; simp
theorem zm6 {α : Type} {enc : α -> List Value} {sz : Nat} (he : ∀ x, (enc x).length = sz) {n t f : Nat} (ht : t < n) (A C : List Value) (a : Nat -> α) {u : Value} (hu : (enc (a t))[f]? = some u) : (A ++ (jU enc n a ++ C))[A.length + (t * sz + f)]? = some u := by
 have h1 : (zaX enc ((List.range n).map a))[t * sz + f]? = some u := zeh he (x := a t) (by simp [ht]) hu
 rw [List.getElem?_append_right (by omega), show A.length + (t * sz + f) - A.length = t * sz + f by omega, ze3]
 rw [List.getElem?_append_left (zes.1 h1).1]
 exact h1
theorem zlf {α : Type} {n t : Nat} (a : Nat -> α) (v : α) : ((List.range n).map a).set t v = (List.range n).map (zW a t v) := by
 apply List.ext_getElem?
 intro i
 rw [List.getElem?_set]
 by_cases h : t = i
 ·subst h
  by_cases hn : t < n
  ·simp [hn, zW]
  ·simp [hn]
 ·rw [if_neg h]
  by_cases hn : i < n
  ·simp [hn, zW, Ne.symm h]
  ·simp [hn]
theorem zfE {A B C vs : List Value} {k : Nat} (h : k + vs.length <= B.length) : qt (A ++ (B ++ C)) vs (A.length + k) = A ++ (qt B vs k ++ C) := by
 unfold qt
 rw [List.take_append, List.take_of_length_le (by omega), show A.length + k - A.length = k by omega, List.take_append_of_le_length (by omega)]
 rw [List.drop_append, List.drop_of_length_le (l := A) (by omega), show A.length + k + vs.length - A.length = k + vs.length by omega, List.drop_append_of_le_length (by omega)]
 simp [List.append_assoc]
theorem zl8 {α : Type} {enc : α -> List Value} {sz : Nat} (he : ∀ x, (enc x).length = sz) {n t f : Nat} (ht : t < n) (A C : List Value) (a : Nat -> α) {vs : List Value} {x' : α} (hf : f + vs.length <= sz) (hs : qt (enc (a t)) vs f = enc x') :
  qt (A ++ (jU enc n a ++ C)) vs (A.length + (t * sz + f)) = A ++ (jU enc n (zW a t x') ++ C) := by
 have hl := zja he n a
 have hm : t * sz + sz <= n * sz := by rw [<- Nat.succ_mul]; exact Nat.mul_le_mul_right _ ht
 rw [zfE (by omega), ze3, ze3, zhz he (x := a t) (by simp [ht]) hf hs, zlf]
theorem zd5 {α : Type} {w : World} {b o : Nat} {cs : List Value} (cf : ∀ f u, cs[f]? = some u -> w.cell? ⟨b, o + f, none⟩ = some u) (enc : α -> List Value) {sz : Nat} (he : ∀ x, (enc x).length = sz) (n : Nat) (a : Nat -> α) (k0 : Nat)
  (hcs : cs = cs.take k0 ++ (jU enc n a ++ cs.drop (k0 + n * sz))) (hk : Nat.ble k0 cs.length = true) {q : Int} {t : Nat} (hi : ain n q = some t) :
  ∀ f u, (enc (a t))[f]? = some u -> w.cell? ⟨b, o + k0 + q.toNat * sz + f, none⟩ = some u := by
 intro f u hu
 obtain ⟨h0, h1, h2, rfl⟩ := zn hi
 have hl : (cs.take k0).length = k0 := by rw [List.length_take]; have := Nat.le_of_ble_eq_true hk; omega
 have := zm6 he h2 (cs.take k0) (cs.drop (k0 + n * sz)) a hu
 rw [<- hcs, hl] at this
 have := cf _ u this
 rw [show o + k0 + q.toNat * sz + f = o + (k0 + (q.toNat * sz + f)) by omega]
 exact this
section
variable {P : Program} {N : Nat} {Q : Exit -> Act -> World -> Prop} {fr fr' : List (Nat × Value)} {w w0 : World} {l : List Oper} {i : Nat} {o : Oper} {S0 : List Nat} {L : List Item}
theorem St.arrB {α : Type} (h : St w0 S0 w L) (j : Nat) {b : Nat} {T : TypeId} {cs : List Value} (hj : L[j]? = some (zs b T cs)) (enc : α -> List Value) {sz : Nat} (he : ∀ x, (enc x).length = sz) (n : Nat) (a : Nat -> α) (k0 : Nat)
  (hcs : cs = cs.take k0 ++ (jU enc n a ++ cs.drop (k0 + n * sz))) (hk : Nat.ble k0 cs.length = true) {q : Int} {t : Nat} (hi : ain n q = some t) :
  ∀ f u, (enc (a t))[f]? = some u -> w.cell? ⟨b, k0 + q.toNat * sz + f, none⟩ = some u := by
 intro f u hu
 have := zd5 (w := w) (b := b) (o := 0) (cs := cs) (fun f u hf => by rw [Nat.zero_add]; exact h.blk j hj hf) enc he n a k0 hcs hk hi f u hu
 rwa [Nat.zero_add] at this
theorem zfF {α : Type} {cs cs' vs : List Value} (enc : α -> List Value) {sz : Nat} (he : ∀ x, (enc x).length = sz) (n : Nat) (a : Nat -> α) (k0 : Nat)
  (hcs : cs = cs.take k0 ++ (jU enc n a ++ cs.drop (k0 + n * sz))) (hk : Nat.ble k0 cs.length = true) {q : Int} {t : Nat} (hi : ain n q = some t) {f : Nat} (hf : Nat.ble (f + vs.length) sz = true) {x' : α} (hs : qt (enc (a t)) vs f = enc x')
  (hcs' : cs' = cs.take k0 ++ (jU enc n (zW a t x') ++ cs.drop (k0 + n * sz))) : qt cs vs (k0 + q.toNat * sz + f) = cs' /\ k0 + q.toNat * sz + f + vs.length <= cs.length := by
 obtain ⟨h0, h1, h2, rfl⟩ := zn hi
 have hl : (cs.take k0).length = k0 := by rw [List.length_take]; have := Nat.le_of_ble_eq_true hk; omega
 have hf' := Nat.le_of_ble_eq_true hf
 have hm : q.toNat * sz + sz <= n * sz := by rw [<- Nat.succ_mul]; exact Nat.mul_le_mul_right _ h2
 have hll : cs.length = k0 + (n * sz + (cs.drop (k0 + n * sz)).length) := by
  conv => lhs; rw [hcs]
  rw [List.length_append, List.length_append, zja he, hl]
 constructor
 ·rw [hcs']
  have := zl8 he h2 (cs.take k0) (cs.drop (k0 + n * sz)) a hf' hs
  rw [<- hcs, hl, show k0 + (q.toNat * sz + f) = k0 + q.toNat * sz + f by omega] at this
  exact this
 ·omega
theorem OW.stA {α : Type} {t : TypeId} {x y : Operand} {ty : TypeId} {pos : String} {af : Array Edge} {gdd : Option (Nat × Bool)} (hst : St w0 S0 w L) (j : Nat) {b : Nat} {T : TypeId} {cs : List Value} (hj : L[j]? = some (zs b T cs))
  (hl : vy l i = some ⟨none, .store t x y, ty, pos, af, gdd⟩) (hg : gd l fr ⟨none, .store t x y, ty, pos, af, gdd⟩ = some true)
  {k : Nat} {v : Value} (hx : look fr x = some (.pointer (some ⟨b, k, none⟩))) (hy : look fr y = some v)
  (hs : zbz P (sizeOf t) = some v.cells.toList.length) (h1 : zhP v.cells.toList = true)
  (enc : α -> List Value) {sz : Nat} (he : ∀ x, (enc x).length = sz) (n : Nat) (a : Nat -> α) (k0 : Nat) (hcs : cs = cs.take k0 ++ (jU enc n a ++ cs.drop (k0 + n * sz))) (hb : Nat.ble k0 cs.length = true) {q : Int} {u : Nat} (hi : ain n q = some u)
  (f : Nat) (hk : k = k0 + q.toNat * sz + f) (hf : Nat.ble (f + v.cells.toList.length) sz = true) (x' : α) (hx' : qt (enc (a u)) v.cells.toList f = enc x')
  (cs' : List Value) (hcs' : cs' = cs.take k0 ++ (jU enc n (zW a u x') ++ cs.drop (k0 + n * sz)))
  (h : ∀ w', St w0 S0 w' (L.set j (zs b T cs')) -> OW P l N Q (i + 1) fr w') : OW P l N Q i fr w := by
 obtain ⟨e1, e2⟩ := zfF enc he n a k0 hcs hb hi hf hx' hcs'
 subst hk
 exact OW.stB hst j hj hl hg hx hy hs h1 (Nat.ble_eq_true_of_le e2) cs' e1 h
theorem OW.stRA {α β : Type} {t : TypeId} {x y : Operand} {ty : TypeId} {pos : String} {af : Array Edge} {gdd : Option (Nat × Bool)} (hst : St w0 S0 w L) (j : Nat) {hd : Value} {g o cap m : Nat} {T : TypeId} {ence : β -> List Value} {sze : Nat} {xs : List β}
  (hj : L[j]? = some (qH hd T ence sze xs)) (hv : hd = .slice (some ⟨g, o, none⟩) m cap) (hee : ∀ x, (ence x).length = sze)
  (hl : vy l i = some ⟨none, .store t x y, ty, pos, af, gdd⟩) (hg : gd l fr ⟨none, .store t x y, ty, pos, af, gdd⟩ = some true)
  {p : Int} {z : β} (hz : Sx.idx xs p = some z) {k : Nat} {v : Value} (hx : look fr x = some (.pointer (some ⟨g, k, none⟩))) (hy : look fr y = some v)
  (hs : zbz P (sizeOf t) = some v.cells.toList.length) (h1 : zhP v.cells.toList = true)
  (enc : α -> List Value) {sz : Nat} (he : ∀ x, (enc x).length = sz) (n : Nat) (a : Nat -> α) (k0 : Nat) (hcs : ence z = (ence z).take k0 ++ (jU enc n a ++ (ence z).drop (k0 + n * sz))) (hb : Nat.ble k0 (ence z).length = true) {q : Int} {u : Nat} (hi : ain n q = some u)
  (f : Nat) (hk : k = o + p.toNat * sze + k0 + q.toNat * sz + f) (hf : Nat.ble (f + v.cells.toList.length) sz = true) (x' : α) (hx' : qt (enc (a u)) v.cells.toList f = enc x')
  (z' : β) (hcs' : ence z' = (ence z).take k0 ++ (jU enc n (zW a u x') ++ (ence z).drop (k0 + n * sz)))
  (h : ∀ w', St w0 S0 w' (L.set j (qH hd T ence sze (xs.set p.toNat z'))) -> OW P l N Q (i + 1) fr w') : OW P l N Q i fr w := by
 obtain ⟨e1, e2⟩ := zfF enc he n a k0 hcs hb hi hf hx' hcs'
 rw [hee] at e2
 exact OW.stR hst j hj hv hee hl hg hz (k0 + q.toNat * sz + f) hx (by omega) hy hs h1 (Nat.ble_eq_true_of_le e2) z' e1 h
def jY {α : Type} (n : Nat) (a : Nat -> α) : List α := (List.range n).map a
theorem vU {α : Type} (n : Nat) (a : Nat -> α) : (jY n a).length = n := by simp [jY]
theorem St.arrRd {α : Type} (h : St w0 S0 w L) (j : Nat) {b : Nat} {T : TypeId} {cs : List Value} (hj : L[j]? = some (zs b T cs)) (enc : α -> List Value) {sz : Nat} (he : ∀ x, (enc x).length = sz) (n : Nat) (a : Nat -> α) (k0 : Nat)
  (hcs : cs = cs.take k0 ++ (jU enc n a ++ cs.drop (k0 + n * sz))) (hk : Nat.ble k0 cs.length = true) (hn : Nat.ble n 9223372036854775807 = true) (ids : List Nat) (hm : mem? j ids = false) :
  Rd w (fp (sel L ids)) (.slice (some ⟨b, k0, none⟩) n n) enc sz (jY n a) := by
 refine ⟨by rw [vU]; exact Nat.le_of_ble_eq_true hn, some ⟨b, k0, none⟩, n, by rw [vU], by rw [vU]; exact Nat.le_refl _, fun t x f u hx hu => ?_⟩
 refine ⟨b, k0, rfl, fun hb => ?_, ?_⟩
 ·exact h.noin j hj ids hm b (by simp [zs]) hb
 ·unfold jY at hx
  rw [List.getElem?_map] at hx
  obtain ⟨y, hy, rfl⟩ := Option.map_eq_some_iff.1 hx
  obtain ⟨hlt, rfl⟩ : t < n /\ y = t := by
   have h1 := zes.1 hy
   obtain ⟨h2, h3⟩ := h1
   simp at h2 h3
   exact ⟨h2, h3.symm⟩
  have := h.arrB j hj enc he n a k0 hcs hk (q := (y : Int)) (t := y) (by simp [ain, hlt]) f u hu
  simpa using this
theorem zl9 {o : Oper} {t e : TypeId} {x : Operand} {b k0 n : Nat} (sz : Nat) (ho : o.op = .slice t x none none none) (hx : look fr x = some (.pointer (some ⟨b, k0, none⟩)))
  (ht : P.underlying t = some (.array n e)) (hs : zbz P (sizeOf e) = some sz) : ∀ a w, Rep N fr a -> (execOp a.eval o).run P w = .ok (.value (.slice (some ⟨b, k0, none⟩) n n)) w := by
 intro a w ha
 have e1 := ha.look hx
 simp [execOp, ho, Instr.sliceAt, Instr.sliceBounds, Instr.sureAddr, run_underlying ht, e1, jE hs, Addr.add]
theorem zma {α : Type} {o : Oper} {t e : TypeId} {x y z : Operand} {b k0 n : Nat} (sz : Nat) {p q : Int} {kd ke : IntKind} {xs ys : List α} (ho : o.op = .slice t x (some y) (some z) none) (hx : look fr x = some (.pointer (some ⟨b, k0, none⟩)))
  (hy : look fr y = some (.int kd p)) (hz : look fr z = some (.int ke q)) (hn : xs.length = n) (hc : cut xs p q = some ys)
  (ht : P.underlying t = some (.array n e)) (hs : zbz P (sizeOf e) = some sz) : ∀ a w, Rep N fr a -> (execOp a.eval o).run P w = .ok (.value (.slice (shd (some ⟨b, k0, none⟩) n p.toNat sz) ys.length (n - p.toNat))) w := by
 intro a w ha
 have e1 := ha.look hx
 have e2 := ha.look hy
 have e4 := ha.look hz
 obtain ⟨h0, h1, h2, _⟩ := zbT hc
 have hl := zgM hc
 rw [hn] at h2
 have h3 : 0 <= q /\ q <= (n : Int) := ⟨by omega, h2⟩
 have h5 : 0 <= p /\ p <= q := ⟨h0, h1⟩
 have h6 : (q.toNat : Int) = q := by omega
 have e3 : q.toNat - p.toNat = ys.length := by omega
 have e5 : (some (if n = p.toNat then (⟨b, k0, none⟩ : Addr) else Addr.add ⟨b, k0, none⟩ (p.toNat * sz))) = shd (some ⟨b, k0, none⟩) n p.toNat sz := by
  unfold shd
  split <;> rfl
 simp [execOp, ho, Instr.sliceAt, Instr.sliceBounds, Instr.sliceBound, Instr.sureAddr, run_underlying ht, e1, e2, e4, asIntOf, h3, h5, h6, jE hs, e3, e5]
def zjw (x y c : Int) : Option (Int × Int) := if 0 <= x /\ 0 <= y /\ 0 <= c /\ c <= 1 then some ((x + y + c) % 18446744073709551616, (x + y + c) / 18446744073709551616) else none
theorem zj3 {o : Oper} {x y z : Operand} {ats : List Nat} {f : FuncId} {fn : Func} {p q c u v : Int} (ho : o.op = .call ⟨.value (.func f), [x, y, z].toArray, ats.toArray⟩) (hx : look fr x = some (.int .u64 p)) (hy : look fr y = some (.int .u64 q)) (hz : look fr z = some (.int .u64 c))
  (hf : P.funcs[f]? = some fn) (h1 : (fn.name == "runtime.NumGoroutine") = false) (h2 : fn.body.isNone = true) (h3 : Extern.findNext fn = none) (h4 : Extern.find fn = some add64Entry) (h : zjw p q c = some (u, v)) :
  ∀ a w, Rep N fr a -> (execOp a.eval o).run P w = .ok (.value (.tuple [.int .u64 u, .int .u64 v].toArray)) w := by
 intro a w ha
 have e1 := ha.look hx
 have e2 := ha.look hy
 have e3 := ha.look hz
 unfold zjw at h
 split at h
 ·rename_i hc
  cases h
  have := run_add64 (P := P) p q c hc.1 hc.2.1 hc.2.2.1 hc.2.2.2 w
  have h5 := run_callFunc_extern (P := P) hf h1 h2 h3 h4 #[.int .u64 p, .int .u64 q, .int .u64 c] w
  rw [this] at h5
  have e4 : a.eval (.func f) = .func (.func f) #[] #[] := rfl
  simp [execOp, ho, resolve, Deferred.ofValue, invoke, e1, e2, e3, e4, h5, Result.andThen]
 ·cases h
def zmb (it : Nat) (s : ByteArray) (p : Nat) : Item where
 S := [it]
 Φ w := w.heap[it]? = some (.stringIter s p)
 loc w w' hb h := by rw [hb it (by simp)]; exact h
 lt w h b hb := by
  rw [List.mem_singleton.1 hb]
  exact (Array.getElem?_eq_some_iff.1 h).1
def zfV (s : ByteArray) (p : Nat) : Int := ((Utf8.decode s p).1 : Int)
def zc0 (s : ByteArray) (p : Nat) : Nat := p + (Utf8.decode s p).2
theorem OW.srange {d : Nat} {t : TypeId} {x : Operand} {ty : TypeId} {pos : String} {af : Array Edge} {gdd : Option (Nat × Bool)} {s : ByteArray} (hst : St w0 S0 w L)
  (hl : vy l i = some ⟨some d, .range t x, ty, pos, af, gdd⟩) (hg : gd l fr ⟨some d, .range t x, ty, pos, af, gdd⟩ = some true) (hN : Nat.blt d N = true) (hx : look fr x = some (.string s)) (ht : P.underlying t = some .string)
  (h : ∀ it w', St w0 S0 w' (L ++ [zmb it s 0]) -> OW P l N Q (i + 1) ((d, .pointer (some ⟨it, 0, none⟩)) :: fr) w') : OW P l N Q i fr w := by
 refine OW.op hl hg rfl hN (w' := w.iter s 0) (fun a ha => ?_) (h w.heap.size _ ?_)
 ·have := run_range_string (P := P) w t s ht
  simp [execOp, ha.look hx, this]
 ·refine hst.push (Chg.alloc _ _) (World.iter_heap w s 0) (fun b hb => ?_) (by simp [zmb])
  rw [List.mem_singleton.1 hb]
  exact Nat.le_refl _
theorem OW.snext {d : Nat} {x : Operand} {ty : TypeId} {pos : String} {af : Array Edge} {gdd : Option (Nat × Bool)} {s : ByteArray} {it p : Nat} (hst : St w0 S0 w L) (j : Nat) (hj : L[j]? = some (zmb it s p))
  (hl : vy l i = some ⟨some d, .next x true, ty, pos, af, gdd⟩) (hg : gd l fr ⟨some d, .next x true, ty, pos, af, gdd⟩ = some true) (hN : Nat.blt d N = true) (hx : look fr x = some (.pointer (some ⟨it, 0, none⟩)))
  (h1 : decide (p < s.size) = true -> ∀ w', St w0 S0 w' (L.set j (zmb it s (zc0 s p))) -> OW P l N Q (i + 1) ((d, .tuple [.bool true, .int .i64 (p : Int), .int .i32 (zfV s p)].toArray) :: fr) w')
  (h0 : decide (p < s.size) = false -> OW P l N Q (i + 1) ((d, .tuple [.bool false].toArray) :: fr) w) : OW P l N Q i fr w := by
 have hi : w.heap[it]? = some (.stringIter s p) := hst.all j _ hj
 by_cases hp : p < s.size
 ·refine OW.op hl hg rfl hN (w' := { w with heap := w.heap.setIfInBounds it (.stringIter s (zc0 s p)) }) (fun a ha => ?_) (h1 (by simp [hp]) _ ?_)
  ·simp [execOp, ha.look hx, Instr.next, getObj, setObj, Sem.run, hi, hp, Result.andThen, goInt, zfV, zc0]
  ·refine hst.upd j hj ⟨rfl, rfl, rfl, by simp, fun q _ hn => ?_⟩ ?_ (fun q hq => .inl hq) (by simp [zmb])
   ·simp only [Array.getElem?_setIfInBounds]
    rw [if_neg (fun e => hn (by simp [zmb, e]))]
   ·show (w.heap.setIfInBounds it _)[it]? = _
    simp [(Array.getElem?_eq_some_iff.1 hi).1]
 ·refine OW.op hl hg rfl hN (w' := w) (fun a ha => ?_) (h0 (by simp [hp]))
  simp [execOp, ha.look hx, Instr.next, getObj, Sem.run, hi, hp, Result.andThen]
end
structure Bor (wb : World) (Sb : List Nat) (w : World) (S : List Nat) : Prop where
 size : wb.heap.size <= w.heap.size
 same : ∀ b, b < wb.heap.size -> b ∉ Sb -> w.heap[b]? = wb.heap[b]?
 sub : ∀ b ∈ S, b ∈ Sb \/ wb.heap.size <= b
theorem Bor.refl (w : World) (S : List Nat) : Bor w S w S := ⟨Nat.le_refl _, fun _ _ _ => rfl, fun _ h => .inl h⟩
theorem Bor.on {wb w w0 : World} {Sb S0 : List Nat} {L : List Item} (h : Bor wb Sb w0 S0) (hst : St w0 S0 w L) (ids : List Nat) : Bor wb Sb w (fp (sel L ids)) := by
 have hc := hst.chg
 refine ⟨Nat.le_trans h.size hc.size, fun b hb hn => ?_, fun b hb => ?_⟩
 ·rw [hc.block b (Nat.lt_of_lt_of_le hb h.size) (fun hS => ?_), h.same b hb hn]
  rcases h.sub b hS with h1 | h1
  ·exact hn h1
  ·omega
 ·obtain ⟨j, it, hj, hbs⟩ := zaV.1 hb
  obtain ⟨k, _, hk⟩ := zdj hj
  rcases zaj hk with hk | rfl
  ·rcases hst.own k it hk b hbs with h1 | h1
   ·exact h.sub b h1
   ·exact .inr (Nat.le_trans h.size h1)
  ·cases hbs
theorem Rd.bor {α : Type} {wb w : World} {Sb S : List Nat} {v : Value} {enc : α -> List Value} {sz : Nat} {xs : List α} (h : Rd wb Sb v enc sz xs) (hb : Bor wb Sb w S) : Rd w S v enc sz xs := h.far hb.same hb.sub
def zm3 {α : Type} (wb : World) (Sb : List Nat) (enc : α -> List Value) (sz : Nat) : Rp (List α) where
 sz := 1
 own _ cs S xs := ∃ v, cs = [v] /\ S = [] /\ Rd wb Sb v enc sz xs
 rd _ _ xs cs := ∃ v, cs = [v] /\ Rd wb Sb v enc sz xs
 len := by rintro w cs S x ⟨v, rfl, _⟩; rfl
 loc := by rintro w w' cs S x _ h; exact h
 lt := by rintro w cs S x ⟨v, rfl, rfl, _⟩; simp
 nd := by rintro w cs S x ⟨v, rfl, rfl, _⟩; exact List.nodup_nil
 see := by rintro w cs S x F ⟨v, rfl, rfl, h⟩ _; exact ⟨v, rfl, h⟩
 rlen := by rintro w F x cs ⟨v, rfl, _⟩; rfl
 rloc := by rintro w w' F F' x cs _ _ h; exact h
theorem St.borOut {α : Type} {w0 w wb : World} {S0 Sb S : List Nat} {L : List Item} {enc : α -> List Value} {sz : Nat} {v : Value} {xs : List α} (h : St w0 S0 w L) (j : Nat) (hj : L[j]? = some (itI (zm3 wb Sb enc sz) [v] S xs)) : Rd wb Sb v enc sz xs := by
 obtain ⟨u, hu, _, hr⟩ := h.all j _ hj
 cases hu
 exact hr
theorem St.borIn {α : Type} {w0 w wb : World} {S0 Sb : List Nat} {L : List Item} {enc : α -> List Value} {sz : Nat} {v : Value} {xs : List α} (h : St w0 S0 w L) (hr : Rd wb Sb v enc sz xs) : St w0 S0 w (L ++ [itI (zm3 wb Sb enc sz) [v] [] xs]) :=
 h.push ⟨rfl, rfl, rfl, Nat.le_refl _, fun _ _ _ => rfl⟩ ⟨v, rfl, rfl, hr⟩ (by simp [itI]) (by simp [itI])
end Go.Sx

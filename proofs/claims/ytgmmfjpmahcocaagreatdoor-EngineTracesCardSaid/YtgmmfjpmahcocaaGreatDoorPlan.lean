import Derived.Test.YtgmmfjpmahcocaaGreatDoorLib
import Derived.Orders
set_option linter.unusedVariables false
set_option linter.unusedSimpArgs false
namespace Go.Sx
open Go.RowKit
def zlR : List Operand -> List Nat
 | [] => []
 | .tmp t :: r => t :: zlR r
 | _ :: r => zlR r
def lk (l : List Oper) (o : Oper) : List Nat := zlR o.op.operands.toList ++ (match o.guard with
 | none => []
 | some (j, _) => match (vy l j).bind (·.dst) with
  | some d => [d]
  | none => [])
theorem zk8 {t : Nat} {xs : List Operand} (h : Operand.tmp t ∈ xs) : t ∈ zlR xs := by
 induction xs with
 | nil => exact absurd h znm
 | cons x r ih =>
  rcases List.mem_cons.1 h with h2 | h2
  ·subst h2; exact zcs
  ·cases x with
   | tmp u => exact zcm _ (ih h2)
   | const v => exact ih h2
   | global g => exact ih h2
   | func f => exact ih h2
theorem zk9 {a b : Act} {x : Operand} (h : ∀ t, x = .tmp t -> a.tmps[t]? = b.tmps[t]?) : a.eval x = b.eval x := by
 cases x with
 | tmp t => simp [Act.eval, Array.getD_eq_getD_getElem?, h t rfl]
 | _ => rfl
theorem zca {l : List Oper} {o : Oper} {a b : Act} (hs : zai o.op = true) (h : ∀ s ∈ lk l o, a.tmps[s]? = b.tmps[s]?) : execOp a.eval o = execOp b.eval o :=
 zdR hs (fun x hx => zk9 (fun t e => h t (zal _ (zk8 (by rw [<- e]; exact hx)))))
theorem zaM {l : List Oper} {o : Oper} {a b : Act} (h : ∀ s ∈ lk l o, a.tmps[s]? = b.tmps[s]?) : Region.wanted o (yielded l.toArray a.tmps) = Region.wanted o (yielded l.toArray b.tmps) := by
 unfold Region.wanted
 cases hg : o.guard with
 | none => rfl
 | some g =>
  obtain ⟨j, c⟩ := g
  have hy : yielded l.toArray a.tmps j = yielded l.toArray b.tmps j := by
   unfold yielded
   rw [zbA]
   cases hd : (vy l j).bind (·.dst) with
   | none => rfl
   | some d =>
    have := h d (by
     unfold lk
     rw [hg]
     simp only [hd]
     exact zar _ (List.mem_singleton.2 rfl))
    simp only [zbs, this]
  simp only [hy]
abbrev zdm := List (Nat × (World -> Prop))
def holds : zdm -> World -> Prop
 | [], _ => True
 | p :: r, w => p.2 w /\ holds r w
def zeo (keep : List Nat) : zdm -> zdm
 | [] => []
 | p :: r => match mem? p.1 keep with
  | true => p :: zeo keep r
  | false => zeo keep r
theorem zig {F : zdm} {w : World} (h : holds F w) : ∀ p ∈ F, p.2 w := by
 induction F with
 | nil => intro p hp; exact absurd hp znm
 | cons q r ih =>
  intro p hp
  rcases List.mem_cons.1 hp with rfl | hp
  ·exact h.1
  ·exact ih h.2 p hp
theorem zih {keep : List Nat} {F : zdm} {p : Nat × (World -> Prop)} (hp : p ∈ F) (hk : p.1 ∈ keep) : p ∈ zeo keep F := by
 induction F with
 | nil => exact absurd hp znm
 | cons q r ih =>
  unfold zeo
  rcases List.mem_cons.1 hp with rfl | hp
  ·rw [mem?_iff.2 hk]; exact zcs
  ·split
   ·exact zcm _ (ih hp)
   ·exact ih hp
def aft (l : List Oper) (i : Nat) : List Nat := match vy l i with
 | none => []
 | some o => (o.after.toList.filter (fun e => Region.binds .any e)).map (·.on)
theorem zla {l : List Oper} {i j : Nat} {o : Oper} (h : vy l i = some o) : j ∈ aft l i ↔ ∃ e ∈ o.after, Region.binds .any e = true /\ e.on = j := by
 unfold aft
 rw [h]
 simp only [List.mem_map, List.mem_filter, Array.mem_toList_iff]
 constructor
 ·rintro ⟨e, ⟨h1, h2⟩, h3⟩; exact ⟨e, h1, h2, h3⟩
 ·rintro ⟨e, h1, h2, h3⟩; exact ⟨e, ⟨h1, h2⟩, h3⟩
def zlb (l : List Oper) : Nat -> List Nat -> List Nat -> List Nat
 | 0, _, zfo => zfo
 | _ + 1, [], zfo => zfo
 | n + 1, j :: r, zfo => match mem? j zfo with
  | true => zlb l n r zfo
  | false => zlb l n (aft l j ++ r) (j :: zfo)
def zl7 (l : List Oper) (i : Nat) : List Nat := zlb l ((l.length + 1) * (l.length + 1)) (aft l i) []
theorem zfv {l : List Oper} {p : Nat -> Prop} (down : ∀ j, p j -> ∀ k ∈ aft l j, p k) : ∀ (n : Nat) (todo zfo : List Nat), (∀ x ∈ todo, p x) -> (∀ x ∈ zfo, p x) -> ∀ x ∈ zlb l n todo zfo, p x
 | 0, _, _, _, h => h
 | _ + 1, [], _, _, h => h
 | n + 1, j :: r, zfo, ht, h => by
  unfold zlb
  split
  ·exact zfv down n r zfo (fun x hx => ht x (zcm _ hx)) h
  ·refine zfv down n (aft l j ++ r) (j :: zfo) (fun x hx => ?_) (fun x hx => ?_)
   ·rcases List.mem_append.1 hx with hx | hx
    ·exact down j (ht j zcs) x hx
    ·exact ht x (zcm _ hx)
   ·rcases List.mem_cons.1 hx with rfl | hx
    ·exact ht _ zcs
    ·exact h x hx
def zom (P : Program) (l : List Oper) (F : zdm) (b : Act) (j : Nat) : Prop :=
  ∃ (o : Oper) (v : Value), vy l j = some o /\ zai o.op = true /\ (∀ d, o.dst = some d -> b.tmps[d]? = some v) /\
    ((Region.wanted o (yielded l.toArray b.tmps) = true /\ ((∀ w, (execOp b.eval o).run P w = .ok (.value v) w) \/ ∃ Φ, (j, Φ) ∈ F /\ ∀ w, Φ w -> (execOp b.eval o).run P w = .ok (.value v) w)) \/
     (Region.wanted o (yielded l.toArray b.tmps) = false /\ v = undef))
def za9 (l : List Oper) (j : Nat) : Option Nat := (vy l j).bind (·.dst)
def zf6 (l : List Oper) (j : Nat) : List Nat := match vy l j with
 | none => []
 | some o => lk l o
structure Rel (P : Program) (l : List Oper) (done eff : List Nat) (F : zdm) (w : World) (listed : Array Bool) (a b : Act) : Prop where
 size : listed.size = l.length
 asz : a.tmps.size = b.tmps.size
 adf : a.defers = b.defers
 sub : ∀ j, listed.getD j false = true -> j ∈ done
 down : ∀ j, listed.getD j false = true -> ∀ k ∈ aft l j, listed.getD k false = true
 eff : ∀ j ∈ eff, listed.getD j false = true
 same : ∀ s, (∀ j ∈ done, listed.getD j false = false -> za9 l j ≠ some s) -> a.tmps[s]? = b.tmps[s]?
 facts : ∀ p ∈ F, listed.getD p.1 false = false -> p.2 w
 pend : ∀ j ∈ done, listed.getD j false = false -> zom P l F b j
 ord : ∀ i ∈ done, listed.getD i false = false -> ∀ j ∈ done, listed.getD j false = false -> ∀ s, za9 l j = some s -> s ∈ zf6 l i -> j ∈ aft l i
def cnt (l : List Oper) (listed : Array Bool) : Nat := ((List.range l.length).filter (fun j => !listed.getD j false)).length
theorem zlc {p q : Nat -> Bool} (h : ∀ j, q j = true -> p j = true) {t : Nat} (hp : p t = true) (hq : q t = false) : ∀ n, t < n -> ((List.range n).filter q).length < ((List.range n).filter p).length := by
 have le : ∀ n, ((List.range n).filter q).length <= ((List.range n).filter p).length := by
  intro n
  induction n with
  | zero => exact Nat.le_refl _
  | succ n ih =>
   rw [List.range_succ, List.filter_append, List.filter_append, List.length_append, List.length_append]
   have : (List.filter q [n]).length <= (List.filter p [n]).length := by
    cases h1 : q n with
    | true => simp [h1, h n h1]
    | false => simp [h1]
   omega
 intro n
 induction n with
 | zero => intro ht; omega
 | succ n ih =>
  intro ht
  rw [List.range_succ, List.filter_append, List.filter_append, List.length_append, List.length_append]
  by_cases e : t = n
  ·subst e
   have := le t
   simp [hp, hq]
   omega
  ·have := ih (by omega)
   have : (List.filter q [n]).length <= (List.filter p [n]).length := by
    cases h1 : q n with
    | true => simp [h1, h n h1]
    | false => simp [h1]
   omega
theorem zhF {l : List Oper} {listed : Array Bool} {j : Nat} (hs : listed.size = l.length) (hj : j < l.length) (h : listed.getD j false = false) : cnt l (listed.setIfInBounds j true) < cnt l listed := by
 unfold cnt
 refine zlc (fun k hk => ?_) (t := j) (by rw [h]; rfl) ?_ l.length hj
 ·cases hl : listed.getD k false with
  | false => rfl
  | true => rw [getD_set_true hl] at hk; exact hk
 ·simp [hs, hj]
def znX (l : List Oper) : Bool := (List.range l.length).all fun i => (aft l i).all fun j => Nat.blt j i
theorem zmZ {l : List Oper} {i : Nat} (h : i < l.length) : ∃ o, vy l i = some o := by
 have : l.toArray[i]? = some l[i] := by simp [h]
 rw [zbA] at this
 exact ⟨_, this⟩
theorem zi6 {l : List Oper} {i : Nat} {o : Oper} (h : vy l i = some o) : i < l.length := (zes.1 (zgd h)).1
theorem zii {listed : Array Bool} {j : Nat} (h : j < listed.size) : listed.getD j true = listed.getD j false := by
 simp [h]
theorem zcT {l : List Oper} {listed : Array Bool} (hs : listed.size = l.length) {j : Nat} : j ∈ Region.ready .any l.toArray listed ↔ j < l.length /\ listed.getD j false = false /\ ∀ k ∈ aft l j, listed.getD k false = true := by
 rw [mem_ready]
 constructor
 ·rintro ⟨h0, o, ho, h⟩
  rw [zbA] at ho
  have hj := zi6 ho
  refine ⟨hj, by rw [<- zii (by omega)]; exact h0, fun k hk => ?_⟩
  obtain ⟨e, he, hb, rfl⟩ := (zla ho).1 hk
  exact h e he hb
 ·rintro ⟨hj, h0, h⟩
  obtain ⟨o, ho⟩ := zmZ hj
  refine ⟨by rw [zii (by omega)]; exact h0, o, by rw [zbA]; exact ho, fun e he hb => h _ ((zla ho).2 ⟨e, he, hb, rfl⟩)⟩
theorem zhG {l : List Oper} {listed : Array Bool} (ht : znX l = true) (hs : listed.size = l.length) (hr : Region.ready .any l.toArray listed = []) : ∀ j, j < l.length -> listed.getD j false = true := by
 intro j
 induction j using Nat.strongRecOn with
 | _ j ih =>
  intro hj
  cases h : listed.getD j false with
  | true => rfl
  | false =>
   have : j ∈ Region.ready .any l.toArray listed := (zcT hs).2 ⟨hj, h, fun k hk => by
    have h1 := List.all_eq_true.1 (List.all_eq_true.1 ht j (by simpa using hj)) k hk
    have hkj : k < j := by simpa [Nat.blt_eq] using h1
    exact ih k hkj (by omega)⟩
   rw [hr] at this
   exact absurd this znm
section
variable {P : Program} {l : List Oper} {N : Nat} {Q : Exit -> Act -> World -> Prop} {done eff : List Nat} {F : zdm} {w : World} {fr : List (Nat × Value)} {a b : Act} {listed : Array Bool}
theorem Rel.get_put {d : Option Nat} {v : Value} {a : Act} {s : Nat} (h : d ≠ some s) : (a.put d v).tmps[s]? = a.tmps[s]? := by
 cases d with
 | none => rfl
 | some d =>
  have : d ≠ s := fun e => h (by rw [e])
  simp only [Act.put]
  rw [Array.getElem?_setIfInBounds_ne this]
theorem zbC {d : Option Nat} {v : Value} {a : Act} : (a.put d v).tmps.size = a.tmps.size := by
 cases d <;> simp [Act.put]
theorem qd {d : Option Nat} {v : Value} {a : Act} : (a.put d v).defers = a.defers := by
 cases d <;> simp [Act.put]
theorem zhb {d : Nat} {v : Value} {a : Act} (h : d < a.tmps.size) : (a.put (some d) v).tmps[d]? = some v := by
 simp [Act.put, h]
theorem vw {listed : Array Bool} {i j : Nat} (h : (listed.setIfInBounds i true).getD j false = false) : listed.getD j false = false := by
 cases hl : listed.getD j false with
 | false => rfl
 | true => rw [getD_set_true hl] at h; exact h
theorem vS {listed : Array Bool} {i : Nat} (h : i < listed.size) : (listed.setIfInBounds i true).getD i false = true := by
 simp [h]
theorem zfR (ht : znX l = true) (hsel : l.all (fun o => zai o.op) = true)
  (cbn : ∀ listed a, Rel P l done eff F w listed a b -> Region.ready .any l.toArray listed = [] -> Q .normal a w)
  (cb : ∀ fuel listed a, Rel P l done eff F w listed a b -> cnt l listed <= fuel + 1 -> ∀ j ∈ Region.ready .any l.toArray listed, j ∉ done -> wpOp P l.toArray Q j (wpAny P .any l.toArray Q fuel (listed.setIfInBounds j true)) a w) :
  ∀ fuel listed a, Rel P l done eff F w listed a b -> cnt l listed <= fuel -> wpAny P .any l.toArray Q fuel listed a w := by
 intro fuel
 induction fuel with
 | zero =>
  intro listed a hR hc
  have hr : Region.ready .any l.toArray listed = [] := by
   rw [List.eq_nil_iff_forall_not_mem]
   intro j hj
   obtain ⟨h1, h2, _⟩ := (zcT hR.size).1 hj
   have := zhF hR.size h1 h2
   omega
  exact ⟨hr, cbn _ _ hR hr⟩
 | succ fuel ih =>
  intro listed a hR hc
  refine ⟨fun hr => cbn _ _ hR hr, fun j hj => ?_⟩
  by_cases hd : j ∈ done
  ·obtain ⟨h1, h2, h3⟩ := (zcT hR.size).1 hj
   obtain ⟨o, v, ho, hs, hdst, hrun⟩ := hR.pend j hd h2
   have hagree : ∀ s ∈ lk l o, a.tmps[s]? = b.tmps[s]? := fun s hs' => hR.same s (fun k hk hkl e => by
    have := hR.ord j hd h2 k hk hkl s e (by unfold zf6; rw [ho]; exact hs')
    rw [h3 k this] at hkl
    cases hkl)
   have next : wpAny P .any l.toArray Q fuel (listed.setIfInBounds j true) (a.put o.dst v) w := by
    refine ih _ _ ⟨by simpa using hR.size, by rw [zbC, hR.asz], by rw [qd, hR.adf], fun k hk => ?_, fun k hk q hq => ?_, fun k hk => getD_set_true (hR.eff k hk), fun s hs' => ?_, fun p hp hl => hR.facts p hp (vw hl), fun k hk hl => hR.pend k hk (vw hl),
     fun i hi hil k hk hkl => hR.ord i hi (vw hil) k hk (vw hkl)⟩ ?_
    ·by_cases e : j = k
     ·subst e; exact hd
     ·rw [getD_set_ne false e] at hk; exact hR.sub k hk
    ·by_cases e : j = k
     ·subst e; exact getD_set_true (h3 q hq)
     ·rw [getD_set_ne false e] at hk; exact getD_set_true (hR.down k hk q hq)
    ·by_cases e : o.dst = some s
     ·have hb := hdst s e
      have hlt : s < a.tmps.size := by rw [hR.asz]; exact (Array.getElem?_eq_some_iff.1 hb).1
      rw [e, zhb hlt, hb]
     ·rw [Rel.get_put e]
      refine hR.same s (fun k hk hkl hke => ?_)
      by_cases ejk : j = k
      ·subst ejk
       unfold za9 at hke
       rw [ho] at hke
       exact e hke
      ·exact hs' k hk (by rw [getD_set_ne false ejk]; exact hkl) hke
    ·have := zhF hR.size h1 h2
     omega
   unfold wpOp
   rw [zbA, ho]
   simp only []
   rw [zaM hagree]
   rcases hrun with ⟨hw, hrun⟩ | ⟨hw, rfl⟩
   ·rw [if_pos hw]
    left
    unfold Oper.wp
    rw [zca hs hagree]
    have : (execOp b.eval o).run P w = .ok (.value v) w := by
     rcases hrun with hrun | ⟨Φ, hF, hrun⟩
     ·exact hrun w
     ·exact hrun w (hR.facts _ hF h2)
    rw [this, Oper.upon_value]
    exact next
   ·rw [if_neg (by rw [hw]; exact Bool.false_ne_true)]
    exact next
  ·exact cb fuel listed a hR hc j hj hd
def zn4 (P : Program) (l : List Oper) (Q : Exit -> Act -> World -> Prop) (done eff : List Nat) (F : zdm) (b : Act) (w : World) : Prop :=
 ∀ fuel listed a, Rel P l done eff F w listed a b -> cnt l listed <= fuel -> wpAny P .any l.toArray Q fuel listed a w
def OA (P : Program) (l : List Oper) (N : Nat) (Q : Exit -> Act -> World -> Prop) (done eff : List Nat) (F : zdm) (fr : List (Nat × Value)) (w : World) : Prop :=
 ∀ b, Rep N fr b -> zn4 P l Q done eff F b w
def zij (l : List Oper) : Bool := znX l && l.all (fun o => zai o.op)
theorem CW.plan {id : Nat} (hm : P.follows .mixedOrders = true) (h : ∀ w1, Chg [] w w1 -> OA P l N Q [] [] [] fr w1) : CW P N (.region id l.toArray true) Q fr w := fun a ha => by
 refine wp_region_any hm ?_
 refine h { w with drawn := w.drawn + 1 } ⟨rfl, rfl, rfl, Nat.le_refl _, fun _ _ _ => rfl⟩ a ha _ _ _ ⟨by simp, rfl, rfl, fun j hj => ?_, fun j hj => ?_, fun j hj => absurd hj znm, fun s _ => rfl, fun p hp => absurd hp znm, fun j hj => absurd hj znm, fun j hj => absurd hj znm⟩ ?_
 ·exfalso
  by_cases hlt : j < l.length
  ·simp [hlt] at hj
  ·simp [hlt] at hj
 ·exfalso
  by_cases hlt : j < l.length
  ·simp [hlt] at hj
  ·simp [hlt] at hj
 ·unfold cnt
  refine Nat.le_trans (List.length_filter_le _ _) ?_
  simp
def zlS (l : List Oper) (done eff : List Nat) (i : Nat) : Bool :=
 !mem? i done && (match za9 l i with
  | none => true
  | some d => !mem? d (zf6 l i) && done.all (fun j => mem? j eff || (!mem? d (zf6 l j) && !(za9 l j == some d)))) &&
 done.all (fun j => mem? j eff || mem? j (aft l i) || match za9 l j with
  | none => true
  | some s => !mem? s (zf6 l i))
theorem not_mem? {n : Nat} {l : List Nat} (h : (!mem? n l) = true) : n ∉ l := fun hm => by rw [mem?_iff.2 hm] at h; cases h
theorem OA.add {i : Nat} {o : Oper} {v : Value} (fr2 : List (Nat × Value)) (F2 : zdm) (hl : vy l i = some o) (hck : zlS l done eff i = true) (hs : zai o.op = true)
  (hfr : ∀ b, Rep N fr b -> Rep N fr2 (b.put o.dst v))
  (hF : ∀ p ∈ F, p ∈ F2) (hF2 : ∀ p ∈ F2, p ∈ F \/ p.2 w)
  (hv : ∀ b, Rep N fr b -> (Region.wanted o (yielded l.toArray b.tmps) = true /\ ((∀ w, (execOp b.eval o).run P w = .ok (.value v) w) \/ ∃ Φ, (i, Φ) ∈ F2 /\ ∀ w, Φ w -> (execOp b.eval o).run P w = .ok (.value v) w)) \/
   (Region.wanted o (yielded l.toArray b.tmps) = false /\ v = undef))
  (hN : ∀ d, o.dst = some d -> d < N)
  (h : OA P l N Q (i :: done) eff F2 fr2 w) : OA P l N Q done eff F fr w := by
 intro b hb fuel listed a hR hc
 unfold zlS at hck
 simp only [zae] at hck
 obtain ⟨⟨hn, hd⟩, hlk⟩ := hck
 have hn := not_mem? hn
 have hdi : za9 l i = o.dst := by unfold za9; rw [hl]; rfl
 have hli : zf6 l i = lk l o := by unfold zf6; rw [hl]
 have hil : listed.getD i false = false := by
  cases hx : listed.getD i false with
  | false => rfl
  | true => exact absurd (hR.sub i hx) hn
 have noteff : ∀ j, listed.getD j false = false -> mem? j eff = false := fun j hj => by
  cases hm : mem? j eff with
  | false => rfl
  | true => rw [hR.eff j (mem?_iff.1 hm)] at hj; cases hj
 have hd1 : ∀ d, o.dst = some d -> d ∉ lk l o /\ ∀ j ∈ done, listed.getD j false = false -> d ∉ zf6 l j /\ za9 l j ≠ some d := by
  intro d e
  rw [hdi, e] at hd
  simp only [zae] at hd
  refine ⟨by rw [<- hli]; exact not_mem? hd.1, fun j hj hjl => ?_⟩
  have := List.all_eq_true.1 hd.2 j hj
  rw [noteff j hjl, Bool.false_or, zae] at this
  refine ⟨not_mem? this.1, fun e2 => ?_⟩
  rw [e2] at this
  simp at this
 have hd2 : ∀ j ∈ done, listed.getD j false = false -> ∀ s, za9 l j = some s -> s ∈ zf6 l i -> j ∈ aft l i := by
  intro j hj hjl s e hs'
  have := List.all_eq_true.1 hlk j hj
  rw [noteff j hjl, Bool.false_or, e] at this
  simp only [Bool.or_eq_true] at this
  rcases this with h1 | h1
  ·exact mem?_iff.1 h1
  ·exact absurd hs' (not_mem? h1)
 have keepL : ∀ (o' : Oper), (∀ d, o.dst = some d -> d ∉ lk l o') -> ∀ s ∈ lk l o', (b.put o.dst v).tmps[s]? = b.tmps[s]? := fun o' h' s hs' => Rel.get_put (fun e => h' s e hs')
 refine h (b.put o.dst v) (hfr b hb) fuel listed a ⟨hR.size, by rw [zbC, hR.asz], by rw [qd, hR.adf], fun j hj => zcm _ (hR.sub j hj), hR.down, hR.eff, fun s hs' => ?_, fun p hp hl' => ?_, fun j hj hjl => ?_, ?_⟩ hc
 ·have hne : o.dst ≠ some s := fun e => hs' i zcs hil (by rw [hdi, e])
  rw [Rel.get_put hne]
  exact hR.same s (fun j hj => hs' j (zcm _ hj))
 ·rcases hF2 p hp with h1 | h1
  ·exact hR.facts p h1 hl'
  ·exact h1
 ·rcases List.mem_cons.1 hj with rfl | hj
  ·have e1 := keepL o (fun d e => (hd1 d e).1)
   refine ⟨o, v, hl, hs, fun d e => ?_, ?_⟩
   ·rw [e]
    exact zhb (by rw [hb.size]; exact hN d e)
   ·rw [zaM e1, zca hs e1]
    exact hv b hb
  ·obtain ⟨o', v', ho', hs', hdst', hrun'⟩ := hR.pend j hj hjl
   have hlj : zf6 l j = lk l o' := by unfold zf6; rw [ho']
   have hdj : za9 l j = o'.dst := by unfold za9; rw [ho']; rfl
   have e1 := keepL o' (fun d e => by rw [<- hlj]; exact ((hd1 d e).2 j hj hjl).1)
   refine ⟨o', v', ho', hs', fun d e => ?_, ?_⟩
   ·rw [Rel.get_put (fun e2 => ((hd1 d e2).2 j hj hjl).2 (by rw [hdj, e]))]
    exact hdst' d e
   ·rw [zaM e1, zca hs' e1]
    rcases hrun' with ⟨h1, h2 | ⟨Φ, h2, h3⟩⟩ | h1
    ·exact .inl ⟨h1, .inl h2⟩
    ·exact .inl ⟨h1, .inr ⟨Φ, hF _ h2, h3⟩⟩
    ·exact .inr h1
 ·intro i' hi' hil' j hj hjl s e hs'
  rcases List.mem_cons.1 hi' with rfl | hi2
  ·rcases List.mem_cons.1 hj with rfl | hj2
   ·exfalso
    rw [hdi] at e
    rw [hli] at hs'
    exact (hd1 s e).1 hs'
   ·exact hd2 j hj2 hjl s e hs'
  ·rcases List.mem_cons.1 hj with rfl | hj2
   ·exfalso
    rw [hdi] at e
    exact ((hd1 s e).2 i' hi2 hil').1 hs'
   ·exact hR.ord i' hi2 hil' j hj2 hjl s e hs'
def zn5 (l : List Oper) (done : List Nat) : Bool := (List.range l.length).all fun j => mem? j done
theorem OA.fin (hp : zij l = true) (hall : zn5 l done = true) (h : QW N Q .normal fr w) : OA P l N Q done eff F fr w := by
 intro b hb
 unfold zij at hp
 rw [zae] at hp
 refine zfR hp.1 hp.2 (fun listed a hR hr => ?_) (fun fuel listed a hR hc j hj hd => ?_)
 ·have hpr := zhG hp.1 hR.size hr
  have same : ∀ s, a.tmps[s]? = b.tmps[s]? := fun s => hR.same s (fun j hj hjl e => by
   unfold za9 at e
   cases ho : vy l j with
   | none => rw [ho] at e; cases e
   | some o => rw [hpr j (zi6 ho)] at hjl; cases hjl)
  exact h a ⟨hR.asz.trans hb.size, hR.adf.trans hb.defers, fun i v hi => (same i).trans (hb.get i v hi)⟩
 ·obtain ⟨h1, _, _⟩ := (zcT hR.size).1 hj
  exact absurd (mem?_iff.1 (List.all_eq_true.1 hall j (by simpa using h1))) hd
def znY (l : List Oper) (done eff : List Nat) (i : Nat) : Bool :=
 !mem? i done &&
 (List.range l.length).all (fun j => mem? j done || Nat.beq j i || (aft l j).any (fun k => !mem? k done)) &&
 done.all (fun j => mem? j eff || mem? j (zl7 l i) || match za9 l j with
  | none => true
  | some s => !mem? s (zf6 l i)) &&
 (match za9 l i with
  | none => true
  | some d => done.all (fun j => mem? j eff || mem? j (zl7 l i) || (!mem? d (zf6 l j) && !(za9 l j == some d))))
def zi7 (l : List Oper) (i : Nat) (keep : List Nat) : zdm -> Bool
 | [] => true
 | p :: r => (mem? p.1 (zl7 l i) || mem? p.1 keep) && zi7 l i keep r
theorem zik {i : Nat} {keep : List Nat} (h : zi7 l i keep F = true) : ∀ p ∈ F, p.1 ∈ zl7 l i \/ p.1 ∈ keep := by
 induction F with
 | nil => intro p hp; exact absurd hp znm
 | cons q r ih =>
  unfold zi7 at h
  rw [zae, Bool.or_eq_true] at h
  intro p hp
  rcases List.mem_cons.1 hp with rfl | hp
  ·exact h.1.imp mem?_iff.1 mem?_iff.1
  ·exact ih h.2 p hp
def zfS (P : Program) (l : List Oper) (Q : Exit -> Act -> World -> Prop) (done eff : List Nat) (F : zdm) (e : Exit) (b : Act) (w : World) : Prop := match e with
 | .normal => holds F w /\ zn4 P l Q done eff F b w
 | _ => False
def bare (o : Oper) : Oper := { o with guard := none }
theorem OA.act {i : Nat} {o : Oper} (keep : List Nat) (hp : zij l = true) (hl : vy l i = some o) (hg : gd l fr o = some true) (hck : znY l done eff i = true) (hk : zi7 l i keep F = true)
  (h : OW P [bare o] N (zfS P l Q (i :: done) (i :: eff) (zeo keep F)) 0 fr w) : OA P l N Q done eff F fr w := by
 intro b hb
 unfold zij at hp
 rw [zae] at hp
 unfold znY at hck
 simp only [zae] at hck
 obtain ⟨⟨⟨hn, hsat⟩, hlk⟩, hd⟩ := hck
 have hn := not_mem? hn
 have hilt := zi6 hl
 have hs : zai o.op = true := List.all_eq_true.1 hp.2 o (zmg (zgd hl))
 have hdi : za9 l i = o.dst := by unfold za9; rw [hl]; rfl
 have hli : zf6 l i = lk l o := by unfold zf6; rw [hl]
 refine zfR hp.1 hp.2 (fun listed a hR hr => ?_) (fun fuel listed a hR hc j hj hd' => ?_)
 ·exact absurd (hR.sub i (zhG hp.1 hR.size hr i hilt)) hn
 obtain ⟨h1, h2, h3⟩ := (zcT hR.size).1 hj
 have h3' : ∀ k ∈ zl7 l j, listed.getD k false = true := zfv (p := fun k => listed.getD k false = true) hR.down _ _ _ h3 (fun x hx => absurd hx znm)
 have noteff : ∀ j, listed.getD j false = false -> mem? j eff = false := fun j hj => by
  cases hm : mem? j eff with
  | false => rfl
  | true => rw [hR.eff j (mem?_iff.1 hm)] at hj; cases hj
 have e : j = i := by
  have := List.all_eq_true.1 hsat j (by simpa using h1)
  simp only [Bool.or_eq_true] at this
  rcases this with (h4 | h4) | h4
  ·exact absurd (mem?_iff.1 h4) hd'
  ·exact Nat.eq_of_beq_eq_true h4
  ·obtain ⟨k, hk1, hk2⟩ := List.any_eq_true.1 h4
   exact absurd (hR.sub k (h3 k hk1)) (not_mem? hk2)
 subst e
 have hagree : ∀ s ∈ lk l o, a.tmps[s]? = b.tmps[s]? := fun s hs' => hR.same s (fun k hk' hkl e => by
  have := List.all_eq_true.1 hlk k hk'
  rw [noteff k hkl, Bool.false_or, e] at this
  simp only [Bool.or_eq_true] at this
  rcases this with h4 | h4
  ·rw [h3' k (mem?_iff.1 h4)] at hkl; cases hkl
  ·exact absurd (by rw [hli]; exact hs') (not_mem? h4))
 have hd1 : ∀ d, o.dst = some d -> ∀ k ∈ done, listed.getD k false = false -> d ∉ zf6 l k /\ za9 l k ≠ some d := by
  intro d e k hk' hkl
  rw [hdi, e] at hd
  have := List.all_eq_true.1 hd k hk'
  rw [noteff k hkl, Bool.false_or] at this
  simp only [Bool.or_eq_true, zae] at this
  rcases this with h4 | h4
  ·rw [h3' k (mem?_iff.1 h4)] at hkl; cases hkl
  ·refine ⟨not_mem? h4.1, fun e2 => ?_⟩
   rw [e2] at h4
   simp at h4
 have next : ∀ (v : Value) (w' : World) (a1 b1 : Act), a1.tmps = (a.put o.dst v).tmps -> b1.tmps = (b.put o.dst v).tmps -> a1.defers = b1.defers -> zfS P l Q (j :: done) (j :: eff) (zeo keep F) .normal b1 w' ->
   wpAny P .any l.toArray Q fuel (listed.setIfInBounds j true) a1 w' := by
  intro v w' a1 b1 ea eb ed hA
  obtain ⟨hf, hA⟩ := hA
  have isz : j < listed.size := by rw [hR.size]; exact h1
  refine hA fuel _ a1 ⟨by simpa using hR.size, by rw [ea, eb, zbC, zbC, hR.asz], ed, fun k hk' => ?_, fun k hk' q hq => ?_, fun k hk' => ?_, fun s hs' => ?_, fun p hp' _ => zig hf p hp', fun k hk' hkl => ?_, ?_⟩ ?_
  ·by_cases e : j = k
   ·subst e; exact zcs
   ·rw [getD_set_ne false e] at hk'; exact zcm _ (hR.sub k hk')
  ·by_cases e : j = k
   ·subst e; exact getD_set_true (h3 q hq)
   ·rw [getD_set_ne false e] at hk'; exact getD_set_true (hR.down k hk' q hq)
  ·rcases List.mem_cons.1 hk' with rfl | hk'
   ·exact vS isz
   ·exact getD_set_true (hR.eff k hk')
  ·rw [ea, eb]
   by_cases e : o.dst = some s
   ·rw [e]
    by_cases hlt : s < b.tmps.size
    ·rw [zhb hlt, zhb (by rw [hR.asz]; exact hlt)]
    ·rw [Array.getElem?_eq_none (by rw [zbC, hR.asz]; omega), Array.getElem?_eq_none (by rw [zbC]; omega)]
   ·rw [Rel.get_put e, Rel.get_put e]
    exact hR.same s (fun k hk' hkl => hs' k (zcm _ hk') (by
     have : j ≠ k := fun e2 => hd' (by rw [e2]; exact hk')
     rw [getD_set_ne false this]
     exact hkl))
  ·rcases List.mem_cons.1 hk' with rfl | hk'
   ·rw [vS isz] at hkl; cases hkl
   have hkl := vw hkl
   obtain ⟨o', v', ho', hs', hdst', hrun'⟩ := hR.pend k hk' hkl
   have hlj : zf6 l k = lk l o' := by unfold zf6; rw [ho']
   have hdj : za9 l k = o'.dst := by unfold za9; rw [ho']; rfl
   have e1 : ∀ s ∈ lk l o', b1.tmps[s]? = b.tmps[s]? := fun s hs2 => by
    rw [eb]
    exact Rel.get_put (fun e => (hd1 s e k hk' hkl).1 (by rw [hlj]; exact hs2))
   refine ⟨o', v', ho', hs', fun d e => ?_, ?_⟩
   ·rw [eb, Rel.get_put (fun e2 => (hd1 d e2 k hk' hkl).2 (by rw [hdj, e]))]
    exact hdst' d e
   ·rw [zaM e1, zca hs' e1]
    rcases hrun' with ⟨g1, g2 | ⟨Φ, g2, g3⟩⟩ | g1
    ·exact .inl ⟨g1, .inl g2⟩
    ·refine .inl ⟨g1, .inr ⟨Φ, zih g2 ?_, g3⟩⟩
     rcases zik hk _ g2 with h4 | h4
     ·rw [h3' k h4] at hkl; cases hkl
     ·exact h4
    ·exact .inr g1
  ·intro i' hi' hil' k hk' hkl s e hs'
   rcases List.mem_cons.1 hi' with rfl | hi'
   ·rw [vS isz] at hil'; cases hil'
   rcases List.mem_cons.1 hk' with rfl | hk'
   ·rw [vS isz] at hkl; cases hkl
   exact hR.ord i' hi' (vw hil') k hk' (vw hkl) s e hs'
  ·have := zhF hR.size h1 h2
   omega
 have hb1 := h b hb
 have hwant : Region.wanted o (yielded l.toArray b.tmps) = true := xf hg hb
 have hb2 : (bare o).wp P b w (fun a w => zfS P l Q (j :: done) (j :: eff) (zeo keep F) .normal a w) (zfS P l Q (j :: done) (j :: eff) (zeo keep F)) := by
  have : wpList P [bare o].toArray (zfS P l Q (j :: done) (j :: eff) (zeo keep F)) [bare o] b w := hb1
  unfold wpList at this
  rw [if_pos (show Region.wanted (bare o) (yielded [bare o].toArray b.tmps) = true from rfl)] at this
  rcases this with h4 | ⟨_, a', w', h4⟩
  ·exact h4
  ·exact h4.elim
 unfold wpOp
 rw [zbA, hl]
 simp only []
 rw [zaM hagree, if_pos hwant]
 left
 unfold Oper.wp at hb2 |-
 have hex : execOp b.eval (bare o) = execOp a.eval o := by
  rw [zca hs hagree]
  rfl
 rw [hex] at hb2
 generalize (execOp a.eval o).run P w = r at hb2 |-
 cases r with
 | ok n w' =>
  cases n with
  | value v => exact next v w' _ _ rfl rfl (by rw [qd, qd, hR.adf]) hb2
  | skip => exact next undef w' _ _ rfl rfl (by rw [qd, qd, hR.adf]) hb2
  | defer d => exact next undef w' _ _ (by cases ho : o.dst <;> rfl) (by cases ho : o.dst <;> simp [bare, ho, Act.put]) (by rw [qd, qd, hR.adf]) hb2
  | enter f args =>
   refine Calls.mono hb2 (fun e w'' he => ?_)
   cases e with
   | returned v => exact next v w'' _ _ rfl rfl (by rw [qd, qd, hR.adf]) he
   | panicked c => exact he.elim
   | outgrown => obtain ⟨_, _, he⟩ := he; exact he.elim
  | row row args => exact Rows.mono hb2 (fun v w'' he => next v w'' _ _ rfl rfl (by rw [qd, qd, hR.adf]) he)
  | _ => exact hb2.elim
 | halt x w' =>
  cases x with
  | panic v => exact hb2.elim
  | _ => exact hb2.elim
def zon (l : List Oper) (done is : List Nat) : Bool := (List.range l.length).all (fun j => mem? j done || mem? j is || (aft l j).any (fun k => !mem? k done))
def zm0 (l : List Oper) (done eff : List Nat) (i : Nat) : Bool :=
 !mem? i done &&
 done.all (fun j => mem? j eff || mem? j (zl7 l i) || match za9 l j with
  | none => true
  | some s => !mem? s (zf6 l i)) &&
 (match za9 l i with
  | none => true
  | some d => done.all (fun j => mem? j eff || mem? j (zl7 l i) || (!mem? d (zf6 l j) && !(za9 l j == some d))))
def Alt (P : Program) (l : List Oper) (N : Nat) (Q : Exit -> Act -> World -> Prop) (done eff : List Nat) (F : zdm) (fr : List (Nat × Value)) (w : World) (i : Nat) : Prop :=
 ∃ (o : Oper) (keep : List Nat), vy l i = some o /\ gd l fr o = some true /\ zm0 l done eff i = true /\ zi7 l i keep F = true /\ OW P [bare o] N (zfS P l Q (i :: done) (i :: eff) (zeo keep F)) 0 fr w
theorem Alt.of {i : Nat} {o : Oper} (keep : List Nat) (hl : vy l i = some o) (hg : gd l fr o = some true) (hck : zm0 l done eff i = true) (hk : zi7 l i keep F = true)
  (h : OW P [bare o] N (zfS P l Q (i :: done) (i :: eff) (zeo keep F)) 0 fr w) : Alt P l N Q done eff F fr w i := ⟨o, keep, hl, hg, hck, hk, h⟩
theorem zbD {p : Nat -> Prop} : ∀ i, i ∈ ([] : List Nat) -> p i := fun i h => absurd h znm
theorem qR {p : Nat -> Prop} {a : Nat} {r : List Nat} (h : p a) (hr : ∀ i, i ∈ r -> p i) : ∀ i, i ∈ a :: r -> p i := fun i hi => by
 rcases List.mem_cons.1 hi with rfl | hi
 ·exact h
 ·exact hr i hi
theorem OA.acts (is : List Nat) (i0 : Nat) (hp : zij l = true) (hi0 : mem? i0 is && !mem? i0 done && Nat.blt i0 l.length = true) (hsat : zon l done is = true)
  (hall : ∀ i, i ∈ is -> Alt P l N Q done eff F fr w i) : OA P l N Q done eff F fr w := by
 intro b hb
 unfold zij at hp
 rw [zae] at hp
 simp only [zae] at hi0
 refine zfR hp.1 hp.2 (fun listed a hR hr => ?_) (fun fuel listed a hR hc j hj hd' => ?_)
 ·exact absurd (hR.sub i0 (zhG hp.1 hR.size hr i0 (by simpa [Nat.blt_eq] using hi0.2))) (not_mem? hi0.1.2)
 obtain ⟨h1, h2, h3⟩ := (zcT hR.size).1 hj
 have h3' : ∀ k ∈ zl7 l j, listed.getD k false = true := zfv (p := fun k => listed.getD k false = true) hR.down _ _ _ h3 (fun x hx => absurd hx znm)
 have noteff : ∀ j, listed.getD j false = false -> mem? j eff = false := fun j hj => by
  cases hm : mem? j eff with
  | false => rfl
  | true => rw [hR.eff j (mem?_iff.1 hm)] at hj; cases hj
 have e : j ∈ is := by
  have := List.all_eq_true.1 hsat j (by simpa using h1)
  simp only [Bool.or_eq_true] at this
  rcases this with (h4 | h4) | h4
  ·exact absurd (mem?_iff.1 h4) hd'
  ·exact mem?_iff.1 h4
  ·obtain ⟨k, hk1, hk2⟩ := List.any_eq_true.1 h4
   exact absurd (hR.sub k (h3 k hk1)) (not_mem? hk2)
 obtain ⟨o, keep, hl, hg, hck, hk, h⟩ := hall j e
 unfold zm0 at hck
 simp only [zae] at hck
 obtain ⟨⟨hn, hlk⟩, hd⟩ := hck
 have hn := not_mem? hn
 have hs : zai o.op = true := List.all_eq_true.1 hp.2 o (zmg (zgd hl))
 have hdi : za9 l j = o.dst := by unfold za9; rw [hl]; rfl
 have hli : zf6 l j = lk l o := by unfold zf6; rw [hl]
 have hagree : ∀ s ∈ lk l o, a.tmps[s]? = b.tmps[s]? := fun s hs' => hR.same s (fun k hk' hkl e => by
  have := List.all_eq_true.1 hlk k hk'
  rw [noteff k hkl, Bool.false_or, e] at this
  simp only [Bool.or_eq_true] at this
  rcases this with h4 | h4
  ·rw [h3' k (mem?_iff.1 h4)] at hkl; cases hkl
  ·exact absurd (by rw [hli]; exact hs') (not_mem? h4))
 have hd1 : ∀ d, o.dst = some d -> ∀ k ∈ done, listed.getD k false = false -> d ∉ zf6 l k /\ za9 l k ≠ some d := by
  intro d e k hk' hkl
  rw [hdi, e] at hd
  have := List.all_eq_true.1 hd k hk'
  rw [noteff k hkl, Bool.false_or] at this
  simp only [Bool.or_eq_true, zae] at this
  rcases this with h4 | h4
  ·rw [h3' k (mem?_iff.1 h4)] at hkl; cases hkl
  ·refine ⟨not_mem? h4.1, fun e2 => ?_⟩
   rw [e2] at h4
   simp at h4
 have next : ∀ (v : Value) (w' : World) (a1 b1 : Act), a1.tmps = (a.put o.dst v).tmps -> b1.tmps = (b.put o.dst v).tmps -> a1.defers = b1.defers -> zfS P l Q (j :: done) (j :: eff) (zeo keep F) .normal b1 w' ->
   wpAny P .any l.toArray Q fuel (listed.setIfInBounds j true) a1 w' := by
  intro v w' a1 b1 ea eb ed hA
  obtain ⟨hf, hA⟩ := hA
  have isz : j < listed.size := by rw [hR.size]; exact h1
  refine hA fuel _ a1 ⟨by simpa using hR.size, by rw [ea, eb, zbC, zbC, hR.asz], ed, fun k hk' => ?_, fun k hk' q hq => ?_, fun k hk' => ?_, fun s hs' => ?_, fun p hp' _ => zig hf p hp', fun k hk' hkl => ?_, ?_⟩ ?_
  ·by_cases e : j = k
   ·subst e; exact zcs
   ·rw [getD_set_ne false e] at hk'; exact zcm _ (hR.sub k hk')
  ·by_cases e : j = k
   ·subst e; exact getD_set_true (h3 q hq)
   ·rw [getD_set_ne false e] at hk'; exact getD_set_true (hR.down k hk' q hq)
  ·rcases List.mem_cons.1 hk' with rfl | hk'
   ·exact vS isz
   ·exact getD_set_true (hR.eff k hk')
  ·rw [ea, eb]
   by_cases e : o.dst = some s
   ·rw [e]
    by_cases hlt : s < b.tmps.size
    ·rw [zhb hlt, zhb (by rw [hR.asz]; exact hlt)]
    ·rw [Array.getElem?_eq_none (by rw [zbC, hR.asz]; omega), Array.getElem?_eq_none (by rw [zbC]; omega)]
   ·rw [Rel.get_put e, Rel.get_put e]
    exact hR.same s (fun k hk' hkl => hs' k (zcm _ hk') (by
     have : j ≠ k := fun e2 => hd' (by rw [e2]; exact hk')
     rw [getD_set_ne false this]
     exact hkl))
  ·rcases List.mem_cons.1 hk' with rfl | hk'
   ·rw [vS isz] at hkl; cases hkl
   have hkl := vw hkl
   obtain ⟨o', v', ho', hs', hdst', hrun'⟩ := hR.pend k hk' hkl
   have hlj : zf6 l k = lk l o' := by unfold zf6; rw [ho']
   have hdj : za9 l k = o'.dst := by unfold za9; rw [ho']; rfl
   have e1 : ∀ s ∈ lk l o', b1.tmps[s]? = b.tmps[s]? := fun s hs2 => by
    rw [eb]
    exact Rel.get_put (fun e => (hd1 s e k hk' hkl).1 (by rw [hlj]; exact hs2))
   refine ⟨o', v', ho', hs', fun d e => ?_, ?_⟩
   ·rw [eb, Rel.get_put (fun e2 => (hd1 d e2 k hk' hkl).2 (by rw [hdj, e]))]
    exact hdst' d e
   ·rw [zaM e1, zca hs' e1]
    rcases hrun' with ⟨g1, g2 | ⟨Φ, g2, g3⟩⟩ | g1
    ·exact .inl ⟨g1, .inl g2⟩
    ·refine .inl ⟨g1, .inr ⟨Φ, zih g2 ?_, g3⟩⟩
     rcases zik hk _ g2 with h4 | h4
     ·rw [h3' k h4] at hkl; cases hkl
     ·exact h4
    ·exact .inr g1
  ·intro i' hi' hil' k hk' hkl s e hs'
   rcases List.mem_cons.1 hi' with rfl | hi'
   ·rw [vS isz] at hil'; cases hil'
   rcases List.mem_cons.1 hk' with rfl | hk'
   ·rw [vS isz] at hkl; cases hkl
   exact hR.ord i' hi' (vw hil') k hk' (vw hkl) s e hs'
  ·have := zhF hR.size h1 h2
   omega
 have hb1 := h b hb
 have hwant : Region.wanted o (yielded l.toArray b.tmps) = true := xf hg hb
 have hb2 : (bare o).wp P b w (fun a w => zfS P l Q (j :: done) (j :: eff) (zeo keep F) .normal a w) (zfS P l Q (j :: done) (j :: eff) (zeo keep F)) := by
  have : wpList P [bare o].toArray (zfS P l Q (j :: done) (j :: eff) (zeo keep F)) [bare o] b w := hb1
  unfold wpList at this
  rw [if_pos (show Region.wanted (bare o) (yielded [bare o].toArray b.tmps) = true from rfl)] at this
  rcases this with h4 | ⟨_, a', w', h4⟩
  ·exact h4
  ·exact h4.elim
 unfold wpOp
 rw [zbA, hl]
 simp only []
 rw [zaM hagree, if_pos hwant]
 left
 unfold Oper.wp at hb2 |-
 have hex : execOp b.eval (bare o) = execOp a.eval o := by
  rw [zca hs hagree]
  rfl
 rw [hex] at hb2
 generalize (execOp a.eval o).run P w = r at hb2 |-
 cases r with
 | ok n w' =>
  cases n with
  | value v => exact next v w' _ _ rfl rfl (by rw [qd, qd, hR.adf]) hb2
  | skip => exact next undef w' _ _ rfl rfl (by rw [qd, qd, hR.adf]) hb2
  | defer d => exact next undef w' _ _ (by cases ho : o.dst <;> rfl) (by cases ho : o.dst <;> simp [bare, ho, Act.put]) (by rw [qd, qd, hR.adf]) hb2
  | enter f args =>
   refine Calls.mono hb2 (fun e w'' he => ?_)
   cases e with
   | returned v => exact next v w'' _ _ rfl rfl (by rw [qd, qd, hR.adf]) he
   | panicked c => exact he.elim
   | outgrown => obtain ⟨_, _, he⟩ := he; exact he.elim
  | row row args => exact Rows.mono hb2 (fun v w'' he => next v w'' _ _ rfl rfl (by rw [qd, qd, hR.adf]) he)
  | _ => exact hb2.elim
 | halt x w' =>
  cases x with
  | panic v => exact hb2.elim
  | _ => exact hb2.elim
theorem OA.next {o : Oper} {F2 : zdm} (hf : holds F2 w) (h : OA P l N Q done eff F2 fr w) : OW P [o] N (zfS P l Q done eff F2) 1 fr w :=
 OW.nil rfl (fun b hb => ⟨hf, h b hb⟩)
def zfw (P : Program) (l : List Oper) (N : Nat) (eff : List Nat) : List Nat -> List Nat -> List (Nat × Value) -> Option (List (Nat × Value))
 | [], _, fr => some fr
 | i :: r, done, fr => match vy l i with
  | none => none
  | some o => match zlS l done eff i, zai o.op with
   | true, true => match o.dst with
    | none => match gd l fr o with
     | some false => zfw P l N eff r (i :: done) fr
     | _ => none
    | some d => match Nat.blt d N with
     | false => none
     | true => match gd l fr o with
      | some true => match zlJ P fr o with
       | some v => zfw P l N eff r (i :: done) ((d, v) :: fr)
       | none => none
      | some false => zfw P l N eff r (i :: done) ((d, undef) :: fr)
      | none => none
   | _, _ => none
def znF (is done : List Nat) : List Nat := match is with
 | [] => done
 | i :: r => znF r (i :: done)
theorem zlT : ∀ (is done : List Nat) (fr : List (Nat × Value)) {fr2 : List (Nat × Value)}, zfw P l N eff is done fr = some fr2 -> OA P l N Q (znF is done) eff F fr2 w -> OA P l N Q done eff F fr w := by
 intro is
 induction is with
 | nil => intro done fr fr2 h k; simp only [zfw, Option.some.injEq] at h; subst h; exact k
 | cons i r ih =>
  intro done fr fr2 h k
  unfold zfw at h
  split at h
  ·cases h
  ·rename_i o ho
   split at h
   ·rename_i hck hsel
    split at h
    ·rename_i hd
     split at h
     ·rename_i hg
      refine OA.add (v := undef) fr F ho hck hsel (fun b hb => by rw [hd]; exact hb) (fun p hp => hp) (fun p hp => .inl hp) (fun b hb => .inr ⟨xf hg hb, rfl⟩) (fun d e => by rw [hd] at e; cases e) ?_
      exact ih _ _ h k
     ·cases h
    ·rename_i d hd
     split at h
     ·cases h
     ·rename_i hN
      have hN' : ∀ d', o.dst = some d' -> d' < N := fun d' e => by rw [hd] at e; cases e; simpa [Nat.blt_eq] using hN
      split at h
      ·rename_i hg
       split at h
       ·rename_i v hv
        refine OA.add (v := v) ((d, v) :: fr) F ho hck hsel (fun b hb => by rw [hd]; exact hb.put hN) (fun p hp => hp) (fun p hp => .inl hp) (fun b hb => .inl ⟨xf hg hb, .inl (fun w => zgF hv hb w)⟩) hN' ?_
        exact ih _ _ h k
       ·cases h
      ·rename_i hg
       refine OA.add (v := undef) ((d, undef) :: fr) F ho hck hsel (fun b hb => by rw [hd]; exact hb.put hN) (fun p hp => hp) (fun p hp => .inl hp) (fun b hb => .inr ⟨xf hg hb, rfl⟩) hN' ?_
       exact ih _ _ h k
      ·cases h
   ·cases h
theorem OA.pure (is : List Nat) (new : List (Nat × Value))
  (h : (zfw P l N eff is done fr).map (fun fr2 => zf3 fr2 (zan [] (new ++ fr))) = some (zdw (zan [] (new ++ fr))))
  (k : OA P l N Q (znF is done) eff F (new ++ fr) w) : OA P l N Q done eff F fr w := by
 cases hc' : zfw P l N eff is done fr with
 | none => rw [hc'] at h; cases h
 | some fr2 =>
  rw [hc'] at h
  simp only [Option.map_some, Option.some.injEq] at h
  exact zlT is done fr hc' (fun a ha => k a (ha.agrees h))
theorem OA.val {i d : Nat} {o : Oper} {v : Value} (hl : vy l i = some o) (hck : zlS l done eff i = true) (hs : zai o.op = true) (hg : gd l fr o = some true) (hd : o.dst = some d) (hN : Nat.blt d N = true)
  (hr : ∀ b w, Rep N fr b -> (execOp b.eval o).run P w = .ok (.value v) w)
  (h : OA P l N Q (i :: done) eff F ((d, v) :: fr) w) : OA P l N Q done eff F fr w :=
 OA.add (v := v) ((d, v) :: fr) F hl hck hs (fun b hb => by rw [hd]; exact hb.put hN) (fun p hp => hp) (fun p hp => .inl hp) (fun b hb => .inl ⟨xf hg hb, .inl (fun w => hr b w hb)⟩)
  (fun d' e => by rw [hd] at e; cases e; simpa [Nat.blt_eq] using hN) h
theorem OA.sees {i d : Nat} {o : Oper} {v : Value} (Φ : World -> Prop) (hl : vy l i = some o) (hck : zlS l done eff i = true) (hs : zai o.op = true) (hg : gd l fr o = some true) (hd : o.dst = some d) (hN : Nat.blt d N = true)
  (hr : ∀ b w, Rep N fr b -> Φ w -> (execOp b.eval o).run P w = .ok (.value v) w) (hw : Φ w)
  (h : OA P l N Q (i :: done) eff ((i, Φ) :: F) ((d, v) :: fr) w) : OA P l N Q done eff F fr w :=
 OA.add (v := v) ((d, v) :: fr) ((i, Φ) :: F) hl hck hs (fun b hb => by rw [hd]; exact hb.put hN) (fun p hp => zcm _ hp)
  (fun p hp => by
   rcases List.mem_cons.1 hp with rfl | hp
   ·exact .inr hw
   ·exact .inl hp)
  (fun b hb => .inl ⟨xf hg hb, .inr ⟨Φ, zcs, fun w hw => hr b w hb hw⟩⟩)
  (fun d' e => by rw [hd] at e; cases e; simpa [Nat.blt_eq] using hN) h
theorem OA.split (s : Nat) {b : Bool} (hs : zeR fr s = some (.bool b)) (ht : b = true -> OA P l N Q done eff F ((s, .bool true) :: fr) w) (hf : b = false -> OA P l N Q done eff F ((s, .bool false) :: fr) w) : OA P l N Q done eff F fr w := by
 cases b with
 | true => exact fun a ha => ht rfl a ⟨ha.size, ha.defers, fun j v hj => by
   rw [zax] at hj
   by_cases e : s = j
   ·subst e; rw [if_pos rfl] at hj; exact ha.get _ _ (hs.trans hj)
   ·rw [if_neg e] at hj; exact ha.get _ _ hj⟩
 | false => exact fun a ha => hf rfl a ⟨ha.size, ha.defers, fun j v hj => by
   rw [zax] at hj
   by_cases e : s = j
   ·subst e; rw [if_pos rfl] at hj; exact ha.get _ _ (hs.trans hj)
   ·rw [if_neg e] at hj; exact ha.get _ _ hj⟩
theorem OA.idx {i : Nat} (e sz : Nat) {d : Nat} {t : TypeId} {x y : Operand} {ty : TypeId} {pos : String} {af : Array Edge} {gdd : Option (Nat × Bool)} (hl : vy l i = some ⟨some d, .indexAddr t x y, ty, pos, af, gdd⟩) (hck : zlS l done eff i = true)
  (hg : gd l fr ⟨some d, .indexAddr t x y, ty, pos, af, gdd⟩ = some true) (hN : Nat.blt d N = true)
  {b k n cp : Nat} {q : Int} {kd : IntKind} {v : Value} (hx : look fr x = some v) (hv : v = .slice (some ⟨b, k, none⟩) n cp) (hy : look fr y = some (.int kd q)) (h0 : 0 <= q) (h1 : q < n)
  (ht : P.underlying t = some (.slice e)) (hs : zbz P (sizeOf e) = some sz)
  (h : OA P l N Q (i :: done) eff F ((d, .pointer (some ⟨b, k + q.toNat * sz, none⟩)) :: fr) w) : OA P l N Q done eff F fr w := by
 refine OA.val hl hck rfl hg rfl hN (fun a w ha => ?_) h
 have e1 := ha.look hx
 have e2 := ha.look hy
 subst hv
 simp [execOp, Instr.indexAt, e1, e2, asIntOf, run_underlying ht, h0, h1, jE hs, za7]
theorem OA.ld {i d : Nat} {t : TypeId} {x : Operand} {ty : TypeId} {pos : String} {af : Array Edge} {gdd : Option (Nat × Bool)} (hl : vy l i = some ⟨some d, .load t x, ty, pos, af, gdd⟩) (hck : zlS l done eff i = true)
  (hg : gd l fr ⟨some d, .load t x, ty, pos, af, gdd⟩ = some true) (hN : Nat.blt d N = true)
  {a : Addr} {v : Value} (hx : look fr x = some (.pointer (some a))) (hA : zbz P (isAgg t) = some false) (hv : w.cell? a = some v)
  (h : OA P l N Q (i :: done) eff ((i, fun w => w.cell? a = some v) :: F) ((d, v) :: fr) w) : OA P l N Q done eff F fr w := by
 refine OA.sees (fun w => w.cell? a = some v) hl hck rfl hg rfl hN (fun a w ha hv => ?_) hv h
 have e1 := ha.look hx
 simp [execOp, e1, zgH hA hv]
theorem OA.ldN {i d : Nat} {t : TypeId} {x : Operand} {ty : TypeId} {pos : String} {af : Array Edge} {gdd : Option (Nat × Bool)} (hl : vy l i = some ⟨some d, .load t x, ty, pos, af, gdd⟩) (hck : zlS l done eff i = true)
  (hg : gd l fr ⟨some d, .load t x, ty, pos, af, gdd⟩ = some true) (hN : Nat.blt d N = true)
  {b k : Nat} (cs : List Value) (hx : look fr x = some (.pointer (some ⟨b, k, none⟩))) (hA : zbz P (isAgg t) = some true) (hs : zbz P (sizeOf t) = some cs.length)
  (hv : ∀ j u, cs[j]? = some u -> w.cell? ⟨b, k + j, none⟩ = some u)
  (h : OA P l N Q (i :: done) eff ((i, fun w => ∀ j u, cs[j]? = some u -> w.cell? ⟨b, k + j, none⟩ = some u) :: F) ((d, .agg cs.toArray) :: fr) w) : OA P l N Q done eff F fr w := by
 refine OA.sees (fun w => ∀ j u, cs[j]? = some u -> w.cell? ⟨b, k + j, none⟩ = some u) hl hck rfl hg rfl hN (fun a w ha hv => ?_) hv h
 have e1 := ha.look hx
 simp [execOp, e1, zfq hA hs hv]
end
end Go.Sx

/- Texts Plan, More, Mem of this proof. -/
import Derived.Test.YtbmknhpfkpmigaaGreatDoorLib
import Derived.Orders
import Derived.Laws.StructEq
import Derived.WalkSpells
set_option linter.unusedVariables false
set_option linter.unusedSimpArgs false
namespace Go.Sx
open Go.RowKit
def zny : List Operand -> List Nat
 | [] => []
 | .tmp t :: r => t :: zny r
 | _ :: r => zny r
def lk (l : List Oper) (o : Oper) : List Nat := zny o.op.operands.toList ++ (match o.guard with
 | none => []
 | some (j, _) => match (vU l j).bind (·.dst) with
  | some d => [d]
  | none => [])
theorem zmB {t : Nat} {xs : List Operand} (h : Operand.tmp t ∈ xs) : t ∈ zny xs := by
 induction xs with
 | nil => exact absurd h znm
 | cons x r ih =>
  rcases List.mem_cons.1 h with h2 | h2
  ·subst h2; exact zcs
  ·cases x with
   | tmp u => exact zcm _ (ih h2)
   | const v => exact ih h2
   | global g => exact ih h2
   | func f => exact ih h2
theorem zmC {a b : Act} {x : Operand} (h : ∀ t, x = .tmp t -> a.tmps[t]? = b.tmps[t]?) : a.eval x = b.eval x := by
 cases x with
 | tmp t => simp [Act.eval, Array.getD_eq_getD_getElem?, h t rfl]
 | _ => rfl
theorem zcA {l : List Oper} {o : Oper} {a b : Act} (hs : vH o.op = true) (h : ∀ s ∈ lk l o, a.tmps[s]? = b.tmps[s]?) : execOp a.eval o = execOp b.eval o :=
 zcT hs (fun x hx => zmC (fun t e => h t (zal _ (zmB (by rw [<- e]; exact hx)))))
theorem za7 {l : List Oper} {o : Oper} {a b : Act} (h : ∀ s ∈ lk l o, a.tmps[s]? = b.tmps[s]?) : Region.wanted o (yielded l.toArray a.tmps) = Region.wanted o (yielded l.toArray b.tmps) := by
 unfold Region.wanted
 cases hg : o.guard with
 | none => rfl
 | some g =>
  obtain ⟨j, c⟩ := g
  have hy : yielded l.toArray a.tmps j = yielded l.toArray b.tmps j := by
   unfold yielded
   rw [zaO]
   cases hd : (vU l j).bind (·.dst) with
   | none => rfl
   | some d =>
    have := h d (by
     unfold lk
     rw [hg]
     simp only [hd]
     exact zar _ (List.mem_singleton.2 rfl))
    simp only [zbs, this]
  simp only [hy]
abbrev zeU := List (Nat × (World -> Prop))
def holds : zeU -> World -> Prop
 | [], _ => True
 | p :: r, w => p.2 w /\ holds r w
def zd4 (keep : List Nat) : zeU -> zeU
 | [] => []
 | p :: r => match mem? p.1 keep with
  | true => p :: zd4 keep r
  | false => zd4 keep r
theorem zi1 {F : zeU} {w : World} (h : holds F w) : ∀ p ∈ F, p.2 w := by
 induction F with
 | nil => intro p hp; exact absurd hp znm
 | cons q r ih =>
  intro p hp
  rcases List.mem_cons.1 hp with rfl | hp
  ·exact h.1
  ·exact ih h.2 p hp
theorem zi2 {keep : List Nat} {F : zeU} {p : Nat × (World -> Prop)} (hp : p ∈ F) (hk : p.1 ∈ keep) : p ∈ zd4 keep F := by
 induction F with
 | nil => exact absurd hp znm
 | cons q r ih =>
  unfold zd4
  rcases List.mem_cons.1 hp with rfl | hp
  ·rw [mem?_iff.2 hk]; exact zcs
  ·split
   ·exact zcm _ (ih hp)
   ·exact ih hp
def aft (l : List Oper) (i : Nat) : List Nat := match vU l i with
 | none => []
 | some o => (o.after.toList.filter (fun e => Region.binds .any e)).map (·.on)
theorem zmD {l : List Oper} {i j : Nat} {o : Oper} (h : vU l i = some o) : j ∈ aft l i ↔ ∃ e ∈ o.after, Region.binds .any e = true /\ e.on = j := by
 unfold aft
 rw [h]
 simp only [List.mem_map, List.mem_filter, Array.mem_toList_iff]
 constructor
 ·rintro ⟨e, ⟨h1, h2⟩, h3⟩; exact ⟨e, h1, h2, h3⟩
 ·rintro ⟨e, h1, h2, h3⟩; exact ⟨e, ⟨h1, h2⟩, h3⟩
def close (l : List Oper) : Nat -> List Nat -> List Nat -> List Nat
 | 0, _, zhk => zhk
 | _ + 1, [], zhk => zhk
 | n + 1, j :: r, zhk => match mem? j zhk with
  | true => close l n r zhk
  | false => close l n (aft l j ++ r) (j :: zhk)
def znQ (l : List Oper) (i : Nat) : List Nat := close l ((l.length + 1) * (l.length + 1)) (aft l i) []
theorem zfO {l : List Oper} {p : Nat -> Prop} (down : ∀ j, p j -> ∀ k ∈ aft l j, p k) : ∀ (n : Nat) (todo zhk : List Nat), (∀ x ∈ todo, p x) -> (∀ x ∈ zhk, p x) -> ∀ x ∈ close l n todo zhk, p x
 | 0, _, _, _, h => h
 | _ + 1, [], _, _, h => h
 | n + 1, j :: r, zhk, ht, h => by
  unfold close
  split
  ·exact zfO down n r zhk (fun x hx => ht x (zcm _ hx)) h
  ·refine zfO down n (aft l j ++ r) (j :: zhk) (fun x hx => ?_) (fun x hx => ?_)
   ·rcases List.mem_append.1 hx with hx | hx
    ·exact down j (ht j zcs) x hx
    ·exact ht x (zcm _ hx)
   ·rcases List.mem_cons.1 hx with rfl | hx
    ·exact ht _ zcs
    ·exact h x hx
def zqE (P : Program) (l : List Oper) (F : zeU) (b : Act) (j : Nat) : Prop :=
  ∃ (o : Oper) (v : Value), vU l j = some o /\ vH o.op = true /\ (∀ d, o.dst = some d -> b.tmps[d]? = some v) /\
    ((Region.wanted o (yielded l.toArray b.tmps) = true /\ ((∀ w, (execOp b.eval o).run P w = .ok (.value v) w) \/ ∃ Φ, (j, Φ) ∈ F /\ ∀ w, Φ w -> (execOp b.eval o).run P w = .ok (.value v) w)) \/
     (Region.wanted o (yielded l.toArray b.tmps) = false /\ v = undef))
def zbw (l : List Oper) (j : Nat) : Option Nat := (vU l j).bind (·.dst)
def zgm (l : List Oper) (j : Nat) : List Nat := match vU l j with
 | none => []
 | some o => lk l o
structure Rel (P : Program) (l : List Oper) (done eff : List Nat) (F : zeU) (w : World) (listed : Array Bool) (a b : Act) : Prop where
 size : listed.size = l.length
 asz : a.tmps.size = b.tmps.size
 adf : a.defers = b.defers
 sub : ∀ j, listed.getD j false = true -> j ∈ done
 down : ∀ j, listed.getD j false = true -> ∀ k ∈ aft l j, listed.getD k false = true
 eff : ∀ j ∈ eff, listed.getD j false = true
 same : ∀ s, (∀ j ∈ done, listed.getD j false = false -> zbw l j ≠ some s) -> a.tmps[s]? = b.tmps[s]?
 facts : ∀ p ∈ F, listed.getD p.1 false = false -> p.2 w
 pend : ∀ j ∈ done, listed.getD j false = false -> zqE P l F b j
 ord : ∀ i ∈ done, listed.getD i false = false -> ∀ j ∈ done, listed.getD j false = false -> ∀ s, zbw l j = some s -> s ∈ zgm l i -> j ∈ aft l i
def cnt (l : List Oper) (listed : Array Bool) : Nat := ((List.range l.length).filter (fun j => !listed.getD j false)).length
theorem zmE {p q : Nat -> Bool} (h : ∀ j, q j = true -> p j = true) {t : Nat} (hp : p t = true) (hq : q t = false) : ∀ n, t < n -> ((List.range n).filter q).length < ((List.range n).filter p).length := by
 have le : ∀ n, ((List.range n).filter q).length <= ((List.range n).filter p).length := by
  intro n
  induction n with
  | zero => exact Nat.le_refl _
  | succ n ih =>
   rw [List.range_succ, List.filter_append, List.filter_append, List.length_append, List.length_append]
   have : (List.filter q [n]).length <= (List.filter p [n]).length := by
    cases h1 : q n with
    | true => simp [h1, h n h1]
    | false => simp [h1]
   omega
 intro n
 induction n with
 | zero => intro ht; omega
 | succ n ih =>
  intro ht
  rw [List.range_succ, List.filter_append, List.filter_append, List.length_append, List.length_append]
  by_cases e : t = n
  ·subst e
   have := le t
   simp [hp, hq]
   omega
  ·have := ih (by omega)
   have : (List.filter q [n]).length <= (List.filter p [n]).length := by
    cases h1 : q n with
    | true => simp [h1, h n h1]
    | false => simp [h1]
   omega
theorem zig {l : List Oper} {listed : Array Bool} {j : Nat} (hs : listed.size = l.length) (hj : j < l.length) (h : listed.getD j false = false) : cnt l (listed.setIfInBounds j true) < cnt l listed := by
 unfold cnt
 refine zmE (fun k hk => ?_) (t := j) (by rw [h]; rfl) ?_ l.length hj
 ·cases hl : listed.getD k false with
  | false => rfl
  | true => rw [getD_set_true hl] at hk; exact hk
 ·simp [hs, hj]
def zqe (l : List Oper) : Bool := (List.range l.length).all fun i => (aft l i).all fun j => Nat.blt j i
theorem zoO {l : List Oper} {i : Nat} (h : i < l.length) : ∃ o, vU l i = some o := by
 have : l.toArray[i]? = some l[i] := by simp [h]
 rw [zaO] at this
 exact ⟨_, this⟩
theorem zih {l : List Oper} {i : Nat} {o : Oper} (h : vU l i = some o) : i < l.length := (zes.1 (zgy h)).1
theorem zi3 {listed : Array Bool} {j : Nat} (h : j < listed.size) : listed.getD j true = listed.getD j false := by
 simp [h]
theorem zdv {l : List Oper} {listed : Array Bool} (hs : listed.size = l.length) {j : Nat} : j ∈ Region.ready .any l.toArray listed ↔ j < l.length /\ listed.getD j false = false /\ ∀ k ∈ aft l j, listed.getD k false = true := by
 rw [mem_ready]
 constructor
 ·rintro ⟨h0, o, ho, h⟩
  rw [zaO] at ho
  have hj := zih ho
  refine ⟨hj, by rw [<- zi3 (by omega)]; exact h0, fun k hk => ?_⟩
  obtain ⟨e, he, hb, rfl⟩ := (zmD ho).1 hk
  exact h e he hb
 ·rintro ⟨hj, h0, h⟩
  obtain ⟨o, ho⟩ := zoO hj
  refine ⟨by rw [zi3 (by omega)]; exact h0, o, by rw [zaO]; exact ho, fun e he hb => h _ ((zmD ho).2 ⟨e, he, hb, rfl⟩)⟩
theorem zii {l : List Oper} {listed : Array Bool} (ht : zqe l = true) (hs : listed.size = l.length) (hr : Region.ready .any l.toArray listed = []) : ∀ j, j < l.length -> listed.getD j false = true := by
 intro j
 induction j using Nat.strongRecOn with
 | _ j ih =>
  intro hj
  cases h : listed.getD j false with
  | true => rfl
  | false =>
   have : j ∈ Region.ready .any l.toArray listed := (zdv hs).2 ⟨hj, h, fun k hk => by
    have h1 := List.all_eq_true.1 (List.all_eq_true.1 ht j (by simpa using hj)) k hk
    have hkj : k < j := by simpa [Nat.blt_eq] using h1
    exact ih k hkj (by omega)⟩
   rw [hr] at this
   exact absurd this znm
section
variable {P : Program} {l : List Oper} {N : Nat} {Q : Exit -> Act -> World -> Prop} {done eff : List Nat} {F : zeU} {w : World} {fr : List (Nat × Value)} {a b : Act} {listed : Array Bool}
theorem Rel.get_put {d : Option Nat} {v : Value} {a : Act} {s : Nat} (h : d ≠ some s) : (a.put d v).tmps[s]? = a.tmps[s]? := by
 cases d with
 | none => rfl
 | some d =>
  have : d ≠ s := fun e => h (by rw [e])
  simp only [Act.put]
  rw [Array.getElem?_setIfInBounds_ne this]
theorem zbQ {d : Option Nat} {v : Value} {a : Act} : (a.put d v).tmps.size = a.tmps.size := by
 cases d <;> simp [Act.put]
theorem qB {d : Option Nat} {v : Value} {a : Act} : (a.put d v).defers = a.defers := by
 cases d <;> simp [Act.put]
theorem zhH {d : Nat} {v : Value} {a : Act} (h : d < a.tmps.size) : (a.put (some d) v).tmps[d]? = some v := by
 simp [Act.put, h]
theorem zap {listed : Array Bool} {i j : Nat} (h : (listed.setIfInBounds i true).getD j false = false) : listed.getD j false = false := by
 cases hl : listed.getD j false with
 | false => rfl
 | true => rw [getD_set_true hl] at h; exact h
theorem zaG {listed : Array Bool} {i : Nat} (h : i < listed.size) : (listed.setIfInBounds i true).getD i false = true := by
 simp [h]
theorem zf5 (ht : zqe l = true) (hsel : l.all (fun o => vH o.op) = true)
  (cbn : ∀ listed a, Rel P l done eff F w listed a b -> Region.ready .any l.toArray listed = [] -> Q .normal a w)
  (cb : ∀ fuel listed a, Rel P l done eff F w listed a b -> cnt l listed <= fuel + 1 -> ∀ j ∈ Region.ready .any l.toArray listed, j ∉ done -> wpOp P l.toArray Q j (wpAny P .any l.toArray Q fuel (listed.setIfInBounds j true)) a w) :
  ∀ fuel listed a, Rel P l done eff F w listed a b -> cnt l listed <= fuel -> wpAny P .any l.toArray Q fuel listed a w := by
 intro fuel
 induction fuel with
 | zero =>
  intro listed a hR hc
  have hr : Region.ready .any l.toArray listed = [] := by
   rw [List.eq_nil_iff_forall_not_mem]
   intro j hj
   obtain ⟨h1, h2, _⟩ := (zdv hR.size).1 hj
   have := zig hR.size h1 h2
   omega
  exact ⟨hr, cbn _ _ hR hr⟩
 | succ fuel ih =>
  intro listed a hR hc
  refine ⟨fun hr => cbn _ _ hR hr, fun j hj => ?_⟩
  by_cases hd : j ∈ done
  ·obtain ⟨h1, h2, h3⟩ := (zdv hR.size).1 hj
   obtain ⟨o, v, ho, hs, hdst, hrun⟩ := hR.pend j hd h2
   have hagree : ∀ s ∈ lk l o, a.tmps[s]? = b.tmps[s]? := fun s hs' => hR.same s (fun k hk hkl e => by
    have := hR.ord j hd h2 k hk hkl s e (by unfold zgm; rw [ho]; exact hs')
    rw [h3 k this] at hkl
    cases hkl)
   have next : wpAny P .any l.toArray Q fuel (listed.setIfInBounds j true) (a.put o.dst v) w := by
    refine ih _ _ ⟨by simpa using hR.size, by rw [zbQ, hR.asz], by rw [qB, hR.adf], fun k hk => ?_, fun k hk q hq => ?_, fun k hk => getD_set_true (hR.eff k hk), fun s hs' => ?_, fun p hp hl => hR.facts p hp (zap hl), fun k hk hl => hR.pend k hk (zap hl),
     fun i hi hil k hk hkl => hR.ord i hi (zap hil) k hk (zap hkl)⟩ ?_
    ·by_cases e : j = k
     ·subst e; exact hd
     ·rw [getD_set_ne false e] at hk; exact hR.sub k hk
    ·by_cases e : j = k
     ·subst e; exact getD_set_true (h3 q hq)
     ·rw [getD_set_ne false e] at hk; exact getD_set_true (hR.down k hk q hq)
    ·by_cases e : o.dst = some s
     ·have hb := hdst s e
      have hlt : s < a.tmps.size := by rw [hR.asz]; exact (Array.getElem?_eq_some_iff.1 hb).1
      rw [e, zhH hlt, hb]
     ·rw [Rel.get_put e]
      refine hR.same s (fun k hk hkl hke => ?_)
      by_cases ejk : j = k
      ·subst ejk
       unfold zbw at hke
       rw [ho] at hke
       exact e hke
      ·exact hs' k hk (by rw [getD_set_ne false ejk]; exact hkl) hke
    ·have := zig hR.size h1 h2
     omega
   unfold wpOp
   rw [zaO, ho]
   simp only []
   rw [za7 hagree]
   rcases hrun with ⟨hw, hrun⟩ | ⟨hw, rfl⟩
   ·rw [if_pos hw]
    left
    unfold Oper.wp
    rw [zcA hs hagree]
    have : (execOp b.eval o).run P w = .ok (.value v) w := by
     rcases hrun with hrun | ⟨Φ, hF, hrun⟩
     ·exact hrun w
     ·exact hrun w (hR.facts _ hF h2)
    rw [this, Oper.upon_value]
    exact next
   ·rw [if_neg (by rw [hw]; exact Bool.false_ne_true)]
    exact next
  ·exact cb fuel listed a hR hc j hj hd
def zqn (P : Program) (l : List Oper) (Q : Exit -> Act -> World -> Prop) (done eff : List Nat) (F : zeU) (b : Act) (w : World) : Prop :=
 ∀ fuel listed a, Rel P l done eff F w listed a b -> cnt l listed <= fuel -> wpAny P .any l.toArray Q fuel listed a w
def OA (P : Program) (l : List Oper) (N : Nat) (Q : Exit -> Act -> World -> Prop) (done eff : List Nat) (F : zeU) (fr : List (Nat × Value)) (w : World) : Prop :=
 ∀ b, Rep N fr b -> zqn P l Q done eff F b w
def zij (l : List Oper) : Bool := zqe l && l.all (fun o => vH o.op)
theorem CW.plan {id : Nat} (hm : P.follows .mixedOrders = true) (h : ∀ w1, Chg [] w w1 -> OA P l N Q [] [] [] fr w1) : CW P N (.region id l.toArray true) Q fr w := fun a ha => by
 refine wp_region_any hm ?_
 refine h { w with drawn := w.drawn + 1 } ⟨rfl, rfl, rfl, Nat.le_refl _, fun _ _ _ => rfl⟩ a ha _ _ _ ⟨by simp, rfl, rfl, fun j hj => ?_, fun j hj => ?_, fun j hj => absurd hj znm, fun s _ => rfl, fun p hp => absurd hp znm, fun j hj => absurd hj znm, fun j hj => absurd hj znm⟩ ?_
 ·exfalso
  by_cases hlt : j < l.length
  ·simp [hlt] at hj
  ·simp [hlt] at hj
 ·exfalso
  by_cases hlt : j < l.length
  ·simp [hlt] at hj
  ·simp [hlt] at hj
 ·unfold cnt
  refine Nat.le_trans (List.length_filter_le _ _) ?_
  simp
def zmI (l : List Oper) (done eff : List Nat) (i : Nat) : Bool :=
 !mem? i done && (match zbw l i with
  | none => true
  | some d => !mem? d (zgm l i) && done.all (fun j => mem? j eff || (!mem? d (zgm l j) && !(zbw l j == some d)))) &&
 done.all (fun j => mem? j eff || mem? j (aft l i) || match zbw l j with
  | none => true
  | some s => !mem? s (zgm l i))
theorem not_mem? {n : Nat} {l : List Nat} (h : (!mem? n l) = true) : n ∉ l := fun hm => by rw [mem?_iff.2 hm] at h; cases h
theorem OA.add {i : Nat} {o : Oper} {v : Value} (fr2 : List (Nat × Value)) (F2 : zeU) (hl : vU l i = some o) (hck : zmI l done eff i = true) (hs : vH o.op = true)
  (hfr : ∀ b, Rep N fr b -> Rep N fr2 (b.put o.dst v))
  (hF : ∀ p ∈ F, p ∈ F2) (hF2 : ∀ p ∈ F2, p ∈ F \/ p.2 w)
  (hv : ∀ b, Rep N fr b -> (Region.wanted o (yielded l.toArray b.tmps) = true /\ ((∀ w, (execOp b.eval o).run P w = .ok (.value v) w) \/ ∃ Φ, (i, Φ) ∈ F2 /\ ∀ w, Φ w -> (execOp b.eval o).run P w = .ok (.value v) w)) \/
   (Region.wanted o (yielded l.toArray b.tmps) = false /\ v = undef))
  (hN : ∀ d, o.dst = some d -> d < N)
  (h : OA P l N Q (i :: done) eff F2 fr2 w) : OA P l N Q done eff F fr w := by
 intro b hb fuel listed a hR hc
 unfold zmI at hck
 simp only [zae] at hck
 obtain ⟨⟨hn, hd⟩, hlk⟩ := hck
 have hn := not_mem? hn
 have hdi : zbw l i = o.dst := by unfold zbw; rw [hl]; rfl
 have hli : zgm l i = lk l o := by unfold zgm; rw [hl]
 have hil : listed.getD i false = false := by
  cases hx : listed.getD i false with
  | false => rfl
  | true => exact absurd (hR.sub i hx) hn
 have noteff : ∀ j, listed.getD j false = false -> mem? j eff = false := fun j hj => by
  cases hm : mem? j eff with
  | false => rfl
  | true => rw [hR.eff j (mem?_iff.1 hm)] at hj; cases hj
 have hd1 : ∀ d, o.dst = some d -> d ∉ lk l o /\ ∀ j ∈ done, listed.getD j false = false -> d ∉ zgm l j /\ zbw l j ≠ some d := by
  intro d e
  rw [hdi, e] at hd
  simp only [zae] at hd
  refine ⟨by rw [<- hli]; exact not_mem? hd.1, fun j hj hjl => ?_⟩
  have := List.all_eq_true.1 hd.2 j hj
  rw [noteff j hjl, Bool.false_or, zae] at this
  refine ⟨not_mem? this.1, fun e2 => ?_⟩
  rw [e2] at this
  simp at this
 have hd2 : ∀ j ∈ done, listed.getD j false = false -> ∀ s, zbw l j = some s -> s ∈ zgm l i -> j ∈ aft l i := by
  intro j hj hjl s e hs'
  have := List.all_eq_true.1 hlk j hj
  rw [noteff j hjl, Bool.false_or, e] at this
  simp only [Bool.or_eq_true] at this
  rcases this with h1 | h1
  ·exact mem?_iff.1 h1
  ·exact absurd hs' (not_mem? h1)
 have keepL : ∀ (o' : Oper), (∀ d, o.dst = some d -> d ∉ lk l o') -> ∀ s ∈ lk l o', (b.put o.dst v).tmps[s]? = b.tmps[s]? := fun o' h' s hs' => Rel.get_put (fun e => h' s e hs')
 refine h (b.put o.dst v) (hfr b hb) fuel listed a ⟨hR.size, by rw [zbQ, hR.asz], by rw [qB, hR.adf], fun j hj => zcm _ (hR.sub j hj), hR.down, hR.eff, fun s hs' => ?_, fun p hp hl' => ?_, fun j hj hjl => ?_, ?_⟩ hc
 ·have hne : o.dst ≠ some s := fun e => hs' i zcs hil (by rw [hdi, e])
  rw [Rel.get_put hne]
  exact hR.same s (fun j hj => hs' j (zcm _ hj))
 ·rcases hF2 p hp with h1 | h1
  ·exact hR.facts p h1 hl'
  ·exact h1
 ·rcases List.mem_cons.1 hj with rfl | hj
  ·have e1 := keepL o (fun d e => (hd1 d e).1)
   refine ⟨o, v, hl, hs, fun d e => ?_, ?_⟩
   ·rw [e]
    exact zhH (by rw [hb.size]; exact hN d e)
   ·rw [za7 e1, zcA hs e1]
    exact hv b hb
  ·obtain ⟨o', v', ho', hs', hdst', hrun'⟩ := hR.pend j hj hjl
   have hlj : zgm l j = lk l o' := by unfold zgm; rw [ho']
   have hdj : zbw l j = o'.dst := by unfold zbw; rw [ho']; rfl
   have e1 := keepL o' (fun d e => by rw [<- hlj]; exact ((hd1 d e).2 j hj hjl).1)
   refine ⟨o', v', ho', hs', fun d e => ?_, ?_⟩
   ·rw [Rel.get_put (fun e2 => ((hd1 d e2).2 j hj hjl).2 (by rw [hdj, e]))]
    exact hdst' d e
   ·rw [za7 e1, zcA hs' e1]
    rcases hrun' with ⟨h1, h2 | ⟨Φ, h2, h3⟩⟩ | h1
    ·exact .inl ⟨h1, .inl h2⟩
    ·exact .inl ⟨h1, .inr ⟨Φ, hF _ h2, h3⟩⟩
    ·exact .inr h1
 ·intro i' hi' hil' j hj hjl s e hs'
  rcases List.mem_cons.1 hi' with rfl | hi2
  ·rcases List.mem_cons.1 hj with rfl | hj2
   ·exfalso
    rw [hdi] at e
    rw [hli] at hs'
    exact (hd1 s e).1 hs'
   ·exact hd2 j hj2 hjl s e hs'
  ·rcases List.mem_cons.1 hj with rfl | hj2
   ·exfalso
    rw [hdi] at e
    exact ((hd1 s e).2 i' hi2 hil').1 hs'
   ·exact hR.ord i' hi2 hil' j hj2 hjl s e hs'
def zqo (l : List Oper) (done : List Nat) : Bool := (List.range l.length).all fun j => mem? j done
theorem OA.fin (hp : zij l = true) (hall : zqo l done = true) (h : QW N Q .normal fr w) : OA P l N Q done eff F fr w := by
 intro b hb
 unfold zij at hp
 rw [zae] at hp
 refine zf5 hp.1 hp.2 (fun listed a hR hr => ?_) (fun fuel listed a hR hc j hj hd => ?_)
 ·have hpr := zii hp.1 hR.size hr
  have same : ∀ s, a.tmps[s]? = b.tmps[s]? := fun s => hR.same s (fun j hj hjl e => by
   unfold zbw at e
   cases ho : vU l j with
   | none => rw [ho] at e; cases e
   | some o => rw [hpr j (zih ho)] at hjl; cases hjl)
  exact h a ⟨hR.asz.trans hb.size, hR.adf.trans hb.defers, fun i v hi => (same i).trans (hb.get i v hi)⟩
 ·obtain ⟨h1, _, _⟩ := (zdv hR.size).1 hj
  exact absurd (mem?_iff.1 (List.all_eq_true.1 hall j (by simpa using h1))) hd
def zqf (l : List Oper) (done eff : List Nat) (i : Nat) : Bool :=
 !mem? i done &&
 (List.range l.length).all (fun j => mem? j done || Nat.beq j i || (aft l j).any (fun k => !mem? k done)) &&
 done.all (fun j => mem? j eff || mem? j (znQ l i) || match zbw l j with
  | none => true
  | some s => !mem? s (zgm l i)) &&
 (match zbw l i with
  | none => true
  | some d => done.all (fun j => mem? j eff || mem? j (znQ l i) || (!mem? d (zgm l j) && !(zbw l j == some d))))
def zhr (l : List Oper) (i : Nat) (keep : List Nat) : zeU -> Bool
 | [] => true
 | p :: r => (mem? p.1 (znQ l i) || mem? p.1 keep) && zhr l i keep r
theorem zi4 {i : Nat} {keep : List Nat} (h : zhr l i keep F = true) : ∀ p ∈ F, p.1 ∈ znQ l i \/ p.1 ∈ keep := by
 induction F with
 | nil => intro p hp; exact absurd hp znm
 | cons q r ih =>
  unfold zhr at h
  rw [zae, Bool.or_eq_true] at h
  intro p hp
  rcases List.mem_cons.1 hp with rfl | hp
  ·exact h.1.imp mem?_iff.1 mem?_iff.1
  ·exact ih h.2 p hp
def zex (P : Program) (l : List Oper) (Q : Exit -> Act -> World -> Prop) (done eff : List Nat) (F : zeU) (e : Exit) (b : Act) (w : World) : Prop := match e with
 | .normal => holds F w /\ zqn P l Q done eff F b w
 | _ => False
def bare (o : Oper) : Oper := { o with guard := none }
theorem OA.act {i : Nat} {o : Oper} (keep : List Nat) (hp : zij l = true) (hl : vU l i = some o) (hg : gd l fr o = some true) (hck : zqf l done eff i = true) (hk : zhr l i keep F = true)
  (h : OW P [bare o] N (zex P l Q (i :: done) (i :: eff) (zd4 keep F)) 0 fr w) : OA P l N Q done eff F fr w := by
 intro b hb
 unfold zij at hp
 rw [zae] at hp
 unfold zqf at hck
 simp only [zae] at hck
 obtain ⟨⟨⟨hn, hsat⟩, hlk⟩, hd⟩ := hck
 have hn := not_mem? hn
 have hilt := zih hl
 have hs : vH o.op = true := List.all_eq_true.1 hp.2 o (zmg (zgy hl))
 have hdi : zbw l i = o.dst := by unfold zbw; rw [hl]; rfl
 have hli : zgm l i = lk l o := by unfold zgm; rw [hl]
 refine zf5 hp.1 hp.2 (fun listed a hR hr => ?_) (fun fuel listed a hR hc j hj hd' => ?_)
 ·exact absurd (hR.sub i (zii hp.1 hR.size hr i hilt)) hn
 obtain ⟨h1, h2, h3⟩ := (zdv hR.size).1 hj
 have h3' : ∀ k ∈ znQ l j, listed.getD k false = true := zfO (p := fun k => listed.getD k false = true) hR.down _ _ _ h3 (fun x hx => absurd hx znm)
 have noteff : ∀ j, listed.getD j false = false -> mem? j eff = false := fun j hj => by
  cases hm : mem? j eff with
  | false => rfl
  | true => rw [hR.eff j (mem?_iff.1 hm)] at hj; cases hj
 have e : j = i := by
  have := List.all_eq_true.1 hsat j (by simpa using h1)
  simp only [Bool.or_eq_true] at this
  rcases this with (h4 | h4) | h4
  ·exact absurd (mem?_iff.1 h4) hd'
  ·exact Nat.eq_of_beq_eq_true h4
  ·obtain ⟨k, hk1, hk2⟩ := List.any_eq_true.1 h4
   exact absurd (hR.sub k (h3 k hk1)) (not_mem? hk2)
 subst e
 have hagree : ∀ s ∈ lk l o, a.tmps[s]? = b.tmps[s]? := fun s hs' => hR.same s (fun k hk' hkl e => by
  have := List.all_eq_true.1 hlk k hk'
  rw [noteff k hkl, Bool.false_or, e] at this
  simp only [Bool.or_eq_true] at this
  rcases this with h4 | h4
  ·rw [h3' k (mem?_iff.1 h4)] at hkl; cases hkl
  ·exact absurd (by rw [hli]; exact hs') (not_mem? h4))
 have hd1 : ∀ d, o.dst = some d -> ∀ k ∈ done, listed.getD k false = false -> d ∉ zgm l k /\ zbw l k ≠ some d := by
  intro d e k hk' hkl
  rw [hdi, e] at hd
  have := List.all_eq_true.1 hd k hk'
  rw [noteff k hkl, Bool.false_or] at this
  simp only [Bool.or_eq_true, zae] at this
  rcases this with h4 | h4
  ·rw [h3' k (mem?_iff.1 h4)] at hkl; cases hkl
  ·refine ⟨not_mem? h4.1, fun e2 => ?_⟩
   rw [e2] at h4
   simp at h4
 have next : ∀ (v : Value) (w' : World) (a1 b1 : Act), a1.tmps = (a.put o.dst v).tmps -> b1.tmps = (b.put o.dst v).tmps -> a1.defers = b1.defers -> zex P l Q (j :: done) (j :: eff) (zd4 keep F) .normal b1 w' ->
   wpAny P .any l.toArray Q fuel (listed.setIfInBounds j true) a1 w' := by
  intro v w' a1 b1 ea eb ed hA
  obtain ⟨hf, hA⟩ := hA
  have isz : j < listed.size := by rw [hR.size]; exact h1
  refine hA fuel _ a1 ⟨by simpa using hR.size, by rw [ea, eb, zbQ, zbQ, hR.asz], ed, fun k hk' => ?_, fun k hk' q hq => ?_, fun k hk' => ?_, fun s hs' => ?_, fun p hp' _ => zi1 hf p hp', fun k hk' hkl => ?_, ?_⟩ ?_
  ·by_cases e : j = k
   ·subst e; exact zcs
   ·rw [getD_set_ne false e] at hk'; exact zcm _ (hR.sub k hk')
  ·by_cases e : j = k
   ·subst e; exact getD_set_true (h3 q hq)
   ·rw [getD_set_ne false e] at hk'; exact getD_set_true (hR.down k hk' q hq)
  ·rcases List.mem_cons.1 hk' with rfl | hk'
   ·exact zaG isz
   ·exact getD_set_true (hR.eff k hk')
  ·rw [ea, eb]
   by_cases e : o.dst = some s
   ·rw [e]
    by_cases hlt : s < b.tmps.size
    ·rw [zhH hlt, zhH (by rw [hR.asz]; exact hlt)]
    ·rw [Array.getElem?_eq_none (by rw [zbQ, hR.asz]; omega), Array.getElem?_eq_none (by rw [zbQ]; omega)]
   ·rw [Rel.get_put e, Rel.get_put e]
    exact hR.same s (fun k hk' hkl => hs' k (zcm _ hk') (by
     have : j ≠ k := fun e2 => hd' (by rw [e2]; exact hk')
     rw [getD_set_ne false this]
     exact hkl))
  ·rcases List.mem_cons.1 hk' with rfl | hk'
   ·rw [zaG isz] at hkl; cases hkl
   have hkl := zap hkl
   obtain ⟨o', v', ho', hs', hdst', hrun'⟩ := hR.pend k hk' hkl
   have hlj : zgm l k = lk l o' := by unfold zgm; rw [ho']
   have hdj : zbw l k = o'.dst := by unfold zbw; rw [ho']; rfl
   have e1 : ∀ s ∈ lk l o', b1.tmps[s]? = b.tmps[s]? := fun s hs2 => by
    rw [eb]
    exact Rel.get_put (fun e => (hd1 s e k hk' hkl).1 (by rw [hlj]; exact hs2))
   refine ⟨o', v', ho', hs', fun d e => ?_, ?_⟩
   ·rw [eb, Rel.get_put (fun e2 => (hd1 d e2 k hk' hkl).2 (by rw [hdj, e]))]
    exact hdst' d e
   ·rw [za7 e1, zcA hs' e1]
    rcases hrun' with ⟨g1, g2 | ⟨Φ, g2, g3⟩⟩ | g1
    ·exact .inl ⟨g1, .inl g2⟩
    ·refine .inl ⟨g1, .inr ⟨Φ, zi2 g2 ?_, g3⟩⟩
     rcases zi4 hk _ g2 with h4 | h4
     ·rw [h3' k h4] at hkl; cases hkl
     ·exact h4
    ·exact .inr g1
  ·intro i' hi' hil' k hk' hkl s e hs'
   rcases List.mem_cons.1 hi' with rfl | hi'
   ·rw [zaG isz] at hil'; cases hil'
   rcases List.mem_cons.1 hk' with rfl | hk'
   ·rw [zaG isz] at hkl; cases hkl
   exact hR.ord i' hi' (zap hil') k hk' (zap hkl) s e hs'
  ·have := zig hR.size h1 h2
   omega
 have hb1 := h b hb
 have hwant : Region.wanted o (yielded l.toArray b.tmps) = true := xO hg hb
 have hb2 : (bare o).wp P b w (fun a w => zex P l Q (j :: done) (j :: eff) (zd4 keep F) .normal a w) (zex P l Q (j :: done) (j :: eff) (zd4 keep F)) := by
  have : wpList P [bare o].toArray (zex P l Q (j :: done) (j :: eff) (zd4 keep F)) [bare o] b w := hb1
  unfold wpList at this
  rw [if_pos (show Region.wanted (bare o) (yielded [bare o].toArray b.tmps) = true from rfl)] at this
  rcases this with h4 | ⟨_, a', w', h4⟩
  ·exact h4
  ·exact h4.elim
 unfold wpOp
 rw [zaO, hl]
 simp only []
 rw [za7 hagree, if_pos hwant]
 left
 unfold Oper.wp at hb2 |-
 have hex : execOp b.eval (bare o) = execOp a.eval o := by
  rw [zcA hs hagree]
  rfl
 rw [hex] at hb2
 generalize (execOp a.eval o).run P w = r at hb2 |-
 cases r with
 | ok n w' =>
  cases n with
  | value v => exact next v w' _ _ rfl rfl (by rw [qB, qB, hR.adf]) hb2
  | skip => exact next undef w' _ _ rfl rfl (by rw [qB, qB, hR.adf]) hb2
  | defer d => exact next undef w' _ _ (by cases ho : o.dst <;> rfl) (by cases ho : o.dst <;> simp [bare, ho, Act.put]) (by rw [qB, qB, hR.adf]) hb2
  | enter f args =>
   refine Calls.mono hb2 (fun e w'' he => ?_)
   cases e with
   | returned v => exact next v w'' _ _ rfl rfl (by rw [qB, qB, hR.adf]) he
   | panicked c => exact he.elim
   | outgrown => obtain ⟨_, _, he⟩ := he; exact he.elim
  | row row args => exact Rows.mono hb2 (fun v w'' he => next v w'' _ _ rfl rfl (by rw [qB, qB, hR.adf]) he)
  | _ => exact hb2.elim
 | halt x w' =>
  cases x with
  | panic v => exact hb2.elim
  | _ => exact hb2.elim
def zqp (l : List Oper) (done is : List Nat) : Bool := (List.range l.length).all (fun j => mem? j done || mem? j is || (aft l j).any (fun k => !mem? k done))
def zk8 (l : List Oper) (done eff : List Nat) (i : Nat) : Bool :=
 !mem? i done &&
 done.all (fun j => mem? j eff || mem? j (znQ l i) || match zbw l j with
  | none => true
  | some s => !mem? s (zgm l i)) &&
 (match zbw l i with
  | none => true
  | some d => done.all (fun j => mem? j eff || mem? j (znQ l i) || (!mem? d (zgm l j) && !(zbw l j == some d))))
def Alt (P : Program) (l : List Oper) (N : Nat) (Q : Exit -> Act -> World -> Prop) (done eff : List Nat) (F : zeU) (fr : List (Nat × Value)) (w : World) (i : Nat) : Prop :=
 ∃ (o : Oper) (keep : List Nat), vU l i = some o /\ gd l fr o = some true /\ zk8 l done eff i = true /\ zhr l i keep F = true /\ OW P [bare o] N (zex P l Q (i :: done) (i :: eff) (zd4 keep F)) 0 fr w
theorem Alt.of {i : Nat} {o : Oper} (keep : List Nat) (hl : vU l i = some o) (hg : gd l fr o = some true) (hck : zk8 l done eff i = true) (hk : zhr l i keep F = true)
 (h : OW P [bare o] N (zex P l Q (i :: done) (i :: eff) (zd4 keep F)) 0 fr w) : Alt P l N Q done eff F fr w i := ⟨o, keep, hl, hg, hck, hk, h⟩
theorem znz {p : Nat -> Prop} : ∀ i, i ∈ ([] : List Nat) -> p i := fun i h => absurd h znm
theorem zi5 {p : Nat -> Prop} {a : Nat} {r : List Nat} (h : p a) (hr : ∀ i, i ∈ r -> p i) : ∀ i, i ∈ a :: r -> p i := fun i hi => by
 rcases List.mem_cons.1 hi with rfl | hi
 ·exact h
 ·exact hr i hi
theorem OA.acts (is : List Nat) (i0 : Nat) (hp : zij l = true) (hi0 : mem? i0 is && !mem? i0 done && Nat.blt i0 l.length = true) (hsat : zqp l done is = true)
  (hall : ∀ i, i ∈ is -> Alt P l N Q done eff F fr w i) : OA P l N Q done eff F fr w := by
 intro b hb
 unfold zij at hp
 rw [zae] at hp
 simp only [zae] at hi0
 refine zf5 hp.1 hp.2 (fun listed a hR hr => ?_) (fun fuel listed a hR hc j hj hd' => ?_)
 ·exact absurd (hR.sub i0 (zii hp.1 hR.size hr i0 (by simpa [Nat.blt_eq] using hi0.2))) (not_mem? hi0.1.2)
 obtain ⟨h1, h2, h3⟩ := (zdv hR.size).1 hj
 have h3' : ∀ k ∈ znQ l j, listed.getD k false = true := zfO (p := fun k => listed.getD k false = true) hR.down _ _ _ h3 (fun x hx => absurd hx znm)
 have noteff : ∀ j, listed.getD j false = false -> mem? j eff = false := fun j hj => by
  cases hm : mem? j eff with
  | false => rfl
  | true => rw [hR.eff j (mem?_iff.1 hm)] at hj; cases hj
 have e : j ∈ is := by
  have := List.all_eq_true.1 hsat j (by simpa using h1)
  simp only [Bool.or_eq_true] at this
  rcases this with (h4 | h4) | h4
  ·exact absurd (mem?_iff.1 h4) hd'
  ·exact mem?_iff.1 h4
  ·obtain ⟨k, hk1, hk2⟩ := List.any_eq_true.1 h4
   exact absurd (hR.sub k (h3 k hk1)) (not_mem? hk2)
 obtain ⟨o, keep, hl, hg, hck, hk, h⟩ := hall j e
 unfold zk8 at hck
 simp only [zae] at hck
 obtain ⟨⟨hn, hlk⟩, hd⟩ := hck
 have hn := not_mem? hn
 have hs : vH o.op = true := List.all_eq_true.1 hp.2 o (zmg (zgy hl))
 have hdi : zbw l j = o.dst := by unfold zbw; rw [hl]; rfl
 have hli : zgm l j = lk l o := by unfold zgm; rw [hl]
 have hagree : ∀ s ∈ lk l o, a.tmps[s]? = b.tmps[s]? := fun s hs' => hR.same s (fun k hk' hkl e => by
  have := List.all_eq_true.1 hlk k hk'
  rw [noteff k hkl, Bool.false_or, e] at this
  simp only [Bool.or_eq_true] at this
  rcases this with h4 | h4
  ·rw [h3' k (mem?_iff.1 h4)] at hkl; cases hkl
  ·exact absurd (by rw [hli]; exact hs') (not_mem? h4))
 have hd1 : ∀ d, o.dst = some d -> ∀ k ∈ done, listed.getD k false = false -> d ∉ zgm l k /\ zbw l k ≠ some d := by
  intro d e k hk' hkl
  rw [hdi, e] at hd
  have := List.all_eq_true.1 hd k hk'
  rw [noteff k hkl, Bool.false_or] at this
  simp only [Bool.or_eq_true, zae] at this
  rcases this with h4 | h4
  ·rw [h3' k (mem?_iff.1 h4)] at hkl; cases hkl
  ·refine ⟨not_mem? h4.1, fun e2 => ?_⟩
   rw [e2] at h4
   simp at h4
 have next : ∀ (v : Value) (w' : World) (a1 b1 : Act), a1.tmps = (a.put o.dst v).tmps -> b1.tmps = (b.put o.dst v).tmps -> a1.defers = b1.defers -> zex P l Q (j :: done) (j :: eff) (zd4 keep F) .normal b1 w' ->
   wpAny P .any l.toArray Q fuel (listed.setIfInBounds j true) a1 w' := by
  intro v w' a1 b1 ea eb ed hA
  obtain ⟨hf, hA⟩ := hA
  have isz : j < listed.size := by rw [hR.size]; exact h1
  refine hA fuel _ a1 ⟨by simpa using hR.size, by rw [ea, eb, zbQ, zbQ, hR.asz], ed, fun k hk' => ?_, fun k hk' q hq => ?_, fun k hk' => ?_, fun s hs' => ?_, fun p hp' _ => zi1 hf p hp', fun k hk' hkl => ?_, ?_⟩ ?_
  ·by_cases e : j = k
   ·subst e; exact zcs
   ·rw [getD_set_ne false e] at hk'; exact zcm _ (hR.sub k hk')
  ·by_cases e : j = k
   ·subst e; exact getD_set_true (h3 q hq)
   ·rw [getD_set_ne false e] at hk'; exact getD_set_true (hR.down k hk' q hq)
  ·rcases List.mem_cons.1 hk' with rfl | hk'
   ·exact zaG isz
   ·exact getD_set_true (hR.eff k hk')
  ·rw [ea, eb]
   by_cases e : o.dst = some s
   ·rw [e]
    by_cases hlt : s < b.tmps.size
    ·rw [zhH hlt, zhH (by rw [hR.asz]; exact hlt)]
    ·rw [Array.getElem?_eq_none (by rw [zbQ, hR.asz]; omega), Array.getElem?_eq_none (by rw [zbQ]; omega)]
   ·rw [Rel.get_put e, Rel.get_put e]
    exact hR.same s (fun k hk' hkl => hs' k (zcm _ hk') (by
     have : j ≠ k := fun e2 => hd' (by rw [e2]; exact hk')
     rw [getD_set_ne false this]
     exact hkl))
  ·rcases List.mem_cons.1 hk' with rfl | hk'
   ·rw [zaG isz] at hkl; cases hkl
   have hkl := zap hkl
   obtain ⟨o', v', ho', hs', hdst', hrun'⟩ := hR.pend k hk' hkl
   have hlj : zgm l k = lk l o' := by unfold zgm; rw [ho']
   have hdj : zbw l k = o'.dst := by unfold zbw; rw [ho']; rfl
   have e1 : ∀ s ∈ lk l o', b1.tmps[s]? = b.tmps[s]? := fun s hs2 => by
    rw [eb]
    exact Rel.get_put (fun e => (hd1 s e k hk' hkl).1 (by rw [hlj]; exact hs2))
   refine ⟨o', v', ho', hs', fun d e => ?_, ?_⟩
   ·rw [eb, Rel.get_put (fun e2 => (hd1 d e2 k hk' hkl).2 (by rw [hdj, e]))]
    exact hdst' d e
   ·rw [za7 e1, zcA hs' e1]
    rcases hrun' with ⟨g1, g2 | ⟨Φ, g2, g3⟩⟩ | g1
    ·exact .inl ⟨g1, .inl g2⟩
    ·refine .inl ⟨g1, .inr ⟨Φ, zi2 g2 ?_, g3⟩⟩
     rcases zi4 hk _ g2 with h4 | h4
     ·rw [h3' k h4] at hkl; cases hkl
     ·exact h4
    ·exact .inr g1
  ·intro i' hi' hil' k hk' hkl s e hs'
   rcases List.mem_cons.1 hi' with rfl | hi'
   ·rw [zaG isz] at hil'; cases hil'
   rcases List.mem_cons.1 hk' with rfl | hk'
   ·rw [zaG isz] at hkl; cases hkl
   exact hR.ord i' hi' (zap hil') k hk' (zap hkl) s e hs'
  ·have := zig hR.size h1 h2
   omega
 have hb1 := h b hb
 have hwant : Region.wanted o (yielded l.toArray b.tmps) = true := xO hg hb
 have hb2 : (bare o).wp P b w (fun a w => zex P l Q (j :: done) (j :: eff) (zd4 keep F) .normal a w) (zex P l Q (j :: done) (j :: eff) (zd4 keep F)) := by
  have : wpList P [bare o].toArray (zex P l Q (j :: done) (j :: eff) (zd4 keep F)) [bare o] b w := hb1
  unfold wpList at this
  rw [if_pos (show Region.wanted (bare o) (yielded [bare o].toArray b.tmps) = true from rfl)] at this
  rcases this with h4 | ⟨_, a', w', h4⟩
  ·exact h4
  ·exact h4.elim
 unfold wpOp
 rw [zaO, hl]
 simp only []
 rw [za7 hagree, if_pos hwant]
 left
 unfold Oper.wp at hb2 |-
 have hex : execOp b.eval (bare o) = execOp a.eval o := by
  rw [zcA hs hagree]
  rfl
 rw [hex] at hb2
 generalize (execOp a.eval o).run P w = r at hb2 |-
 cases r with
 | ok n w' =>
  cases n with
  | value v => exact next v w' _ _ rfl rfl (by rw [qB, qB, hR.adf]) hb2
  | skip => exact next undef w' _ _ rfl rfl (by rw [qB, qB, hR.adf]) hb2
  | defer d => exact next undef w' _ _ (by cases ho : o.dst <;> rfl) (by cases ho : o.dst <;> simp [bare, ho, Act.put]) (by rw [qB, qB, hR.adf]) hb2
  | enter f args =>
   refine Calls.mono hb2 (fun e w'' he => ?_)
   cases e with
   | returned v => exact next v w'' _ _ rfl rfl (by rw [qB, qB, hR.adf]) he
   | panicked c => exact he.elim
   | outgrown => obtain ⟨_, _, he⟩ := he; exact he.elim
  | row row args => exact Rows.mono hb2 (fun v w'' he => next v w'' _ _ rfl rfl (by rw [qB, qB, hR.adf]) he)
  | _ => exact hb2.elim
 | halt x w' =>
  cases x with
  | panic v => exact hb2.elim
  | _ => exact hb2.elim
theorem OA.next {o : Oper} {F2 : zeU} (hf : holds F2 w) (h : OA P l N Q done eff F2 fr w) : OW P [o] N (zex P l Q done eff F2) 1 fr w :=
 OW.nil rfl (fun b hb => ⟨hf, h b hb⟩)
def zey (P : Program) (l : List Oper) (N : Nat) (eff : List Nat) : List Nat -> List Nat -> List (Nat × Value) -> Option (List (Nat × Value))
 | [], _, fr => some fr
 | i :: r, done, fr => match vU l i with
  | none => none
  | some o => match zmI l done eff i, vH o.op with
   | true, true => match o.dst with
    | none => match gd l fr o with
     | some false => zey P l N eff r (i :: done) fr
     | _ => none
    | some d => match Nat.blt d N with
     | false => none
     | true => match gd l fr o with
      | some true => match znp P fr o with
       | some v => zey P l N eff r (i :: done) ((d, v) :: fr)
       | none => none
      | some false => zey P l N eff r (i :: done) ((d, undef) :: fr)
      | none => none
   | _, _ => none
def zpL (is done : List Nat) : List Nat := match is with
 | [] => done
 | i :: r => zpL r (i :: done)
theorem zkr : ∀ (is done : List Nat) (fr : List (Nat × Value)) {fr2 : List (Nat × Value)}, zey P l N eff is done fr = some fr2 -> OA P l N Q (zpL is done) eff F fr2 w -> OA P l N Q done eff F fr w := by
 intro is
 induction is with
 | nil => intro done fr fr2 h k; simp only [zey, Option.some.injEq] at h; subst h; exact k
 | cons i r ih =>
  intro done fr fr2 h k
  unfold zey at h
  split at h
  ·cases h
  ·rename_i o ho
   split at h
   ·rename_i hck hsel
    split at h
    ·rename_i hd
     split at h
     ·rename_i hg
      refine OA.add (v := undef) fr F ho hck hsel (fun b hb => by rw [hd]; exact hb) (fun p hp => hp) (fun p hp => .inl hp) (fun b hb => .inr ⟨xO hg hb, rfl⟩) (fun d e => by rw [hd] at e; cases e) ?_
      exact ih _ _ h k
     ·cases h
    ·rename_i d hd
     split at h
     ·cases h
     ·rename_i hN
      have hN' : ∀ d', o.dst = some d' -> d' < N := fun d' e => by rw [hd] at e; cases e; simpa [Nat.blt_eq] using hN
      split at h
      ·rename_i hg
       split at h
       ·rename_i v hv
        refine OA.add (v := v) ((d, v) :: fr) F ho hck hsel (fun b hb => by rw [hd]; exact hb.put hN) (fun p hp => hp) (fun p hp => .inl hp) (fun b hb => .inl ⟨xO hg hb, .inl (fun w => zhc hv hb w)⟩) hN' ?_
        exact ih _ _ h k
       ·cases h
      ·rename_i hg
       refine OA.add (v := undef) ((d, undef) :: fr) F ho hck hsel (fun b hb => by rw [hd]; exact hb.put hN) (fun p hp => hp) (fun p hp => .inl hp) (fun b hb => .inr ⟨xO hg hb, rfl⟩) hN' ?_
       exact ih _ _ h k
      ·cases h
   ·cases h
theorem OA.pure (is : List Nat) (new : List (Nat × Value))
  (h : (zey P l N eff is done fr).map (fun fr2 => zf3 fr2 (zav [] (new ++ fr))) = some (zdp (zav [] (new ++ fr))))
  (k : OA P l N Q (zpL is done) eff F (new ++ fr) w) : OA P l N Q done eff F fr w := by
 cases hc' : zey P l N eff is done fr with
 | none => rw [hc'] at h; cases h
 | some fr2 =>
  rw [hc'] at h
  simp only [Option.map_some, Option.some.injEq] at h
  exact zkr is done fr hc' (fun a ha => k a (ha.agrees h))
theorem OA.val {i d : Nat} {o : Oper} {v : Value} (hl : vU l i = some o) (hck : zmI l done eff i = true) (hs : vH o.op = true) (hg : gd l fr o = some true) (hd : o.dst = some d) (hN : Nat.blt d N = true)
  (hr : ∀ b w, Rep N fr b -> (execOp b.eval o).run P w = .ok (.value v) w)
  (h : OA P l N Q (i :: done) eff F ((d, v) :: fr) w) : OA P l N Q done eff F fr w :=
 OA.add (v := v) ((d, v) :: fr) F hl hck hs (fun b hb => by rw [hd]; exact hb.put hN) (fun p hp => hp) (fun p hp => .inl hp) (fun b hb => .inl ⟨xO hg hb, .inl (fun w => hr b w hb)⟩)
  (fun d' e => by rw [hd] at e; cases e; simpa [Nat.blt_eq] using hN) h
theorem OA.sees {i d : Nat} {o : Oper} {v : Value} (Φ : World -> Prop) (hl : vU l i = some o) (hck : zmI l done eff i = true) (hs : vH o.op = true) (hg : gd l fr o = some true) (hd : o.dst = some d) (hN : Nat.blt d N = true)
  (hr : ∀ b w, Rep N fr b -> Φ w -> (execOp b.eval o).run P w = .ok (.value v) w) (hw : Φ w)
  (h : OA P l N Q (i :: done) eff ((i, Φ) :: F) ((d, v) :: fr) w) : OA P l N Q done eff F fr w :=
 OA.add (v := v) ((d, v) :: fr) ((i, Φ) :: F) hl hck hs (fun b hb => by rw [hd]; exact hb.put hN) (fun p hp => zcm _ hp)
  (fun p hp => by
   rcases List.mem_cons.1 hp with rfl | hp
   ·exact .inr hw
   ·exact .inl hp)
  (fun b hb => .inl ⟨xO hg hb, .inr ⟨Φ, zcs, fun w hw => hr b w hb hw⟩⟩)
  (fun d' e => by rw [hd] at e; cases e; simpa [Nat.blt_eq] using hN) h
theorem OA.split (s : Nat) {b : Bool} (hs : zc5 fr s = some (.bool b)) (ht : b = true -> OA P l N Q done eff F ((s, .bool true) :: fr) w) (hf : b = false -> OA P l N Q done eff F ((s, .bool false) :: fr) w) : OA P l N Q done eff F fr w := by
 cases b with
 | true => exact fun a ha => ht rfl a ⟨ha.size, ha.defers, fun j v hj => by
   rw [zam] at hj
   by_cases e : s = j
   ·subst e; rw [if_pos rfl] at hj; exact ha.get _ _ (hs.trans hj)
   ·rw [if_neg e] at hj; exact ha.get _ _ hj⟩
 | false => exact fun a ha => hf rfl a ⟨ha.size, ha.defers, fun j v hj => by
   rw [zam] at hj
   by_cases e : s = j
   ·subst e; rw [if_pos rfl] at hj; exact ha.get _ _ (hs.trans hj)
   ·rw [if_neg e] at hj; exact ha.get _ _ hj⟩
theorem OA.ld {i d : Nat} {t : TypeId} {x : Operand} {ty : TypeId} {pos : String} {af : Array Edge} {gdd : Option (Nat × Bool)} (hl : vU l i = some ⟨some d, .load t x, ty, pos, af, gdd⟩) (hck : zmI l done eff i = true)
  (hg : gd l fr ⟨some d, .load t x, ty, pos, af, gdd⟩ = some true) (hN : Nat.blt d N = true)
  {a : Addr} {v : Value} (hx : look fr x = some (.pointer (some a))) (hA : zbk P (isAgg t) = some false) (hv : w.cell? a = some v)
  (h : OA P l N Q (i :: done) eff ((i, fun w => w.cell? a = some v) :: F) ((d, v) :: fr) w) : OA P l N Q done eff F fr w := by
 refine OA.sees (fun w => w.cell? a = some v) hl hck rfl hg rfl hN (fun a w ha hv => ?_) hv h
 have e1 := ha.look hx
 simp [execOp, e1, zfM hA hv]
theorem OA.ldN {i d : Nat} {t : TypeId} {x : Operand} {ty : TypeId} {pos : String} {af : Array Edge} {gdd : Option (Nat × Bool)} (hl : vU l i = some ⟨some d, .load t x, ty, pos, af, gdd⟩) (hck : zmI l done eff i = true)
  (hg : gd l fr ⟨some d, .load t x, ty, pos, af, gdd⟩ = some true) (hN : Nat.blt d N = true)
  {b k : Nat} (cs : List Value) (hx : look fr x = some (.pointer (some ⟨b, k, none⟩))) (hA : zbk P (isAgg t) = some true) (hs : zbk P (sizeOf t) = some cs.length)
  (hv : ∀ j u, cs[j]? = some u -> w.cell? ⟨b, k + j, none⟩ = some u)
  (h : OA P l N Q (i :: done) eff ((i, fun w => ∀ j u, cs[j]? = some u -> w.cell? ⟨b, k + j, none⟩ = some u) :: F) ((d, .agg cs.toArray) :: fr) w) : OA P l N Q done eff F fr w := by
 refine OA.sees (fun w => ∀ j u, cs[j]? = some u -> w.cell? ⟨b, k + j, none⟩ = some u) hl hck rfl hg rfl hN (fun a w ha hv => ?_) hv h
 have e1 := ha.look hx
 simp [execOp, e1, zan hA hs hv]
end
end Go.Sx
namespace Go.Sx
open Go.RowKit
section
variable {P : Program} {N : Nat} {fr : List (Nat × Value)} {w : World}
theorem zhh {ty : TypeId} {a : Addr} {v : Value} (h : (Instr.loadAt ty (.pointer (some a))).run P w = .ok v w) : (loadVar ty a).run P w = .ok v w := by
 simpa [Instr.loadAt, Instr.sureAddr] using h
theorem QW.ret_ct {fn : Func} {R : Ending -> World -> Prop} {s0 : Nat} {v0 : Value} {y0 : TypeId} {a0 : Addr} {s1 : Nat} {v1 : Value} (hr : fn.results = #[.cell s0 y0, .tmp s1]) (h0 : zc5 fr s0 = some (.pointer (some a0))) (l0 : (Instr.loadAt y0 (.pointer (some a0))).run P w = .ok v0 w) (h1 : zc5 fr s1 = some v1)
  (h : R (.returned (.tuple #[v0, v1])) w) : QW N (bodyPost P fn R) .ret fr w := fun x hx => ⟨hx.defers, _, by
 have e : (results fn x.tmps).run P w = .ok (.tuple #[v0, v1]) w := by
  simp [results, hr, Array.getD_eq_getD_getElem?, hx.get _ _ h0, hx.get _ _ h1, zhh l0, asAddr, Sem.run_bind, Result.andThen]
 exact e, h⟩
def zb3 (x y : Int) : Int := if y < x then y else x
def zcC (x y : Int) : Int := if y > x then y else x
def zhG (s : ByteArray) (t : Int) : Option Int := match (if 0 <= t then s[t.toNat]? else none) with
 | some b => some (b.toNat : Int)
 | none => none
theorem znu {o : Oper} {t : TypeId} {x y : Operand} {s : ByteArray} {q c : Int} {kd : IntKind} (ho : o.op = .index t x y) (hx : look fr x = some (.string s)) (hy : look fr y = some (.int kd q))
  (ht : P.underlying t = some .string) (h : zhG s q = some c) : ∀ a w, Rep N fr a -> (execOp a.eval o).run P w = .ok (.value (.int .u8 c)) w := by
 intro a w ha
 have e1 := ha.look hx
 have e2 := ha.look hy
 unfold zhG at h
 split at h
 ·rename_i b hb
  cases h
  simp [execOp, ho, Instr.index, e1, e2, asIntOf, run_underlying ht, hb]
 ·cases h
theorem znv {o : Oper} {t : TypeId} {x y : Operand} {n : Nat} (e sz : Nat) {b k : Nat} {q : Int} {kd : IntKind} (ho : o.op = .indexAddr t x y) (hx : look fr x = some (.pointer (some ⟨b, k, none⟩))) (hy : look fr y = some (.int kd q))
  (h0 : 0 <= q) (h1 : q < (n : Int)) (ht : P.underlying t = some (.array n e)) (hs : zbk P (sizeOf e) = some sz) : ∀ a w, Rep N fr a -> (execOp a.eval o).run P w = .ok (.value (.pointer (some ⟨b, k + q.toNat * sz, none⟩))) w := by
 intro a w ha
 have e1 := ha.look hx
 have e2 := ha.look hy
 simp [execOp, ho, Instr.indexAt, Instr.sureAddr, e1, e2, asIntOf, run_underlying ht, h0, h1, xo hs, zbP]
end
def zgB (P : Program) (eqv : TypeId -> Value -> Value -> Option Bool) (xs ys : Array Value) : List Field -> Option Bool
 | [] => some true
 | f :: r => match f.name == "_", zbk P (part f.type xs f.offset), zbk P (part f.type ys f.offset) with
  | false, some x, some y => match eqv f.type x y, zgB P eqv xs ys r with
   | some b, some c => some (b && c)
   | _, _ => none
  | _, _, _ => none
def zk6 (P : Program) : Nat -> TypeId -> Value -> Value -> Option Bool
 | 0, _, _, _ => none
 | n + 1, t, x, y => match P.underlying t, x, y with
  | some (.int _), .int k a, .int k' b => if k = k' then some (a == b) else none
  | some .bool, .bool a, .bool b => some (a == b)
  | some .string, .string a, .string b => some (a == b)
  | some (.struct fs), .agg xs, .agg ys => match P.stoodInHeld t with
   | false => zgB P (zk6 P n) xs ys fs.toList
   | true => none
  | _, _, _ => none
theorem zk7 {P : Program} {eqv : TypeId -> Value -> Value -> Option Bool} {xs ys : Array Value} {d : Nat} {w : World} (he : ∀ t x y r, eqv t x y = some r -> (Op.equalIn d t x y).run P w = .ok r w) :
  ∀ {fs : List Field} {r : Bool}, zgB P eqv xs ys fs = some r -> (Op.eqFields d xs ys fs).run P w = .ok r w := by
 intro fs
 induction fs with
 | nil => intro r h; cases h; simp [Op.eqFields]
 | cons f fs ih =>
  intro r h
  unfold zgB at h
  split at h
  ·rename_i x y hn hx hy
   split at h
   ·rename_i b c hb hc
    cases h
    have hn' : f.name ≠ "_" := by simpa using hn
    have e1 := xo hx w
    have e2 := xo hy w
    have e3 := he _ _ _ _ hb
    have e4 := ih hc
    unfold Op.eqFields
    rw [if_pos hn']
    simp only [Sem.run_bind, e1, e2, e3, Result.andThen_ok]
    cases b with
    | true => simpa using e4
    | false => simp
   ·cases h
  ·cases h
theorem zi0 {P : Program} (w : World) : ∀ (n : Nat) {t : TypeId} {x y : Value} {r : Bool}, zk6 P n t x y = some r -> ∀ d, n <= d -> (Op.equalIn d t x y).run P w = .ok r w := by
 intro n
 induction n with
 | zero => intro t x y r h; cases h
 | succ n ih =>
  intro t x y r h d hd
  obtain ⟨d, rfl⟩ : ∃ e, d = e + 1 := ⟨d - 1, by omega⟩
  unfold zk6 at h
  split at h
  ·rename_i hu
   split at h
   ·rename_i hk
    cases h
    simp [Op.equalIn, run_underlying hu, hk]
   ·cases h
  ·rename_i hu
   cases h
   simp [Op.equalIn, run_underlying hu]
  ·rename_i hu
   cases h
   simp [Op.equalIn, run_underlying hu]
  ·rename_i fs xs ys hu
   split at h
   ·rename_i hp
    have hf : P.fieldsOf t = fs := by unfold Program.fieldsOf; rw [hu]
    rw [run_equalIn_struct w d t xs ys (by rw [hf]; exact hu) hp, hf]
    exact zk7 (fun t x y r h => ih h d (by omega)) h
   ·cases h
  ·cases h
section
variable {P : Program} {N : Nat} {fr : List (Nat × Value)}
theorem zoM {o : Oper} {t t2 : TypeId} {x y : Operand} {xs ys : Array Value} {r : Bool} (ho : o.op = .binOp .eql t x y t2) (hx : look fr x = some (.agg xs)) (hy : look fr y = some (.agg ys))
  (hm : P.eqGuardType P.depth t = false) (h : zk6 P 9 t (.agg xs) (.agg ys) = some r) : ∀ a w, Rep N fr a -> (execOp a.eval o).run P w = .ok (.value (.bool r)) w := by
 intro a w ha
 have e1 := ha.look hx
 have e2 := ha.look hy
 have e3 := run_eqGuard_agg (P := P) w .eql t x y xs ys hm
 have e4 := zi0 w 9 h 10000 (by omega)
 simp [execOp, ho, e1, e2, e3, run_eql_struct, e4]
theorem znw {o : Oper} {t t2 : TypeId} {x y : Operand} {xs ys : Array Value} {r : Bool} (ho : o.op = .binOp .neq t x y t2) (hx : look fr x = some (.agg xs)) (hy : look fr y = some (.agg ys))
  (hm : P.eqGuardType P.depth t = false) (h : zk6 P 9 t (.agg xs) (.agg ys) = some r) : ∀ a w, Rep N fr a -> (execOp a.eval o).run P w = .ok (.value (.bool (!r))) w := by
 intro a w ha
 have e1 := ha.look hx
 have e2 := ha.look hy
 have e3 := run_eqGuard_agg (P := P) w .neq t x y xs ys hm
 have e4 := zi0 w 9 h 10000 (by omega)
 simp [execOp, ho, e1, e2, e3, run_neq_struct, e4]
end
def cut {α : Type} (xs : List α) (lo hi : Int) : Option (List α) := if 0 <= lo /\ lo <= hi /\ hi <= xs.length then some ((xs.take hi.toNat).drop lo.toNat) else none
theorem zb9 {α : Type} {xs ys : List α} {lo hi : Int} (h : cut xs lo hi = some ys) : 0 <= lo /\ lo <= hi /\ hi <= xs.length /\ ys = (xs.take hi.toNat).drop lo.toNat := by
 unfold cut at h
 split at h
 ·rename_i hc
  cases h
  exact ⟨hc.1, hc.2.1, hc.2.2, rfl⟩
 ·cases h
theorem zhi {α : Type} {xs ys : List α} {lo hi : Int} (h : cut xs lo hi = some ys) : ys.length = hi.toNat - lo.toNat := by
 obtain ⟨h0, h1, h2, rfl⟩ := zb9 h
 rw [List.length_drop, List.length_take]
 omega
theorem zpA {α : Type} {xs ys : List α} {lo hi : Int} (h : cut xs lo hi = some ys) : ys.length <= xs.length := by
 obtain ⟨h0, h1, h2, rfl⟩ := zb9 h
 rw [List.length_drop, List.length_take]
 omega
theorem zoN {α : Type} {xs ys : List α} {hi t : Int} {x : α} (h : cut xs 0 hi = some ys) (hx : idx ys t = some x) : idx xs t = some x := by
 obtain ⟨h0, h1, h2, rfl⟩ := zb9 h
 obtain ⟨t0, t1, t2⟩ := qS hx
 unfold idx
 rw [if_pos t0]
 simp only [Int.toNat_zero, List.drop_zero] at t2 t1
 rw [List.getElem?_take] at t2
 split at t2
 ·exact t2
 ·cases t2
theorem St.cap {w0 w : World} {S0 : List Nat} {L : List Item} (h : St w0 S0 w L) (j : Nat) {α : Type} {a : Option Addr} {n c : Nat} {T : TypeId} {enc : α -> List Value} {sz : Nat} {xs : List α} (hj : L[j]? = some (jW (.slice a n c) T enc sz xs)) : xs.length <= c := by
 have hr := h.all j _ hj
 rcases hr.2 with ⟨hn, b, he⟩ | ⟨g, o, cap, cur, he, _, _, hnc, _⟩
 ·omega
 ·cases he
  exact hnc
section
variable {P : Program} {N : Nat} {fr : List (Nat × Value)}
theorem zmx {α : Type} {o : Oper} {t e : TypeId} {x y : Operand} {a : Option Addr} {n c : Nat} {q : Int} {kd : IntKind} {xs ys : List α} (sz : Nat) (ho : o.op = .slice t x none (some y) none) (hx : look fr x = some (.slice a n c)) (hy : look fr y = some (.int kd q))
  (hc : cut xs 0 q = some ys) (hcap : xs.length <= c) (ht : P.underlying t = some (.slice e)) (hs : zbk P (sizeOf e) = some sz) : ∀ b w, Rep N fr b -> (execOp b.eval o).run P w = .ok (.value (.slice a ys.length c)) w := by
 intro b w hb
 have e1 := hb.look hx
 have e2 := hb.look hy
 obtain ⟨h0, h1, h2, _⟩ := zb9 hc
 have hl := zhi hc
 have h3 : 0 <= q /\ q <= (c : Int) := ⟨h1, by omega⟩
 have e3 : q.toNat - 0 = ys.length := by simpa using hl.symm
 have e4 : (if c = 0 then a else a.map (fun x => x.add 0)) = a := by
  split
  ·rfl
  ·cases a with
   | none => rfl
   | some z => simp [Addr.add]
 simp [execOp, ho, Instr.sliceAt, Instr.slice, Instr.sliceBounds, Instr.sliceBound, run_underlying ht, e1, e2, asIntOf, h3, xo hs, hl, e4]
end
section
variable {P : Program} {N : Nat} {fr : List (Nat × Value)}
theorem znx {o : Oper} {t t2 e : TypeId} {x y : Operand} {a : Option Addr} {n c : Nat} (ho : o.op = .binOp .eql t x y t2) (hx : look fr x = some (.slice a n c)) (hy : look fr y = some (.slice none 0 0)) (ht : P.underlying t = some (.slice e)) :
  ∀ b w, Rep N fr b -> (execOp b.eval o).run P w = .ok (.value (.bool a.isNone)) w := by
 intro b w hb
 have e1 := hb.look hx
 have e2 := hb.look hy
 have e3 : (binOp .eql t (.slice a n c) (.slice none 0 0)).run P w = .ok (.bool a.isNone) w := by
  exact Lib.run_eql_slice_nil w t e a n c 0 0 ht
 simp [execOp, ho, e1, e2, eqGuard, e3]
end
def ze2 (k : IntKind) (x y : Int) : Int := k.wrap (BitVec.ofInt k.bits x &&& BitVec.ofInt k.bits y).toNat
def bOr (k : IntKind) (x y : Int) : Int := k.wrap (BitVec.ofInt k.bits x ||| BitVec.ofInt k.bits y).toNat
def zi8 (k : IntKind) (x y : Int) : Int := k.wrap (BitVec.ofInt k.bits x ^^^ BitVec.ofInt k.bits y).toNat
def zhj (k : IntKind) (x y : Int) : Int := k.wrap (BitVec.ofInt k.bits x &&& ~~~(BitVec.ofInt k.bits y)).toNat
def zfS (k : IntKind) (x y : Int) : Int := k.wrap (x * 2 ^ (min y.toNat k.bits))
def zbx (k : IntKind) (x y : Int) : Int := x.fdiv (2 ^ (min y.toNat k.bits))
def nn (y : Int) : Option Unit := if y < 0 then none else some ()
theorem zmy (x : Int) : ¬ qf x < 0 := by
 have e : qf x = x % 18446744073709551616 := rfl
 rw [e]; omega
theorem zpB {y : Int} {u : Unit} (h : nn y = some u) : ¬ y < 0 := by
 unfold nn at h
 split at h
 ·cases h
 ·assumption
section
variable {P : Program} {N : Nat} {fr : List (Nat × Value)}
theorem zmz {o : Oper} {t t2 : TypeId} {x y : Operand} {k yk : IntKind} {a b : Int} (ho : o.op = .binOp .shl t x y t2) (hx : look fr x = some (.int k a)) (hy : look fr y = some (.int yk b)) (hb : ¬ b < 0) :
  ∀ r w, Rep N fr r -> (execOp r.eval o).run P w = .ok (.value (.int k (zfS k a b))) w := by
 intro r w hr
 have e1 := hr.look hx
 have e2 := hr.look hy
 simp [execOp, ho, e1, e2, eqGuard, binOp, Op.shift, hb, zfS]
theorem zmA {o : Oper} {t t2 : TypeId} {x y : Operand} {k yk : IntKind} {a b : Int} (ho : o.op = .binOp .shr t x y t2) (hx : look fr x = some (.int k a)) (hy : look fr y = some (.int yk b)) (hb : ¬ b < 0) :
  ∀ r w, Rep N fr r -> (execOp r.eval o).run P w = .ok (.value (.int k (zbx k a b))) w := by
 intro r w hr
 have e1 := hr.look hx
 have e2 := hr.look hy
 simp [execOp, ho, e1, e2, eqGuard, binOp, Op.shift, hb, zbx]
end
end Go.Sx
namespace Go.Sx
open Go.RowKit
section
variable {w0 w : World} {S0 : List Nat} {L L' : List Item}
theorem St.repart (h : St w0 S0 w L) (h1 : ∀ (i : Nat) (it : Item), L'[i]? = some it -> it.Φ w /\ it.S.Nodup /\ ∀ x ∈ it.S, x ∈ fp L)
  (h2 : ∀ (i j : Nat) (a b : Item), i ≠ j -> L'[i]? = some a -> L'[j]? = some b -> ∀ x ∈ a.S, x ∉ b.S) : St w0 S0 w L' :=
 ⟨h.chg, fun i it hi => (h1 i it hi).1, fun i it hi => (h1 i it hi).2.1, h2, fun i it hi x hx => by
  obtain ⟨j, jt, hj, hb⟩ := vW.1 ((h1 i it hi).2.2 x hx)
  exact h.own j jt hj x hb⟩
theorem St.swap (h : St w0 S0 w L) (k : Nat) {A A' B : Item} (hk : L[k]? = some A) (hA : A'.Φ w) (hAn : A'.S.Nodup) (hAs : ∀ b ∈ A'.S, b ∈ A.S) (hB : B.Φ w) (hBn : B.S.Nodup) (hBs : ∀ b ∈ B.S, b ∈ A.S) (hd : ∀ b ∈ A'.S, b ∉ B.S) :
  St w0 S0 w (L.set k A' ++ [B]) := by
 have hlt : k < L.length := (zes.1 hk).1
 have cs : ∀ (m : Nat) (it : Item), (L.set k A' ++ [B])[m]? = some it -> (m = k /\ it = A') \/ (m = L.length /\ it = B) \/ (m ≠ k /\ m < L.length /\ L[m]? = some it) := by
  intro m it hm
  rcases Nat.lt_or_ge m L.length with hml | hml
  ·rw [List.getElem?_append_left (by simpa using hml)] at hm
   by_cases e : k = m
   ·subst e
    rw [List.getElem?_set_self hlt] at hm
    exact .inl ⟨rfl, (Option.some.inj hm).symm⟩
   ·rw [List.getElem?_set_ne e] at hm
    exact .inr (.inr ⟨fun x => e x.symm, hml, hm⟩)
  ·rw [List.getElem?_append_right (by simpa using hml)] at hm
   have e : m = L.length := by
    have := (zes.1 hm).1
    simp at this
    omega
   subst e
   simp at hm
   exact .inr (.inl ⟨rfl, hm.symm⟩)
 refine h.repart (fun m it hm => ?_) (fun m n a b hmn hm hn x hxa hxb => ?_)
 ·rcases cs m it hm with ⟨_, rfl⟩ | ⟨_, rfl⟩ | ⟨_, _, hm⟩
  ·exact ⟨hA, hAn, fun x hx => vW.2 ⟨k, _, hk, hAs x hx⟩⟩
  ·exact ⟨hB, hBn, fun x hx => vW.2 ⟨k, _, hk, hBs x hx⟩⟩
  ·exact ⟨h.all m it hm, h.nd m it hm, fun x hx => vW.2 ⟨m, it, hm, hx⟩⟩
 ·rcases cs m a hm with ⟨e1, rfl⟩ | ⟨e1, rfl⟩ | ⟨m1, m2, hm2⟩ <;> rcases cs n b hn with ⟨e2, rfl⟩ | ⟨e2, rfl⟩ | ⟨n1, n2, hn2⟩
  ·omega
  ·exact hd x hxa hxb
  ·exact h.apart k n A b (fun e => n1 e.symm) hk hn2 x (hAs x hxa) hxb
  ·exact hd x hxb hxa
  ·omega
  ·exact h.apart k n A b (fun e => n1 e.symm) hk hn2 x (hBs x hxa) hxb
  ·exact h.apart m k a A m1 hm2 hk x hxa (hAs x hxb)
  ·exact h.apart m k a A m1 hm2 hk x hxa (hBs x hxb)
  ·exact h.apart m n a b hmn hm2 hn2 x hxa hxb
theorem St.fuse (h : St w0 S0 w L) (k j : Nat) (hkj : Nat.beq k j = false) {A B C : Item} (hk : L[k]? = some A) (hj : L[j]? = some B) (hC : C.Φ w) (hCn : C.S.Nodup) (hCs : ∀ b ∈ C.S, b ∈ A.S \/ b ∈ B.S) :
  St w0 S0 w ((L.set k C).set j zdr) := by
 have hne : k ≠ j := Nat.ne_of_beq_eq_false hkj
 have hlk : k < L.length := (zes.1 hk).1
 have hlj : j < L.length := (zes.1 hj).1
 have cs : ∀ (m : Nat) (it : Item), ((L.set k C).set j zdr)[m]? = some it -> (m = j /\ it = zdr) \/ (m = k /\ it = C) \/ (m ≠ k /\ m ≠ j /\ L[m]? = some it) := by
  intro m it hm
  by_cases e : j = m
  ·subst e
   rw [List.getElem?_set_self (by simpa using hlj)] at hm
   exact .inl ⟨rfl, (Option.some.inj hm).symm⟩
  ·rw [List.getElem?_set_ne e] at hm
   by_cases e2 : k = m
   ·subst e2
    rw [List.getElem?_set_self hlk] at hm
    exact .inr (.inl ⟨rfl, (Option.some.inj hm).symm⟩)
   ·rw [List.getElem?_set_ne e2] at hm
    exact .inr (.inr ⟨fun x => e2 x.symm, fun x => e x.symm, hm⟩)
 have inS : ∀ x ∈ C.S, ∃ m it, (m = k \/ m = j) /\ L[m]? = some it /\ x ∈ it.S := by
  intro x hx
  rcases hCs x hx with h1 | h1
  ·exact ⟨k, A, .inl rfl, hk, h1⟩
  ·exact ⟨j, B, .inr rfl, hj, h1⟩
 refine h.repart (fun m it hm => ?_) (fun m n a b hmn hm hn x hxa hxb => ?_)
 ·rcases cs m it hm with ⟨_, rfl⟩ | ⟨_, rfl⟩ | ⟨_, _, hm⟩
  ·exact ⟨trivial, List.nodup_nil, fun x hx => absurd hx znm⟩
  ·refine ⟨hC, hCn, fun x hx => ?_⟩
   obtain ⟨m', it, _, h1, h2⟩ := inS x hx
   exact vW.2 ⟨m', it, h1, h2⟩
  ·exact ⟨h.all m it hm, h.nd m it hm, fun x hx => vW.2 ⟨m, it, hm, hx⟩⟩
 ·rcases cs m a hm with ⟨_, rfl⟩ | ⟨rfl, rfl⟩ | ⟨m1, m2, hm2⟩
  ·exact absurd hxa znm
  ·rcases cs n b hn with ⟨_, rfl⟩ | ⟨rfl, rfl⟩ | ⟨n1, n2, hn2⟩
   ·exact absurd hxb znm
   ·exact hmn rfl
   ·obtain ⟨y, it, hy, h1, h2⟩ := inS x hxa
    exact h.apart y n it b (by rcases hy with rfl | rfl <;> omega) h1 hn2 x h2 hxb
  ·rcases cs n b hn with ⟨_, rfl⟩ | ⟨rfl, rfl⟩ | ⟨n1, n2, hn2⟩
   ·exact absurd hxb znm
   ·obtain ⟨y, it, hy, h1, h2⟩ := inS x hxb
    exact h.apart m y a it (by rcases hy with rfl | rfl <;> omega) hm2 h1 x hxa h2
   ·exact h.apart m n a b hmn hm2 hn2 x hxa hxb
theorem St.turn (h : St w0 S0 w L) (k : Nat) {A A' : Item} (hk : L[k]? = some A) (hA : A'.Φ w) (hS : A'.S = A.S) : St w0 S0 w (L.set k A') := by
 have h2 := h.swap k (A' := A') (B := zdr) hk hA (by rw [hS]; exact h.nd k A hk) (by rw [hS]; exact fun _ hb => hb) trivial List.nodup_nil (fun b hb => absurd hb znm) (fun b _ hb => absurd hb znm)
 have hl : (L.set k A').length <= (L.set k A' ++ [zdr]).length := by simp
 refine h2.repart (fun m it hm => ?_) (fun m n a b hmn hm hn => ?_)
 ·have hm' : (L.set k A' ++ [zdr])[m]? = some it := by rw [List.getElem?_append_left (zes.1 hm).1]; exact hm
  exact ⟨h2.all m it hm', h2.nd m it hm', fun x hx => vW.2 ⟨m, it, hm', hx⟩⟩
 ·exact h2.apart m n a b hmn (by rw [List.getElem?_append_left (zes.1 hm).1]; exact hm) (by rw [List.getElem?_append_left (zes.1 hn).1]; exact hn)
end
def vR (w : World) (S : List Nat) (B : List Item) : Prop :=
 (∀ (i : Nat) (it : Item), B[i]? = some it -> it.Φ w /\ it.S.Nodup /\ ∀ b ∈ it.S, b ∈ S) /\ ∀ (i j : Nat) (a b : Item), i ≠ j -> B[i]? = some a -> B[j]? = some b -> ∀ x ∈ a.S, x ∉ b.S
section
variable {w0 w : World} {S0 S S1 S2 : List Nat} {L L' B B1 B2 : List Item}
theorem vR.nil : vR w S [] := ⟨fun i it h => by simp at h, fun i j a b _ h => by simp at h⟩
theorem vD {β : Type} {l m : List β} {i : Nat} {u : β} (hi : (l ++ m)[i]? = some u) : (i < l.length /\ l[i]? = some u) \/ (l.length <= i /\ m[i - l.length]? = some u) := by
 rcases Nat.lt_or_ge i l.length with hlt | hge
 ·rw [List.getElem?_append_left hlt] at hi; exact .inl ⟨hlt, hi⟩
 ·rw [List.getElem?_append_right hge] at hi; exact .inr ⟨hge, hi⟩
theorem vR.cons {it : Item} (h1 : it.Φ w) (h2 : it.S.Nodup) (h3 : ∀ b ∈ it.S, b ∈ S) (hd : ∀ b ∈ it.S, b ∉ S2) (h : vR w S2 B) (hs : ∀ b ∈ S2, b ∈ S) : vR w S (it :: B) := by
 refine ⟨fun i x hi => ?_, fun i j a b hij hi hj y hy => ?_⟩
 ·cases i with
  | zero => simp at hi; subst hi; exact ⟨h1, h2, h3⟩
  | succ i => obtain ⟨a1, a2, a3⟩ := h.1 i x (by simpa using hi); exact ⟨a1, a2, fun b hb => hs b (a3 b hb)⟩
 ·cases i with
  | zero =>
   cases j with
   | zero => exact absurd rfl hij
   | succ j =>
    simp at hi; subst hi
    exact fun hb => hd y hy ((h.1 j b (by simpa using hj)).2.2 y hb)
  | succ i =>
   cases j with
   | zero =>
    simp at hj; subst hj
    exact fun hb => hd y hb ((h.1 i a (by simpa using hi)).2.2 y hy)
   | succ j => exact h.2 i j a b (by omega) (by simpa using hi) (by simpa using hj) y hy
theorem St.burst {A : Item} (h : St w0 S0 w L) (j : Nat) (hj : L[j]? = some A) (hB : vR w A.S B) : St w0 S0 w (L.set j zdr ++ B) := by
 have hlt : j < L.length := (zes.1 hj).1
 have cs : ∀ (m : Nat) (it : Item), (L.set j zdr ++ B)[m]? = some it -> (it = zdr) \/ (m ≠ j /\ m < L.length /\ L[m]? = some it) \/ (L.length <= m /\ B[m - L.length]? = some it) := by
  intro m it hm
  rcases vD hm with ⟨h1, h2⟩ | ⟨h1, h2⟩
  ·by_cases e : j = m
   ·subst e; rw [List.getElem?_set_self hlt] at h2; exact .inl (Option.some.inj h2).symm
   ·rw [List.getElem?_set_ne e] at h2; exact .inr (.inl ⟨fun x => e x.symm, by simpa using h1, h2⟩)
  ·rw [List.length_set] at h1 h2; exact .inr (.inr ⟨h1, h2⟩)
 refine h.repart (fun m it hm => ?_) (fun m n a b hmn hm hn x hxa hxb => ?_)
 ·rcases cs m it hm with rfl | ⟨_, _, hm⟩ | ⟨_, hm⟩
  ·exact ⟨trivial, List.nodup_nil, fun x hx => absurd hx znm⟩
  ·exact ⟨h.all m it hm, h.nd m it hm, fun x hx => vW.2 ⟨m, it, hm, hx⟩⟩
  ·obtain ⟨a1, a2, a3⟩ := hB.1 _ it hm
   exact ⟨a1, a2, fun x hx => vW.2 ⟨j, A, hj, a3 x hx⟩⟩
 ·rcases cs m a hm with rfl | ⟨m1, m2, hm2⟩ | ⟨m1, hm2⟩
  ·exact absurd hxa znm
  ·rcases cs n b hn with rfl | ⟨n1, n2, hn2⟩ | ⟨n1, hn2⟩
   ·exact absurd hxb znm
   ·exact h.apart m n a b hmn hm2 hn2 x hxa hxb
   ·exact h.apart m j a A m1 hm2 hj x hxa ((hB.1 _ b hn2).2.2 x hxb)
  ·rcases cs n b hn with rfl | ⟨n1, n2, hn2⟩ | ⟨n1, hn2⟩
   ·exact absurd hxb znm
   ·exact h.apart n j b A n1 hn2 hj x hxb ((hB.1 _ a hm2).2.2 x hxa)
   ·exact hB.2 (m - L.length) (n - L.length) a b (by omega) hm2 hn2 x hxa hxb
theorem St.gather (h : St w0 S0 w L) (ids rest : List Nat) (hd : zC (ids ++ rest) = true) {C : Item} (hC : C.Φ w) (hn : C.S.Nodup) (hs : ∀ b ∈ C.S, b ∈ fp (sel L ids)) : St w0 S0 w (sel L rest ++ [C]) := by
 have hr : ∀ (m : Nat) (it : Item), (sel L rest)[m]? = some it -> it = zdr \/ ∃ q, rest[m]? = some q /\ L[q]? = some it := by
  intro m it hm
  obtain ⟨q, h1, h2⟩ := zcy hm
  rcases vQ h2 with h2 | h2
  ·exact .inr ⟨q, h1, h2⟩
  ·exact .inl h2
 have hc : ∀ b ∈ C.S, ∃ (k q : Nat) (it : Item), ids[k]? = some q /\ L[q]? = some it /\ b ∈ it.S := by
  intro b hb
  obtain ⟨k, it, hk, hbs⟩ := vW.1 (hs b hb)
  obtain ⟨q, h1, h2⟩ := zcy hk
  rcases vQ h2 with h2 | rfl
  ·exact ⟨k, q, it, h1, h2, hbs⟩
  ·exact absurd hbs znm
 have cross : ∀ (m : Nat) (it : Item), (sel L rest)[m]? = some it -> ∀ x ∈ it.S, x ∉ C.S := by
  intro m it hm x hx hxc
  rcases hr m it hm with rfl | ⟨q, h1, h2⟩
  ·exact absurd hx znm
  ·obtain ⟨k, q', it', h3, h4, h5⟩ := hc x hxc
   have hlt : k < ids.length := (zes.1 h3).1
   have hne : q' ≠ q := zaE hd (i := k) (j := ids.length + m) (by omega) (by rw [List.getElem?_append_left hlt]; exact h3) (by rw [List.getElem?_append_right (by omega)]; simpa using h1)
   exact h.apart q' q it' it hne h4 h2 x h5 hx
 have cs : ∀ (m : Nat) (it : Item), (sel L rest ++ [C])[m]? = some it -> (m < (sel L rest).length /\ (sel L rest)[m]? = some it) \/ (m = (sel L rest).length /\ it = C) := by
  intro m it hm
  rcases vD hm with ⟨h1, h2⟩ | ⟨h1, h2⟩
  ·exact .inl ⟨h1, h2⟩
  ·have := (zes.1 h2).1
   simp at this
   rw [this] at h2
   simp at h2
   exact .inr ⟨by omega, h2.symm⟩
 refine h.repart (fun m it hm => ?_) (fun m n a b hmn hm hn' x hxa hxb => ?_)
 ·rcases cs m it hm with ⟨_, hm⟩ | ⟨_, rfl⟩
  ·rcases hr m it hm with rfl | ⟨q, h1, h2⟩
   ·exact ⟨trivial, List.nodup_nil, fun x hx => absurd hx znm⟩
   ·exact ⟨h.all q it h2, h.nd q it h2, fun x hx => vW.2 ⟨q, it, h2, hx⟩⟩
  ·refine ⟨hC, hn, fun x hx => ?_⟩
   obtain ⟨k, q', it', h3, h4, h5⟩ := hc x hx
   exact vW.2 ⟨q', it', h4, h5⟩
 ·rcases cs m a hm with ⟨_, hm2⟩ | ⟨m1, rfl⟩
  ·rcases cs n b hn' with ⟨_, hn2⟩ | ⟨_, rfl⟩
   ·rcases hr m a hm2 with rfl | ⟨q, h1, h2⟩
    ·exact absurd hxa znm
    ·rcases hr n b hn2 with rfl | ⟨q', h3, h4⟩
     ·exact absurd hxb znm
     ·have hne : q ≠ q' := zaE hd (i := ids.length + m) (j := ids.length + n) (by omega) (by rw [List.getElem?_append_right (by omega)]; simpa using h1) (by rw [List.getElem?_append_right (by omega)]; simpa using h3)
      exact h.apart q q' a b hne h2 h4 x hxa hxb
   ·exact cross m a hm2 x hxa hxb
  ·rcases cs n b hn' with ⟨_, hn2⟩ | ⟨n1, rfl⟩
   ·exact cross n b hn2 x hxb hxa
   ·omega
end
structure Rp (α : Type) where
 sz : Nat
 own : World -> List Value -> List Nat -> α -> Prop
 rd : World -> List Nat -> α -> List Value -> Prop
 len : ∀ w cs S x, own w cs S x -> cs.length = sz
 loc : ∀ w w' cs S x, (∀ b ∈ S, w'.heap[b]? = w.heap[b]?) -> own w cs S x -> own w' cs S x
 lt : ∀ w cs S x, own w cs S x -> ∀ b ∈ S, b < w.heap.size
 nd : ∀ w cs S x, own w cs S x -> S.Nodup
 see : ∀ w cs S x F, own w cs S x -> (∀ b ∈ S, b ∉ F) -> rd w F x cs
 rlen : ∀ w F x cs, rd w F x cs -> cs.length = sz
 rloc : ∀ w w' F F' x cs, (∀ b, b < w.heap.size -> b ∉ F -> w'.heap[b]? = w.heap[b]?) -> (∀ b ∈ F', b ∈ F \/ w.heap.size <= b) -> rd w F x cs -> rd w' F' x cs
def itI {α : Type} (R : Rp α) (cs : List Value) (S : List Nat) (x : α) : Item where
 S := S
 Φ w := R.own w cs S x
 loc w w' h hb := R.loc w w' cs S x h hb
 lt w h := R.lt w cs S x h
theorem Rd.far {α : Type} {w w' : World} {F F' : List Nat} {v : Value} {enc : α -> List Value} {sz : Nat} {xs : List α} (h : Rd w F v enc sz xs) (h1 : ∀ b, b < w.heap.size -> b ∉ F -> w'.heap[b]? = w.heap[b]?) (h2 : ∀ b ∈ F', b ∈ F \/ w.heap.size <= b) :
  Rd w' F' v enc sz xs := by
 obtain ⟨hn, a, c, hv, hlc, hc⟩ := h
 refine ⟨hn, a, c, hv, hlc, fun t x f u hx hu => ?_⟩
 obtain ⟨b, o, ha, hb, hcell⟩ := hc t x f u hx hu
 have hlt : b < w.heap.size := zew hcell
 refine ⟨b, o, ha, fun hf => ?_, (World.cell?_of_block (h1 b hlt hb)).trans hcell⟩
 rcases h2 b hf with h3 | h3
 ·exact hb h3
 ·omega
def ziZ {α : Type} (enc : α -> List Value) (sz : Nat) (he : ∀ x, (enc x).length = sz) : Rp α where
 sz := sz
 own _ cs S x := cs = enc x /\ S = []
 rd _ _ x cs := cs = enc x
 len := by rintro w cs S x ⟨rfl, _⟩; exact he x
 loc := by rintro w w' cs S x _ h; exact h
 lt := by rintro w cs S x ⟨_, rfl⟩; simp
 nd := by rintro w cs S x ⟨_, rfl⟩; exact List.nodup_nil
 see := by rintro w cs S x F ⟨rfl, _⟩ _; rfl
 rlen := by rintro w F x cs rfl; exact he x
 rloc := by rintro w w' F F' x cs _ _ h; exact h
def zik {α : Type} (T : TypeId) (enc : α -> List Value) (sz : Nat) (he : ∀ x, (enc x).length = sz) (hp : 0 < sz) : Rp (List α) where
 sz := 1
 own w cs S xs := ∃ v, cs = [v] /\ S = (za0 v).toList /\ zev w T sz v xs.length (za3 enc xs)
 rd w F xs cs := ∃ v, cs = [v] /\ Rd w F v enc sz xs
 len := by rintro w cs S x ⟨v, rfl, _⟩; rfl
 loc := by
  rintro w w' cs S x h ⟨v, rfl, rfl, hr⟩
  exact ⟨v, rfl, rfl, hr.loc h⟩
 lt := by
  rintro w cs S x ⟨v, rfl, rfl, hr⟩
  exact hr.lt
 nd := by
  rintro w cs S x ⟨v, rfl, rfl, hr⟩
  exact zbh
 see := by
  rintro w cs S x F ⟨v, rfl, rfl, hr⟩ hF
  exact ⟨v, rfl, zdu he hr hF⟩
 rlen := by rintro w F x cs ⟨v, rfl, _⟩; rfl
 rloc := by rintro w w' F F' x cs h1 h2 ⟨v, rfl, h⟩; exact ⟨v, rfl, h.far h1 h2⟩
def xj {α β : Type} (A : Rp α) (B : Rp β) : Rp (α × β) where
 sz := A.sz + B.sz
 own w cs S p := ∃ c1 c2 S1 S2, cs = c1 ++ c2 /\ S = S1 ++ S2 /\ (∀ b ∈ S1, b ∉ S2) /\ A.own w c1 S1 p.1 /\ B.own w c2 S2 p.2
 rd w F p cs := ∃ c1 c2, cs = c1 ++ c2 /\ A.rd w F p.1 c1 /\ B.rd w F p.2 c2
 len := by
  rintro w cs S x ⟨c1, c2, S1, S2, rfl, rfl, _, h1, h2⟩
  rw [List.length_append, A.len _ _ _ _ h1, B.len _ _ _ _ h2]
 loc := by
  rintro w w' cs S x h ⟨c1, c2, S1, S2, rfl, rfl, hd, h1, h2⟩
  exact ⟨c1, c2, S1, S2, rfl, rfl, hd, A.loc w w' _ _ _ (fun b hb => h b (zal _ hb)) h1, B.loc w w' _ _ _ (fun b hb => h b (zar _ hb)) h2⟩
 lt := by
  rintro w cs S x ⟨c1, c2, S1, S2, rfl, rfl, hd, h1, h2⟩ b hb
  rcases List.mem_append.1 hb with hb | hb
  ·exact A.lt _ _ _ _ h1 b hb
  ·exact B.lt _ _ _ _ h2 b hb
 nd := by
  rintro w cs S x ⟨c1, c2, S1, S2, rfl, rfl, hd, h1, h2⟩
  exact List.nodup_append.2 ⟨A.nd _ _ _ _ h1, B.nd _ _ _ _ h2, fun a ha b hb e => by subst e; exact hd a ha hb⟩
 see := by
  rintro w cs S x F ⟨c1, c2, S1, S2, rfl, rfl, hd, h1, h2⟩ hF
  exact ⟨c1, c2, rfl, A.see _ _ _ _ F h1 (fun b hb => hF b (zal _ hb)), B.see _ _ _ _ F h2 (fun b hb => hF b (zar _ hb))⟩
 rlen := by
  rintro w F x cs ⟨c1, c2, rfl, h1, h2⟩
  rw [List.length_append, A.rlen _ _ _ _ h1, B.rlen _ _ _ _ h2]
 rloc := by
  rintro w w' F F' x cs k1 k2 ⟨c1, c2, rfl, h1, h2⟩
  exact ⟨c1, c2, rfl, A.rloc w w' F F' _ _ k1 k2 h1, B.rloc w w' F F' _ _ k1 k2 h2⟩
def fit (n : Nat) (cs : List Value) : List Value := cs.take n ++ List.replicate (n - cs.length) undef
theorem zad (n : Nat) (cs : List Value) : (fit n cs).length = n := by simp [fit]; omega
theorem zhF {n : Nat} {cs : List Value} (h : cs.length = n) : fit n cs = cs := by subst h; simp [fit]
theorem zbJ {Ss : List (List Nat)} {S' : List Nat} : ∀ {i : Nat}, Ss.flatten.Nodup -> S'.Nodup -> (∀ (k : Nat) (S : List Nat), k ≠ i -> Ss[k]? = some S -> ∀ b ∈ S', b ∉ S) -> (Ss.set i S').flatten.Nodup := by
 induction Ss with
 | nil => intro i h _ _; simp
 | cons T r ih =>
  intro i h hS hx
  simp only [List.flatten_cons] at h
  obtain ⟨n1, n2, n3⟩ := List.nodup_append.1 h
  cases i with
  | zero =>
   simp only [List.set_cons_zero, List.flatten_cons]
   refine List.nodup_append.2 ⟨hS, n2, fun a ha b hb e => ?_⟩
   subst e
   obtain ⟨S, hSr, hb⟩ := List.mem_flatten.1 hb
   obtain ⟨k, hk, rfl⟩ := List.mem_iff_getElem.1 hSr
   exact hx (k + 1) _ (by omega) (by simp) a ha hb
  | succ i =>
   simp only [List.set_cons_succ, List.flatten_cons]
   refine List.nodup_append.2 ⟨n1, ih n2 hS (fun k S hk hSk => hx (k + 1) S (by omega) (by simpa using hSk)), fun a ha b hb e => ?_⟩
   subst e
   obtain ⟨S, hSr, hb2⟩ := List.mem_flatten.1 hb
   rcases List.mem_or_eq_of_mem_set hSr with hSr | rfl
   ·exact n3 a ha a (List.mem_flatten.2 ⟨S, hSr, hb2⟩) rfl
   ·exact hx 0 T (by omega) rfl a hb2 ha
theorem zaF {Ss : List (List Nat)} {S' : List Nat} {i b : Nat} (h : b ∈ (Ss.set i S').flatten) : b ∈ S' \/ b ∈ Ss.flatten := by
 obtain ⟨S, hS, hb⟩ := List.mem_flatten.1 h
 rcases List.mem_or_eq_of_mem_set hS with hS | rfl
 ·exact .inr (List.mem_flatten.2 ⟨S, hS, hb⟩)
 ·exact .inl hb
theorem zfN {Ss : List (List Nat)} (h : Ss.flatten.Nodup) : ∀ {i j : Nat} {A B : List Nat}, i ≠ j -> Ss[i]? = some A -> Ss[j]? = some B -> ∀ b ∈ A, b ∉ B := by
 induction Ss with
 | nil => intro i j A B _ hi; simp at hi
 | cons T r ih =>
  intro i j A B hij hi hj b hb hb2
  simp only [List.flatten_cons] at h
  obtain ⟨n1, n2, n3⟩ := List.nodup_append.1 h
  cases i with
  | zero =>
   cases j with
   | zero => exact hij rfl
   | succ j =>
    simp only [List.getElem?_cons_zero, Option.some.injEq] at hi
    subst hi
    exact n3 b hb b (List.mem_flatten.2 ⟨B, zmg (by simpa using hj), hb2⟩) rfl
  | succ i =>
   cases j with
   | zero =>
    simp only [List.getElem?_cons_zero, Option.some.injEq] at hj
    subst hj
    exact n3 b hb2 b (List.mem_flatten.2 ⟨A, zmg (by simpa using hi), hb⟩) rfl
   | succ j => exact ih n2 (i := i) (j := j) (by omega) (by simpa using hi) (by simpa using hj) b hb hb2
theorem znt {β : Type} {l : List β} {t : Int} {x : β} (h : idx l t = some x) : l.set t.toNat x = l := by
 have := (qS h).2.2
 apply List.ext_getElem?
 intro i
 by_cases e : t.toNat = i
 ·subst e; rw [List.getElem?_set_self (zes.1 this).1, this]
 ·rw [List.getElem?_set_ne e]
theorem zhg {β : Type} {n i : Nat} {a b : β} (h : (List.replicate n a)[i]? = some b) : i < n /\ a = b := by
 rw [List.getElem?_replicate] at h
 split at h
 ·rename_i hi; exact ⟨hi, by cases h; rfl⟩
 ·cases h
theorem zk5 {n : Nat} {c0 cs : List Value} (h : cs.length = n) : qI (fit n c0) cs 0 = fit n cs := by
 have h1 := zad n c0
 have h2 : (fit n c0).drop (0 + cs.length) = [] := List.drop_of_length_le (by omega)
 unfold qI
 rw [h2, zhF h]
 simp
structure zgz {α : Type} (w : World) (T : TypeId) (R : Rp α) (v : Value) (S : List Nat) (xs : List α) (ho : Option (Nat × List Value)) (css : List (List Value)) (Ss : List (List Nat)) : Prop where
 row : zev w T R.sz v xs.length (za3 (fit R.sz) css)
 lc : css.length = xs.length
 ls : Ss.length = xs.length
 hS : S = (za0 v).toList ++ Ss.flatten
 nd : S.Nodup
 out : ∀ t cs, ho = some (t, cs) -> cs.length = R.sz /\ css[t]? = some cs /\ Ss[t]? = some []
 own : ∀ (i : Nat) (cs : List Value) (S' : List Nat) (x : α), (∀ c, ho ≠ some (i, c)) -> css[i]? = some cs -> Ss[i]? = some S' -> xs[i]? = some x -> R.own w cs S' x
section
variable {α : Type} {w w' : World} {T : TypeId} {R : Rp α} {v : Value} {S : List Nat} {xs : List α} {ho : Option (Nat × List Value)} {css : List (List Value)} {Ss : List (List Nat)}
theorem zgz.lt (h : zgz w T R v S xs ho css Ss) : ∀ b ∈ S, b < w.heap.size := by
 intro b hb
 rw [h.hS] at hb
 rcases List.mem_append.1 hb with hb | hb
 ·exact h.row.lt b hb
 ·obtain ⟨S', hS', hb⟩ := List.mem_flatten.1 hb
  obtain ⟨i, hi, rfl⟩ := List.mem_iff_getElem.1 hS'
  have h1 : i < css.length := by rw [h.lc, <- h.ls]; exact hi
  have h2 : i < xs.length := by rw [<- h.ls]; exact hi
  by_cases hq : ∃ c, ho = some (i, c)
  ·obtain ⟨c, hc⟩ := hq
   have := (h.out i c hc).2.2
   rw [zeg hi] at this
   rw [Option.some.inj this] at hb
   exact absurd hb znm
  ·exact R.lt _ _ _ _ (h.own i _ _ _ (fun c hc => hq ⟨c, hc⟩) (zeg h1) (zeg hi) (zeg h2)) b hb
theorem zgz.loc (h : zgz w T R v S xs ho css Ss) (hb : ∀ b ∈ S, w'.heap[b]? = w.heap[b]?) : zgz w' T R v S xs ho css Ss := by
 have hS := h.hS
 refine ⟨h.row.loc (fun b hbv => hb b (by rw [hS]; exact zal _ hbv)), h.lc, h.ls, h.hS, h.nd, h.out, fun i cs S' x h1 h2 h3 h4 => R.loc w w' cs S' x (fun b hbs => hb b ?_) (h.own i cs S' x h1 h2 h3 h4)⟩
 rw [hS]
 exact zar _ (List.mem_flatten.2 ⟨S', zmg h3, hbs⟩)
theorem zc7 {β : Type} {l : List β} {z u : β} {t i : Nat} (hi : (l.set t z)[i]? = some u) : (i = t /\ u = z) \/ (i ≠ t /\ l[i]? = some u) := by
 by_cases e : t = i
 ·subst e
  have hl : t < l.length := by have := (zes.1 hi).1; simpa using this
  rw [List.getElem?_set_self hl] at hi; exact .inl ⟨rfl, (Option.some.inj hi).symm⟩
 ·rw [List.getElem?_set_ne e] at hi; exact .inr ⟨fun x => e x.symm, hi⟩
theorem zgz.take (h : zgz w T R v S xs none css Ss) {t : Nat} {x : α} (hx : xs[t]? = some x) :
  ∃ cs S1 S2, css[t]? = some cs /\ cs.length = R.sz /\ R.own w cs S2 x /\ zgz w T R v S1 xs (some (t, cs)) css (Ss.set t []) /\ (∀ b ∈ S2, b ∈ S) /\ (∀ b ∈ S1, b ∈ S) /\ ∀ b ∈ S1, b ∉ S2 := by
 have hl := (zes.1 hx).1
 have a1 : t < css.length := by rw [h.lc]; exact hl
 have a2 : t < Ss.length := by rw [h.ls]; exact hl
 have hn := h.nd
 rw [h.hS] at hn
 obtain ⟨n1, n2, n3⟩ := List.nodup_append.1 hn
 have hown := h.own t css[t] Ss[t] x (by simp) (zeg a1) (zeg a2) hx
 have hsub : ∀ b ∈ (Ss.set t []).flatten, b ∈ Ss.flatten := fun b hb => by
  rcases zaF hb with hb | hb
  ·exact absurd hb znm
  ·exact hb
 have n2' : (Ss.set t []).flatten.Nodup := zbJ n2 List.nodup_nil (fun _ _ _ _ b hb => absurd hb znm)
 refine ⟨css[t], (za0 v).toList ++ (Ss.set t []).flatten, Ss[t], zeg a1, R.len _ _ _ _ hown, hown, ⟨h.row, h.lc, by rw [List.length_set]; exact h.ls, rfl, ?_, fun q c e => ?_, fun i cs S' y h1 h2 h3 h4 => ?_⟩, fun b hb => ?_, fun b hb => ?_, fun b hb hb2 => ?_⟩
 ·exact List.nodup_append.2 ⟨n1, n2', fun a ha b hb e => n3 a ha b (hsub b hb) e⟩
 ·simp only [Option.some.injEq, Prod.mk.injEq] at e
  obtain ⟨rfl, rfl⟩ := e
  exact ⟨R.len _ _ _ _ hown, zeg a1, by rw [List.getElem?_set_self a2]⟩
 ·rcases zc7 h3 with ⟨rfl, rfl⟩ | ⟨hne, h3⟩
  ·rw [zeg a1] at h2
   exact absurd (by rw [Option.some.inj h2]) (h1 cs)
  ·exact h.own i cs S' y (by simp) h2 h3 h4
 ·rw [h.hS]; exact zar _ (List.mem_flatten.2 ⟨Ss[t], List.getElem_mem a2, hb⟩)
 ·rw [h.hS]
  rcases List.mem_append.1 hb with hb | hb
  ·exact zal _ hb
  ·exact zar _ (hsub b hb)
 ·rcases List.mem_append.1 hb with hb | hb
  ·exact n3 b hb b (List.mem_flatten.2 ⟨Ss[t], List.getElem_mem a2, hb2⟩) rfl
  ·obtain ⟨S', hS', hb⟩ := List.mem_flatten.1 hb
   obtain ⟨i, hi, rfl⟩ := List.mem_iff_getElem.1 hS'
   rcases zc7 (zeg hi) with ⟨_, e⟩ | ⟨hne, hi2⟩
   ·rw [e] at hb; exact absurd hb znm
   ·exact zfN n2 hne hi2 (zeg a2) b hb hb2
theorem zgz.give (h : zgz w T R v S xs ho css Ss) {t : Nat} {cs : List Value} {S2 : List Nat} {x y : α} (hho : ∀ i c, ho = some (i, c) -> i = t) (hy : xs[t]? = some y) (hx : R.own w' cs S2 x) (hd : ∀ b ∈ S, b ∉ S2)
  (hw : ∀ b ∈ Ss.flatten, w'.heap[b]? = w.heap[b]?) (hrow : zev w' T R.sz v xs.length (za3 (fit R.sz) (css.set t cs))) : zgz w' T R v ((za0 v).toList ++ (Ss.set t S2).flatten) (xs.set t x) none (css.set t cs) (Ss.set t S2) := by
 have hn := h.nd
 rw [h.hS] at hn
 obtain ⟨n1, n2, n3⟩ := List.nodup_append.1 hn
 have hS := h.hS
 refine ⟨by rw [List.length_set]; exact hrow, by rw [List.length_set, List.length_set]; exact h.lc, by rw [List.length_set, List.length_set]; exact h.ls, rfl, ?_, (fun _ _ e => by cases e), fun i c S' z _ h2 h3 h4 => ?_⟩
 ·refine List.nodup_append.2 ⟨n1, zbJ n2 (R.nd _ _ _ _ hx) (fun k T' _ hT b hb hb2 => hd b (by rw [hS]; exact zar _ (List.mem_flatten.2 ⟨T', zmg hT, hb2⟩)) hb), fun a ha b hb e => ?_⟩
  subst e
  rcases zaF hb with hb | hb
  ·exact hd a (by rw [hS]; exact zal _ ha) hb
  ·exact n3 a ha a hb rfl
 ·rcases zc7 h3 with ⟨rfl, rfl⟩ | ⟨hne, h3⟩
  ·rcases zc7 h2 with ⟨_, rfl⟩ | ⟨hne, _⟩
   ·rcases zc7 h4 with ⟨_, rfl⟩ | ⟨hne, _⟩
    ·exact hx
    ·exact absurd rfl hne
   ·exact absurd rfl hne
  ·rcases zc7 h2 with ⟨e, _⟩ | ⟨_, h2⟩
   ·exact absurd e hne
   ·rcases zc7 h4 with ⟨e, _⟩ | ⟨_, h4⟩
    ·exact absurd e hne
    ·exact R.loc w w' c S' z (fun b hb => hw b (List.mem_flatten.2 ⟨S', zmg h3, hb⟩)) (h.own i c S' z (fun c' e => hne (hho i c' e)) h2 h3 h4)
theorem zgz.app {v' : Value} {v2 : Value} {S2 : List Nat} {ys : List α} {css2 : List (List Value)} {Ss2 : List (List Nat)} (h : zgz w T R v S xs none css Ss) (h2 : zgz w T R v2 S2 ys none css2 Ss2) (hd : ∀ b ∈ S, b ∉ S2)
  (hw : ∀ b ∈ Ss.flatten ++ Ss2.flatten, w'.heap[b]? = w.heap[b]?) (hat : za0 v' = za0 v \/ za0 v' = some w.heap.size) (hrow : zev w' T R.sz v' (xs.length + ys.length) (za3 (fit R.sz) css ++ za3 (fit R.sz) css2)) :
  zgz w' T R v' ((za0 v').toList ++ (Ss ++ Ss2).flatten) (xs ++ ys) none (css ++ css2) (Ss ++ Ss2) := by
 have hn := h.nd
 rw [h.hS] at hn
 obtain ⟨n1, n2, n3⟩ := List.nodup_append.1 hn
 have hn2 := h2.nd
 rw [h2.hS] at hn2
 obtain ⟨m1, m2, m3⟩ := List.nodup_append.1 hn2
 have lc := h.lc
 have ls := h.ls
 have lc2 := h2.lc
 have ls2 := h2.ls
 refine ⟨by rw [zfh, List.length_append]; exact hrow, by simp; omega, by simp; omega, rfl, ?_, (fun _ _ e => by cases e), fun i c S' z _ g2 g3 g4 => ?_⟩
 ·rw [List.flatten_append]
  refine List.nodup_append.2 ⟨zbh, List.nodup_append.2 ⟨n2, m2, fun a ha b hb e => ?_⟩, fun a ha b hb e => ?_⟩
  ·subst e; exact hd a (by rw [h.hS]; exact zar _ ha) (by rw [h2.hS]; exact zar _ hb)
  ·subst e
   rcases hat with hat | hat
   ·rw [hat] at ha
    rcases List.mem_append.1 hb with hb | hb
    ·exact n3 a ha a hb rfl
    ·exact hd a (by rw [h.hS]; exact zal _ ha) (by rw [h2.hS]; exact zar _ hb)
   ·rw [hat] at ha
    simp at ha
    have hlt : a < w.heap.size := by
     rcases List.mem_append.1 hb with hb | hb
     ·exact h.lt a (by rw [h.hS]; exact zar _ hb)
     ·exact h2.lt a (by rw [h2.hS]; exact zar _ hb)
    omega
 ·rcases vD g2 with ⟨l1, g2⟩ | ⟨l1, g2⟩
  ·rcases vD g3 with ⟨l2, g3⟩ | ⟨l2, g3⟩
   ·rcases vD g4 with ⟨l3, g4⟩ | ⟨l3, g4⟩
    ·exact R.loc w w' c S' z (fun b hb => hw b (zal _ (List.mem_flatten.2 ⟨S', zmg g3, hb⟩))) (h.own i c S' z (by simp) g2 g3 g4)
    ·omega
   ·omega
  ·rcases vD g3 with ⟨l2, g3⟩ | ⟨l2, g3⟩
   ·omega
   ·rcases vD g4 with ⟨l3, g4⟩ | ⟨l3, g4⟩
    ·omega
    ·rw [show i - Ss.length = i - css.length by omega] at g3
     rw [show i - xs.length = i - css.length by omega] at g4
     exact R.loc w w' c S' z (fun b hb => hw b (zar _ (List.mem_flatten.2 ⟨S', zmg g3, hb⟩))) (h2.own (i - css.length) c S' z (by simp) g2 g3 g4)
end
def nI {α : Type} (T : TypeId) (R : Rp α) (v : Value) (S : List Nat) (xs : List α) (ho : Option (Nat × List Value)) : Item where
 S := S
 Φ w := ∃ css Ss, zgz w T R v S xs ho css Ss
 loc w w' hb h := by obtain ⟨css, Ss, h⟩ := h; exact ⟨css, Ss, h.loc hb⟩
 lt w h := by obtain ⟨css, Ss, h⟩ := h; exact h.lt
theorem RdN.far {α : Type} {R : Rp α} {w w' : World} {F F' : List Nat} {v : Value} {xs : List α} (hp : 0 < R.sz) (h : RdN w F v R.rd R.sz xs) (h1 : ∀ b, b < w.heap.size -> b ∉ F -> w'.heap[b]? = w.heap[b]?) (h2 : ∀ b ∈ F', b ∈ F \/ w.heap.size <= b) : RdN w' F' v R.rd R.sz xs := by
 obtain ⟨hn, a, c, hv, hlc, hc⟩ := h
 refine ⟨hn, a, c, hv, hlc, fun t x hx => ?_⟩
 obtain ⟨cs, hDx, b, o, ha, hb, hcell⟩ := hc t x hx
 have hl := R.rlen _ _ _ _ hDx
 have hlt : b < w.heap.size := zew (hcell 0 cs[0] (zeg (by omega)))
 refine ⟨cs, R.rloc _ _ _ _ _ _ h1 h2 hDx, b, o, ha, fun hf => ?_, fun f u hu => (World.cell?_of_block (h1 b hlt hb)).trans (hcell f u hu)⟩
 rcases h2 b hf with h3 | h3
 ·exact hb h3
 ·omega
theorem zgz.see {α : Type} {w : World} {T : TypeId} {R : Rp α} {v : Value} {S : List Nat} {xs : List α} {css : List (List Value)} {Ss : List (List Nat)} (h : zgz w T R v S xs none css Ss) {F : List Nat} (hF : ∀ b ∈ S, b ∉ F) : RdN w F v R.rd R.sz xs := by
 have hS := h.hS
 have hrd : Rd w F v (fit R.sz) R.sz css := by
  have hrow := h.row
  rw [<- h.lc] at hrow
  exact zdu (fun x => zad _ x) hrow (fun b hb => hF b (by rw [hS]; exact zal _ hb))
 obtain ⟨hn, a, c, hv, hlc, hc⟩ := hrd
 refine ⟨by rw [<- h.lc]; exact hn, a, c, by rw [hv, h.lc], by rw [<- h.lc]; exact hlc, fun t x hx => ?_⟩
 have hl := (zes.1 hx).1
 have a1 : t < css.length := by rw [h.lc]; exact hl
 have a2 : t < Ss.length := by rw [h.ls]; exact hl
 have hown := h.own t css[t] Ss[t] x (by simp) (zeg a1) (zeg a2) hx
 have hlen := R.len _ _ _ _ hown
 refine ⟨css[t], R.see _ _ _ _ F hown (fun b hb => hF b (by rw [hS]; exact zar _ (List.mem_flatten.2 ⟨Ss[t], List.getElem_mem a2, hb⟩))), ?_⟩
 rcases h.row.2 with ⟨h0, _⟩ | ⟨g, o, cap, cur, rfl, hp, hg, hnc, hm, hcs, htake⟩
 ·omega
 ·simp only [Value.slice.injEq] at hv
  obtain ⟨rfl, _, _⟩ := hv
  refine ⟨g, o, rfl, hF g (by rw [hS]; exact zal _ (by simp [zbO hp])), fun f u hu => ?_⟩
  obtain ⟨b', o', hb', _, hcell⟩ := hc t css[t] f u (zeg a1) (by rw [zhF hlen]; exact hu)
  simp only [Option.some.injEq, Addr.mk.injEq, and_true] at hb'
  obtain ⟨rfl, rfl⟩ := hb'
  exact hcell
theorem RdN.nil {α : Type} (w : World) (S : List Nat) (D : World -> List Nat -> α -> List Value -> Prop) (sz c : Nat) : RdN w S (.slice none 0 c) D sz ([] : List α) := ⟨by simp, none, c, rfl, Nat.zero_le _, fun t x hx => by simp at hx⟩
def shd (a : Option Addr) (c lo sz : Nat) : Option Addr := if c = lo then a else a.map (·.add (lo * sz))
theorem zoK {α : Type} {xs ys : List α} {lo hi : Int} (h : cut xs lo hi = some ys) {t : Nat} {x : α} (hx : ys[t]? = some x) : xs[lo.toNat + t]? = some x := by
 obtain ⟨h0, h1, h2, rfl⟩ := zb9 h
 rw [List.getElem?_drop, List.getElem?_take] at hx
 split at hx
 ·exact hx
 ·cases hx
theorem Rd.part {α : Type} {w : World} {S : List Nat} {a : Option Addr} {n c : Nat} {enc : α -> List Value} {sz : Nat} {xs ys : List α} {lo hi : Int} (h : Rd w S (.slice a n c) enc sz xs) (hc : cut xs lo hi = some ys) :
  Rd w S (.slice (shd a c lo.toNat sz) ys.length (c - lo.toNat)) enc sz ys := by
 obtain ⟨hn, a', c', hv, hlc, hcell⟩ := h
 simp only [Value.slice.injEq] at hv
 obtain ⟨rfl, rfl, rfl⟩ := hv
 obtain ⟨h0, h1, h2, _⟩ := zb9 hc
 have hl := zhi hc
 refine ⟨by omega, _, _, rfl, by omega, fun t x f u hx hu => ?_⟩
 obtain ⟨b, o, rfl, hb, hcl⟩ := hcell _ x f u (zoK hc hx) hu
 have hlt := (zes.1 hx).1
 refine ⟨b, o + lo.toNat * sz, ?_, hb, ?_⟩
 ·unfold shd
  rw [if_neg (by omega), Option.map_some, zbP]
 ·rw [Nat.add_mul, <- Nat.add_assoc] at hcl
  exact hcl
theorem Rd.pre {α : Type} {w : World} {S : List Nat} {a : Option Addr} {n c : Nat} {enc : α -> List Value} {sz : Nat} {xs ys : List α} {hi : Int} (h : Rd w S (.slice a n c) enc sz xs) (hc : cut xs 0 hi = some ys) : Rd w S (.slice a ys.length c) enc sz ys := by
 have h2 := h.part hc
 have e : shd a c (Int.toNat 0) sz = a := by
  unfold shd
  split
  ·rfl
  ·cases a with
   | none => rfl
   | some z => simp [Addr.add]
 rw [e] at h2
 exact h2
section
variable {P : Program} {N : Nat} {fr : List (Nat × Value)}
theorem zoL {α : Type} {o : Oper} {t e : TypeId} {x y z : Operand} {a : Option Addr} {n c : Nat} {q r : Int} {kd ke : IntKind} {xs ys : List α} (sz : Nat) (ho : o.op = .slice t x (some y) (some z) none) (hx : look fr x = some (.slice a n c)) (hy : look fr y = some (.int kd q)) (hz : look fr z = some (.int ke r))
  (hc : cut xs q r = some ys) (hcap : xs.length <= c) (ht : P.underlying t = some (.slice e)) (hs : zbk P (sizeOf e) = some sz) : ∀ b w, Rep N fr b -> (execOp b.eval o).run P w = .ok (.value (.slice (shd a c q.toNat sz) ys.length (c - q.toNat))) w := by
 intro b w hb
 have e1 := hb.look hx
 have e2 := hb.look hy
 have e4 := hb.look hz
 obtain ⟨h0, h1, h2, _⟩ := zb9 hc
 have hl := zhi hc
 have h3 : 0 <= r /\ r <= (c : Int) := ⟨by omega, by omega⟩
 have h5 : 0 <= q /\ q <= r := ⟨h0, h1⟩
 have h6 : (r.toNat : Int) = r := by omega
 have e3 : r.toNat - q.toNat = ys.length := by omega
 simp [execOp, ho, Instr.sliceAt, Instr.slice, Instr.sliceBounds, Instr.sliceBound, run_underlying ht, e1, e2, e4, asIntOf, h3, h5, h6, xo hs, e3, shd]
end
theorem Rd.cap {α : Type} {w : World} {S : List Nat} {a : Option Addr} {n c : Nat} {enc : α -> List Value} {sz : Nat} {xs : List α} (h : Rd w S (.slice a n c) enc sz xs) : xs.length <= c := by
 obtain ⟨_, a', c', hv, hlc, _⟩ := h
 simp only [Value.slice.injEq] at hv
 obtain ⟨_, _, rfl⟩ := hv
 exact hlc
def zbl {α : Type} (T : TypeId) (R : Rp α) : Rp α where
 sz := 1
 own w cs S x := ∃ b cs' S', cs = [.pointer (some ⟨b, 0, none⟩)] /\ S = b :: S' /\ b ∉ S' /\ w.heap[b]? = some (.cells cs'.toArray T (0, 0)) /\ R.own w cs' S' x
 rd w F x cs := ∃ b cs', cs = [.pointer (some ⟨b, 0, none⟩)] /\ b ∉ F /\ w.heap[b]? = some (.cells cs'.toArray T (0, 0)) /\ R.rd w F x cs'
 len := by rintro w cs S x ⟨b, cs', S', rfl, _⟩; rfl
 loc := by
  rintro w w' cs S x h ⟨b, cs', S', rfl, rfl, hb, hh, hr⟩
  exact ⟨b, cs', S', rfl, rfl, hb, by rw [h b zcs]; exact hh, R.loc w w' _ _ _ (fun c hc => h c (zcm _ hc)) hr⟩
 lt := by
  rintro w cs S x ⟨b, cs', S', rfl, rfl, hb, hh, hr⟩ c hc
  rcases List.mem_cons.1 hc with rfl | hc
  ·exact (Array.getElem?_eq_some_iff.1 hh).1
  ·exact R.lt _ _ _ _ hr c hc
 nd := by
  rintro w cs S x ⟨b, cs', S', rfl, rfl, hb, hh, hr⟩
  exact List.nodup_cons.2 ⟨hb, R.nd _ _ _ _ hr⟩
 see := by
  rintro w cs S x F ⟨b, cs', S', rfl, rfl, hb, hh, hr⟩ hF
  exact ⟨b, cs', rfl, hF b zcs, hh, R.see _ _ _ _ F hr (fun c hc => hF c (zcm _ hc))⟩
 rlen := by rintro w F x cs ⟨b, cs', rfl, _⟩; rfl
 rloc := by
  rintro w w' F F' x cs h1 h2 ⟨b, cs', rfl, hb, hh, hr⟩
  have hlt := (Array.getElem?_eq_some_iff.1 hh).1
  refine ⟨b, cs', rfl, fun hf => ?_, by rw [h1 b hlt hb]; exact hh, R.rloc w w' F F' x cs' h1 h2 hr⟩
  rcases h2 b hf with h3 | h3
  ·exact hb h3
  ·omega
def zlc {α : Type} (T : TypeId) (R : Rp α) : Rp (Option α) where
 sz := 1
 own w cs S x := match x with
  | none => cs = [.pointer none] /\ S = []
  | some y => (zbl T R).own w cs S y
 rd w F x cs := match x with
  | none => cs = [.pointer none]
  | some y => (zbl T R).rd w F y cs
 len := by
  rintro w cs S (_ | x) h
  ·rw [h.1]; rfl
  ·exact (zbl T R).len w cs S x h
 loc := by
  rintro w w' cs S (_ | x) hb h
  ·exact h
  ·exact (zbl T R).loc w w' cs S x hb h
 lt := by
  rintro w cs S (_ | x) h
  ·rw [h.2]; simp
  ·exact (zbl T R).lt w cs S x h
 nd := by
  rintro w cs S (_ | x) h
  ·rw [h.2]; exact List.nodup_nil
  ·exact (zbl T R).nd w cs S x h
 see := by
  rintro w cs S (_ | x) F h hF
  ·exact h.1
  ·exact (zbl T R).see w cs S x F h hF
 rlen := by
  rintro w F (_ | x) cs h
  ·rw [show cs = [.pointer none] from h]; rfl
  ·exact (zbl T R).rlen w F x cs h
 rloc := by
  rintro w w' F F' (_ | x) cs h1 h2 h
  ·exact h
  ·exact (zbl T R).rloc w w' F F' x cs h1 h2 h
def jC {α β : Type} (f : α -> List Value -> List Value) (sz : Nat) (hl : ∀ x vs, (f x vs).length = sz) (g : α -> β) (R : Rp β) : Rp α where
 sz := sz
 own w cs S x := ∃ vs, cs = f x vs /\ R.own w vs S (g x)
 rd w F x cs := ∃ vs, cs = f x vs /\ R.rd w F (g x) vs
 len := by rintro w cs S x ⟨vs, rfl, _⟩; exact hl x vs
 loc := by rintro w w' cs S x hb ⟨vs, rfl, h⟩; exact ⟨vs, rfl, R.loc w w' _ _ _ hb h⟩
 lt := by rintro w cs S x ⟨vs, rfl, h⟩; exact R.lt _ _ _ _ h
 nd := by rintro w cs S x ⟨vs, rfl, h⟩; exact R.nd _ _ _ _ h
 see := by rintro w cs S x F ⟨vs, rfl, h⟩ hF; exact ⟨vs, rfl, R.see _ _ _ _ F h hF⟩
 rlen := by rintro w F x cs ⟨vs, rfl, _⟩; exact hl x vs
 rloc := by rintro w w' F F' x cs h1 h2 ⟨vs, rfl, h⟩; exact ⟨vs, rfl, R.rloc w w' F F' _ _ h1 h2 h⟩
theorem Rd.isnil {α : Type} {w : World} {S : List Nat} {a : Option Addr} {n c : Nat} {enc : α -> List Value} {sz : Nat} {xs : List α} (h : Rd w S (.slice a n c) enc sz xs) (he : ∀ x, ∃ u, (enc x)[0]? = some u) (ha : a.isNone = true) : xs = [] := by
 cases xs with
 | nil => rfl
 | cons x r =>
  obtain ⟨_, a', c', hv, _, hc⟩ := h
  obtain ⟨u, hu⟩ := he x
  obtain ⟨b, o, e, _⟩ := hc 0 x 0 u rfl hu
  cases hv
  rw [e] at ha
  cases ha
theorem zgA {α : Type} {T : TypeId} {enc : α -> List Value} {sz : Nat} {he : ∀ x, (enc x).length = sz} {hp : 0 < sz} {w : World} {cs : List Value} {S : List Nat} {x : List α} (h : (zik T enc sz he hp).own w cs S x) : zfi cs = true := by
 obtain ⟨v, rfl, rfl, hr⟩ := h
 rcases hr.2 with ⟨_, a, rfl⟩ | ⟨g, o, cap, cur, rfl, _⟩ <;> rfl
section
variable {w0 w : World} {S0 : List Nat} {L : List Item} {α : Type} {R : Rp α}
theorem St.toIt {T : TypeId} {v : Value} {enc : α -> List Value} {sz : Nat} {ys : List α} (h : St w0 S0 w L) (j : Nat) (hj : L[j]? = some (jW v T enc sz ys)) (he : ∀ x, (enc x).length = sz) (hp : 0 < sz) :
 St w0 S0 w (L.set j (itI (zik T enc sz he hp) [v] (za0 v).toList ys)) := h.turn j hj ⟨v, rfl, rfl, h.all j _ hj⟩ rfl
theorem St.toRow {cs : List Value} {S : List Nat} {T : TypeId} {enc : α -> List Value} {sz : Nat} {ys : List α} {he : ∀ x, (enc x).length = sz} {hp : 0 < sz} (h : St w0 S0 w L) (j : Nat) (hj : L[j]? = some (itI (zik T enc sz he hp) cs S ys)) :
  ∃ v, cs = [v] /\ St w0 S0 w (L.set j (jW v T enc sz ys)) := by
 obtain ⟨v, rfl, rfl, hr⟩ := h.all j _ hj
 exact ⟨v, rfl, h.turn j hj hr rfl⟩
theorem St.see {cs : List Value} {S : List Nat} {x : α} (h : St w0 S0 w L) (j : Nat) (hj : L[j]? = some (itI R cs S x)) (ids : List Nat) (hn : mem? j ids = false) : R.rd w (fp (sel L ids)) x cs :=
 R.see _ _ _ _ _ (h.all j _ hj) (h.noin j hj ids hn)
theorem St.seeN {v : Value} {S : List Nat} {T : TypeId} {xs : List α} (h : St w0 S0 w L) (j : Nat) (hj : L[j]? = some (nI T R v S xs none)) (ids : List Nat) (hn : mem? j ids = false) : RdN w (fp (sel L ids)) v R.rd R.sz xs := by
 obtain ⟨css, Ss, hr⟩ := h.all j _ hj
 exact hr.see (h.noin j hj ids hn)
theorem RdN.give {v : Value} {xs : List α} (hp : 0 < R.sz) (h : RdN w0 S0 v R.rd R.sz xs) (hst : St w0 S0 w L) (ids : List Nat) : RdN w (fp (sel L ids)) v R.rd R.sz xs := by
 refine h.far hp (fun b h1 h2 => hst.chg.block b h1 h2) (fun b hf => ?_)
 obtain ⟨j, it, hj, hbs⟩ := vW.1 hf
 obtain ⟨k, _, hk⟩ := zcy hj
 rcases vQ hk with hk | rfl
 ·exact hst.own k it hk b hbs
 ·cases hbs
end
section
variable {w0 w : World} {S0 : List Nat} {L : List Item} {α : Type} {T : TypeId} {R : Rp α} {v : Value} {S : List Nat} {xs : List α} {ho : Option (Nat × List Value)}
theorem St.nlen (h : St w0 S0 w L) (j : Nat) (hj : L[j]? = some (nI T R v S xs ho)) : xs.length <= 9223372036854775807 /\ ∃ a c, v = .slice a xs.length c := by
 obtain ⟨css, Ss, hr⟩ := h.all j _ hj
 rcases hr.row.2 with ⟨hn, a, rfl⟩ | ⟨g, o, cap, cur, rfl, _, hg, hnc, hm, _, htake⟩
 ·exact ⟨by omega, a, 0, by rw [hn]⟩
 ·refine ⟨?_, _, _, rfl⟩
  simp only [maxLen] at hm
  omega
theorem St.nrowv (h : St w0 S0 w L) (j : Nat) (hj : L[j]? = some (nI T R v S xs ho)) {t : Int} {x : α} (hx : idx xs t = some x) : ∃ g o cap, v = .slice (some ⟨g, o, none⟩) xs.length cap := by
 obtain ⟨css, Ss, hr⟩ := h.all j _ hj
 obtain ⟨h0, h1, h2⟩ := qS hx
 rcases hr.row.2 with ⟨hn, a, rfl⟩ | ⟨g, o, cap, cur, rfl, _⟩
 ·omega
 ·exact ⟨g, o, cap, rfl⟩
theorem zgz.cells {css : List (List Value)} {Ss : List (List Nat)} (hr : zgz w T R v S xs ho css Ss) {t : Nat} {cs : List Value} (hc : css[t]? = some cs) (hl : cs.length = R.sz) {g o n cap : Nat} (hv : v = .slice (some ⟨g, o, none⟩) n cap) : ∀ f u, cs[f]? = some u -> w.cell? ⟨g, o + t * R.sz + f, none⟩ = some u := by
 intro f u hu
 have ht := (zes.1 hc).1
 have hlc := hr.lc
 rcases hr.row.2 with ⟨hn, _⟩ | ⟨g', o', cap', cur, rfl, _, hg, _, _, _, htake⟩
 ·omega
 ·simp only [Value.slice.injEq, Option.some.injEq, Addr.mk.injEq, and_true] at hv
  obtain ⟨⟨rfl, rfl⟩, _, _⟩ := hv
  have := zeJ (fun x => zad R.sz x) hc (u := u) (f := f) (by rw [zhF hl]; exact hu)
  rw [<- htake, List.getElem?_take] at this
  split at this
  ·rw [cell_of_row w g' _ cur T (0, 0) hg, Nat.add_assoc]
   rw [List.getElem?_drop] at this
   simpa using this
  ·cases this
theorem St.nout (h : St w0 S0 w L) (j : Nat) (hj : L[j]? = some (nI T R v S xs none)) {t : Int} {x : α} (hx : idx xs t = some x) {g o n cap : Nat} (hv : v = .slice (some ⟨g, o, none⟩) n cap) :
  ∃ cs S1 S2, cs.length = R.sz /\ (∀ f u, cs[f]? = some u -> w.cell? ⟨g, o + t.toNat * R.sz + f, none⟩ = some u) /\ St w0 S0 w (L.set j (nI T R v S1 xs (some (t.toNat, cs))) ++ [itI R cs S2 x]) := by
 obtain ⟨css, Ss, hr⟩ := h.all j _ hj
 obtain ⟨cs, S1, S2, hc, hl, hown, hr2, h1, h2, h3⟩ := hr.take (qS hx).2.2
 exact ⟨cs, S1, S2, hl, hr.cells hc hl hv, h.swap j hj ⟨css, _, hr2⟩ hr2.nd h2 hown (R.nd _ _ _ _ hown) h1 h3⟩
theorem St.fptr {U : TypeId} {u : Value} {x : α} (h : St w0 S0 w L) (j : Nat) (hj : L[j]? = some (itI (zbl U R) [u] S x)) : ∃ b, u = .pointer (some ⟨b, 0, none⟩) := by
 obtain ⟨b, cs', S', hv, _⟩ := h.all j _ hj
 cases hv
 exact ⟨b, rfl⟩
theorem St.optSome {U : TypeId} {u : Value} {x : Option α} {y : α} (h : St w0 S0 w L) (j : Nat) (hj : L[j]? = some (itI (zlc U R) [u] S x)) (hx : x = some y) : St w0 S0 w (L.set j (itI (zbl U R) [u] S y)) := by
 subst hx
 exact h.turn j hj (h.all j _ hj) rfl
theorem St.nhole (h : St w0 S0 w L) (j : Nat) {t : Int} {cs : List Value} (hj : L[j]? = some (nI T R v S xs (some (t.toNat, cs)))) {g o n cap : Nat} (hv : v = .slice (some ⟨g, o, none⟩) n cap) : ∀ f u, cs[f]? = some u -> w.cell? ⟨g, o + t.toNat * R.sz + f, none⟩ = some u := by
 obtain ⟨css, Ss, hr⟩ := h.all j _ hj
 obtain ⟨h1, h2, _⟩ := hr.out _ _ rfl
 exact hr.cells h2 h1 hv
theorem St.nback (h : St w0 S0 w L) (k j : Nat) (hkj : Nat.beq k j = false) {t : Int} {cs : List Value} {S2 : List Nat} {x y : α} (hk : L[k]? = some (nI T R v S xs (some (t.toNat, cs)))) (hj : L[j]? = some (itI R cs S2 y)) (hx : idx xs t = some x) :
  ∃ S', St w0 S0 w ((L.set k (nI T R v S' (xs.set t.toNat y) none)).set j zdr) := by
 obtain ⟨css, Ss, hr⟩ := h.all k _ hk
 obtain ⟨_, h2, h3⟩ := hr.out _ _ rfl
 have hset : css.set t.toNat cs = css := by
  apply List.ext_getElem?
  intro i
  by_cases e : t.toNat = i
  ·subst e; rw [List.getElem?_set_self (zes.1 h2).1, h2]
  ·rw [List.getElem?_set_ne e]
 have hd : ∀ b ∈ S, b ∉ S2 := h.apart k j _ _ (Nat.ne_of_beq_eq_false hkj) hk hj
 have hown : R.own w cs S2 y := h.all j _ hj
 have := hr.give (w' := w) (x := y) (fun i c e => by simp only [Option.some.injEq, Prod.mk.injEq] at e; exact e.1.symm) (qS hx).2.2 hown hd (fun _ _ => rfl) (by rw [hset]; exact hr.row)
 refine ⟨_, h.fuse k j hkj hk hj ⟨_, _, this⟩ this.nd (fun b hb => ?_)⟩
 rcases List.mem_append.1 hb with hb | hb
 ·exact .inl (by show b ∈ S; rw [hr.hS]; exact zal _ hb)
 ·rcases zaF hb with hb | hb
  ·exact .inr hb
  ·exact .inl (by show b ∈ S; rw [hr.hS]; exact zar _ hb)
theorem St.nback0 (h : St w0 S0 w L) (k j : Nat) (hkj : Nat.beq k j = false) {t : Int} {cs : List Value} {S2 : List Nat} {x : α} (hk : L[k]? = some (nI T R v S xs (some (t.toNat, cs)))) (hj : L[j]? = some (itI R cs S2 x)) (hx : idx xs t = some x) :
  ∃ S', St w0 S0 w ((L.set k (nI T R v S' xs none)).set j zdr) := by
 have := h.nback k j hkj hk hj hx
 rwa [znt hx] at this
theorem St.nNil (h : St w0 S0 w L) (T : TypeId) (R : Rp α) (a : Option Addr) : St w0 S0 w (L ++ [nI T R (.slice a 0 0) [] [] none]) :=
 h.push (Chg.refl _ _) ⟨[], [], ⟨by simpa [za3] using zev.nil w T R.sz a, rfl, rfl, by simp [zhd], List.nodup_nil, (fun _ _ e => by cases e), fun i cs S x _ hc => by simp at hc⟩⟩ (fun b hb => by simp [nI] at hb) List.nodup_nil
theorem St.nNew {sz : Nat} (h : St w0 S0 w L) (j : Nat) (R : Rp α) (hs : sz = R.sz) {cs : List Value} {n : Nat} (hj : L[j]? = some (jW v T (fit sz) sz (List.replicate n cs))) (x : α) (hx : ∀ w, R.own w cs [] x) : St w0 S0 w (L.set j (nI T R v (za0 v).toList (List.replicate n x) none)) := by
 subst hs
 have e : (List.replicate n ([] : List Nat)).flatten = [] := by
  clear hj
  induction n with
  | zero => rfl
  | succ n ih => simp [List.replicate_succ, ih]
 have hrow := h.all j _ hj
 refine h.turn j hj ⟨List.replicate n cs, List.replicate n [], ⟨by simpa [jW] using hrow, by simp, by simp, by rw [e, List.append_nil], zbh, (fun _ _ e => by cases e), fun i c S' z _ hc hS hz => ?_⟩⟩ rfl
 obtain ⟨_, rfl⟩ := zhg hc
 obtain ⟨_, rfl⟩ := zhg hS
 obtain ⟨_, rfl⟩ := zhg hz
 exact hx w
end
theorem zev.write {α : Type} {w : World} {T : TypeId} {sz : Nat} {enc : α -> List Value} {v : Value} {xs : List α} (hr : zev w T sz v xs.length (za3 enc xs)) (he : ∀ x, (enc x).length = sz) {g o n cap : Nat} (hv : v = .slice (some ⟨g, o, none⟩) n cap) {q : Nat} {z z' : α} (hz : xs[q]? = some z) {f k : Nat} {vs : List Value} (hk : k = o + q * sz + f)
  (hf : f + vs.length <= sz) (hz' : qI (enc z) vs f = enc z') : ∃ cur, w.heap[g]? = some (.cells cur T (0, 0)) /\ k + vs.length <= cur.size /\ za0 v = some g /\ zev (w.setRow g (qI cur.toList vs k).toArray) T sz v xs.length (za3 enc (xs.set q z')) := by
 subst hv
 have hql := (zes.1 hz).1
 rcases hr.2 with ⟨hn, _⟩ | ⟨g', o', cap', cur, hc, hp, hgc, hnc, hm, hcs, htake⟩
 ·omega
 ·simp only [Value.slice.injEq, Option.some.injEq, Addr.mk.injEq, and_true] at hc
  obtain ⟨⟨rfl, rfl⟩, rfl, rfl⟩ := hc
  have hsz : q * sz + sz <= xs.length * sz := by rw [<- Nat.succ_mul]; exact Nat.mul_le_mul_right _ hql
  have hcap : xs.length * sz <= cap * sz := Nat.mul_le_mul_right _ hnc
  have hfit : k + vs.length <= cur.size := by rw [hk]; omega
  have hlen : (qI cur.toList vs k).length = cur.size := by simp [qI] at hfit |-; omega
  refine ⟨cur, hgc, hfit, zbO hp, ⟨by rw [vC he, List.length_set], .inr ⟨g, o, cap, _, by simp, hp, setRow_heap w g cur _ T _ hgc, by simpa using hnc, hm, by rw [List.size_toArray, hlen]; exact hcs, ?_⟩⟩⟩
  have hset := zid he (f := f) (vs := vs) hz hf hz'
  rw [<- hset, <- htake]
  rw [zdP (by omega) (by omega) (by have := @Array.length_toList _ cur; omega)]
  congr 1
  omega
section
variable {P : Program} {N : Nat} {Q : Exit -> Act -> World -> Prop} {fr fr' : List (Nat × Value)} {w w0 : World} {l : List Oper} {i : Nat} {o : Oper} {S0 : List Nat} {L : List Item} {α : Type} {R : Rp α}
theorem OW.stN {t : TypeId} {x y : Operand} {ty : TypeId} {pos : String} {af : Array Edge} {gdd : Option (Nat × Bool)} (hst : St w0 S0 w L) (k j : Nat) (hkj : Nat.beq k j = false) {hd : Value} {g o cap n : Nat} {T : TypeId} {S S2 : List Nat} {xs : List α} {ho : Option (Nat × List Value)} {cs : List Value} {z u : α} {q : Int}
  (hk : L[k]? = some (nI T R hd S xs ho)) (hho : ∀ i c, ho = some (i, c) -> i = q.toNat) (hj : L[j]? = some (itI R cs S2 u)) (hv : hd = .slice (some ⟨g, o, none⟩) n cap)
  (hl : vU l i = some ⟨none, .store t x y, ty, pos, af, gdd⟩) (hg : gd l fr ⟨none, .store t x y, ty, pos, af, gdd⟩ = some true)
  (hz : Sx.idx xs q = some z) {v : Value} {a : Nat} (hx : look fr x = some (.pointer (some ⟨g, a, none⟩))) (ha : a = o + q.toNat * R.sz) (hy : look fr y = some v) (hc : v.cells.toList = cs)
  (hs : zbk P (sizeOf t) = some v.cells.toList.length) (h1 : zfi v.cells.toList = true)
  (h : ∀ S' w', St w0 S0 w' ((L.set k (nI T R hd S' (xs.set q.toNat u) none)).set j zdr) -> OW P l N Q (i + 1) fr w') : OW P l N Q i fr w := by
 obtain ⟨css, Ss, hr⟩ := hst.all k _ hk
 have hown : R.own w cs S2 u := hst.all j _ hj
 have hlen := R.len _ _ _ _ hown
 obtain ⟨h0, hq, hq2⟩ := qS hz
 have hdis : ∀ b ∈ S, b ∉ S2 := hst.apart k j _ _ (Nat.ne_of_beq_eq_false hkj) hk hj
 have a1 : q.toNat < css.length := by rw [hr.lc]; omega
 have hrow : zev w T R.sz hd css.length (za3 (fit R.sz) css) := by rw [hr.lc]; exact hr.row
 obtain ⟨cur, hgc, hfit, hob, hnew⟩ := zev.write hrow (fun x => zad _ x) hv (q := q.toNat) (z := css[q.toNat]) (z' := cs) (zeg a1) (f := 0) (k := a) (vs := cs) (by omega) (by omega) (zk5 hlen)
 subst hc
 refine OW.ops hl hg rfl (w' := w.setRow g (qI cur.toList v.cells.toList a).toArray) (fun b hb => ?_) (h ((za0 hd).toList ++ (Ss.set q.toNat S2).flatten) _ ?_)
 ·have e1 := hb.look hx
  have e2 := hb.look hy
  have := zf4 (P := P) (w := w) (T := T) (g := g) hs h1 hgc hfit
  simp [execOp, e1, e2, this]
 ·have hchg : Chg [g] w (w.setRow g (qI cur.toList v.cells.toList a).toArray) := ⟨rfl, rfl, rfl, by simp [World.setRow], fun q _ hn => setRow_other w g q _ (by rintro rfl; exact hn (by simp))⟩
  have hgS : g ∈ S := by rw [hr.hS]; exact zal _ (by simp [hob])
  have hn := hr.nd
  rw [hr.hS] at hn
  have hn3 := (List.nodup_append.1 hn).2.2
  have hlt := hr.lt
  have hown' : R.own (w.setRow g (qI cur.toList v.cells.toList a).toArray) v.cells.toList S2 u := R.loc _ _ _ _ _ (fun b hb => hchg.block b (R.lt _ _ _ _ hown b hb) (by simp only [List.mem_singleton]; rintro rfl; exact hdis _ hgS hb)) hown
  have hgive := hr.give (w' := w.setRow g (qI cur.toList v.cells.toList a).toArray) (x := u) hho hq2 hown' hdis (fun b hb => hchg.block b (hlt b (by rw [hr.hS]; exact zar _ hb)) (by simp only [List.mem_singleton]; rintro rfl; exact hn3 b (by simp [hob]) b hb rfl)) (by rw [<- hr.lc]; exact hnew)
  have hold : Item := zdr
  have hsub : ∀ b ∈ (za0 hd).toList ++ (Ss.set q.toNat S2).flatten, b ∈ S \/ b ∈ S2 := fun b hb => by
   rcases List.mem_append.1 hb with hb | hb
   ·exact .inl (by rw [hr.hS]; exact zal _ hb)
   ·rcases zaF hb with hb | hb
    ·exact .inr hb
    ·exact .inl (by rw [hr.hS]; exact zar _ hb)
  let A : Item := ⟨(za0 hd).toList ++ (Ss.set q.toNat S2).flatten, fun w1 => ∀ b ∈ (za0 hd).toList ++ (Ss.set q.toNat S2).flatten, b < w1.heap.size, fun w1 w2 hb hh b hb2 => by
   have h1 := hh b hb2
   have h2 := hb b hb2
   rw [Array.getElem?_eq_getElem h1] at h2
   exact (Array.getElem?_eq_some_iff.1 h2).1, fun w1 hh => hh⟩
  have hA : St w0 S0 w ((L.set k A).set j zdr) := hst.fuse k j hkj hk hj (C := A) (fun b hb => by
   rcases hsub b hb with hb | hb
   ·exact hlt b hb
   ·exact R.lt _ _ _ _ hown b hb) hgive.nd hsub
  have hlk : k < L.length := (zes.1 hk).1
  have hkA : ((L.set k A).set j zdr)[k]? = some A := by
   rw [List.getElem?_set_ne (fun e => Nat.ne_of_beq_eq_false hkj e.symm), List.getElem?_set_self hlk]
  have := hA.upd k hkA (it' := nI T R hd ((za0 hd).toList ++ (Ss.set q.toNat S2).flatten) (xs.set q.toNat u) none) (hchg.mono (fun b hb => by simp only [List.mem_singleton] at hb; subst hb; exact zal _ (by simp [hob]))) ⟨_, _, hgive⟩ (fun b hb => .inl hb) hgive.nd
  rw [List.set_comm _ _ (fun e => Nat.ne_of_beq_eq_false hkj e.symm), List.set_set] at this
  exact this
theorem OW.appN {d t e : Nat} {x y : Operand} {ty : TypeId} {pos : String} {af : Array Edge} {gdd : Option (Nat × Bool)} {ats : List Nat} (hst : St w0 S0 w L) (k j : Nat) (hkj : Nat.beq k j = false) {v v2 : Value} {S S2 : List Nat} {xs ys : List α} {bytes : Nat}
  (hk : L[k]? = some (nI e R v S xs none)) (hj : L[j]? = some (nI e R v2 S2 ys none))
  (hl : vU l i = some ⟨some d, .call ⟨.builtin .append, [x, y].toArray, ats.toArray⟩, ty, pos, af, gdd⟩) (ha : ats = [t, t]) (hg : gd l fr ⟨some d, .call ⟨.builtin .append, [x, y].toArray, ats.toArray⟩, ty, pos, af, gdd⟩ = some true)
  (hN : Nat.blt d N = true) (hx : look fr x = some v) (hy : look fr y = some v2) (ht : P.underlying t = some (.slice e)) (hel : zmG P e R.sz bytes) (hb : (xs.length + ys.length) * bytes <= 140737488355328) (hone : ∀ w cs S x, R.own w cs S x -> zfi cs = true)
  (h : ∀ v' S' w', St w0 S0 w' ((L.set k (nI e R v' S' (xs ++ ys) none)).set j zdr) -> OW P l N Q (i + 1) ((d, v') :: fr) w') : OW P l N Q i fr w := by
 subst ha
 obtain ⟨css, Ss, hr⟩ := hst.all k _ hk
 obtain ⟨css2, Ss2, hr2⟩ := hst.all j _ hj
 have hdis : ∀ b ∈ S, b ∉ S2 := hst.apart k j _ _ (Nat.ne_of_beq_eq_false hkj) hk hj
 obtain ⟨inf, z, hi, hz, hsz, hby, hzs⟩ := hel.info
 have exec : ∀ {v' : Value} {w' : World}, (Builtin.append_ #[t, t] ty #[v, v2]).run P w = .ok v' w' -> ∀ a, Rep N fr a ->
   (execOp a.eval ⟨some d, .call ⟨.builtin .append, [x, y].toArray, [t, t].toArray⟩, ty, pos, af, gdd⟩).run P w = .ok (.value v') w' := by
  intro v' w' hr a ha
  have e1 := ha.look hx
  have e2 := ha.look hy
  simp [execOp, resolve, invoke, builtin, e1, e2, hr]
 have hlk : k < L.length := (zes.1 hk).1
 have key : ∀ {v' : Value} {w' : World}, (Builtin.append_ #[t, t] ty #[v, v2]).run P w = .ok v' w' -> w.grownBy w' (za0 v) -> (za0 v' = za0 v \/ za0 v' = some w.heap.size) -> zev w' e R.sz v' (xs.length + ys.length) (za3 (fit R.sz) css ++ za3 (fit R.sz) css2) -> OW P l N Q i fr w := by
  intro v' w' hrun hgr hat hown
  have hn := hr.nd
  rw [hr.hS] at hn
  have hn3 := (List.nodup_append.1 hn).2.2
  have hchg : Chg (za0 v).toList w w' := Chg.grown hgr (fun b hb => by simp [hb])
  have happ := hr.app (w' := w') hr2 hdis (fun b hb => hchg.block b (by
   rcases List.mem_append.1 hb with hb | hb
   ·exact hr.lt b (by rw [hr.hS]; exact zar _ hb)
   ·exact hr2.lt b (by rw [hr2.hS]; exact zar _ hb)) (fun hv => by
   rcases List.mem_append.1 hb with hb | hb
   ·exact hn3 b hv b hb rfl
   ·exact hdis b (by rw [hr.hS]; exact zal _ hv) (by rw [hr2.hS]; exact zar _ hb))) hat hown
  refine OW.op hl hg rfl hN (exec hrun) (h v' ((za0 v').toList ++ (Ss ++ Ss2).flatten) w' ?_)
  have hsub : ∀ b ∈ (za0 v).toList ++ (Ss ++ Ss2).flatten, b ∈ S \/ b ∈ S2 := fun b hb => by
   rw [List.flatten_append] at hb
   rcases List.mem_append.1 hb with hb | hb
   ·exact .inl (by rw [hr.hS]; exact zal _ hb)
   ·rcases List.mem_append.1 hb with hb | hb
    ·exact .inl (by rw [hr.hS]; exact zar _ hb)
    ·exact .inr (by rw [hr2.hS]; exact zar _ hb)
  have hnd : ((za0 v).toList ++ (Ss ++ Ss2).flatten).Nodup := by
   have hn2 := hr2.nd
   rw [hr2.hS] at hn2
   have m := List.nodup_append.1 hn2
   have n := List.nodup_append.1 hn
   rw [List.flatten_append]
   refine List.nodup_append.2 ⟨n.1, List.nodup_append.2 ⟨n.2.1, m.2.1, fun a ha b hb e => by subst e; exact hdis a (by rw [hr.hS]; exact zar _ ha) (by rw [hr2.hS]; exact zar _ hb)⟩, fun a ha b hb e => ?_⟩
   subst e
   rcases List.mem_append.1 hb with hb | hb
   ·exact hn3 a ha a hb rfl
   ·exact hdis a (by rw [hr.hS]; exact zal _ ha) (by rw [hr2.hS]; exact zar _ hb)
  let A : Item := ⟨(za0 v).toList ++ (Ss ++ Ss2).flatten, fun w1 => ∀ b ∈ (za0 v).toList ++ (Ss ++ Ss2).flatten, b < w1.heap.size, fun w1 w2 hb hh b hb2 => by
   have h1 := hh b hb2
   have h2 := hb b hb2
   rw [Array.getElem?_eq_getElem h1] at h2
   exact (Array.getElem?_eq_some_iff.1 h2).1, fun w1 hh => hh⟩
  have hA : St w0 S0 w ((L.set k A).set j zdr) := hst.fuse k j hkj hk hj (C := A) (fun b hb => by
   rcases hsub b hb with hb | hb
   ·exact hr.lt b hb
   ·exact hr2.lt b hb) hnd hsub
  have hkA : ((L.set k A).set j zdr)[k]? = some A := by
   rw [List.getElem?_set_ne (fun e => Nat.ne_of_beq_eq_false hkj e.symm), List.getElem?_set_self hlk]
  have := hA.upd k hkA (it' := nI e R v' ((za0 v').toList ++ (Ss ++ Ss2).flatten) (xs ++ ys) none) (hchg.mono (fun b hb => zal _ hb)) ⟨_, _, happ⟩ (fun b hb => by
   rcases List.mem_append.1 hb with hb | hb
   ·rcases hat with hat | hat
    ·exact .inl (zal _ (by rw [<- hat]; exact hb))
    ·rw [hat] at hb; simp at hb; exact .inr (by omega)
   ·exact .inl (zar _ hb)) happ.nd
  rw [List.set_comm _ _ (fun e => Nat.ne_of_beq_eq_false hkj e.symm), List.set_set] at this
  exact this
 have hlim := (hst.nlen k hk).1
 have hrow2 : Rd w [] v2 (fit R.sz) R.sz css2 := by
  have hrow := hr2.row
  rw [<- hr2.lc] at hrow
  exact zdu (fun x => zad _ x) hrow (by simp)
 obtain ⟨hn2, a2, c2, hv2, _, hc2⟩ := hrow2
 have hlc2 := hr2.lc
 rcases Nat.eq_zero_or_pos ys.length with h0 | h0
 ·have hys : ys = [] := List.eq_nil_of_length_eq_zero h0
  have hcs : css2 = [] := List.eq_nil_of_length_eq_zero (by omega)
  refine key (v' := v) (w' := w) ?_ ⟨rfl, rfl, rfl, Nat.le_refl _, fun _ _ _ => rfl⟩ (.inl rfl) ?_
  ·rw [hv2, hcs]
   exact zcz ht hel.size hr.row a2 c2
  ·rw [hcs, hys]
   simpa [za3] using hr.row
 ·obtain ⟨c0, hc0⟩ : ∃ c0, css2[0]? = some c0 := ⟨css2[0]'(by omega), zeg (by omega)⟩
  obtain ⟨u0, hu0⟩ : ∃ u0, (fit R.sz c0)[0]? = some u0 := ⟨(fit R.sz c0)[0]'(by rw [zad]; exact hel.pos), zeg (by rw [zad]; exact hel.pos)⟩
  obtain ⟨b, q, rfl, _, _⟩ := hc2 0 c0 0 u0 hc0 hu0
  have hcell : ∀ q' u, (za3 (fit R.sz) css2)[q']? = some u -> w.cell? ((⟨b, q, none⟩ : Addr).add q') = some u := by
   intro q' u hu
   rw [zbP]
   obtain ⟨t, f, x, hx, hf, hq⟩ := zdt (fun x => zad R.sz x) hel.pos hu
   obtain ⟨b', k', hb', _, hcell⟩ := hc2 t x f u hx hf
   simp only [Option.some.injEq, Addr.mk.injEq, and_true] at hb'
   obtain ⟨rfl, rfl⟩ := hb'
   rw [hq, <- Nat.add_assoc]
   exact hcell
  have hones : ∀ u ∈ za3 (fit R.sz) css2, u.oneCell' = true := by
   intro u hu
   obtain ⟨q', hq', rfl⟩ := List.mem_iff_getElem.1 hu
   obtain ⟨t, f, c, hx, hf, _⟩ := zdt (fun x => zad R.sz x) hel.pos (zeg hq')
   have ht := (zes.1 hx).1
   have l1 : t < Ss2.length := by rw [hr2.ls]; omega
   have l2 : t < ys.length := by omega
   have hown := hr2.own t c Ss2[t] ys[t] (by simp) hx (zeg l1) (zeg l2)
   rw [zhF (R.len _ _ _ _ hown)] at hf
   exact zeK (hone _ _ _ _ hown) _ (zmg hf)
  obtain ⟨v', w', hrun, hown, hgr, hat⟩ := zjT (P := P) w t ty e inf z R.sz bytes ht hi hz hsz hby hzs v xs.length (za3 (fit R.sz) css) hr.row ⟨b, q, none⟩ ys.length c2 h0 (za3 (fit R.sz) css2) (by rw [vC (fun x => zad R.sz x), hlc2]) hcell hones
   (by have := Nat.le_mul_of_pos_right (xs.length + ys.length) hel.bpos; simp only [maxLen]; omega) hb
  refine key ?_ hgr hat hown
  rw [hv2, hlc2]
  exact hrun
end
end Go.Sx

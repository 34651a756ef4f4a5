/- Interfaces: a value of one of several types; rows that are laid of data with memory; looks into maps; maps of flat values that are ranged over. -/
import Derived.Test.YtpchniebplpboaaIns
set_option linter.unusedVariables false
set_option linter.unusedSimpArgs false
namespace Go.Sx
open Go.RowKit
def tagP {α : Type} (T : TypeId) (R : Rp α) : Rp α where
  sz := 1
  own w cs S x := ∃ u, cs = [.iface T u] ∧ R.own w [u] S x
  rd w F x cs := ∃ u, cs = [.iface T u] ∧ R.rd w F x [u]
  len := by rintro w cs S x ⟨u, rfl, _⟩; rfl
  loc := by rintro w w' cs S x hb ⟨u, rfl, h⟩; exact ⟨u, rfl, R.loc w w' _ _ _ hb h⟩
  lt := by rintro w cs S x ⟨u, rfl, h⟩; exact R.lt _ _ _ _ h
  nd := by rintro w cs S x ⟨u, rfl, h⟩; exact R.nd _ _ _ _ h
  see := by rintro w cs S x F ⟨u, rfl, h⟩ hF; exact ⟨u, rfl, R.see _ _ _ _ F h hF⟩
  rlen := by rintro w F x cs ⟨u, rfl, h⟩; rfl
  rloc := by rintro w w' F F' x cs h1 h2 ⟨u, rfl, h⟩; exact ⟨u, rfl, R.rloc w w' F F' _ _ h1 h2 h⟩
def sumP {α β : Type} (A : Rp α) (B : Rp β) (hA : A.sz = 1) (hB : B.sz = 1) : Rp (α ⊕ β) where
  sz := 1
  own w cs S x := match x with
    | .inl y => A.own w cs S y
    | .inr y => B.own w cs S y
  rd w F x cs := match x with
    | .inl y => A.rd w F y cs
    | .inr y => B.rd w F y cs
  len := by
    rintro w cs S (x | x) h
    · exact (A.len w cs S x h).trans hA
    · exact (B.len w cs S x h).trans hB
  loc := by
    rintro w w' cs S (x | x) hb h
    · exact A.loc w w' cs S x hb h
    · exact B.loc w w' cs S x hb h
  lt := by
    rintro w cs S (x | x) h
    · exact A.lt w cs S x h
    · exact B.lt w cs S x h
  nd := by
    rintro w cs S (x | x) h
    · exact A.nd w cs S x h
    · exact B.nd w cs S x h
  see := by
    rintro w cs S (x | x) F h hF
    · exact A.see w cs S x F h hF
    · exact B.see w cs S x F h hF
  rlen := by
    rintro w F (x | x) cs h
    · exact (A.rlen w F x cs h).trans hA
    · exact (B.rlen w F x cs h).trans hB
  rloc := by
    rintro w w' F F' (x | x) cs h1 h2 h
    · exact A.rloc w w' F F' x cs h1 h2 h
    · exact B.rloc w w' F F' x cs h1 h2 h
def bchI {α : Type} (R : Rp α) (css : List (List Value)) (Ss : List (List Nat)) (xs : List α) : Item where
  S := Ss.flatten
  Φ w := css.length = xs.length ∧ Ss.length = xs.length ∧ ∀ (i : Nat) (cs : List Value) (S : List Nat) (x : α), css[i]? = some cs → Ss[i]? = some S → xs[i]? = some x → R.own w cs S x
  loc w w' h hr := by
    obtain ⟨h1, h2, h5⟩ := hr
    exact ⟨h1, h2, fun i cs S x hc hS hx => R.loc w w' cs S x (fun b hb => h b (List.mem_flatten.2 ⟨S, List.mem_of_getElem? hS, hb⟩)) (h5 i cs S x hc hS hx)⟩
  lt w hr b hb := by
    obtain ⟨h1, h2, h5⟩ := hr
    obtain ⟨S, hS, hbS⟩ := List.mem_flatten.1 hb
    obtain ⟨i, hi, rfl⟩ := List.mem_iff_getElem.1 hS
    exact R.lt _ _ _ _ (h5 i css[i] Ss[i] xs[i] (List.getElem?_eq_getElem (by omega)) (List.getElem?_eq_getElem hi) (List.getElem?_eq_getElem (by omega))) b hbS
def MapIs {α : Type} (val : α → Value) (r : Nat) (m : List (Int × α)) (w : World) : Prop := ∃ A clock, w.heap[r]? = some (.map A clock) ∧ Ents val m A.toList clock
def MLk (r : Nat) (k : Int) (v vz : Value) (b : Bool) (w : World) : Prop := ∃ A clock mv, w.heap[r]? = some (.map A clock) ∧ Ents (fun v : Value => v) mv A.toList clock ∧ (mget mv k).getD vz = v ∧ (mget mv k).isSome = b
section
variable {P : Program} {N : Nat} {Q : Exit → Act → World → Prop} {fr fr' : List (Nat × Value)} {w w0 : World} {l : List Oper} {i : Nat} {o : Oper} {S0 : List Nat} {L : List Item} {α β : Type} {A : Rp α} {B : Rp β} {hA : A.sz = 1} {hB : B.sz = 1} {v u : Value} {S : List Nat}
theorem St.sumL {x : α} (h : St w0 S0 w L) (j : Nat) (hj : L[j]? = some (itI (sumP A B hA hB) [v] S (.inl x))) : St w0 S0 w (L.set j (itI A [v] S x)) := h.turn j hj (h.all j _ hj) rfl
theorem St.sumR {x : β} (h : St w0 S0 w L) (j : Nat) (hj : L[j]? = some (itI (sumP A B hA hB) [v] S (.inr x))) : St w0 S0 w (L.set j (itI B [v] S x)) := h.turn j hj (h.all j _ hj) rfl
theorem St.ofL {x : α} (B : Rp β) (hA : A.sz = 1) (hB : B.sz = 1) (h : St w0 S0 w L) (j : Nat) (hj : L[j]? = some (itI A [v] S x)) : St w0 S0 w (L.set j (itI (sumP A B hA hB) [v] S (.inl x))) := h.turn j hj (h.all j _ hj) rfl
theorem St.ofR {x : β} (A : Rp α) (hA : A.sz = 1) (hB : B.sz = 1) (h : St w0 S0 w L) (j : Nat) (hj : L[j]? = some (itI B [v] S x)) : St w0 S0 w (L.set j (itI (sumP A B hA hB) [v] S (.inr x))) := h.turn j hj (h.all j _ hj) rfl
theorem St.untag {T : TypeId} {x : α} (h : St w0 S0 w L) (j : Nat) (hj : L[j]? = some (itI (tagP T A) [v] S x)) : ∃ u, v = .iface T u ∧ St w0 S0 w (L.set j (itI A [u] S x)) := by
  obtain ⟨u, hu, hr⟩ := h.all j _ hj
  cases hu
  exact ⟨u, rfl, h.turn j hj hr rfl⟩
theorem St.tag (T : TypeId) {x : α} (h : St w0 S0 w L) (j : Nat) (hj : L[j]? = some (itI A [u] S x)) : St w0 S0 w (L.set j (itI (tagP T A) [.iface T u] S x)) := h.turn j hj ⟨u, rfl, h.all j _ hj⟩ rfl
def Inv (P : Program) (v : Value) (name : String) (args : List Value) (f : FuncId) (args' : List Value) : Prop := ∀ w, (invoke (.fn (.method name) #[]) (v :: args).toArray).run P w = .ok (.enter f args'.toArray) w
def entered : Next → Option (FuncId × List Value)
  | .enter f args => some (f, args.toList)
  | _ => none
theorem inv_of {v : Value} {name : String} {args : List Value} {f : FuncId} {args' : List Value} (h : (psem P (invoke (.fn (.method name) #[]) (v :: args).toArray)).bind entered = some (f, args')) : Inv P v name args f args' := by
  intro w
  cases hp : psem P (invoke (.fn (.method name) #[]) (v :: args).toArray) with
  | none => rw [hp] at h; cases h
  | some n =>
    rw [hp] at h
    cases n with
    | enter g as =>
      simp only [Option.bind_some, entered, Option.some.injEq, Prod.mk.injEq] at h
      obtain ⟨rfl, rfl⟩ := h
      simpa using psem_run hp w
    | _ => cases h
def InvC (P : Program) (v : Value) (name : String) (args : List Value) (w : World) (R : Ending → World → Prop) : Prop := ∃ f args', Inv P v name args f args' ∧ Calls P f args'.toArray w R
def looks (fr : List (Nat × Value)) : List Operand → Option (List Value)
  | [] => some []
  | x :: r => match look fr x, looks fr r with
    | some v, some vs => some (v :: vs)
    | _, _ => none
theorem looks_eval {xs : List Operand} {vs : List Value} (h : looks fr xs = some vs) {a : Act} (ha : Rep N fr a) : xs.map a.eval = vs := by
  induction xs generalizing vs with
  | nil => simp only [looks, Option.some.injEq] at h; rw [← h]; rfl
  | cons x r ih =>
    unfold looks at h
    split at h
    · rename_i v vs' h1 h2
      cases h
      rw [List.map_cons, ih h2, ha.look h1]
    · cases h
theorem OW.inv {d : Nat} {x : Operand} {ys : List Operand} {ats : List Nat} {name : String} {ty : TypeId} {pos : String} {af : Array Edge} {gdd : Option (Nat × Bool)} {args : List Value} {R : Ending → World → Prop}
    (hl : opAt l i = some ⟨some d, .call ⟨.invoke x name, ys.toArray, ats.toArray⟩, ty, pos, af, gdd⟩) (hg : gd l fr ⟨some d, .call ⟨.invoke x name, ys.toArray, ats.toArray⟩, ty, pos, af, gdd⟩ = some true) (hN : Nat.blt d N = true)
    (hx : look fr x = some v) (hy : looks fr ys = some args) (hc : InvC P v name args w R)
    (h : ∀ e w', R e w' → ∃ v, e = .returned v ∧ OW P l N Q (i + 1) ((d, v) :: fr) w') : OW P l N Q i fr w := by
  obtain ⟨f, args', hi, hc⟩ := hc
  refine OW.call hl hg rfl hN (fun a ha => ?_) hc h
  have e1 := ha.look hx
  have e2 := looks_eval hy ha
  have e3 := hi w
  have e4 : (ys.toArray.map a.eval) = args.toArray := by rw [← e2]; simp
  have e5 : (Array.map a.eval ys.toArray) = args.toArray := e4
  have e6 : ((#[v] : Array Value) ++ args.toArray) = (v :: args).toArray := by simp
  have e7 : (execOp a.eval ⟨some d, .call ⟨.invoke x name, ys.toArray, ats.toArray⟩, ty, pos, af, gdd⟩).run P w = ((invoke (.fn (.method name) #[]) (#[v] ++ args.toArray)).run P w) := by
    simp only [execOp, resolve, e1, e5]
    rfl
  rw [e7, e6, e3]
theorem mkif_run {T : TypeId} {x : Operand} (ho : o.op = .makeInterface T x) (hx : look fr x = some v) (hp : psem P (Instr.makeInterface T v) = some (.iface T v)) : ∀ a w, Rep N fr a → (execOp a.eval o).run P w = .ok (.value (.iface T v)) w := by
  intro a w ha
  have e1 := ha.look hx
  have e2 := psem_run hp w
  simp [execOp, ho, e1, e2]
theorem ones_tag {T : TypeId} {w : World} {cs : List Value} {S : List Nat} {x : α} (h : (tagP T A).own w cs S x) : ones cs = true := by
  obtain ⟨u, rfl, _⟩ := h; rfl
theorem ones_sum {w : World} {cs : List Value} {S : List Nat} {x : α ⊕ β} (h1 : ∀ w cs S x, A.own w cs S x → ones cs = true) (h2 : ∀ w cs S x, B.own w cs S x → ones cs = true) (h : (sumP A B hA hB).own w cs S x) : ones cs = true := by
  cases x with
  | inl x => exact h1 _ _ _ _ h
  | inr x => exact h2 _ _ _ _ h
theorem ifc_tag {T : TypeId} {w : World} {cs : List Value} {S : List Nat} {x : α} (h : (tagP T A).own w cs S x) : ∃ T u, cs = [.iface T u] := by
  obtain ⟨u, rfl, _⟩ := h; exact ⟨_, _, rfl⟩
theorem ifc_sum {w : World} {cs : List Value} {S : List Nat} {x : α ⊕ β} (h1 : ∀ w cs S x, A.own w cs S x → ∃ T u, cs = [.iface T u]) (h2 : ∀ w cs S x, B.own w cs S x → ∃ T u, cs = [.iface T u]) (h : (sumP A B hA hB).own w cs S x) : ∃ T u, cs = [.iface T u] := by
  cases x with
  | inl x => exact h1 _ _ _ _ h
  | inr x => exact h2 _ _ _ _ h
theorem St.ifcell {x : α} (h : St w0 S0 w L) (j : Nat) (hj : L[j]? = some (itI A [v] S x)) (hA : ∀ w cs S x, A.own w cs S x → ∃ T u, cs = [.iface T u]) : ∃ T u, v = .iface T u := by
  obtain ⟨T, u, e⟩ := hA _ _ _ _ (h.all j _ hj)
  exact ⟨T, u, by simpa using e⟩
theorem St.toOptEq {U : TypeId} {y : α} {x : Option α} (h : St w0 S0 w L) (j : Nat) (hj : L[j]? = some (itI (ptrP U A) [u] S y)) (hx : x = some y) : St w0 S0 w (L.set j (itI (optP U A) [u] S x)) := by
  subst hx
  exact h.turn j hj (h.all j _ hj) rfl
theorem St.bchOne {R : Rp α} (h : St w0 S0 w L) (j : Nat) {cs : List Value} {x : α} (hj : L[j]? = some (itI R cs S x)) : St w0 S0 w (L.set j (bchI R [cs] [S] [x])) := by
  have hown : R.own w cs S x := h.all j _ hj
  refine h.turn j hj ⟨rfl, rfl, fun i c T z hc hT hz => ?_⟩ (by simp [bchI, itI])
  cases i with
  | zero => simp at hc hT hz; subst hc; subst hT; subst hz; exact hown
  | succ i => simp at hc
theorem St.bchApp {R : Rp α} {css css2 : List (List Value)} {Ss Ss2 : List (List Nat)} {xs ys : List α} (h : St w0 S0 w L) (k j : Nat) (hkj : Nat.beq k j = false) (hk : L[k]? = some (bchI R css Ss xs)) (hj : L[j]? = some (bchI R css2 Ss2 ys)) :
    St w0 S0 w ((L.set k (bchI R (css ++ css2) (Ss ++ Ss2) (xs ++ ys))).set j nilI) := by
  obtain ⟨a1, a2, a5⟩ := h.all k _ hk
  obtain ⟨b1, b2, b5⟩ := h.all j _ hj
  have hap : ∀ b ∈ Ss.flatten, b ∉ Ss2.flatten := fun b hb hb2 => h.apart k j _ _ (Nat.ne_of_beq_eq_false hkj) hk hj b hb hb2
  have get : ∀ {β : Type} (l m : List β) (i : Nat) (u : β), (l ++ m)[i]? = some u → (i < l.length ∧ l[i]? = some u) ∨ (l.length ≤ i ∧ m[i - l.length]? = some u) := by
    intro β l m i u hi
    rcases Nat.lt_or_ge i l.length with hlt | hge
    · rw [List.getElem?_append_left hlt] at hi; exact .inl ⟨hlt, hi⟩
    · rw [List.getElem?_append_right hge] at hi; exact .inr ⟨hge, hi⟩
  refine h.fuse k j hkj hk hj ⟨by simp; omega, by simp; omega, fun i c T z hc hT hz => ?_⟩ ?_ (fun b hb => ?_)
  · rcases get _ _ _ _ hc with ⟨l1, hc⟩ | ⟨l1, hc⟩
    · rcases get _ _ _ _ hT with ⟨l2, hT⟩ | ⟨l2, hT⟩
      · rcases get _ _ _ _ hz with ⟨l3, hz⟩ | ⟨l3, hz⟩
        · exact a5 i c T z hc hT hz
        · omega
      · omega
    · rcases get _ _ _ _ hT with ⟨l2, hT⟩ | ⟨l2, hT⟩
      · omega
      · rcases get _ _ _ _ hz with ⟨l3, hz⟩ | ⟨l3, hz⟩
        · omega
        · refine b5 (i - css.length) c T z hc ?_ ?_
          · rw [show css.length = Ss.length by omega]; exact hT
          · rw [show css.length = xs.length by omega]; exact hz
  · show (Ss ++ Ss2).flatten.Nodup
    rw [List.flatten_append]
    exact List.nodup_append.2 ⟨h.nd k _ hk, h.nd j _ hj, fun a ha b hb e => by subst e; exact hap a ha hb⟩
  · have hb' : b ∈ (Ss ++ Ss2).flatten := hb
    rw [List.flatten_append] at hb'
    exact List.mem_append.1 hb'
theorem St.nOf {T : TypeId} {R : Rp α} {v : Value} {sz : Nat} {css : List (List Value)} {Ss : List (List Nat)} {xs : List α} (h : St w0 S0 w L) (k j : Nat) (hkj : Nat.beq k j = false) (hs : sz = R.sz) (hk : L[k]? = some (rowI v T (fit sz) sz css)) (hj : L[j]? = some (bchI R css Ss xs)) : ∃ S', St w0 S0 w ((L.set k (nI T R v S' xs none)).set j nilI) := by
  subst hs
  obtain ⟨b1, b2, b5⟩ := h.all j _ hj
  have hrow := h.all k _ hk
  have hd : ∀ b ∈ (ownB v).toList, b ∉ Ss.flatten := h.apart k j _ _ (Nat.ne_of_beq_eq_false hkj) hk hj
  have hn : Ss.flatten.Nodup := h.nd j _ hj
  have hnd : ((ownB v).toList ++ Ss.flatten).Nodup := List.nodup_append.2 ⟨ownB_nodup, hn, fun a ha b hb e => by subst e; exact hd a ha hb⟩
  refine ⟨_, h.fuse k j hkj hk hj (C := nI T R v ((ownB v).toList ++ Ss.flatten) xs none) ⟨css, Ss, ⟨?_, b1, b2, rfl, hnd, (fun _ _ e => by cases e), fun i c S' z _ hc hS hz => b5 i c S' z hc hS hz⟩⟩ hnd (fun b hb => List.mem_append.1 hb)⟩
  rw [← b1]
  exact hrow
theorem St.mapIs {val : α → Value} {r : Nat} {m : List (Int × α)} (hst : St w0 S0 w L) (j : Nat) (hj : L[j]? = some (mapI r val m)) : MapIs val r m w := hst.all j _ hj
theorem look2F {val : α → Value} {t tk te : TypeId} {x y : Operand} {r : Nat} {k : Int} {m : List (Int × α)} {kd : IntKind} (z0 : α) (h : MapIs val r m w) (ho : o.op = .lookup t x y true) (hx : look fr x = some (.map (some r))) (hy : look fr y = some (.int .i64 k))
    (ht : P.underlying t = some (.map tk te)) (hk : P.underlying tk = some (.int kd)) (hz : psem P (zeroValue te) = some (val z0)) : ∀ b, Rep N fr b → (execOp b.eval o).run P w = .ok (.value (.tuple #[val ((mget m k).getD z0), .bool (mget m k).isSome])) w := by
  intro b hb
  have e1 := hb.look hx
  have e2 := hb.look hy
  obtain ⟨A, clock, hA, hE⟩ := h
  have hf := run_findKey (P := P) (w := w) (k := k) hk hE
  rcases lookup_cases (val := val) (m := m) (k := k) z0 with ⟨h1, h2⟩ | ⟨q, u, h1, h2, _, _⟩
  · rw [h1] at hf
    simp [execOp, ho, Instr.lookup, run_underlying ht, e1, e2, run_getObj hA, run_checkKey hk, hf, psem_run hz, h2]
  · rw [h1] at hf
    simp [execOp, ho, Instr.lookup, run_underlying ht, e1, e2, run_getObj hA, run_checkKey hk, hf, h2]
theorem look1F {val : α → Value} {t tk te : TypeId} {x y : Operand} {r : Nat} {k : Int} {m : List (Int × α)} {kd : IntKind} (z0 : α) (h : MapIs val r m w) (ho : o.op = .lookup t x y false) (hx : look fr x = some (.map (some r))) (hy : look fr y = some (.int .i64 k))
    (ht : P.underlying t = some (.map tk te)) (hk : P.underlying tk = some (.int kd)) (hz : psem P (zeroValue te) = some (val z0)) : ∀ b, Rep N fr b → (execOp b.eval o).run P w = .ok (.value (val ((mget m k).getD z0))) w := by
  intro b hb
  have e1 := hb.look hx
  have e2 := hb.look hy
  obtain ⟨A, clock, hA, hE⟩ := h
  have hf := run_findKey (P := P) (w := w) (k := k) hk hE
  rcases lookup_cases (val := val) (m := m) (k := k) z0 with ⟨h1, h2⟩ | ⟨q, u, h1, h2, _, _⟩
  · rw [h1] at hf
    simp [execOp, ho, Instr.lookup, run_underlying ht, e1, e2, run_getObj hA, run_checkKey hk, hf, psem_run hz, h2]
  · rw [h1] at hf
    simp [execOp, ho, Instr.lookup, run_underlying ht, e1, e2, run_getObj hA, run_checkKey hk, hf, h2]
theorem St.mlookS {R : Rp α} {r : Nat} {m : List (Int × α)} {k : Int} (R0 : Rp β) (f : Option α → β) (hst : St w0 S0 w L) (j : Nat) (hj : L[j]? = some (mN r R S m none)) (vz : Value) (hz : ∀ w, R0.own w [vz] [] (f none)) (hR : ∀ w cs S x, R.own w cs S x → R0.own w cs S (f (some x))) (hR2 : ∀ w cs S x, R0.own w cs S (f (some x)) → R.own w cs S x) :
    ∃ v S1 S2, (mget m k = none → v = vz) ∧ MLk r k v vz (mget m k).isSome w ∧ St w0 S0 w (L.set j (mN r R S1 m (some (k, v))) ++ [itI R0 [v] S2 (f (mget m k))]) := by
  obtain ⟨v, S1, S2, mv, Ss, hst2, hr, hv⟩ := look_core (k := k) hst j hj vz hz hR hR2
  obtain ⟨A, clock, hA, hE⟩ := hr.map
  have hs := mget_keys hr.keys k
  refine ⟨v, S1, S2, fun hn => ?_, ⟨A, clock, mv, hA, hE, hv, ?_⟩, hst2⟩
  · rw [hn] at hs
    cases hm : mget mv k with
    | none => rw [hm] at hv; exact hv.symm
    | some u => rw [hm] at hs; cases hs
  · exact hs
theorem mlk_run {t tk te : TypeId} {x y : Operand} {two : Bool} {r : Nat} {k : Int} {vz : Value} {b : Bool} {kd : IntKind} (h : MLk r k v vz b w) (ho : o.op = .lookup t x y two) (hx : look fr x = some (.map (some r))) (hy : look fr y = some (.int .i64 k))
    (ht : P.underlying t = some (.map tk te)) (hk : P.underlying tk = some (.int kd)) (hzv : psem P (zeroValue te) = some vz) : ∀ a, Rep N fr a → (execOp a.eval o).run P w = .ok (.value (if two then .tuple #[v, .bool b] else v)) w := by
  intro a ha
  have e1 := ha.look hx
  have e2 := ha.look hy
  obtain ⟨A, clock, mv, hA, hE, hv, hb⟩ := h
  have hf := run_findKeyV (P := P) (w := w) (k := k) hk hE
  cases hm : mget mv k with
  | none =>
    rw [mpos_mget.2 hm] at hf
    rw [hm] at hb hv
    subst hv; subst hb
    cases two <;> simp [execOp, ho, Instr.lookup, run_underlying ht, e1, e2, run_getObj hA, run_checkKey hk, hf, psem_run hzv]
  | some u =>
    obtain ⟨i, hp, _⟩ := mpos_get hm
    rw [hp, hm] at hf
    rw [hm] at hb hv
    subst hv; subst hb
    cases two <;> simp [execOp, ho, Instr.lookup, run_underlying ht, e1, e2, run_getObj hA, run_checkKey hk, hf]
theorem mlk1_run {t tk te : TypeId} {x y : Operand} {r : Nat} {k : Int} {vz : Value} {b : Bool} {kd : IntKind} (h : MLk r k v vz b w) (ho : o.op = .lookup t x y false) (hx : look fr x = some (.map (some r))) (hy : look fr y = some (.int .i64 k))
    (ht : P.underlying t = some (.map tk te)) (hk : P.underlying tk = some (.int kd)) (hzv : psem P (zeroValue te) = some vz) : ∀ a, Rep N fr a → (execOp a.eval o).run P w = .ok (.value v) w := mlk_run (two := false) h ho hx hy ht hk hzv
theorem mlk2_run {t tk te : TypeId} {x y : Operand} {r : Nat} {k : Int} {vz : Value} {b : Bool} {kd : IntKind} (h : MLk r k v vz b w) (ho : o.op = .lookup t x y true) (hx : look fr x = some (.map (some r))) (hy : look fr y = some (.int .i64 k))
    (ht : P.underlying t = some (.map tk te)) (hk : P.underlying tk = some (.int kd)) (hzv : psem P (zeroValue te) = some vz) : ∀ a, Rep N fr a → (execOp a.eval o).run P w = .ok (.value (.tuple #[v, .bool b])) w := mlk_run (two := true) h ho hx hy ht hk hzv
theorem St.mF2N {val : α → Value} {r : Nat} {m : List (Int × α)} (h : St w0 S0 w L) (j : Nat) (hj : L[j]? = some (mapI r val m)) : St w0 S0 w (L.set j (mN r (flatP (fun x => [val x]) 1 (fun _ => rfl)) [r] m none)) := by
  obtain ⟨A, clock, hA, hE⟩ := h.all j _ hj
  have e : (m.map (fun _ => ([] : List Nat))).flatten = [] := by
    clear hj hE
    induction m with
    | nil => rfl
    | cons p m ih => simp
  refine h.turn j hj ⟨m.map (fun p => (p.1, val p.2)), m.map (fun _ => []), ⟨⟨A, clock, hA, ⟨?_, hE.born, hE.lt⟩⟩, by simp, by simp, by rw [e], by simp, (fun _ _ _ e => by cases e), fun i q S' p _ hq hS hp => ?_⟩⟩ rfl
  · rw [hE.eq, List.map_map]; rfl
  · rw [List.getElem?_map, hp] at hq
    rw [List.getElem?_map, hp] at hS
    cases hq; cases hS
    exact ⟨rfl, rfl⟩
theorem St.mN2F {val : α → Value} {r : Nat} {m : List (Int × α)} {hf : ∀ x : α, ([val x] : List Value).length = 1} (h : St w0 S0 w L) (j : Nat) (hj : L[j]? = some (mN r (flatP (fun x => [val x]) 1 hf) S m none)) : St w0 S0 w (L.set j (mapI r val m)) := by
  obtain ⟨mv, Ss, hr⟩ := h.all j _ hj
  obtain ⟨A, clock, hA, hE⟩ := hr.map
  have e : mv = m.map (fun p => (p.1, val p.2)) := by
    apply List.ext_getElem?
    intro i
    rw [List.getElem?_map]
    cases hm : m[i]? with
    | none =>
      have h1 : m.length ≤ i := List.getElem?_eq_none_iff.1 hm
      have h2 := hr.len
      simp only [Option.map_none]
      exact List.getElem?_eq_none_iff.2 (by omega)
    | some p =>
      have hl := (List.getElem?_eq_some_iff.1 hm).1
      have l1 : i < mv.length := by rw [hr.len]; exact hl
      have l2 : i < Ss.length := by rw [hr.ls]; exact hl
      obtain ⟨o1, _⟩ := hr.own i mv[i] Ss[i] p (fun _ _ e => (by cases e)) (List.getElem?_eq_getElem l1) (List.getElem?_eq_getElem l2) hm
      have hk : mv[i].1 = p.1 := by
        have := congrArg (fun l => l[i]?) hr.keys
        simp only [List.getElem?_map, hm, List.getElem?_eq_getElem l1, Option.map_some, Option.some.injEq] at this
        exact this
      simp only [List.cons.injEq, and_true] at o1
      rw [List.getElem?_eq_getElem l1]
      simp only [Option.map_some, Option.some.injEq]
      exact Prod.ext hk o1
  refine h.upd j hj (Chg.refl _ _) ⟨A, clock, hA, ⟨?_, hE.born, hE.lt⟩⟩ (fun b hb => .inl ?_) (by simp [mapI])
  · rw [hE.eq, e, List.map_map]; rfl
  · have hb' : b = r := by simpa [mapI] using hb
    subst hb'
    show b ∈ S
    rw [hr.hS]; exact List.mem_cons_self
theorem St.rval {val : α → Value} {hf : ∀ x : α, ([val x] : List Value).length = 1} {it r : Nat} {m rem : List (Int × α)} {k : Int} {x : α} (hst : St w0 S0 w L) (j : Nat) (hj : L[j]? = some (rngI it r (flatP (fun x => [val x]) 1 hf) S m rem (some (k, v, x)))) : v = val x := by
  have h := hst.rsee j hj [] rfl
  have h : [v] = [val x] := h
  simpa using h
end
end Go.Sx

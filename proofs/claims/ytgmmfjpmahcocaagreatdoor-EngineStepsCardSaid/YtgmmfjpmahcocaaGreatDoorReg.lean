/- Texts Reg, Cuts, Ins, Ifc, Hole, Elem, Eng7, Eng8, Wk of this proof. -/
import Derived.Test.YtgmmfjpmahcocaaGreatDoorEng2
import Derived.Test.YtgmmfjpmahcocaaGreatDoorMem
import Derived.Lib.Overlaps
import Derived.Lib.AppendZerosOnto
import Derived.Laws.Externs
set_option linter.unusedVariables false
set_option linter.unusedSimpArgs false
namespace Go.Sx
open Go.RowKit
section
variable {P : Program} {N : Nat} {Q : Exit -> Act -> World -> Prop} {fr fr' : List (Nat × Value)} {w w0 : World} {l : List Oper} {i : Nat} {o : Oper} {S0 : List Nat} {L : List Item} {α : Type}
theorem OW.inl {d M : Nat} {f : FuncId} {fn : Func} {c : Code} {args : List Value} (hl : opAt l i = some o) (hg : gd l fr o = some true) (hd : o.dst = some d) (hN : Nat.blt d N = true)
  (hp : pcall P fr o = some (f, args)) (hf : P.funcs[f]? = some fn) (hb : fn.body = some c) (hM : fn.ntmps = M) (hs : Nat.ble args.length M = true)
  (h : CW P M c (bodyPost P fn (fun e w' => ∃ v, e = .returned v /\ OW P l N Q (i + 1) ((d, v) :: fr) w')) (argsFr 0 args) w) : OW P l N Q i fr w :=
 OW.fn hl hg hd hN hp (CW.start hf hb hM hs h) (fun _ _ h => h)
end
section
variable {α : Type} {w w' : World} {r : Nat} {R : Rp α} {S : List Nat} {m : List (Int × α)} {ho : Option (Int × Value)} {mv : List (Int × Value)} {Ss : List (List Nat)}
end
section
variable {P : Program} {N : Nat} {Q : Exit -> Act -> World -> Prop} {fr fr' : List (Nat × Value)} {w w0 : World} {l : List Oper} {i : Nat} {o : Oper} {S0 : List Nat} {L : List Item} {α : Type} {R : Rp α} {r : Nat} {S : List Nat} {m : List (Int × α)} {ho : Option (Int × Value)}
end
end Go.Sx
set_option linter.unusedVariables false
set_option linter.unusedSimpArgs false
namespace Go.Sx
open Go.RowKit
section
variable {α : Type} {enc : α -> List Value} {sz : Nat}
theorem flat_takeC (he : ∀ x, (enc x).length = sz) (xs : List α) (n : Nat) : (flat enc xs).take (n * sz) = flat enc (xs.take n) := by
 induction xs generalizing n with
 | nil => simp [flat]
 | cons x r ih =>
  cases n with
  | zero => simp [flat]
  | succ n =>
   have h1 := he x
   simp only [flat, List.take_succ_cons]
   rw [List.take_append, h1, Nat.succ_mul, show n * sz + sz - sz = n * sz by omega, ih, List.take_of_length_le (by omega)]
theorem flat_app (xs ys : List α) : flat enc (xs ++ ys) = flat enc xs ++ flat enc ys := by
 induction xs with
 | nil => rfl
 | cons x r ih => simp only [List.cons_append, flat, ih, List.append_assoc]
theorem Owns.pre {w : World} {T : TypeId} {a : Option Addr} {n c : Nat} {xs ys : List α} (he : ∀ x, (enc x).length = sz) (h : Owns w T sz (.slice a n c) xs.length (flat enc xs)) {q : Int} (hc : cut xs 0 q = some ys) :
  Owns w T sz (.slice a ys.length c) ys.length (flat enc ys) := by
 obtain ⟨_, h1, h2, e⟩ := cut_some hc
 have hl := cut_len hc
 have hys : ys = xs.take ys.length := by
  rw [hl]; simpa using e
 refine ⟨flat_length he _, ?_⟩
 rcases h.2 with ⟨h0, a', hv⟩ | ⟨g, o, cap, cur, hv, hp, hg, hnc, hm, hcs, ht⟩
 ·simp only [Value.slice.injEq] at hv
  obtain ⟨rfl, rfl, rfl⟩ := hv
  have : ys.length = 0 := by omega
  exact .inl ⟨this, a, by rw [this]⟩
 ·simp only [Value.slice.injEq] at hv
  obtain ⟨rfl, rfl, rfl⟩ := hv
  refine .inr ⟨g, o, c, cur, rfl, hp, hg, by omega, hm, hcs, ?_⟩
  have hle : ys.length * sz <= xs.length * sz := Nat.mul_le_mul_right _ (by omega)
  have e2 : ((cur.toList.drop o).take (xs.length * sz)).take (ys.length * sz) = (cur.toList.drop o).take (ys.length * sz) := by
   rw [List.take_take, Nat.min_eq_left hle]
  rw [<- e2, ht, flat_takeC he]
  exact congrArg (flat enc) hys.symm
end
section
variable {P : Program} {N : Nat} {Q : Exit -> Act -> World -> Prop} {fr fr' : List (Nat × Value)} {w w0 : World} {l : List Oper} {i : Nat} {o : Oper} {S0 : List Nat} {L : List Item} {α : Type} {enc : α -> List Value} {sz : Nat}
end
end Go.Sx
set_option linter.unusedVariables false
set_option linter.unusedSimpArgs false
namespace Go.Sx
open Go.RowKit
section
variable {P : Program} {N : Nat} {Q : Exit -> Act -> World -> Prop} {fr fr' : List (Nat × Value)} {w w0 : World} {l : List Oper} {i : Nat} {o : Oper} {S0 : List Nat} {L : List Item} {α : Type} {enc : α -> List Value} {sz : Nat}
def over {α : Type} (xs : List α) (lo : Nat) (ys : List α) : List α := xs.take lo ++ ys.take (xs.length - lo) ++ xs.drop (lo + ys.length)
theorem flat_raw (he : ∀ x, (enc x).length = sz) (xs : List α) : flat (fit sz) (xs.map enc) = flat enc xs := by
 induction xs with
 | nil => rfl
 | cons x r ih => simp only [List.map_cons, flat, ih, fit_eq (he x)]
def blocks (sz : Nat) : Nat -> List Value -> List (List Value)
 | 0, _ => []
 | n + 1, cs => cs.take sz :: blocks sz n (cs.drop sz)
theorem blocks_len (sz n : Nat) (cs : List Value) : (blocks sz n cs).length = n := by
 induction n generalizing cs with
 | zero => rfl
 | succ n ih => simp [blocks, ih]
theorem blocks_flat (sz : Nat) : ∀ (n : Nat) (cs : List Value), cs.length = n * sz -> flat (fit sz) (blocks sz n cs) = cs := by
 intro n
 induction n with
 | zero => intro cs h; have : cs = [] := List.eq_nil_of_length_eq_zero (by simpa using h); rw [this]; rfl
 | succ n ih =>
  intro cs h
  simp only [blocks, flat]
  rw [Nat.succ_mul] at h
  rw [fit_eq (by rw [List.length_take]; omega), ih _ (by rw [List.length_drop]; omega), List.take_append_drop]
theorem St.spare {T : TypeId} {a : Option Addr} {n c k : Nat} {xs : List α} (hst : St w0 S0 w L) (j : Nat) (hj : L[j]? = some (rowI (.slice a n c) T enc sz xs)) (he : ∀ x, (enc x).length = sz) (hk : xs.length <= k) (hkc : k <= c) :
  ∃ junk : List (List Value), junk.length = k - xs.length /\ St w0 S0 w (L.set j (rowI (.slice a k c) T (fit sz) sz (xs.map enc ++ junk))) := by
 have h : Owns w T sz (.slice a n c) xs.length (flat enc xs) := hst.all j _ hj
 have e : (ownB (.slice a k c)).toList = (ownB (.slice a n c)).toList := by
  cases a with
  | none => rfl
  | some a => cases c <;> rfl
 have fin : ∀ junk : List (List Value), junk.length = k - xs.length -> Owns w T sz (.slice a k c) (xs.map enc ++ junk).length (flat (fit sz) (xs.map enc ++ junk)) -> St w0 S0 w (L.set j (rowI (.slice a k c) T (fit sz) sz (xs.map enc ++ junk))) := fun junk hl ho =>
  hst.upd j hj (Chg.refl _ _) ho (fun b hb => .inl (by
   show b ∈ (ownB (.slice a n c)).toList
   rw [<- e]
   exact hb)) rowI_nodup
 rcases h.2 with ⟨h0, a', hv⟩ | ⟨g, o, cap, cur, hv, hp, hg, hnc, hm, hcs, ht⟩
 ·simp only [Value.slice.injEq] at hv
  obtain ⟨rfl, rfl, rfl⟩ := hv
  have hxs : xs = [] := List.eq_nil_of_length_eq_zero h0
  subst hxs
  have : k = 0 := by omega
  subst this
  exact ⟨[], rfl, fin [] rfl (Owns.nil _ _ _ _)⟩
 ·simp only [Value.slice.injEq] at hv
  obtain ⟨rfl, rfl, rfl⟩ := hv
  have hks : k * sz <= c * sz := Nat.mul_le_mul_right _ hkc
  have hxk : xs.length * sz <= k * sz := Nat.mul_le_mul_right _ hk
  have hsub : (k - xs.length) * sz = k * sz - xs.length * sz := Nat.sub_mul ..
  have hwl : ((cur.toList.drop o).take (k * sz)).length = k * sz := by
   rw [List.length_take, List.length_drop, Array.length_toList]; omega
  refine ⟨blocks sz (k - xs.length) (((cur.toList.drop o).take (k * sz)).drop (xs.length * sz)), blocks_len _ _ _, fin _ (blocks_len _ _ _) ?_⟩
  have hfl : flat (fit sz) (xs.map enc ++ blocks sz (k - xs.length) (((cur.toList.drop o).take (k * sz)).drop (xs.length * sz))) = (cur.toList.drop o).take (k * sz) := by
   rw [flat_app, flat_raw he, blocks_flat _ _ _ (by rw [List.length_drop, hwl]; omega), <- ht]
   conv => rhs; rw [<- List.take_append_drop (xs.length * sz) ((cur.toList.drop o).take (k * sz))]
   rw [List.take_take, Nat.min_eq_left hxk]
  have hll : (xs.map enc ++ blocks sz (k - xs.length) (((cur.toList.drop o).take (k * sz)).drop (xs.length * sz))).length = k := by
   rw [List.length_append, List.length_map, blocks_len]; omega
  refine ⟨by rw [flat_length (fit_len sz)], .inr ⟨g, o, c, cur, by rw [hll], hp, hg, by rw [hll]; exact hkc, hm, hcs, ?_⟩⟩
  rw [hll, hfl]
end
end Go.Sx
set_option linter.unusedVariables false
set_option linter.unusedSimpArgs false
namespace Go.Sx
open Go.RowKit
def bchI {α : Type} (R : Rp α) (css : List (List Value)) (Ss : List (List Nat)) (xs : List α) : Item where
 S := Ss.flatten
 Φ w := css.length = xs.length /\ Ss.length = xs.length /\ ∀ (i : Nat) (cs : List Value) (S : List Nat) (x : α), css[i]? = some cs -> Ss[i]? = some S -> xs[i]? = some x -> R.own w cs S x
 loc w w' h hr := by
  obtain ⟨h1, h2, h5⟩ := hr
  exact ⟨h1, h2, fun i cs S x hc hS hx => R.loc w w' cs S x (fun b hb => h b (List.mem_flatten.2 ⟨S, List.mem_of_getElem? hS, hb⟩)) (h5 i cs S x hc hS hx)⟩
 lt w hr b hb := by
  obtain ⟨h1, h2, h5⟩ := hr
  obtain ⟨S, hS, hbS⟩ := List.mem_flatten.1 hb
  obtain ⟨i, hi, rfl⟩ := List.mem_iff_getElem.1 hS
  exact R.lt _ _ _ _ (h5 i css[i] Ss[i] xs[i] (List.getElem?_eq_getElem (by omega)) (List.getElem?_eq_getElem hi) (List.getElem?_eq_getElem (by omega))) b hbS
section
variable {P : Program} {N : Nat} {Q : Exit -> Act -> World -> Prop} {fr fr' : List (Nat × Value)} {w w0 : World} {l : List Oper} {i : Nat} {o : Oper} {S0 : List Nat} {L : List Item} {α β : Type} {A : Rp α} {B : Rp β} {hA : A.sz = 1} {hB : B.sz = 1} {v u : Value} {S : List Nat}
def looks (fr : List (Nat × Value)) : List Operand -> Option (List Value)
 | [] => some []
 | x :: r => match look fr x, looks fr r with
  | some v, some vs => some (v :: vs)
  | _, _ => none
theorem St.nOf {T : TypeId} {R : Rp α} {v : Value} {sz : Nat} {css : List (List Value)} {Ss : List (List Nat)} {xs : List α} (h : St w0 S0 w L) (k j : Nat) (hkj : Nat.beq k j = false) (hs : sz = R.sz) (hk : L[k]? = some (rowI v T (fit sz) sz css)) (hj : L[j]? = some (bchI R css Ss xs)) : ∃ S', St w0 S0 w ((L.set k (nI T R v S' xs none)).set j nilI) := by
 subst hs
 obtain ⟨b1, b2, b5⟩ := h.all j _ hj
 have hrow := h.all k _ hk
 have hd : ∀ b ∈ (ownB v).toList, b ∉ Ss.flatten := h.apart k j _ _ (Nat.ne_of_beq_eq_false hkj) hk hj
 have hn : Ss.flatten.Nodup := h.nd j _ hj
 have hnd : ((ownB v).toList ++ Ss.flatten).Nodup := List.nodup_append.2 ⟨ownB_nodup, hn, fun a ha b hb e => by subst e; exact hd a ha hb⟩
 refine ⟨_, h.fuse k j hkj hk hj (C := nI T R v ((ownB v).toList ++ Ss.flatten) xs none) ⟨css, Ss, ⟨?_, b1, b2, rfl, hnd, (fun _ _ e => by cases e), fun i c S' z _ hc hS hz => b5 i c S' z hc hS hz⟩⟩ hnd (fun b hb => List.mem_append.1 hb)⟩
 rw [<- b1]
 exact hrow
end
end Go.Sx
set_option linter.unusedVariables false
set_option linter.unusedSimpArgs false
namespace Go.Sx
open Go.RowKit
section
variable {α : Type} {w w' : World} {T : TypeId} {R : Rp α} {v : Value} {S : List Nat} {xs : List α} {ho : Option (Nat × List Value)} {css : List (List Value)} {Ss : List (List Nat)}
theorem NRow.appH {v' : Value} {v2 : Value} {S2 : List Nat} {ys : List α} {css2 : List (List Value)} {Ss2 : List (List Nat)} {t : Nat} {cs0 : List Value} (h : NRow w T R v S xs none css Ss) (h2 : NRow w T R v2 S2 ys (some (t, cs0)) css2 Ss2) (hd : ∀ b ∈ S, b ∉ S2)
  (hw : ∀ b ∈ Ss.flatten ++ Ss2.flatten, w'.heap[b]? = w.heap[b]?) (hat : ownB v' = ownB v \/ ownB v' = some w.heap.size) (hrow : Owns w' T R.sz v' (xs.length + ys.length) (flat (fit R.sz) css ++ flat (fit R.sz) css2)) :
  NRow w' T R v' ((ownB v').toList ++ (Ss ++ Ss2).flatten) (xs ++ ys) (some (xs.length + t, cs0)) (css ++ css2) (Ss ++ Ss2) := by
 have hn := h.nd
 rw [h.hS] at hn
 obtain ⟨n1, n2, n3⟩ := List.nodup_append.1 hn
 have hn2 := h2.nd
 rw [h2.hS] at hn2
 obtain ⟨m1, m2, m3⟩ := List.nodup_append.1 hn2
 have lc := h.lc
 have ls := h.ls
 have lc2 := h2.lc
 have ls2 := h2.ls
 refine ⟨by rw [flat_append, List.length_append]; exact hrow, by simp; omega, by simp; omega, rfl, ?_, (fun t' cs' e => ?_), fun i c S' z gho g2 g3 g4 => ?_⟩
 ·rw [List.flatten_append]
  refine List.nodup_append.2 ⟨ownB_nodup, List.nodup_append.2 ⟨n2, m2, fun a ha b hb e => ?_⟩, fun a ha b hb e => ?_⟩
  ·subst e; exact hd a (by rw [h.hS]; exact List.mem_append_right _ ha) (by rw [h2.hS]; exact List.mem_append_right _ hb)
  ·subst e
   rcases hat with hat | hat
   ·rw [hat] at ha
    rcases List.mem_append.1 hb with hb | hb
    ·exact n3 a ha a hb rfl
    ·exact hd a (by rw [h.hS]; exact List.mem_append_left _ ha) (by rw [h2.hS]; exact List.mem_append_right _ hb)
   ·rw [hat] at ha
    simp at ha
    have hlt : a < w.heap.size := by
     rcases List.mem_append.1 hb with hb | hb
     ·exact h.lt a (by rw [h.hS]; exact List.mem_append_right _ hb)
     ·exact h2.lt a (by rw [h2.hS]; exact List.mem_append_right _ hb)
    omega
 ·simp only [Option.some.injEq, Prod.mk.injEq] at e
  obtain ⟨rfl, rfl⟩ := e
  obtain ⟨q1, q2, q3⟩ := h2.out t cs0 rfl
  refine ⟨q1, ?_, ?_⟩
  ·rw [List.getElem?_append_right (by omega), show xs.length + t - css.length = t by omega]; exact q2
  ·rw [List.getElem?_append_right (by omega), show xs.length + t - Ss.length = t by omega]; exact q3
 ·rcases app_get g2 with ⟨l1, g2⟩ | ⟨l1, g2⟩
  ·rcases app_get g3 with ⟨l2, g3⟩ | ⟨l2, g3⟩
   ·rcases app_get g4 with ⟨l3, g4⟩ | ⟨l3, g4⟩
    ·exact R.loc w w' c S' z (fun b hb => hw b (List.mem_append_left _ (List.mem_flatten.2 ⟨S', List.mem_of_getElem? g3, hb⟩))) (h.own i c S' z (by simp) g2 g3 g4)
    ·omega
   ·omega
  ·rcases app_get g3 with ⟨l2, g3⟩ | ⟨l2, g3⟩
   ·omega
   ·rcases app_get g4 with ⟨l3, g4⟩ | ⟨l3, g4⟩
    ·omega
    ·rw [show i - Ss.length = i - css.length by omega] at g3
     rw [show i - xs.length = i - css.length by omega] at g4
     exact R.loc w w' c S' z (fun b hb => hw b (List.mem_append_right _ (List.mem_flatten.2 ⟨S', List.mem_of_getElem? g3, hb⟩))) (h2.own (i - css.length) c S' z (fun c' e => by simp only [Option.some.injEq, Prod.mk.injEq] at e; exact gho cs0 (by rw [e.1, show xs.length + (i - css.length) = i by omega])) g2 g3 g4)
end
section
variable {P : Program} {N : Nat} {Q : Exit -> Act -> World -> Prop} {fr fr' : List (Nat × Value)} {w w0 : World} {l : List Oper} {i : Nat} {o : Oper} {S0 : List Nat} {L : List Item} {α : Type} {R : Rp α}
theorem OW.appNH {d t e : Nat} {x y : Operand} {ty : TypeId} {pos : String} {af : Array Edge} {gdd : Option (Nat × Bool)} {ats : List Nat} (hst : St w0 S0 w L) (k j : Nat) (hkj : Nat.beq k j = false) {v v2 : Value} {S S2 : List Nat} {xs ys : List α} {bytes : Nat} {t0 : Nat} {cs0 : List Value}
  (hk : L[k]? = some (nI e R v S xs none)) (hj : L[j]? = some (nI e R v2 S2 ys (some (t0, cs0)))) (hcs0 : ones cs0 = true)
  (hl : opAt l i = some ⟨some d, .call ⟨.builtin .append, [x, y].toArray, ats.toArray⟩, ty, pos, af, gdd⟩) (ha : ats = [t, t]) (hg : gd l fr ⟨some d, .call ⟨.builtin .append, [x, y].toArray, ats.toArray⟩, ty, pos, af, gdd⟩ = some true)
  (hN : Nat.blt d N = true) (hx : look fr x = some v) (hy : look fr y = some v2) (ht : P.underlying t = some (.slice e)) (hel : Elem P e R.sz bytes) (hb : (xs.length + ys.length) * bytes <= 140737488355328) (hone : ∀ w cs S x, R.own w cs S x -> ones cs = true)
  (h : ∀ v' S' w', St w0 S0 w' ((L.set k (nI e R v' S' (xs ++ ys) (some (xs.length + t0, cs0)))).set j nilI) -> OW P l N Q (i + 1) ((d, v') :: fr) w') : OW P l N Q i fr w := by
 subst ha
 obtain ⟨css, Ss, hr⟩ := hst.all k _ hk
 obtain ⟨css2, Ss2, hr2⟩ := hst.all j _ hj
 have hdis : ∀ b ∈ S, b ∉ S2 := hst.apart k j _ _ (Nat.ne_of_beq_eq_false hkj) hk hj
 obtain ⟨inf, z, hi, hz, hsz, hby, hzs⟩ := hel.info
 have exec : ∀ {v' : Value} {w' : World}, (Builtin.append_ #[t, t] ty #[v, v2]).run P w = .ok v' w' -> ∀ a, Rep N fr a ->
   (execOp a.eval ⟨some d, .call ⟨.builtin .append, [x, y].toArray, [t, t].toArray⟩, ty, pos, af, gdd⟩).run P w = .ok (.value v') w' := by
  intro v' w' hr a ha
  have e1 := ha.look hx
  have e2 := ha.look hy
  simp [execOp, resolve, invoke, builtin, e1, e2, hr]
 have hlk : k < L.length := (List.getElem?_eq_some_iff.1 hk).1
 have key : ∀ {v' : Value} {w' : World}, (Builtin.append_ #[t, t] ty #[v, v2]).run P w = .ok v' w' -> w.grownBy w' (ownB v) -> (ownB v' = ownB v \/ ownB v' = some w.heap.size) -> Owns w' e R.sz v' (xs.length + ys.length) (flat (fit R.sz) css ++ flat (fit R.sz) css2) -> OW P l N Q i fr w := by
  intro v' w' hrun hgr hat hown
  have hn := hr.nd
  rw [hr.hS] at hn
  have hn3 := (List.nodup_append.1 hn).2.2
  have hchg : Chg (ownB v).toList w w' := Chg.grown hgr (fun b hb => by simp [hb])
  have happ := hr.appH (w' := w') hr2 hdis (fun b hb => hchg.block b (by
   rcases List.mem_append.1 hb with hb | hb
   ·exact hr.lt b (by rw [hr.hS]; exact List.mem_append_right _ hb)
   ·exact hr2.lt b (by rw [hr2.hS]; exact List.mem_append_right _ hb)) (fun hv => by
   rcases List.mem_append.1 hb with hb | hb
   ·exact hn3 b hv b hb rfl
   ·exact hdis b (by rw [hr.hS]; exact List.mem_append_left _ hv) (by rw [hr2.hS]; exact List.mem_append_right _ hb))) hat hown
  refine OW.op hl hg rfl hN (exec hrun) (h v' ((ownB v').toList ++ (Ss ++ Ss2).flatten) w' ?_)
  have hsub : ∀ b ∈ (ownB v).toList ++ (Ss ++ Ss2).flatten, b ∈ S \/ b ∈ S2 := fun b hb => by
   rw [List.flatten_append] at hb
   rcases List.mem_append.1 hb with hb | hb
   ·exact .inl (by rw [hr.hS]; exact List.mem_append_left _ hb)
   ·rcases List.mem_append.1 hb with hb | hb
    ·exact .inl (by rw [hr.hS]; exact List.mem_append_right _ hb)
    ·exact .inr (by rw [hr2.hS]; exact List.mem_append_right _ hb)
  have hnd : ((ownB v).toList ++ (Ss ++ Ss2).flatten).Nodup := by
   have hn2 := hr2.nd
   rw [hr2.hS] at hn2
   have m := List.nodup_append.1 hn2
   have n := List.nodup_append.1 hn
   rw [List.flatten_append]
   refine List.nodup_append.2 ⟨n.1, List.nodup_append.2 ⟨n.2.1, m.2.1, fun a ha b hb e => by subst e; exact hdis a (by rw [hr.hS]; exact List.mem_append_right _ ha) (by rw [hr2.hS]; exact List.mem_append_right _ hb)⟩, fun a ha b hb e => ?_⟩
   subst e
   rcases List.mem_append.1 hb with hb | hb
   ·exact hn3 a ha a hb rfl
   ·exact hdis a (by rw [hr.hS]; exact List.mem_append_left _ ha) (by rw [hr2.hS]; exact List.mem_append_right _ hb)
  let A : Item := ⟨(ownB v).toList ++ (Ss ++ Ss2).flatten, fun w1 => ∀ b ∈ (ownB v).toList ++ (Ss ++ Ss2).flatten, b < w1.heap.size, fun w1 w2 hb hh b hb2 => by
   have h1 := hh b hb2
   have h2 := hb b hb2
   rw [Array.getElem?_eq_getElem h1] at h2
   exact (Array.getElem?_eq_some_iff.1 h2).1, fun w1 hh => hh⟩
  have hA : St w0 S0 w ((L.set k A).set j nilI) := hst.fuse k j hkj hk hj (C := A) (fun b hb => by
   rcases hsub b hb with hb | hb
   ·exact hr.lt b hb
   ·exact hr2.lt b hb) hnd hsub
  have hkA : ((L.set k A).set j nilI)[k]? = some A := by
   rw [List.getElem?_set_ne (fun e => Nat.ne_of_beq_eq_false hkj e.symm), List.getElem?_set_self hlk]
  have := hA.upd k hkA (it' := nI e R v' ((ownB v').toList ++ (Ss ++ Ss2).flatten) (xs ++ ys) (some (xs.length + t0, cs0))) (hchg.mono (fun b hb => List.mem_append_left _ hb)) ⟨_, _, happ⟩ (fun b hb => by
   rcases List.mem_append.1 hb with hb | hb
   ·rcases hat with hat | hat
    ·exact .inl (List.mem_append_left _ (by rw [<- hat]; exact hb))
    ·rw [hat] at hb; simp at hb; exact .inr (by omega)
   ·exact .inl (List.mem_append_right _ hb)) happ.nd
  rw [List.set_comm _ _ (fun e => Nat.ne_of_beq_eq_false hkj e.symm), List.set_set] at this
  exact this
 have hlim := (hst.nlen k hk).1
 have hrow2 : Rd w [] v2 (fit R.sz) R.sz css2 := by
  have hrow := hr2.row
  rw [<- hr2.lc] at hrow
  exact rd_of_row (fun x => fit_len _ x) hrow (by simp)
 obtain ⟨hn2, a2, c2, hv2, _, hc2⟩ := hrow2
 have hlc2 := hr2.lc
 rcases Nat.eq_zero_or_pos ys.length with h0 | h0
 ·have hys : ys = [] := List.eq_nil_of_length_eq_zero h0
  have hcs : css2 = [] := List.eq_nil_of_length_eq_zero (by omega)
  refine key (v' := v) (w' := w) ?_ ⟨rfl, rfl, rfl, Nat.le_refl _, fun _ _ _ => rfl⟩ (.inl rfl) ?_
  ·rw [hv2, hcs]
   exact run_append_none ht hel.size hr.row a2 c2
  ·rw [hcs, hys]
   simpa [flat] using hr.row
 ·obtain ⟨c0, hc0⟩ : ∃ c0, css2[0]? = some c0 := ⟨css2[0]'(by omega), List.getElem?_eq_getElem (by omega)⟩
  obtain ⟨u0, hu0⟩ : ∃ u0, (fit R.sz c0)[0]? = some u0 := ⟨(fit R.sz c0)[0]'(by rw [fit_len]; exact hel.pos), List.getElem?_eq_getElem (by rw [fit_len]; exact hel.pos)⟩
  obtain ⟨b, q, rfl, _, _⟩ := hc2 0 c0 0 u0 hc0 hu0
  have hcell : ∀ q' u, (flat (fit R.sz) css2)[q']? = some u -> w.cell? ((⟨b, q, none⟩ : Addr).add q') = some u := by
   intro q' u hu
   rw [add_none]
   obtain ⟨t, f, x, hx, hf, hq⟩ := flat_split (fun x => fit_len R.sz x) hel.pos hu
   obtain ⟨b', k', hb', _, hcell⟩ := hc2 t x f u hx hf
   simp only [Option.some.injEq, Addr.mk.injEq, and_true] at hb'
   obtain ⟨rfl, rfl⟩ := hb'
   rw [hq, <- Nat.add_assoc]
   exact hcell
  have hones : ∀ u ∈ flat (fit R.sz) css2, u.oneCell' = true := by
   intro u hu
   obtain ⟨q', hq', rfl⟩ := List.mem_iff_getElem.1 hu
   obtain ⟨t, f, c, hx, hf, _⟩ := flat_split (fun x => fit_len R.sz x) hel.pos (List.getElem?_eq_getElem hq')
   have ht := (List.getElem?_eq_some_iff.1 hx).1
   have l1 : t < Ss2.length := by rw [hr2.ls]; omega
   have l2 : t < ys.length := by omega
   by_cases e0 : t0 = t
   ·subst e0
    obtain ⟨q1, q2, _⟩ := hr2.out t0 cs0 rfl
    rw [q2] at hx
    cases hx
    rw [fit_eq q1] at hf
    exact ones_mem hcs0 _ (List.mem_of_getElem? hf)
   have hown := hr2.own t c Ss2[t] ys[t] (fun c' e => e0 (by simp only [Option.some.injEq, Prod.mk.injEq] at e; exact e.1)) hx (List.getElem?_eq_getElem l1) (List.getElem?_eq_getElem l2)
   rw [fit_eq (R.len _ _ _ _ hown)] at hf
   exact ones_mem (hone _ _ _ _ hown) _ (List.mem_of_getElem? hf)
  obtain ⟨v', w', hrun, hown, hgr, hat⟩ := run_app (P := P) w t ty e inf z R.sz bytes ht hi hz hsz hby hzs v xs.length (flat (fit R.sz) css) hr.row ⟨b, q, none⟩ ys.length c2 h0 (flat (fit R.sz) css2) (by rw [flat_length (fun x => fit_len R.sz x), hlc2]) hcell hones
   (by have := Nat.le_mul_of_pos_right (xs.length + ys.length) hel.bpos; simp only [maxLen]; omega) hb
  refine key ?_ hgr hat hown
  rw [hv2, hlc2]
  exact hrun
theorem St.nOneH {T : TypeId} {v : Value} {sz : Nat} {cs : List Value} (h : St w0 S0 w L) (k : Nat) (R : Rp α) (x : α) (hs : sz = R.sz) (hk : L[k]? = some (rowI v T (fit sz) sz [cs])) (hl : cs.length = R.sz) : St w0 S0 w (L.set k (nI T R v (ownB v).toList [x] (some (0, cs)))) := by
 subst hs
 have hrow := h.all k _ hk
 refine h.turn k hk ⟨[cs], [[]], ⟨hrow, rfl, rfl, by simp, ownB_nodup, fun t c e => ?_, fun i c S' z hho hc hS hz => ?_⟩⟩ rfl
 ·simp only [Option.some.injEq, Prod.mk.injEq] at e
  obtain ⟨rfl, rfl⟩ := e
  exact ⟨hl, rfl, rfl⟩
 ·cases i with
  | zero => exact absurd (by simp at hc; rw [hc]) (hho cs)
  | succ i => simp at hc
theorem idx_last (xs : List α) (x : α) : Sx.idx (xs ++ [x]) ((xs.length : Nat) : Int) = some x := by
 unfold Sx.idx
 rw [if_pos (by omega), Int.toNat_natCast, List.getElem?_append_right (by omega)]
 simp
end
def apart (a b : Int) : Option Unit := if a.toNat = b.toNat then none else some ()
theorem apart_ne {a b : Int} {u : Unit} (h : apart a b = some u) : a.toNat ≠ b.toNat := by
 unfold apart at h
 split at h
 ·cases h
 ·assumption
section
variable {w w0 : World} {S0 : List Nat} {L : List Item} {β : Type}
theorem St.nview {T e : TypeId} {enc : β -> List Value} {sz : Nat} {he : ∀ x, (enc x).length = sz} {hp : 0 < sz} {S : List Nat} {xs : List (List β)} {ho : Option (Nat × List Value)} {hd : Value} (h : St w0 S0 w L) (j : Nat)
  (hj : L[j]? = some (nI T (rowP e enc sz he hp) hd S xs ho)) {q : Int} {x : List β} (hx : Sx.idx xs q = some x) (hne : ∀ t c, ho = some (t, c) -> q.toNat ≠ t) {g o n cap : Nat} (hv : hd = .slice (some ⟨g, o, none⟩) n cap) :
  ∃ v, w.cell? ⟨g, o + q.toNat * 1, none⟩ = some v /\ ∀ F, (∀ b ∈ S, b ∉ F) -> Rd w F v enc sz x := by
 obtain ⟨css, Ss, hr⟩ := h.all j _ hj
 have hx2 := (idx_some hx).2.2
 have hl := (List.getElem?_eq_some_iff.1 hx2).1
 have a1 : q.toNat < css.length := by rw [hr.lc]; exact hl
 have a2 : q.toNat < Ss.length := by rw [hr.ls]; exact hl
 have hown := hr.own q.toNat css[q.toNat] Ss[q.toNat] x (fun c e => hne _ _ e rfl) (List.getElem?_eq_getElem a1) (List.getElem?_eq_getElem a2) hx2
 obtain ⟨v, hc, hS, hrow⟩ := hown
 refine ⟨v, ?_, fun F hF => ?_⟩
 ·have := hr.cells (List.getElem?_eq_getElem a1) (by rw [hc]; rfl) hv 0 v (by rw [hc]; rfl)
  exact this
 ·refine rd_of_row he hrow (fun b hb => hF b ?_)
  rw [hr.hS]
  exact List.mem_append_right _ (List.mem_flatten.2 ⟨Ss[q.toNat], List.getElem_mem a2, by rw [hS]; exact hb⟩)
end
end Go.Sx
set_option linter.unusedVariables false
set_option linter.unusedSimpArgs false
namespace Go.Sx
open Go.RowKit
section
variable {P : Program} {N : Nat} {Q : Exit -> Act -> World -> Prop} {fr fr' : List (Nat × Value)} {w w0 : World} {l : List Oper} {i : Nat} {o : Oper} {S0 : List Nat} {L : List Item} {α : Type} {R : Rp α}
end
end Go.Sx
set_option linter.unusedVariables false
set_option linter.unusedSimpArgs false
namespace Go.Sx
open Go.RowKit
section
variable {ρ : Type} {h : LH} {hs hs' hs1 hs2 : List H} {f : Option ρ} {r : ρ} {Fs Fs' : List Fa} {L L' : List Item} {fr : Fr} {P : Program} {B : Func} {N : Nat} {w0 : World} {Z : List Nat} {c x y : Code} {Q : Exit -> Act -> World -> Prop} {l : List Oper} {i : Nat} {e : Exit} {v : Value}
theorem Giv.dn {α : Type} {e : Nat} {v' : Value} {R : Rp α} {xs : List α} {js : List Nat} {src : List Src} {Fin : List Fa} (he : nth Fs e = some (.rn v' R xs)) (hp : KR (Nat.blt 0 R.sz) true) (n : Giv src Fs L js Fin) : Giv (.dn e :: src) Fs L js (.rn v' R xs :: Fin) :=
 ⟨fun w0 Z w a s => ⟨RdN.give (by have := hp.h; simpa [Nat.blt_eq] using this) (allF_nth a he) s js, n.g w0 Z w a s⟩⟩
theorem Giv.oN {α : Type} {j : Nat} {T : TypeId} {v' : Value} {R : Rp α} {S : List Nat} {xs xs' : List α} {js : List Nat} {src : List Src} {Fin : List Fa} (he : nth L j = some (nI T R v' S xs' none)) (hn : KR (mem? j js) false) (hxx : KR xs' xs) (n : Giv src Fs L js Fin) :
  Giv (.oN j :: src) Fs L js (.rn v' R xs :: Fin) :=
 ⟨fun w0 Z w a s => by
  have hj : L[j]? = some (nI T R v' S xs none) := by rw [<- nth_get, <- hxx.h]; exact he
  exact ⟨s.seeN j hj js hn.h, n.g w0 Z w a s⟩⟩
theorem Giv.nN {α : Type} {cp : Nat} {R : Rp α} {js : List Nat} {src : List Src} {Fin : List Fa} (n : Giv src Fs L js Fin) : Giv (.nN :: src) Fs L js (.rn (.slice none ([] : List α).length cp) R ([] : List α) :: Fin) :=
 ⟨fun w0 Z w a s => ⟨RdN.nil _ _ R.rd R.sz cp, n.g w0 Z w a s⟩⟩
theorem GO.co {σ κ ι0 ι1 : Type} {S : Prop} {js rest : List Nat} {src : List Src} {kf : FuncId} {args : List Value} {o : Option σ} {sel : σ -> Option κ} {A : σ -> Option ρ} {Bk : σ -> κ -> Option ρ} {post0 : σ -> ι0 -> Value × List Item} {post1 : σ -> κ -> ι1 -> Value × List Item} {Fin : List Fa} {Lin Lq Bq : List Item} {L0 : σ -> ι0 -> List Item} {L1 : σ -> κ -> ι1 -> List Item} [C : HasC o S]
  (hS : S -> CtrOW P kf args Fin Lin o sel post0 post1) (hL : selO L js [] = some Lq) (hM : Sim Lq Lin) (hg : Giv src Fs L js Fin) (hp : KR (pcC P l N fr i) (some (kf, args))) (hB : selO L rest [] = some Bq) (hJ0 : ∀ x q, appO (post0 x q).2 Bq = some (L0 x q)) (hJ1 : ∀ x k q, appO (post1 x k q).2 Bq = some (L1 x k q))
  (hd : KR (distinct (js ++ rest)) true) (n0 : ∀ x q, GO hs1 (A x) r Fs (L0 x q) ((dst l i, (post0 x q).1) :: fr) P B N w0 Z l (i + 1) Q) (n1 : ∀ x k q, GO hs2 (Bk x k) r Fs (L1 x k q) ((dst l i, (post1 x k q).1) :: fr) P B N w0 Z l (i + 1) Q) :
  GO (.co js src rest hs2 hs1 :: hs) (o.bind fun x => ocase (sel x) (A x) (Bk x)) r Fs L fr P B N w0 Z l i Q := ⟨fun w a s q => by
 obtain ⟨x, hx, hk⟩ := bind_some' q
 have hp := hp.h
 unfold pcC at hp
 cases ho : okO l N fr i with
 | none => rw [ho] at hp; cases hp
 | some op =>
  rw [ho] at hp
  obtain ⟨d, hl, hg', hdd, hN⟩ := okO_some ho
  have e1 := selO_eq hL
  have e2 := selO_eq hB
  rw [hM.e] at e1
  rw [List.append_nil] at e1 e2
  subst e1 e2
  refine OW.fn hl hg' hdd hN hp ((hS C.c).h.c w x (hg.g w0 Z w a s) (s.part js (by have := hd.h; exact dst_left this)) hx) ?_
  intro e w' hR
  unfold RO at hR
  cases hs : sel x with
  | none =>
   rw [hs] at hR
   obtain ⟨i', rfl, s'⟩ := hR
   refine ⟨_, rfl, ?_⟩
   have h3 := (n0 x i').o w' a (by rw [appO_eq (hJ0 x i')]; exact s.join hd.h s') (ocase_none hk hs)
   rw [dst_eq hl hdd] at h3
   exact h3
  | some k =>
   rw [hs] at hR
   obtain ⟨i', rfl, s'⟩ := hR
   refine ⟨_, rfl, ?_⟩
   have h3 := (n1 x k i').o w' a (by rw [appO_eq (hJ1 x k i')]; exact s.join hd.h s') (ocase_some hk hs)
   rw [dst_eq hl hdd] at h3
   exact h3⟩
structure CtrN {σ ι : Type} (S : Prop) (P : Program) (k : FuncId) (args : List Value) (Fin : World -> List Nat -> List Fa) (L : List Item) (f : Option σ) (post : σ -> ι -> Value × List Item) : Prop where
 h : S -> ∀ wb Sb, Ctr P k args (Fin wb Sb) L f post
structure GivN (src : List Src) (Fs : List Fa) (L : List Item) (js : List Nat) (Fin : World -> List Nat -> List Fa) : Prop where
 g : ∀ w0 Z w, allF w0 Z Fs -> St w0 Z w L -> allF w (fp (sel L js)) (Fin w (fp (sel L js)))
theorem GivN.nil {js : List Nat} : GivN [] Fs L js (fun _ _ => []) := ⟨fun _ _ _ _ _ => trivial⟩
theorem GivN.b {e : Nat} {js : List Nat} {src : List Src} {Fin : World -> List Nat -> List Fa} (n : GivN src Fs L js Fin) : GivN (.b e :: src) Fs L js (fun wb Sb => .bo wb Sb :: Fin wb Sb) :=
 ⟨fun w0 Z w a s => ⟨Bor.refl _ _, n.g w0 Z w a s⟩⟩
theorem GivN.p {α : Type} {sr : Src} {sz : Nat} {v' : Value} {enc : α -> List Value} {xs : List α} {js : List Nat} {src : List Src} {Fin : World -> List Nat -> List Fa} (h1 : Giv [sr] Fs L js [.rd v' enc sz xs]) (n : GivN src Fs L js Fin) :
  GivN (sr :: src) Fs L js (fun wb Sb => .rb wb Sb v' enc sz xs :: .rd v' enc sz xs :: Fin wb Sb) :=
 ⟨fun w0 Z w a s => ⟨(h1.g w0 Z w a s).1, (h1.g w0 Z w a s).1, n.g w0 Z w a s⟩⟩
theorem GivN.t {α : Type} {e sz : Nat} {v' : Value} {enc : α -> List Value} {xs : List α} {js : List Nat} {src : List Src} {Fin : World -> List Nat -> List Fa} (h1 : Giv [.f e] Fs L js [.rd v' enc sz xs]) (n : GivN src Fs L js Fin) :
  GivN (.c e :: src) Fs L js (fun wb Sb => .rd v' enc sz xs :: Fin wb Sb) :=
 ⟨fun w0 Z w a s => ⟨(h1.g w0 Z w a s).1, n.g w0 Z w a s⟩⟩
theorem GO.cn {σ ι : Type} {S : Prop} {js rest : List Nat} {src : List Src} {kf : FuncId} {args : List Value} {o : Option σ} {k : σ -> Option ρ} {post : σ -> ι -> Value × List Item} {Fin : World -> List Nat -> List Fa} {Lin Lq Bq : List Item} {L1 : σ -> ι -> List Item} [C : HasC o S]
  (hS : CtrN S P kf args Fin Lin o post) (hL : selO L js [] = some Lq) (hM : Sim Lq Lin) (hg : GivN src Fs L js Fin) (hp : KR (pcC P l N fr i) (some (kf, args))) (hB : selO L rest [] = some Bq) (hJ : ∀ x q, appO (post x q).2 Bq = some (L1 x q))
  (hd : KR (distinct (js ++ rest)) true) (n : ∀ x q, GO hs (k x) r Fs (L1 x q) ((dst l i, (post x q).1) :: fr) P B N w0 Z l (i + 1) Q) : GO (.cn js src rest :: hs) (o.bind k) r Fs L fr P B N w0 Z l i Q := ⟨fun w a s q => by
 obtain ⟨x, hx, hk⟩ := bind_some' q
 have hp := hp.h
 unfold pcC at hp
 cases ho : okO l N fr i with
 | none => rw [ho] at hp; cases hp
 | some op =>
  rw [ho] at hp
  obtain ⟨d, hl, hg', hdd, hN⟩ := okO_some ho
  have e1 := selO_eq hL
  have e2 := selO_eq hB
  rw [hM.e] at e1
  rw [List.append_nil] at e1 e2
  subst e1 e2
  refine OW.fn hl hg' hdd hN hp ((hS.h C.c w (fp (sel L js))).c w x (hg.g w0 Z w a s) (s.part js (by have := hd.h; exact dst_left this)) hx) ?_
  rintro e w' ⟨i', rfl, s'⟩
  refine ⟨_, rfl, ?_⟩
  have h3 := (n x i').o w' a (by rw [appO_eq (hJ x i')]; exact s.join hd.h s') hk
  rw [dst_eq hl hdd] at h3
  exact h3⟩
def IQ (P : Program) (l : List Oper) (N : Nat) (Q : Exit -> Act -> World -> Prop) (i : Nat) (fr : Fr) (B : Func) : Ending -> World -> Prop := fun e w => ∃ v, e = .returned v /\ OW P l N Q (i + 1) ((dst l i, v) :: fr) w
def pcA (P : Program) (l : List Oper) (N : Nat) (fr : Fr) (i : Nat) : List Value := match pcC P l N fr i with
 | some p => p.2
 | none => []
theorem GO.il {k : FuncId} {fn : Func} {M : Nat} {hf : P.funcs[k]? = some fn} (hb : fn.body = some c) (hM : fn.ntmps = M) (hp : KR ((pcC P l N fr i).map (·.1)) (some k)) (hz : KR (Nat.ble (pcA P l N fr i).length M) true)
  (n : GC hs f r Fs L (argsFr 0 (pcA P l N fr i)) P fn M w0 Z c (bodyPost P fn (IQ P l N Q i fr B))) : GO (.il hf :: hs) f r Fs L fr P B N w0 Z l i Q := ⟨fun w a s q => by
 have hp := hp.h
 have hz := hz.h
 have hn := n.o w a s q
 unfold pcA at hz hn
 cases hc : pcC P l N fr i with
 | none => rw [hc] at hp; cases hp
 | some p =>
  rw [hc] at hp hz hn
  simp only [Option.map_some, Option.some.injEq] at hp
  subst hp
  have hc0 := hc
  unfold pcC at hc
  cases ho : okO l N fr i with
  | none => rw [ho] at hc; cases hc
  | some op =>
   rw [ho] at hc
   obtain ⟨d, hl, hg', hdd, hN⟩ := okO_some ho
   unfold IQ at hn
   rw [dst_eq hl hdd] at hn
   exact OW.inl hl hg' hdd hN hc hf hb hM hz hn⟩
def resV (fn : Func) (fr : Fr) : Value := (resC fn fr).getD undef
theorem GQ.ri {M : Nat} {fn : Func} {fr' : Fr} {B0 : Func} (hr : KR (resC fn fr').isSome true) (n : GO hs f r Fs L ((dst l i, resV fn fr') :: fr) P B N w0 Z l (i + 1) Q) :
  GQ (.ri :: hs) f r Fs L fr' P B0 M w0 Z .ret (bodyPost P fn (IQ P l N Q i fr B)) := ⟨fun w a s q => by
 have hn := n.o w a s q
 have hr := hr.h
 unfold resV at hn
 have hl : ∀ {l}, fn.results.toList = l -> fn.results = l.toArray := fun h => by rw [<- h]
 cases hc : resC fn fr' with
 | none => rw [hc] at hr; cases hr
 | some u =>
  rw [hc] at hn
  simp only [Option.getD_some] at hn
  unfold resC at hc
  split at hc
  ·rename_i a' e'
   exact QW.ret1 (hl e') hc ⟨_, rfl, hn⟩
  ·rename_i a' b' e'
   split at hc
   ·rename_i x y h1 h2
    cases hc
    exact QW.ret2 (hl e') h1 h2 ⟨_, rfl, hn⟩
   ·cases hc
  ·rename_i a' b' c' e'
   split at hc
   ·rename_i x y z h1 h2 h4
    cases hc
    exact QW.ret3 (hl e') h1 h2 h4 ⟨_, rfl, hn⟩
   ·cases hc
  ·cases hc⟩
structure VR (u v : Value) : Prop where
 h : u = v
theorem VR.l1 {a : Option Addr} {m m' c : Nat} (h : Ln m m') : VR (.slice a m c) (.slice a m' c) := ⟨by rw [h.h]⟩
theorem Ln.rr {a : Nat} : Ln a a := ⟨rfl⟩
end
section
variable {h : LH} {Fs Fs' : List Fa} {L L' : List Item} {w0 : World} {Z : List Nat} {v : Value}
theorem Cel.ce {e ff g o : Nat} {cs : List Value} {u : Value} (he : nth Fs e = some (.ce g o cs)) (hu : nth cs ff = some u) : Cel Fs L w0 Z (.ce e ff) ⟨g, o + ff, none⟩ u :=
 ⟨fun w a s => (allF_nth a he : Fa.ok w0 Z (.ce g o cs)) w L s ff u (by rw [<- nth_get]; exact hu)⟩
theorem CelN.ce {e ff n g o : Nat} {cs us : List Value} (he : nth Fs e = some (.ce g o cs)) (hu : subO cs ff n = some us) : CelN Fs L w0 Z (.cE e ff n) g (o + ff) us := ⟨fun w a s j u hj => by
 rw [Nat.add_assoc]
 exact (allF_nth a he : Fa.ok w0 Z (.ce g o cs)) w L s (ff + j) u ((subO_get hu).2 j u hj)⟩
theorem Cel.nh {α : Type} {j q ff n g o : Nat} {T : TypeId} {R : Rp α} {v' : Value} {S : List Nat} {xs xs' : List α} {cs : List Value} {t : Int} {x : α} {u : Value} (hj : nth L j = some (nI T R v' S xs' (some (n, cs)))) (hq : nth Fs q = some (.el v' g o t xs x)) (hn : KR n t.toNat) (hu : nth cs ff = some u) :
  Cel Fs L w0 Z (.nh j q ff) ⟨g, o + t.toNat * R.sz + ff, none⟩ u := ⟨fun w a s => by
 obtain ⟨_, c, h2⟩ := allF_nth a hq
 have hj := hj
 rw [hn.h] at hj
 exact s.nhole j (by rw [<- nth_get]; exact hj) h2 ff u (by rw [<- nth_get]; exact hu)⟩
theorem CelN.nH {α : Type} {j q ff m n g o : Nat} {T : TypeId} {R : Rp α} {v' : Value} {S : List Nat} {xs xs' : List α} {cs us : List Value} {t : Int} {x : α} (hj : nth L j = some (nI T R v' S xs' (some (n, cs)))) (hq : nth Fs q = some (.el v' g o t xs x)) (hn : KR n t.toNat) (hu : subO cs ff m = some us) :
  CelN Fs L w0 Z (.nH j q ff m) g (o + t.toNat * R.sz + ff) us := ⟨fun w a s k u hk => by
 obtain ⟨_, c, h2⟩ := allF_nth a hq
 have hj := hj
 rw [hn.h] at hj
 rw [Nat.add_assoc]
 exact s.nhole j (by rw [<- nth_get]; exact hj) h2 (ff + k) u ((subO_get hu).2 k u hk)⟩
end
structure OpenD {β ι : Type} (ks : List Nat) (A : Rp β) (vs : ι -> β -> List Value) (fcs : ι -> β -> List Fa) : Prop where
 o : ∀ w Z cs y, A.rd w Z y cs -> ∃ i, cs = vs i y /\ allF w Z (fcs i y)
section
variable {β γ : Type}
theorem OpenD.flat {enc : β -> List Value} {sz : Nat} {he : ∀ x, (enc x).length = sz} : OpenD [0] (flatP enc sz he) (fun (_ : Unit) y => enc y) (fun _ _ => []) := ⟨fun w Z cs y h => ⟨(), h, trivial⟩⟩
theorem OpenD.row {T : TypeId} {enc : β -> List Value} {sz : Nat} {he : ∀ x, (enc x).length = sz} {hp : 0 < sz} :
  OpenD [1] (rowP T enc sz he hp) (fun (i : Option Addr × Nat) y => [.slice i.1 y.length i.2]) (fun i y => [.rd (.slice i.1 y.length i.2) enc sz y]) := ⟨by
 rintro w Z cs y ⟨v, rfl, h⟩
 obtain ⟨_, a, c, rfl⟩ := Rd.len h
 exact ⟨(a, c), rfl, h, trivial⟩⟩
theorem OpenD.nrow {T : TypeId} {R : Rp β} {hp : 0 < R.sz} :
  OpenD [2] (rowNP T R hp) (fun (i : Option Addr × Nat) y => [.slice i.1 y.length i.2]) (fun i y => [.rn (.slice i.1 y.length i.2) R y]) := ⟨by
 rintro w Z cs y ⟨v, rfl, h⟩
 obtain ⟨_, a, c, rfl⟩ := RdN.len h
 exact ⟨(a, c), rfl, h, trivial⟩⟩
theorem OpenD.pair {ι κ : Type} {k k2 : Nat} {ks : List Nat} {A : Rp β} {B : Rp γ} {vs : ι -> β -> List Value} {fcs : ι -> β -> List Fa} {vs2 : κ -> γ -> List Value} {fcs2 : κ -> γ -> List Fa}
  (h1 : OpenD [k] A vs fcs) (h2 : OpenD (k2 :: ks) B vs2 fcs2) : OpenD (k :: k2 :: ks) (pairP A B) (fun (i : ι × κ) y => vs i.1 y.1 ++ vs2 i.2 y.2) (fun i y => fcs i.1 y.1 ++ fcs2 i.2 y.2) := ⟨by
 rintro w Z cs y ⟨c1, c2, rfl, o1, o2⟩
 obtain ⟨i, rfl, f1⟩ := h1.o w Z _ _ o1
 obtain ⟨j, rfl, f2⟩ := h2.o w Z _ _ o2
 exact ⟨(i, j), rfl, appF w Z f1 f2⟩⟩
theorem OpenD.st {ι : Type} {ks : List Nat} {ff : γ -> List Value -> List Value} {sz : Nat} {hl : ∀ x vs, (ff x vs).length = sz} {g : γ -> β} {A : Rp β} {vs : ι -> β -> List Value} {fcs : ι -> β -> List Fa} (h : OpenD ks A vs fcs) :
  OpenD (3 :: ks) (structP ff sz hl g A) (fun (i : ι) x => ff x (vs i (g x))) (fun i x => fcs i (g x)) := ⟨by
 rintro w Z cs x ⟨us, rfl, h2⟩
 obtain ⟨i, rfl, f1⟩ := h.o w Z _ _ h2
 exact ⟨i, rfl, f1⟩⟩
end
section
variable {ρ : Type} {h : LH} {hs hs' hs1 hs2 : List H} {f : Option ρ} {r : ρ} {Fs Fs' : List Fa} {L L' : List Item} {fr : Fr} {P : Program} {B : Func} {N : Nat} {w0 : World} {Z : List Nat} {c x y : Code} {Q : Exit -> Act -> World -> Prop} {l : List Oper} {i : Nat} {e : Exit} {v : Value}
theorem bd_ok {α ι : Type} {e : Nat} {v' : Value} {R : Rp α} {ks : List Nat} {vs : ι -> α -> List Value} {fcs : ι -> α -> List Fa} {xs : List α} {t : Int} {x : α} {Fs1 : α -> Nat -> Nat -> ι -> List Fa} (he : nth Fs e = some (.rn v' R xs)) (hO : OpenD ks R vs fcs)
  (hF : ∀ x g o q, appO Fs (.el v' g o t xs x :: .ce g (o + t.toNat * R.sz) (vs q x) :: fcs q x) = some (Fs1 x g o q)) (a : allF w0 Z Fs) (hx : idx xs t = some x) : ∃ g o q, allF w0 Z (Fs1 x g o q) := by
 have hr : RdN w0 Z v' R.rd R.sz xs := allF_nth a he
 obtain ⟨g, o, c, cs, hv, hd, hc⟩ := hr.formv hx
 obtain ⟨q, rfl, f1⟩ := hO.o w0 Z _ _ hd
 exact ⟨g, o, q, appO_F (hF x g o q) a ⟨⟨hx, c, hv⟩, fun w' L' s' k u hu => hc k u hu w' L' s', f1⟩⟩
theorem GO.bd {α ι : Type} {e : Nat} {v' : Value} {R : Rp α} {ks : List Nat} {vs : ι -> α -> List Value} {fcs : ι -> α -> List Fa} {xs : List α} {t : Int} {k : α -> Option ρ} {Fs1 : α -> Nat -> Nat -> ι -> List Fa} (he : nth Fs e = some (.rn v' R xs)) (hO : OpenD ks R vs fcs)
  (hF : ∀ x g o q, appO Fs (.el v' g o t xs x :: .ce g (o + t.toNat * R.sz) (vs q x) :: fcs q x) = some (Fs1 x g o q)) (n : ∀ x g o q, GO hs (k x) r (Fs1 x g o q) L fr P B N w0 Z l i Q) : GO (.bd e ks :: hs) ((idx xs t).bind k) r Fs L fr P B N w0 Z l i Q := ⟨fun w a s q => by
 obtain ⟨x, hx, hk⟩ := bind_some' q
 obtain ⟨g, o, j, a'⟩ := bd_ok he hO hF a hx
 exact (n x g o j).o w a' s hk⟩
theorem GS.bd {α ι : Type} {cc : Nat} {m : Bool} {e : Nat} {v' : Value} {R : Rp α} {ks : List Nat} {vs : ι -> α -> List Value} {fcs : ι -> α -> List Fa} {xs : List α} {t : Int} {k : α -> Option ρ} {Fs1 : α -> Nat -> Nat -> ι -> List Fa} (he : nth Fs e = some (.rn v' R xs)) (hO : OpenD ks R vs fcs)
  (hF : ∀ x g o q, appO Fs (.el v' g o t xs x :: .ce g (o + t.toNat * R.sz) (vs q x) :: fcs q x) = some (Fs1 x g o q)) (n : ∀ x g o q, GS hs (k x) r (Fs1 x g o q) L fr P B N w0 Z l i cc m Q) : GS (.bd e ks :: hs) ((idx xs t).bind k) r Fs L fr P B N w0 Z l i cc m Q := ⟨fun w a s q => by
 obtain ⟨x, hx, hk⟩ := bind_some' q
 obtain ⟨g, o, j, a'⟩ := bd_ok he hO hF a hx
 exact (n x g o j).o w a' s hk⟩
theorem GP.bd {α ι : Type} {done eff : List Nat} {pd : List (Nat × Pn)} {e : Nat} {v' : Value} {R : Rp α} {ks : List Nat} {vs : ι -> α -> List Value} {fcs : ι -> α -> List Fa} {xs : List α} {t : Int} {k : α -> Option ρ} {Fs1 : α -> Nat -> Nat -> ι -> List Fa} (he : nth Fs e = some (.rn v' R xs)) (hO : OpenD ks R vs fcs)
  (hF : ∀ x g o q, appO Fs (.el v' g o t xs x :: .ce g (o + t.toNat * R.sz) (vs q x) :: fcs q x) = some (Fs1 x g o q)) (n : ∀ x g o q, GP hs (k x) r (Fs1 x g o q) L fr P B N w0 Z l done eff pd Q) : GP (.bd e ks :: hs) ((idx xs t).bind k) r Fs L fr P B N w0 Z l done eff pd Q := ⟨fun w a s q => by
 obtain ⟨x, hx, hk⟩ := bind_some' q
 obtain ⟨g, o, j, a'⟩ := bd_ok he hO hF a hx
 exact (n x g o j).o w a' s hk⟩
theorem bn_ok {α : Type} {w : World} {j : Nat} {T : TypeId} {R : Rp α} {S : List Nat} {ho : Option (Nat × List Value)} {v' : Value} {xs xs' : List α} {t : Int} {x : α} (he : nth L j = some (nI T R v' S xs' ho)) (hxx : KR xs' xs) (s : St w0 Z w L) (hx : idx xs t = some x) : ∃ g o, (Fa.el v' g o t xs x).ok w0 Z := by
 have he := he
 rw [hxx.h] at he
 obtain ⟨g, o, c, h1⟩ := s.nrowv j (by rw [<- nth_get]; exact he) hx
 exact ⟨g, o, hx, c, h1⟩
theorem GO.bn {α : Type} {j : Nat} {T : TypeId} {R : Rp α} {S : List Nat} {ho : Option (Nat × List Value)} {v' : Value} {xs xs' : List α} {t : Int} {k : α -> Option ρ} {Fs1 : α -> Nat -> Nat -> List Fa} (he : nth L j = some (nI T R v' S xs' ho)) (hxx : KR xs' xs)
  (hF : ∀ x g o, snocO Fs (.el v' g o t xs x) = some (Fs1 x g o)) (n : ∀ x g o, GO hs (k x) r (Fs1 x g o) L fr P B N w0 Z l i Q) : GO (.bn j :: hs) ((idx xs t).bind k) r Fs L fr P B N w0 Z l i Q := ⟨fun w a s q => by
 obtain ⟨x, hx, hk⟩ := bind_some' q
 obtain ⟨g, o, h1⟩ := bn_ok he hxx s hx
 exact (n x g o).o w (allF_snoc a h1 (hF x g o)) s hk⟩
theorem GS.bn {α : Type} {cc : Nat} {m : Bool} {j : Nat} {T : TypeId} {R : Rp α} {S : List Nat} {ho : Option (Nat × List Value)} {v' : Value} {xs xs' : List α} {t : Int} {k : α -> Option ρ} {Fs1 : α -> Nat -> Nat -> List Fa} (he : nth L j = some (nI T R v' S xs' ho)) (hxx : KR xs' xs)
  (hF : ∀ x g o, snocO Fs (.el v' g o t xs x) = some (Fs1 x g o)) (n : ∀ x g o, GS hs (k x) r (Fs1 x g o) L fr P B N w0 Z l i cc m Q) : GS (.bn j :: hs) ((idx xs t).bind k) r Fs L fr P B N w0 Z l i cc m Q := ⟨fun w a s q => by
 obtain ⟨x, hx, hk⟩ := bind_some' q
 obtain ⟨g, o, h1⟩ := bn_ok he hxx s hx
 exact (n x g o).o w (allF_snoc a h1 (hF x g o)) s hk⟩
theorem GP.bn {α : Type} {done eff : List Nat} {pd : List (Nat × Pn)} {j : Nat} {T : TypeId} {R : Rp α} {S : List Nat} {ho : Option (Nat × List Value)} {v' : Value} {xs xs' : List α} {t : Int} {k : α -> Option ρ} {Fs1 : α -> Nat -> Nat -> List Fa} (he : nth L j = some (nI T R v' S xs' ho)) (hxx : KR xs' xs)
  (hF : ∀ x g o, snocO Fs (.el v' g o t xs x) = some (Fs1 x g o)) (n : ∀ x g o, GP hs (k x) r (Fs1 x g o) L fr P B N w0 Z l done eff pd Q) : GP (.bn j :: hs) ((idx xs t).bind k) r Fs L fr P B N w0 Z l done eff pd Q := ⟨fun w a s q => by
 obtain ⟨x, hx, hk⟩ := bind_some' q
 obtain ⟨g, o, h1⟩ := bn_ok he hxx s hx
 exact (n x g o).o w (allF_snoc a h1 (hF x g o)) s hk⟩
theorem en_ok {α : Type} {w : World} {j q g' o' : Nat} {T : TypeId} {R : Rp α} {S : List Nat} {ho : Option (Nat × List Value)} {v' v'' : Value} {xs xs' : List α} {t : Int} {x : α} (hq : nth Fs q = some (.el v'' g' o' t xs x)) (he : nth L j = some (nI T R v' S xs' ho)) (hxx : KR xs' xs) (a : allF w0 Z Fs) (s : St w0 Z w L) : ∃ g o, (Fa.el v' g o t xs x).ok w0 Z :=
 bn_ok he hxx s (allF_nth a hq).1
theorem GO.en {α : Type} {j q g' o' : Nat} {T : TypeId} {R : Rp α} {S : List Nat} {ho : Option (Nat × List Value)} {v' v'' : Value} {xs xs' : List α} {t : Int} {x : α} {Fs1 : Nat -> Nat -> List Fa} (hq : nth Fs q = some (.el v'' g' o' t xs x)) (he : nth L j = some (nI T R v' S xs' ho)) (hxx : KR xs' xs)
  (hF : ∀ g o, snocO Fs (.el v' g o t xs x) = some (Fs1 g o)) (n : ∀ g o, GO hs f r (Fs1 g o) L fr P B N w0 Z l i Q) : GO (.en j q :: hs) f r Fs L fr P B N w0 Z l i Q := ⟨fun w a s q' => by
 obtain ⟨g, o, h1⟩ := en_ok hq he hxx a s
 exact (n g o).o w (allF_snoc a h1 (hF g o)) s q'⟩
theorem GS.en {α : Type} {cc : Nat} {m : Bool} {j q g' o' : Nat} {T : TypeId} {R : Rp α} {S : List Nat} {ho : Option (Nat × List Value)} {v' v'' : Value} {xs xs' : List α} {t : Int} {x : α} {Fs1 : Nat -> Nat -> List Fa} (hq : nth Fs q = some (.el v'' g' o' t xs x)) (he : nth L j = some (nI T R v' S xs' ho)) (hxx : KR xs' xs)
  (hF : ∀ g o, snocO Fs (.el v' g o t xs x) = some (Fs1 g o)) (n : ∀ g o, GS hs f r (Fs1 g o) L fr P B N w0 Z l i cc m Q) : GS (.en j q :: hs) f r Fs L fr P B N w0 Z l i cc m Q := ⟨fun w a s q' => by
 obtain ⟨g, o, h1⟩ := en_ok hq he hxx a s
 exact (n g o).o w (allF_snoc a h1 (hF g o)) s q'⟩
theorem GP.en {α : Type} {done eff : List Nat} {pd : List (Nat × Pn)} {j q g' o' : Nat} {T : TypeId} {R : Rp α} {S : List Nat} {ho : Option (Nat × List Value)} {v' v'' : Value} {xs xs' : List α} {t : Int} {x : α} {Fs1 : Nat -> Nat -> List Fa} (hq : nth Fs q = some (.el v'' g' o' t xs x)) (he : nth L j = some (nI T R v' S xs' ho)) (hxx : KR xs' xs)
  (hF : ∀ g o, snocO Fs (.el v' g o t xs x) = some (Fs1 g o)) (n : ∀ g o, GP hs f r (Fs1 g o) L fr P B N w0 Z l done eff pd Q) : GP (.en j q :: hs) f r Fs L fr P B N w0 Z l done eff pd Q := ⟨fun w a s q' => by
 obtain ⟨g, o, h1⟩ := en_ok hq he hxx a s
 exact (n g o).o w (allF_snoc a h1 (hF g o)) s q'⟩
end
theorem St.spread {w0 w : World} {Z : List Nat} {L B : List Item} {A : Item} (h : St w0 Z w (L ++ [A])) (hB : Parts w A.S B) : St w0 Z w (L ++ B) := by
 have hA : (L ++ [A])[L.length]? = some A := by simp
 refine h.repart (fun i it hi => ?_) (fun i j a b hij hi hj => ?_)
 ·rcases app_get hi with ⟨h1, h2⟩ | ⟨h1, h2⟩
  ·have h3 : (L ++ [A])[i]? = some it := by rw [List.getElem?_append_left h1]; exact h2
   exact ⟨h.all i it h3, h.nd i it h3, fun x hx => mem_fp.2 ⟨i, it, h3, hx⟩⟩
  ·obtain ⟨p, q, t⟩ := hB.1 _ _ h2
   exact ⟨p, q, fun x hx => mem_fp.2 ⟨L.length, A, hA, t x hx⟩⟩
 ·have key : ∀ (i : Nat) (a : Item), i < L.length -> L[i]? = some a -> ∀ x ∈ a.S, x ∉ A.S := fun i a h1 h2 x hx => by
   have h3 : (L ++ [A])[i]? = some a := by rw [List.getElem?_append_left h1]; exact h2
   exact h.apart i L.length a A (by omega) h3 hA x hx
  intro x hx hy
  rcases app_get hi with ⟨h1, h2⟩ | ⟨h1, h2⟩ <;> rcases app_get hj with ⟨h3, h4⟩ | ⟨h3, h4⟩
  ·exact h.apart i j a b hij (by rw [List.getElem?_append_left h1]; exact h2) (by rw [List.getElem?_append_left h3]; exact h4) x hx hy
  ·exact key i a h1 h2 x hx ((hB.1 _ _ h4).2.2 x hy)
  ·exact key j b h3 h4 x hy ((hB.1 _ _ h2).2.2 x hx)
  ·exact hB.2 _ _ a b (by omega) h2 h4 x hx hy
section
variable {β γ : Type} {q : Nat} {Fs : List Fa} {L : List Item}
theorem OpenR.st {ι : Type} {ks : List Nat} {ff : γ -> List Value -> List Value} {sz : Nat} {hl : ∀ x vs, (ff x vs).length = sz} {g : γ -> β} {A : Rp β} {vs : ι -> β -> List Value} {its : ι -> β -> List Item} {fcs : ι -> β -> List Fa} (h : OpenR ks q Fs A vs its fcs) :
  OpenR (7 :: ks) q Fs (structP ff sz hl g A) (fun (i : ι) x => ff x (vs i (g x))) (fun i x => its i (g x)) (fun i x => fcs i (g x)) := ⟨by
 rintro w0 Z w cs S x a ⟨us, rfl, h2⟩
 obtain ⟨i, rfl, p1, f1⟩ := h.o w0 Z w _ _ _ a h2
 exact ⟨i, rfl, p1, f1⟩⟩
theorem ShutR.st {ks : List Pa} {js : List Nat} {us vs : List Value} {ff : γ -> List Value -> List Value} {sz : Nat} {hl : ∀ x vs, (ff x vs).length = sz} {g : γ -> β} {A : Rp β} {x : γ} {y : β} (h : ShutR ks Fs L A js us y) (hx : KR vs (ff x us)) (hy : KR (g x) y) : ShutR (.s :: ks) Fs L (structP ff sz hl g A) js vs x := ⟨fun w0 Z w hd a s => by
 obtain ⟨S, o1, n1, f1⟩ := h.o w0 Z w hd a s
 exact ⟨S, ⟨us, hx.h, by rw [hy.h]; exact o1⟩, n1, f1⟩⟩
end
section
variable {ρ : Type} {h : LH} {hs hs' hs1 hs2 : List H} {f : Option ρ} {r : ρ} {Fs Fs' : List Fa} {L L' : List Item} {fr : Fr} {P : Program} {B : Func} {N : Nat} {w0 : World} {Z : List Nat} {c x y : Code} {Q : Exit -> Act -> World -> Prop} {l : List Oper} {i : Nat} {e : Exit} {v : Value}
theorem beqf {a b : Nat} (h : a ≠ b) : Nat.beq a b = false := by
 cases hb : Nat.beq a b with
 | false => rfl
 | true => exact absurd (Nat.eq_of_beq_eq_true hb) h
theorem set_app {α : Type} {L : List α} {j : Nat} {x y : α} {B : List α} (h : L[j]? = some y) : (L ++ B).set j x = L.set j x ++ B := by
 rw [List.set_append_left]
 exact (List.getElem?_eq_some_iff.1 h).1
theorem Adm.no {α ι : Type} {j q e g o : Nat} {ks : List Nat} {T : TypeId} {R : Rp α} {v' : Value} {S : List Nat} {xs xs' : List α} {t : Int} {x : α} {vs : ι -> α -> List Value} {its : ι -> α -> List Item} {fcs : ι -> α -> List Fa} {Lq L1 : ι × List Nat -> List Item} {Fs1 : ι × List Nat -> List Fa}
  (hq : nth Fs q = some (.el v' g o t xs x)) (hj : nth L j = some (nI T R v' S xs' none)) (hxx : KR xs' xs) (hO : OpenR ks e Fs R vs its fcs) (hN : ∀ p, setO L j (nI T R v' p.2 xs' (some (t.toNat, vs p.1 x))) = some (Lq p)) (hA : ∀ p, appO (Lq p) (its p.1 x) = some (L1 p)) (hF : ∀ p, appO Fs (fcs p.1 x) = some (Fs1 p)) :
  Adm (.no j q e ks) Fs L L1 Fs1 := ⟨fun w0 Z w a s => by
 obtain ⟨hx, c, hv⟩ := allF_nth a hq
 have hxx := hxx.h
 subst hxx
 have hj' : L[j]? = some (nI T R v' S xs' none) := by rw [<- nth_get]; exact hj
 obtain ⟨cs, S1, S2, hl, hce, s2⟩ := s.nout j hj' hx hv
 have ho : R.own w cs S2 x := s2.all L.length (itI R cs S2 x) (by simp)
 obtain ⟨k, rfl, hp, hf⟩ := hO.o w0 Z w _ _ _ a ho
 refine ⟨(k, S1), ?_, appO_F (hF (k, S1)) a hf⟩
 rw [appO_eq (hA (k, S1)), setO_eq (hN (k, S1))]
 exact s2.spread hp⟩
theorem gather_own {α : Type} {ks : List Pa} {js rest : List Nat} {R : Rp α} {vs : List Value} {y : α} {Lr : List Item} (hS : ShutR ks Fs L R js vs y) (hr : selO L rest [] = some Lr) (hd : distinct (js ++ rest) = true) {w : World} (a : allF w0 Z Fs) (s : St w0 Z w L) : ∃ S, St w0 Z w (Lr ++ [itI R vs S y]) := by
 obtain ⟨S, o1, n1, f1⟩ := hS.o w0 Z w (dst_left hd) a s
 have := selO_eq hr
 rw [List.append_nil] at this
 subst this
 exact ⟨S, s.gather js rest hd (C := itI R vs S y) o1 n1 f1⟩
theorem drop_last {w : World} {A : Item} (h : St w0 Z w (L ++ [A])) : St w0 Z w L := by
 have := h.spread (B := []) Parts.nil
 simpa using this
theorem Adm.nb {α : Type} {k q g o n : Nat} {rest js : List Nat} {ks : List Pa} {T : TypeId} {R : Rp α} {v' v'' : Value} {S : List Nat} {xs xs' : List α} {t : Int} {x y : α} {cs vs : List Value} {Lr : List Item} {L1 : List Nat -> List Item}
  (hq : nth Fs q = some (.el v'' g o t xs x)) (hr : selO L rest [] = some Lr) (hk : nth Lr k = some (nI T R v' S xs' (some (n, cs)))) (hS : ShutR ks Fs L R js vs y) (hxx : KR xs' xs) (hn : KR n t.toNat) (hc : KR cs vs) (hd : KR (distinct (js ++ rest)) true)
  (hL : ∀ S', setO Lr k (nI T R v' S' (xs'.set n y) none) = some (L1 S')) : Adm (.nb k q rest ks) Fs L L1 (fun _ => Fs) := ⟨fun w0 Z w a s => by
 obtain ⟨hx, _⟩ := allF_nth a hq
 obtain ⟨S2, s2⟩ := gather_own hS hr hd.h a s
 have hk' : Lr[k]? = some (nI T R v' S xs' (some (n, cs))) := by rw [<- nth_get]; exact hk
 have hlt : k < Lr.length := (List.getElem?_eq_some_iff.1 hk').1
 obtain ⟨S', s3⟩ := s2.nback k Lr.length (S2 := S2) (beqf (Nat.ne_of_lt hlt)) (t := t) (cs := vs) (x := x) (y := y) (by rw [List.getElem?_append_left hlt, hk', hn.h, hc.h]) (by simp) (by rw [hxx.h]; exact hx)
 refine ⟨S', ?_, a⟩
 rw [setO_eq (hL S'), hn.h]
 rw [set_app hk', List.set_append_right _ _ (by simp)] at s3
 simp at s3
 exact drop_last s3⟩
theorem Adm.nb0 {α : Type} {k q g o n : Nat} {rest js : List Nat} {ks : List Pa} {T : TypeId} {R : Rp α} {v' v'' : Value} {S : List Nat} {xs xs' : List α} {t : Int} {x y : α} {cs vs : List Value} {Lr : List Item} {L1 : List Nat -> List Item}
  (hq : nth Fs q = some (.el v'' g o t xs x)) (hr : selO L rest [] = some Lr) (hk : nth Lr k = some (nI T R v' S xs' (some (n, cs)))) (hS : ShutR ks Fs L R js vs y) (hxx : KR xs' xs) (hn : KR n t.toNat) (hc : KR cs vs) (hy : KR y x) (hd : KR (distinct (js ++ rest)) true)
  (hL : ∀ S', setO Lr k (nI T R v' S' xs' none) = some (L1 S')) : Adm (.nb0 k q rest ks) Fs L L1 (fun _ => Fs) := ⟨fun w0 Z w a s => by
 obtain ⟨hx, _⟩ := allF_nth a hq
 obtain ⟨S2, s2⟩ := gather_own hS hr hd.h a s
 have hk' : Lr[k]? = some (nI T R v' S xs' (some (n, cs))) := by rw [<- nth_get]; exact hk
 have hlt : k < Lr.length := (List.getElem?_eq_some_iff.1 hk').1
 obtain ⟨S', s3⟩ := s2.nback0 k Lr.length (S2 := S2) (beqf (Nat.ne_of_lt hlt)) (t := t) (cs := vs) (x := y) (by rw [List.getElem?_append_left hlt, hk', hn.h, hc.h]) (by simp) (by rw [hxx.h, hy.h]; exact hx)
 refine ⟨S', ?_, a⟩
 rw [setO_eq (hL S')]
 rw [set_app hk', List.set_append_right _ _ (by simp)] at s3
 simp at s3
 exact drop_last s3⟩
theorem GO.snG {α : Type} {hh : H} {k q m g o : Nat} {rest js : List Nat} {ks : List Pa} {T : TypeId} {R : Rp α} {v' : Value} {S : List Nat} {xs xs' : List α} {ho : Option (Nat × List Value)} {t : Int} {x y : α} {vs : List Value} {Lr : List Item} {L1 : List Nat -> List Item}
  (hho : ∀ i c, ho = some (i, c) -> i = t.toNat) (hq : nth Fs q = some (.el v' g o t xs x)) (hr : selO L rest [] = some Lr) (hk : nth Lr k = some (nI T R v' S xs' ho)) (hS : ShutR ks Fs L R js vs y) (hxx : KR xs' xs) (hm : KR vs.length m) (h1 : KR (ones vs) true)
  (hw : KR (cellsE (stV l fr i)) (some vs)) (hc : KR (stC P l fr i m) (some ⟨g, o + t.toNat * R.sz, none⟩)) (hd : KR (distinct (js ++ rest)) true) (hL : ∀ S', setO Lr k (nI T R v' S' (xs'.set t.toNat y) none) = some (L1 S'))
  (n : ∀ S', GO hs f r Fs (L1 S') fr P B N w0 Z l (i + 1) Q) : GO (hh :: hs) f r Fs L fr P B N w0 Z l i Q := ⟨fun w a s e => by
 obtain ⟨hx, cp, hv⟩ := allF_nth a hq
 have hxx := hxx.h
 subst hxx
 obtain ⟨S2, s2⟩ := gather_own hS hr hd.h a s
 have hk' : Lr[k]? = some (nI T R v' S xs' ho) := by rw [<- nth_get]; exact hk
 have hlt : k < Lr.length := (List.getElem?_eq_some_iff.1 hk').1
 obtain ⟨t', x', y', ty, pos, af, g', u, hl, hg, hxl, hyl, hcv, hsz⟩ := stC_some hc.h hw.h hm.h
 refine OW.stN (S2 := S2) (u := y) (cs := vs) s2 k Lr.length (beqf (Nat.ne_of_lt hlt)) (by rw [List.getElem?_append_left hlt, hk']) hho (by simp) hv hl hg hx hxl rfl hyl hcv hsz (by rw [hcv]; exact h1.h) fun S' w' s3 => ?_
 rw [set_app hk', List.set_append_right _ _ (by simp)] at s3
 simp at s3
 exact (n S').o w' a (by rw [setO_eq (hL S')]; exact drop_last s3) e⟩
theorem GO.sn {α : Type} {k q m g o : Nat} {rest js : List Nat} {ks : List Pa} {T : TypeId} {R : Rp α} {v' : Value} {S : List Nat} {xs xs' : List α} {t : Int} {x y : α} {vs : List Value} {Lr : List Item} {L1 : List Nat -> List Item}
  (hq : nth Fs q = some (.el v' g o t xs x)) (hr : selO L rest [] = some Lr) (hk : nth Lr k = some (nI T R v' S xs' none)) (hS : ShutR ks Fs L R js vs y) (hxx : KR xs' xs) (hm : vs.length = m) (h1 : KR (ones vs) true)
  (hw : KR (cellsE (stV l fr i)) (some vs)) (hc : KR (stC P l fr i m) (some ⟨g, o + t.toNat * R.sz, none⟩)) (hd : KR (distinct (js ++ rest)) true) (hL : ∀ S', setO Lr k (nI T R v' S' (xs'.set t.toNat y) none) = some (L1 S'))
  (n : ∀ S', GO hs f r Fs (L1 S') fr P B N w0 Z l (i + 1) Q) : GO (.sn k q rest ks :: hs) f r Fs L fr P B N w0 Z l i Q := GO.snG (fun _ _ e => by cases e) hq hr hk hS hxx ⟨hm⟩ h1 hw hc hd hL n
theorem GO.sm {α : Type} {k q m g o n' : Nat} {rest js : List Nat} {ks : List Pa} {T : TypeId} {R : Rp α} {v' : Value} {S : List Nat} {xs xs' : List α} {cs : List Value} {t : Int} {x y : α} {vs : List Value} {Lr : List Item} {L1 : List Nat -> List Item}
  (hq : nth Fs q = some (.el v' g o t xs x)) (hr : selO L rest [] = some Lr) (hk : nth Lr k = some (nI T R v' S xs' (some (n', cs)))) (hn : KR n' t.toNat) (hS : ShutR ks Fs L R js vs y) (hxx : KR xs' xs) (hm : vs.length = m) (h1 : KR (ones vs) true)
  (hw : KR (cellsE (stV l fr i)) (some vs)) (hc : KR (stC P l fr i m) (some ⟨g, o + t.toNat * R.sz, none⟩)) (hd : KR (distinct (js ++ rest)) true) (hL : ∀ S', setO Lr k (nI T R v' S' (xs'.set t.toNat y) none) = some (L1 S'))
  (n : ∀ S', GO hs f r Fs (L1 S') fr P B N w0 Z l (i + 1) Q) : GO (.sm k q rest ks :: hs) f r Fs L fr P B N w0 Z l i Q := GO.snG (fun _ _ e => by cases e; exact hn.h) hq hr hk hS hxx ⟨hm⟩ h1 hw hc hd hL n
end
end Go.Sx
set_option linter.unusedVariables false
set_option linter.unusedSimpArgs false
namespace Go.Sx
open Go.RowKit
section
variable {ρ : Type} {h : LH} {hs hs' hs1 hs2 : List H} {f : Option ρ} {r : ρ} {Fs Fs' : List Fa} {L L' : List Item} {fr : Fr} {P : Program} {B : Func} {N : Nat} {w0 : World} {Z : List Nat} {c x y : Code} {Q : Exit -> Act -> World -> Prop} {l : List Oper} {i : Nat} {e : Exit} {v : Value}
def others (j : Nat) : Nat -> Nat -> List Nat
 | 0, _ => []
 | m + 1, q => match Nat.beq q j with
  | true => others j m (q + 1)
  | false => q :: others j m (q + 1)
theorem GO.an {α : Type} {k j bytes : Nat} {T : TypeId} {R : Rp α} {one : ∀ w cs S x, R.own w cs S x -> ones cs = true} {v1 v2 : Value} {S S2 : List Nat} {xs ys xs' ys' : List α} {q : Nat} {u : Unit} {Lq : Option Addr -> Nat -> List Nat -> List Item} {L1 : Option Addr -> Nat -> List Nat -> List Item}
  (hq : nth Fs q = some (.oe (room (xs.length + ys.length) bytes) u)) (hk : nth L k = some (nI T R v1 S xs' none)) (hj : nth L j = some (nI T R v2 S2 ys' none)) (hxx : KR xs' xs) (hyy : KR ys' ys) (hkj : KR (Nat.beq k j) false)
  (hc : KR (apC P l N fr i) (some (v1, v2, T))) (hel : KR (elB P T R.sz) (some bytes)) (hL : ∀ a c S', setO L k (nI T R (.slice a (xs ++ ys).length c) S' (xs ++ ys) none) = some (Lq a c S')) (hL2 : ∀ a c S', selO (Lq a c S') (others j L.length 0) [] = some (L1 a c S')) (hd : KR (distinct (others j L.length 0)) true)
  (n : ∀ a c S', GO hs f r Fs (L1 a c S') ((dst l i, .slice a (xs ++ ys).length c) :: fr) P B N w0 Z l (i + 1) Q) : GO (.an q k j one :: hs) f r Fs L fr P B N w0 Z l i Q := ⟨fun w a s hk' => by
 have hu : room (xs.length + ys.length) bytes = some u := allF_nth a hq
 have hxx := hxx.h
 have hyy := hyy.h
 subst hxx hyy
 have hc := hc.h
 unfold apC at hc
 split at hc
 ·rename_i d' x' y' t t' _ _ _ _ hok
  split at hc
  ·rename_i u' v' e' hb hx hy ht
   cases hc
   have hb := Nat.eq_of_beq_eq_true hb
   subst hb
   obtain ⟨d, hl, hg, hd', hN⟩ := okO_some hok
   simp only at hd'
   subst hd'
   refine OW.appN s k j hkj.h (by rw [<- nth_get]; exact hk) (by rw [<- nth_get]; exact hj) hl rfl hg hN hx hy ht (elB_elem hel.h) (room_le hu) one fun v' S' w' s' => ?_
   have hlt : k < L.length := (List.getElem?_eq_some_iff.1 (by rw [<- nth_get]; exact hk)).1
   have hkj' := Nat.ne_of_beq_eq_false hkj.h
   have hget : ((L.set k (nI T R v' S' (xs' ++ ys') none)).set j nilI)[k]? = some (nI T R v' S' (xs' ++ ys') none) := by
    rw [List.getElem?_set_ne (Ne.symm hkj')]
    simp [hlt]
   obtain ⟨_, pa, pc, rfl⟩ := s'.nlen k hget
   have s2 := s'.keep (others j L.length 0) hd.h
   have e3 : sel ((L.set k (nI T R (.slice pa (xs' ++ ys').length pc) S' (xs' ++ ys') none)).set j nilI) (others j L.length 0) = L1 pa pc S' := by
    have h2 := selO_eq (hL2 pa pc S')
    rw [List.append_nil, setO_eq (hL pa pc S')] at h2
    rw [h2]
    have : ∀ (ids : List Nat), j ∉ ids -> sel ((L.set k (nI T R (.slice pa (xs' ++ ys').length pc) S' (xs' ++ ys') none)).set j nilI) ids = sel (L.set k (nI T R (.slice pa (xs' ++ ys').length pc) S' (xs' ++ ys') none)) ids := by
     intro ids
     induction ids with
     | nil => intro _; rfl
     | cons z ids ih =>
      intro hz
      simp only [List.mem_cons, not_or] at hz
      simp only [sel]
      rw [ih hz.2]
      simp only [List.getD_eq_getElem?_getD]
      rw [List.getElem?_set_ne hz.1]
    refine this _ ?_
    have : ∀ m q, j ∉ others j m q := by
     intro m
     induction m with
     | zero => intro q; simp [others]
     | succ m ih =>
      intro q
      unfold others
      split
      ·exact ih _
      ·rename_i hne
       simp only [List.mem_cons, not_or]
       exact ⟨fun e => by rw [e] at hne; simp at hne, ih _⟩
    exact this _ _
   rw [e3] at s2
   have h1 := (n pa pc S').o w' a s2 hk'
   rw [dst_eq hl rfl] at h1
   exact h1
  ·cases hc
 ·cases hc⟩
structure LayR {α : Type} (kss : List (List Pa)) (Fs : List Fa) (L : List Item) (R : Rp α) (js : List Nat) (css : List (List Value)) (ys : List α) : Prop where
 o : ∀ w0 Z w, distinct js = true -> allF w0 Z Fs -> St w0 Z w L -> ∃ Ss : List (List Nat), (bchI R css Ss ys).Φ w /\ Ss.flatten.Nodup /\ ∀ b ∈ Ss.flatten, b ∈ fp (sel L js)
theorem LayR.nil {α : Type} {R : Rp α} : LayR [] Fs L R [] [] ([] : List α) := ⟨fun w0 Z w hd a s => ⟨[], ⟨rfl, rfl, fun i cs S x h => by simp at h⟩, List.nodup_nil, by simp⟩⟩
theorem LayR.cons {α : Type} {ks : List Pa} {kss : List (List Pa)} {R : Rp α} {j1 j2 : List Nat} {cs : List Value} {css : List (List Value)} {y : α} {ys : List α} (h1 : ShutR ks Fs L R j1 cs y) (h2 : LayR kss Fs L R j2 css ys) : LayR (ks :: kss) Fs L R (j1 ++ j2) (cs :: css) (y :: ys) := ⟨fun w0 Z w hd a s => by
 obtain ⟨S1, o1, n1, f1⟩ := h1.o w0 Z w (dst_left hd) a s
 obtain ⟨Ss, ⟨e1, e2, e3⟩, n2, f2⟩ := h2.o w0 Z w (dst_right hd) a s
 refine ⟨S1 :: Ss, ⟨by simp [e1], by simp [e2], fun k c S x hc hS hx => ?_⟩, ?_, fun b hb => ?_⟩
 ·cases k with
  | zero =>
   simp only [List.getElem?_cons_zero, Option.some.injEq] at hc hS hx
   subst hc hS hx
   exact o1
  | succ k => exact e3 k c S x (by simpa using hc) (by simpa using hS) (by simpa using hx)
 ·rw [List.flatten_cons]
  exact List.nodup_append.2 ⟨n1, n2, fun a ha b hb e => by subst e; exact fp_cross s hd a (f1 a ha) (f2 a hb)⟩
 ·rw [sel_app, fp_app]
  rw [List.flatten_cons] at hb
  rcases List.mem_append.1 hb with hb | hb
  ·exact .inl (f1 b hb)
  ·exact .inr (f2 b hb)⟩
theorem GO.ly {α : Type} {T : TypeId} {R : Rp α} {rest js : List Nat} {kss : List (List Pa)} {css : List (List Value)} {ys : List α} {Lr : List Item} {L1 : Nat -> List Nat -> List Item} (hS : LayR kss Fs L R js css ys) (hr : selO L rest [] = some Lr) (hc : KR (rwC l N fr i) (some ys.length)) (hm : KR css.length ys.length) (hb : KR (Nat.ble ys.length 9223372036854775807) true)
  (hs : KR (seen fr ((rwP l i).map (·.2))) true) (hv : ∀ w, KR ((Instr.buildSlice (rwT l i) ys.length ((rwP l i).toArray.map fun (i, x) => (i, rho fr x))).run P w) (.ok (.slice (some ⟨w.heap.size, 0, none⟩) ys.length ys.length) (w.alloc (.cells (flat (fit R.sz) css).toArray T))))
  (hd : KR (distinct (js ++ rest)) true) (hL : ∀ g S', snocO Lr (nI T R (.slice (some ⟨g, 0, none⟩) ys.length ys.length) S' ys none) = some (L1 g S')) (n : ∀ g S', GO hs' f r Fs (L1 g S') ((dst l i, .slice (some ⟨g, 0, none⟩) ys.length ys.length) :: fr) P B N w0 Z l (i + 1) Q) : GO (.ly T R rest kss :: hs') f r Fs L fr P B N w0 Z l i Q := ⟨fun w a s e => by
 obtain ⟨Ss, o1, n1, f1⟩ := hS.o w0 Z w (dst_left hd.h) a s
 have e0 := selO_eq hr
 rw [List.append_nil] at e0
 subst e0
 have s2 := s.gather js rest hd.h (C := bchI R css Ss ys) o1 n1 f1
 have hc := hc.h
 unfold rwC at hc
 split at hc
 ·rename_i d' t' n' ps _ _ _ _ ho
  obtain ⟨d, hl, hg, hd', hN⟩ := okO_some ho
  simp only at hd'
  subst hd'
  have hnn : n' = ys.length := by simpa using hc
  subst hnn
  have e1 : rwP l i = ps := by simp [rwP, hl]
  have e2 : rwT l i = t' := by simp [rwT, hl]
  rw [e1] at hs hv
  rw [e2] at hv
  refine OW.row (α := List Value) (enc := fit R.sz) (sz := R.sz) (ps := ps) s2 hl hg hN css hm.h (fun x => fit_len _ _) hb.h hs.h (fun w => (hv w).h) fun g w' s' => ?_
  have hlen : (sel L rest ++ [bchI R css Ss ys]).length = (sel L rest).length + 1 := by simp
  obtain ⟨S', s3⟩ := s'.nOf (k := (sel L rest).length + 1) (j := (sel L rest).length) (sz := R.sz) (T := T) (R := R) (v := .slice (some ⟨g, 0, none⟩) ys.length ys.length) (css := css) (Ss := Ss) (xs := ys) (beqf (by omega)) rfl (by rw [List.append_assoc, List.getElem?_append_right (by omega)]; simp) (by rw [List.append_assoc, List.getElem?_append_right (by omega)]; simp)
  have e4 : ((sel L rest ++ [bchI R css Ss ys] ++ [rowI (.slice (some ⟨g, 0, none⟩) ys.length ys.length) T (fit R.sz) R.sz css]).set ((sel L rest).length + 1) (nI T R (.slice (some ⟨g, 0, none⟩) ys.length ys.length) S' ys none)).set (sel L rest).length nilI = sel L rest ++ [nilI, nI T R (.slice (some ⟨g, 0, none⟩) ys.length ys.length) S' ys none] := by
   rw [List.append_assoc, List.set_append_right _ _ (by omega), List.set_append_right _ _ (by omega)]
   simp
  rw [e4] at s3
  have s4 : St w0 Z w' (sel L rest ++ [nI T R (.slice (some ⟨g, 0, none⟩) ys.length ys.length) S' ys none]) := by
   refine s3.repart (fun k it hi => ?_) (fun p q A B hpq hp hq => ?_)
   ·rcases app_get hi with ⟨h1, h2⟩ | ⟨h1, h2⟩
    ·have h3 : (sel L rest ++ [nilI, nI T R (.slice (some ⟨g, 0, none⟩) ys.length ys.length) S' ys none])[k]? = some it := by rw [List.getElem?_append_left h1]; exact h2
     exact ⟨s3.all k it h3, s3.nd k it h3, fun x hx => mem_fp.2 ⟨k, it, h3, hx⟩⟩
    ·have h3 : (sel L rest ++ [nilI, nI T R (.slice (some ⟨g, 0, none⟩) ys.length ys.length) S' ys none])[(sel L rest).length + 1]? = some it := by
      rw [List.getElem?_append_right (by omega)]
      have hk0 : k - (sel L rest).length = 0 := by
       have := (List.getElem?_eq_some_iff.1 h2).1
       simp at this
       omega
      rw [hk0] at h2
      simp at h2 |-
      exact h2
     exact ⟨s3.all _ it h3, s3.nd _ it h3, fun x hx => mem_fp.2 ⟨_, it, h3, hx⟩⟩
   ·have key : ∀ (p : Nat) (A : Item), (sel L rest ++ [nI T R (.slice (some ⟨g, 0, none⟩) ys.length ys.length) S' ys none])[p]? = some A -> (sel L rest ++ [nilI, nI T R (.slice (some ⟨g, 0, none⟩) ys.length ys.length) S' ys none])[if p < (sel L rest).length then p else p + 1]? = some A := by
     intro p A hp
     rcases app_get hp with ⟨h1, h2⟩ | ⟨h1, h2⟩
     ·rw [if_pos h1, List.getElem?_append_left h1]; exact h2
     ·rw [if_neg (by omega), List.getElem?_append_right (by omega)]
      have := (List.getElem?_eq_some_iff.1 h2).1
      simp at this
      have e5 : p + 1 - (sel L rest).length = 1 := by omega
      have e6 : p - (sel L rest).length = 0 := by omega
      rw [e6] at h2
      rw [e5]
      simpa using h2
    refine s3.apart _ _ A B ?_ (key p A hp) (key q B hq)
    split <;> split <;> omega
  have h1 := (n g S').o w' a (by rw [snocO_eq (hL g S')]; exact s4) e
  rw [dst_eq hl rfl] at h1
  exact h1
 ·cases hc⟩
theorem GO.mN {α : Type} {bytes : Nat} {R : Rp α} {cs : List Value} {x : α} {hx : ∀ w, R.own w cs [] x} {nn : Int} {q m : Nat} {L1 : Nat -> List Nat -> List Item} (hq : nth Fs q = some (.oe (mkLen nn bytes) m)) (hc : KR (mkC P l N fr i) (some (nn, nn))) (ht : KR (isSl P l i) true) (hel : KR (elB P (mkT P l i) R.sz) (some bytes)) (h0 : KR ((psem P (zeroValue (mkT P l i))).map (·.cells.toList)) (some (fit R.sz cs)))
  (hL : ∀ g S', snocO L (nI (mkT P l i) R (.slice (some ⟨g, 0, none⟩) m m) S' (List.replicate m x) none) = some (L1 g S'))
  (n : ∀ g S', GO hs f r Fs (L1 g S') ((dst l i, .slice (some ⟨g, 0, none⟩) m m) :: fr) P B N w0 Z l (i + 1) Q) : GO (.mN q R cs x hx :: hs) f r Fs L fr P B N w0 Z l i Q := ⟨fun w a s hk => by
 have hm : mkLen nn bytes = some m := allF_nth a hq
 have hc := hc.h
 unfold mkC at hc
 split at hc
 ·rename_i d' t x' y' _ _ _ _ hok
  split at hc
  ·rename_i k1 a1 k2 b1 hx' hy'
   simp only [Option.some.injEq, Prod.mk.injEq] at hc
   obtain ⟨rfl, rfl⟩ := hc
   obtain ⟨d, hl, hg, hd, hN⟩ := okO_some hok
   simp only at hd
   subst hd
   have ht := ht.h
   unfold isSl at ht
   rw [hl] at ht
   simp only at ht
   split at ht
   ·rename_i e' hu
    have e2 : mkT P l i = e' := by simp [mkT, hl, hu]
    rw [e2] at hel h0 hL
    refine OW.make (α := List Value) (enc := fit R.sz) (sz := R.sz) s hl hg hN hx' hy' hu (elB_elem hel.h) cs h0.h (fun x => fit_len _ _) hm fun g w' s' => ?_
    have s2 := s'.nNew (n := m) (cs := cs) (v := .slice (some ⟨g, 0, none⟩) m m) (T := e') L.length R rfl (by simp) x hx
    rw [List.set_append_right _ _ (by simp)] at s2
    simp at s2
    have h1 := (n g _).o w' a (by rw [snocO_eq (hL g _)]; exact s2) hk
    rw [dst_eq hl rfl] at h1
    exact h1
   ·cases ht
  ·cases hc
 ·cases hc⟩
def srC (P : Program) (l : List Oper) (N : Nat) (fr : Fr) (i : Nat) : Option ByteArray := match okO l N fr i with
 | some ⟨_, .range t x, _, _, _, _⟩ => match P.underlying t, look fr x with
  | some .string, some (.string s) => some s
  | _, _ => none
 | _ => none
theorem GO.sg {L1 : Nat -> List Item} (hc : KR (srC P l N fr i).isSome true) (hL : ∀ it, snocO L (sitI it ((srC P l N fr i).getD ByteArray.empty) 0) = some (L1 it)) (n : ∀ it, GO hs f r Fs (L1 it) ((dst l i, .pointer (some ⟨it, 0, none⟩)) :: fr) P B N w0 Z l (i + 1) Q) : GO (.sg :: hs) f r Fs L fr P B N w0 Z l i Q := ⟨fun w a st q => by
 have hc := hc.h
 cases hb : srC P l N fr i with
 | none => rw [hb] at hc; cases hc
 | some s' =>
  rw [hb] at hL
  unfold srC at hb
  split at hb
  ·rename_i ho
   split at hb
   ·rename_i h1 h2
    cases hb
    obtain ⟨d, hl, hg, hd, hN⟩ := okO_some ho
    simp only at hd
    subst hd
    refine OW.srange st hl hg hN h2 h1 fun it w' s2 => ?_
    have h3 := (n it).o w' a (by rw [snocO_eq (hL it)]; exact s2) q
    rw [dst_eq hl rfl] at h3
    exact h3
   ·cases hb
  ·cases hb⟩
def snC (l : List Oper) (N : Nat) (fr : Fr) (i : Nat) : Option Nat := match okO l N fr i with
 | some ⟨_, .next x true, _, _, _, _⟩ => match look fr x with
  | some (.pointer (some ⟨it, 0, none⟩)) => some it
  | _ => none
 | _ => none
theorem GO.sx {j it p : Nat} {s : ByteArray} {A A' : Option ρ} {L1 : List Item} (hj : nth L j = some (sitI it s p)) (hc : KR (snC l N fr i) (some it)) (hL : setO L j (sitI it s (runeEnd s p)) = some L1)
  (n1 : GO hs1 A r Fs L1 ((dst l i, .tuple [.bool true, .int .i64 (p : Int), .int .i32 (runeAt s p)].toArray) :: fr) P B N w0 Z l (i + 1) Q) (n2 : GO hs2 A' r Fs L ((dst l i, .tuple [.bool false].toArray) :: fr) P B N w0 Z l (i + 1) Q) :
  GO (.sx j hs1 hs2 :: hs) (@ite _ (decide (p < s.size) = true) (instDecidableEqBool (decide (p < s.size)) true) A A') r Fs L fr P B N w0 Z l i Q := ⟨fun w a st q => by
 have hc := hc.h
 unfold snC at hc
 split at hc
 ·rename_i ho
  split at hc
  ·rename_i hx
   cases hc
   obtain ⟨d, hl, hg, hd, hN⟩ := okO_some ho
   simp only at hd
   subst hd
   refine OW.snext st j (by rw [<- nth_get]; exact hj) hl hg hN hx (fun hp w' s2 => ?_) (fun hp => ?_)
   ·have h3 := n1.o w' a (by rw [setO_eq hL]; exact s2) (ite_t q hp)
    rw [dst_eq hl rfl] at h3
    exact h3
   ·have h3 := n2.o w a st (ite_f q hp)
    rw [dst_eq hl rfl] at h3
    exact h3
  ·cases hc
 ·cases hc⟩
theorem Sim.sit {A B : List Item} {it : Nat} {s s' : ByteArray} {p p' : Nat} (h1 : KR s s') (h2 : KR p p') (n : Sim A B) : Sim (sitI it s p :: A) (sitI it s' p' :: B) := ⟨by rw [h1.h, h2.h, n.e]⟩
def clC (P : Program) (l : List Oper) (fr : Fr) (i : Nat) : Option (Nat × Nat × Nat × List Value) := match opAt l i with
 | some ⟨none, .call ⟨.builtin .clear, ⟨[x]⟩, ⟨t :: ts⟩⟩, ty, pos, af, g⟩ => match gd l fr ⟨none, .call ⟨.builtin .clear, ⟨[x]⟩, ⟨t :: ts⟩⟩, ty, pos, af, g⟩, look fr x, P.underlying t with
  | some true, some (.slice (some ⟨b, k, none⟩) (n + 1) _), some (.slice e) => match psem P (zeroValue e) with
   | some z => some (b, k, n + 1, (Builtin.zeroCells z.cells (n + 1)).toList)
   | none => none
  | _, _, _ => none
 | _ => none
theorem clC_some {b k m : Nat} {vs : List Value} (h : clC P l fr i = some (b, k, m, vs)) : ∃ x t ts ty pos af g c e z n, opAt l i = some ⟨none, .call ⟨.builtin .clear, ⟨[x]⟩, ⟨t :: ts⟩⟩, ty, pos, af, g⟩ /\ gd l fr ⟨none, .call ⟨.builtin .clear, ⟨[x]⟩, ⟨t :: ts⟩⟩, ty, pos, af, g⟩ = some true /\ look fr x = some (.slice (some ⟨b, k, none⟩) (n + 1) c) /\ P.underlying t = some (.slice e) /\ psem P (zeroValue e) = some z /\ m = n + 1 /\ (Builtin.zeroCells z.cells (n + 1)).toList = vs := by
 unfold clC at h
 split at h
 ·rename_i hl
  split at h
  ·rename_i h1 h2 h3
   split at h
   ·rename_i h4
    cases h
    exact ⟨_, _, _, _, _, _, _, _, _, _, _, hl, h1, h2, h3, h4, rfl, rfl⟩
   ·cases h
  ·cases h
 ·cases h
def zs (P : Program) (l : List Oper) (fr : Fr) (i : Nat) : Nat -> Option (List Value)
 | 0 => some []
 | n + 1 => match zs P l fr i n with
  | some q => some ((match clC P l fr i with
   | some (_, _, _, v :: _) => v
   | _ => undef) :: q)
  | none => none
theorem GO.cl {j b k m : Nat} {T : TypeId} {cs vs cs' : List Value} {L1 : List Item} (hj : nth L j = some (blkI b T cs)) (hv : zs P l fr i m = some vs) (hs' : spliceO cs vs k = some cs') (hc : KR (clC P l fr i) (some (b, k, m, vs))) (h1 : KR (ones vs) true) (h0 : KR (posL vs) true)
  (hL : setO L j (blkI b T cs') = some L1) (n : GO hs f r Fs L1 fr P B N w0 Z l (i + 1) Q) : GO (.cl j k m :: hs) f r Fs L fr P B N w0 Z l i Q := ⟨fun w a s q => by
 obtain ⟨x, t, ts, ty, pos, af, g, c, e, z, n', hl, hg, hx, ht, hz, rfl, hvs⟩ := clC_some hc.h
 obtain ⟨e3, e4⟩ := spliceO_eq hs' (by intro e5; have := h0.h; rw [e5] at this; cases this)
 refine OW.clear (ats := t :: ts) s j (by rw [<- nth_get]; exact hj) hl hg hx rfl ht hz vs hvs h1.h e4 cs' e3 fun w' s' => ?_
 exact n.o w' a (by rw [setO_eq hL]; exact s') q⟩
theorem GO.cp {j b k m : Nat} {T : TypeId} {A C cs vs cs' : List Value} {L1 : List Item} (hj : nth L j = some (partI b T A cs C)) (hv : zs P l fr i m = some vs) (hs' : spliceO cs vs k = some cs') (hc : KR (clC P l fr i) (some (b, A.length + k, m, vs))) (h1 : KR (ones vs) true) (h0 : KR (posL vs) true)
  (hL : setO L j (partI b T A cs' C) = some L1) (n : GO hs f r Fs L1 fr P B N w0 Z l (i + 1) Q) : GO (.cp j k m :: hs) f r Fs L fr P B N w0 Z l i Q := ⟨fun w a s q => by
 obtain ⟨x, t, ts, ty, pos, af, g, c, e, z, n', hl, hg, hx, ht, hz, rfl, hvs⟩ := clC_some hc.h
 obtain ⟨e3, e4⟩ := spliceO_eq hs' (by intro e5; have := h0.h; rw [e5] at this; cases this)
 refine OW.clearP (ats := t :: ts) s j (by rw [<- nth_get]; exact hj) hl hg k hx rfl ht hz vs hvs h1.h (Nat.ble_eq_true_of_le e4) cs' e3 fun w' s' => ?_
 exact n.o w' a (by rw [setO_eq hL]; exact s') q⟩
theorem GO.bxe {T : TypeId} {cs : List Value} {L1 : Nat -> List Item} (hT : KR (opT l i) T) (hc : KR (cellsE (bxC l N fr i)) (some cs)) (hL : ∀ b, snocO L (blkI b T cs) = some (L1 b))
  (n : ∀ b, GO hs f r Fs (L1 b) ((dst l i, .pointer (some ⟨b, 0, none⟩)) :: fr) P B N w0 Z l (i + 1) Q) : GO (.bxe T cs :: hs) f r Fs L fr P B N w0 Z l i Q := ⟨fun w a s q => by
 obtain ⟨u, hu, hcs⟩ := cellsE_eq hc.h
 unfold bxC at hu
 split at hu
 ·rename_i o' e' x' _ _ _ _ ho
  obtain ⟨d, hl, hg, hd, hN⟩ := okO_some ho
  simp only at hd
  subst hd
  refine OW.box s hl hg hN hu cs hcs fun b w' s' => ?_
  have h1 := (n b).o w' a (by
   rw [snocO_eq (hL b)]
   have : opT l i = e' := by simp [opT, hl]
   rw [<- hT.h, this]; exact s') q
  rw [dst_eq hl rfl] at h1
  exact h1
 ·cases hu⟩
theorem GO.ste {j k b m : Nat} {T : TypeId} {cs us cs' : List Value} {L1 : List Item} (hj : nth L j = some (blkI b T cs)) (hs' : spliceO cs us k = some cs') (hm : us.length = m) (hw : KR (cellsE (stV l fr i)) (some us)) (hc : KR (stC P l fr i m) (some ⟨b, k, none⟩))
  (h1 : KR (ones us) true) (h0 : KR (posL us) true) (hL : setO L j (blkI b T cs') = some L1) (n : GO hs f r Fs L1 fr P B N w0 Z l (i + 1) Q) : GO (.ste j k us :: hs) f r Fs L fr P B N w0 Z l i Q := ⟨fun w a s q => by
 obtain ⟨t, x', y', ty, pos, af, g, u, hl, hg, hx, hy, hcv, hsz⟩ := stC_some hc.h hw.h hm
 obtain ⟨e3, e4⟩ := spliceO_eq hs' (by intro e5; have := h0.h; rw [e5] at this; cases this)
 refine OW.stB s j (by rw [<- nth_get]; exact hj) hl hg hx hy hsz (by rw [hcv]; exact h1.h) (by rw [hcv]; exact Nat.ble_eq_true_of_le e4) cs' (by rw [hcv]; exact e3) fun w' s' => ?_
 exact n.o w' a (by rw [setO_eq hL]; exact s') q⟩
def reh (v : Value) : List Nat -> Fr -> Fr
 | [], fr => fr
 | q :: r, fr => (q, v) :: reh v r fr
def gets' (fr : Fr) : List Nat -> List (Option Value)
 | [] => []
 | q :: r => fget fr q :: gets' fr r
def same' (v : Value) : List Nat -> List (Option Value)
 | [] => []
 | _ :: r => some v :: same' v r
theorem reh_ok {v : Value} {a : Act} (h : Rep N fr a) : ∀ {qs : List Nat}, gets' fr qs = same' v qs -> Rep N (reh v qs fr) a
 | [], _ => h
 | q :: r, e => by
  simp only [gets', same', List.cons.injEq] at e
  have ih := reh_ok h e.2
  refine ⟨ih.size, ih.defers, fun i u hi => ?_⟩
  simp only [reh] at hi
  rw [fget_cons] at hi
  split at hi
  ·rename_i hq
   subst hq
   cases hi
   exact h.get _ _ e.1
  ·exact ih.get i u hi
theorem _root_.Go.Sx.St.rlen {α : Type} {w : World} {j m c sz : Nat} {a : Option Addr} {T : TypeId} {enc : α -> List Value} {xs : List α} (s : St w0 Z w L) (hj : nth L j = some (rowI (.slice a m c) T enc sz xs)) : m = xs.length := by
 obtain ⟨_, a', c', e⟩ := s.len j (by rw [<- nth_get]; exact hj)
 cases e; rfl
theorem _root_.Go.Sx.St.nlen' {α : Type} {w : World} {j m c : Nat} {a : Option Addr} {T : TypeId} {R : Rp α} {S : List Nat} {ho : Option (Nat × List Value)} {xs : List α} (s : St w0 Z w L) (hj : nth L j = some (nI T R (.slice a m c) S xs ho)) : m = xs.length := by
 obtain ⟨_, a', c', e⟩ := s.nlen j (by rw [<- nth_get]; exact hj)
 cases e; rfl
theorem set_same {α : Type} {L L1 : List α} {j : Nat} {x : α} (h : L[j]? = some x) (hL : setO L j x = some L1) : L1 = L := by
 rw [setO_eq hL]
 apply List.ext_getElem?
 intro k
 by_cases hk : j = k
 ·subst hk; rw [List.getElem?_set_self (List.getElem?_eq_some_iff.1 h).1, h]
 ·rw [List.getElem?_set_ne hk]
theorem Adm.nc {α : Type} {jb k j b m c sz : Nat} {a : Option Addr} {T T' : TypeId} {enc : α -> List Value} {xs : List α} {cs cs' : List Value} {L1 : List Item} (hj : nth L j = some (rowI (.slice a m c) T' enc sz xs)) (hb : nth L jb = some (blkI b T cs)) (hk : KR (nth cs k) (some (.slice a m c)))
  (hs : setO cs k (.slice a xs.length c) = some cs') (hL : setO L jb (blkI b T cs') = some L1) : Adm (.nc jb k j) Fs L (fun _ : Unit => L1) (fun _ => Fs) := ⟨fun w0 Z w al s => ⟨(), by
 have hm := s.rlen hj
 have hk := hk.h
 rw [hm, nth_get] at hk
 have e1 := set_same hk hs
 subst e1
 rw [set_same (by rw [<- nth_get]; exact hb) hL]
 exact s, al⟩⟩
theorem Adm.nd {α : Type} {jb k j b m c : Nat} {a : Option Addr} {T T' : TypeId} {R : Rp α} {S : List Nat} {ho : Option (Nat × List Value)} {xs : List α} {cs cs' : List Value} {L1 : List Item} (hj : nth L j = some (nI T' R (.slice a m c) S xs ho)) (hb : nth L jb = some (blkI b T cs)) (hk : KR (nth cs k) (some (.slice a m c)))
  (hs : setO cs k (.slice a xs.length c) = some cs') (hL : setO L jb (blkI b T cs') = some L1) : Adm (.nd jb k j) Fs L (fun _ : Unit => L1) (fun _ => Fs) := ⟨fun w0 Z w al s => ⟨(), by
 have hm := s.nlen' hj
 have hk := hk.h
 rw [hm, nth_get] at hk
 have e1 := set_same hk hs
 subst e1
 rw [set_same (by rw [<- nth_get]; exact hb) hL]
 exact s, al⟩⟩
theorem GQ.nl {α : Type} {j m c sz : Nat} {qs : List Nat} {a : Option Addr} {T : TypeId} {enc : α -> List Value} {xs : List α} {L1 : List Item} (hj : nth L j = some (rowI (.slice a m c) T enc sz xs)) (hq : KR (gets' fr qs) (same' (.slice a m c) qs))
  (hL : setO L j (rowI (.slice a xs.length c) T enc sz xs) = some L1) (n : GQ hs f r Fs L1 (reh (.slice a xs.length c) qs fr) P B N w0 Z e Q) : GQ (.nl j qs :: hs) f r Fs L fr P B N w0 Z e Q := ⟨fun w al s g b hb => by
 have hm := s.rlen hj
 have hq := hq.h
 rw [hm] at hq hj
 have e1 : L1 = L := by
  rw [setO_eq hL]
  have hj' : L[j]? = some (rowI (.slice a xs.length c) T enc sz xs) := by rw [<- nth_get]; exact hj
  apply List.ext_getElem?
  intro k
  by_cases hk : j = k
  ·subst hk; rw [List.getElem?_set_self (List.getElem?_eq_some_iff.1 hj').1, hj']
  ·rw [List.getElem?_set_ne hk]
 subst e1
 exact n.o w al s g b (reh_ok hb hq)⟩
theorem GC.nl {α : Type} {j m c0 sz : Nat} {qs : List Nat} {a : Option Addr} {T : TypeId} {enc : α -> List Value} {xs : List α} {L1 : List Item} (hj : nth L j = some (rowI (.slice a m c0) T enc sz xs)) (hq : KR (gets' fr qs) (same' (.slice a m c0) qs))
  (hL : setO L j (rowI (.slice a xs.length c0) T enc sz xs) = some L1) (n : GC hs f r Fs L1 (reh (.slice a xs.length c0) qs fr) P B N w0 Z c Q) : GC (.nl j qs :: hs) f r Fs L fr P B N w0 Z c Q := ⟨fun w al s g b hb => by
 have hm := s.rlen hj
 have hq := hq.h
 rw [hm] at hq hj
 have e1 : L1 = L := by
  rw [setO_eq hL]
  have hj' : L[j]? = some (rowI (.slice a xs.length c0) T enc sz xs) := by rw [<- nth_get]; exact hj
  apply List.ext_getElem?
  intro k
  by_cases hk : j = k
  ·subst hk; rw [List.getElem?_set_self (List.getElem?_eq_some_iff.1 hj').1, hj']
  ·rw [List.getElem?_set_ne hk]
 subst e1
 exact n.o w al s g b (reh_ok hb hq)⟩
theorem GQ.nm {α : Type} {j m c : Nat} {qs : List Nat} {a : Option Addr} {T : TypeId} {R : Rp α} {S : List Nat} {ho : Option (Nat × List Value)} {xs : List α} {L1 : List Item} (hj : nth L j = some (nI T R (.slice a m c) S xs ho)) (hq : KR (gets' fr qs) (same' (.slice a m c) qs))
  (hL : setO L j (nI T R (.slice a xs.length c) S xs ho) = some L1) (n : GQ hs f r Fs L1 (reh (.slice a xs.length c) qs fr) P B N w0 Z e Q) : GQ (.nm j qs :: hs) f r Fs L fr P B N w0 Z e Q := ⟨fun w al s g b hb => by
 have hm := s.nlen' hj
 have hq := hq.h
 rw [hm] at hq hj
 have e1 : L1 = L := by
  rw [setO_eq hL]
  have hj' : L[j]? = some (nI T R (.slice a xs.length c) S xs ho) := by rw [<- nth_get]; exact hj
  apply List.ext_getElem?
  intro k
  by_cases hk : j = k
  ·subst hk; rw [List.getElem?_set_self (List.getElem?_eq_some_iff.1 hj').1, hj']
  ·rw [List.getElem?_set_ne hk]
 subst e1
 exact n.o w al s g b (reh_ok hb hq)⟩
theorem GC.nm {α : Type} {j m c0 : Nat} {qs : List Nat} {a : Option Addr} {T : TypeId} {R : Rp α} {S : List Nat} {ho : Option (Nat × List Value)} {xs : List α} {L1 : List Item} (hj : nth L j = some (nI T R (.slice a m c0) S xs ho)) (hq : KR (gets' fr qs) (same' (.slice a m c0) qs))
  (hL : setO L j (nI T R (.slice a xs.length c0) S xs ho) = some L1) (n : GC hs f r Fs L1 (reh (.slice a xs.length c0) qs fr) P B N w0 Z c Q) : GC (.nm j qs :: hs) f r Fs L fr P B N w0 Z c Q := ⟨fun w al s g b hb => by
 have hm := s.nlen' hj
 have hq := hq.h
 rw [hm] at hq hj
 have e1 : L1 = L := by
  rw [setO_eq hL]
  have hj' : L[j]? = some (nI T R (.slice a xs.length c0) S xs ho) := by rw [<- nth_get]; exact hj
  apply List.ext_getElem?
  intro k
  by_cases hk : j = k
  ·subst hk; rw [List.getElem?_set_self (List.getElem?_eq_some_iff.1 hj').1, hj']
  ·rw [List.getElem?_set_ne hk]
 subst e1
 exact n.o w al s g b (reh_ok hb hq)⟩
theorem Adm.shx {α β : Type} {j b : Nat} {ks : List Pa} {rest js : List Nat} {R : Rp α} {Lr : List Item} {T : TypeId} {cs vs : List Value} {ff : α -> List Value -> List Value} {sz : Nat} {hl : ∀ x vs, (ff x vs).length = sz} {g : α -> β} {A : Rp β} {x : α} {y : β} {L1 : List Nat -> List Item}
  (hj : nth L j = some (blkI b T cs)) (hR : R = structP ff sz hl g A) (hS : ShutR ks Fs L A js vs y) (hy : g x = y) (hr : selO L rest [] = some Lr) (hL : ∀ S, snocO Lr (itI (ptrP T R) [.pointer (some ⟨b, 0, none⟩)] S x) = some (L1 S))
  (hd : KR (distinct ((j :: js) ++ rest)) true) (hx : KR cs (ff x vs)) : Adm (.shx j ks rest R x) Fs L L1 (fun _ => Fs) := ⟨(Adm.sh hj hR hS hr hL hd hx ⟨hy⟩).o⟩
theorem Adm.s0x {α : Type} {j b sz : Nat} {T : TypeId} {enc : α -> List Value} {he : ∀ x, (enc x).length = sz} {cs : List Value} {x : α} {Lq : List Item} (hj : nth L j = some (blkI b T cs)) (hL : setO L j (itI (ptrP T (flatP enc sz he)) [.pointer (some ⟨b, 0, none⟩)] [b] x) = some Lq) (hx : KR cs (enc x)) :
  Adm (.s0x j enc sz x) Fs L (fun _ : Unit => Lq) (fun _ => Fs) := ⟨(Adm.s0 hj hL hx).o⟩
theorem LkV.pv {α : Type} {q n c : Nat} {a : Option Addr} {xs ys : List α} {hi : Int} {sz : Nat} (hcap : ∀ w0 Z w, allF w0 Z Fs -> St w0 Z w L -> xs.length <= c) (hq : nth Fs q = some (.oe (cut xs 0 hi) ys)) (hc : cpC P l N fr i = some (.slice a n c, none, some hi, sz)) (w : World) (al : allF w0 Z Fs) (s : St w0 Z w L) :
  ∃ o d, opAt l i = some o /\ gd l fr o = some true /\ o.dst = some d /\ Nat.blt d N = true /\ ∀ a', Rep N fr a' -> (execOp a'.eval o).run P w = .ok (.value (.slice a ys.length c)) w := by
 unfold cpC at hc
 split at hc
 ·rename_i ho
  split at hc
  ·rename_i h1 h2
   split at hc
   ·rename_i hz
    split at hc
    ·split at hc
     ·rename_i h3
      cases hc
      obtain ⟨d, hl, hg, hd, hN⟩ := okO_some ho
      exact ⟨_, d, hl, hg, hd, hN, fun b hb => pre_run sz rfl h2 h3 (allF_nth al hq) (hcap w0 Z w al s) h1 hz b w hb⟩
     ·cases hc
    ·split at hc <;> cases hc
    ·split at hc <;> cases hc
    ·cases hc
   ·cases hc
  ·cases hc
 ·cases hc
theorem GO.pw {α : Type} {j q n c : Nat} {a : Option Addr} {T : TypeId} {enc : α -> List Value} {xs xs' ys : List α} {hi : Int} {sz : Nat} (hj : nth L j = some (rowI (.slice a n c) T enc sz xs')) (hq : nth Fs q = some (.oe (cut xs 0 hi) ys)) (hxx : KR xs' xs) (hc : KR (cpC P l N fr i) (some (.slice a n c, none, some hi, sz)))
  (m : GO hs f r Fs L ((dst l i, .slice a ys.length c) :: fr) P B N w0 Z l (i + 1) Q) : GO (.pw j q :: hs) f r Fs L fr P B N w0 Z l i Q := ⟨fun w al s e => by
 obtain ⟨o, d, hl, hg, hd, hN, hr⟩ := LkV.pv (Fs := Fs) (L := L) (w0 := w0) (Z := Z) (fun w0 Z w a s => by rw [<- hxx.h]; exact s.cap j (by rw [<- nth_get]; exact hj)) hq hc.h w al s
 have h1 := m.o w al s e
 rw [dst_eq hl hd] at h1
 exact OW.op hl hg hd hN hr h1⟩
theorem vb_ok {α : Type} {w : World} {j q n c sz : Nat} {a : Option Addr} {T : TypeId} {enc : α -> List Value} {xs xs' ys : List α} {hi t : Int} {x : α} {Fs1 : α -> Nat -> Nat -> List Fa} (hj : nth L j = some (rowI (.slice a n c) T enc sz xs')) (hxx : KR xs' xs) (hq : nth Fs q = some (.oe (cut xs 0 hi) ys))
  (hF : ∀ x g o, appO Fs [.el (.slice a ys.length c) g o t ys x, .el (.slice a n c) g o t xs x] = some (Fs1 x g o)) (al : allF w0 Z Fs) (s : St w0 Z w L) (hx : idx ys t = some x) : ∃ g o, allF w0 Z (Fs1 x g o) := by
 have hj := hj
 rw [hxx.h] at hj
 have h2 : cut xs 0 hi = some ys := allF_nth al hq
 have h3 := pre_idx h2 hx
 obtain ⟨g, o, cap, hv⟩ := s.rowv j (by rw [<- nth_get]; exact hj) h3
 refine ⟨g, o, appO_F (hF x g o) al ⟨⟨hx, cap, ?_⟩, ⟨h3, cap, hv⟩, trivial⟩⟩
 cases hv
 rfl
theorem GO.vb {α : Type} {j q n c sz : Nat} {a : Option Addr} {T : TypeId} {enc : α -> List Value} {xs xs' ys : List α} {hi t : Int} {k : α -> Option ρ} {Fs1 : α -> Nat -> Nat -> List Fa} (hj : nth L j = some (rowI (.slice a n c) T enc sz xs')) (hq : nth Fs q = some (.oe (cut xs 0 hi) ys)) (hxx : KR xs' xs)
  (hF : ∀ x g o, appO Fs [.el (.slice a ys.length c) g o t ys x, .el (.slice a n c) g o t xs x] = some (Fs1 x g o)) (m : ∀ x g o, GO hs (k x) r (Fs1 x g o) L fr P B N w0 Z l i Q) : GO (.vb j q :: hs) ((idx ys t).bind k) r Fs L fr P B N w0 Z l i Q := ⟨fun w al s e => by
 obtain ⟨x, hx, hk⟩ := bind_some' e
 obtain ⟨g, o, h1⟩ := vb_ok hj hxx hq hF al s hx
 exact (m x g o).o w h1 s hk⟩
theorem GS.vb {α : Type} {cc : Nat} {mm : Bool} {j q n c sz : Nat} {a : Option Addr} {T : TypeId} {enc : α -> List Value} {xs xs' ys : List α} {hi t : Int} {k : α -> Option ρ} {Fs1 : α -> Nat -> Nat -> List Fa} (hj : nth L j = some (rowI (.slice a n c) T enc sz xs')) (hq : nth Fs q = some (.oe (cut xs 0 hi) ys)) (hxx : KR xs' xs)
  (hF : ∀ x g o, appO Fs [.el (.slice a ys.length c) g o t ys x, .el (.slice a n c) g o t xs x] = some (Fs1 x g o)) (m : ∀ x g o, GS hs (k x) r (Fs1 x g o) L fr P B N w0 Z l i cc mm Q) : GS (.vb j q :: hs) ((idx ys t).bind k) r Fs L fr P B N w0 Z l i cc mm Q := ⟨fun w al s e => by
 obtain ⟨x, hx, hk⟩ := bind_some' e
 obtain ⟨g, o, h1⟩ := vb_ok hj hxx hq hF al s hx
 exact (m x g o).o w h1 s hk⟩
end
end Go.Sx
set_option linter.unusedVariables false
set_option linter.unusedSimpArgs false
namespace Go.Sx
theorem wk {ρ : Type} {P : Program} {N : Nat} {c : Code} {f : Option ρ} {k : FuncId} {args : List Value} {Fs : List Fa} {L : List Item} {R : World -> List Nat -> ρ -> Ending -> World -> Prop} {fn : Func} (hf : P.funcs[k]? = some fn) (hs : List H)
  (hb : fn.body = some c := by rfl) (hN : fn.ntmps = N := by rfl) (hz : Nat.ble args.length N = true := by kernel_rfl)
  (n : ∀ w0 Z r, GC hs f r Fs L (argsFr 0 args) P fn N w0 Z c (bodyPost P fn (R w0 Z r)) := by
   repeat' (first
    | exact rfl
    | (refine KR.mk ?_; kernel_rfl)
    | intro _
    | (apply Nf.mk; (try dsimp only); (try exact rfl))
    | apply GO.p | apply GO.k | apply GO.km | apply GO.kv | apply GQ.mt | apply GQ.ms | apply GQ.bk | apply GQ.bg | apply GQ.next | apply GC.dk | apply GC.ds | apply GC.dn | apply GC.db | apply GC.ad | apply GC.seq | apply GC.block | apply GC.skip | apply GC.exit | apply GC.ret | apply GC.ck | apply GC.cs | apply GC.scB | apply GC.scC | apply GC.rgB | apply GO.nil
    | apply Cel.ld | apply Cel.le | apply LkV.ix | apply Cel.lr | apply CelN.lE | apply CelN.lN | apply CelN.lR
    | apply GC.plB | apply GP.p | apply GP.l1 | apply GP.lm | apply GP.lv | apply GP.ac | apply GP.a2 | apply GO.nx | apply GP.fin | apply GP.sp | apply GP.bi | apply GP.bo | apply GP.ad | apply Hold.nil | apply Hold.kq | apply Hold.c1 | apply Hold.n1 | apply Adm.nn | apply Adm.o0 | apply Adm.s0
    | apply GO.ca | apply Giv.nil | apply Giv.rf | apply Giv.ro
    | apply GC.br | apply GO.bi | apply GO.bo
    | apply GQ.then_ret | apply GQ.block_ret | apply GQ.then_exit | apply GQ.block_here | apply GQ.block_normal | apply GQ.block_on
    | apply GQ.rt | apply GQ.pop | apply Ex.u | apply Ex.p | apply Ln.s | apply Ln.t | apply Ln.p | apply Ln.q | apply Ln.k | apply Sim.nil | apply Sim.part | apply Sim.blk | apply Sim.row | apply Sim.itU | apply Sim.it | apply Sim.nrow
    | apply GC.lb | apply GC.lc | apply GC.ct | apply GC.cf
    | apply GO.st | apply GO.al | apply GO.bx | apply GO.sp | apply GS.sp | apply GQ.rc1 | apply GQ.rc2 | apply GQ.rc3 | apply RV.t | apply RV.c1 | apply RV.cN | apply GQ.re | apply GQ.r0 | apply Giv.rn | apply Giv.rb | apply Giv.rc | apply Giv.rm | apply GC.lg | apply FacR.nil | apply FacR.ff | apply FacR.nn | apply Bn.f1 | apply Bn.oo | apply Bn.l1 | apply Bn.r1 | apply Bn.n1 | apply Bn.d1 | apply Bn.c1
    | apply GO.ad | apply GQ.ad | apply GS.ad | apply Adm.kp | apply Adm.nr | apply Adm.op | apply Adm.sh | apply OpenR.pair | apply OpenR.row | apply OpenR.nrow | apply OpenR.ptr | apply OpenR.bor | apply OpenR.any | apply ShutR.pair | apply ShutR.row | apply ShutR.nrow | apply ShutR.bor | apply ShutR.born | apply ShutR.it
    | apply GO.sr | apply GO.rw | apply GO.ap | apply GO.mkS | apply SrcR.sf | apply SrcR.so | apply SrcR.sn
    | apply GO.be | apply GS.be | apply GP.be | apply GC.be | apply GQ.be | apply LkV.qu | apply LkV.re | apply LkV.hl | apply LkV.hr | apply LkV.hc | apply LkV.hd | apply LkV.hw | apply LkV.hv | apply LkV.si | apply LkV.ad | apply LkV.sq | apply LkV.sn | apply LkV.cp | apply LkV.cu | apply LkV.cf | apply Adm.fp | apply Adm.fu
    | apply CF.b1 | apply SimV.nil | apply SimV.u | apply SimV.k | apply Giv.bj | apply Giv.bq | apply LkV.sA | apply LkV.sP | apply LkV.sU | apply Giv.ra | apply Giv.ru | apply Giv.rp | apply LkV.nz | apply GC.nb | apply LkV.al | apply LkV.af | apply LkV.at | apply GO.bt | apply GS.bt | apply Cel.cc | apply CelN.cN | apply Cel.da | apply CelN.dA | apply Cel.ca | apply CelN.cA | apply CF.o1 | apply CF.p1 | apply CF.e1 | apply CF.r1 | apply GO.sa | apply GO.sra | apply GO.srw | apply GO.spa | apply GO.sp1 | apply Adm.pt
    | apply LvR.c1 | apply LvR.n1 | apply LvR.nil
    | apply GO.ei | apply GO.eo | apply GS.ei | apply GS.eo | apply GP.ei | apply GP.eo | apply GS.p | apply GS.k | apply GS.km | apply GS.kv | apply GS.bi | apply GS.bo | apply GS.fin | apply GS.on | apply GC.stB | apply GC.tlB
    | (refine GO.fx (by assumption) ?_) | (refine GC.fx (by assumption) ?_) | (refine GQ.fx (by assumption) ?_) | (refine GS.fx (by assumption) ?_) | (refine GP.fx (by assumption) ?_)
    | apply GO.co | apply GO.ce | apply GO.cn | apply GQ.rn | apply GQ.rs | apply GO.il | apply GQ.ri | apply GivN.nil | apply GivN.b | apply GivN.p | apply GivN.t | apply Giv.dn | apply Giv.oN | apply Giv.nN
    | apply GO.bd | apply GS.bd | apply GP.bd | apply OpenD.flat | apply OpenD.row | apply OpenD.nrow | apply OpenD.st | apply OpenD.pair | apply Cel.ce | apply CelN.ce
    | apply GO.bn | apply GS.bn | apply GP.bn | apply GO.en | apply GS.en | apply GP.en | apply Adm.no | apply Adm.nb | apply Adm.nb0 | apply Cel.nh | apply CelN.nH | apply OpenR.st | apply ShutR.st | apply GO.sn | apply GO.sm
    | apply GO.an | apply GO.ly | apply LayR.nil | apply LayR.cons | apply GO.mN | apply GO.sg | apply GO.sx | apply Sim.sit | apply GO.cl | apply GO.cp | apply GO.pw | apply GC.nd | apply GQ.nd | apply GO.nd | apply GS.nd | apply GP.nd | apply GO.bxe | apply GO.ste | apply GQ.nl | apply GC.nl | apply GQ.nm | apply GC.nm | apply Adm.shx | apply Adm.nc | apply Adm.nd | apply Adm.s0x | apply GO.vb | apply GS.vb
    | (apply CtrW.mk; apply_assumption) | (apply CtrOW.mk; apply_assumption) | (apply CtrN.mk; intro h wb Sb; apply (h wb Sb)))) : CtrR P k args Fs L f R := CtrR.start hs hf hb hN ⟨hz⟩ n
end Go.Sx

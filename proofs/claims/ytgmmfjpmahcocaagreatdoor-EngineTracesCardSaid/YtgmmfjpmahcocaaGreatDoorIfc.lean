import Derived.Test.YtgmmfjpmahcocaaGreatDoorIns
set_option linter.unusedVariables false
set_option linter.unusedSimpArgs false
namespace Go.Sx
open Go.RowKit
def zm4 {α : Type} (R : Rp α) (css : List (List Value)) (Ss : List (List Nat)) (xs : List α) : Item where
 S := Ss.flatten
 Φ w := css.length = xs.length /\ Ss.length = xs.length /\ ∀ (i : Nat) (cs : List Value) (S : List Nat) (x : α), css[i]? = some cs -> Ss[i]? = some S -> xs[i]? = some x -> R.own w cs S x
 loc w w' h hr := by
  obtain ⟨h1, h2, h5⟩ := hr
  exact ⟨h1, h2, fun i cs S x hc hS hx => R.loc w w' cs S x (fun b hb => h b (List.mem_flatten.2 ⟨S, zmg hS, hb⟩)) (h5 i cs S x hc hS hx)⟩
 lt w hr b hb := by
  obtain ⟨h1, h2, h5⟩ := hr
  obtain ⟨S, hS, hbS⟩ := List.mem_flatten.1 hb
  obtain ⟨i, hi, rfl⟩ := List.mem_iff_getElem.1 hS
  exact R.lt _ _ _ _ (h5 i css[i] Ss[i] xs[i] (zeg (by omega)) (zeg hi) (zeg (by omega))) b hbS
section
variable {P : Program} {N : Nat} {Q : Exit -> Act -> World -> Prop} {fr fr' : List (Nat × Value)} {w w0 : World} {l : List Oper} {i : Nat} {o : Oper} {S0 : List Nat} {L : List Item} {α β : Type} {A : Rp α} {B : Rp β} {hA : A.sz = 1} {hB : B.sz = 1} {v u : Value} {S : List Nat}
def looks (fr : List (Nat × Value)) : List Operand -> Option (List Value)
 | [] => some []
 | x :: r => match look fr x, looks fr r with
  | some v, some vs => some (v :: vs)
  | _, _ => none
theorem St.bchOne {R : Rp α} (h : St w0 S0 w L) (j : Nat) {cs : List Value} {x : α} (hj : L[j]? = some (itI R cs S x)) : St w0 S0 w (L.set j (zm4 R [cs] [S] [x])) := by
 have hown : R.own w cs S x := h.all j _ hj
 refine h.turn j hj ⟨rfl, rfl, fun i c T z hc hT hz => ?_⟩ (by simp [zm4, itI])
 cases i with
 | zero => simp at hc hT hz; subst hc; subst hT; subst hz; exact hown
 | succ i => simp at hc
theorem St.nOf {T : TypeId} {R : Rp α} {v : Value} {sz : Nat} {css : List (List Value)} {Ss : List (List Nat)} {xs : List α} (h : St w0 S0 w L) (k j : Nat) (hkj : Nat.beq k j = false) (hs : sz = R.sz) (hk : L[k]? = some (qH v T (fit sz) sz css)) (hj : L[j]? = some (zm4 R css Ss xs)) : ∃ S', St w0 S0 w ((L.set k (nI T R v S' xs none)).set j zeG) := by
 subst hs
 obtain ⟨b1, b2, b5⟩ := h.all j _ hj
 have hrow := h.all k _ hk
 have hd : ∀ b ∈ (zas v).toList, b ∉ Ss.flatten := h.apart k j _ _ (Nat.ne_of_beq_eq_false hkj) hk hj
 have hn : Ss.flatten.Nodup := h.nd j _ hj
 have hnd : ((zas v).toList ++ Ss.flatten).Nodup := List.nodup_append.2 ⟨zbn, hn, fun a ha b hb e => by subst e; exact hd a ha hb⟩
 refine ⟨_, h.fuse k j hkj hk hj (C := nI T R v ((zas v).toList ++ Ss.flatten) xs none) ⟨css, Ss, ⟨?_, b1, b2, rfl, hnd, (fun _ _ e => by cases e), fun i c S' z _ hc hS hz => b5 i c S' z hc hS hz⟩⟩ hnd (fun b hb => List.mem_append.1 hb)⟩
 rw [<- b1]
 exact hrow
end
end Go.Sx

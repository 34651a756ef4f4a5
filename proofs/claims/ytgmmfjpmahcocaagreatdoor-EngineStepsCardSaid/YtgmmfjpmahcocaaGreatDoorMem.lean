/- Texts Mem, Arr, Open, Maps, Part of this proof. -/
import Derived.Test.YtgmmfjpmahcocaaGreatDoorGlue
import Derived.Laws.RangeString
import Derived.Laws.Externs
import Derived.Maps.RangeRun
set_option linter.unusedVariables false
set_option linter.unusedSimpArgs false
namespace Go.Sx
open Go.RowKit
section
variable {w0 w : World} {S0 : List Nat} {L L' : List Item}
theorem St.repart (h : St w0 S0 w L) (h1 : ∀ (i : Nat) (it : Item), L'[i]? = some it -> it.Φ w /\ it.S.Nodup /\ ∀ x ∈ it.S, x ∈ fp L)
  (h2 : ∀ (i j : Nat) (a b : Item), i ≠ j -> L'[i]? = some a -> L'[j]? = some b -> ∀ x ∈ a.S, x ∉ b.S) : St w0 S0 w L' :=
 ⟨h.chg, fun i it hi => (h1 i it hi).1, fun i it hi => (h1 i it hi).2.1, h2, fun i it hi x hx => by
  obtain ⟨j, jt, hj, hb⟩ := mem_fp.1 ((h1 i it hi).2.2 x hx)
  exact h.own j jt hj x hb⟩
theorem St.swap (h : St w0 S0 w L) (k : Nat) {A A' B : Item} (hk : L[k]? = some A) (hA : A'.Φ w) (hAn : A'.S.Nodup) (hAs : ∀ b ∈ A'.S, b ∈ A.S) (hB : B.Φ w) (hBn : B.S.Nodup) (hBs : ∀ b ∈ B.S, b ∈ A.S) (hd : ∀ b ∈ A'.S, b ∉ B.S) :
  St w0 S0 w (L.set k A' ++ [B]) := by
 have hlt : k < L.length := (List.getElem?_eq_some_iff.1 hk).1
 have cs : ∀ (m : Nat) (it : Item), (L.set k A' ++ [B])[m]? = some it -> (m = k /\ it = A') \/ (m = L.length /\ it = B) \/ (m ≠ k /\ m < L.length /\ L[m]? = some it) := by
  intro m it hm
  rcases Nat.lt_or_ge m L.length with hml | hml
  ·rw [List.getElem?_append_left (by simpa using hml)] at hm
   by_cases e : k = m
   ·subst e
    rw [List.getElem?_set_self hlt] at hm
    exact .inl ⟨rfl, (Option.some.inj hm).symm⟩
   ·rw [List.getElem?_set_ne e] at hm
    exact .inr (.inr ⟨fun x => e x.symm, hml, hm⟩)
  ·rw [List.getElem?_append_right (by simpa using hml)] at hm
   have e : m = L.length := by
    have := (List.getElem?_eq_some_iff.1 hm).1
    simp at this
    omega
   subst e
   simp at hm
   exact .inr (.inl ⟨rfl, hm.symm⟩)
 refine h.repart (fun m it hm => ?_) (fun m n a b hmn hm hn x hxa hxb => ?_)
 ·rcases cs m it hm with ⟨_, rfl⟩ | ⟨_, rfl⟩ | ⟨_, _, hm⟩
  ·exact ⟨hA, hAn, fun x hx => mem_fp.2 ⟨k, _, hk, hAs x hx⟩⟩
  ·exact ⟨hB, hBn, fun x hx => mem_fp.2 ⟨k, _, hk, hBs x hx⟩⟩
  ·exact ⟨h.all m it hm, h.nd m it hm, fun x hx => mem_fp.2 ⟨m, it, hm, hx⟩⟩
 ·rcases cs m a hm with ⟨e1, rfl⟩ | ⟨e1, rfl⟩ | ⟨m1, m2, hm2⟩ <;> rcases cs n b hn with ⟨e2, rfl⟩ | ⟨e2, rfl⟩ | ⟨n1, n2, hn2⟩
  ·omega
  ·exact hd x hxa hxb
  ·exact h.apart k n A b (fun e => n1 e.symm) hk hn2 x (hAs x hxa) hxb
  ·exact hd x hxb hxa
  ·omega
  ·exact h.apart k n A b (fun e => n1 e.symm) hk hn2 x (hBs x hxa) hxb
  ·exact h.apart m k a A m1 hm2 hk x hxa (hAs x hxb)
  ·exact h.apart m k a A m1 hm2 hk x hxa (hBs x hxb)
  ·exact h.apart m n a b hmn hm2 hn2 x hxa hxb
theorem St.fuse (h : St w0 S0 w L) (k j : Nat) (hkj : Nat.beq k j = false) {A B C : Item} (hk : L[k]? = some A) (hj : L[j]? = some B) (hC : C.Φ w) (hCn : C.S.Nodup) (hCs : ∀ b ∈ C.S, b ∈ A.S \/ b ∈ B.S) :
  St w0 S0 w ((L.set k C).set j nilI) := by
 have hne : k ≠ j := Nat.ne_of_beq_eq_false hkj
 have hlk : k < L.length := (List.getElem?_eq_some_iff.1 hk).1
 have hlj : j < L.length := (List.getElem?_eq_some_iff.1 hj).1
 have cs : ∀ (m : Nat) (it : Item), ((L.set k C).set j nilI)[m]? = some it -> (m = j /\ it = nilI) \/ (m = k /\ it = C) \/ (m ≠ k /\ m ≠ j /\ L[m]? = some it) := by
  intro m it hm
  by_cases e : j = m
  ·subst e
   rw [List.getElem?_set_self (by simpa using hlj)] at hm
   exact .inl ⟨rfl, (Option.some.inj hm).symm⟩
  ·rw [List.getElem?_set_ne e] at hm
   by_cases e2 : k = m
   ·subst e2
    rw [List.getElem?_set_self hlk] at hm
    exact .inr (.inl ⟨rfl, (Option.some.inj hm).symm⟩)
   ·rw [List.getElem?_set_ne e2] at hm
    exact .inr (.inr ⟨fun x => e2 x.symm, fun x => e x.symm, hm⟩)
 have inS : ∀ x ∈ C.S, ∃ m it, (m = k \/ m = j) /\ L[m]? = some it /\ x ∈ it.S := by
  intro x hx
  rcases hCs x hx with h1 | h1
  ·exact ⟨k, A, .inl rfl, hk, h1⟩
  ·exact ⟨j, B, .inr rfl, hj, h1⟩
 refine h.repart (fun m it hm => ?_) (fun m n a b hmn hm hn x hxa hxb => ?_)
 ·rcases cs m it hm with ⟨_, rfl⟩ | ⟨_, rfl⟩ | ⟨_, _, hm⟩
  ·exact ⟨trivial, List.nodup_nil, fun x hx => absurd hx List.not_mem_nil⟩
  ·refine ⟨hC, hCn, fun x hx => ?_⟩
   obtain ⟨m', it, _, h1, h2⟩ := inS x hx
   exact mem_fp.2 ⟨m', it, h1, h2⟩
  ·exact ⟨h.all m it hm, h.nd m it hm, fun x hx => mem_fp.2 ⟨m, it, hm, hx⟩⟩
 ·rcases cs m a hm with ⟨_, rfl⟩ | ⟨rfl, rfl⟩ | ⟨m1, m2, hm2⟩
  ·exact absurd hxa List.not_mem_nil
  ·rcases cs n b hn with ⟨_, rfl⟩ | ⟨rfl, rfl⟩ | ⟨n1, n2, hn2⟩
   ·exact absurd hxb List.not_mem_nil
   ·exact hmn rfl
   ·obtain ⟨y, it, hy, h1, h2⟩ := inS x hxa
    exact h.apart y n it b (by rcases hy with rfl | rfl <;> omega) h1 hn2 x h2 hxb
  ·rcases cs n b hn with ⟨_, rfl⟩ | ⟨rfl, rfl⟩ | ⟨n1, n2, hn2⟩
   ·exact absurd hxb List.not_mem_nil
   ·obtain ⟨y, it, hy, h1, h2⟩ := inS x hxb
    exact h.apart m y a it (by rcases hy with rfl | rfl <;> omega) hm2 h1 x hxa h2
   ·exact h.apart m n a b hmn hm2 hn2 x hxa hxb
theorem St.turn (h : St w0 S0 w L) (k : Nat) {A A' : Item} (hk : L[k]? = some A) (hA : A'.Φ w) (hS : A'.S = A.S) : St w0 S0 w (L.set k A') := by
 have h2 := h.swap k (A' := A') (B := nilI) hk hA (by rw [hS]; exact h.nd k A hk) (by rw [hS]; exact fun _ hb => hb) trivial List.nodup_nil (fun b hb => absurd hb List.not_mem_nil) (fun b _ hb => absurd hb List.not_mem_nil)
 have hl : (L.set k A').length <= (L.set k A' ++ [nilI]).length := by simp
 refine h2.repart (fun m it hm => ?_) (fun m n a b hmn hm hn => ?_)
 ·have hm' : (L.set k A' ++ [nilI])[m]? = some it := by rw [List.getElem?_append_left (List.getElem?_eq_some_iff.1 hm).1]; exact hm
  exact ⟨h2.all m it hm', h2.nd m it hm', fun x hx => mem_fp.2 ⟨m, it, hm', hx⟩⟩
 ·exact h2.apart m n a b hmn (by rw [List.getElem?_append_left (List.getElem?_eq_some_iff.1 hm).1]; exact hm) (by rw [List.getElem?_append_left (List.getElem?_eq_some_iff.1 hn).1]; exact hn)
end
def Parts (w : World) (S : List Nat) (B : List Item) : Prop :=
 (∀ (i : Nat) (it : Item), B[i]? = some it -> it.Φ w /\ it.S.Nodup /\ ∀ b ∈ it.S, b ∈ S) /\ ∀ (i j : Nat) (a b : Item), i ≠ j -> B[i]? = some a -> B[j]? = some b -> ∀ x ∈ a.S, x ∉ b.S
section
variable {w0 w : World} {S0 S S1 S2 : List Nat} {L L' B B1 B2 : List Item}
theorem Parts.nil : Parts w S [] := ⟨fun i it h => by simp at h, fun i j a b _ h => by simp at h⟩
theorem app_get {β : Type} {l m : List β} {i : Nat} {u : β} (hi : (l ++ m)[i]? = some u) : (i < l.length /\ l[i]? = some u) \/ (l.length <= i /\ m[i - l.length]? = some u) := by
 rcases Nat.lt_or_ge i l.length with hlt | hge
 ·rw [List.getElem?_append_left hlt] at hi; exact .inl ⟨hlt, hi⟩
 ·rw [List.getElem?_append_right hge] at hi; exact .inr ⟨hge, hi⟩
theorem Parts.cons {it : Item} (h1 : it.Φ w) (h2 : it.S.Nodup) (h3 : ∀ b ∈ it.S, b ∈ S) (hd : ∀ b ∈ it.S, b ∉ S2) (h : Parts w S2 B) (hs : ∀ b ∈ S2, b ∈ S) : Parts w S (it :: B) := by
 refine ⟨fun i x hi => ?_, fun i j a b hij hi hj y hy => ?_⟩
 ·cases i with
  | zero => simp at hi; subst hi; exact ⟨h1, h2, h3⟩
  | succ i => obtain ⟨a1, a2, a3⟩ := h.1 i x (by simpa using hi); exact ⟨a1, a2, fun b hb => hs b (a3 b hb)⟩
 ·cases i with
  | zero =>
   cases j with
   | zero => exact absurd rfl hij
   | succ j =>
    simp at hi; subst hi
    exact fun hb => hd y hy ((h.1 j b (by simpa using hj)).2.2 y hb)
  | succ i =>
   cases j with
   | zero =>
    simp at hj; subst hj
    exact fun hb => hd y hb ((h.1 i a (by simpa using hi)).2.2 y hy)
   | succ j => exact h.2 i j a b (by omega) (by simpa using hi) (by simpa using hj) y hy
theorem St.burst {A : Item} (h : St w0 S0 w L) (j : Nat) (hj : L[j]? = some A) (hB : Parts w A.S B) : St w0 S0 w (L.set j nilI ++ B) := by
 have hlt : j < L.length := (List.getElem?_eq_some_iff.1 hj).1
 have cs : ∀ (m : Nat) (it : Item), (L.set j nilI ++ B)[m]? = some it -> (it = nilI) \/ (m ≠ j /\ m < L.length /\ L[m]? = some it) \/ (L.length <= m /\ B[m - L.length]? = some it) := by
  intro m it hm
  rcases app_get hm with ⟨h1, h2⟩ | ⟨h1, h2⟩
  ·by_cases e : j = m
   ·subst e; rw [List.getElem?_set_self hlt] at h2; exact .inl (Option.some.inj h2).symm
   ·rw [List.getElem?_set_ne e] at h2; exact .inr (.inl ⟨fun x => e x.symm, by simpa using h1, h2⟩)
  ·rw [List.length_set] at h1 h2; exact .inr (.inr ⟨h1, h2⟩)
 refine h.repart (fun m it hm => ?_) (fun m n a b hmn hm hn x hxa hxb => ?_)
 ·rcases cs m it hm with rfl | ⟨_, _, hm⟩ | ⟨_, hm⟩
  ·exact ⟨trivial, List.nodup_nil, fun x hx => absurd hx List.not_mem_nil⟩
  ·exact ⟨h.all m it hm, h.nd m it hm, fun x hx => mem_fp.2 ⟨m, it, hm, hx⟩⟩
  ·obtain ⟨a1, a2, a3⟩ := hB.1 _ it hm
   exact ⟨a1, a2, fun x hx => mem_fp.2 ⟨j, A, hj, a3 x hx⟩⟩
 ·rcases cs m a hm with rfl | ⟨m1, m2, hm2⟩ | ⟨m1, hm2⟩
  ·exact absurd hxa List.not_mem_nil
  ·rcases cs n b hn with rfl | ⟨n1, n2, hn2⟩ | ⟨n1, hn2⟩
   ·exact absurd hxb List.not_mem_nil
   ·exact h.apart m n a b hmn hm2 hn2 x hxa hxb
   ·exact h.apart m j a A m1 hm2 hj x hxa ((hB.1 _ b hn2).2.2 x hxb)
  ·rcases cs n b hn with rfl | ⟨n1, n2, hn2⟩ | ⟨n1, hn2⟩
   ·exact absurd hxb List.not_mem_nil
   ·exact h.apart n j b A n1 hn2 hj x hxb ((hB.1 _ a hm2).2.2 x hxa)
   ·exact hB.2 (m - L.length) (n - L.length) a b (by omega) hm2 hn2 x hxa hxb
theorem St.gather (h : St w0 S0 w L) (ids rest : List Nat) (hd : distinct (ids ++ rest) = true) {C : Item} (hC : C.Φ w) (hn : C.S.Nodup) (hs : ∀ b ∈ C.S, b ∈ fp (sel L ids)) : St w0 S0 w (sel L rest ++ [C]) := by
 have hr : ∀ (m : Nat) (it : Item), (sel L rest)[m]? = some it -> it = nilI \/ ∃ q, rest[m]? = some q /\ L[q]? = some it := by
  intro m it hm
  obtain ⟨q, h1, h2⟩ := sel_get hm
  rcases getD_cases h2 with h2 | h2
  ·exact .inr ⟨q, h1, h2⟩
  ·exact .inl h2
 have hc : ∀ b ∈ C.S, ∃ (k q : Nat) (it : Item), ids[k]? = some q /\ L[q]? = some it /\ b ∈ it.S := by
  intro b hb
  obtain ⟨k, it, hk, hbs⟩ := mem_fp.1 (hs b hb)
  obtain ⟨q, h1, h2⟩ := sel_get hk
  rcases getD_cases h2 with h2 | rfl
  ·exact ⟨k, q, it, h1, h2, hbs⟩
  ·exact absurd hbs List.not_mem_nil
 have cross : ∀ (m : Nat) (it : Item), (sel L rest)[m]? = some it -> ∀ x ∈ it.S, x ∉ C.S := by
  intro m it hm x hx hxc
  rcases hr m it hm with rfl | ⟨q, h1, h2⟩
  ·exact absurd hx List.not_mem_nil
  ·obtain ⟨k, q', it', h3, h4, h5⟩ := hc x hxc
   have hlt : k < ids.length := (List.getElem?_eq_some_iff.1 h3).1
   have hne : q' ≠ q := distinct_get hd (i := k) (j := ids.length + m) (by omega) (by rw [List.getElem?_append_left hlt]; exact h3) (by rw [List.getElem?_append_right (by omega)]; simpa using h1)
   exact h.apart q' q it' it hne h4 h2 x h5 hx
 have cs : ∀ (m : Nat) (it : Item), (sel L rest ++ [C])[m]? = some it -> (m < (sel L rest).length /\ (sel L rest)[m]? = some it) \/ (m = (sel L rest).length /\ it = C) := by
  intro m it hm
  rcases app_get hm with ⟨h1, h2⟩ | ⟨h1, h2⟩
  ·exact .inl ⟨h1, h2⟩
  ·have := (List.getElem?_eq_some_iff.1 h2).1
   simp at this
   rw [this] at h2
   simp at h2
   exact .inr ⟨by omega, h2.symm⟩
 refine h.repart (fun m it hm => ?_) (fun m n a b hmn hm hn' x hxa hxb => ?_)
 ·rcases cs m it hm with ⟨_, hm⟩ | ⟨_, rfl⟩
  ·rcases hr m it hm with rfl | ⟨q, h1, h2⟩
   ·exact ⟨trivial, List.nodup_nil, fun x hx => absurd hx List.not_mem_nil⟩
   ·exact ⟨h.all q it h2, h.nd q it h2, fun x hx => mem_fp.2 ⟨q, it, h2, hx⟩⟩
  ·refine ⟨hC, hn, fun x hx => ?_⟩
   obtain ⟨k, q', it', h3, h4, h5⟩ := hc x hx
   exact mem_fp.2 ⟨q', it', h4, h5⟩
 ·rcases cs m a hm with ⟨_, hm2⟩ | ⟨m1, rfl⟩
  ·rcases cs n b hn' with ⟨_, hn2⟩ | ⟨_, rfl⟩
   ·rcases hr m a hm2 with rfl | ⟨q, h1, h2⟩
    ·exact absurd hxa List.not_mem_nil
    ·rcases hr n b hn2 with rfl | ⟨q', h3, h4⟩
     ·exact absurd hxb List.not_mem_nil
     ·have hne : q ≠ q' := distinct_get hd (i := ids.length + m) (j := ids.length + n) (by omega) (by rw [List.getElem?_append_right (by omega)]; simpa using h1) (by rw [List.getElem?_append_right (by omega)]; simpa using h3)
      exact h.apart q q' a b hne h2 h4 x hxa hxb
   ·exact cross m a hm2 x hxa hxb
  ·rcases cs n b hn' with ⟨_, hn2⟩ | ⟨n1, rfl⟩
   ·exact cross n b hn2 x hxb hxa
   ·omega
end
structure Rp (α : Type) where
 sz : Nat
 own : World -> List Value -> List Nat -> α -> Prop
 rd : World -> List Nat -> α -> List Value -> Prop
 len : ∀ w cs S x, own w cs S x -> cs.length = sz
 loc : ∀ w w' cs S x, (∀ b ∈ S, w'.heap[b]? = w.heap[b]?) -> own w cs S x -> own w' cs S x
 lt : ∀ w cs S x, own w cs S x -> ∀ b ∈ S, b < w.heap.size
 nd : ∀ w cs S x, own w cs S x -> S.Nodup
 see : ∀ w cs S x F, own w cs S x -> (∀ b ∈ S, b ∉ F) -> rd w F x cs
 rlen : ∀ w F x cs, rd w F x cs -> cs.length = sz
 rloc : ∀ w w' F F' x cs, (∀ b, b < w.heap.size -> b ∉ F -> w'.heap[b]? = w.heap[b]?) -> (∀ b ∈ F', b ∈ F \/ w.heap.size <= b) -> rd w F x cs -> rd w' F' x cs
def itI {α : Type} (R : Rp α) (cs : List Value) (S : List Nat) (x : α) : Item where
 S := S
 Φ w := R.own w cs S x
 loc w w' h hb := R.loc w w' cs S x h hb
 lt w h := R.lt w cs S x h
theorem Rd.far {α : Type} {w w' : World} {F F' : List Nat} {v : Value} {enc : α -> List Value} {sz : Nat} {xs : List α} (h : Rd w F v enc sz xs) (h1 : ∀ b, b < w.heap.size -> b ∉ F -> w'.heap[b]? = w.heap[b]?) (h2 : ∀ b ∈ F', b ∈ F \/ w.heap.size <= b) :
  Rd w' F' v enc sz xs := by
 obtain ⟨hn, a, c, hv, hlc, hc⟩ := h
 refine ⟨hn, a, c, hv, hlc, fun t x f u hx hu => ?_⟩
 obtain ⟨b, o, ha, hb, hcell⟩ := hc t x f u hx hu
 have hlt : b < w.heap.size := cell_lt hcell
 refine ⟨b, o, ha, fun hf => ?_, (World.cell?_of_block (h1 b hlt hb)).trans hcell⟩
 rcases h2 b hf with h3 | h3
 ·exact hb h3
 ·omega
def flatP {α : Type} (enc : α -> List Value) (sz : Nat) (he : ∀ x, (enc x).length = sz) : Rp α where
 sz := sz
 own _ cs S x := cs = enc x /\ S = []
 rd _ _ x cs := cs = enc x
 len := by rintro w cs S x ⟨rfl, _⟩; exact he x
 loc := by rintro w w' cs S x _ h; exact h
 lt := by rintro w cs S x ⟨_, rfl⟩; simp
 nd := by rintro w cs S x ⟨_, rfl⟩; exact List.nodup_nil
 see := by rintro w cs S x F ⟨rfl, _⟩ _; rfl
 rlen := by rintro w F x cs rfl; exact he x
 rloc := by rintro w w' F F' x cs _ _ h; exact h
def rowP {α : Type} (T : TypeId) (enc : α -> List Value) (sz : Nat) (he : ∀ x, (enc x).length = sz) (hp : 0 < sz) : Rp (List α) where
 sz := 1
 own w cs S xs := ∃ v, cs = [v] /\ S = (ownB v).toList /\ Owns w T sz v xs.length (flat enc xs)
 rd w F xs cs := ∃ v, cs = [v] /\ Rd w F v enc sz xs
 len := by rintro w cs S x ⟨v, rfl, _⟩; rfl
 loc := by
  rintro w w' cs S x h ⟨v, rfl, rfl, hr⟩
  exact ⟨v, rfl, rfl, hr.loc h⟩
 lt := by
  rintro w cs S x ⟨v, rfl, rfl, hr⟩
  exact hr.lt
 nd := by
  rintro w cs S x ⟨v, rfl, rfl, hr⟩
  exact ownB_nodup
 see := by
  rintro w cs S x F ⟨v, rfl, rfl, hr⟩ hF
  exact ⟨v, rfl, rd_of_row he hr hF⟩
 rlen := by rintro w F x cs ⟨v, rfl, _⟩; rfl
 rloc := by rintro w w' F F' x cs h1 h2 ⟨v, rfl, h⟩; exact ⟨v, rfl, h.far h1 h2⟩
def pairP {α β : Type} (A : Rp α) (B : Rp β) : Rp (α × β) where
 sz := A.sz + B.sz
 own w cs S p := ∃ c1 c2 S1 S2, cs = c1 ++ c2 /\ S = S1 ++ S2 /\ (∀ b ∈ S1, b ∉ S2) /\ A.own w c1 S1 p.1 /\ B.own w c2 S2 p.2
 rd w F p cs := ∃ c1 c2, cs = c1 ++ c2 /\ A.rd w F p.1 c1 /\ B.rd w F p.2 c2
 len := by
  rintro w cs S x ⟨c1, c2, S1, S2, rfl, rfl, _, h1, h2⟩
  rw [List.length_append, A.len _ _ _ _ h1, B.len _ _ _ _ h2]
 loc := by
  rintro w w' cs S x h ⟨c1, c2, S1, S2, rfl, rfl, hd, h1, h2⟩
  exact ⟨c1, c2, S1, S2, rfl, rfl, hd, A.loc w w' _ _ _ (fun b hb => h b (List.mem_append_left _ hb)) h1, B.loc w w' _ _ _ (fun b hb => h b (List.mem_append_right _ hb)) h2⟩
 lt := by
  rintro w cs S x ⟨c1, c2, S1, S2, rfl, rfl, hd, h1, h2⟩ b hb
  rcases List.mem_append.1 hb with hb | hb
  ·exact A.lt _ _ _ _ h1 b hb
  ·exact B.lt _ _ _ _ h2 b hb
 nd := by
  rintro w cs S x ⟨c1, c2, S1, S2, rfl, rfl, hd, h1, h2⟩
  exact List.nodup_append.2 ⟨A.nd _ _ _ _ h1, B.nd _ _ _ _ h2, fun a ha b hb e => by subst e; exact hd a ha hb⟩
 see := by
  rintro w cs S x F ⟨c1, c2, S1, S2, rfl, rfl, hd, h1, h2⟩ hF
  exact ⟨c1, c2, rfl, A.see _ _ _ _ F h1 (fun b hb => hF b (List.mem_append_left _ hb)), B.see _ _ _ _ F h2 (fun b hb => hF b (List.mem_append_right _ hb))⟩
 rlen := by
  rintro w F x cs ⟨c1, c2, rfl, h1, h2⟩
  rw [List.length_append, A.rlen _ _ _ _ h1, B.rlen _ _ _ _ h2]
 rloc := by
  rintro w w' F F' x cs k1 k2 ⟨c1, c2, rfl, h1, h2⟩
  exact ⟨c1, c2, rfl, A.rloc w w' F F' _ _ k1 k2 h1, B.rloc w w' F F' _ _ k1 k2 h2⟩
def fit (n : Nat) (cs : List Value) : List Value := cs.take n ++ List.replicate (n - cs.length) undef
theorem fit_len (n : Nat) (cs : List Value) : (fit n cs).length = n := by simp [fit]; omega
theorem fit_eq {n : Nat} {cs : List Value} (h : cs.length = n) : fit n cs = cs := by subst h; simp [fit]
theorem nodup_flatten_set {Ss : List (List Nat)} {S' : List Nat} : ∀ {i : Nat}, Ss.flatten.Nodup -> S'.Nodup -> (∀ (k : Nat) (S : List Nat), k ≠ i -> Ss[k]? = some S -> ∀ b ∈ S', b ∉ S) -> (Ss.set i S').flatten.Nodup := by
 induction Ss with
 | nil => intro i h _ _; simp
 | cons T r ih =>
  intro i h hS hx
  simp only [List.flatten_cons] at h
  obtain ⟨n1, n2, n3⟩ := List.nodup_append.1 h
  cases i with
  | zero =>
   simp only [List.set_cons_zero, List.flatten_cons]
   refine List.nodup_append.2 ⟨hS, n2, fun a ha b hb e => ?_⟩
   subst e
   obtain ⟨S, hSr, hb⟩ := List.mem_flatten.1 hb
   obtain ⟨k, hk, rfl⟩ := List.mem_iff_getElem.1 hSr
   exact hx (k + 1) _ (by omega) (by simp) a ha hb
  | succ i =>
   simp only [List.set_cons_succ, List.flatten_cons]
   refine List.nodup_append.2 ⟨n1, ih n2 hS (fun k S hk hSk => hx (k + 1) S (by omega) (by simpa using hSk)), fun a ha b hb e => ?_⟩
   subst e
   obtain ⟨S, hSr, hb2⟩ := List.mem_flatten.1 hb
   rcases List.mem_or_eq_of_mem_set hSr with hSr | rfl
   ·exact n3 a ha a (List.mem_flatten.2 ⟨S, hSr, hb2⟩) rfl
   ·exact hx 0 T (by omega) rfl a hb2 ha
theorem mem_flatten_set {Ss : List (List Nat)} {S' : List Nat} {i b : Nat} (h : b ∈ (Ss.set i S').flatten) : b ∈ S' \/ b ∈ Ss.flatten := by
 obtain ⟨S, hS, hb⟩ := List.mem_flatten.1 h
 rcases List.mem_or_eq_of_mem_set hS with hS | rfl
 ·exact .inr (List.mem_flatten.2 ⟨S, hS, hb⟩)
 ·exact .inl hb
theorem flatten_apart {Ss : List (List Nat)} (h : Ss.flatten.Nodup) : ∀ {i j : Nat} {A B : List Nat}, i ≠ j -> Ss[i]? = some A -> Ss[j]? = some B -> ∀ b ∈ A, b ∉ B := by
 induction Ss with
 | nil => intro i j A B _ hi; simp at hi
 | cons T r ih =>
  intro i j A B hij hi hj b hb hb2
  simp only [List.flatten_cons] at h
  obtain ⟨n1, n2, n3⟩ := List.nodup_append.1 h
  cases i with
  | zero =>
   cases j with
   | zero => exact hij rfl
   | succ j =>
    simp only [List.getElem?_cons_zero, Option.some.injEq] at hi
    subst hi
    exact n3 b hb b (List.mem_flatten.2 ⟨B, List.mem_of_getElem? (by simpa using hj), hb2⟩) rfl
  | succ i =>
   cases j with
   | zero =>
    simp only [List.getElem?_cons_zero, Option.some.injEq] at hj
    subst hj
    exact n3 b hb2 b (List.mem_flatten.2 ⟨A, List.mem_of_getElem? (by simpa using hi), hb⟩) rfl
   | succ j => exact ih n2 (i := i) (j := j) (by omega) (by simpa using hi) (by simpa using hj) b hb hb2
theorem set_self {β : Type} {l : List β} {t : Int} {x : β} (h : idx l t = some x) : l.set t.toNat x = l := by
 have := (idx_some h).2.2
 apply List.ext_getElem?
 intro i
 by_cases e : t.toNat = i
 ·subst e; rw [List.getElem?_set_self (List.getElem?_eq_some_iff.1 this).1, this]
 ·rw [List.getElem?_set_ne e]
theorem rep_get {β : Type} {n i : Nat} {a b : β} (h : (List.replicate n a)[i]? = some b) : i < n /\ a = b := by
 rw [List.getElem?_replicate] at h
 split at h
 ·rename_i hi; exact ⟨hi, by cases h; rfl⟩
 ·cases h
theorem fit_splice {n : Nat} {c0 cs : List Value} (h : cs.length = n) : splice (fit n c0) cs 0 = fit n cs := by
 have h1 := fit_len n c0
 have h2 : (fit n c0).drop (0 + cs.length) = [] := List.drop_of_length_le (by omega)
 unfold splice
 rw [h2, fit_eq h]
 simp
structure NRow {α : Type} (w : World) (T : TypeId) (R : Rp α) (v : Value) (S : List Nat) (xs : List α) (ho : Option (Nat × List Value)) (css : List (List Value)) (Ss : List (List Nat)) : Prop where
 row : Owns w T R.sz v xs.length (flat (fit R.sz) css)
 lc : css.length = xs.length
 ls : Ss.length = xs.length
 hS : S = (ownB v).toList ++ Ss.flatten
 nd : S.Nodup
 out : ∀ t cs, ho = some (t, cs) -> cs.length = R.sz /\ css[t]? = some cs /\ Ss[t]? = some []
 own : ∀ (i : Nat) (cs : List Value) (S' : List Nat) (x : α), (∀ c, ho ≠ some (i, c)) -> css[i]? = some cs -> Ss[i]? = some S' -> xs[i]? = some x -> R.own w cs S' x
section
variable {α : Type} {w w' : World} {T : TypeId} {R : Rp α} {v : Value} {S : List Nat} {xs : List α} {ho : Option (Nat × List Value)} {css : List (List Value)} {Ss : List (List Nat)}
theorem NRow.lt (h : NRow w T R v S xs ho css Ss) : ∀ b ∈ S, b < w.heap.size := by
 intro b hb
 rw [h.hS] at hb
 rcases List.mem_append.1 hb with hb | hb
 ·exact h.row.lt b hb
 ·obtain ⟨S', hS', hb⟩ := List.mem_flatten.1 hb
  obtain ⟨i, hi, rfl⟩ := List.mem_iff_getElem.1 hS'
  have h1 : i < css.length := by rw [h.lc, <- h.ls]; exact hi
  have h2 : i < xs.length := by rw [<- h.ls]; exact hi
  by_cases hq : ∃ c, ho = some (i, c)
  ·obtain ⟨c, hc⟩ := hq
   have := (h.out i c hc).2.2
   rw [List.getElem?_eq_getElem hi] at this
   rw [Option.some.inj this] at hb
   exact absurd hb List.not_mem_nil
  ·exact R.lt _ _ _ _ (h.own i _ _ _ (fun c hc => hq ⟨c, hc⟩) (List.getElem?_eq_getElem h1) (List.getElem?_eq_getElem hi) (List.getElem?_eq_getElem h2)) b hb
theorem NRow.loc (h : NRow w T R v S xs ho css Ss) (hb : ∀ b ∈ S, w'.heap[b]? = w.heap[b]?) : NRow w' T R v S xs ho css Ss := by
 have hS := h.hS
 refine ⟨h.row.loc (fun b hbv => hb b (by rw [hS]; exact List.mem_append_left _ hbv)), h.lc, h.ls, h.hS, h.nd, h.out, fun i cs S' x h1 h2 h3 h4 => R.loc w w' cs S' x (fun b hbs => hb b ?_) (h.own i cs S' x h1 h2 h3 h4)⟩
 rw [hS]
 exact List.mem_append_right _ (List.mem_flatten.2 ⟨S', List.mem_of_getElem? h3, hbs⟩)
theorem set_get {β : Type} {l : List β} {z u : β} {t i : Nat} (hi : (l.set t z)[i]? = some u) : (i = t /\ u = z) \/ (i ≠ t /\ l[i]? = some u) := by
 by_cases e : t = i
 ·subst e
  have hl : t < l.length := by have := (List.getElem?_eq_some_iff.1 hi).1; simpa using this
  rw [List.getElem?_set_self hl] at hi; exact .inl ⟨rfl, (Option.some.inj hi).symm⟩
 ·rw [List.getElem?_set_ne e] at hi; exact .inr ⟨fun x => e x.symm, hi⟩
theorem NRow.take (h : NRow w T R v S xs none css Ss) {t : Nat} {x : α} (hx : xs[t]? = some x) :
  ∃ cs S1 S2, css[t]? = some cs /\ cs.length = R.sz /\ R.own w cs S2 x /\ NRow w T R v S1 xs (some (t, cs)) css (Ss.set t []) /\ (∀ b ∈ S2, b ∈ S) /\ (∀ b ∈ S1, b ∈ S) /\ ∀ b ∈ S1, b ∉ S2 := by
 have hl := (List.getElem?_eq_some_iff.1 hx).1
 have a1 : t < css.length := by rw [h.lc]; exact hl
 have a2 : t < Ss.length := by rw [h.ls]; exact hl
 have hn := h.nd
 rw [h.hS] at hn
 obtain ⟨n1, n2, n3⟩ := List.nodup_append.1 hn
 have hown := h.own t css[t] Ss[t] x (by simp) (List.getElem?_eq_getElem a1) (List.getElem?_eq_getElem a2) hx
 have hsub : ∀ b ∈ (Ss.set t []).flatten, b ∈ Ss.flatten := fun b hb => by
  rcases mem_flatten_set hb with hb | hb
  ·exact absurd hb List.not_mem_nil
  ·exact hb
 have n2' : (Ss.set t []).flatten.Nodup := nodup_flatten_set n2 List.nodup_nil (fun _ _ _ _ b hb => absurd hb List.not_mem_nil)
 refine ⟨css[t], (ownB v).toList ++ (Ss.set t []).flatten, Ss[t], List.getElem?_eq_getElem a1, R.len _ _ _ _ hown, hown, ⟨h.row, h.lc, by rw [List.length_set]; exact h.ls, rfl, ?_, fun q c e => ?_, fun i cs S' y h1 h2 h3 h4 => ?_⟩, fun b hb => ?_, fun b hb => ?_, fun b hb hb2 => ?_⟩
 ·exact List.nodup_append.2 ⟨n1, n2', fun a ha b hb e => n3 a ha b (hsub b hb) e⟩
 ·simp only [Option.some.injEq, Prod.mk.injEq] at e
  obtain ⟨rfl, rfl⟩ := e
  exact ⟨R.len _ _ _ _ hown, List.getElem?_eq_getElem a1, by rw [List.getElem?_set_self a2]⟩
 ·rcases set_get h3 with ⟨rfl, rfl⟩ | ⟨hne, h3⟩
  ·rw [List.getElem?_eq_getElem a1] at h2
   exact absurd (by rw [Option.some.inj h2]) (h1 cs)
  ·exact h.own i cs S' y (by simp) h2 h3 h4
 ·rw [h.hS]; exact List.mem_append_right _ (List.mem_flatten.2 ⟨Ss[t], List.getElem_mem a2, hb⟩)
 ·rw [h.hS]
  rcases List.mem_append.1 hb with hb | hb
  ·exact List.mem_append_left _ hb
  ·exact List.mem_append_right _ (hsub b hb)
 ·rcases List.mem_append.1 hb with hb | hb
  ·exact n3 b hb b (List.mem_flatten.2 ⟨Ss[t], List.getElem_mem a2, hb2⟩) rfl
  ·obtain ⟨S', hS', hb⟩ := List.mem_flatten.1 hb
   obtain ⟨i, hi, rfl⟩ := List.mem_iff_getElem.1 hS'
   rcases set_get (List.getElem?_eq_getElem hi) with ⟨_, e⟩ | ⟨hne, hi2⟩
   ·rw [e] at hb; exact absurd hb List.not_mem_nil
   ·exact flatten_apart n2 hne hi2 (List.getElem?_eq_getElem a2) b hb hb2
theorem NRow.give (h : NRow w T R v S xs ho css Ss) {t : Nat} {cs : List Value} {S2 : List Nat} {x y : α} (hho : ∀ i c, ho = some (i, c) -> i = t) (hy : xs[t]? = some y) (hx : R.own w' cs S2 x) (hd : ∀ b ∈ S, b ∉ S2)
  (hw : ∀ b ∈ Ss.flatten, w'.heap[b]? = w.heap[b]?) (hrow : Owns w' T R.sz v xs.length (flat (fit R.sz) (css.set t cs))) : NRow w' T R v ((ownB v).toList ++ (Ss.set t S2).flatten) (xs.set t x) none (css.set t cs) (Ss.set t S2) := by
 have hn := h.nd
 rw [h.hS] at hn
 obtain ⟨n1, n2, n3⟩ := List.nodup_append.1 hn
 have hS := h.hS
 refine ⟨by rw [List.length_set]; exact hrow, by rw [List.length_set, List.length_set]; exact h.lc, by rw [List.length_set, List.length_set]; exact h.ls, rfl, ?_, (fun _ _ e => by cases e), fun i c S' z _ h2 h3 h4 => ?_⟩
 ·refine List.nodup_append.2 ⟨n1, nodup_flatten_set n2 (R.nd _ _ _ _ hx) (fun k T' _ hT b hb hb2 => hd b (by rw [hS]; exact List.mem_append_right _ (List.mem_flatten.2 ⟨T', List.mem_of_getElem? hT, hb2⟩)) hb), fun a ha b hb e => ?_⟩
  subst e
  rcases mem_flatten_set hb with hb | hb
  ·exact hd a (by rw [hS]; exact List.mem_append_left _ ha) hb
  ·exact n3 a ha a hb rfl
 ·rcases set_get h3 with ⟨rfl, rfl⟩ | ⟨hne, h3⟩
  ·rcases set_get h2 with ⟨_, rfl⟩ | ⟨hne, _⟩
   ·rcases set_get h4 with ⟨_, rfl⟩ | ⟨hne, _⟩
    ·exact hx
    ·exact absurd rfl hne
   ·exact absurd rfl hne
  ·rcases set_get h2 with ⟨e, _⟩ | ⟨_, h2⟩
   ·exact absurd e hne
   ·rcases set_get h4 with ⟨e, _⟩ | ⟨_, h4⟩
    ·exact absurd e hne
    ·exact R.loc w w' c S' z (fun b hb => hw b (List.mem_flatten.2 ⟨S', List.mem_of_getElem? h3, hb⟩)) (h.own i c S' z (fun c' e => hne (hho i c' e)) h2 h3 h4)
theorem NRow.app {v' : Value} {v2 : Value} {S2 : List Nat} {ys : List α} {css2 : List (List Value)} {Ss2 : List (List Nat)} (h : NRow w T R v S xs none css Ss) (h2 : NRow w T R v2 S2 ys none css2 Ss2) (hd : ∀ b ∈ S, b ∉ S2)
  (hw : ∀ b ∈ Ss.flatten ++ Ss2.flatten, w'.heap[b]? = w.heap[b]?) (hat : ownB v' = ownB v \/ ownB v' = some w.heap.size) (hrow : Owns w' T R.sz v' (xs.length + ys.length) (flat (fit R.sz) css ++ flat (fit R.sz) css2)) :
  NRow w' T R v' ((ownB v').toList ++ (Ss ++ Ss2).flatten) (xs ++ ys) none (css ++ css2) (Ss ++ Ss2) := by
 have hn := h.nd
 rw [h.hS] at hn
 obtain ⟨n1, n2, n3⟩ := List.nodup_append.1 hn
 have hn2 := h2.nd
 rw [h2.hS] at hn2
 obtain ⟨m1, m2, m3⟩ := List.nodup_append.1 hn2
 have lc := h.lc
 have ls := h.ls
 have lc2 := h2.lc
 have ls2 := h2.ls
 refine ⟨by rw [flat_append, List.length_append]; exact hrow, by simp; omega, by simp; omega, rfl, ?_, (fun _ _ e => by cases e), fun i c S' z _ g2 g3 g4 => ?_⟩
 ·rw [List.flatten_append]
  refine List.nodup_append.2 ⟨ownB_nodup, List.nodup_append.2 ⟨n2, m2, fun a ha b hb e => ?_⟩, fun a ha b hb e => ?_⟩
  ·subst e; exact hd a (by rw [h.hS]; exact List.mem_append_right _ ha) (by rw [h2.hS]; exact List.mem_append_right _ hb)
  ·subst e
   rcases hat with hat | hat
   ·rw [hat] at ha
    rcases List.mem_append.1 hb with hb | hb
    ·exact n3 a ha a hb rfl
    ·exact hd a (by rw [h.hS]; exact List.mem_append_left _ ha) (by rw [h2.hS]; exact List.mem_append_right _ hb)
   ·rw [hat] at ha
    simp at ha
    have hlt : a < w.heap.size := by
     rcases List.mem_append.1 hb with hb | hb
     ·exact h.lt a (by rw [h.hS]; exact List.mem_append_right _ hb)
     ·exact h2.lt a (by rw [h2.hS]; exact List.mem_append_right _ hb)
    omega
 ·rcases app_get g2 with ⟨l1, g2⟩ | ⟨l1, g2⟩
  ·rcases app_get g3 with ⟨l2, g3⟩ | ⟨l2, g3⟩
   ·rcases app_get g4 with ⟨l3, g4⟩ | ⟨l3, g4⟩
    ·exact R.loc w w' c S' z (fun b hb => hw b (List.mem_append_left _ (List.mem_flatten.2 ⟨S', List.mem_of_getElem? g3, hb⟩))) (h.own i c S' z (by simp) g2 g3 g4)
    ·omega
   ·omega
  ·rcases app_get g3 with ⟨l2, g3⟩ | ⟨l2, g3⟩
   ·omega
   ·rcases app_get g4 with ⟨l3, g4⟩ | ⟨l3, g4⟩
    ·omega
    ·rw [show i - Ss.length = i - css.length by omega] at g3
     rw [show i - xs.length = i - css.length by omega] at g4
     exact R.loc w w' c S' z (fun b hb => hw b (List.mem_append_right _ (List.mem_flatten.2 ⟨S', List.mem_of_getElem? g3, hb⟩))) (h2.own (i - css.length) c S' z (by simp) g2 g3 g4)
end
def nI {α : Type} (T : TypeId) (R : Rp α) (v : Value) (S : List Nat) (xs : List α) (ho : Option (Nat × List Value)) : Item where
 S := S
 Φ w := ∃ css Ss, NRow w T R v S xs ho css Ss
 loc w w' hb h := by obtain ⟨css, Ss, h⟩ := h; exact ⟨css, Ss, h.loc hb⟩
 lt w h := by obtain ⟨css, Ss, h⟩ := h; exact h.lt
theorem RdN.far {α : Type} {R : Rp α} {w w' : World} {F F' : List Nat} {v : Value} {xs : List α} (hp : 0 < R.sz) (h : RdN w F v R.rd R.sz xs) (h1 : ∀ b, b < w.heap.size -> b ∉ F -> w'.heap[b]? = w.heap[b]?) (h2 : ∀ b ∈ F', b ∈ F \/ w.heap.size <= b) : RdN w' F' v R.rd R.sz xs := by
 obtain ⟨hn, a, c, hv, hlc, hc⟩ := h
 refine ⟨hn, a, c, hv, hlc, fun t x hx => ?_⟩
 obtain ⟨cs, hDx, b, o, ha, hb, hcell⟩ := hc t x hx
 have hl := R.rlen _ _ _ _ hDx
 have hlt : b < w.heap.size := cell_lt (hcell 0 cs[0] (List.getElem?_eq_getElem (by omega)))
 refine ⟨cs, R.rloc _ _ _ _ _ _ h1 h2 hDx, b, o, ha, fun hf => ?_, fun f u hu => (World.cell?_of_block (h1 b hlt hb)).trans (hcell f u hu)⟩
 rcases h2 b hf with h3 | h3
 ·exact hb h3
 ·omega
theorem NRow.see {α : Type} {w : World} {T : TypeId} {R : Rp α} {v : Value} {S : List Nat} {xs : List α} {css : List (List Value)} {Ss : List (List Nat)} (h : NRow w T R v S xs none css Ss) {F : List Nat} (hF : ∀ b ∈ S, b ∉ F) : RdN w F v R.rd R.sz xs := by
 have hS := h.hS
 have hrd : Rd w F v (fit R.sz) R.sz css := by
  have hrow := h.row
  rw [<- h.lc] at hrow
  exact rd_of_row (fun x => fit_len _ x) hrow (fun b hb => hF b (by rw [hS]; exact List.mem_append_left _ hb))
 obtain ⟨hn, a, c, hv, hlc, hc⟩ := hrd
 refine ⟨by rw [<- h.lc]; exact hn, a, c, by rw [hv, h.lc], by rw [<- h.lc]; exact hlc, fun t x hx => ?_⟩
 have hl := (List.getElem?_eq_some_iff.1 hx).1
 have a1 : t < css.length := by rw [h.lc]; exact hl
 have a2 : t < Ss.length := by rw [h.ls]; exact hl
 have hown := h.own t css[t] Ss[t] x (by simp) (List.getElem?_eq_getElem a1) (List.getElem?_eq_getElem a2) hx
 have hlen := R.len _ _ _ _ hown
 refine ⟨css[t], R.see _ _ _ _ F hown (fun b hb => hF b (by rw [hS]; exact List.mem_append_right _ (List.mem_flatten.2 ⟨Ss[t], List.getElem_mem a2, hb⟩))), ?_⟩
 rcases h.row.2 with ⟨h0, _⟩ | ⟨g, o, cap, cur, rfl, hp, hg, hnc, hm, hcs, htake⟩
 ·omega
 ·simp only [Value.slice.injEq] at hv
  obtain ⟨rfl, _, _⟩ := hv
  refine ⟨g, o, rfl, hF g (by rw [hS]; exact List.mem_append_left _ (by simp [ownB_pos hp])), fun f u hu => ?_⟩
  obtain ⟨b', o', hb', _, hcell⟩ := hc t css[t] f u (List.getElem?_eq_getElem a1) (by rw [fit_eq hlen]; exact hu)
  simp only [Option.some.injEq, Addr.mk.injEq, and_true] at hb'
  obtain ⟨rfl, rfl⟩ := hb'
  exact hcell
theorem RdN.nil {α : Type} (w : World) (S : List Nat) (D : World -> List Nat -> α -> List Value -> Prop) (sz c : Nat) : RdN w S (.slice none 0 c) D sz ([] : List α) := ⟨by simp, none, c, rfl, Nat.zero_le _, fun t x hx => by simp at hx⟩
def shd (a : Option Addr) (c lo sz : Nat) : Option Addr := if c = lo then a else a.map (·.add (lo * sz))
theorem cut_get {α : Type} {xs ys : List α} {lo hi : Int} (h : cut xs lo hi = some ys) {t : Nat} {x : α} (hx : ys[t]? = some x) : xs[lo.toNat + t]? = some x := by
 obtain ⟨h0, h1, h2, rfl⟩ := cut_some h
 rw [List.getElem?_drop, List.getElem?_take] at hx
 split at hx
 ·exact hx
 ·cases hx
theorem Rd.part {α : Type} {w : World} {S : List Nat} {a : Option Addr} {n c : Nat} {enc : α -> List Value} {sz : Nat} {xs ys : List α} {lo hi : Int} (h : Rd w S (.slice a n c) enc sz xs) (hc : cut xs lo hi = some ys) :
  Rd w S (.slice (shd a c lo.toNat sz) ys.length (c - lo.toNat)) enc sz ys := by
 obtain ⟨hn, a', c', hv, hlc, hcell⟩ := h
 simp only [Value.slice.injEq] at hv
 obtain ⟨rfl, rfl, rfl⟩ := hv
 obtain ⟨h0, h1, h2, _⟩ := cut_some hc
 have hl := cut_len hc
 refine ⟨by omega, _, _, rfl, by omega, fun t x f u hx hu => ?_⟩
 obtain ⟨b, o, rfl, hb, hcl⟩ := hcell _ x f u (cut_get hc hx) hu
 have hlt := (List.getElem?_eq_some_iff.1 hx).1
 refine ⟨b, o + lo.toNat * sz, ?_, hb, ?_⟩
 ·unfold shd
  rw [if_neg (by omega), Option.map_some, add_none]
 ·rw [Nat.add_mul, <- Nat.add_assoc] at hcl
  exact hcl
theorem Rd.pre {α : Type} {w : World} {S : List Nat} {a : Option Addr} {n c : Nat} {enc : α -> List Value} {sz : Nat} {xs ys : List α} {hi : Int} (h : Rd w S (.slice a n c) enc sz xs) (hc : cut xs 0 hi = some ys) : Rd w S (.slice a ys.length c) enc sz ys := by
 have h2 := h.part hc
 have e : shd a c (Int.toNat 0) sz = a := by
  unfold shd
  split
  ·rfl
  ·cases a with
   | none => rfl
   | some z => simp [Addr.add]
 rw [e] at h2
 exact h2
section
variable {P : Program} {N : Nat} {fr : List (Nat × Value)}
theorem suf_run {α : Type} {o : Oper} {t e : TypeId} {x y : Operand} {a : Option Addr} {n c : Nat} {q : Int} {kd : IntKind} {xs ys : List α} (sz : Nat) (ho : o.op = .slice t x (some y) none none) (hx : look fr x = some (.slice a n c)) (hn : n = xs.length) (hy : look fr y = some (.int kd q))
  (hc : cut xs q (xs.length : Int) = some ys) (ht : P.underlying t = some (.slice e)) (hs : psem P (sizeOf e) = some sz) : ∀ b w, Rep N fr b -> (execOp b.eval o).run P w = .ok (.value (.slice (shd a c q.toNat sz) ys.length (c - q.toNat))) w := by
 intro b w hb
 have e1 := hb.look hx
 have e2 := hb.look hy
 obtain ⟨h0, h1, h2, _⟩ := cut_some hc
 have hl := cut_len hc
 subst hn
 have h3 : 0 <= q /\ q <= (xs.length : Int) := ⟨h0, h1⟩
 have e3 : xs.length - q.toNat = ys.length := by omega
 simp [execOp, ho, Instr.sliceAt, Instr.slice, Instr.sliceBounds, Instr.sliceBound, run_underlying ht, e1, e2, asIntOf, h3, psem_run hs, e3, shd]
theorem sub_run {α : Type} {o : Oper} {t e : TypeId} {x y z : Operand} {a : Option Addr} {n c : Nat} {q r : Int} {kd ke : IntKind} {xs ys : List α} (sz : Nat) (ho : o.op = .slice t x (some y) (some z) none) (hx : look fr x = some (.slice a n c)) (hy : look fr y = some (.int kd q)) (hz : look fr z = some (.int ke r))
  (hc : cut xs q r = some ys) (hcap : xs.length <= c) (ht : P.underlying t = some (.slice e)) (hs : psem P (sizeOf e) = some sz) : ∀ b w, Rep N fr b -> (execOp b.eval o).run P w = .ok (.value (.slice (shd a c q.toNat sz) ys.length (c - q.toNat))) w := by
 intro b w hb
 have e1 := hb.look hx
 have e2 := hb.look hy
 have e4 := hb.look hz
 obtain ⟨h0, h1, h2, _⟩ := cut_some hc
 have hl := cut_len hc
 have h3 : 0 <= r /\ r <= (c : Int) := ⟨by omega, by omega⟩
 have h5 : 0 <= q /\ q <= r := ⟨h0, h1⟩
 have h6 : (r.toNat : Int) = r := by omega
 have e3 : r.toNat - q.toNat = ys.length := by omega
 simp [execOp, ho, Instr.sliceAt, Instr.slice, Instr.sliceBounds, Instr.sliceBound, run_underlying ht, e1, e2, e4, asIntOf, h3, h5, h6, psem_run hs, e3, shd]
end
theorem Rd.cap {α : Type} {w : World} {S : List Nat} {a : Option Addr} {n c : Nat} {enc : α -> List Value} {sz : Nat} {xs : List α} (h : Rd w S (.slice a n c) enc sz xs) : xs.length <= c := by
 obtain ⟨_, a', c', hv, hlc, _⟩ := h
 simp only [Value.slice.injEq] at hv
 obtain ⟨_, _, rfl⟩ := hv
 exact hlc
def rowNP {α : Type} (T : TypeId) (R : Rp α) (hp : 0 < R.sz) : Rp (List α) where
 sz := 1
 own w cs S xs := ∃ v, cs = [v] /\ ∃ css Ss, NRow w T R v S xs none css Ss
 rd w F xs cs := ∃ v, cs = [v] /\ RdN w F v R.rd R.sz xs
 len := by rintro w cs S x ⟨v, rfl, _⟩; rfl
 loc := by rintro w w' cs S x h ⟨v, rfl, css, Ss, hr⟩; exact ⟨v, rfl, css, Ss, hr.loc h⟩
 lt := by rintro w cs S x ⟨v, rfl, css, Ss, hr⟩; exact hr.lt
 nd := by rintro w cs S x ⟨v, rfl, css, Ss, hr⟩; exact hr.nd
 see := by rintro w cs S x F ⟨v, rfl, css, Ss, hr⟩ hF; exact ⟨v, rfl, hr.see hF⟩
 rlen := by rintro w F x cs ⟨v, rfl, _⟩; rfl
 rloc := by rintro w w' F F' x cs h1 h2 ⟨v, rfl, h⟩; exact ⟨v, rfl, h.far hp h1 h2⟩
def ptrP {α : Type} (T : TypeId) (R : Rp α) : Rp α where
 sz := 1
 own w cs S x := ∃ b cs' S', cs = [.pointer (some ⟨b, 0, none⟩)] /\ S = b :: S' /\ b ∉ S' /\ w.heap[b]? = some (.cells cs'.toArray T (0, 0)) /\ R.own w cs' S' x
 rd w F x cs := ∃ b cs', cs = [.pointer (some ⟨b, 0, none⟩)] /\ b ∉ F /\ w.heap[b]? = some (.cells cs'.toArray T (0, 0)) /\ R.rd w F x cs'
 len := by rintro w cs S x ⟨b, cs', S', rfl, _⟩; rfl
 loc := by
  rintro w w' cs S x h ⟨b, cs', S', rfl, rfl, hb, hh, hr⟩
  exact ⟨b, cs', S', rfl, rfl, hb, by rw [h b List.mem_cons_self]; exact hh, R.loc w w' _ _ _ (fun c hc => h c (List.mem_cons_of_mem _ hc)) hr⟩
 lt := by
  rintro w cs S x ⟨b, cs', S', rfl, rfl, hb, hh, hr⟩ c hc
  rcases List.mem_cons.1 hc with rfl | hc
  ·exact (Array.getElem?_eq_some_iff.1 hh).1
  ·exact R.lt _ _ _ _ hr c hc
 nd := by
  rintro w cs S x ⟨b, cs', S', rfl, rfl, hb, hh, hr⟩
  exact List.nodup_cons.2 ⟨hb, R.nd _ _ _ _ hr⟩
 see := by
  rintro w cs S x F ⟨b, cs', S', rfl, rfl, hb, hh, hr⟩ hF
  exact ⟨b, cs', rfl, hF b List.mem_cons_self, hh, R.see _ _ _ _ F hr (fun c hc => hF c (List.mem_cons_of_mem _ hc))⟩
 rlen := by rintro w F x cs ⟨b, cs', rfl, _⟩; rfl
 rloc := by
  rintro w w' F F' x cs h1 h2 ⟨b, cs', rfl, hb, hh, hr⟩
  have hlt := (Array.getElem?_eq_some_iff.1 hh).1
  refine ⟨b, cs', rfl, fun hf => ?_, by rw [h1 b hlt hb]; exact hh, R.rloc w w' F F' x cs' h1 h2 hr⟩
  rcases h2 b hf with h3 | h3
  ·exact hb h3
  ·omega
def structP {α β : Type} (f : α -> List Value -> List Value) (sz : Nat) (hl : ∀ x vs, (f x vs).length = sz) (g : α -> β) (R : Rp β) : Rp α where
 sz := sz
 own w cs S x := ∃ vs, cs = f x vs /\ R.own w vs S (g x)
 rd w F x cs := ∃ vs, cs = f x vs /\ R.rd w F (g x) vs
 len := by rintro w cs S x ⟨vs, rfl, _⟩; exact hl x vs
 loc := by rintro w w' cs S x hb ⟨vs, rfl, h⟩; exact ⟨vs, rfl, R.loc w w' _ _ _ hb h⟩
 lt := by rintro w cs S x ⟨vs, rfl, h⟩; exact R.lt _ _ _ _ h
 nd := by rintro w cs S x ⟨vs, rfl, h⟩; exact R.nd _ _ _ _ h
 see := by rintro w cs S x F ⟨vs, rfl, h⟩ hF; exact ⟨vs, rfl, R.see _ _ _ _ F h hF⟩
 rlen := by rintro w F x cs ⟨vs, rfl, _⟩; exact hl x vs
 rloc := by rintro w w' F F' x cs h1 h2 ⟨vs, rfl, h⟩; exact ⟨vs, rfl, R.rloc w w' F F' _ _ h1 h2 h⟩
theorem Rd.isnil {α : Type} {w : World} {S : List Nat} {a : Option Addr} {n c : Nat} {enc : α -> List Value} {sz : Nat} {xs : List α} (h : Rd w S (.slice a n c) enc sz xs) (he : ∀ x, ∃ u, (enc x)[0]? = some u) (ha : a.isNone = true) : xs = [] := by
 cases xs with
 | nil => rfl
 | cons x r =>
  obtain ⟨_, a', c', hv, _, hc⟩ := h
  obtain ⟨u, hu⟩ := he x
  obtain ⟨b, o, e, _⟩ := hc 0 x 0 u rfl hu
  cases hv
  rw [e] at ha
  cases ha
theorem ones_row {α : Type} {T : TypeId} {enc : α -> List Value} {sz : Nat} {he : ∀ x, (enc x).length = sz} {hp : 0 < sz} {w : World} {cs : List Value} {S : List Nat} {x : List α} (h : (rowP T enc sz he hp).own w cs S x) : ones cs = true := by
 obtain ⟨v, rfl, rfl, hr⟩ := h
 rcases hr.2 with ⟨_, a, rfl⟩ | ⟨g, o, cap, cur, rfl, _⟩ <;> rfl
section
variable {w0 w : World} {S0 : List Nat} {L : List Item} {α : Type} {R : Rp α}
theorem St.toIt {T : TypeId} {v : Value} {enc : α -> List Value} {sz : Nat} {ys : List α} (h : St w0 S0 w L) (j : Nat) (hj : L[j]? = some (rowI v T enc sz ys)) (he : ∀ x, (enc x).length = sz) (hp : 0 < sz) :
  St w0 S0 w (L.set j (itI (rowP T enc sz he hp) [v] (ownB v).toList ys)) := h.turn j hj ⟨v, rfl, rfl, h.all j _ hj⟩ rfl
theorem St.toRow {cs : List Value} {S : List Nat} {T : TypeId} {enc : α -> List Value} {sz : Nat} {ys : List α} {he : ∀ x, (enc x).length = sz} {hp : 0 < sz} (h : St w0 S0 w L) (j : Nat) (hj : L[j]? = some (itI (rowP T enc sz he hp) cs S ys)) :
  ∃ v, cs = [v] /\ St w0 S0 w (L.set j (rowI v T enc sz ys)) := by
 obtain ⟨v, rfl, rfl, hr⟩ := h.all j _ hj
 exact ⟨v, rfl, h.turn j hj hr rfl⟩
theorem St.see {cs : List Value} {S : List Nat} {x : α} (h : St w0 S0 w L) (j : Nat) (hj : L[j]? = some (itI R cs S x)) (ids : List Nat) (hn : mem? j ids = false) : R.rd w (fp (sel L ids)) x cs :=
 R.see _ _ _ _ _ (h.all j _ hj) (h.noin j hj ids hn)
theorem St.seeN {v : Value} {S : List Nat} {T : TypeId} {xs : List α} (h : St w0 S0 w L) (j : Nat) (hj : L[j]? = some (nI T R v S xs none)) (ids : List Nat) (hn : mem? j ids = false) : RdN w (fp (sel L ids)) v R.rd R.sz xs := by
 obtain ⟨css, Ss, hr⟩ := h.all j _ hj
 exact hr.see (h.noin j hj ids hn)
theorem RdN.give {v : Value} {xs : List α} (hp : 0 < R.sz) (h : RdN w0 S0 v R.rd R.sz xs) (hst : St w0 S0 w L) (ids : List Nat) : RdN w (fp (sel L ids)) v R.rd R.sz xs := by
 refine h.far hp (fun b h1 h2 => hst.chg.block b h1 h2) (fun b hf => ?_)
 obtain ⟨j, it, hj, hbs⟩ := mem_fp.1 hf
 obtain ⟨k, _, hk⟩ := sel_get hj
 rcases getD_cases hk with hk | rfl
 ·exact hst.own k it hk b hbs
 ·cases hbs
end
section
variable {w0 w : World} {S0 : List Nat} {L : List Item} {α : Type} {T : TypeId} {R : Rp α} {v : Value} {S : List Nat} {xs : List α} {ho : Option (Nat × List Value)}
theorem St.nlen (h : St w0 S0 w L) (j : Nat) (hj : L[j]? = some (nI T R v S xs ho)) : xs.length <= 9223372036854775807 /\ ∃ a c, v = .slice a xs.length c := by
 obtain ⟨css, Ss, hr⟩ := h.all j _ hj
 rcases hr.row.2 with ⟨hn, a, rfl⟩ | ⟨g, o, cap, cur, rfl, _, hg, hnc, hm, _, htake⟩
 ·exact ⟨by omega, a, 0, by rw [hn]⟩
 ·refine ⟨?_, _, _, rfl⟩
  simp only [maxLen] at hm
  omega
theorem St.nrowv (h : St w0 S0 w L) (j : Nat) (hj : L[j]? = some (nI T R v S xs ho)) {t : Int} {x : α} (hx : idx xs t = some x) : ∃ g o cap, v = .slice (some ⟨g, o, none⟩) xs.length cap := by
 obtain ⟨css, Ss, hr⟩ := h.all j _ hj
 obtain ⟨h0, h1, h2⟩ := idx_some hx
 rcases hr.row.2 with ⟨hn, a, rfl⟩ | ⟨g, o, cap, cur, rfl, _⟩
 ·omega
 ·exact ⟨g, o, cap, rfl⟩
theorem NRow.cells {css : List (List Value)} {Ss : List (List Nat)} (hr : NRow w T R v S xs ho css Ss) {t : Nat} {cs : List Value} (hc : css[t]? = some cs) (hl : cs.length = R.sz) {g o n cap : Nat} (hv : v = .slice (some ⟨g, o, none⟩) n cap) : ∀ f u, cs[f]? = some u -> w.cell? ⟨g, o + t * R.sz + f, none⟩ = some u := by
 intro f u hu
 have ht := (List.getElem?_eq_some_iff.1 hc).1
 have hlc := hr.lc
 rcases hr.row.2 with ⟨hn, _⟩ | ⟨g', o', cap', cur, rfl, _, hg, _, _, _, htake⟩
 ·omega
 ·simp only [Value.slice.injEq, Option.some.injEq, Addr.mk.injEq, and_true] at hv
  obtain ⟨⟨rfl, rfl⟩, _, _⟩ := hv
  have := flat_get (fun x => fit_len R.sz x) hc (u := u) (f := f) (by rw [fit_eq hl]; exact hu)
  rw [<- htake, List.getElem?_take] at this
  split at this
  ·rw [cell_of_row w g' _ cur T (0, 0) hg, Nat.add_assoc]
   rw [List.getElem?_drop] at this
   simpa using this
  ·cases this
theorem St.nout (h : St w0 S0 w L) (j : Nat) (hj : L[j]? = some (nI T R v S xs none)) {t : Int} {x : α} (hx : idx xs t = some x) {g o n cap : Nat} (hv : v = .slice (some ⟨g, o, none⟩) n cap) :
  ∃ cs S1 S2, cs.length = R.sz /\ (∀ f u, cs[f]? = some u -> w.cell? ⟨g, o + t.toNat * R.sz + f, none⟩ = some u) /\ St w0 S0 w (L.set j (nI T R v S1 xs (some (t.toNat, cs))) ++ [itI R cs S2 x]) := by
 obtain ⟨css, Ss, hr⟩ := h.all j _ hj
 obtain ⟨cs, S1, S2, hc, hl, hown, hr2, h1, h2, h3⟩ := hr.take (idx_some hx).2.2
 exact ⟨cs, S1, S2, hl, hr.cells hc hl hv, h.swap j hj ⟨css, _, hr2⟩ hr2.nd h2 hown (R.nd _ _ _ _ hown) h1 h3⟩
theorem St.nhole (h : St w0 S0 w L) (j : Nat) {t : Int} {cs : List Value} (hj : L[j]? = some (nI T R v S xs (some (t.toNat, cs)))) {g o n cap : Nat} (hv : v = .slice (some ⟨g, o, none⟩) n cap) : ∀ f u, cs[f]? = some u -> w.cell? ⟨g, o + t.toNat * R.sz + f, none⟩ = some u := by
 obtain ⟨css, Ss, hr⟩ := h.all j _ hj
 obtain ⟨h1, h2, _⟩ := hr.out _ _ rfl
 exact hr.cells h2 h1 hv
theorem St.nback (h : St w0 S0 w L) (k j : Nat) (hkj : Nat.beq k j = false) {t : Int} {cs : List Value} {S2 : List Nat} {x y : α} (hk : L[k]? = some (nI T R v S xs (some (t.toNat, cs)))) (hj : L[j]? = some (itI R cs S2 y)) (hx : idx xs t = some x) :
  ∃ S', St w0 S0 w ((L.set k (nI T R v S' (xs.set t.toNat y) none)).set j nilI) := by
 obtain ⟨css, Ss, hr⟩ := h.all k _ hk
 obtain ⟨_, h2, h3⟩ := hr.out _ _ rfl
 have hset : css.set t.toNat cs = css := by
  apply List.ext_getElem?
  intro i
  by_cases e : t.toNat = i
  ·subst e; rw [List.getElem?_set_self (List.getElem?_eq_some_iff.1 h2).1, h2]
  ·rw [List.getElem?_set_ne e]
 have hd : ∀ b ∈ S, b ∉ S2 := h.apart k j _ _ (Nat.ne_of_beq_eq_false hkj) hk hj
 have hown : R.own w cs S2 y := h.all j _ hj
 have := hr.give (w' := w) (x := y) (fun i c e => by simp only [Option.some.injEq, Prod.mk.injEq] at e; exact e.1.symm) (idx_some hx).2.2 hown hd (fun _ _ => rfl) (by rw [hset]; exact hr.row)
 refine ⟨_, h.fuse k j hkj hk hj ⟨_, _, this⟩ this.nd (fun b hb => ?_)⟩
 rcases List.mem_append.1 hb with hb | hb
 ·exact .inl (by show b ∈ S; rw [hr.hS]; exact List.mem_append_left _ hb)
 ·rcases mem_flatten_set hb with hb | hb
  ·exact .inr hb
  ·exact .inl (by show b ∈ S; rw [hr.hS]; exact List.mem_append_right _ hb)
theorem St.nback0 (h : St w0 S0 w L) (k j : Nat) (hkj : Nat.beq k j = false) {t : Int} {cs : List Value} {S2 : List Nat} {x : α} (hk : L[k]? = some (nI T R v S xs (some (t.toNat, cs)))) (hj : L[j]? = some (itI R cs S2 x)) (hx : idx xs t = some x) :
  ∃ S', St w0 S0 w ((L.set k (nI T R v S' xs none)).set j nilI) := by
 have := h.nback k j hkj hk hj hx
 rwa [set_self hx] at this
theorem St.nNil (h : St w0 S0 w L) (T : TypeId) (R : Rp α) (a : Option Addr) : St w0 S0 w (L ++ [nI T R (.slice a 0 0) [] [] none]) :=
 h.push (Chg.refl _ _) ⟨[], [], ⟨by simpa [flat] using Owns.nil w T R.sz a, rfl, rfl, by simp [ownB_zero], List.nodup_nil, (fun _ _ e => by cases e), fun i cs S x _ hc => by simp at hc⟩⟩ (fun b hb => by simp [nI] at hb) List.nodup_nil
theorem St.nNew {sz : Nat} (h : St w0 S0 w L) (j : Nat) (R : Rp α) (hs : sz = R.sz) {cs : List Value} {n : Nat} (hj : L[j]? = some (rowI v T (fit sz) sz (List.replicate n cs))) (x : α) (hx : ∀ w, R.own w cs [] x) : St w0 S0 w (L.set j (nI T R v (ownB v).toList (List.replicate n x) none)) := by
 subst hs
 have e : (List.replicate n ([] : List Nat)).flatten = [] := by
  clear hj
  induction n with
  | zero => rfl
  | succ n ih => simp [List.replicate_succ, ih]
 have hrow := h.all j _ hj
 refine h.turn j hj ⟨List.replicate n cs, List.replicate n [], ⟨by simpa [rowI] using hrow, by simp, by simp, by rw [e, List.append_nil], ownB_nodup, (fun _ _ e => by cases e), fun i c S' z _ hc hS hz => ?_⟩⟩ rfl
 obtain ⟨_, rfl⟩ := rep_get hc
 obtain ⟨_, rfl⟩ := rep_get hS
 obtain ⟨_, rfl⟩ := rep_get hz
 exact hx w
end
theorem Owns.write {α : Type} {w : World} {T : TypeId} {sz : Nat} {enc : α -> List Value} {v : Value} {xs : List α} (hr : Owns w T sz v xs.length (flat enc xs)) (he : ∀ x, (enc x).length = sz) {g o n cap : Nat} (hv : v = .slice (some ⟨g, o, none⟩) n cap) {q : Nat} {z z' : α} (hz : xs[q]? = some z) {f k : Nat} {vs : List Value} (hk : k = o + q * sz + f)
  (hf : f + vs.length <= sz) (hz' : splice (enc z) vs f = enc z') : ∃ cur, w.heap[g]? = some (.cells cur T (0, 0)) /\ k + vs.length <= cur.size /\ ownB v = some g /\ Owns (w.setRow g (splice cur.toList vs k).toArray) T sz v xs.length (flat enc (xs.set q z')) := by
 subst hv
 have hql := (List.getElem?_eq_some_iff.1 hz).1
 rcases hr.2 with ⟨hn, _⟩ | ⟨g', o', cap', cur, hc, hp, hgc, hnc, hm, hcs, htake⟩
 ·omega
 ·simp only [Value.slice.injEq, Option.some.injEq, Addr.mk.injEq, and_true] at hc
  obtain ⟨⟨rfl, rfl⟩, rfl, rfl⟩ := hc
  have hsz : q * sz + sz <= xs.length * sz := by rw [<- Nat.succ_mul]; exact Nat.mul_le_mul_right _ hql
  have hcap : xs.length * sz <= cap * sz := Nat.mul_le_mul_right _ hnc
  have hfit : k + vs.length <= cur.size := by rw [hk]; omega
  have hlen : (splice cur.toList vs k).length = cur.size := by simp [splice] at hfit |-; omega
  refine ⟨cur, hgc, hfit, ownB_pos hp, ⟨by rw [flat_length he, List.length_set], .inr ⟨g, o, cap, _, by simp, hp, setRow_heap w g cur _ T _ hgc, by simpa using hnc, hm, by rw [List.size_toArray, hlen]; exact hcs, ?_⟩⟩⟩
  have hset := flat_set he (f := f) (vs := vs) hz hf hz'
  rw [<- hset, <- htake]
  rw [splice_window (by omega) (by omega) (by have := @Array.length_toList _ cur; omega)]
  congr 1
  omega
section
variable {P : Program} {N : Nat} {Q : Exit -> Act -> World -> Prop} {fr fr' : List (Nat × Value)} {w w0 : World} {l : List Oper} {i : Nat} {o : Oper} {S0 : List Nat} {L : List Item} {α : Type} {R : Rp α}
theorem OW.stN {t : TypeId} {x y : Operand} {ty : TypeId} {pos : String} {af : Array Edge} {gdd : Option (Nat × Bool)} (hst : St w0 S0 w L) (k j : Nat) (hkj : Nat.beq k j = false) {hd : Value} {g o cap n : Nat} {T : TypeId} {S S2 : List Nat} {xs : List α} {ho : Option (Nat × List Value)} {cs : List Value} {z u : α} {q : Int}
  (hk : L[k]? = some (nI T R hd S xs ho)) (hho : ∀ i c, ho = some (i, c) -> i = q.toNat) (hj : L[j]? = some (itI R cs S2 u)) (hv : hd = .slice (some ⟨g, o, none⟩) n cap)
  (hl : opAt l i = some ⟨none, .store t x y, ty, pos, af, gdd⟩) (hg : gd l fr ⟨none, .store t x y, ty, pos, af, gdd⟩ = some true)
  (hz : Sx.idx xs q = some z) {v : Value} {a : Nat} (hx : look fr x = some (.pointer (some ⟨g, a, none⟩))) (ha : a = o + q.toNat * R.sz) (hy : look fr y = some v) (hc : v.cells.toList = cs)
  (hs : psem P (sizeOf t) = some v.cells.toList.length) (h1 : ones v.cells.toList = true)
  (h : ∀ S' w', St w0 S0 w' ((L.set k (nI T R hd S' (xs.set q.toNat u) none)).set j nilI) -> OW P l N Q (i + 1) fr w') : OW P l N Q i fr w := by
 obtain ⟨css, Ss, hr⟩ := hst.all k _ hk
 have hown : R.own w cs S2 u := hst.all j _ hj
 have hlen := R.len _ _ _ _ hown
 obtain ⟨h0, hq, hq2⟩ := idx_some hz
 have hdis : ∀ b ∈ S, b ∉ S2 := hst.apart k j _ _ (Nat.ne_of_beq_eq_false hkj) hk hj
 have a1 : q.toNat < css.length := by rw [hr.lc]; omega
 have hrow : Owns w T R.sz hd css.length (flat (fit R.sz) css) := by rw [hr.lc]; exact hr.row
 obtain ⟨cur, hgc, hfit, hob, hnew⟩ := Owns.write hrow (fun x => fit_len _ x) hv (q := q.toNat) (z := css[q.toNat]) (z' := cs) (List.getElem?_eq_getElem a1) (f := 0) (k := a) (vs := cs) (by omega) (by omega) (fit_splice hlen)
 subst hc
 refine OW.ops hl hg rfl (w' := w.setRow g (splice cur.toList v.cells.toList a).toArray) (fun b hb => ?_) (h ((ownB hd).toList ++ (Ss.set q.toNat S2).flatten) _ ?_)
 ·have e1 := hb.look hx
  have e2 := hb.look hy
  have := run_storeN (P := P) (w := w) (T := T) (g := g) hs h1 hgc hfit
  simp [execOp, e1, e2, this]
 ·have hchg : Chg [g] w (w.setRow g (splice cur.toList v.cells.toList a).toArray) := ⟨rfl, rfl, rfl, by simp [World.setRow], fun q _ hn => setRow_other w g q _ (by rintro rfl; exact hn (by simp))⟩
  have hgS : g ∈ S := by rw [hr.hS]; exact List.mem_append_left _ (by simp [hob])
  have hn := hr.nd
  rw [hr.hS] at hn
  have hn3 := (List.nodup_append.1 hn).2.2
  have hlt := hr.lt
  have hown' : R.own (w.setRow g (splice cur.toList v.cells.toList a).toArray) v.cells.toList S2 u := R.loc _ _ _ _ _ (fun b hb => hchg.block b (R.lt _ _ _ _ hown b hb) (by simp only [List.mem_singleton]; rintro rfl; exact hdis _ hgS hb)) hown
  have hgive := hr.give (w' := w.setRow g (splice cur.toList v.cells.toList a).toArray) (x := u) hho hq2 hown' hdis (fun b hb => hchg.block b (hlt b (by rw [hr.hS]; exact List.mem_append_right _ hb)) (by simp only [List.mem_singleton]; rintro rfl; exact hn3 b (by simp [hob]) b hb rfl)) (by rw [<- hr.lc]; exact hnew)
  have hold : Item := nilI
  have hsub : ∀ b ∈ (ownB hd).toList ++ (Ss.set q.toNat S2).flatten, b ∈ S \/ b ∈ S2 := fun b hb => by
   rcases List.mem_append.1 hb with hb | hb
   ·exact .inl (by rw [hr.hS]; exact List.mem_append_left _ hb)
   ·rcases mem_flatten_set hb with hb | hb
    ·exact .inr hb
    ·exact .inl (by rw [hr.hS]; exact List.mem_append_right _ hb)
  let A : Item := ⟨(ownB hd).toList ++ (Ss.set q.toNat S2).flatten, fun w1 => ∀ b ∈ (ownB hd).toList ++ (Ss.set q.toNat S2).flatten, b < w1.heap.size, fun w1 w2 hb hh b hb2 => by
   have h1 := hh b hb2
   have h2 := hb b hb2
   rw [Array.getElem?_eq_getElem h1] at h2
   exact (Array.getElem?_eq_some_iff.1 h2).1, fun w1 hh => hh⟩
  have hA : St w0 S0 w ((L.set k A).set j nilI) := hst.fuse k j hkj hk hj (C := A) (fun b hb => by
   rcases hsub b hb with hb | hb
   ·exact hlt b hb
   ·exact R.lt _ _ _ _ hown b hb) hgive.nd hsub
  have hlk : k < L.length := (List.getElem?_eq_some_iff.1 hk).1
  have hkA : ((L.set k A).set j nilI)[k]? = some A := by
   rw [List.getElem?_set_ne (fun e => Nat.ne_of_beq_eq_false hkj e.symm), List.getElem?_set_self hlk]
  have := hA.upd k hkA (it' := nI T R hd ((ownB hd).toList ++ (Ss.set q.toNat S2).flatten) (xs.set q.toNat u) none) (hchg.mono (fun b hb => by simp only [List.mem_singleton] at hb; subst hb; exact List.mem_append_left _ (by simp [hob]))) ⟨_, _, hgive⟩ (fun b hb => .inl hb) hgive.nd
  rw [List.set_comm _ _ (fun e => Nat.ne_of_beq_eq_false hkj e.symm), List.set_set] at this
  exact this
theorem OW.appN {d t e : Nat} {x y : Operand} {ty : TypeId} {pos : String} {af : Array Edge} {gdd : Option (Nat × Bool)} {ats : List Nat} (hst : St w0 S0 w L) (k j : Nat) (hkj : Nat.beq k j = false) {v v2 : Value} {S S2 : List Nat} {xs ys : List α} {bytes : Nat}
  (hk : L[k]? = some (nI e R v S xs none)) (hj : L[j]? = some (nI e R v2 S2 ys none))
  (hl : opAt l i = some ⟨some d, .call ⟨.builtin .append, [x, y].toArray, ats.toArray⟩, ty, pos, af, gdd⟩) (ha : ats = [t, t]) (hg : gd l fr ⟨some d, .call ⟨.builtin .append, [x, y].toArray, ats.toArray⟩, ty, pos, af, gdd⟩ = some true)
  (hN : Nat.blt d N = true) (hx : look fr x = some v) (hy : look fr y = some v2) (ht : P.underlying t = some (.slice e)) (hel : Elem P e R.sz bytes) (hb : (xs.length + ys.length) * bytes <= 140737488355328) (hone : ∀ w cs S x, R.own w cs S x -> ones cs = true)
  (h : ∀ v' S' w', St w0 S0 w' ((L.set k (nI e R v' S' (xs ++ ys) none)).set j nilI) -> OW P l N Q (i + 1) ((d, v') :: fr) w') : OW P l N Q i fr w := by
 subst ha
 obtain ⟨css, Ss, hr⟩ := hst.all k _ hk
 obtain ⟨css2, Ss2, hr2⟩ := hst.all j _ hj
 have hdis : ∀ b ∈ S, b ∉ S2 := hst.apart k j _ _ (Nat.ne_of_beq_eq_false hkj) hk hj
 obtain ⟨inf, z, hi, hz, hsz, hby, hzs⟩ := hel.info
 have exec : ∀ {v' : Value} {w' : World}, (Builtin.append_ #[t, t] ty #[v, v2]).run P w = .ok v' w' -> ∀ a, Rep N fr a ->
   (execOp a.eval ⟨some d, .call ⟨.builtin .append, [x, y].toArray, [t, t].toArray⟩, ty, pos, af, gdd⟩).run P w = .ok (.value v') w' := by
  intro v' w' hr a ha
  have e1 := ha.look hx
  have e2 := ha.look hy
  simp [execOp, resolve, invoke, builtin, e1, e2, hr]
 have hlk : k < L.length := (List.getElem?_eq_some_iff.1 hk).1
 have key : ∀ {v' : Value} {w' : World}, (Builtin.append_ #[t, t] ty #[v, v2]).run P w = .ok v' w' -> w.grownBy w' (ownB v) -> (ownB v' = ownB v \/ ownB v' = some w.heap.size) -> Owns w' e R.sz v' (xs.length + ys.length) (flat (fit R.sz) css ++ flat (fit R.sz) css2) -> OW P l N Q i fr w := by
  intro v' w' hrun hgr hat hown
  have hn := hr.nd
  rw [hr.hS] at hn
  have hn3 := (List.nodup_append.1 hn).2.2
  have hchg : Chg (ownB v).toList w w' := Chg.grown hgr (fun b hb => by simp [hb])
  have happ := hr.app (w' := w') hr2 hdis (fun b hb => hchg.block b (by
   rcases List.mem_append.1 hb with hb | hb
   ·exact hr.lt b (by rw [hr.hS]; exact List.mem_append_right _ hb)
   ·exact hr2.lt b (by rw [hr2.hS]; exact List.mem_append_right _ hb)) (fun hv => by
   rcases List.mem_append.1 hb with hb | hb
   ·exact hn3 b hv b hb rfl
   ·exact hdis b (by rw [hr.hS]; exact List.mem_append_left _ hv) (by rw [hr2.hS]; exact List.mem_append_right _ hb))) hat hown
  refine OW.op hl hg rfl hN (exec hrun) (h v' ((ownB v').toList ++ (Ss ++ Ss2).flatten) w' ?_)
  have hsub : ∀ b ∈ (ownB v).toList ++ (Ss ++ Ss2).flatten, b ∈ S \/ b ∈ S2 := fun b hb => by
   rw [List.flatten_append] at hb
   rcases List.mem_append.1 hb with hb | hb
   ·exact .inl (by rw [hr.hS]; exact List.mem_append_left _ hb)
   ·rcases List.mem_append.1 hb with hb | hb
    ·exact .inl (by rw [hr.hS]; exact List.mem_append_right _ hb)
    ·exact .inr (by rw [hr2.hS]; exact List.mem_append_right _ hb)
  have hnd : ((ownB v).toList ++ (Ss ++ Ss2).flatten).Nodup := by
   have hn2 := hr2.nd
   rw [hr2.hS] at hn2
   have m := List.nodup_append.1 hn2
   have n := List.nodup_append.1 hn
   rw [List.flatten_append]
   refine List.nodup_append.2 ⟨n.1, List.nodup_append.2 ⟨n.2.1, m.2.1, fun a ha b hb e => by subst e; exact hdis a (by rw [hr.hS]; exact List.mem_append_right _ ha) (by rw [hr2.hS]; exact List.mem_append_right _ hb)⟩, fun a ha b hb e => ?_⟩
   subst e
   rcases List.mem_append.1 hb with hb | hb
   ·exact hn3 a ha a hb rfl
   ·exact hdis a (by rw [hr.hS]; exact List.mem_append_left _ ha) (by rw [hr2.hS]; exact List.mem_append_right _ hb)
  let A : Item := ⟨(ownB v).toList ++ (Ss ++ Ss2).flatten, fun w1 => ∀ b ∈ (ownB v).toList ++ (Ss ++ Ss2).flatten, b < w1.heap.size, fun w1 w2 hb hh b hb2 => by
   have h1 := hh b hb2
   have h2 := hb b hb2
   rw [Array.getElem?_eq_getElem h1] at h2
   exact (Array.getElem?_eq_some_iff.1 h2).1, fun w1 hh => hh⟩
  have hA : St w0 S0 w ((L.set k A).set j nilI) := hst.fuse k j hkj hk hj (C := A) (fun b hb => by
   rcases hsub b hb with hb | hb
   ·exact hr.lt b hb
   ·exact hr2.lt b hb) hnd hsub
  have hkA : ((L.set k A).set j nilI)[k]? = some A := by
   rw [List.getElem?_set_ne (fun e => Nat.ne_of_beq_eq_false hkj e.symm), List.getElem?_set_self hlk]
  have := hA.upd k hkA (it' := nI e R v' ((ownB v').toList ++ (Ss ++ Ss2).flatten) (xs ++ ys) none) (hchg.mono (fun b hb => List.mem_append_left _ hb)) ⟨_, _, happ⟩ (fun b hb => by
   rcases List.mem_append.1 hb with hb | hb
   ·rcases hat with hat | hat
    ·exact .inl (List.mem_append_left _ (by rw [<- hat]; exact hb))
    ·rw [hat] at hb; simp at hb; exact .inr (by omega)
   ·exact .inl (List.mem_append_right _ hb)) happ.nd
  rw [List.set_comm _ _ (fun e => Nat.ne_of_beq_eq_false hkj e.symm), List.set_set] at this
  exact this
 have hlim := (hst.nlen k hk).1
 have hrow2 : Rd w [] v2 (fit R.sz) R.sz css2 := by
  have hrow := hr2.row
  rw [<- hr2.lc] at hrow
  exact rd_of_row (fun x => fit_len _ x) hrow (by simp)
 obtain ⟨hn2, a2, c2, hv2, _, hc2⟩ := hrow2
 have hlc2 := hr2.lc
 rcases Nat.eq_zero_or_pos ys.length with h0 | h0
 ·have hys : ys = [] := List.eq_nil_of_length_eq_zero h0
  have hcs : css2 = [] := List.eq_nil_of_length_eq_zero (by omega)
  refine key (v' := v) (w' := w) ?_ ⟨rfl, rfl, rfl, Nat.le_refl _, fun _ _ _ => rfl⟩ (.inl rfl) ?_
  ·rw [hv2, hcs]
   exact run_append_none ht hel.size hr.row a2 c2
  ·rw [hcs, hys]
   simpa [flat] using hr.row
 ·obtain ⟨c0, hc0⟩ : ∃ c0, css2[0]? = some c0 := ⟨css2[0]'(by omega), List.getElem?_eq_getElem (by omega)⟩
  obtain ⟨u0, hu0⟩ : ∃ u0, (fit R.sz c0)[0]? = some u0 := ⟨(fit R.sz c0)[0]'(by rw [fit_len]; exact hel.pos), List.getElem?_eq_getElem (by rw [fit_len]; exact hel.pos)⟩
  obtain ⟨b, q, rfl, _, _⟩ := hc2 0 c0 0 u0 hc0 hu0
  have hcell : ∀ q' u, (flat (fit R.sz) css2)[q']? = some u -> w.cell? ((⟨b, q, none⟩ : Addr).add q') = some u := by
   intro q' u hu
   rw [add_none]
   obtain ⟨t, f, x, hx, hf, hq⟩ := flat_split (fun x => fit_len R.sz x) hel.pos hu
   obtain ⟨b', k', hb', _, hcell⟩ := hc2 t x f u hx hf
   simp only [Option.some.injEq, Addr.mk.injEq, and_true] at hb'
   obtain ⟨rfl, rfl⟩ := hb'
   rw [hq, <- Nat.add_assoc]
   exact hcell
  have hones : ∀ u ∈ flat (fit R.sz) css2, u.oneCell' = true := by
   intro u hu
   obtain ⟨q', hq', rfl⟩ := List.mem_iff_getElem.1 hu
   obtain ⟨t, f, c, hx, hf, _⟩ := flat_split (fun x => fit_len R.sz x) hel.pos (List.getElem?_eq_getElem hq')
   have ht := (List.getElem?_eq_some_iff.1 hx).1
   have l1 : t < Ss2.length := by rw [hr2.ls]; omega
   have l2 : t < ys.length := by omega
   have hown := hr2.own t c Ss2[t] ys[t] (by simp) hx (List.getElem?_eq_getElem l1) (List.getElem?_eq_getElem l2)
   rw [fit_eq (R.len _ _ _ _ hown)] at hf
   exact ones_mem (hone _ _ _ _ hown) _ (List.mem_of_getElem? hf)
  obtain ⟨v', w', hrun, hown, hgr, hat⟩ := run_app (P := P) w t ty e inf z R.sz bytes ht hi hz hsz hby hzs v xs.length (flat (fit R.sz) css) hr.row ⟨b, q, none⟩ ys.length c2 h0 (flat (fit R.sz) css2) (by rw [flat_length (fun x => fit_len R.sz x), hlc2]) hcell hones
   (by have := Nat.le_mul_of_pos_right (xs.length + ys.length) hel.bpos; simp only [maxLen]; omega) hb
  refine key ?_ hgr hat hown
  rw [hv2, hlc2]
  exact hrun
end
end Go.Sx
set_option linter.unusedVariables false
set_option linter.unusedSimpArgs false
namespace Go.Sx
open Go.RowKit
def aset {α : Type} (a : Nat -> α) (t : Nat) (v : α) : Nat -> α := fun i => if i = t then v else a i
def arrC {α : Type} (enc : α -> List Value) : Nat -> (Nat -> α) -> List Value
 | 0, _ => []
 | n + 1, a => enc (a 0) ++ arrC enc n (fun i => a (i + 1))
def ain (n : Nat) (t : Int) : Option Nat := if 0 <= t /\ t < n then some t.toNat else none
theorem ain_some {n : Nat} {t : Int} {i : Nat} (h : ain n t = some i) : 0 <= t /\ t < n /\ i < n /\ t.toNat = i := by
 unfold ain at h
 split at h
 ·rename_i hc
  cases h
  exact ⟨hc.1, hc.2, by omega, rfl⟩
 ·cases h
theorem arrC_flat {α : Type} (enc : α -> List Value) : ∀ (n : Nat) (a : Nat -> α), arrC enc n a = flat enc ((List.range n).map a) := by
 intro n
 induction n with
 | zero => intro a; rfl
 | succ n ih =>
  intro a
  rw [List.range_succ_eq_map, List.map_cons, List.map_map]
  show enc (a 0) ++ arrC enc n (fun i => a (i + 1)) = enc (a 0) ++ flat enc _
  rw [ih]
  rfl
theorem arrC_len {α : Type} {enc : α -> List Value} {sz : Nat} (he : ∀ x, (enc x).length = sz) (n : Nat) (a : Nat -> α) : (arrC enc n a).length = n * sz := by
 rw [arrC_flat, flat_length he]; simp
theorem arr_at {α : Type} {enc : α -> List Value} {sz : Nat} (he : ∀ x, (enc x).length = sz) {n t f : Nat} (ht : t < n) (A C : List Value) (a : Nat -> α) {u : Value} (hu : (enc (a t))[f]? = some u) : (A ++ (arrC enc n a ++ C))[A.length + (t * sz + f)]? = some u := by
 have h1 : (flat enc ((List.range n).map a))[t * sz + f]? = some u := flat_get he (x := a t) (by simp [ht]) hu
 rw [List.getElem?_append_right (by omega), show A.length + (t * sz + f) - A.length = t * sz + f by omega, arrC_flat]
 rw [List.getElem?_append_left (List.getElem?_eq_some_iff.1 h1).1]
 exact h1
theorem map_aset {α : Type} {n t : Nat} (a : Nat -> α) (v : α) : ((List.range n).map a).set t v = (List.range n).map (aset a t v) := by
 apply List.ext_getElem?
 intro i
 rw [List.getElem?_set]
 by_cases h : t = i
 ·subst h
  by_cases hn : t < n
  ·simp [hn, aset]
  ·simp [hn]
 ·rw [if_neg h]
  by_cases hn : i < n
  ·simp [hn, aset, Ne.symm h]
  ·simp [hn]
theorem splice_mid {A B C vs : List Value} {k : Nat} (h : k + vs.length <= B.length) : splice (A ++ (B ++ C)) vs (A.length + k) = A ++ (splice B vs k ++ C) := by
 unfold splice
 rw [List.take_append, List.take_of_length_le (by omega), show A.length + k - A.length = k by omega, List.take_append_of_le_length (by omega)]
 rw [List.drop_append, List.drop_of_length_le (l := A) (by omega), show A.length + k + vs.length - A.length = k + vs.length by omega, List.drop_append_of_le_length (by omega)]
 simp [List.append_assoc]
theorem arr_put {α : Type} {enc : α -> List Value} {sz : Nat} (he : ∀ x, (enc x).length = sz) {n t f : Nat} (ht : t < n) (A C : List Value) (a : Nat -> α) {vs : List Value} {x' : α} (hf : f + vs.length <= sz) (hs : splice (enc (a t)) vs f = enc x') :
  splice (A ++ (arrC enc n a ++ C)) vs (A.length + (t * sz + f)) = A ++ (arrC enc n (aset a t x') ++ C) := by
 have hl := arrC_len he n a
 have hm : t * sz + sz <= n * sz := by rw [<- Nat.succ_mul]; exact Nat.mul_le_mul_right _ ht
 rw [splice_mid (by omega), arrC_flat, arrC_flat, flat_set he (x := a t) (by simp [ht]) hf hs, map_aset]
theorem cell_arr {α : Type} {w : World} {b o : Nat} {cs : List Value} (cf : ∀ f u, cs[f]? = some u -> w.cell? ⟨b, o + f, none⟩ = some u) (enc : α -> List Value) {sz : Nat} (he : ∀ x, (enc x).length = sz) (n : Nat) (a : Nat -> α) (k0 : Nat)
  (hcs : cs = cs.take k0 ++ (arrC enc n a ++ cs.drop (k0 + n * sz))) (hk : Nat.ble k0 cs.length = true) {q : Int} {t : Nat} (hi : ain n q = some t) :
  ∀ f u, (enc (a t))[f]? = some u -> w.cell? ⟨b, o + k0 + q.toNat * sz + f, none⟩ = some u := by
 intro f u hu
 obtain ⟨h0, h1, h2, rfl⟩ := ain_some hi
 have hl : (cs.take k0).length = k0 := by rw [List.length_take]; have := Nat.le_of_ble_eq_true hk; omega
 have := arr_at he h2 (cs.take k0) (cs.drop (k0 + n * sz)) a hu
 rw [<- hcs, hl] at this
 have := cf _ u this
 rw [show o + k0 + q.toNat * sz + f = o + (k0 + (q.toNat * sz + f)) by omega]
 exact this
section
variable {P : Program} {N : Nat} {Q : Exit -> Act -> World -> Prop} {fr fr' : List (Nat × Value)} {w w0 : World} {l : List Oper} {i : Nat} {o : Oper} {S0 : List Nat} {L : List Item}
theorem St.arrB {α : Type} (h : St w0 S0 w L) (j : Nat) {b : Nat} {T : TypeId} {cs : List Value} (hj : L[j]? = some (blkI b T cs)) (enc : α -> List Value) {sz : Nat} (he : ∀ x, (enc x).length = sz) (n : Nat) (a : Nat -> α) (k0 : Nat)
  (hcs : cs = cs.take k0 ++ (arrC enc n a ++ cs.drop (k0 + n * sz))) (hk : Nat.ble k0 cs.length = true) {q : Int} {t : Nat} (hi : ain n q = some t) :
  ∀ f u, (enc (a t))[f]? = some u -> w.cell? ⟨b, k0 + q.toNat * sz + f, none⟩ = some u := by
 intro f u hu
 have := cell_arr (w := w) (b := b) (o := 0) (cs := cs) (fun f u hf => by rw [Nat.zero_add]; exact h.blk j hj hf) enc he n a k0 hcs hk hi f u hu
 rwa [Nat.zero_add] at this
theorem arr_splice {α : Type} {cs cs' vs : List Value} (enc : α -> List Value) {sz : Nat} (he : ∀ x, (enc x).length = sz) (n : Nat) (a : Nat -> α) (k0 : Nat)
  (hcs : cs = cs.take k0 ++ (arrC enc n a ++ cs.drop (k0 + n * sz))) (hk : Nat.ble k0 cs.length = true) {q : Int} {t : Nat} (hi : ain n q = some t) {f : Nat} (hf : Nat.ble (f + vs.length) sz = true) {x' : α} (hs : splice (enc (a t)) vs f = enc x')
  (hcs' : cs' = cs.take k0 ++ (arrC enc n (aset a t x') ++ cs.drop (k0 + n * sz))) : splice cs vs (k0 + q.toNat * sz + f) = cs' /\ k0 + q.toNat * sz + f + vs.length <= cs.length := by
 obtain ⟨h0, h1, h2, rfl⟩ := ain_some hi
 have hl : (cs.take k0).length = k0 := by rw [List.length_take]; have := Nat.le_of_ble_eq_true hk; omega
 have hf' := Nat.le_of_ble_eq_true hf
 have hm : q.toNat * sz + sz <= n * sz := by rw [<- Nat.succ_mul]; exact Nat.mul_le_mul_right _ h2
 have hll : cs.length = k0 + (n * sz + (cs.drop (k0 + n * sz)).length) := by
  conv => lhs; rw [hcs]
  rw [List.length_append, List.length_append, arrC_len he, hl]
 constructor
 ·rw [hcs']
  have := arr_put he h2 (cs.take k0) (cs.drop (k0 + n * sz)) a hf' hs
  rw [<- hcs, hl, show k0 + (q.toNat * sz + f) = k0 + q.toNat * sz + f by omega] at this
  exact this
 ·omega
theorem OW.stA {α : Type} {t : TypeId} {x y : Operand} {ty : TypeId} {pos : String} {af : Array Edge} {gdd : Option (Nat × Bool)} (hst : St w0 S0 w L) (j : Nat) {b : Nat} {T : TypeId} {cs : List Value} (hj : L[j]? = some (blkI b T cs))
  (hl : opAt l i = some ⟨none, .store t x y, ty, pos, af, gdd⟩) (hg : gd l fr ⟨none, .store t x y, ty, pos, af, gdd⟩ = some true)
  {k : Nat} {v : Value} (hx : look fr x = some (.pointer (some ⟨b, k, none⟩))) (hy : look fr y = some v)
  (hs : psem P (sizeOf t) = some v.cells.toList.length) (h1 : ones v.cells.toList = true)
  (enc : α -> List Value) {sz : Nat} (he : ∀ x, (enc x).length = sz) (n : Nat) (a : Nat -> α) (k0 : Nat) (hcs : cs = cs.take k0 ++ (arrC enc n a ++ cs.drop (k0 + n * sz))) (hb : Nat.ble k0 cs.length = true) {q : Int} {u : Nat} (hi : ain n q = some u)
  (f : Nat) (hk : k = k0 + q.toNat * sz + f) (hf : Nat.ble (f + v.cells.toList.length) sz = true) (x' : α) (hx' : splice (enc (a u)) v.cells.toList f = enc x')
  (cs' : List Value) (hcs' : cs' = cs.take k0 ++ (arrC enc n (aset a u x') ++ cs.drop (k0 + n * sz)))
  (h : ∀ w', St w0 S0 w' (L.set j (blkI b T cs')) -> OW P l N Q (i + 1) fr w') : OW P l N Q i fr w := by
 obtain ⟨e1, e2⟩ := arr_splice enc he n a k0 hcs hb hi hf hx' hcs'
 subst hk
 exact OW.stB hst j hj hl hg hx hy hs h1 (Nat.ble_eq_true_of_le e2) cs' e1 h
theorem OW.stRA {α β : Type} {t : TypeId} {x y : Operand} {ty : TypeId} {pos : String} {af : Array Edge} {gdd : Option (Nat × Bool)} (hst : St w0 S0 w L) (j : Nat) {hd : Value} {g o cap m : Nat} {T : TypeId} {ence : β -> List Value} {sze : Nat} {xs : List β}
  (hj : L[j]? = some (rowI hd T ence sze xs)) (hv : hd = .slice (some ⟨g, o, none⟩) m cap) (hee : ∀ x, (ence x).length = sze)
  (hl : opAt l i = some ⟨none, .store t x y, ty, pos, af, gdd⟩) (hg : gd l fr ⟨none, .store t x y, ty, pos, af, gdd⟩ = some true)
  {p : Int} {z : β} (hz : Sx.idx xs p = some z) {k : Nat} {v : Value} (hx : look fr x = some (.pointer (some ⟨g, k, none⟩))) (hy : look fr y = some v)
  (hs : psem P (sizeOf t) = some v.cells.toList.length) (h1 : ones v.cells.toList = true)
  (enc : α -> List Value) {sz : Nat} (he : ∀ x, (enc x).length = sz) (n : Nat) (a : Nat -> α) (k0 : Nat) (hcs : ence z = (ence z).take k0 ++ (arrC enc n a ++ (ence z).drop (k0 + n * sz))) (hb : Nat.ble k0 (ence z).length = true) {q : Int} {u : Nat} (hi : ain n q = some u)
  (f : Nat) (hk : k = o + p.toNat * sze + k0 + q.toNat * sz + f) (hf : Nat.ble (f + v.cells.toList.length) sz = true) (x' : α) (hx' : splice (enc (a u)) v.cells.toList f = enc x')
  (z' : β) (hcs' : ence z' = (ence z).take k0 ++ (arrC enc n (aset a u x') ++ (ence z).drop (k0 + n * sz)))
  (h : ∀ w', St w0 S0 w' (L.set j (rowI hd T ence sze (xs.set p.toNat z'))) -> OW P l N Q (i + 1) fr w') : OW P l N Q i fr w := by
 obtain ⟨e1, e2⟩ := arr_splice enc he n a k0 hcs hb hi hf hx' hcs'
 rw [hee] at e2
 exact OW.stR hst j hj hv hee hl hg hz (k0 + q.toNat * sz + f) hx (by omega) hy hs h1 (Nat.ble_eq_true_of_le e2) z' e1 h
def arrL {α : Type} (n : Nat) (a : Nat -> α) : List α := (List.range n).map a
theorem arrL_len {α : Type} (n : Nat) (a : Nat -> α) : (arrL n a).length = n := by simp [arrL]
theorem St.arrRd {α : Type} (h : St w0 S0 w L) (j : Nat) {b : Nat} {T : TypeId} {cs : List Value} (hj : L[j]? = some (blkI b T cs)) (enc : α -> List Value) {sz : Nat} (he : ∀ x, (enc x).length = sz) (n : Nat) (a : Nat -> α) (k0 : Nat)
  (hcs : cs = cs.take k0 ++ (arrC enc n a ++ cs.drop (k0 + n * sz))) (hk : Nat.ble k0 cs.length = true) (hn : Nat.ble n 9223372036854775807 = true) (ids : List Nat) (hm : mem? j ids = false) :
  Rd w (fp (sel L ids)) (.slice (some ⟨b, k0, none⟩) n n) enc sz (arrL n a) := by
 refine ⟨by rw [arrL_len]; exact Nat.le_of_ble_eq_true hn, some ⟨b, k0, none⟩, n, by rw [arrL_len], by rw [arrL_len]; exact Nat.le_refl _, fun t x f u hx hu => ?_⟩
 refine ⟨b, k0, rfl, fun hb => ?_, ?_⟩
 ·exact h.noin j hj ids hm b (by simp [blkI]) hb
 ·unfold arrL at hx
  rw [List.getElem?_map] at hx
  obtain ⟨y, hy, rfl⟩ := Option.map_eq_some_iff.1 hx
  obtain ⟨hlt, rfl⟩ : t < n /\ y = t := by
   have h1 := List.getElem?_eq_some_iff.1 hy
   obtain ⟨h2, h3⟩ := h1
   simp at h2 h3
   exact ⟨h2, h3.symm⟩
  have := h.arrB j hj enc he n a k0 hcs hk (q := (y : Int)) (t := y) (by simp [ain, hlt]) f u hu
  simpa using this
theorem asl_all {o : Oper} {t e : TypeId} {x : Operand} {b k0 n : Nat} (sz : Nat) (ho : o.op = .slice t x none none none) (hx : look fr x = some (.pointer (some ⟨b, k0, none⟩)))
  (ht : P.underlying t = some (.array n e)) (hs : psem P (sizeOf e) = some sz) : ∀ a w, Rep N fr a -> (execOp a.eval o).run P w = .ok (.value (.slice (some ⟨b, k0, none⟩) n n)) w := by
 intro a w ha
 have e1 := ha.look hx
 simp [execOp, ho, Instr.sliceAt, Instr.sliceBounds, Instr.sureAddr, run_underlying ht, e1, psem_run hs, Addr.add]
theorem asl_sub {α : Type} {o : Oper} {t e : TypeId} {x y z : Operand} {b k0 n : Nat} (sz : Nat) {p q : Int} {kd ke : IntKind} {xs ys : List α} (ho : o.op = .slice t x (some y) (some z) none) (hx : look fr x = some (.pointer (some ⟨b, k0, none⟩)))
  (hy : look fr y = some (.int kd p)) (hz : look fr z = some (.int ke q)) (hn : xs.length = n) (hc : cut xs p q = some ys)
  (ht : P.underlying t = some (.array n e)) (hs : psem P (sizeOf e) = some sz) : ∀ a w, Rep N fr a -> (execOp a.eval o).run P w = .ok (.value (.slice (shd (some ⟨b, k0, none⟩) n p.toNat sz) ys.length (n - p.toNat))) w := by
 intro a w ha
 have e1 := ha.look hx
 have e2 := ha.look hy
 have e4 := ha.look hz
 obtain ⟨h0, h1, h2, _⟩ := cut_some hc
 have hl := cut_len hc
 rw [hn] at h2
 have h3 : 0 <= q /\ q <= (n : Int) := ⟨by omega, h2⟩
 have h5 : 0 <= p /\ p <= q := ⟨h0, h1⟩
 have h6 : (q.toNat : Int) = q := by omega
 have e3 : q.toNat - p.toNat = ys.length := by omega
 have e5 : (some (if n = p.toNat then (⟨b, k0, none⟩ : Addr) else Addr.add ⟨b, k0, none⟩ (p.toNat * sz))) = shd (some ⟨b, k0, none⟩) n p.toNat sz := by
  unfold shd
  split <;> rfl
 simp [execOp, ho, Instr.sliceAt, Instr.sliceBounds, Instr.sliceBound, Instr.sureAddr, run_underlying ht, e1, e2, e4, asIntOf, h3, h5, h6, psem_run hs, e3, e5]
theorem asl_pre {α : Type} {o : Oper} {t e : TypeId} {x z : Operand} {b k0 n : Nat} (sz : Nat) {q : Int} {ke : IntKind} {xs ys : List α} (ho : o.op = .slice t x none (some z) none) (hx : look fr x = some (.pointer (some ⟨b, k0, none⟩)))
  (hz : look fr z = some (.int ke q)) (hn : xs.length = n) (hc : cut xs 0 q = some ys)
  (ht : P.underlying t = some (.array n e)) (hs : psem P (sizeOf e) = some sz) : ∀ a w, Rep N fr a -> (execOp a.eval o).run P w = .ok (.value (.slice (some ⟨b, k0, none⟩) ys.length n)) w := by
 intro a w ha
 have e1 := ha.look hx
 have e4 := ha.look hz
 obtain ⟨h0, h1, h2, _⟩ := cut_some hc
 have hl := cut_len hc
 rw [hn] at h2
 have h3 : 0 <= q /\ q <= (n : Int) := ⟨by omega, h2⟩
 have e3 : q.toNat = ys.length := by simpa using hl.symm
 simp [execOp, ho, Instr.sliceAt, Instr.sliceBounds, Instr.sliceBound, Instr.sureAddr, run_underlying ht, e1, e4, asIntOf, h3, psem_run hs, e3, Addr.add]
def add64 (x y c : Int) : Option (Int × Int) := if 0 <= x /\ 0 <= y /\ 0 <= c /\ c <= 1 then some ((x + y + c) % 18446744073709551616, (x + y + c) / 18446744073709551616) else none
theorem add64_run {o : Oper} {x y z : Operand} {ats : List Nat} {f : FuncId} {fn : Func} {p q c u v : Int} (ho : o.op = .call ⟨.value (.func f), [x, y, z].toArray, ats.toArray⟩) (hx : look fr x = some (.int .u64 p)) (hy : look fr y = some (.int .u64 q)) (hz : look fr z = some (.int .u64 c))
  (hf : P.funcs[f]? = some fn) (h1 : (fn.name == "runtime.NumGoroutine") = false) (h2 : fn.body.isNone = true) (h3 : Extern.findNext fn = none) (h4 : Extern.find fn = some add64Entry) (h : add64 p q c = some (u, v)) :
  ∀ a w, Rep N fr a -> (execOp a.eval o).run P w = .ok (.value (.tuple [.int .u64 u, .int .u64 v].toArray)) w := by
 intro a w ha
 have e1 := ha.look hx
 have e2 := ha.look hy
 have e3 := ha.look hz
 unfold add64 at h
 split at h
 ·rename_i hc
  cases h
  have := run_add64 (P := P) p q c hc.1 hc.2.1 hc.2.2.1 hc.2.2.2 w
  have h5 := run_callFunc_extern (P := P) hf h1 h2 h3 h4 #[.int .u64 p, .int .u64 q, .int .u64 c] w
  rw [this] at h5
  have e4 : a.eval (.func f) = .func (.func f) #[] #[] := rfl
  simp [execOp, ho, resolve, Deferred.ofValue, invoke, e1, e2, e3, e4, h5, Result.andThen]
 ·cases h
def sitI (it : Nat) (s : ByteArray) (p : Nat) : Item where
 S := [it]
 Φ w := w.heap[it]? = some (.stringIter s p)
 loc w w' hb h := by rw [hb it (by simp)]; exact h
 lt w h b hb := by
  rw [List.mem_singleton.1 hb]
  exact (Array.getElem?_eq_some_iff.1 h).1
def runeAt (s : ByteArray) (p : Nat) : Int := ((Utf8.decode s p).1 : Int)
def runeEnd (s : ByteArray) (p : Nat) : Nat := p + (Utf8.decode s p).2
theorem OW.srange {d : Nat} {t : TypeId} {x : Operand} {ty : TypeId} {pos : String} {af : Array Edge} {gdd : Option (Nat × Bool)} {s : ByteArray} (hst : St w0 S0 w L)
  (hl : opAt l i = some ⟨some d, .range t x, ty, pos, af, gdd⟩) (hg : gd l fr ⟨some d, .range t x, ty, pos, af, gdd⟩ = some true) (hN : Nat.blt d N = true) (hx : look fr x = some (.string s)) (ht : P.underlying t = some .string)
  (h : ∀ it w', St w0 S0 w' (L ++ [sitI it s 0]) -> OW P l N Q (i + 1) ((d, .pointer (some ⟨it, 0, none⟩)) :: fr) w') : OW P l N Q i fr w := by
 refine OW.op hl hg rfl hN (w' := w.iter s 0) (fun a ha => ?_) (h w.heap.size _ ?_)
 ·have := run_range_string (P := P) w t s ht
  simp [execOp, ha.look hx, this]
 ·refine hst.push (Chg.alloc _ _) (World.iter_heap w s 0) (fun b hb => ?_) (by simp [sitI])
  rw [List.mem_singleton.1 hb]
  exact Nat.le_refl _
theorem OW.snext {d : Nat} {x : Operand} {ty : TypeId} {pos : String} {af : Array Edge} {gdd : Option (Nat × Bool)} {s : ByteArray} {it p : Nat} (hst : St w0 S0 w L) (j : Nat) (hj : L[j]? = some (sitI it s p))
  (hl : opAt l i = some ⟨some d, .next x true, ty, pos, af, gdd⟩) (hg : gd l fr ⟨some d, .next x true, ty, pos, af, gdd⟩ = some true) (hN : Nat.blt d N = true) (hx : look fr x = some (.pointer (some ⟨it, 0, none⟩)))
  (h1 : decide (p < s.size) = true -> ∀ w', St w0 S0 w' (L.set j (sitI it s (runeEnd s p))) -> OW P l N Q (i + 1) ((d, .tuple [.bool true, .int .i64 (p : Int), .int .i32 (runeAt s p)].toArray) :: fr) w')
  (h0 : decide (p < s.size) = false -> OW P l N Q (i + 1) ((d, .tuple [.bool false].toArray) :: fr) w) : OW P l N Q i fr w := by
 have hi : w.heap[it]? = some (.stringIter s p) := hst.all j _ hj
 by_cases hp : p < s.size
 ·refine OW.op hl hg rfl hN (w' := { w with heap := w.heap.setIfInBounds it (.stringIter s (runeEnd s p)) }) (fun a ha => ?_) (h1 (by simp [hp]) _ ?_)
  ·simp [execOp, ha.look hx, Instr.next, getObj, setObj, Sem.run, hi, hp, Result.andThen, goInt, runeAt, runeEnd]
  ·refine hst.upd j hj ⟨rfl, rfl, rfl, by simp, fun q _ hn => ?_⟩ ?_ (fun q hq => .inl hq) (by simp [sitI])
   ·simp only [Array.getElem?_setIfInBounds]
    rw [if_neg (fun e => hn (by simp [sitI, e]))]
   ·show (w.heap.setIfInBounds it _)[it]? = _
    simp [(Array.getElem?_eq_some_iff.1 hi).1]
 ·refine OW.op hl hg rfl hN (w' := w) (fun a ha => ?_) (h0 (by simp [hp]))
  simp [execOp, ha.look hx, Instr.next, getObj, Sem.run, hi, hp, Result.andThen]
end
structure Bor (wb : World) (Sb : List Nat) (w : World) (S : List Nat) : Prop where
 size : wb.heap.size <= w.heap.size
 same : ∀ b, b < wb.heap.size -> b ∉ Sb -> w.heap[b]? = wb.heap[b]?
 sub : ∀ b ∈ S, b ∈ Sb \/ wb.heap.size <= b
theorem Bor.refl (w : World) (S : List Nat) : Bor w S w S := ⟨Nat.le_refl _, fun _ _ _ => rfl, fun _ h => .inl h⟩
theorem Bor.on {wb w w0 : World} {Sb S0 : List Nat} {L : List Item} (h : Bor wb Sb w0 S0) (hst : St w0 S0 w L) (ids : List Nat) : Bor wb Sb w (fp (sel L ids)) := by
 have hc := hst.chg
 refine ⟨Nat.le_trans h.size hc.size, fun b hb hn => ?_, fun b hb => ?_⟩
 ·rw [hc.block b (Nat.lt_of_lt_of_le hb h.size) (fun hS => ?_), h.same b hb hn]
  rcases h.sub b hS with h1 | h1
  ·exact hn h1
  ·omega
 ·obtain ⟨j, it, hj, hbs⟩ := mem_fp.1 hb
  obtain ⟨k, _, hk⟩ := sel_get hj
  rcases getD_cases hk with hk | rfl
  ·rcases hst.own k it hk b hbs with h1 | h1
   ·exact h.sub b h1
   ·exact .inr (Nat.le_trans h.size h1)
  ·cases hbs
theorem Rd.bor {α : Type} {wb w : World} {Sb S : List Nat} {v : Value} {enc : α -> List Value} {sz : Nat} {xs : List α} (h : Rd wb Sb v enc sz xs) (hb : Bor wb Sb w S) : Rd w S v enc sz xs := h.far hb.same hb.sub
def borP {α : Type} (wb : World) (Sb : List Nat) (enc : α -> List Value) (sz : Nat) : Rp (List α) where
 sz := 1
 own _ cs S xs := ∃ v, cs = [v] /\ S = [] /\ Rd wb Sb v enc sz xs
 rd _ _ xs cs := ∃ v, cs = [v] /\ Rd wb Sb v enc sz xs
 len := by rintro w cs S x ⟨v, rfl, _⟩; rfl
 loc := by rintro w w' cs S x _ h; exact h
 lt := by rintro w cs S x ⟨v, rfl, rfl, _⟩; simp
 nd := by rintro w cs S x ⟨v, rfl, rfl, _⟩; exact List.nodup_nil
 see := by rintro w cs S x F ⟨v, rfl, rfl, h⟩ _; exact ⟨v, rfl, h⟩
 rlen := by rintro w F x cs ⟨v, rfl, _⟩; rfl
 rloc := by rintro w w' F F' x cs _ _ h; exact h
theorem RdN.bor {α : Type} {R : Rp α} {wb w : World} {Sb S : List Nat} {v : Value} {xs : List α} (hp : 0 < R.sz) (h : RdN wb Sb v R.rd R.sz xs) (hb : Bor wb Sb w S) : RdN w S v R.rd R.sz xs := h.far hp hb.same hb.sub
end Go.Sx
set_option linter.unusedVariables false
set_option linter.unusedSimpArgs false
namespace Go.Sx
open Go.RowKit
section
variable {w0 w : World} {S0 : List Nat} {L : List Item}
theorem St.openP0 {α : Type} {T : TypeId} {enc : α -> List Value} {sz : Nat} {he : ∀ x, (enc x).length = sz} {v : Value} {S : List Nat} {x : α} (h : St w0 S0 w L) (j : Nat) (hj : L[j]? = some (itI (ptrP T (flatP enc sz he)) [v] S x)) :
  ∃ b, v = .pointer (some ⟨b, 0, none⟩) /\ St w0 S0 w (L.set j (blkI b T (enc x))) := by
 obtain ⟨b, cs', S', hv, rfl, hb, hh, rfl, rfl⟩ := h.all j _ hj
 cases hv
 exact ⟨b, rfl, h.turn j hj hh rfl⟩
theorem St.openQ0 {α : Type} {T : TypeId} {enc : α -> List Value} {sz : Nat} {he : ∀ x, (enc x).length = sz} {b : Nat} {S : List Nat} {x : α} (h : St w0 S0 w L) (j : Nat) (hj : L[j]? = some (itI (ptrP T (flatP enc sz he)) [.pointer (some ⟨b, 0, none⟩)] S x)) :
  St w0 S0 w (L.set j (blkI b T (enc x))) := by
 obtain ⟨b2, hv, hst⟩ := h.openP0 j hj
 cases hv
 exact hst
theorem St.toRow1 {α : Type} {v : Value} {S : List Nat} {T : TypeId} {enc : α -> List Value} {sz : Nat} {ys : List α} {he : ∀ x, (enc x).length = sz} {hp : 0 < sz} (h : St w0 S0 w L) (j : Nat) (hj : L[j]? = some (itI (rowP T enc sz he hp) [v] S ys)) : St w0 S0 w (L.set j (rowI v T enc sz ys)) := by
 obtain ⟨u, hu, hst⟩ := h.toRow j hj
 cases hu
 exact hst
theorem St.shutP0 {α : Type} {T : TypeId} {enc : α -> List Value} {sz : Nat} {he : ∀ x, (enc x).length = sz} {cs : List Value} {b : Nat} (h : St w0 S0 w L) (j : Nat) (hj : L[j]? = some (blkI b T cs)) (x : α) (hx : cs = enc x) :
  St w0 S0 w (L.set j (itI (ptrP T (flatP enc sz he)) [.pointer (some ⟨b, 0, none⟩)] [b] x)) := by
 subst hx
 exact h.turn j hj ⟨b, enc x, [], rfl, rfl, by simp, h.all j _ hj, rfl, rfl⟩ rfl
end
section
variable {w0 w : World} {S0 : List Nat} {L : List Item} {α : Type} {β1 : Type} {T : TypeId} {f : α -> List Value -> List Value} {sz : Nat} {hl : ∀ x vs, (f x vs).length = sz} {g : α -> β1} {A1 : Rp β1}
end
section
variable {w0 w : World} {S0 : List Nat} {L : List Item} {α : Type} {β1 : Type} {β2 : Type} {T : TypeId} {f : α -> List Value -> List Value} {sz : Nat} {hl : ∀ x vs, (f x vs).length = sz} {g : α -> β1 × β2} {A1 : Rp β1} {A2 : Rp β2}
end
section
variable {w0 w : World} {S0 : List Nat} {L : List Item} {α : Type} {β1 : Type} {β2 : Type} {β3 : Type} {T : TypeId} {f : α -> List Value -> List Value} {sz : Nat} {hl : ∀ x vs, (f x vs).length = sz} {g : α -> β1 × (β2 × β3)} {A1 : Rp β1} {A2 : Rp β2} {A3 : Rp β3}
end
section
variable {w0 w : World} {S0 : List Nat} {L : List Item} {α : Type} {β1 : Type} {β2 : Type} {β3 : Type} {β4 : Type} {T : TypeId} {f : α -> List Value -> List Value} {sz : Nat} {hl : ∀ x vs, (f x vs).length = sz} {g : α -> β1 × (β2 × (β3 × β4))} {A1 : Rp β1} {A2 : Rp β2} {A3 : Rp β3} {A4 : Rp β4}
end
section
variable {w0 w : World} {S0 : List Nat} {L : List Item} {α : Type} {β1 : Type} {β2 : Type} {β3 : Type} {β4 : Type} {β5 : Type} {T : TypeId} {f : α -> List Value -> List Value} {sz : Nat} {hl : ∀ x vs, (f x vs).length = sz} {g : α -> β1 × (β2 × (β3 × (β4 × β5)))} {A1 : Rp β1} {A2 : Rp β2} {A3 : Rp β3} {A4 : Rp β4} {A5 : Rp β5}
end
section
variable {w0 w : World} {S0 : List Nat} {L : List Item} {α : Type} {β1 : Type} {β2 : Type} {β3 : Type} {β4 : Type} {β5 : Type} {β6 : Type} {T : TypeId} {f : α -> List Value -> List Value} {sz : Nat} {hl : ∀ x vs, (f x vs).length = sz} {g : α -> β1 × (β2 × (β3 × (β4 × (β5 × β6))))} {A1 : Rp β1} {A2 : Rp β2} {A3 : Rp β3} {A4 : Rp β4} {A5 : Rp β5} {A6 : Rp β6}
end
end Go.Sx
set_option linter.unusedVariables false
set_option linter.unusedSimpArgs false
namespace Go.Sx
open Go.RowKit
def mget {α : Type} : List (Int × α) -> Int -> Option α
 | [], _ => none
 | p :: r, k => if p.1 == k then some p.2 else mget r k
def mpos {α : Type} : List (Int × α) -> Int -> Option Nat
 | [], _ => none
 | p :: r, k => if p.1 == k then some 0 else (mpos r k).map (· + 1)
def entOf {α : Type} (val : α -> Value) (p : Int × α) : Value × Value := (.int .i64 p.1, val p.2)
structure Ents {α : Type} (val : α -> Value) (m : List (Int × α)) (A : List MapEntry) (clock : Nat) : Prop where
 eq : A.map (fun e => (e.key, e.val)) = m.map (entOf val)
 born : A.Pairwise (fun a b => a.born < b.born)
 lt : ∀ e ∈ A, e.born < clock
section
variable {α : Type} {val : α -> Value}
theorem Ents.cons {p : Int × α} {m : List (Int × α)} {A : List MapEntry} {clock : Nat} (h : Ents val (p :: m) A clock) : ∃ e B, A = e :: B /\ e.key = .int .i64 p.1 /\ e.val = val p.2 /\ Ents val m B clock := by
 obtain ⟨h1, h2, h3⟩ := h
 cases A with
 | nil => simp at h1
 | cons e B =>
  simp only [List.map_cons, List.cons.injEq, entOf, Prod.mk.injEq] at h1
  exact ⟨e, B, rfl, h1.1.1, h1.1.2, h1.2, (List.pairwise_cons.1 h2).2, fun x hx => h3 x (List.mem_cons_of_mem _ hx)⟩
theorem Ents.nil {A : List MapEntry} {clock : Nat} (h : Ents val ([] : List (Int × α)) A clock) : A = [] := by
 have := h.eq
 simpa using this
theorem mpos_mget {m : List (Int × α)} {k : Int} : (mpos m k = none ↔ mget m k = none) := by
 induction m with
 | nil => simp [mpos, mget]
 | cons p m ih =>
  unfold mpos mget
  split
  ·simp
  ·simp [ih]
theorem mpos_get {m : List (Int × α)} {k : Int} {x : α} (h : mget m k = some x) : ∃ j, mpos m k = some j /\ m[j]? = some (k, x) := by
 induction m with
 | nil => cases h
 | cons p m ih =>
  unfold mget at h
  unfold mpos
  split at h
  ·rename_i hp
   cases h
   refine ⟨0, by simp [hp], ?_⟩
   have : p.1 = k := by simpa using hp
   subst this
   rfl
  ·rename_i hp
   obtain ⟨j, h1, h2⟩ := ih h
   exact ⟨j + 1, by simp [hp, h1], by simpa using h2⟩
theorem Ents.len {m : List (Int × α)} {A : List MapEntry} {clock : Nat} (h : Ents val m A clock) : A.length = m.length := by
 have := congrArg List.length h.eq
 simpa using this
theorem Ents.set {m : List (Int × α)} {A : List MapEntry} {clock j : Nat} {k : Int} {x : α} {e : MapEntry} (h : Ents val m A clock) (he : A[j]? = some e) : Ents val (m.set j (k, x)) (A.set j { e with key := .int .i64 k, val := val x }) clock := by
 refine ⟨?_, ?_, fun y hy => ?_⟩
 ·rw [List.map_set, List.map_set, h.eq]; rfl
 ·have hb := h.born
  rw [List.pairwise_iff_getElem] at hb |-
  intro a b ha hb2 hab
  rw [List.length_set] at ha hb2
  have hj := (List.getElem?_eq_some_iff.1 he).2
  have := hb a b ha hb2 hab
  rw [List.getElem_set, List.getElem_set]
  split <;> split
  ·omega
  ·rename_i h1 h2; subst h1; rw [hj] at this; exact this
  ·rename_i h1 h2; subst h2; rw [hj] at this; exact this
  ·exact this
 ·rcases List.mem_or_eq_of_mem_set hy with hy | rfl
  ·exact h.lt y hy
  ·exact h.lt e (List.mem_of_getElem? he)
theorem Ents.push {m : List (Int × α)} {A : List MapEntry} {clock : Nat} {k : Int} {x : α} (h : Ents val m A clock) : Ents val (m ++ [(k, x)]) (A ++ [{ key := .int .i64 k, val := val x, born := clock }]) (clock + 1) := by
 refine ⟨by rw [List.map_append, List.map_append, h.eq]; rfl, ?_, fun y hy => ?_⟩
 ·refine List.pairwise_append.2 ⟨h.born, List.pairwise_singleton _ _, fun a ha b hb => ?_⟩
  simp at hb
  subst hb
  exact h.lt a ha
 ·rcases List.mem_append.1 hy with hy | hy
  ·have := h.lt y hy; omega
  ·simp at hy; subst hy; simp
end
section
variable {P : Program} {N : Nat} {fr : List (Nat × Value)} {w w0 : World} {S0 : List Nat} {L : List Item} {α : Type} {val : α -> Value}
end
section
variable {P : Program} {N : Nat} {Q : Exit -> Act -> World -> Prop} {fr fr' : List (Nat × Value)} {w w0 : World} {l : List Oper} {i : Nat} {o : Oper} {S0 : List Nat} {L : List Item} {α : Type} {val : α -> Value}
end
structure MRow {α : Type} (w : World) (r : Nat) (R : Rp α) (S : List Nat) (m : List (Int × α)) (ho : Option (Int × Value)) (mv : List (Int × Value)) (Ss : List (List Nat)) : Prop where
 map : ∃ A clock, w.heap[r]? = some (.map A clock) /\ Ents (fun v : Value => v) mv A.toList clock
 keys : mv.map (·.1) = m.map (·.1)
 ls : Ss.length = m.length
 hS : S = r :: Ss.flatten
 nd : S.Nodup
 out : ∀ (k : Int) (v : Value) (i : Nat), ho = some (k, v) -> mpos m k = some i -> mv[i]? = some (k, v) /\ Ss[i]? = some []
 own : ∀ (i : Nat) (q : Int × Value) (S' : List Nat) (p : Int × α), (∀ k u, ho = some (k, u) -> mpos m k ≠ some i) -> mv[i]? = some q -> Ss[i]? = some S' -> m[i]? = some p -> R.own w [q.2] S' p.2
section
variable {α β : Type}
theorem mpos_keys {m : List (Int × α)} {n : List (Int × β)} (h : n.map (·.1) = m.map (·.1)) (k : Int) : mpos n k = mpos m k := by
 induction m generalizing n with
 | nil => simp at h; subst h; rfl
 | cons p m ih =>
  cases n with
  | nil => cases h
  | cons q n =>
   simp only [List.map_cons, List.cons.injEq] at h
   simp only [mpos, h.1, ih h.2]
theorem mpos_at {m : List (Int × α)} {k : Int} {i : Nat} (h : mpos m k = some i) : ∃ x, mget m k = some x /\ m[i]? = some (k, x) := by
 cases hg : mget m k with
 | none => rw [mpos_mget.2 hg] at h; cases h
 | some x =>
  obtain ⟨j, h1, h2⟩ := mpos_get hg
  rw [h1] at h
  cases h
  exact ⟨x, rfl, h2⟩
end
section
variable {α : Type} {w w' : World} {r : Nat} {R : Rp α} {S : List Nat} {m : List (Int × α)} {ho : Option (Int × Value)} {mv : List (Int × Value)} {Ss : List (List Nat)}
theorem MRow.len (h : MRow w r R S m ho mv Ss) : mv.length = m.length := by
 have := congrArg List.length h.keys
 simpa using this
theorem MRow.lt (h : MRow w r R S m ho mv Ss) : ∀ b ∈ S, b < w.heap.size := by
 intro b hb
 rw [h.hS] at hb
 rcases List.mem_cons.1 hb with rfl | hb
 ·obtain ⟨A, c, h1, _⟩ := h.map
  exact (Array.getElem?_eq_some_iff.1 h1).1
 ·obtain ⟨S', hS', hb⟩ := List.mem_flatten.1 hb
  obtain ⟨i, hi, rfl⟩ := List.mem_iff_getElem.1 hS'
  have h1 : i < mv.length := by rw [h.len, <- h.ls]; exact hi
  have h2 : i < m.length := by rw [<- h.ls]; exact hi
  by_cases hq : ∃ k u, ho = some (k, u) /\ mpos m k = some i
  ·obtain ⟨k, u, hc, hp⟩ := hq
   have := (h.out k u i hc hp).2
   rw [List.getElem?_eq_getElem hi] at this
   rw [Option.some.inj this] at hb
   exact absurd hb List.not_mem_nil
  ·exact R.lt _ _ _ _ (h.own i _ _ _ (fun k u hc hp => hq ⟨k, u, hc, hp⟩) (List.getElem?_eq_getElem h1) (List.getElem?_eq_getElem hi) (List.getElem?_eq_getElem h2)) b hb
theorem MRow.loc (h : MRow w r R S m ho mv Ss) (hb : ∀ b ∈ S, w'.heap[b]? = w.heap[b]?) : MRow w' r R S m ho mv Ss := by
 have hS := h.hS
 obtain ⟨A, c, h1, h2⟩ := h.map
 refine ⟨⟨A, c, by rw [hb r (by rw [hS]; exact List.mem_cons_self)]; exact h1, h2⟩, h.keys, h.ls, h.hS, h.nd, h.out, fun i q S' p g1 g2 g3 g4 => R.loc w w' _ S' _ (fun b hbs => hb b ?_) (h.own i q S' p g1 g2 g3 g4)⟩
 rw [hS]
 exact List.mem_cons_of_mem _ (List.mem_flatten.2 ⟨S', List.mem_of_getElem? g3, hbs⟩)
end
def mN {α : Type} (r : Nat) (R : Rp α) (S : List Nat) (m : List (Int × α)) (ho : Option (Int × Value)) : Item where
 S := S
 Φ w := ∃ mv Ss, MRow w r R S m ho mv Ss
 loc w w' hb h := by obtain ⟨mv, Ss, h⟩ := h; exact ⟨mv, Ss, h.loc hb⟩
 lt w h := by obtain ⟨mv, Ss, h⟩ := h; exact h.lt
section
variable {α : Type} {w w' : World} {r : Nat} {R : Rp α} {S : List Nat} {m : List (Int × α)} {ho : Option (Int × Value)} {mv : List (Int × Value)} {Ss : List (List Nat)}
theorem MRow.take (h : MRow w r R S m none mv Ss) {k : Int} {x : α} (hx : mget m k = some x) :
  ∃ v S1 S2 Ss', mget mv k = some v /\ R.own w [v] S2 x /\ MRow w r R S1 m (some (k, v)) mv Ss' /\ (∀ b ∈ S2, b ∈ S) /\ (∀ b ∈ S1, b ∈ S) /\ ∀ b ∈ S1, b ∉ S2 := by
 obtain ⟨i, hp, hi⟩ := mpos_get hx
 have hl := (List.getElem?_eq_some_iff.1 hi).1
 obtain ⟨v, hv, hvi⟩ := mpos_at ((mpos_keys h.keys k).trans hp)
 have a2 : i < Ss.length := by rw [h.ls]; exact hl
 have hn := h.nd
 rw [h.hS] at hn
 obtain ⟨n1, n2⟩ := List.nodup_cons.1 hn
 have hown := h.own i (k, v) Ss[i] (k, x) (fun _ _ e => (by cases e)) hvi (List.getElem?_eq_getElem a2) hi
 have hsub : ∀ b ∈ (Ss.set i []).flatten, b ∈ Ss.flatten := fun b hb => by
  rcases mem_flatten_set hb with hb | hb
  ·exact absurd hb List.not_mem_nil
  ·exact hb
 have n2' : (Ss.set i []).flatten.Nodup := nodup_flatten_set n2 List.nodup_nil (fun _ _ _ _ b hb => absurd hb List.not_mem_nil)
 refine ⟨v, r :: (Ss.set i []).flatten, Ss[i], Ss.set i [], hv, hown, ⟨h.map, h.keys, by rw [List.length_set]; exact h.ls, rfl, ?_, fun k' v' i' e hp' => ?_, fun i' q S' p g1 g2 g3 g4 => ?_⟩, fun b hb => ?_, fun b hb => ?_, fun b hb hb2 => ?_⟩
 ·exact List.nodup_cons.2 ⟨fun hb => n1 (hsub r hb), n2'⟩
 ·simp only [Option.some.injEq, Prod.mk.injEq] at e
  obtain ⟨rfl, rfl⟩ := e
  rw [hp] at hp'
  cases hp'
  exact ⟨hvi, by rw [List.getElem?_set_self a2]⟩
 ·rcases set_get g3 with ⟨rfl, rfl⟩ | ⟨hne, g3⟩
  ·exact absurd hp (g1 k v rfl)
  ·exact h.own i' q S' p (fun _ _ e => (by cases e)) g2 g3 g4
 ·rw [h.hS]; exact List.mem_cons_of_mem _ (List.mem_flatten.2 ⟨Ss[i], List.getElem_mem a2, hb⟩)
 ·rw [h.hS]
  rcases List.mem_cons.1 hb with rfl | hb
  ·exact List.mem_cons_self
  ·exact List.mem_cons_of_mem _ (hsub b hb)
 ·rcases List.mem_cons.1 hb with rfl | hb
  ·exact n1 (List.mem_flatten.2 ⟨Ss[i], List.getElem_mem a2, hb2⟩)
  ·obtain ⟨S', hS', hb⟩ := List.mem_flatten.1 hb
   obtain ⟨i', hi', rfl⟩ := List.mem_iff_getElem.1 hS'
   rcases set_get (List.getElem?_eq_getElem hi') with ⟨_, e⟩ | ⟨hne, hi2⟩
   ·rw [e] at hb; exact absurd hb List.not_mem_nil
   ·exact flatten_apart n2 hne hi2 (List.getElem?_eq_getElem a2) b hb hb2
theorem MRow.give (h : MRow w r R S m ho mv Ss) {k : Int} {v : Value} {S2 : List Nat} {x : α} {i : Nat} (hho : ∀ k' u, ho = some (k', u) -> k' = k) (hp : mpos m k = some i) (hx : R.own w' [v] S2 x) (hd : ∀ b ∈ S, b ∉ S2)
  (hw : ∀ b ∈ Ss.flatten, w'.heap[b]? = w.heap[b]?) (hm : ∃ A clock, w'.heap[r]? = some (.map A clock) /\ Ents (fun v : Value => v) (mv.set i (k, v)) A.toList clock) : MRow w' r R (r :: (Ss.set i S2).flatten) (m.set i (k, x)) none (mv.set i (k, v)) (Ss.set i S2) := by
 have hn := h.nd
 rw [h.hS] at hn
 obtain ⟨n1, n2⟩ := List.nodup_cons.1 hn
 have hS := h.hS
 refine ⟨hm, by rw [List.map_set, List.map_set, h.keys], by rw [List.length_set, List.length_set]; exact h.ls, rfl, ?_, fun _ _ _ e => (by cases e), fun i' q S' p _ g2 g3 g4 => ?_⟩
 ·refine List.nodup_cons.2 ⟨fun hb => ?_, nodup_flatten_set n2 (R.nd _ _ _ _ hx) (fun k T' _ hT b hb hb2 => hd b (by rw [hS]; exact List.mem_cons_of_mem _ (List.mem_flatten.2 ⟨T', List.mem_of_getElem? hT, hb2⟩)) hb)⟩
  rcases mem_flatten_set hb with hb | hb
  ·exact hd r (by rw [hS]; exact List.mem_cons_self) hb
  ·exact n1 hb
 ·rcases set_get g3 with ⟨rfl, rfl⟩ | ⟨hne, g3⟩
  ·rcases set_get g2 with ⟨_, rfl⟩ | ⟨hne, _⟩
   ·rcases set_get g4 with ⟨_, rfl⟩ | ⟨hne, _⟩
    ·exact hx
    ·exact absurd rfl hne
   ·exact absurd rfl hne
  ·rcases set_get g2 with ⟨e, _⟩ | ⟨_, g2⟩
   ·exact absurd e hne
   ·rcases set_get g4 with ⟨e, _⟩ | ⟨_, g4⟩
    ·exact absurd e hne
    ·refine R.loc w w' _ S' _ (fun b hb => hw b (List.mem_flatten.2 ⟨S', List.mem_of_getElem? g3, hb⟩)) (h.own i' q S' p (fun k' u e hp' => ?_) g2 g3 g4)
     rw [hho k' u e, hp] at hp'
     exact hne (Option.some.inj hp').symm
end
section
variable {P : Program} {N : Nat} {Q : Exit -> Act -> World -> Prop} {fr fr' : List (Nat × Value)} {w w0 : World} {l : List Oper} {i : Nat} {o : Oper} {S0 : List Nat} {L : List Item} {α : Type} {R : Rp α} {r : Nat} {S : List Nat} {m : List (Int × α)} {ho : Option (Int × Value)}
end
section
variable {w w0 : World} {S0 : List Nat} {L : List Item} {α : Type} {R : Rp α}
end
end Go.Sx
set_option linter.unusedVariables false
set_option linter.unusedSimpArgs false
namespace Go.Sx
open Go.RowKit
def partI (b : Nat) (T : TypeId) (A cs C : List Value) : Item := blkI b T (A ++ (cs ++ C))
section
variable {P : Program} {N : Nat} {Q : Exit -> Act -> World -> Prop} {fr fr' : List (Nat × Value)} {w w0 : World} {l : List Oper} {i : Nat} {o : Oper} {S0 : List Nat} {L : List Item}
theorem St.prt (h : St w0 S0 w L) (j : Nat) {b : Nat} {T : TypeId} {A cs C : List Value} (hj : L[j]? = some (partI b T A cs C)) (k : Nat) {v : Value} (hv : cs[k]? = some v) : w.cell? ⟨b, A.length + k, none⟩ = some v := by
 refine h.blk j hj ?_
 rw [List.getElem?_append_right (by omega), show A.length + k - A.length = k by omega, List.getElem?_append_left (List.getElem?_eq_some_iff.1 hv).1]
 exact hv
theorem OW.stP {t : TypeId} {x y : Operand} {ty : TypeId} {pos : String} {af : Array Edge} {gdd : Option (Nat × Bool)} (hst : St w0 S0 w L) (j : Nat) {b : Nat} {T : TypeId} {A cs C : List Value} (hj : L[j]? = some (partI b T A cs C))
  (hl : opAt l i = some ⟨none, .store t x y, ty, pos, af, gdd⟩) (hg : gd l fr ⟨none, .store t x y, ty, pos, af, gdd⟩ = some true)
  (k : Nat) {v : Value} (hx : look fr x = some (.pointer (some ⟨b, A.length + k, none⟩))) (hy : look fr y = some v)
  (hs : psem P (sizeOf t) = some v.cells.toList.length) (h1 : ones v.cells.toList = true) (hle : Nat.ble (k + v.cells.toList.length) cs.length = true) (cs' : List Value) (hcs : splice cs v.cells.toList k = cs')
  (h : ∀ w', St w0 S0 w' (L.set j (partI b T A cs' C)) -> OW P l N Q (i + 1) fr w') : OW P l N Q i fr w := by
 have hle' := Nat.le_of_ble_eq_true hle
 exact OW.stB hst j hj hl hg hx hy hs h1 (Nat.ble_eq_true_of_le (by rw [List.length_append, List.length_append]; omega)) (A ++ (cs' ++ C)) (by rw [splice_mid hle', hcs]) h
theorem OW.stPA {α : Type} {t : TypeId} {x y : Operand} {ty : TypeId} {pos : String} {af : Array Edge} {gdd : Option (Nat × Bool)} (hst : St w0 S0 w L) (j : Nat) {b : Nat} {T : TypeId} {A cs C : List Value} (hj : L[j]? = some (partI b T A cs C))
  (hl : opAt l i = some ⟨none, .store t x y, ty, pos, af, gdd⟩) (hg : gd l fr ⟨none, .store t x y, ty, pos, af, gdd⟩ = some true)
  {k : Nat} {v : Value} (hx : look fr x = some (.pointer (some ⟨b, k, none⟩))) (hy : look fr y = some v)
  (hs : psem P (sizeOf t) = some v.cells.toList.length) (h1 : ones v.cells.toList = true)
  (enc : α -> List Value) {sz : Nat} (he : ∀ x, (enc x).length = sz) (n : Nat) (a : Nat -> α) (k0 : Nat) (hcs : cs = cs.take k0 ++ (arrC enc n a ++ cs.drop (k0 + n * sz))) (hb : Nat.ble k0 cs.length = true) {q : Int} {u : Nat} (hi : ain n q = some u)
  (f : Nat) (hk : k = A.length + k0 + q.toNat * sz + f) (hf : Nat.ble (f + v.cells.toList.length) sz = true) (x' : α) (hx' : splice (enc (a u)) v.cells.toList f = enc x')
  (cs' : List Value) (hcs' : cs' = cs.take k0 ++ (arrC enc n (aset a u x') ++ cs.drop (k0 + n * sz)))
  (h : ∀ w', St w0 S0 w' (L.set j (partI b T A cs' C)) -> OW P l N Q (i + 1) fr w') : OW P l N Q i fr w := by
 obtain ⟨e1, e2⟩ := arr_splice enc he n a k0 hcs hb hi hf hx' hcs'
 subst hk
 refine OW.stB (k := A.length + (k0 + q.toNat * sz + f)) hst j hj hl hg (by rw [hx]; congr 4; omega) hy hs h1 (Nat.ble_eq_true_of_le (by rw [List.length_append, List.length_append]; omega)) (A ++ (cs' ++ C)) (by rw [splice_mid e2, e1]) h
theorem OW.clear {t e : TypeId} {ats : List Nat} {x : Operand} {ty : TypeId} {pos : String} {af : Array Edge} {gdd : Option (Nat × Bool)} (hst : St w0 S0 w L) (j : Nat) {b : Nat} {T : TypeId} {cs : List Value} (hj : L[j]? = some (blkI b T cs))
  (hl : opAt l i = some ⟨none, .call ⟨.builtin .clear, [x].toArray, ats.toArray⟩, ty, pos, af, gdd⟩) (hg : gd l fr ⟨none, .call ⟨.builtin .clear, [x].toArray, ats.toArray⟩, ty, pos, af, gdd⟩ = some true)
  {k n c : Nat} {z : Value} (hx : look fr x = some (.slice (some ⟨b, k, none⟩) (n + 1) c)) (ha0 : ats[0]? = some t) (ht : P.underlying t = some (.slice e)) (hz : psem P (zeroValue e) = some z) (vs : List Value) (hvs : (Builtin.zeroCells z.cells (n + 1)).toList = vs) (h1 : ones vs = true)
  (hle : k + vs.length <= cs.length) (cs' : List Value) (hcs : splice cs vs k = cs')
  (h : ∀ w', St w0 S0 w' (L.set j (blkI b T cs')) -> OW P l N Q (i + 1) fr w') : OW P l N Q i fr w := by
 have hb := hst.all j _ hj
 have hst2 := run_storeCells_at (P := P) b k T vs 0 cs.toArray w hb (by simpa using hle) (ones_mem h1)
 refine OW.opn (v := .tuple #[]) hl hg rfl (w' := w.setRow b (splice cs.toArray.toList vs k).toArray) (fun a ha => ?_) (h _ ?_)
 ·have e1 := ha.look hx
  have hz' := psem_run hz w
  have h3 : (storeCells ⟨b, k, none⟩ vs).run P w = .ok () (w.setRow b (splice cs.toArray.toList vs k).toArray) := by simpa [splice] using hst2
  have ha1 : (ats.toArray)[0]? = some t := by simpa using ha0
  simp [execOp, resolve, invoke, builtin, e1, Builtin.clear_, ha1, run_underlying ht, hz', hvs, h3]
 ·subst hcs
  refine hst.upd j hj ⟨rfl, rfl, rfl, by simp [World.setRow], fun q _ hn => setRow_other w b q _ (by rintro rfl; exact hn (by simp [blkI]))⟩ ?_ (fun q hq => .inl hq) (by simp [blkI])
  show (w.setRow b _).heap[b]? = _
  rw [setRow_heap w b cs.toArray _ T (0, 0) hb]
theorem OW.clearP {t e : TypeId} {ats : List Nat} {x : Operand} {ty : TypeId} {pos : String} {af : Array Edge} {gdd : Option (Nat × Bool)} (hst : St w0 S0 w L) (j : Nat) {b : Nat} {T : TypeId} {A cs C : List Value} (hj : L[j]? = some (partI b T A cs C))
  (hl : opAt l i = some ⟨none, .call ⟨.builtin .clear, [x].toArray, ats.toArray⟩, ty, pos, af, gdd⟩) (hg : gd l fr ⟨none, .call ⟨.builtin .clear, [x].toArray, ats.toArray⟩, ty, pos, af, gdd⟩ = some true)
  (k : Nat) {n c : Nat} {z : Value} (hx : look fr x = some (.slice (some ⟨b, A.length + k, none⟩) (n + 1) c)) (ha0 : ats[0]? = some t) (ht : P.underlying t = some (.slice e)) (hz : psem P (zeroValue e) = some z) (vs : List Value) (hvs : (Builtin.zeroCells z.cells (n + 1)).toList = vs) (h1 : ones vs = true)
  (hle : Nat.ble (k + vs.length) cs.length = true) (cs' : List Value) (hcs : splice cs vs k = cs')
  (h : ∀ w', St w0 S0 w' (L.set j (partI b T A cs' C)) -> OW P l N Q (i + 1) fr w') : OW P l N Q i fr w := by
 have hle' := Nat.le_of_ble_eq_true hle
 exact OW.clear hst j hj hl hg hx ha0 ht hz vs hvs h1 (by rw [List.length_append, List.length_append]; omega) (A ++ (cs' ++ C)) (by rw [splice_mid hle', hcs]) h
end
structure RdB (w : World) (S : List Nat) (b : Nat) (cs : List Value) : Prop where
 out : b ∉ S
 at' : ∀ k u, cs[k]? = some u -> w.cell? ⟨b, k, none⟩ = some u
section
variable {w w0 : World} {S0 : List Nat} {L : List Item} {b : Nat} {cs : List Value}
theorem RdB.cell (h : RdB w0 S0 b cs) (hst : St w0 S0 w L) (k : Nat) {u : Value} (hu : cs[k]? = some u) : w.cell? ⟨b, k, none⟩ = some u := by
 have hc := h.at' k u hu
 exact (World.cell?_of_block (hst.chg.block b (cell_lt hc) h.out)).trans hc
theorem RdB.cells (h : RdB w0 S0 b cs) (hst : St w0 S0 w L) (k n : Nat) : ∀ q u, ((cs.drop k).take n)[q]? = some u -> w.cell? ⟨b, k + q, none⟩ = some u := by
 intro q u hq
 rw [List.getElem?_take] at hq
 split at hq
 ·rw [List.getElem?_drop] at hq
  exact h.cell hst _ hq
 ·cases hq
theorem RdB.arr {α : Type} (h : RdB w0 S0 b cs) (hst : St w0 S0 w L) (enc : α -> List Value) {sz : Nat} (he : ∀ x, (enc x).length = sz) (n : Nat) (a : Nat -> α) (k0 : Nat)
  (hcs : cs = cs.take k0 ++ (arrC enc n a ++ cs.drop (k0 + n * sz))) (hk : Nat.ble k0 cs.length = true) {q : Int} {t : Nat} (hi : ain n q = some t) :
  ∀ f u, (enc (a t))[f]? = some u -> w.cell? ⟨b, k0 + q.toNat * sz + f, none⟩ = some u := by
 intro f u hu
 have := cell_arr (w := w) (b := b) (o := 0) (cs := cs) (fun f u hf => by rw [Nat.zero_add]; exact h.cell hst _ hf) enc he n a k0 hcs hk hi f u hu
 rwa [Nat.zero_add] at this
theorem RdB.give {u0 : Value} {cr : List Value} (h : RdB w0 S0 b (u0 :: cr)) (hst : St w0 S0 w L) (ids : List Nat) : RdB w (fp (sel L ids)) b (u0 :: cr) := by
 refine ⟨fun hb => ?_, fun k u hu => h.cell hst k hu⟩
 obtain ⟨j, it, hj, hbs⟩ := mem_fp.1 hb
 obtain ⟨k, _, hk⟩ := sel_get hj
 rcases getD_cases hk with hk | rfl
 ·rcases hst.own k it hk b hbs with h1 | h1
  ·exact h.out h1
  ·have := cell_lt (h.at' 0 u0 rfl)
   simp only at this
   omega
 ·cases hbs
theorem St.rdB (hst : St w0 S0 w L) (j : Nat) {T : TypeId} (hj : L[j]? = some (blkI b T cs)) (ids : List Nat) (hm : mem? j ids = false) : RdB w (fp (sel L ids)) b cs :=
 ⟨fun hb => hst.noin j hj ids hm b (by simp [blkI]) hb, fun k u hu => hst.blk j hj hu⟩
end
end Go.Sx

import Derived.Test.YtgmmfjpmahcocaaGreatDoorMore
set_option linter.unusedVariables false
set_option linter.unusedSimpArgs false
namespace Go.Sx
open Go.RowKit
section
variable {w0 w : World} {S0 : List Nat} {L L' : List Item}
theorem St.repart (h : St w0 S0 w L) (h1 : ∀ (i : Nat) (it : Item), L'[i]? = some it -> it.Φ w /\ it.S.Nodup /\ ∀ x ∈ it.S, x ∈ fp L)
  (h2 : ∀ (i j : Nat) (a b : Item), i ≠ j -> L'[i]? = some a -> L'[j]? = some b -> ∀ x ∈ a.S, x ∉ b.S) : St w0 S0 w L' :=
 ⟨h.chg, fun i it hi => (h1 i it hi).1, fun i it hi => (h1 i it hi).2.1, h2, fun i it hi x hx => by
  obtain ⟨j, jt, hj, hb⟩ := zaV.1 ((h1 i it hi).2.2 x hx)
  exact h.own j jt hj x hb⟩
theorem St.swap (h : St w0 S0 w L) (k : Nat) {A A' B : Item} (hk : L[k]? = some A) (hA : A'.Φ w) (hAn : A'.S.Nodup) (hAs : ∀ b ∈ A'.S, b ∈ A.S) (hB : B.Φ w) (hBn : B.S.Nodup) (hBs : ∀ b ∈ B.S, b ∈ A.S) (hd : ∀ b ∈ A'.S, b ∉ B.S) :
  St w0 S0 w (L.set k A' ++ [B]) := by
 have hlt : k < L.length := (zes.1 hk).1
 have cs : ∀ (m : Nat) (it : Item), (L.set k A' ++ [B])[m]? = some it -> (m = k /\ it = A') \/ (m = L.length /\ it = B) \/ (m ≠ k /\ m < L.length /\ L[m]? = some it) := by
  intro m it hm
  rcases Nat.lt_or_ge m L.length with hml | hml
  ·rw [List.getElem?_append_left (by simpa using hml)] at hm
   by_cases e : k = m
   ·subst e
    rw [List.getElem?_set_self hlt] at hm
    exact .inl ⟨rfl, (Option.some.inj hm).symm⟩
   ·rw [List.getElem?_set_ne e] at hm
    exact .inr (.inr ⟨fun x => e x.symm, hml, hm⟩)
  ·rw [List.getElem?_append_right (by simpa using hml)] at hm
   have e : m = L.length := by
    have := (zes.1 hm).1
    simp at this
    omega
   subst e
   simp at hm
   exact .inr (.inl ⟨rfl, hm.symm⟩)
 refine h.repart (fun m it hm => ?_) (fun m n a b hmn hm hn x hxa hxb => ?_)
 ·rcases cs m it hm with ⟨_, rfl⟩ | ⟨_, rfl⟩ | ⟨_, _, hm⟩
  ·exact ⟨hA, hAn, fun x hx => zaV.2 ⟨k, _, hk, hAs x hx⟩⟩
  ·exact ⟨hB, hBn, fun x hx => zaV.2 ⟨k, _, hk, hBs x hx⟩⟩
  ·exact ⟨h.all m it hm, h.nd m it hm, fun x hx => zaV.2 ⟨m, it, hm, hx⟩⟩
 ·rcases cs m a hm with ⟨e1, rfl⟩ | ⟨e1, rfl⟩ | ⟨m1, m2, hm2⟩ <;> rcases cs n b hn with ⟨e2, rfl⟩ | ⟨e2, rfl⟩ | ⟨n1, n2, hn2⟩
  ·omega
  ·exact hd x hxa hxb
  ·exact h.apart k n A b (fun e => n1 e.symm) hk hn2 x (hAs x hxa) hxb
  ·exact hd x hxb hxa
  ·omega
  ·exact h.apart k n A b (fun e => n1 e.symm) hk hn2 x (hBs x hxa) hxb
  ·exact h.apart m k a A m1 hm2 hk x hxa (hAs x hxb)
  ·exact h.apart m k a A m1 hm2 hk x hxa (hBs x hxb)
  ·exact h.apart m n a b hmn hm2 hn2 x hxa hxb
theorem St.fuse (h : St w0 S0 w L) (k j : Nat) (hkj : Nat.beq k j = false) {A B C : Item} (hk : L[k]? = some A) (hj : L[j]? = some B) (hC : C.Φ w) (hCn : C.S.Nodup) (hCs : ∀ b ∈ C.S, b ∈ A.S \/ b ∈ B.S) :
  St w0 S0 w ((L.set k C).set j zeG) := by
 have hne : k ≠ j := Nat.ne_of_beq_eq_false hkj
 have hlk : k < L.length := (zes.1 hk).1
 have hlj : j < L.length := (zes.1 hj).1
 have cs : ∀ (m : Nat) (it : Item), ((L.set k C).set j zeG)[m]? = some it -> (m = j /\ it = zeG) \/ (m = k /\ it = C) \/ (m ≠ k /\ m ≠ j /\ L[m]? = some it) := by
  intro m it hm
  by_cases e : j = m
  ·subst e
   rw [List.getElem?_set_self (by simpa using hlj)] at hm
   exact .inl ⟨rfl, (Option.some.inj hm).symm⟩
  ·rw [List.getElem?_set_ne e] at hm
   by_cases e2 : k = m
   ·subst e2
    rw [List.getElem?_set_self hlk] at hm
    exact .inr (.inl ⟨rfl, (Option.some.inj hm).symm⟩)
   ·rw [List.getElem?_set_ne e2] at hm
    exact .inr (.inr ⟨fun x => e2 x.symm, fun x => e x.symm, hm⟩)
 have inS : ∀ x ∈ C.S, ∃ m it, (m = k \/ m = j) /\ L[m]? = some it /\ x ∈ it.S := by
  intro x hx
  rcases hCs x hx with h1 | h1
  ·exact ⟨k, A, .inl rfl, hk, h1⟩
  ·exact ⟨j, B, .inr rfl, hj, h1⟩
 refine h.repart (fun m it hm => ?_) (fun m n a b hmn hm hn x hxa hxb => ?_)
 ·rcases cs m it hm with ⟨_, rfl⟩ | ⟨_, rfl⟩ | ⟨_, _, hm⟩
  ·exact ⟨trivial, List.nodup_nil, fun x hx => absurd hx znm⟩
  ·refine ⟨hC, hCn, fun x hx => ?_⟩
   obtain ⟨m', it, _, h1, h2⟩ := inS x hx
   exact zaV.2 ⟨m', it, h1, h2⟩
  ·exact ⟨h.all m it hm, h.nd m it hm, fun x hx => zaV.2 ⟨m, it, hm, hx⟩⟩
 ·rcases cs m a hm with ⟨_, rfl⟩ | ⟨rfl, rfl⟩ | ⟨m1, m2, hm2⟩
  ·exact absurd hxa znm
  ·rcases cs n b hn with ⟨_, rfl⟩ | ⟨rfl, rfl⟩ | ⟨n1, n2, hn2⟩
   ·exact absurd hxb znm
   ·exact hmn rfl
   ·obtain ⟨y, it, hy, h1, h2⟩ := inS x hxa
    exact h.apart y n it b (by rcases hy with rfl | rfl <;> omega) h1 hn2 x h2 hxb
  ·rcases cs n b hn with ⟨_, rfl⟩ | ⟨rfl, rfl⟩ | ⟨n1, n2, hn2⟩
   ·exact absurd hxb znm
   ·obtain ⟨y, it, hy, h1, h2⟩ := inS x hxb
    exact h.apart m y a it (by rcases hy with rfl | rfl <;> omega) hm2 h1 x hxa h2
   ·exact h.apart m n a b hmn hm2 hn2 x hxa hxb
theorem St.turn (h : St w0 S0 w L) (k : Nat) {A A' : Item} (hk : L[k]? = some A) (hA : A'.Φ w) (hS : A'.S = A.S) : St w0 S0 w (L.set k A') := by
 have h2 := h.swap k (A' := A') (B := zeG) hk hA (by rw [hS]; exact h.nd k A hk) (by rw [hS]; exact fun _ hb => hb) trivial List.nodup_nil (fun b hb => absurd hb znm) (fun b _ hb => absurd hb znm)
 have hl : (L.set k A').length <= (L.set k A' ++ [zeG]).length := by simp
 refine h2.repart (fun m it hm => ?_) (fun m n a b hmn hm hn => ?_)
 ·have hm' : (L.set k A' ++ [zeG])[m]? = some it := by rw [List.getElem?_append_left (zes.1 hm).1]; exact hm
  exact ⟨h2.all m it hm', h2.nd m it hm', fun x hx => zaV.2 ⟨m, it, hm', hx⟩⟩
 ·exact h2.apart m n a b hmn (by rw [List.getElem?_append_left (zes.1 hm).1]; exact hm) (by rw [List.getElem?_append_left (zes.1 hn).1]; exact hn)
end
def zcj (w : World) (S : List Nat) (B : List Item) : Prop :=
 (∀ (i : Nat) (it : Item), B[i]? = some it -> it.Φ w /\ it.S.Nodup /\ ∀ b ∈ it.S, b ∈ S) /\ ∀ (i j : Nat) (a b : Item), i ≠ j -> B[i]? = some a -> B[j]? = some b -> ∀ x ∈ a.S, x ∉ b.S
section
variable {w0 w : World} {S0 S S1 S2 : List Nat} {L L' B B1 B2 : List Item}
theorem zcj.nil : zcj w S [] := ⟨fun i it h => by simp at h, fun i j a b _ h => by simp at h⟩
theorem zbo {β : Type} {l m : List β} {i : Nat} {u : β} (hi : (l ++ m)[i]? = some u) : (i < l.length /\ l[i]? = some u) \/ (l.length <= i /\ m[i - l.length]? = some u) := by
 rcases Nat.lt_or_ge i l.length with hlt | hge
 ·rw [List.getElem?_append_left hlt] at hi; exact .inl ⟨hlt, hi⟩
 ·rw [List.getElem?_append_right hge] at hi; exact .inr ⟨hge, hi⟩
theorem zcj.cons {it : Item} (h1 : it.Φ w) (h2 : it.S.Nodup) (h3 : ∀ b ∈ it.S, b ∈ S) (hd : ∀ b ∈ it.S, b ∉ S2) (h : zcj w S2 B) (hs : ∀ b ∈ S2, b ∈ S) : zcj w S (it :: B) := by
 refine ⟨fun i x hi => ?_, fun i j a b hij hi hj y hy => ?_⟩
 ·cases i with
  | zero => simp at hi; subst hi; exact ⟨h1, h2, h3⟩
  | succ i => obtain ⟨a1, a2, a3⟩ := h.1 i x (by simpa using hi); exact ⟨a1, a2, fun b hb => hs b (a3 b hb)⟩
 ·cases i with
  | zero =>
   cases j with
   | zero => exact absurd rfl hij
   | succ j =>
    simp at hi; subst hi
    exact fun hb => hd y hy ((h.1 j b (by simpa using hj)).2.2 y hb)
  | succ i =>
   cases j with
   | zero =>
    simp at hj; subst hj
    exact fun hb => hd y hb ((h.1 i a (by simpa using hi)).2.2 y hy)
   | succ j => exact h.2 i j a b (by omega) (by simpa using hi) (by simpa using hj) y hy
theorem St.burst {A : Item} (h : St w0 S0 w L) (j : Nat) (hj : L[j]? = some A) (hB : zcj w A.S B) : St w0 S0 w (L.set j zeG ++ B) := by
 have hlt : j < L.length := (zes.1 hj).1
 have cs : ∀ (m : Nat) (it : Item), (L.set j zeG ++ B)[m]? = some it -> (it = zeG) \/ (m ≠ j /\ m < L.length /\ L[m]? = some it) \/ (L.length <= m /\ B[m - L.length]? = some it) := by
  intro m it hm
  rcases zbo hm with ⟨h1, h2⟩ | ⟨h1, h2⟩
  ·by_cases e : j = m
   ·subst e; rw [List.getElem?_set_self hlt] at h2; exact .inl (Option.some.inj h2).symm
   ·rw [List.getElem?_set_ne e] at h2; exact .inr (.inl ⟨fun x => e x.symm, by simpa using h1, h2⟩)
  ·rw [List.length_set] at h1 h2; exact .inr (.inr ⟨h1, h2⟩)
 refine h.repart (fun m it hm => ?_) (fun m n a b hmn hm hn x hxa hxb => ?_)
 ·rcases cs m it hm with rfl | ⟨_, _, hm⟩ | ⟨_, hm⟩
  ·exact ⟨trivial, List.nodup_nil, fun x hx => absurd hx znm⟩
  ·exact ⟨h.all m it hm, h.nd m it hm, fun x hx => zaV.2 ⟨m, it, hm, hx⟩⟩
  ·obtain ⟨a1, a2, a3⟩ := hB.1 _ it hm
   exact ⟨a1, a2, fun x hx => zaV.2 ⟨j, A, hj, a3 x hx⟩⟩
 ·rcases cs m a hm with rfl | ⟨m1, m2, hm2⟩ | ⟨m1, hm2⟩
  ·exact absurd hxa znm
  ·rcases cs n b hn with rfl | ⟨n1, n2, hn2⟩ | ⟨n1, hn2⟩
   ·exact absurd hxb znm
   ·exact h.apart m n a b hmn hm2 hn2 x hxa hxb
   ·exact h.apart m j a A m1 hm2 hj x hxa ((hB.1 _ b hn2).2.2 x hxb)
  ·rcases cs n b hn with rfl | ⟨n1, n2, hn2⟩ | ⟨n1, hn2⟩
   ·exact absurd hxb znm
   ·exact h.apart n j b A n1 hn2 hj x hxb ((hB.1 _ a hm2).2.2 x hxa)
   ·exact hB.2 (m - L.length) (n - L.length) a b (by omega) hm2 hn2 x hxa hxb
theorem St.gather (h : St w0 S0 w L) (ids rest : List Nat) (hd : jF (ids ++ rest) = true) {C : Item} (hC : C.Φ w) (hn : C.S.Nodup) (hs : ∀ b ∈ C.S, b ∈ fp (sel L ids)) : St w0 S0 w (sel L rest ++ [C]) := by
 have hr : ∀ (m : Nat) (it : Item), (sel L rest)[m]? = some it -> it = zeG \/ ∃ q, rest[m]? = some q /\ L[q]? = some it := by
  intro m it hm
  obtain ⟨q, h1, h2⟩ := zdj hm
  rcases zaj h2 with h2 | h2
  ·exact .inr ⟨q, h1, h2⟩
  ·exact .inl h2
 have hc : ∀ b ∈ C.S, ∃ (k q : Nat) (it : Item), ids[k]? = some q /\ L[q]? = some it /\ b ∈ it.S := by
  intro b hb
  obtain ⟨k, it, hk, hbs⟩ := zaV.1 (hs b hb)
  obtain ⟨q, h1, h2⟩ := zdj hk
  rcases zaj h2 with h2 | rfl
  ·exact ⟨k, q, it, h1, h2, hbs⟩
  ·exact absurd hbs znm
 have cross : ∀ (m : Nat) (it : Item), (sel L rest)[m]? = some it -> ∀ x ∈ it.S, x ∉ C.S := by
  intro m it hm x hx hxc
  rcases hr m it hm with rfl | ⟨q, h1, h2⟩
  ·exact absurd hx znm
  ·obtain ⟨k, q', it', h3, h4, h5⟩ := hc x hxc
   have hlt : k < ids.length := (zes.1 h3).1
   have hne : q' ≠ q := zaW hd (i := k) (j := ids.length + m) (by omega) (by rw [List.getElem?_append_left hlt]; exact h3) (by rw [List.getElem?_append_right (by omega)]; simpa using h1)
   exact h.apart q' q it' it hne h4 h2 x h5 hx
 have cs : ∀ (m : Nat) (it : Item), (sel L rest ++ [C])[m]? = some it -> (m < (sel L rest).length /\ (sel L rest)[m]? = some it) \/ (m = (sel L rest).length /\ it = C) := by
  intro m it hm
  rcases zbo hm with ⟨h1, h2⟩ | ⟨h1, h2⟩
  ·exact .inl ⟨h1, h2⟩
  ·have := (zes.1 h2).1
   simp at this
   rw [this] at h2
   simp at h2
   exact .inr ⟨by omega, h2.symm⟩
 refine h.repart (fun m it hm => ?_) (fun m n a b hmn hm hn' x hxa hxb => ?_)
 ·rcases cs m it hm with ⟨_, hm⟩ | ⟨_, rfl⟩
  ·rcases hr m it hm with rfl | ⟨q, h1, h2⟩
   ·exact ⟨trivial, List.nodup_nil, fun x hx => absurd hx znm⟩
   ·exact ⟨h.all q it h2, h.nd q it h2, fun x hx => zaV.2 ⟨q, it, h2, hx⟩⟩
  ·refine ⟨hC, hn, fun x hx => ?_⟩
   obtain ⟨k, q', it', h3, h4, h5⟩ := hc x hx
   exact zaV.2 ⟨q', it', h4, h5⟩
 ·rcases cs m a hm with ⟨_, hm2⟩ | ⟨m1, rfl⟩
  ·rcases cs n b hn' with ⟨_, hn2⟩ | ⟨_, rfl⟩
   ·rcases hr m a hm2 with rfl | ⟨q, h1, h2⟩
    ·exact absurd hxa znm
    ·rcases hr n b hn2 with rfl | ⟨q', h3, h4⟩
     ·exact absurd hxb znm
     ·have hne : q ≠ q' := zaW hd (i := ids.length + m) (j := ids.length + n) (by omega) (by rw [List.getElem?_append_right (by omega)]; simpa using h1) (by rw [List.getElem?_append_right (by omega)]; simpa using h3)
      exact h.apart q q' a b hne h2 h4 x hxa hxb
   ·exact cross m a hm2 x hxa hxb
  ·rcases cs n b hn' with ⟨_, hn2⟩ | ⟨n1, rfl⟩
   ·exact cross n b hn2 x hxb hxa
   ·omega
end
structure Rp (α : Type) where
 sz : Nat
 own : World -> List Value -> List Nat -> α -> Prop
 rd : World -> List Nat -> α -> List Value -> Prop
 len : ∀ w cs S x, own w cs S x -> cs.length = sz
 loc : ∀ w w' cs S x, (∀ b ∈ S, w'.heap[b]? = w.heap[b]?) -> own w cs S x -> own w' cs S x
 lt : ∀ w cs S x, own w cs S x -> ∀ b ∈ S, b < w.heap.size
 nd : ∀ w cs S x, own w cs S x -> S.Nodup
 see : ∀ w cs S x F, own w cs S x -> (∀ b ∈ S, b ∉ F) -> rd w F x cs
 rlen : ∀ w F x cs, rd w F x cs -> cs.length = sz
 rloc : ∀ w w' F F' x cs, (∀ b, b < w.heap.size -> b ∉ F -> w'.heap[b]? = w.heap[b]?) -> (∀ b ∈ F', b ∈ F \/ w.heap.size <= b) -> rd w F x cs -> rd w' F' x cs
def itI {α : Type} (R : Rp α) (cs : List Value) (S : List Nat) (x : α) : Item where
 S := S
 Φ w := R.own w cs S x
 loc w w' h hb := R.loc w w' cs S x h hb
 lt w h := R.lt w cs S x h
theorem Rd.far {α : Type} {w w' : World} {F F' : List Nat} {v : Value} {enc : α -> List Value} {sz : Nat} {xs : List α} (h : Rd w F v enc sz xs) (h1 : ∀ b, b < w.heap.size -> b ∉ F -> w'.heap[b]? = w.heap[b]?) (h2 : ∀ b ∈ F', b ∈ F \/ w.heap.size <= b) :
  Rd w' F' v enc sz xs := by
 obtain ⟨hn, a, c, hv, hlc, hc⟩ := h
 refine ⟨hn, a, c, hv, hlc, fun t x f u hx hu => ?_⟩
 obtain ⟨b, o, ha, hb, hcell⟩ := hc t x f u hx hu
 have hlt : b < w.heap.size := zeT hcell
 refine ⟨b, o, ha, fun hf => ?_, (World.cell?_of_block (h1 b hlt hb)).trans hcell⟩
 rcases h2 b hf with h3 | h3
 ·exact hb h3
 ·omega
def zlP {α : Type} (enc : α -> List Value) (sz : Nat) (he : ∀ x, (enc x).length = sz) : Rp α where
 sz := sz
 own _ cs S x := cs = enc x /\ S = []
 rd _ _ x cs := cs = enc x
 len := by rintro w cs S x ⟨rfl, _⟩; exact he x
 loc := by rintro w w' cs S x _ h; exact h
 lt := by rintro w cs S x ⟨_, rfl⟩; simp
 nd := by rintro w cs S x ⟨_, rfl⟩; exact List.nodup_nil
 see := by rintro w cs S x F ⟨rfl, _⟩ _; rfl
 rlen := by rintro w F x cs rfl; exact he x
 rloc := by rintro w w' F F' x cs _ _ h; exact h
def zie {α : Type} (T : TypeId) (enc : α -> List Value) (sz : Nat) (he : ∀ x, (enc x).length = sz) (hp : 0 < sz) : Rp (List α) where
 sz := 1
 own w cs S xs := ∃ v, cs = [v] /\ S = (zas v).toList /\ zef w T sz v xs.length (zaX enc xs)
 rd w F xs cs := ∃ v, cs = [v] /\ Rd w F v enc sz xs
 len := by rintro w cs S x ⟨v, rfl, _⟩; rfl
 loc := by
  rintro w w' cs S x h ⟨v, rfl, rfl, hr⟩
  exact ⟨v, rfl, rfl, hr.loc h⟩
 lt := by
  rintro w cs S x ⟨v, rfl, rfl, hr⟩
  exact hr.lt
 nd := by
  rintro w cs S x ⟨v, rfl, rfl, hr⟩
  exact zbn
 see := by
  rintro w cs S x F ⟨v, rfl, rfl, hr⟩ hF
  exact ⟨v, rfl, zcS he hr hF⟩
 rlen := by rintro w F x cs ⟨v, rfl, _⟩; rfl
 rloc := by rintro w w' F F' x cs h1 h2 ⟨v, rfl, h⟩; exact ⟨v, rfl, h.far h1 h2⟩
def qB {α β : Type} (A : Rp α) (B : Rp β) : Rp (α × β) where
 sz := A.sz + B.sz
 own w cs S p := ∃ c1 c2 S1 S2, cs = c1 ++ c2 /\ S = S1 ++ S2 /\ (∀ b ∈ S1, b ∉ S2) /\ A.own w c1 S1 p.1 /\ B.own w c2 S2 p.2
 rd w F p cs := ∃ c1 c2, cs = c1 ++ c2 /\ A.rd w F p.1 c1 /\ B.rd w F p.2 c2
 len := by
  rintro w cs S x ⟨c1, c2, S1, S2, rfl, rfl, _, h1, h2⟩
  rw [List.length_append, A.len _ _ _ _ h1, B.len _ _ _ _ h2]
 loc := by
  rintro w w' cs S x h ⟨c1, c2, S1, S2, rfl, rfl, hd, h1, h2⟩
  exact ⟨c1, c2, S1, S2, rfl, rfl, hd, A.loc w w' _ _ _ (fun b hb => h b (zal _ hb)) h1, B.loc w w' _ _ _ (fun b hb => h b (zar _ hb)) h2⟩
 lt := by
  rintro w cs S x ⟨c1, c2, S1, S2, rfl, rfl, hd, h1, h2⟩ b hb
  rcases List.mem_append.1 hb with hb | hb
  ·exact A.lt _ _ _ _ h1 b hb
  ·exact B.lt _ _ _ _ h2 b hb
 nd := by
  rintro w cs S x ⟨c1, c2, S1, S2, rfl, rfl, hd, h1, h2⟩
  exact List.nodup_append.2 ⟨A.nd _ _ _ _ h1, B.nd _ _ _ _ h2, fun a ha b hb e => by subst e; exact hd a ha hb⟩
 see := by
  rintro w cs S x F ⟨c1, c2, S1, S2, rfl, rfl, hd, h1, h2⟩ hF
  exact ⟨c1, c2, rfl, A.see _ _ _ _ F h1 (fun b hb => hF b (zal _ hb)), B.see _ _ _ _ F h2 (fun b hb => hF b (zar _ hb))⟩
 rlen := by
  rintro w F x cs ⟨c1, c2, rfl, h1, h2⟩
  rw [List.length_append, A.rlen _ _ _ _ h1, B.rlen _ _ _ _ h2]
 rloc := by
  rintro w w' F F' x cs k1 k2 ⟨c1, c2, rfl, h1, h2⟩
  exact ⟨c1, c2, rfl, A.rloc w w' F F' _ _ k1 k2 h1, B.rloc w w' F F' _ _ k1 k2 h2⟩
def fit (n : Nat) (cs : List Value) : List Value := cs.take n ++ List.replicate (n - cs.length) undef
theorem xT (n : Nat) (cs : List Value) : (fit n cs).length = n := by simp [fit]; omega
theorem zha {n : Nat} {cs : List Value} (h : cs.length = n) : fit n cs = cs := by subst h; simp [fit]
theorem zbp {Ss : List (List Nat)} {S' : List Nat} : ∀ {i : Nat}, Ss.flatten.Nodup -> S'.Nodup -> (∀ (k : Nat) (S : List Nat), k ≠ i -> Ss[k]? = some S -> ∀ b ∈ S', b ∉ S) -> (Ss.set i S').flatten.Nodup := by
 induction Ss with
 | nil => intro i h _ _; simp
 | cons T r ih =>
  intro i h hS hx
  simp only [List.flatten_cons] at h
  obtain ⟨n1, n2, n3⟩ := List.nodup_append.1 h
  cases i with
  | zero =>
   simp only [List.set_cons_zero, List.flatten_cons]
   refine List.nodup_append.2 ⟨hS, n2, fun a ha b hb e => ?_⟩
   subst e
   obtain ⟨S, hSr, hb⟩ := List.mem_flatten.1 hb
   obtain ⟨k, hk, rfl⟩ := List.mem_iff_getElem.1 hSr
   exact hx (k + 1) _ (by omega) (by simp) a ha hb
  | succ i =>
   simp only [List.set_cons_succ, List.flatten_cons]
   refine List.nodup_append.2 ⟨n1, ih n2 hS (fun k S hk hSk => hx (k + 1) S (by omega) (by simpa using hSk)), fun a ha b hb e => ?_⟩
   subst e
   obtain ⟨S, hSr, hb2⟩ := List.mem_flatten.1 hb
   rcases List.mem_or_eq_of_mem_set hSr with hSr | rfl
   ·exact n3 a ha a (List.mem_flatten.2 ⟨S, hSr, hb2⟩) rfl
   ·exact hx 0 T (by omega) rfl a hb2 ha
theorem vR {Ss : List (List Nat)} {S' : List Nat} {i b : Nat} (h : b ∈ (Ss.set i S').flatten) : b ∈ S' \/ b ∈ Ss.flatten := by
 obtain ⟨S, hS, hb⟩ := List.mem_flatten.1 h
 rcases List.mem_or_eq_of_mem_set hS with hS | rfl
 ·exact .inr (List.mem_flatten.2 ⟨S, hS, hb⟩)
 ·exact .inl hb
theorem zfu {Ss : List (List Nat)} (h : Ss.flatten.Nodup) : ∀ {i j : Nat} {A B : List Nat}, i ≠ j -> Ss[i]? = some A -> Ss[j]? = some B -> ∀ b ∈ A, b ∉ B := by
 induction Ss with
 | nil => intro i j A B _ hi; simp at hi
 | cons T r ih =>
  intro i j A B hij hi hj b hb hb2
  simp only [List.flatten_cons] at h
  obtain ⟨n1, n2, n3⟩ := List.nodup_append.1 h
  cases i with
  | zero =>
   cases j with
   | zero => exact hij rfl
   | succ j =>
    simp only [List.getElem?_cons_zero, Option.some.injEq] at hi
    subst hi
    exact n3 b hb b (List.mem_flatten.2 ⟨B, zmg (by simpa using hj), hb2⟩) rfl
  | succ i =>
   cases j with
   | zero =>
    simp only [List.getElem?_cons_zero, Option.some.injEq] at hj
    subst hj
    exact n3 b hb2 b (List.mem_flatten.2 ⟨A, zmg (by simpa using hi), hb⟩) rfl
   | succ j => exact ih n2 (i := i) (j := j) (by omega) (by simpa using hi) (by simpa using hj) b hb hb2
theorem zlQ {β : Type} {l : List β} {t : Int} {x : β} (h : idx l t = some x) : l.set t.toNat x = l := by
 have := (zh h).2.2
 apply List.ext_getElem?
 intro i
 by_cases e : t.toNat = i
 ·subst e; rw [List.getElem?_set_self (zes.1 this).1, this]
 ·rw [List.getElem?_set_ne e]
theorem zgJ {β : Type} {n i : Nat} {a b : β} (h : (List.replicate n a)[i]? = some b) : i < n /\ a = b := by
 rw [List.getElem?_replicate] at h
 split at h
 ·rename_i hi; exact ⟨hi, by cases h; rfl⟩
 ·cases h
theorem zjZ {n : Nat} {c0 cs : List Value} (h : cs.length = n) : qt (fit n c0) cs 0 = fit n cs := by
 have h1 := xT n c0
 have h2 : (fit n c0).drop (0 + cs.length) = [] := List.drop_of_length_le (by omega)
 unfold qt
 rw [h2, zha h]
 simp
structure zf5 {α : Type} (w : World) (T : TypeId) (R : Rp α) (v : Value) (S : List Nat) (xs : List α) (ho : Option (Nat × List Value)) (css : List (List Value)) (Ss : List (List Nat)) : Prop where
 row : zef w T R.sz v xs.length (zaX (fit R.sz) css)
 lc : css.length = xs.length
 ls : Ss.length = xs.length
 hS : S = (zas v).toList ++ Ss.flatten
 nd : S.Nodup
 out : ∀ t cs, ho = some (t, cs) -> cs.length = R.sz /\ css[t]? = some cs /\ Ss[t]? = some []
 own : ∀ (i : Nat) (cs : List Value) (S' : List Nat) (x : α), (∀ c, ho ≠ some (i, c)) -> css[i]? = some cs -> Ss[i]? = some S' -> xs[i]? = some x -> R.own w cs S' x
section
variable {α : Type} {w w' : World} {T : TypeId} {R : Rp α} {v : Value} {S : List Nat} {xs : List α} {ho : Option (Nat × List Value)} {css : List (List Value)} {Ss : List (List Nat)}
theorem zf5.lt (h : zf5 w T R v S xs ho css Ss) : ∀ b ∈ S, b < w.heap.size := by
 intro b hb
 rw [h.hS] at hb
 rcases List.mem_append.1 hb with hb | hb
 ·exact h.row.lt b hb
 ·obtain ⟨S', hS', hb⟩ := List.mem_flatten.1 hb
  obtain ⟨i, hi, rfl⟩ := List.mem_iff_getElem.1 hS'
  have h1 : i < css.length := by rw [h.lc, <- h.ls]; exact hi
  have h2 : i < xs.length := by rw [<- h.ls]; exact hi
  by_cases hq : ∃ c, ho = some (i, c)
  ·obtain ⟨c, hc⟩ := hq
   have := (h.out i c hc).2.2
   rw [zeg hi] at this
   rw [Option.some.inj this] at hb
   exact absurd hb znm
  ·exact R.lt _ _ _ _ (h.own i _ _ _ (fun c hc => hq ⟨c, hc⟩) (zeg h1) (zeg hi) (zeg h2)) b hb
theorem zf5.loc (h : zf5 w T R v S xs ho css Ss) (hb : ∀ b ∈ S, w'.heap[b]? = w.heap[b]?) : zf5 w' T R v S xs ho css Ss := by
 have hS := h.hS
 refine ⟨h.row.loc (fun b hbv => hb b (by rw [hS]; exact zal _ hbv)), h.lc, h.ls, h.hS, h.nd, h.out, fun i cs S' x h1 h2 h3 h4 => R.loc w w' cs S' x (fun b hbs => hb b ?_) (h.own i cs S' x h1 h2 h3 h4)⟩
 rw [hS]
 exact zar _ (List.mem_flatten.2 ⟨S', zmg h3, hbs⟩)
theorem zcw {β : Type} {l : List β} {z u : β} {t i : Nat} (hi : (l.set t z)[i]? = some u) : (i = t /\ u = z) \/ (i ≠ t /\ l[i]? = some u) := by
 by_cases e : t = i
 ·subst e
  have hl : t < l.length := by have := (zes.1 hi).1; simpa using this
  rw [List.getElem?_set_self hl] at hi; exact .inl ⟨rfl, (Option.some.inj hi).symm⟩
 ·rw [List.getElem?_set_ne e] at hi; exact .inr ⟨fun x => e x.symm, hi⟩
theorem zf5.take (h : zf5 w T R v S xs none css Ss) {t : Nat} {x : α} (hx : xs[t]? = some x) :
  ∃ cs S1 S2, css[t]? = some cs /\ cs.length = R.sz /\ R.own w cs S2 x /\ zf5 w T R v S1 xs (some (t, cs)) css (Ss.set t []) /\ (∀ b ∈ S2, b ∈ S) /\ (∀ b ∈ S1, b ∈ S) /\ ∀ b ∈ S1, b ∉ S2 := by
 have hl := (zes.1 hx).1
 have a1 : t < css.length := by rw [h.lc]; exact hl
 have a2 : t < Ss.length := by rw [h.ls]; exact hl
 have hn := h.nd
 rw [h.hS] at hn
 obtain ⟨n1, n2, n3⟩ := List.nodup_append.1 hn
 have hown := h.own t css[t] Ss[t] x (by simp) (zeg a1) (zeg a2) hx
 have hsub : ∀ b ∈ (Ss.set t []).flatten, b ∈ Ss.flatten := fun b hb => by
  rcases vR hb with hb | hb
  ·exact absurd hb znm
  ·exact hb
 have n2' : (Ss.set t []).flatten.Nodup := zbp n2 List.nodup_nil (fun _ _ _ _ b hb => absurd hb znm)
 refine ⟨css[t], (zas v).toList ++ (Ss.set t []).flatten, Ss[t], zeg a1, R.len _ _ _ _ hown, hown, ⟨h.row, h.lc, by rw [List.length_set]; exact h.ls, rfl, ?_, fun q c e => ?_, fun i cs S' y h1 h2 h3 h4 => ?_⟩, fun b hb => ?_, fun b hb => ?_, fun b hb hb2 => ?_⟩
 ·exact List.nodup_append.2 ⟨n1, n2', fun a ha b hb e => n3 a ha b (hsub b hb) e⟩
 ·simp only [Option.some.injEq, Prod.mk.injEq] at e
  obtain ⟨rfl, rfl⟩ := e
  exact ⟨R.len _ _ _ _ hown, zeg a1, by rw [List.getElem?_set_self a2]⟩
 ·rcases zcw h3 with ⟨rfl, rfl⟩ | ⟨hne, h3⟩
  ·rw [zeg a1] at h2
   exact absurd (by rw [Option.some.inj h2]) (h1 cs)
  ·exact h.own i cs S' y (by simp) h2 h3 h4
 ·rw [h.hS]; exact zar _ (List.mem_flatten.2 ⟨Ss[t], List.getElem_mem a2, hb⟩)
 ·rw [h.hS]
  rcases List.mem_append.1 hb with hb | hb
  ·exact zal _ hb
  ·exact zar _ (hsub b hb)
 ·rcases List.mem_append.1 hb with hb | hb
  ·exact n3 b hb b (List.mem_flatten.2 ⟨Ss[t], List.getElem_mem a2, hb2⟩) rfl
  ·obtain ⟨S', hS', hb⟩ := List.mem_flatten.1 hb
   obtain ⟨i, hi, rfl⟩ := List.mem_iff_getElem.1 hS'
   rcases zcw (zeg hi) with ⟨_, e⟩ | ⟨hne, hi2⟩
   ·rw [e] at hb; exact absurd hb znm
   ·exact zfu n2 hne hi2 (zeg a2) b hb hb2
theorem zf5.give (h : zf5 w T R v S xs ho css Ss) {t : Nat} {cs : List Value} {S2 : List Nat} {x y : α} (hho : ∀ i c, ho = some (i, c) -> i = t) (hy : xs[t]? = some y) (hx : R.own w' cs S2 x) (hd : ∀ b ∈ S, b ∉ S2)
  (hw : ∀ b ∈ Ss.flatten, w'.heap[b]? = w.heap[b]?) (hrow : zef w' T R.sz v xs.length (zaX (fit R.sz) (css.set t cs))) : zf5 w' T R v ((zas v).toList ++ (Ss.set t S2).flatten) (xs.set t x) none (css.set t cs) (Ss.set t S2) := by
 have hn := h.nd
 rw [h.hS] at hn
 obtain ⟨n1, n2, n3⟩ := List.nodup_append.1 hn
 have hS := h.hS
 refine ⟨by rw [List.length_set]; exact hrow, by rw [List.length_set, List.length_set]; exact h.lc, by rw [List.length_set, List.length_set]; exact h.ls, rfl, ?_, (fun _ _ e => by cases e), fun i c S' z _ h2 h3 h4 => ?_⟩
 ·refine List.nodup_append.2 ⟨n1, zbp n2 (R.nd _ _ _ _ hx) (fun k T' _ hT b hb hb2 => hd b (by rw [hS]; exact zar _ (List.mem_flatten.2 ⟨T', zmg hT, hb2⟩)) hb), fun a ha b hb e => ?_⟩
  subst e
  rcases vR hb with hb | hb
  ·exact hd a (by rw [hS]; exact zal _ ha) hb
  ·exact n3 a ha a hb rfl
 ·rcases zcw h3 with ⟨rfl, rfl⟩ | ⟨hne, h3⟩
  ·rcases zcw h2 with ⟨_, rfl⟩ | ⟨hne, _⟩
   ·rcases zcw h4 with ⟨_, rfl⟩ | ⟨hne, _⟩
    ·exact hx
    ·exact absurd rfl hne
   ·exact absurd rfl hne
  ·rcases zcw h2 with ⟨e, _⟩ | ⟨_, h2⟩
   ·exact absurd e hne
   ·rcases zcw h4 with ⟨e, _⟩ | ⟨_, h4⟩
    ·exact absurd e hne
    ·exact R.loc w w' c S' z (fun b hb => hw b (List.mem_flatten.2 ⟨S', zmg h3, hb⟩)) (h.own i c S' z (fun c' e => hne (hho i c' e)) h2 h3 h4)
theorem zf5.app {v' : Value} {v2 : Value} {S2 : List Nat} {ys : List α} {css2 : List (List Value)} {Ss2 : List (List Nat)} (h : zf5 w T R v S xs none css Ss) (h2 : zf5 w T R v2 S2 ys none css2 Ss2) (hd : ∀ b ∈ S, b ∉ S2)
  (hw : ∀ b ∈ Ss.flatten ++ Ss2.flatten, w'.heap[b]? = w.heap[b]?) (hat : zas v' = zas v \/ zas v' = some w.heap.size) (hrow : zef w' T R.sz v' (xs.length + ys.length) (zaX (fit R.sz) css ++ zaX (fit R.sz) css2)) :
  zf5 w' T R v' ((zas v').toList ++ (Ss ++ Ss2).flatten) (xs ++ ys) none (css ++ css2) (Ss ++ Ss2) := by
 have hn := h.nd
 rw [h.hS] at hn
 obtain ⟨n1, n2, n3⟩ := List.nodup_append.1 hn
 have hn2 := h2.nd
 rw [h2.hS] at hn2
 obtain ⟨m1, m2, m3⟩ := List.nodup_append.1 hn2
 have lc := h.lc
 have ls := h.ls
 have lc2 := h2.lc
 have ls2 := h2.ls
 refine ⟨by rw [zeS, List.length_append]; exact hrow, by simp; omega, by simp; omega, rfl, ?_, (fun _ _ e => by cases e), fun i c S' z _ g2 g3 g4 => ?_⟩
 ·rw [List.flatten_append]
  refine List.nodup_append.2 ⟨zbn, List.nodup_append.2 ⟨n2, m2, fun a ha b hb e => ?_⟩, fun a ha b hb e => ?_⟩
  ·subst e; exact hd a (by rw [h.hS]; exact zar _ ha) (by rw [h2.hS]; exact zar _ hb)
  ·subst e
   rcases hat with hat | hat
   ·rw [hat] at ha
    rcases List.mem_append.1 hb with hb | hb
    ·exact n3 a ha a hb rfl
    ·exact hd a (by rw [h.hS]; exact zal _ ha) (by rw [h2.hS]; exact zar _ hb)
   ·rw [hat] at ha
    simp at ha
    have hlt : a < w.heap.size := by
     rcases List.mem_append.1 hb with hb | hb
     ·exact h.lt a (by rw [h.hS]; exact zar _ hb)
     ·exact h2.lt a (by rw [h2.hS]; exact zar _ hb)
    omega
 ·rcases zbo g2 with ⟨l1, g2⟩ | ⟨l1, g2⟩
  ·rcases zbo g3 with ⟨l2, g3⟩ | ⟨l2, g3⟩
   ·rcases zbo g4 with ⟨l3, g4⟩ | ⟨l3, g4⟩
    ·exact R.loc w w' c S' z (fun b hb => hw b (zal _ (List.mem_flatten.2 ⟨S', zmg g3, hb⟩))) (h.own i c S' z (by simp) g2 g3 g4)
    ·omega
   ·omega
  ·rcases zbo g3 with ⟨l2, g3⟩ | ⟨l2, g3⟩
   ·omega
   ·rcases zbo g4 with ⟨l3, g4⟩ | ⟨l3, g4⟩
    ·omega
    ·rw [show i - Ss.length = i - css.length by omega] at g3
     rw [show i - xs.length = i - css.length by omega] at g4
     exact R.loc w w' c S' z (fun b hb => hw b (zar _ (List.mem_flatten.2 ⟨S', zmg g3, hb⟩))) (h2.own (i - css.length) c S' z (by simp) g2 g3 g4)
end
def nI {α : Type} (T : TypeId) (R : Rp α) (v : Value) (S : List Nat) (xs : List α) (ho : Option (Nat × List Value)) : Item where
 S := S
 Φ w := ∃ css Ss, zf5 w T R v S xs ho css Ss
 loc w w' hb h := by obtain ⟨css, Ss, h⟩ := h; exact ⟨css, Ss, h.loc hb⟩
 lt w h := by obtain ⟨css, Ss, h⟩ := h; exact h.lt
theorem RdN.far {α : Type} {R : Rp α} {w w' : World} {F F' : List Nat} {v : Value} {xs : List α} (hp : 0 < R.sz) (h : RdN w F v R.rd R.sz xs) (h1 : ∀ b, b < w.heap.size -> b ∉ F -> w'.heap[b]? = w.heap[b]?) (h2 : ∀ b ∈ F', b ∈ F \/ w.heap.size <= b) : RdN w' F' v R.rd R.sz xs := by
 obtain ⟨hn, a, c, hv, hlc, hc⟩ := h
 refine ⟨hn, a, c, hv, hlc, fun t x hx => ?_⟩
 obtain ⟨cs, hDx, b, o, ha, hb, hcell⟩ := hc t x hx
 have hl := R.rlen _ _ _ _ hDx
 have hlt : b < w.heap.size := zeT (hcell 0 cs[0] (zeg (by omega)))
 refine ⟨cs, R.rloc _ _ _ _ _ _ h1 h2 hDx, b, o, ha, fun hf => ?_, fun f u hu => (World.cell?_of_block (h1 b hlt hb)).trans (hcell f u hu)⟩
 rcases h2 b hf with h3 | h3
 ·exact hb h3
 ·omega
theorem zf5.see {α : Type} {w : World} {T : TypeId} {R : Rp α} {v : Value} {S : List Nat} {xs : List α} {css : List (List Value)} {Ss : List (List Nat)} (h : zf5 w T R v S xs none css Ss) {F : List Nat} (hF : ∀ b ∈ S, b ∉ F) : RdN w F v R.rd R.sz xs := by
 have hS := h.hS
 have hrd : Rd w F v (fit R.sz) R.sz css := by
  have hrow := h.row
  rw [<- h.lc] at hrow
  exact zcS (fun x => xT _ x) hrow (fun b hb => hF b (by rw [hS]; exact zal _ hb))
 obtain ⟨hn, a, c, hv, hlc, hc⟩ := hrd
 refine ⟨by rw [<- h.lc]; exact hn, a, c, by rw [hv, h.lc], by rw [<- h.lc]; exact hlc, fun t x hx => ?_⟩
 have hl := (zes.1 hx).1
 have a1 : t < css.length := by rw [h.lc]; exact hl
 have a2 : t < Ss.length := by rw [h.ls]; exact hl
 have hown := h.own t css[t] Ss[t] x (by simp) (zeg a1) (zeg a2) hx
 have hlen := R.len _ _ _ _ hown
 refine ⟨css[t], R.see _ _ _ _ F hown (fun b hb => hF b (by rw [hS]; exact zar _ (List.mem_flatten.2 ⟨Ss[t], List.getElem_mem a2, hb⟩))), ?_⟩
 rcases h.row.2 with ⟨h0, _⟩ | ⟨g, o, cap, cur, rfl, hp, hg, hnc, hm, hcs, htake⟩
 ·omega
 ·simp only [Value.slice.injEq] at hv
  obtain ⟨rfl, _, _⟩ := hv
  refine ⟨g, o, rfl, hF g (by rw [hS]; exact zal _ (by simp [zbB hp])), fun f u hu => ?_⟩
  obtain ⟨b', o', hb', _, hcell⟩ := hc t css[t] f u (zeg a1) (by rw [zha hlen]; exact hu)
  simp only [Option.some.injEq, Addr.mk.injEq, and_true] at hb'
  obtain ⟨rfl, rfl⟩ := hb'
  exact hcell
def shd (a : Option Addr) (c lo sz : Nat) : Option Addr := if c = lo then a else a.map (·.add (lo * sz))
theorem zmW {α : Type} {xs ys : List α} {lo hi : Int} (h : cut xs lo hi = some ys) {t : Nat} {x : α} (hx : ys[t]? = some x) : xs[lo.toNat + t]? = some x := by
 obtain ⟨h0, h1, h2, rfl⟩ := zbT h
 rw [List.getElem?_drop, List.getElem?_take] at hx
 split at hx
 ·exact hx
 ·cases hx
theorem Rd.part {α : Type} {w : World} {S : List Nat} {a : Option Addr} {n c : Nat} {enc : α -> List Value} {sz : Nat} {xs ys : List α} {lo hi : Int} (h : Rd w S (.slice a n c) enc sz xs) (hc : cut xs lo hi = some ys) :
  Rd w S (.slice (shd a c lo.toNat sz) ys.length (c - lo.toNat)) enc sz ys := by
 obtain ⟨hn, a', c', hv, hlc, hcell⟩ := h
 simp only [Value.slice.injEq] at hv
 obtain ⟨rfl, rfl, rfl⟩ := hv
 obtain ⟨h0, h1, h2, _⟩ := zbT hc
 have hl := zgM hc
 refine ⟨by omega, _, _, rfl, by omega, fun t x f u hx hu => ?_⟩
 obtain ⟨b, o, rfl, hb, hcl⟩ := hcell _ x f u (zmW hc hx) hu
 have hlt := (zes.1 hx).1
 refine ⟨b, o + lo.toNat * sz, ?_, hb, ?_⟩
 ·unfold shd
  rw [if_neg (by omega), Option.map_some, za7]
 ·rw [Nat.add_mul, <- Nat.add_assoc] at hcl
  exact hcl
theorem Rd.pre {α : Type} {w : World} {S : List Nat} {a : Option Addr} {n c : Nat} {enc : α -> List Value} {sz : Nat} {xs ys : List α} {hi : Int} (h : Rd w S (.slice a n c) enc sz xs) (hc : cut xs 0 hi = some ys) : Rd w S (.slice a ys.length c) enc sz ys := by
 have h2 := h.part hc
 have e : shd a c (Int.toNat 0) sz = a := by
  unfold shd
  split
  ·rfl
  ·cases a with
   | none => rfl
   | some z => simp [Addr.add]
 rw [e] at h2
 exact h2
section
variable {P : Program} {N : Nat} {fr : List (Nat × Value)}
theorem zmX {α : Type} {o : Oper} {t e : TypeId} {x y : Operand} {a : Option Addr} {n c : Nat} {q : Int} {kd : IntKind} {xs ys : List α} (sz : Nat) (ho : o.op = .slice t x (some y) none none) (hx : look fr x = some (.slice a n c)) (hn : n = xs.length) (hy : look fr y = some (.int kd q))
  (hc : cut xs q (xs.length : Int) = some ys) (ht : P.underlying t = some (.slice e)) (hs : zbz P (sizeOf e) = some sz) : ∀ b w, Rep N fr b -> (execOp b.eval o).run P w = .ok (.value (.slice (shd a c q.toNat sz) ys.length (c - q.toNat))) w := by
 intro b w hb
 have e1 := hb.look hx
 have e2 := hb.look hy
 obtain ⟨h0, h1, h2, _⟩ := zbT hc
 have hl := zgM hc
 subst hn
 have h3 : 0 <= q /\ q <= (xs.length : Int) := ⟨h0, h1⟩
 have e3 : xs.length - q.toNat = ys.length := by omega
 simp [execOp, ho, Instr.sliceAt, Instr.slice, Instr.sliceBounds, Instr.sliceBound, run_underlying ht, e1, e2, asIntOf, h3, jE hs, e3, shd]
theorem zk5 {α : Type} {o : Oper} {t e : TypeId} {x y z : Operand} {a : Option Addr} {n c : Nat} {q r : Int} {kd ke : IntKind} {xs ys : List α} (sz : Nat) (ho : o.op = .slice t x (some y) (some z) none) (hx : look fr x = some (.slice a n c)) (hy : look fr y = some (.int kd q)) (hz : look fr z = some (.int ke r))
  (hc : cut xs q r = some ys) (hcap : xs.length <= c) (ht : P.underlying t = some (.slice e)) (hs : zbz P (sizeOf e) = some sz) : ∀ b w, Rep N fr b -> (execOp b.eval o).run P w = .ok (.value (.slice (shd a c q.toNat sz) ys.length (c - q.toNat))) w := by
 intro b w hb
 have e1 := hb.look hx
 have e2 := hb.look hy
 have e4 := hb.look hz
 obtain ⟨h0, h1, h2, _⟩ := zbT hc
 have hl := zgM hc
 have h3 : 0 <= r /\ r <= (c : Int) := ⟨by omega, by omega⟩
 have h5 : 0 <= q /\ q <= r := ⟨h0, h1⟩
 have h6 : (r.toNat : Int) = r := by omega
 have e3 : r.toNat - q.toNat = ys.length := by omega
 simp [execOp, ho, Instr.sliceAt, Instr.slice, Instr.sliceBounds, Instr.sliceBound, run_underlying ht, e1, e2, e4, asIntOf, h3, h5, h6, jE hs, e3, shd]
end
theorem Rd.cap {α : Type} {w : World} {S : List Nat} {a : Option Addr} {n c : Nat} {enc : α -> List Value} {sz : Nat} {xs : List α} (h : Rd w S (.slice a n c) enc sz xs) : xs.length <= c := by
 obtain ⟨_, a', c', hv, hlc, _⟩ := h
 simp only [Value.slice.injEq] at hv
 obtain ⟨_, _, rfl⟩ := hv
 exact hlc
def zol {α : Type} (T : TypeId) (R : Rp α) (hp : 0 < R.sz) : Rp (List α) where
 sz := 1
 own w cs S xs := ∃ v, cs = [v] /\ ∃ css Ss, zf5 w T R v S xs none css Ss
 rd w F xs cs := ∃ v, cs = [v] /\ RdN w F v R.rd R.sz xs
 len := by rintro w cs S x ⟨v, rfl, _⟩; rfl
 loc := by rintro w w' cs S x h ⟨v, rfl, css, Ss, hr⟩; exact ⟨v, rfl, css, Ss, hr.loc h⟩
 lt := by rintro w cs S x ⟨v, rfl, css, Ss, hr⟩; exact hr.lt
 nd := by rintro w cs S x ⟨v, rfl, css, Ss, hr⟩; exact hr.nd
 see := by rintro w cs S x F ⟨v, rfl, css, Ss, hr⟩ hF; exact ⟨v, rfl, hr.see hF⟩
 rlen := by rintro w F x cs ⟨v, rfl, _⟩; rfl
 rloc := by rintro w w' F F' x cs h1 h2 ⟨v, rfl, h⟩; exact ⟨v, rfl, h.far hp h1 h2⟩
def zel {α : Type} (T : TypeId) (R : Rp α) : Rp α where
 sz := 1
 own w cs S x := ∃ b cs' S', cs = [.pointer (some ⟨b, 0, none⟩)] /\ S = b :: S' /\ b ∉ S' /\ w.heap[b]? = some (.cells cs'.toArray T (0, 0)) /\ R.own w cs' S' x
 rd w F x cs := ∃ b cs', cs = [.pointer (some ⟨b, 0, none⟩)] /\ b ∉ F /\ w.heap[b]? = some (.cells cs'.toArray T (0, 0)) /\ R.rd w F x cs'
 len := by rintro w cs S x ⟨b, cs', S', rfl, _⟩; rfl
 loc := by
  rintro w w' cs S x h ⟨b, cs', S', rfl, rfl, hb, hh, hr⟩
  exact ⟨b, cs', S', rfl, rfl, hb, by rw [h b zcs]; exact hh, R.loc w w' _ _ _ (fun c hc => h c (zcm _ hc)) hr⟩
 lt := by
  rintro w cs S x ⟨b, cs', S', rfl, rfl, hb, hh, hr⟩ c hc
  rcases List.mem_cons.1 hc with rfl | hc
  ·exact (Array.getElem?_eq_some_iff.1 hh).1
  ·exact R.lt _ _ _ _ hr c hc
 nd := by
  rintro w cs S x ⟨b, cs', S', rfl, rfl, hb, hh, hr⟩
  exact List.nodup_cons.2 ⟨hb, R.nd _ _ _ _ hr⟩
 see := by
  rintro w cs S x F ⟨b, cs', S', rfl, rfl, hb, hh, hr⟩ hF
  exact ⟨b, cs', rfl, hF b zcs, hh, R.see _ _ _ _ F hr (fun c hc => hF c (zcm _ hc))⟩
 rlen := by rintro w F x cs ⟨b, cs', rfl, _⟩; rfl
 rloc := by
  rintro w w' F F' x cs h1 h2 ⟨b, cs', rfl, hb, hh, hr⟩
  have hlt := (Array.getElem?_eq_some_iff.1 hh).1
  refine ⟨b, cs', rfl, fun hf => ?_, by rw [h1 b hlt hb]; exact hh, R.rloc w w' F F' x cs' h1 h2 hr⟩
  rcases h2 b hf with h3 | h3
  ·exact hb h3
  ·omega
def qC {α β : Type} (f : α -> List Value -> List Value) (sz : Nat) (hl : ∀ x vs, (f x vs).length = sz) (g : α -> β) (R : Rp β) : Rp α where
 sz := sz
 own w cs S x := ∃ vs, cs = f x vs /\ R.own w vs S (g x)
 rd w F x cs := ∃ vs, cs = f x vs /\ R.rd w F (g x) vs
 len := by rintro w cs S x ⟨vs, rfl, _⟩; exact hl x vs
 loc := by rintro w w' cs S x hb ⟨vs, rfl, h⟩; exact ⟨vs, rfl, R.loc w w' _ _ _ hb h⟩
 lt := by rintro w cs S x ⟨vs, rfl, h⟩; exact R.lt _ _ _ _ h
 nd := by rintro w cs S x ⟨vs, rfl, h⟩; exact R.nd _ _ _ _ h
 see := by rintro w cs S x F ⟨vs, rfl, h⟩ hF; exact ⟨vs, rfl, R.see _ _ _ _ F h hF⟩
 rlen := by rintro w F x cs ⟨vs, rfl, _⟩; exact hl x vs
 rloc := by rintro w w' F F' x cs h1 h2 ⟨vs, rfl, h⟩; exact ⟨vs, rfl, R.rloc w w' F F' _ _ h1 h2 h⟩
theorem Rd.isnil {α : Type} {w : World} {S : List Nat} {a : Option Addr} {n c : Nat} {enc : α -> List Value} {sz : Nat} {xs : List α} (h : Rd w S (.slice a n c) enc sz xs) (he : ∀ x, ∃ u, (enc x)[0]? = some u) (ha : a.isNone = true) : xs = [] := by
 cases xs with
 | nil => rfl
 | cons x r =>
  obtain ⟨_, a', c', hv, _, hc⟩ := h
  obtain ⟨u, hu⟩ := he x
  obtain ⟨b, o, e, _⟩ := hc 0 x 0 u rfl hu
  cases hv
  rw [e] at ha
  cases ha
theorem zge {α : Type} {T : TypeId} {enc : α -> List Value} {sz : Nat} {he : ∀ x, (enc x).length = sz} {hp : 0 < sz} {w : World} {cs : List Value} {S : List Nat} {x : List α} (h : (zie T enc sz he hp).own w cs S x) : zhP cs = true := by
 obtain ⟨v, rfl, rfl, hr⟩ := h
 rcases hr.2 with ⟨_, a, rfl⟩ | ⟨g, o, cap, cur, rfl, _⟩ <;> rfl
section
variable {w0 w : World} {S0 : List Nat} {L : List Item} {α : Type} {R : Rp α}
theorem St.toIt {T : TypeId} {v : Value} {enc : α -> List Value} {sz : Nat} {ys : List α} (h : St w0 S0 w L) (j : Nat) (hj : L[j]? = some (qH v T enc sz ys)) (he : ∀ x, (enc x).length = sz) (hp : 0 < sz) :
  St w0 S0 w (L.set j (itI (zie T enc sz he hp) [v] (zas v).toList ys)) := h.turn j hj ⟨v, rfl, rfl, h.all j _ hj⟩ rfl
theorem St.toRow {cs : List Value} {S : List Nat} {T : TypeId} {enc : α -> List Value} {sz : Nat} {ys : List α} {he : ∀ x, (enc x).length = sz} {hp : 0 < sz} (h : St w0 S0 w L) (j : Nat) (hj : L[j]? = some (itI (zie T enc sz he hp) cs S ys)) :
  ∃ v, cs = [v] /\ St w0 S0 w (L.set j (qH v T enc sz ys)) := by
 obtain ⟨v, rfl, rfl, hr⟩ := h.all j _ hj
 exact ⟨v, rfl, h.turn j hj hr rfl⟩
theorem St.see {cs : List Value} {S : List Nat} {x : α} (h : St w0 S0 w L) (j : Nat) (hj : L[j]? = some (itI R cs S x)) (ids : List Nat) (hn : mem? j ids = false) : R.rd w (fp (sel L ids)) x cs :=
 R.see _ _ _ _ _ (h.all j _ hj) (h.noin j hj ids hn)
theorem St.seeN {v : Value} {S : List Nat} {T : TypeId} {xs : List α} (h : St w0 S0 w L) (j : Nat) (hj : L[j]? = some (nI T R v S xs none)) (ids : List Nat) (hn : mem? j ids = false) : RdN w (fp (sel L ids)) v R.rd R.sz xs := by
 obtain ⟨css, Ss, hr⟩ := h.all j _ hj
 exact hr.see (h.noin j hj ids hn)
theorem RdN.give {v : Value} {xs : List α} (hp : 0 < R.sz) (h : RdN w0 S0 v R.rd R.sz xs) (hst : St w0 S0 w L) (ids : List Nat) : RdN w (fp (sel L ids)) v R.rd R.sz xs := by
 refine h.far hp (fun b h1 h2 => hst.chg.block b h1 h2) (fun b hf => ?_)
 obtain ⟨j, it, hj, hbs⟩ := zaV.1 hf
 obtain ⟨k, _, hk⟩ := zdj hj
 rcases zaj hk with hk | rfl
 ·exact hst.own k it hk b hbs
 ·cases hbs
end
section
variable {w0 w : World} {S0 : List Nat} {L : List Item} {α : Type} {T : TypeId} {R : Rp α} {v : Value} {S : List Nat} {xs : List α} {ho : Option (Nat × List Value)}
theorem St.nlen (h : St w0 S0 w L) (j : Nat) (hj : L[j]? = some (nI T R v S xs ho)) : xs.length <= 9223372036854775807 /\ ∃ a c, v = .slice a xs.length c := by
 obtain ⟨css, Ss, hr⟩ := h.all j _ hj
 rcases hr.row.2 with ⟨hn, a, rfl⟩ | ⟨g, o, cap, cur, rfl, _, hg, hnc, hm, _, htake⟩
 ·exact ⟨by omega, a, 0, by rw [hn]⟩
 ·refine ⟨?_, _, _, rfl⟩
  simp only [maxLen] at hm
  omega
theorem St.nrowv (h : St w0 S0 w L) (j : Nat) (hj : L[j]? = some (nI T R v S xs ho)) {t : Int} {x : α} (hx : idx xs t = some x) : ∃ g o cap, v = .slice (some ⟨g, o, none⟩) xs.length cap := by
 obtain ⟨css, Ss, hr⟩ := h.all j _ hj
 obtain ⟨h0, h1, h2⟩ := zh hx
 rcases hr.row.2 with ⟨hn, a, rfl⟩ | ⟨g, o, cap, cur, rfl, _⟩
 ·omega
 ·exact ⟨g, o, cap, rfl⟩
theorem zf5.cells {css : List (List Value)} {Ss : List (List Nat)} (hr : zf5 w T R v S xs ho css Ss) {t : Nat} {cs : List Value} (hc : css[t]? = some cs) (hl : cs.length = R.sz) {g o n cap : Nat} (hv : v = .slice (some ⟨g, o, none⟩) n cap) : ∀ f u, cs[f]? = some u -> w.cell? ⟨g, o + t * R.sz + f, none⟩ = some u := by
 intro f u hu
 have ht := (zes.1 hc).1
 have hlc := hr.lc
 rcases hr.row.2 with ⟨hn, _⟩ | ⟨g', o', cap', cur, rfl, _, hg, _, _, _, htake⟩
 ·omega
 ·simp only [Value.slice.injEq, Option.some.injEq, Addr.mk.injEq, and_true] at hv
  obtain ⟨⟨rfl, rfl⟩, _, _⟩ := hv
  have := zeh (fun x => xT R.sz x) hc (u := u) (f := f) (by rw [zha hl]; exact hu)
  rw [<- htake, List.getElem?_take] at this
  split at this
  ·rw [cell_of_row w g' _ cur T (0, 0) hg, Nat.add_assoc]
   rw [List.getElem?_drop] at this
   simpa using this
  ·cases this
theorem St.nout (h : St w0 S0 w L) (j : Nat) (hj : L[j]? = some (nI T R v S xs none)) {t : Int} {x : α} (hx : idx xs t = some x) {g o n cap : Nat} (hv : v = .slice (some ⟨g, o, none⟩) n cap) :
  ∃ cs S1 S2, cs.length = R.sz /\ (∀ f u, cs[f]? = some u -> w.cell? ⟨g, o + t.toNat * R.sz + f, none⟩ = some u) /\ St w0 S0 w (L.set j (nI T R v S1 xs (some (t.toNat, cs))) ++ [itI R cs S2 x]) := by
 obtain ⟨css, Ss, hr⟩ := h.all j _ hj
 obtain ⟨cs, S1, S2, hc, hl, hown, hr2, h1, h2, h3⟩ := hr.take (zh hx).2.2
 exact ⟨cs, S1, S2, hl, hr.cells hc hl hv, h.swap j hj ⟨css, _, hr2⟩ hr2.nd h2 hown (R.nd _ _ _ _ hown) h1 h3⟩
theorem St.nout1 (h : St w0 S0 w L) (j : Nat) (hj : L[j]? = some (nI T R v S xs none)) (hs : R.sz = 1) {t : Int} {x : α} (hx : idx xs t = some x) {g o n cap : Nat} (hv : v = .slice (some ⟨g, o, none⟩) n cap) :
  ∃ u S1 S2, w.cell? ⟨g, o + t.toNat * 1, none⟩ = some u /\ St w0 S0 w (L.set j (nI T R v S1 xs (some (t.toNat, [u]))) ++ [itI R [u] S2 x]) := by
 obtain ⟨cs, S1, S2, hl, hc, hst⟩ := h.nout j hj hx hv
 rw [hs] at hl hc
 match cs, hl with
 | [u], _ => exact ⟨u, S1, S2, hc 0 u rfl, hst⟩
theorem St.fptr {U : TypeId} {u : Value} {x : α} (h : St w0 S0 w L) (j : Nat) (hj : L[j]? = some (itI (zel U R) [u] S x)) : ∃ b, u = .pointer (some ⟨b, 0, none⟩) := by
 obtain ⟨b, cs', S', hv, _⟩ := h.all j _ hj
 cases hv
 exact ⟨b, rfl⟩
theorem St.nback (h : St w0 S0 w L) (k j : Nat) (hkj : Nat.beq k j = false) {t : Int} {cs : List Value} {S2 : List Nat} {x y : α} (hk : L[k]? = some (nI T R v S xs (some (t.toNat, cs)))) (hj : L[j]? = some (itI R cs S2 y)) (hx : idx xs t = some x) :
  ∃ S', St w0 S0 w ((L.set k (nI T R v S' (xs.set t.toNat y) none)).set j zeG) := by
 obtain ⟨css, Ss, hr⟩ := h.all k _ hk
 obtain ⟨_, h2, h3⟩ := hr.out _ _ rfl
 have hset : css.set t.toNat cs = css := by
  apply List.ext_getElem?
  intro i
  by_cases e : t.toNat = i
  ·subst e; rw [List.getElem?_set_self (zes.1 h2).1, h2]
  ·rw [List.getElem?_set_ne e]
 have hd : ∀ b ∈ S, b ∉ S2 := h.apart k j _ _ (Nat.ne_of_beq_eq_false hkj) hk hj
 have hown : R.own w cs S2 y := h.all j _ hj
 have := hr.give (w' := w) (x := y) (fun i c e => by simp only [Option.some.injEq, Prod.mk.injEq] at e; exact e.1.symm) (zh hx).2.2 hown hd (fun _ _ => rfl) (by rw [hset]; exact hr.row)
 refine ⟨_, h.fuse k j hkj hk hj ⟨_, _, this⟩ this.nd (fun b hb => ?_)⟩
 rcases List.mem_append.1 hb with hb | hb
 ·exact .inl (by show b ∈ S; rw [hr.hS]; exact zal _ hb)
 ·rcases vR hb with hb | hb
  ·exact .inr hb
  ·exact .inl (by show b ∈ S; rw [hr.hS]; exact zar _ hb)
theorem St.nback0 (h : St w0 S0 w L) (k j : Nat) (hkj : Nat.beq k j = false) {t : Int} {cs : List Value} {S2 : List Nat} {x : α} (hk : L[k]? = some (nI T R v S xs (some (t.toNat, cs)))) (hj : L[j]? = some (itI R cs S2 x)) (hx : idx xs t = some x) :
  ∃ S', St w0 S0 w ((L.set k (nI T R v S' xs none)).set j zeG) := by
 have := h.nback k j hkj hk hj hx
 rwa [zlQ hx] at this
theorem St.nNil (h : St w0 S0 w L) (T : TypeId) (R : Rp α) (a : Option Addr) : St w0 S0 w (L ++ [nI T R (.slice a 0 0) [] [] none]) :=
 h.push (Chg.refl _ _) ⟨[], [], ⟨by simpa [zaX] using zef.nil w T R.sz a, rfl, rfl, by simp [zgG], List.nodup_nil, (fun _ _ e => by cases e), fun i cs S x _ hc => by simp at hc⟩⟩ (fun b hb => by simp [nI] at hb) List.nodup_nil
theorem St.nNew {sz : Nat} (h : St w0 S0 w L) (j : Nat) (R : Rp α) (hs : sz = R.sz) {cs : List Value} {n : Nat} (hj : L[j]? = some (qH v T (fit sz) sz (List.replicate n cs))) (x : α) (hx : ∀ w, R.own w cs [] x) : St w0 S0 w (L.set j (nI T R v (zas v).toList (List.replicate n x) none)) := by
 subst hs
 have e : (List.replicate n ([] : List Nat)).flatten = [] := by
  clear hj
  induction n with
  | zero => rfl
  | succ n ih => simp [List.replicate_succ, ih]
 have hrow := h.all j _ hj
 refine h.turn j hj ⟨List.replicate n cs, List.replicate n [], ⟨by simpa [qH] using hrow, by simp, by simp, by rw [e, List.append_nil], zbn, (fun _ _ e => by cases e), fun i c S' z _ hc hS hz => ?_⟩⟩ rfl
 obtain ⟨_, rfl⟩ := zgJ hc
 obtain ⟨_, rfl⟩ := zgJ hS
 obtain ⟨_, rfl⟩ := zgJ hz
 exact hx w
end
theorem zef.write {α : Type} {w : World} {T : TypeId} {sz : Nat} {enc : α -> List Value} {v : Value} {xs : List α} (hr : zef w T sz v xs.length (zaX enc xs)) (he : ∀ x, (enc x).length = sz) {g o n cap : Nat} (hv : v = .slice (some ⟨g, o, none⟩) n cap) {q : Nat} {z z' : α} (hz : xs[q]? = some z) {f k : Nat} {vs : List Value} (hk : k = o + q * sz + f)
  (hf : f + vs.length <= sz) (hz' : qt (enc z) vs f = enc z') : ∃ cur, w.heap[g]? = some (.cells cur T (0, 0)) /\ k + vs.length <= cur.size /\ zas v = some g /\ zef (w.setRow g (qt cur.toList vs k).toArray) T sz v xs.length (zaX enc (xs.set q z')) := by
 subst hv
 have hql := (zes.1 hz).1
 rcases hr.2 with ⟨hn, _⟩ | ⟨g', o', cap', cur, hc, hp, hgc, hnc, hm, hcs, htake⟩
 ·omega
 ·simp only [Value.slice.injEq, Option.some.injEq, Addr.mk.injEq, and_true] at hc
  obtain ⟨⟨rfl, rfl⟩, rfl, rfl⟩ := hc
  have hsz : q * sz + sz <= xs.length * sz := by rw [<- Nat.succ_mul]; exact Nat.mul_le_mul_right _ hql
  have hcap : xs.length * sz <= cap * sz := Nat.mul_le_mul_right _ hnc
  have hfit : k + vs.length <= cur.size := by rw [hk]; omega
  have hlen : (qt cur.toList vs k).length = cur.size := by simp [qt] at hfit |-; omega
  refine ⟨cur, hgc, hfit, zbB hp, ⟨by rw [xS he, List.length_set], .inr ⟨g, o, cap, _, by simp, hp, setRow_heap w g cur _ T _ hgc, by simpa using hnc, hm, by rw [List.size_toArray, hlen]; exact hcs, ?_⟩⟩⟩
  have hset := zhz he (f := f) (vs := vs) hz hf hz'
  rw [<- hset, <- htake]
  rw [zdk (by omega) (by omega) (by have := @Array.length_toList _ cur; omega)]
  congr 1
  omega
section
variable {P : Program} {N : Nat} {Q : Exit -> Act -> World -> Prop} {fr fr' : List (Nat × Value)} {w w0 : World} {l : List Oper} {i : Nat} {o : Oper} {S0 : List Nat} {L : List Item} {α : Type} {R : Rp α}
theorem OW.stN {t : TypeId} {x y : Operand} {ty : TypeId} {pos : String} {af : Array Edge} {gdd : Option (Nat × Bool)} (hst : St w0 S0 w L) (k j : Nat) (hkj : Nat.beq k j = false) {hd : Value} {g o cap n : Nat} {T : TypeId} {S S2 : List Nat} {xs : List α} {ho : Option (Nat × List Value)} {cs : List Value} {z u : α} {q : Int}
  (hk : L[k]? = some (nI T R hd S xs ho)) (hho : ∀ i c, ho = some (i, c) -> i = q.toNat) (hj : L[j]? = some (itI R cs S2 u)) (hv : hd = .slice (some ⟨g, o, none⟩) n cap)
  (hl : vy l i = some ⟨none, .store t x y, ty, pos, af, gdd⟩) (hg : gd l fr ⟨none, .store t x y, ty, pos, af, gdd⟩ = some true)
  (hz : Sx.idx xs q = some z) {v : Value} {a : Nat} (hx : look fr x = some (.pointer (some ⟨g, a, none⟩))) (ha : a = o + q.toNat * R.sz) (hy : look fr y = some v) (hc : v.cells.toList = cs)
  (hs : zbz P (sizeOf t) = some v.cells.toList.length) (h1 : zhP v.cells.toList = true)
  (h : ∀ S' w', St w0 S0 w' ((L.set k (nI T R hd S' (xs.set q.toNat u) none)).set j zeG) -> OW P l N Q (i + 1) fr w') : OW P l N Q i fr w := by
 obtain ⟨css, Ss, hr⟩ := hst.all k _ hk
 have hown : R.own w cs S2 u := hst.all j _ hj
 have hlen := R.len _ _ _ _ hown
 obtain ⟨h0, hq, hq2⟩ := zh hz
 have hdis : ∀ b ∈ S, b ∉ S2 := hst.apart k j _ _ (Nat.ne_of_beq_eq_false hkj) hk hj
 have a1 : q.toNat < css.length := by rw [hr.lc]; omega
 have hrow : zef w T R.sz hd css.length (zaX (fit R.sz) css) := by rw [hr.lc]; exact hr.row
 obtain ⟨cur, hgc, hfit, hob, hnew⟩ := zef.write hrow (fun x => xT _ x) hv (q := q.toNat) (z := css[q.toNat]) (z' := cs) (zeg a1) (f := 0) (k := a) (vs := cs) (by omega) (by omega) (zjZ hlen)
 subst hc
 refine OW.ops hl hg rfl (w' := w.setRow g (qt cur.toList v.cells.toList a).toArray) (fun b hb => ?_) (h ((zas hd).toList ++ (Ss.set q.toNat S2).flatten) _ ?_)
 ·have e1 := hb.look hx
  have e2 := hb.look hy
  have := zfP (P := P) (w := w) (T := T) (g := g) hs h1 hgc hfit
  simp [execOp, e1, e2, this]
 ·have hchg : Chg [g] w (w.setRow g (qt cur.toList v.cells.toList a).toArray) := ⟨rfl, rfl, rfl, by simp [World.setRow], fun q _ hn => setRow_other w g q _ (by rintro rfl; exact hn (by simp))⟩
  have hgS : g ∈ S := by rw [hr.hS]; exact zal _ (by simp [hob])
  have hn := hr.nd
  rw [hr.hS] at hn
  have hn3 := (List.nodup_append.1 hn).2.2
  have hlt := hr.lt
  have hown' : R.own (w.setRow g (qt cur.toList v.cells.toList a).toArray) v.cells.toList S2 u := R.loc _ _ _ _ _ (fun b hb => hchg.block b (R.lt _ _ _ _ hown b hb) (by simp only [List.mem_singleton]; rintro rfl; exact hdis _ hgS hb)) hown
  have hgive := hr.give (w' := w.setRow g (qt cur.toList v.cells.toList a).toArray) (x := u) hho hq2 hown' hdis (fun b hb => hchg.block b (hlt b (by rw [hr.hS]; exact zar _ hb)) (by simp only [List.mem_singleton]; rintro rfl; exact hn3 b (by simp [hob]) b hb rfl)) (by rw [<- hr.lc]; exact hnew)
  have hold : Item := zeG
  have hsub : ∀ b ∈ (zas hd).toList ++ (Ss.set q.toNat S2).flatten, b ∈ S \/ b ∈ S2 := fun b hb => by
   rcases List.mem_append.1 hb with hb | hb
   ·exact .inl (by rw [hr.hS]; exact zal _ hb)
   ·rcases vR hb with hb | hb
    ·exact .inr hb
    ·exact .inl (by rw [hr.hS]; exact zar _ hb)
  let A : Item := ⟨(zas hd).toList ++ (Ss.set q.toNat S2).flatten, fun w1 => ∀ b ∈ (zas hd).toList ++ (Ss.set q.toNat S2).flatten, b < w1.heap.size, fun w1 w2 hb hh b hb2 => by
   have h1 := hh b hb2
   have h2 := hb b hb2
   rw [Array.getElem?_eq_getElem h1] at h2
   exact (Array.getElem?_eq_some_iff.1 h2).1, fun w1 hh => hh⟩
  have hA : St w0 S0 w ((L.set k A).set j zeG) := hst.fuse k j hkj hk hj (C := A) (fun b hb => by
   rcases hsub b hb with hb | hb
   ·exact hlt b hb
   ·exact R.lt _ _ _ _ hown b hb) hgive.nd hsub
  have hlk : k < L.length := (zes.1 hk).1
  have hkA : ((L.set k A).set j zeG)[k]? = some A := by
   rw [List.getElem?_set_ne (fun e => Nat.ne_of_beq_eq_false hkj e.symm), List.getElem?_set_self hlk]
  have := hA.upd k hkA (it' := nI T R hd ((zas hd).toList ++ (Ss.set q.toNat S2).flatten) (xs.set q.toNat u) none) (hchg.mono (fun b hb => by simp only [List.mem_singleton] at hb; subst hb; exact zal _ (by simp [hob]))) ⟨_, _, hgive⟩ (fun b hb => .inl hb) hgive.nd
  rw [List.set_comm _ _ (fun e => Nat.ne_of_beq_eq_false hkj e.symm), List.set_set] at this
  exact this
theorem OW.appN {d t e : Nat} {x y : Operand} {ty : TypeId} {pos : String} {af : Array Edge} {gdd : Option (Nat × Bool)} {ats : List Nat} (hst : St w0 S0 w L) (k j : Nat) (hkj : Nat.beq k j = false) {v v2 : Value} {S S2 : List Nat} {xs ys : List α} {bytes : Nat}
  (hk : L[k]? = some (nI e R v S xs none)) (hj : L[j]? = some (nI e R v2 S2 ys none))
  (hl : vy l i = some ⟨some d, .call ⟨.builtin .append, [x, y].toArray, ats.toArray⟩, ty, pos, af, gdd⟩) (ha : ats = [t, t]) (hg : gd l fr ⟨some d, .call ⟨.builtin .append, [x, y].toArray, ats.toArray⟩, ty, pos, af, gdd⟩ = some true)
  (hN : Nat.blt d N = true) (hx : look fr x = some v) (hy : look fr y = some v2) (ht : P.underlying t = some (.slice e)) (hel : zej P e R.sz bytes) (hb : (xs.length + ys.length) * bytes <= 140737488355328) (hone : ∀ w cs S x, R.own w cs S x -> zhP cs = true)
  (h : ∀ v' S' w', St w0 S0 w' ((L.set k (nI e R v' S' (xs ++ ys) none)).set j zeG) -> OW P l N Q (i + 1) ((d, v') :: fr) w') : OW P l N Q i fr w := by
 subst ha
 obtain ⟨css, Ss, hr⟩ := hst.all k _ hk
 obtain ⟨css2, Ss2, hr2⟩ := hst.all j _ hj
 have hdis : ∀ b ∈ S, b ∉ S2 := hst.apart k j _ _ (Nat.ne_of_beq_eq_false hkj) hk hj
 obtain ⟨inf, z, hi, hz, hsz, hby, hzs⟩ := hel.info
 have exec : ∀ {v' : Value} {w' : World}, (Builtin.append_ #[t, t] ty #[v, v2]).run P w = .ok v' w' -> ∀ a, Rep N fr a ->
   (execOp a.eval ⟨some d, .call ⟨.builtin .append, [x, y].toArray, [t, t].toArray⟩, ty, pos, af, gdd⟩).run P w = .ok (.value v') w' := by
  intro v' w' hr a ha
  have e1 := ha.look hx
  have e2 := ha.look hy
  simp [execOp, resolve, invoke, builtin, e1, e2, hr]
 have hlk : k < L.length := (zes.1 hk).1
 have key : ∀ {v' : Value} {w' : World}, (Builtin.append_ #[t, t] ty #[v, v2]).run P w = .ok v' w' -> w.grownBy w' (zas v) -> (zas v' = zas v \/ zas v' = some w.heap.size) -> zef w' e R.sz v' (xs.length + ys.length) (zaX (fit R.sz) css ++ zaX (fit R.sz) css2) -> OW P l N Q i fr w := by
  intro v' w' hrun hgr hat hown
  have hn := hr.nd
  rw [hr.hS] at hn
  have hn3 := (List.nodup_append.1 hn).2.2
  have hchg : Chg (zas v).toList w w' := Chg.grown hgr (fun b hb => by simp [hb])
  have happ := hr.app (w' := w') hr2 hdis (fun b hb => hchg.block b (by
   rcases List.mem_append.1 hb with hb | hb
   ·exact hr.lt b (by rw [hr.hS]; exact zar _ hb)
   ·exact hr2.lt b (by rw [hr2.hS]; exact zar _ hb)) (fun hv => by
   rcases List.mem_append.1 hb with hb | hb
   ·exact hn3 b hv b hb rfl
   ·exact hdis b (by rw [hr.hS]; exact zal _ hv) (by rw [hr2.hS]; exact zar _ hb))) hat hown
  refine OW.op hl hg rfl hN (exec hrun) (h v' ((zas v').toList ++ (Ss ++ Ss2).flatten) w' ?_)
  have hsub : ∀ b ∈ (zas v).toList ++ (Ss ++ Ss2).flatten, b ∈ S \/ b ∈ S2 := fun b hb => by
   rw [List.flatten_append] at hb
   rcases List.mem_append.1 hb with hb | hb
   ·exact .inl (by rw [hr.hS]; exact zal _ hb)
   ·rcases List.mem_append.1 hb with hb | hb
    ·exact .inl (by rw [hr.hS]; exact zar _ hb)
    ·exact .inr (by rw [hr2.hS]; exact zar _ hb)
  have hnd : ((zas v).toList ++ (Ss ++ Ss2).flatten).Nodup := by
   have hn2 := hr2.nd
   rw [hr2.hS] at hn2
   have m := List.nodup_append.1 hn2
   have n := List.nodup_append.1 hn
   rw [List.flatten_append]
   refine List.nodup_append.2 ⟨n.1, List.nodup_append.2 ⟨n.2.1, m.2.1, fun a ha b hb e => by subst e; exact hdis a (by rw [hr.hS]; exact zar _ ha) (by rw [hr2.hS]; exact zar _ hb)⟩, fun a ha b hb e => ?_⟩
   subst e
   rcases List.mem_append.1 hb with hb | hb
   ·exact hn3 a ha a hb rfl
   ·exact hdis a (by rw [hr.hS]; exact zal _ ha) (by rw [hr2.hS]; exact zar _ hb)
  let A : Item := ⟨(zas v).toList ++ (Ss ++ Ss2).flatten, fun w1 => ∀ b ∈ (zas v).toList ++ (Ss ++ Ss2).flatten, b < w1.heap.size, fun w1 w2 hb hh b hb2 => by
   have h1 := hh b hb2
   have h2 := hb b hb2
   rw [Array.getElem?_eq_getElem h1] at h2
   exact (Array.getElem?_eq_some_iff.1 h2).1, fun w1 hh => hh⟩
  have hA : St w0 S0 w ((L.set k A).set j zeG) := hst.fuse k j hkj hk hj (C := A) (fun b hb => by
   rcases hsub b hb with hb | hb
   ·exact hr.lt b hb
   ·exact hr2.lt b hb) hnd hsub
  have hkA : ((L.set k A).set j zeG)[k]? = some A := by
   rw [List.getElem?_set_ne (fun e => Nat.ne_of_beq_eq_false hkj e.symm), List.getElem?_set_self hlk]
  have := hA.upd k hkA (it' := nI e R v' ((zas v').toList ++ (Ss ++ Ss2).flatten) (xs ++ ys) none) (hchg.mono (fun b hb => zal _ hb)) ⟨_, _, happ⟩ (fun b hb => by
   rcases List.mem_append.1 hb with hb | hb
   ·rcases hat with hat | hat
    ·exact .inl (zal _ (by rw [<- hat]; exact hb))
    ·rw [hat] at hb; simp at hb; exact .inr (by omega)
   ·exact .inl (zar _ hb)) happ.nd
  rw [List.set_comm _ _ (fun e => Nat.ne_of_beq_eq_false hkj e.symm), List.set_set] at this
  exact this
 have hlim := (hst.nlen k hk).1
 have hrow2 : Rd w [] v2 (fit R.sz) R.sz css2 := by
  have hrow := hr2.row
  rw [<- hr2.lc] at hrow
  exact zcS (fun x => xT _ x) hrow (by simp)
 obtain ⟨hn2, a2, c2, hv2, _, hc2⟩ := hrow2
 have hlc2 := hr2.lc
 rcases Nat.eq_zero_or_pos ys.length with h0 | h0
 ·have hys : ys = [] := List.eq_nil_of_length_eq_zero h0
  have hcs : css2 = [] := List.eq_nil_of_length_eq_zero (by omega)
  refine key (v' := v) (w' := w) ?_ ⟨rfl, rfl, rfl, Nat.le_refl _, fun _ _ _ => rfl⟩ (.inl rfl) ?_
  ·rw [hv2, hcs]
   exact zb9 ht hel.size hr.row a2 c2
  ·rw [hcs, hys]
   simpa [zaX] using hr.row
 ·obtain ⟨c0, hc0⟩ : ∃ c0, css2[0]? = some c0 := ⟨css2[0]'(by omega), zeg (by omega)⟩
  obtain ⟨u0, hu0⟩ : ∃ u0, (fit R.sz c0)[0]? = some u0 := ⟨(fit R.sz c0)[0]'(by rw [xT]; exact hel.pos), zeg (by rw [xT]; exact hel.pos)⟩
  obtain ⟨b, q, rfl, _, _⟩ := hc2 0 c0 0 u0 hc0 hu0
  have hcell : ∀ q' u, (zaX (fit R.sz) css2)[q']? = some u -> w.cell? ((⟨b, q, none⟩ : Addr).add q') = some u := by
   intro q' u hu
   rw [za7]
   obtain ⟨t, f, x, hx, hf, hq⟩ := zcR (fun x => xT R.sz x) hel.pos hu
   obtain ⟨b', k', hb', _, hcell⟩ := hc2 t x f u hx hf
   simp only [Option.some.injEq, Addr.mk.injEq, and_true] at hb'
   obtain ⟨rfl, rfl⟩ := hb'
   rw [hq, <- Nat.add_assoc]
   exact hcell
  have hones : ∀ u ∈ zaX (fit R.sz) css2, u.oneCell' = true := by
   intro u hu
   obtain ⟨q', hq', rfl⟩ := List.mem_iff_getElem.1 hu
   obtain ⟨t, f, c, hx, hf, _⟩ := zcR (fun x => xT R.sz x) hel.pos (zeg hq')
   have ht := (zes.1 hx).1
   have l1 : t < Ss2.length := by rw [hr2.ls]; omega
   have l2 : t < ys.length := by omega
   have hown := hr2.own t c Ss2[t] ys[t] (by simp) hx (zeg l1) (zeg l2)
   rw [zha (R.len _ _ _ _ hown)] at hf
   exact zei (hone _ _ _ _ hown) _ (zmg hf)
  obtain ⟨v', w', hrun, hown, hgr, hat⟩ := zi4 (P := P) w t ty e inf z R.sz bytes ht hi hz hsz hby hzs v xs.length (zaX (fit R.sz) css) hr.row ⟨b, q, none⟩ ys.length c2 h0 (zaX (fit R.sz) css2) (by rw [xS (fun x => xT R.sz x), hlc2]) hcell hones
   (by have := Nat.le_mul_of_pos_right (xs.length + ys.length) hel.bpos; simp only [maxLen]; omega) hb
  refine key ?_ hgr hat hown
  rw [hv2, hlc2]
  exact hrun
end
end Go.Sx

/- Data that lie in memory as trees: what cells, with what blocks, stand for a datum; rules that open and shut such data. -/
import Derived.Test.YtkgajppghpmkbaaDoorMore
import Derived.Test.YtkgajppghpmkbaaDoorPlan
set_option linter.unusedVariables false
set_option linter.unusedSimpArgs false
namespace Go.Sx
open Go.RowKit

section
variable {w0 w : World} {S0 : List Nat} {L L' : List Item}
theorem St.repart (h : St w0 S0 w L) (h1 : ∀ (i : Nat) (it : Item), L'[i]? = some it → it.Φ w ∧ it.S.Nodup ∧ ∀ x ∈ it.S, x ∈ fp L)
    (h2 : ∀ (i j : Nat) (a b : Item), i ≠ j → L'[i]? = some a → L'[j]? = some b → ∀ x ∈ a.S, x ∉ b.S) : St w0 S0 w L' :=
  ⟨h.chg, fun i it hi => (h1 i it hi).1, fun i it hi => (h1 i it hi).2.1, h2, fun i it hi x hx => by
    obtain ⟨j, jt, hj, hb⟩ := mem_fp.1 ((h1 i it hi).2.2 x hx)
    exact h.own j jt hj x hb⟩
theorem St.swap (h : St w0 S0 w L) (k : Nat) {A A' B : Item} (hk : L[k]? = some A) (hA : A'.Φ w) (hAn : A'.S.Nodup) (hAs : ∀ b ∈ A'.S, b ∈ A.S) (hB : B.Φ w) (hBn : B.S.Nodup) (hBs : ∀ b ∈ B.S, b ∈ A.S) (hd : ∀ b ∈ A'.S, b ∉ B.S) :
    St w0 S0 w (L.set k A' ++ [B]) := by
  have hlt : k < L.length := (List.getElem?_eq_some_iff.1 hk).1
  have cs : ∀ (m : Nat) (it : Item), (L.set k A' ++ [B])[m]? = some it → (m = k ∧ it = A') ∨ (m = L.length ∧ it = B) ∨ (m ≠ k ∧ m < L.length ∧ L[m]? = some it) := by
    intro m it hm
    rcases Nat.lt_or_ge m L.length with hml | hml
    · rw [List.getElem?_append_left (by simpa using hml)] at hm
      by_cases e : k = m
      · subst e
        rw [List.getElem?_set_self hlt] at hm
        exact .inl ⟨rfl, (Option.some.inj hm).symm⟩
      · rw [List.getElem?_set_ne e] at hm
        exact .inr (.inr ⟨fun x => e x.symm, hml, hm⟩)
    · rw [List.getElem?_append_right (by simpa using hml)] at hm
      have e : m = L.length := by
        have := (List.getElem?_eq_some_iff.1 hm).1
        simp at this
        omega
      subst e
      simp at hm
      exact .inr (.inl ⟨rfl, hm.symm⟩)
  refine h.repart (fun m it hm => ?_) (fun m n a b hmn hm hn x hxa hxb => ?_)
  · rcases cs m it hm with ⟨_, rfl⟩ | ⟨_, rfl⟩ | ⟨_, _, hm⟩
    · exact ⟨hA, hAn, fun x hx => mem_fp.2 ⟨k, _, hk, hAs x hx⟩⟩
    · exact ⟨hB, hBn, fun x hx => mem_fp.2 ⟨k, _, hk, hBs x hx⟩⟩
    · exact ⟨h.all m it hm, h.nd m it hm, fun x hx => mem_fp.2 ⟨m, it, hm, hx⟩⟩
  · rcases cs m a hm with ⟨e1, rfl⟩ | ⟨e1, rfl⟩ | ⟨m1, m2, hm2⟩ <;> rcases cs n b hn with ⟨e2, rfl⟩ | ⟨e2, rfl⟩ | ⟨n1, n2, hn2⟩
    · omega
    · exact hd x hxa hxb
    · exact h.apart k n A b (fun e => n1 e.symm) hk hn2 x (hAs x hxa) hxb
    · exact hd x hxb hxa
    · omega
    · exact h.apart k n A b (fun e => n1 e.symm) hk hn2 x (hBs x hxa) hxb
    · exact h.apart m k a A m1 hm2 hk x hxa (hAs x hxb)
    · exact h.apart m k a A m1 hm2 hk x hxa (hBs x hxb)
    · exact h.apart m n a b hmn hm2 hn2 x hxa hxb
theorem St.turn (h : St w0 S0 w L) (k : Nat) {A A' : Item} (hk : L[k]? = some A) (hA : A'.Φ w) (hS : A'.S = A.S) : St w0 S0 w (L.set k A') := by
  have h2 := h.swap k (A' := A') (B := nilI) hk hA (by rw [hS]; exact h.nd k A hk) (by rw [hS]; exact fun _ hb => hb) trivial List.nodup_nil (fun b hb => absurd hb List.not_mem_nil) (fun b _ hb => absurd hb List.not_mem_nil)
  have hl : (L.set k A').length ≤ (L.set k A' ++ [nilI]).length := by simp
  refine h2.repart (fun m it hm => ?_) (fun m n a b hmn hm hn => ?_)
  · have hm' : (L.set k A' ++ [nilI])[m]? = some it := by rw [List.getElem?_append_left (List.getElem?_eq_some_iff.1 hm).1]; exact hm
    exact ⟨h2.all m it hm', h2.nd m it hm', fun x hx => mem_fp.2 ⟨m, it, hm', hx⟩⟩
  · exact h2.apart m n a b hmn (by rw [List.getElem?_append_left (List.getElem?_eq_some_iff.1 hm).1]; exact hm) (by rw [List.getElem?_append_left (List.getElem?_eq_some_iff.1 hn).1]; exact hn)

end
def Parts (w : World) (S : List Nat) (B : List Item) : Prop :=
  (∀ (i : Nat) (it : Item), B[i]? = some it → it.Φ w ∧ it.S.Nodup ∧ ∀ b ∈ it.S, b ∈ S) ∧ ∀ (i j : Nat) (a b : Item), i ≠ j → B[i]? = some a → B[j]? = some b → ∀ x ∈ a.S, x ∉ b.S
section
variable {w0 w : World} {S0 S S1 S2 : List Nat} {L L' B B1 B2 : List Item}
theorem Parts.nil : Parts w S [] := ⟨fun i it h => by simp at h, fun i j a b _ h => by simp at h⟩
theorem app_get {β : Type} {l m : List β} {i : Nat} {u : β} (hi : (l ++ m)[i]? = some u) : (i < l.length ∧ l[i]? = some u) ∨ (l.length ≤ i ∧ m[i - l.length]? = some u) := by
  rcases Nat.lt_or_ge i l.length with hlt | hge
  · rw [List.getElem?_append_left hlt] at hi; exact .inl ⟨hlt, hi⟩
  · rw [List.getElem?_append_right hge] at hi; exact .inr ⟨hge, hi⟩
theorem Parts.cons {it : Item} (h1 : it.Φ w) (h2 : it.S.Nodup) (h3 : ∀ b ∈ it.S, b ∈ S) (hd : ∀ b ∈ it.S, b ∉ S2) (h : Parts w S2 B) (hs : ∀ b ∈ S2, b ∈ S) : Parts w S (it :: B) := by
  refine ⟨fun i x hi => ?_, fun i j a b hij hi hj y hy => ?_⟩
  · cases i with
    | zero => simp at hi; subst hi; exact ⟨h1, h2, h3⟩
    | succ i => obtain ⟨a1, a2, a3⟩ := h.1 i x (by simpa using hi); exact ⟨a1, a2, fun b hb => hs b (a3 b hb)⟩
  · cases i with
    | zero =>
      cases j with
      | zero => exact absurd rfl hij
      | succ j =>
        simp at hi; subst hi
        exact fun hb => hd y hy ((h.1 j b (by simpa using hj)).2.2 y hb)
    | succ i =>
      cases j with
      | zero =>
        simp at hj; subst hj
        exact fun hb => hd y hb ((h.1 i a (by simpa using hi)).2.2 y hy)
      | succ j => exact h.2 i j a b (by omega) (by simpa using hi) (by simpa using hj) y hy
theorem St.burst {A : Item} (h : St w0 S0 w L) (j : Nat) (hj : L[j]? = some A) (hB : Parts w A.S B) : St w0 S0 w (L.set j nilI ++ B) := by
  have hlt : j < L.length := (List.getElem?_eq_some_iff.1 hj).1
  have cs : ∀ (m : Nat) (it : Item), (L.set j nilI ++ B)[m]? = some it → (it = nilI) ∨ (m ≠ j ∧ m < L.length ∧ L[m]? = some it) ∨ (L.length ≤ m ∧ B[m - L.length]? = some it) := by
    intro m it hm
    rcases app_get hm with ⟨h1, h2⟩ | ⟨h1, h2⟩
    · by_cases e : j = m
      · subst e; rw [List.getElem?_set_self hlt] at h2; exact .inl (Option.some.inj h2).symm
      · rw [List.getElem?_set_ne e] at h2; exact .inr (.inl ⟨fun x => e x.symm, by simpa using h1, h2⟩)
    · rw [List.length_set] at h1 h2; exact .inr (.inr ⟨h1, h2⟩)
  refine h.repart (fun m it hm => ?_) (fun m n a b hmn hm hn x hxa hxb => ?_)
  · rcases cs m it hm with rfl | ⟨_, _, hm⟩ | ⟨_, hm⟩
    · exact ⟨trivial, List.nodup_nil, fun x hx => absurd hx List.not_mem_nil⟩
    · exact ⟨h.all m it hm, h.nd m it hm, fun x hx => mem_fp.2 ⟨m, it, hm, hx⟩⟩
    · obtain ⟨a1, a2, a3⟩ := hB.1 _ it hm
      exact ⟨a1, a2, fun x hx => mem_fp.2 ⟨j, A, hj, a3 x hx⟩⟩
  · rcases cs m a hm with rfl | ⟨m1, m2, hm2⟩ | ⟨m1, hm2⟩
    · exact absurd hxa List.not_mem_nil
    · rcases cs n b hn with rfl | ⟨n1, n2, hn2⟩ | ⟨n1, hn2⟩
      · exact absurd hxb List.not_mem_nil
      · exact h.apart m n a b hmn hm2 hn2 x hxa hxb
      · exact h.apart m j a A m1 hm2 hj x hxa ((hB.1 _ b hn2).2.2 x hxb)
    · rcases cs n b hn with rfl | ⟨n1, n2, hn2⟩ | ⟨n1, hn2⟩
      · exact absurd hxb List.not_mem_nil
      · exact h.apart n j b A n1 hn2 hj x hxb ((hB.1 _ a hm2).2.2 x hxa)
      · exact hB.2 (m - L.length) (n - L.length) a b (by omega) hm2 hn2 x hxa hxb
theorem St.gather (h : St w0 S0 w L) (ids rest : List Nat) (hd : distinct (ids ++ rest) = true) {C : Item} (hC : C.Φ w) (hn : C.S.Nodup) (hs : ∀ b ∈ C.S, b ∈ fp (sel L ids)) : St w0 S0 w (sel L rest ++ [C]) := by
  have hr : ∀ (m : Nat) (it : Item), (sel L rest)[m]? = some it → it = nilI ∨ ∃ q, rest[m]? = some q ∧ L[q]? = some it := by
    intro m it hm
    obtain ⟨q, h1, h2⟩ := sel_get hm
    rcases getD_cases h2 with h2 | h2
    · exact .inr ⟨q, h1, h2⟩
    · exact .inl h2
  have hc : ∀ b ∈ C.S, ∃ (k q : Nat) (it : Item), ids[k]? = some q ∧ L[q]? = some it ∧ b ∈ it.S := by
    intro b hb
    obtain ⟨k, it, hk, hbs⟩ := mem_fp.1 (hs b hb)
    obtain ⟨q, h1, h2⟩ := sel_get hk
    rcases getD_cases h2 with h2 | rfl
    · exact ⟨k, q, it, h1, h2, hbs⟩
    · exact absurd hbs List.not_mem_nil
  have cross : ∀ (m : Nat) (it : Item), (sel L rest)[m]? = some it → ∀ x ∈ it.S, x ∉ C.S := by
    intro m it hm x hx hxc
    rcases hr m it hm with rfl | ⟨q, h1, h2⟩
    · exact absurd hx List.not_mem_nil
    · obtain ⟨k, q', it', h3, h4, h5⟩ := hc x hxc
      have hlt : k < ids.length := (List.getElem?_eq_some_iff.1 h3).1
      have hne : q' ≠ q := distinct_get hd (i := k) (j := ids.length + m) (by omega) (by rw [List.getElem?_append_left hlt]; exact h3) (by rw [List.getElem?_append_right (by omega)]; simpa using h1)
      exact h.apart q' q it' it hne h4 h2 x h5 hx
  have cs : ∀ (m : Nat) (it : Item), (sel L rest ++ [C])[m]? = some it → (m < (sel L rest).length ∧ (sel L rest)[m]? = some it) ∨ (m = (sel L rest).length ∧ it = C) := by
    intro m it hm
    rcases app_get hm with ⟨h1, h2⟩ | ⟨h1, h2⟩
    · exact .inl ⟨h1, h2⟩
    · have := (List.getElem?_eq_some_iff.1 h2).1
      simp at this
      rw [this] at h2
      simp at h2
      exact .inr ⟨by omega, h2.symm⟩
  refine h.repart (fun m it hm => ?_) (fun m n a b hmn hm hn' x hxa hxb => ?_)
  · rcases cs m it hm with ⟨_, hm⟩ | ⟨_, rfl⟩
    · rcases hr m it hm with rfl | ⟨q, h1, h2⟩
      · exact ⟨trivial, List.nodup_nil, fun x hx => absurd hx List.not_mem_nil⟩
      · exact ⟨h.all q it h2, h.nd q it h2, fun x hx => mem_fp.2 ⟨q, it, h2, hx⟩⟩
    · refine ⟨hC, hn, fun x hx => ?_⟩
      obtain ⟨k, q', it', h3, h4, h5⟩ := hc x hx
      exact mem_fp.2 ⟨q', it', h4, h5⟩
  · rcases cs m a hm with ⟨_, hm2⟩ | ⟨m1, rfl⟩
    · rcases cs n b hn' with ⟨_, hn2⟩ | ⟨_, rfl⟩
      · rcases hr m a hm2 with rfl | ⟨q, h1, h2⟩
        · exact absurd hxa List.not_mem_nil
        · rcases hr n b hn2 with rfl | ⟨q', h3, h4⟩
          · exact absurd hxb List.not_mem_nil
          · have hne : q ≠ q' := distinct_get hd (i := ids.length + m) (j := ids.length + n) (by omega) (by rw [List.getElem?_append_right (by omega)]; simpa using h1) (by rw [List.getElem?_append_right (by omega)]; simpa using h3)
            exact h.apart q q' a b hne h2 h4 x hxa hxb
      · exact cross m a hm2 x hxa hxb
    · rcases cs n b hn' with ⟨_, hn2⟩ | ⟨n1, rfl⟩
      · exact cross n b hn2 x hxb hxa
      · omega
end

structure Rp (α : Type) where
  sz : Nat
  own : World → List Value → List Nat → α → Prop
  rd : World → List Nat → α → List Value → Prop
  len : ∀ w cs S x, own w cs S x → cs.length = sz
  loc : ∀ w w' cs S x, (∀ b ∈ S, w'.heap[b]? = w.heap[b]?) → own w cs S x → own w' cs S x
  lt : ∀ w cs S x, own w cs S x → ∀ b ∈ S, b < w.heap.size
  nd : ∀ w cs S x, own w cs S x → S.Nodup
  see : ∀ w cs S x F, own w cs S x → (∀ b ∈ S, b ∉ F) → rd w F x cs
  rlen : ∀ w F x cs, rd w F x cs → cs.length = sz
  rloc : ∀ w w' F F' x cs, (∀ b, b < w.heap.size → b ∉ F → w'.heap[b]? = w.heap[b]?) → (∀ b ∈ F', b ∈ F ∨ w.heap.size ≤ b) → rd w F x cs → rd w' F' x cs

def itI {α : Type} (R : Rp α) (cs : List Value) (S : List Nat) (x : α) : Item where
  S := S
  Φ w := R.own w cs S x
  loc w w' h hb := R.loc w w' cs S x h hb
  lt w h := R.lt w cs S x h

theorem Rd.far {α : Type} {w w' : World} {F F' : List Nat} {v : Value} {enc : α → List Value} {sz : Nat} {xs : List α} (h : Rd w F v enc sz xs) (h1 : ∀ b, b < w.heap.size → b ∉ F → w'.heap[b]? = w.heap[b]?) (h2 : ∀ b ∈ F', b ∈ F ∨ w.heap.size ≤ b) :
    Rd w' F' v enc sz xs := by
  obtain ⟨hn, a, c, hv, hlc, hc⟩ := h
  refine ⟨hn, a, c, hv, hlc, fun t x f u hx hu => ?_⟩
  obtain ⟨b, o, ha, hb, hcell⟩ := hc t x f u hx hu
  have hlt : b < w.heap.size := cell_lt hcell
  refine ⟨b, o, ha, fun hf => ?_, (World.cell?_of_block (h1 b hlt hb)).trans hcell⟩
  rcases h2 b hf with h3 | h3
  · exact hb h3
  · omega
def flatP {α : Type} (enc : α → List Value) (sz : Nat) (he : ∀ x, (enc x).length = sz) : Rp α where
  sz := sz
  own _ cs S x := cs = enc x ∧ S = []
  rd _ _ x cs := cs = enc x
  len := by rintro w cs S x ⟨rfl, _⟩; exact he x
  loc := by rintro w w' cs S x _ h; exact h
  lt := by rintro w cs S x ⟨_, rfl⟩; simp
  nd := by rintro w cs S x ⟨_, rfl⟩; exact List.nodup_nil
  see := by rintro w cs S x F ⟨rfl, _⟩ _; rfl
  rlen := by rintro w F x cs rfl; exact he x
  rloc := by rintro w w' F F' x cs _ _ h; exact h
def rowP {α : Type} (T : TypeId) (enc : α → List Value) (sz : Nat) (he : ∀ x, (enc x).length = sz) (hp : 0 < sz) : Rp (List α) where
  sz := 1
  own w cs S xs := ∃ v, cs = [v] ∧ S = (ownB v).toList ∧ Owns w T sz v xs.length (flat enc xs)
  rd w F xs cs := ∃ v, cs = [v] ∧ Rd w F v enc sz xs
  len := by rintro w cs S x ⟨v, rfl, _⟩; rfl
  loc := by
    rintro w w' cs S x h ⟨v, rfl, rfl, hr⟩
    exact ⟨v, rfl, rfl, hr.loc h⟩
  lt := by
    rintro w cs S x ⟨v, rfl, rfl, hr⟩
    exact hr.lt
  nd := by
    rintro w cs S x ⟨v, rfl, rfl, hr⟩
    exact ownB_nodup
  see := by
    rintro w cs S x F ⟨v, rfl, rfl, hr⟩ hF
    exact ⟨v, rfl, rd_of_row he hr hF⟩
  rlen := by rintro w F x cs ⟨v, rfl, _⟩; rfl
  rloc := by rintro w w' F F' x cs h1 h2 ⟨v, rfl, h⟩; exact ⟨v, rfl, h.far h1 h2⟩
def pairP {α β : Type} (A : Rp α) (B : Rp β) : Rp (α × β) where
  sz := A.sz + B.sz
  own w cs S p := ∃ c1 c2 S1 S2, cs = c1 ++ c2 ∧ S = S1 ++ S2 ∧ (∀ b ∈ S1, b ∉ S2) ∧ A.own w c1 S1 p.1 ∧ B.own w c2 S2 p.2
  rd w F p cs := ∃ c1 c2, cs = c1 ++ c2 ∧ A.rd w F p.1 c1 ∧ B.rd w F p.2 c2
  len := by
    rintro w cs S x ⟨c1, c2, S1, S2, rfl, rfl, _, h1, h2⟩
    rw [List.length_append, A.len _ _ _ _ h1, B.len _ _ _ _ h2]
  loc := by
    rintro w w' cs S x h ⟨c1, c2, S1, S2, rfl, rfl, hd, h1, h2⟩
    exact ⟨c1, c2, S1, S2, rfl, rfl, hd, A.loc w w' _ _ _ (fun b hb => h b (List.mem_append_left _ hb)) h1, B.loc w w' _ _ _ (fun b hb => h b (List.mem_append_right _ hb)) h2⟩
  lt := by
    rintro w cs S x ⟨c1, c2, S1, S2, rfl, rfl, hd, h1, h2⟩ b hb
    rcases List.mem_append.1 hb with hb | hb
    · exact A.lt _ _ _ _ h1 b hb
    · exact B.lt _ _ _ _ h2 b hb
  nd := by
    rintro w cs S x ⟨c1, c2, S1, S2, rfl, rfl, hd, h1, h2⟩
    exact List.nodup_append.2 ⟨A.nd _ _ _ _ h1, B.nd _ _ _ _ h2, fun a ha b hb e => by subst e; exact hd a ha hb⟩
  see := by
    rintro w cs S x F ⟨c1, c2, S1, S2, rfl, rfl, hd, h1, h2⟩ hF
    exact ⟨c1, c2, rfl, A.see _ _ _ _ F h1 (fun b hb => hF b (List.mem_append_left _ hb)), B.see _ _ _ _ F h2 (fun b hb => hF b (List.mem_append_right _ hb))⟩
  rlen := by
    rintro w F x cs ⟨c1, c2, rfl, h1, h2⟩
    rw [List.length_append, A.rlen _ _ _ _ h1, B.rlen _ _ _ _ h2]
  rloc := by
    rintro w w' F F' x cs k1 k2 ⟨c1, c2, rfl, h1, h2⟩
    exact ⟨c1, c2, rfl, A.rloc w w' F F' _ _ k1 k2 h1, B.rloc w w' F F' _ _ k1 k2 h2⟩
def fit (n : Nat) (cs : List Value) : List Value := cs.take n ++ List.replicate (n - cs.length) undef
theorem fit_len (n : Nat) (cs : List Value) : (fit n cs).length = n := by simp [fit]; omega
theorem fit_eq {n : Nat} {cs : List Value} (h : cs.length = n) : fit n cs = cs := by subst h; simp [fit]

theorem nodup_flatten_set {Ss : List (List Nat)} {S' : List Nat} : ∀ {i : Nat}, Ss.flatten.Nodup → S'.Nodup → (∀ (k : Nat) (S : List Nat), k ≠ i → Ss[k]? = some S → ∀ b ∈ S', b ∉ S) → (Ss.set i S').flatten.Nodup := by
  induction Ss with
  | nil => intro i h _ _; simp
  | cons T r ih =>
    intro i h hS hx
    simp only [List.flatten_cons] at h
    obtain ⟨n1, n2, n3⟩ := List.nodup_append.1 h
    cases i with
    | zero =>
      simp only [List.set_cons_zero, List.flatten_cons]
      refine List.nodup_append.2 ⟨hS, n2, fun a ha b hb e => ?_⟩
      subst e
      obtain ⟨S, hSr, hb⟩ := List.mem_flatten.1 hb
      obtain ⟨k, hk, rfl⟩ := List.mem_iff_getElem.1 hSr
      exact hx (k + 1) _ (by omega) (by simp) a ha hb
    | succ i =>
      simp only [List.set_cons_succ, List.flatten_cons]
      refine List.nodup_append.2 ⟨n1, ih n2 hS (fun k S hk hSk => hx (k + 1) S (by omega) (by simpa using hSk)), fun a ha b hb e => ?_⟩
      subst e
      obtain ⟨S, hSr, hb2⟩ := List.mem_flatten.1 hb
      rcases List.mem_or_eq_of_mem_set hSr with hSr | rfl
      · exact n3 a ha a (List.mem_flatten.2 ⟨S, hSr, hb2⟩) rfl
      · exact hx 0 T (by omega) rfl a hb2 ha
theorem mem_flatten_set {Ss : List (List Nat)} {S' : List Nat} {i b : Nat} (h : b ∈ (Ss.set i S').flatten) : b ∈ S' ∨ b ∈ Ss.flatten := by
  obtain ⟨S, hS, hb⟩ := List.mem_flatten.1 h
  rcases List.mem_or_eq_of_mem_set hS with hS | rfl
  · exact .inr (List.mem_flatten.2 ⟨S, hS, hb⟩)
  · exact .inl hb
theorem flatten_apart {Ss : List (List Nat)} (h : Ss.flatten.Nodup) : ∀ {i j : Nat} {A B : List Nat}, i ≠ j → Ss[i]? = some A → Ss[j]? = some B → ∀ b ∈ A, b ∉ B := by
  induction Ss with
  | nil => intro i j A B _ hi; simp at hi
  | cons T r ih =>
    intro i j A B hij hi hj b hb hb2
    simp only [List.flatten_cons] at h
    obtain ⟨n1, n2, n3⟩ := List.nodup_append.1 h
    cases i with
    | zero =>
      cases j with
      | zero => exact hij rfl
      | succ j =>
        simp only [List.getElem?_cons_zero, Option.some.injEq] at hi
        subst hi
        exact n3 b hb b (List.mem_flatten.2 ⟨B, List.mem_of_getElem? (by simpa using hj), hb2⟩) rfl
    | succ i =>
      cases j with
      | zero =>
        simp only [List.getElem?_cons_zero, Option.some.injEq] at hj
        subst hj
        exact n3 b hb2 b (List.mem_flatten.2 ⟨A, List.mem_of_getElem? (by simpa using hi), hb⟩) rfl
      | succ j => exact ih n2 (i := i) (j := j) (by omega) (by simpa using hi) (by simpa using hj) b hb hb2

theorem rep_get {β : Type} {n i : Nat} {a b : β} (h : (List.replicate n a)[i]? = some b) : i < n ∧ a = b := by
  rw [List.getElem?_replicate] at h
  split at h
  · rename_i hi; exact ⟨hi, by cases h; rfl⟩
  · cases h
structure NRow {α : Type} (w : World) (T : TypeId) (R : Rp α) (v : Value) (S : List Nat) (xs : List α) (ho : Option (Nat × List Value)) (css : List (List Value)) (Ss : List (List Nat)) : Prop where
  row : Owns w T R.sz v xs.length (flat (fit R.sz) css)
  lc : css.length = xs.length
  ls : Ss.length = xs.length
  hS : S = (ownB v).toList ++ Ss.flatten
  nd : S.Nodup
  out : ∀ t cs, ho = some (t, cs) → cs.length = R.sz ∧ css[t]? = some cs ∧ Ss[t]? = some []
  own : ∀ (i : Nat) (cs : List Value) (S' : List Nat) (x : α), (∀ c, ho ≠ some (i, c)) → css[i]? = some cs → Ss[i]? = some S' → xs[i]? = some x → R.own w cs S' x
section
variable {α : Type} {w w' : World} {T : TypeId} {R : Rp α} {v : Value} {S : List Nat} {xs : List α} {ho : Option (Nat × List Value)} {css : List (List Value)} {Ss : List (List Nat)}
theorem NRow.lt (h : NRow w T R v S xs ho css Ss) : ∀ b ∈ S, b < w.heap.size := by
  intro b hb
  rw [h.hS] at hb
  rcases List.mem_append.1 hb with hb | hb
  · exact h.row.lt b hb
  · obtain ⟨S', hS', hb⟩ := List.mem_flatten.1 hb
    obtain ⟨i, hi, rfl⟩ := List.mem_iff_getElem.1 hS'
    have h1 : i < css.length := by rw [h.lc, ← h.ls]; exact hi
    have h2 : i < xs.length := by rw [← h.ls]; exact hi
    by_cases hq : ∃ c, ho = some (i, c)
    · obtain ⟨c, hc⟩ := hq
      have := (h.out i c hc).2.2
      rw [List.getElem?_eq_getElem hi] at this
      rw [Option.some.inj this] at hb
      exact absurd hb List.not_mem_nil
    · exact R.lt _ _ _ _ (h.own i _ _ _ (fun c hc => hq ⟨c, hc⟩) (List.getElem?_eq_getElem h1) (List.getElem?_eq_getElem hi) (List.getElem?_eq_getElem h2)) b hb
theorem NRow.loc (h : NRow w T R v S xs ho css Ss) (hb : ∀ b ∈ S, w'.heap[b]? = w.heap[b]?) : NRow w' T R v S xs ho css Ss := by
  have hS := h.hS
  refine ⟨h.row.loc (fun b hbv => hb b (by rw [hS]; exact List.mem_append_left _ hbv)), h.lc, h.ls, h.hS, h.nd, h.out, fun i cs S' x h1 h2 h3 h4 => R.loc w w' cs S' x (fun b hbs => hb b ?_) (h.own i cs S' x h1 h2 h3 h4)⟩
  rw [hS]
  exact List.mem_append_right _ (List.mem_flatten.2 ⟨S', List.mem_of_getElem? h3, hbs⟩)
theorem set_get {β : Type} {l : List β} {z u : β} {t i : Nat} (hi : (l.set t z)[i]? = some u) : (i = t ∧ u = z) ∨ (i ≠ t ∧ l[i]? = some u) := by
  by_cases e : t = i
  · subst e
    have hl : t < l.length := by have := (List.getElem?_eq_some_iff.1 hi).1; simpa using this
    rw [List.getElem?_set_self hl] at hi; exact .inl ⟨rfl, (Option.some.inj hi).symm⟩
  · rw [List.getElem?_set_ne e] at hi; exact .inr ⟨fun x => e x.symm, hi⟩
theorem NRow.take (h : NRow w T R v S xs none css Ss) {t : Nat} {x : α} (hx : xs[t]? = some x) :
    ∃ cs S1 S2, css[t]? = some cs ∧ cs.length = R.sz ∧ R.own w cs S2 x ∧ NRow w T R v S1 xs (some (t, cs)) css (Ss.set t []) ∧ (∀ b ∈ S2, b ∈ S) ∧ (∀ b ∈ S1, b ∈ S) ∧ ∀ b ∈ S1, b ∉ S2 := by
  have hl := (List.getElem?_eq_some_iff.1 hx).1
  have a1 : t < css.length := by rw [h.lc]; exact hl
  have a2 : t < Ss.length := by rw [h.ls]; exact hl
  have hn := h.nd
  rw [h.hS] at hn
  obtain ⟨n1, n2, n3⟩ := List.nodup_append.1 hn
  have hown := h.own t css[t] Ss[t] x (by simp) (List.getElem?_eq_getElem a1) (List.getElem?_eq_getElem a2) hx
  have hsub : ∀ b ∈ (Ss.set t []).flatten, b ∈ Ss.flatten := fun b hb => by
    rcases mem_flatten_set hb with hb | hb
    · exact absurd hb List.not_mem_nil
    · exact hb
  have n2' : (Ss.set t []).flatten.Nodup := nodup_flatten_set n2 List.nodup_nil (fun _ _ _ _ b hb => absurd hb List.not_mem_nil)
  refine ⟨css[t], (ownB v).toList ++ (Ss.set t []).flatten, Ss[t], List.getElem?_eq_getElem a1, R.len _ _ _ _ hown, hown, ⟨h.row, h.lc, by rw [List.length_set]; exact h.ls, rfl, ?_, fun q c e => ?_, fun i cs S' y h1 h2 h3 h4 => ?_⟩, fun b hb => ?_, fun b hb => ?_, fun b hb hb2 => ?_⟩
  · exact List.nodup_append.2 ⟨n1, n2', fun a ha b hb e => n3 a ha b (hsub b hb) e⟩
  · simp only [Option.some.injEq, Prod.mk.injEq] at e
    obtain ⟨rfl, rfl⟩ := e
    exact ⟨R.len _ _ _ _ hown, List.getElem?_eq_getElem a1, by rw [List.getElem?_set_self a2]⟩
  · rcases set_get h3 with ⟨rfl, rfl⟩ | ⟨hne, h3⟩
    · rw [List.getElem?_eq_getElem a1] at h2
      exact absurd (by rw [Option.some.inj h2]) (h1 cs)
    · exact h.own i cs S' y (by simp) h2 h3 h4
  · rw [h.hS]; exact List.mem_append_right _ (List.mem_flatten.2 ⟨Ss[t], List.getElem_mem a2, hb⟩)
  · rw [h.hS]
    rcases List.mem_append.1 hb with hb | hb
    · exact List.mem_append_left _ hb
    · exact List.mem_append_right _ (hsub b hb)
  · rcases List.mem_append.1 hb with hb | hb
    · exact n3 b hb b (List.mem_flatten.2 ⟨Ss[t], List.getElem_mem a2, hb2⟩) rfl
    · obtain ⟨S', hS', hb⟩ := List.mem_flatten.1 hb
      obtain ⟨i, hi, rfl⟩ := List.mem_iff_getElem.1 hS'
      rcases set_get (List.getElem?_eq_getElem hi) with ⟨_, e⟩ | ⟨hne, hi2⟩
      · rw [e] at hb; exact absurd hb List.not_mem_nil
      · exact flatten_apart n2 hne hi2 (List.getElem?_eq_getElem a2) b hb hb2
theorem NRow.give (h : NRow w T R v S xs ho css Ss) {t : Nat} {cs : List Value} {S2 : List Nat} {x y : α} (hho : ∀ i c, ho = some (i, c) → i = t) (hy : xs[t]? = some y) (hx : R.own w' cs S2 x) (hd : ∀ b ∈ S, b ∉ S2)
    (hw : ∀ b ∈ Ss.flatten, w'.heap[b]? = w.heap[b]?) (hrow : Owns w' T R.sz v xs.length (flat (fit R.sz) (css.set t cs))) : NRow w' T R v ((ownB v).toList ++ (Ss.set t S2).flatten) (xs.set t x) none (css.set t cs) (Ss.set t S2) := by
  have hn := h.nd
  rw [h.hS] at hn
  obtain ⟨n1, n2, n3⟩ := List.nodup_append.1 hn
  have hS := h.hS
  refine ⟨by rw [List.length_set]; exact hrow, by rw [List.length_set, List.length_set]; exact h.lc, by rw [List.length_set, List.length_set]; exact h.ls, rfl, ?_, (fun _ _ e => by cases e), fun i c S' z _ h2 h3 h4 => ?_⟩
  · refine List.nodup_append.2 ⟨n1, nodup_flatten_set n2 (R.nd _ _ _ _ hx) (fun k T' _ hT b hb hb2 => hd b (by rw [hS]; exact List.mem_append_right _ (List.mem_flatten.2 ⟨T', List.mem_of_getElem? hT, hb2⟩)) hb), fun a ha b hb e => ?_⟩
    subst e
    rcases mem_flatten_set hb with hb | hb
    · exact hd a (by rw [hS]; exact List.mem_append_left _ ha) hb
    · exact n3 a ha a hb rfl
  · rcases set_get h3 with ⟨rfl, rfl⟩ | ⟨hne, h3⟩
    · rcases set_get h2 with ⟨_, rfl⟩ | ⟨hne, _⟩
      · rcases set_get h4 with ⟨_, rfl⟩ | ⟨hne, _⟩
        · exact hx
        · exact absurd rfl hne
      · exact absurd rfl hne
    · rcases set_get h2 with ⟨e, _⟩ | ⟨_, h2⟩
      · exact absurd e hne
      · rcases set_get h4 with ⟨e, _⟩ | ⟨_, h4⟩
        · exact absurd e hne
        · exact R.loc w w' c S' z (fun b hb => hw b (List.mem_flatten.2 ⟨S', List.mem_of_getElem? h3, hb⟩)) (h.own i c S' z (fun c' e => hne (hho i c' e)) h2 h3 h4)
theorem NRow.app {v' : Value} {v2 : Value} {S2 : List Nat} {ys : List α} {css2 : List (List Value)} {Ss2 : List (List Nat)} (h : NRow w T R v S xs none css Ss) (h2 : NRow w T R v2 S2 ys none css2 Ss2) (hd : ∀ b ∈ S, b ∉ S2)
    (hw : ∀ b ∈ Ss.flatten ++ Ss2.flatten, w'.heap[b]? = w.heap[b]?) (hat : ownB v' = ownB v ∨ ownB v' = some w.heap.size) (hrow : Owns w' T R.sz v' (xs.length + ys.length) (flat (fit R.sz) css ++ flat (fit R.sz) css2)) :
    NRow w' T R v' ((ownB v').toList ++ (Ss ++ Ss2).flatten) (xs ++ ys) none (css ++ css2) (Ss ++ Ss2) := by
  have hn := h.nd
  rw [h.hS] at hn
  obtain ⟨n1, n2, n3⟩ := List.nodup_append.1 hn
  have hn2 := h2.nd
  rw [h2.hS] at hn2
  obtain ⟨m1, m2, m3⟩ := List.nodup_append.1 hn2
  have lc := h.lc
  have ls := h.ls
  have lc2 := h2.lc
  have ls2 := h2.ls
  refine ⟨by rw [flat_append, List.length_append]; exact hrow, by simp; omega, by simp; omega, rfl, ?_, (fun _ _ e => by cases e), fun i c S' z _ g2 g3 g4 => ?_⟩
  · rw [List.flatten_append]
    refine List.nodup_append.2 ⟨ownB_nodup, List.nodup_append.2 ⟨n2, m2, fun a ha b hb e => ?_⟩, fun a ha b hb e => ?_⟩
    · subst e; exact hd a (by rw [h.hS]; exact List.mem_append_right _ ha) (by rw [h2.hS]; exact List.mem_append_right _ hb)
    · subst e
      rcases hat with hat | hat
      · rw [hat] at ha
        rcases List.mem_append.1 hb with hb | hb
        · exact n3 a ha a hb rfl
        · exact hd a (by rw [h.hS]; exact List.mem_append_left _ ha) (by rw [h2.hS]; exact List.mem_append_right _ hb)
      · rw [hat] at ha
        simp at ha
        have hlt : a < w.heap.size := by
          rcases List.mem_append.1 hb with hb | hb
          · exact h.lt a (by rw [h.hS]; exact List.mem_append_right _ hb)
          · exact h2.lt a (by rw [h2.hS]; exact List.mem_append_right _ hb)
        omega
  · rcases app_get g2 with ⟨l1, g2⟩ | ⟨l1, g2⟩
    · rcases app_get g3 with ⟨l2, g3⟩ | ⟨l2, g3⟩
      · rcases app_get g4 with ⟨l3, g4⟩ | ⟨l3, g4⟩
        · exact R.loc w w' c S' z (fun b hb => hw b (List.mem_append_left _ (List.mem_flatten.2 ⟨S', List.mem_of_getElem? g3, hb⟩))) (h.own i c S' z (by simp) g2 g3 g4)
        · omega
      · omega
    · rcases app_get g3 with ⟨l2, g3⟩ | ⟨l2, g3⟩
      · omega
      · rcases app_get g4 with ⟨l3, g4⟩ | ⟨l3, g4⟩
        · omega
        · rw [show i - Ss.length = i - css.length by omega] at g3
          rw [show i - xs.length = i - css.length by omega] at g4
          exact R.loc w w' c S' z (fun b hb => hw b (List.mem_append_right _ (List.mem_flatten.2 ⟨S', List.mem_of_getElem? g3, hb⟩))) (h2.own (i - css.length) c S' z (by simp) g2 g3 g4)
end
theorem RdN.far {α : Type} {R : Rp α} {w w' : World} {F F' : List Nat} {v : Value} {xs : List α} (hp : 0 < R.sz) (h : RdN w F v R.rd R.sz xs) (h1 : ∀ b, b < w.heap.size → b ∉ F → w'.heap[b]? = w.heap[b]?) (h2 : ∀ b ∈ F', b ∈ F ∨ w.heap.size ≤ b) : RdN w' F' v R.rd R.sz xs := by
  obtain ⟨hn, a, c, hv, hlc, hc⟩ := h
  refine ⟨hn, a, c, hv, hlc, fun t x hx => ?_⟩
  obtain ⟨cs, hDx, b, o, ha, hb, hcell⟩ := hc t x hx
  have hl := R.rlen _ _ _ _ hDx
  have hlt : b < w.heap.size := cell_lt (hcell 0 cs[0] (List.getElem?_eq_getElem (by omega)))
  refine ⟨cs, R.rloc _ _ _ _ _ _ h1 h2 hDx, b, o, ha, fun hf => ?_, fun f u hu => (World.cell?_of_block (h1 b hlt hb)).trans (hcell f u hu)⟩
  rcases h2 b hf with h3 | h3
  · exact hb h3
  · omega
theorem NRow.see {α : Type} {w : World} {T : TypeId} {R : Rp α} {v : Value} {S : List Nat} {xs : List α} {css : List (List Value)} {Ss : List (List Nat)} (h : NRow w T R v S xs none css Ss) {F : List Nat} (hF : ∀ b ∈ S, b ∉ F) : RdN w F v R.rd R.sz xs := by
  have hS := h.hS
  have hrd : Rd w F v (fit R.sz) R.sz css := by
    have hrow := h.row
    rw [← h.lc] at hrow
    exact rd_of_row (fun x => fit_len _ x) hrow (fun b hb => hF b (by rw [hS]; exact List.mem_append_left _ hb))
  obtain ⟨hn, a, c, hv, hlc, hc⟩ := hrd
  refine ⟨by rw [← h.lc]; exact hn, a, c, by rw [hv, h.lc], by rw [← h.lc]; exact hlc, fun t x hx => ?_⟩
  have hl := (List.getElem?_eq_some_iff.1 hx).1
  have a1 : t < css.length := by rw [h.lc]; exact hl
  have a2 : t < Ss.length := by rw [h.ls]; exact hl
  have hown := h.own t css[t] Ss[t] x (by simp) (List.getElem?_eq_getElem a1) (List.getElem?_eq_getElem a2) hx
  have hlen := R.len _ _ _ _ hown
  refine ⟨css[t], R.see _ _ _ _ F hown (fun b hb => hF b (by rw [hS]; exact List.mem_append_right _ (List.mem_flatten.2 ⟨Ss[t], List.getElem_mem a2, hb⟩))), ?_⟩
  rcases h.row.2 with ⟨h0, _⟩ | ⟨g, o, cap, cur, rfl, hp, hg, hnc, hm, hcs, htake⟩
  · omega
  · simp only [Value.slice.injEq] at hv
    obtain ⟨rfl, _, _⟩ := hv
    refine ⟨g, o, rfl, hF g (by rw [hS]; exact List.mem_append_left _ (by simp [ownB_pos hp])), fun f u hu => ?_⟩
    obtain ⟨b', o', hb', _, hcell⟩ := hc t css[t] f u (List.getElem?_eq_getElem a1) (by rw [fit_eq hlen]; exact hu)
    simp only [Option.some.injEq, Addr.mk.injEq, and_true] at hb'
    obtain ⟨rfl, rfl⟩ := hb'
    exact hcell
theorem RdN.nil {α : Type} (w : World) (S : List Nat) (D : World → List Nat → α → List Value → Prop) (sz c : Nat) : RdN w S (.slice none 0 c) D sz ([] : List α) := ⟨by simp, none, c, rfl, Nat.zero_le _, fun t x hx => by simp at hx⟩

def shd (a : Option Addr) (c lo sz : Nat) : Option Addr := if c = lo then a else a.map (·.add (lo * sz))
theorem cut_get {α : Type} {xs ys : List α} {lo hi : Int} (h : cut xs lo hi = some ys) {t : Nat} {x : α} (hx : ys[t]? = some x) : xs[lo.toNat + t]? = some x := by
  obtain ⟨h0, h1, h2, rfl⟩ := cut_some h
  rw [List.getElem?_drop, List.getElem?_take] at hx
  split at hx
  · exact hx
  · cases hx
theorem Rd.part {α : Type} {w : World} {S : List Nat} {a : Option Addr} {n c : Nat} {enc : α → List Value} {sz : Nat} {xs ys : List α} {lo hi : Int} (h : Rd w S (.slice a n c) enc sz xs) (hc : cut xs lo hi = some ys) :
    Rd w S (.slice (shd a c lo.toNat sz) ys.length (c - lo.toNat)) enc sz ys := by
  obtain ⟨hn, a', c', hv, hlc, hcell⟩ := h
  simp only [Value.slice.injEq] at hv
  obtain ⟨rfl, rfl, rfl⟩ := hv
  obtain ⟨h0, h1, h2, _⟩ := cut_some hc
  have hl := cut_len hc
  refine ⟨by omega, _, _, rfl, by omega, fun t x f u hx hu => ?_⟩
  obtain ⟨b, o, rfl, hb, hcl⟩ := hcell _ x f u (cut_get hc hx) hu
  have hlt := (List.getElem?_eq_some_iff.1 hx).1
  refine ⟨b, o + lo.toNat * sz, ?_, hb, ?_⟩
  · unfold shd
    rw [if_neg (by omega), Option.map_some, add_none]
  · rw [Nat.add_mul, ← Nat.add_assoc] at hcl
    exact hcl
theorem Rd.pre {α : Type} {w : World} {S : List Nat} {a : Option Addr} {n c : Nat} {enc : α → List Value} {sz : Nat} {xs ys : List α} {hi : Int} (h : Rd w S (.slice a n c) enc sz xs) (hc : cut xs 0 hi = some ys) : Rd w S (.slice a ys.length c) enc sz ys := by
  have h2 := h.part hc
  have e : shd a c (Int.toNat 0) sz = a := by
    unfold shd
    split
    · rfl
    · cases a with
      | none => rfl
      | some z => simp [Addr.add]
  rw [e] at h2
  exact h2
section
variable {P : Program} {N : Nat} {fr : List (Nat × Value)}
theorem suf_run {α : Type} {o : Oper} {t e : TypeId} {x y : Operand} {a : Option Addr} {n c : Nat} {q : Int} {kd : IntKind} {xs ys : List α} (sz : Nat) (ho : o.op = .slice t x (some y) none none) (hx : look fr x = some (.slice a n c)) (hn : n = xs.length) (hy : look fr y = some (.int kd q))
    (hc : cut xs q (xs.length : Int) = some ys) (ht : P.underlying t = some (.slice e)) (hs : psem P (sizeOf e) = some sz) : ∀ b w, Rep N fr b → (execOp b.eval o).run P w = .ok (.value (.slice (shd a c q.toNat sz) ys.length (c - q.toNat))) w := by
  intro b w hb
  have e1 := hb.look hx
  have e2 := hb.look hy
  obtain ⟨h0, h1, h2, _⟩ := cut_some hc
  have hl := cut_len hc
  subst hn
  have h3 : 0 ≤ q ∧ q ≤ (xs.length : Int) := ⟨h0, h1⟩
  have e3 : xs.length - q.toNat = ys.length := by omega
  simp [execOp, ho, Instr.sliceAt, Instr.slice, Instr.sliceBounds, Instr.sliceBound, run_underlying ht, e1, e2, asIntOf, h3, psem_run hs, e3, shd]
theorem sub_run {α : Type} {o : Oper} {t e : TypeId} {x y z : Operand} {a : Option Addr} {n c : Nat} {q r : Int} {kd ke : IntKind} {xs ys : List α} (sz : Nat) (ho : o.op = .slice t x (some y) (some z) none) (hx : look fr x = some (.slice a n c)) (hy : look fr y = some (.int kd q)) (hz : look fr z = some (.int ke r))
    (hc : cut xs q r = some ys) (hcap : xs.length ≤ c) (ht : P.underlying t = some (.slice e)) (hs : psem P (sizeOf e) = some sz) : ∀ b w, Rep N fr b → (execOp b.eval o).run P w = .ok (.value (.slice (shd a c q.toNat sz) ys.length (c - q.toNat))) w := by
  intro b w hb
  have e1 := hb.look hx
  have e2 := hb.look hy
  have e4 := hb.look hz
  obtain ⟨h0, h1, h2, _⟩ := cut_some hc
  have hl := cut_len hc
  have h3 : 0 ≤ r ∧ r ≤ (c : Int) := ⟨by omega, by omega⟩
  have h5 : 0 ≤ q ∧ q ≤ r := ⟨h0, h1⟩
  have h6 : (r.toNat : Int) = r := by omega
  have e3 : r.toNat - q.toNat = ys.length := by omega
  simp [execOp, ho, Instr.sliceAt, Instr.slice, Instr.sliceBounds, Instr.sliceBound, run_underlying ht, e1, e2, e4, asIntOf, h3, h5, h6, psem_run hs, e3, shd]
end
theorem Rd.cap {α : Type} {w : World} {S : List Nat} {a : Option Addr} {n c : Nat} {enc : α → List Value} {sz : Nat} {xs : List α} (h : Rd w S (.slice a n c) enc sz xs) : xs.length ≤ c := by
  obtain ⟨_, a', c', hv, hlc, _⟩ := h
  simp only [Value.slice.injEq] at hv
  obtain ⟨_, _, rfl⟩ := hv
  exact hlc

def ptrP {α : Type} (T : TypeId) (R : Rp α) : Rp α where
  sz := 1
  own w cs S x := ∃ b cs' S', cs = [.pointer (some ⟨b, 0, none⟩)] ∧ S = b :: S' ∧ b ∉ S' ∧ w.heap[b]? = some (.cells cs'.toArray T (0, 0)) ∧ R.own w cs' S' x
  rd w F x cs := ∃ b cs', cs = [.pointer (some ⟨b, 0, none⟩)] ∧ b ∉ F ∧ w.heap[b]? = some (.cells cs'.toArray T (0, 0)) ∧ R.rd w F x cs'
  len := by rintro w cs S x ⟨b, cs', S', rfl, _⟩; rfl
  loc := by
    rintro w w' cs S x h ⟨b, cs', S', rfl, rfl, hb, hh, hr⟩
    exact ⟨b, cs', S', rfl, rfl, hb, by rw [h b List.mem_cons_self]; exact hh, R.loc w w' _ _ _ (fun c hc => h c (List.mem_cons_of_mem _ hc)) hr⟩
  lt := by
    rintro w cs S x ⟨b, cs', S', rfl, rfl, hb, hh, hr⟩ c hc
    rcases List.mem_cons.1 hc with rfl | hc
    · exact (Array.getElem?_eq_some_iff.1 hh).1
    · exact R.lt _ _ _ _ hr c hc
  nd := by
    rintro w cs S x ⟨b, cs', S', rfl, rfl, hb, hh, hr⟩
    exact List.nodup_cons.2 ⟨hb, R.nd _ _ _ _ hr⟩
  see := by
    rintro w cs S x F ⟨b, cs', S', rfl, rfl, hb, hh, hr⟩ hF
    exact ⟨b, cs', rfl, hF b List.mem_cons_self, hh, R.see _ _ _ _ F hr (fun c hc => hF c (List.mem_cons_of_mem _ hc))⟩
  rlen := by rintro w F x cs ⟨b, cs', rfl, _⟩; rfl
  rloc := by
    rintro w w' F F' x cs h1 h2 ⟨b, cs', rfl, hb, hh, hr⟩
    have hlt := (Array.getElem?_eq_some_iff.1 hh).1
    refine ⟨b, cs', rfl, fun hf => ?_, by rw [h1 b hlt hb]; exact hh, R.rloc w w' F F' x cs' h1 h2 hr⟩
    rcases h2 b hf with h3 | h3
    · exact hb h3
    · omega
def optP {α : Type} (T : TypeId) (R : Rp α) : Rp (Option α) where
  sz := 1
  own w cs S x := match x with
    | none => cs = [.pointer none] ∧ S = []
    | some y => (ptrP T R).own w cs S y
  rd w F x cs := match x with
    | none => cs = [.pointer none]
    | some y => (ptrP T R).rd w F y cs
  len := by
    rintro w cs S (_ | x) h
    · rw [h.1]; rfl
    · exact (ptrP T R).len w cs S x h
  loc := by
    rintro w w' cs S (_ | x) hb h
    · exact h
    · exact (ptrP T R).loc w w' cs S x hb h
  lt := by
    rintro w cs S (_ | x) h
    · rw [h.2]; simp
    · exact (ptrP T R).lt w cs S x h
  nd := by
    rintro w cs S (_ | x) h
    · rw [h.2]; exact List.nodup_nil
    · exact (ptrP T R).nd w cs S x h
  see := by
    rintro w cs S (_ | x) F h hF
    · exact h.1
    · exact (ptrP T R).see w cs S x F h hF
  rlen := by
    rintro w F (_ | x) cs h
    · rw [show cs = [.pointer none] from h]; rfl
    · exact (ptrP T R).rlen w F x cs h
  rloc := by
    rintro w w' F F' (_ | x) cs h1 h2 h
    · exact h
    · exact (ptrP T R).rloc w w' F F' x cs h1 h2 h
def structP {α β : Type} (f : α → List Value → List Value) (sz : Nat) (hl : ∀ x vs, (f x vs).length = sz) (g : α → β) (R : Rp β) : Rp α where
  sz := sz
  own w cs S x := ∃ vs, cs = f x vs ∧ R.own w vs S (g x)
  rd w F x cs := ∃ vs, cs = f x vs ∧ R.rd w F (g x) vs
  len := by rintro w cs S x ⟨vs, rfl, _⟩; exact hl x vs
  loc := by rintro w w' cs S x hb ⟨vs, rfl, h⟩; exact ⟨vs, rfl, R.loc w w' _ _ _ hb h⟩
  lt := by rintro w cs S x ⟨vs, rfl, h⟩; exact R.lt _ _ _ _ h
  nd := by rintro w cs S x ⟨vs, rfl, h⟩; exact R.nd _ _ _ _ h
  see := by rintro w cs S x F ⟨vs, rfl, h⟩ hF; exact ⟨vs, rfl, R.see _ _ _ _ F h hF⟩
  rlen := by rintro w F x cs ⟨vs, rfl, _⟩; exact hl x vs
  rloc := by rintro w w' F F' x cs h1 h2 ⟨vs, rfl, h⟩; exact ⟨vs, rfl, R.rloc w w' F F' _ _ h1 h2 h⟩
theorem Rd.isnil {α : Type} {w : World} {S : List Nat} {a : Option Addr} {n c : Nat} {enc : α → List Value} {sz : Nat} {xs : List α} (h : Rd w S (.slice a n c) enc sz xs) (he : ∀ x, ∃ u, (enc x)[0]? = some u) (ha : a.isNone = true) : xs = [] := by
  cases xs with
  | nil => rfl
  | cons x r =>
    obtain ⟨_, a', c', hv, _, hc⟩ := h
    obtain ⟨u, hu⟩ := he x
    obtain ⟨b, o, e, _⟩ := hc 0 x 0 u rfl hu
    cases hv
    rw [e] at ha
    cases ha
section
variable {w0 w : World} {S0 : List Nat} {L : List Item} {α : Type} {R : Rp α}
theorem St.toIt {T : TypeId} {v : Value} {enc : α → List Value} {sz : Nat} {ys : List α} (h : St w0 S0 w L) (j : Nat) (hj : L[j]? = some (rowI v T enc sz ys)) (he : ∀ x, (enc x).length = sz) (hp : 0 < sz) :
    St w0 S0 w (L.set j (itI (rowP T enc sz he hp) [v] (ownB v).toList ys)) := h.turn j hj ⟨v, rfl, rfl, h.all j _ hj⟩ rfl
theorem St.toRow {cs : List Value} {S : List Nat} {T : TypeId} {enc : α → List Value} {sz : Nat} {ys : List α} {he : ∀ x, (enc x).length = sz} {hp : 0 < sz} (h : St w0 S0 w L) (j : Nat) (hj : L[j]? = some (itI (rowP T enc sz he hp) cs S ys)) :
    ∃ v, cs = [v] ∧ St w0 S0 w (L.set j (rowI v T enc sz ys)) := by
  obtain ⟨v, rfl, rfl, hr⟩ := h.all j _ hj
  exact ⟨v, rfl, h.turn j hj hr rfl⟩
theorem St.see {cs : List Value} {S : List Nat} {x : α} (h : St w0 S0 w L) (j : Nat) (hj : L[j]? = some (itI R cs S x)) (ids : List Nat) (hn : mem? j ids = false) : R.rd w (fp (sel L ids)) x cs :=
  R.see _ _ _ _ _ (h.all j _ hj) (h.noin j hj ids hn)
theorem RdN.give {v : Value} {xs : List α} (hp : 0 < R.sz) (h : RdN w0 S0 v R.rd R.sz xs) (hst : St w0 S0 w L) (ids : List Nat) : RdN w (fp (sel L ids)) v R.rd R.sz xs := by
  refine h.far hp (fun b h1 h2 => hst.chg.block b h1 h2) (fun b hf => ?_)
  obtain ⟨j, it, hj, hbs⟩ := mem_fp.1 hf
  obtain ⟨k, _, hk⟩ := sel_get hj
  rcases getD_cases hk with hk | rfl
  · exact hst.own k it hk b hbs
  · cases hbs
end
section
variable {w0 w : World} {S0 : List Nat} {L : List Item} {α : Type} {T : TypeId} {R : Rp α} {v : Value} {S : List Nat} {xs : List α} {ho : Option (Nat × List Value)}
theorem NRow.cells {css : List (List Value)} {Ss : List (List Nat)} (hr : NRow w T R v S xs ho css Ss) {t : Nat} {cs : List Value} (hc : css[t]? = some cs) (hl : cs.length = R.sz) {g o n cap : Nat} (hv : v = .slice (some ⟨g, o, none⟩) n cap) : ∀ f u, cs[f]? = some u → w.cell? ⟨g, o + t * R.sz + f, none⟩ = some u := by
  intro f u hu
  have ht := (List.getElem?_eq_some_iff.1 hc).1
  have hlc := hr.lc
  rcases hr.row.2 with ⟨hn, _⟩ | ⟨g', o', cap', cur, rfl, _, hg, _, _, _, htake⟩
  · omega
  · simp only [Value.slice.injEq, Option.some.injEq, Addr.mk.injEq, and_true] at hv
    obtain ⟨⟨rfl, rfl⟩, _, _⟩ := hv
    have := flat_get (fun x => fit_len R.sz x) hc (u := u) (f := f) (by rw [fit_eq hl]; exact hu)
    rw [← htake, List.getElem?_take] at this
    split at this
    · rw [cell_of_row w g' _ cur T (0, 0) hg, Nat.add_assoc]
      rw [List.getElem?_drop] at this
      simpa using this
    · cases this
theorem St.fptr {U : TypeId} {u : Value} {x : α} (h : St w0 S0 w L) (j : Nat) (hj : L[j]? = some (itI (ptrP U R) [u] S x)) : ∃ b, u = .pointer (some ⟨b, 0, none⟩) := by
  obtain ⟨b, cs', S', hv, _⟩ := h.all j _ hj
  cases hv
  exact ⟨b, rfl⟩
theorem St.optSome {U : TypeId} {u : Value} {x : Option α} {y : α} (h : St w0 S0 w L) (j : Nat) (hj : L[j]? = some (itI (optP U R) [u] S x)) (hx : x = some y) : St w0 S0 w (L.set j (itI (ptrP U R) [u] S y)) := by
  subst hx
  exact h.turn j hj (h.all j _ hj) rfl
end
section
variable {P : Program} {N : Nat} {Q : Exit → Act → World → Prop} {fr fr' : List (Nat × Value)} {w w0 : World} {l : List Oper} {i : Nat} {o : Oper} {S0 : List Nat} {L : List Item} {α : Type} {R : Rp α}
end
end Go.Sx

/- Data that lie in memory as trees: what cells, with what blocks, stand for a datum; bundles of such data under a row of their cells. -/
import Derived.Test.YtjhmkpklhajpcaaDoorGrid
set_option linter.unusedVariables false
namespace Go.Sx
open Go.RowKit

/-- how a datum lies in memory: its cells, its blocks (own); and how it is read where others own it (rd: none of its blocks is in F) -/
structure Rp (α : Type) where
  sz : Nat
  own : World → List Value → List Nat → α → Prop
  rd : World → List Nat → α → List Value → Prop
  len : ∀ w cs S x, own w cs S x → cs.length = sz
  loc : ∀ w w' cs S x, (∀ b ∈ S, w'.heap[b]? = w.heap[b]?) → own w cs S x → own w' cs S x
  lt : ∀ w cs S x, own w cs S x → ∀ b ∈ S, b < w.heap.size
  nd : ∀ w cs S x, own w cs S x → S.Nodup
  see : ∀ w cs S x F, own w cs S x → (∀ b ∈ S, b ∉ F) → rd w F x cs
  rlen : ∀ w F x cs, rd w F x cs → cs.length = sz
  rloc : ∀ w w' F F' x cs, (∀ b, b < w.heap.size → b ∉ F → w'.heap[b]? = w.heap[b]?) → (∀ b ∈ F', b ∈ F ∨ w.heap.size ≤ b) → rd w F x cs → rd w' F' x cs

def itI {α : Type} (R : Rp α) (cs : List Value) (S : List Nat) (x : α) : Item where
  S := S
  Φ w := R.own w cs S x
  loc w w' h hb := R.loc w w' cs S x h hb
  lt w h := R.lt w cs S x h

theorem rd_of_row {α : Type} {w : World} {v : Value} {T : TypeId} {enc : α → List Value} {sz : Nat} {xs : List α} (he : ∀ x, (enc x).length = sz) (hp : 0 < sz) (hr : w.ownsRow 0 T sz v xs.length (flat enc xs)) {F : List Nat} (hF : ∀ b ∈ v.ownBlock.toList, b ∉ F) :
    Rd w F v enc sz xs := by
  rcases hr.2 with ⟨rfl, h0⟩ | ⟨g, cap, cur, rfl, _, hg, hnc, hm, hcs, htake⟩
  · refine ⟨by omega, none, 0, by rw [h0], by omega, fun t x f u hx => ?_⟩
    have := (List.getElem?_eq_some_iff.1 hx).1
    omega
  · refine ⟨by simp only [maxLen] at hm; omega, _, _, rfl, hnc, fun t x f u hx hu => ⟨g, 0, rfl, hF g (by simp [Value.ownBlock]), ?_⟩⟩
    have := flat_get he hx hu
    rw [← htake, List.getElem?_take] at this
    split at this
    · rw [cell_of_row w g _ cur T (0, 0) hg, Nat.zero_add]
      simpa using this
    · cases this

theorem Rd.far {α : Type} {w w' : World} {F F' : List Nat} {v : Value} {enc : α → List Value} {sz : Nat} {xs : List α} (h : Rd w F v enc sz xs) (h1 : ∀ b, b < w.heap.size → b ∉ F → w'.heap[b]? = w.heap[b]?) (h2 : ∀ b ∈ F', b ∈ F ∨ w.heap.size ≤ b) :
    Rd w' F' v enc sz xs := by
  obtain ⟨hn, a, c, hv, hlc, hc⟩ := h
  refine ⟨hn, a, c, hv, hlc, fun t x f u hx hu => ?_⟩
  obtain ⟨b, o, ha, hb, hcell⟩ := hc t x f u hx hu
  have hlt : b < w.heap.size := cell_lt hcell
  refine ⟨b, o, ha, fun hf => ?_, (World.cell?_of_block (h1 b hlt hb)).trans hcell⟩
  rcases h2 b hf with h3 | h3
  · exact hb h3
  · omega
/-- a flat datum -/
def flatP {α : Type} (enc : α → List Value) (sz : Nat) (he : ∀ x, (enc x).length = sz) : Rp α where
  sz := sz
  own _ cs S x := cs = enc x ∧ S = []
  rd _ _ x cs := cs = enc x
  len := by rintro w cs S x ⟨rfl, _⟩; exact he x
  loc := by rintro w w' cs S x _ h; exact h
  lt := by rintro w cs S x ⟨_, rfl⟩; simp
  nd := by rintro w cs S x ⟨_, rfl⟩; exact List.nodup_nil
  see := by rintro w cs S x F ⟨rfl, _⟩ _; rfl
  rlen := by rintro w F x cs rfl; exact he x
  rloc := by rintro w w' F F' x cs _ _ h; exact h
/-- a row of flat data -/
def rowP {α : Type} (T : TypeId) (enc : α → List Value) (sz : Nat) (he : ∀ x, (enc x).length = sz) (hp : 0 < sz) : Rp (List α) where
  sz := 1
  own w cs S xs := ∃ v, cs = [v] ∧ S = v.ownBlock.toList ∧ w.ownsRow 0 T sz v xs.length (flat enc xs)
  rd w F xs cs := ∃ v, cs = [v] ∧ Rd w F v enc sz xs
  len := by rintro w cs S x ⟨v, rfl, _⟩; rfl
  loc := by
    rintro w w' cs S x h ⟨v, rfl, rfl, hr⟩
    exact ⟨v, rfl, rfl, (rowI v T enc sz x).loc w w' h hr⟩
  lt := by
    rintro w cs S x ⟨v, rfl, rfl, hr⟩
    exact (rowI v T enc sz x).lt w hr
  nd := by
    rintro w cs S x ⟨v, rfl, rfl, hr⟩
    exact rowI_nodup (v := v) (T := T) (enc := enc) (sz := sz) (xs := x)
  see := by
    rintro w cs S x F ⟨v, rfl, rfl, hr⟩ hF
    exact ⟨v, rfl, rd_of_row he hp hr hF⟩
  rlen := by rintro w F x cs ⟨v, rfl, _⟩; rfl
  rloc := by rintro w w' F F' x cs h1 h2 ⟨v, rfl, h⟩; exact ⟨v, rfl, h.far h1 h2⟩
/-- two data side by side -/
def pairP {α β : Type} (A : Rp α) (B : Rp β) : Rp (α × β) where
  sz := A.sz + B.sz
  own w cs S p := ∃ c1 c2 S1 S2, cs = c1 ++ c2 ∧ S = S1 ++ S2 ∧ (∀ b ∈ S1, b ∉ S2) ∧ A.own w c1 S1 p.1 ∧ B.own w c2 S2 p.2
  rd w F p cs := ∃ c1 c2, cs = c1 ++ c2 ∧ A.rd w F p.1 c1 ∧ B.rd w F p.2 c2
  len := by
    rintro w cs S x ⟨c1, c2, S1, S2, rfl, rfl, _, h1, h2⟩
    rw [List.length_append, A.len _ _ _ _ h1, B.len _ _ _ _ h2]
  loc := by
    rintro w w' cs S x h ⟨c1, c2, S1, S2, rfl, rfl, hd, h1, h2⟩
    exact ⟨c1, c2, S1, S2, rfl, rfl, hd, A.loc w w' _ _ _ (fun b hb => h b (List.mem_append_left _ hb)) h1, B.loc w w' _ _ _ (fun b hb => h b (List.mem_append_right _ hb)) h2⟩
  lt := by
    rintro w cs S x ⟨c1, c2, S1, S2, rfl, rfl, hd, h1, h2⟩ b hb
    rcases List.mem_append.1 hb with hb | hb
    · exact A.lt _ _ _ _ h1 b hb
    · exact B.lt _ _ _ _ h2 b hb
  nd := by
    rintro w cs S x ⟨c1, c2, S1, S2, rfl, rfl, hd, h1, h2⟩
    exact List.nodup_append.2 ⟨A.nd _ _ _ _ h1, B.nd _ _ _ _ h2, fun a ha b hb e => by subst e; exact hd a ha hb⟩
  see := by
    rintro w cs S x F ⟨c1, c2, S1, S2, rfl, rfl, hd, h1, h2⟩ hF
    exact ⟨c1, c2, rfl, A.see _ _ _ _ F h1 (fun b hb => hF b (List.mem_append_left _ hb)), B.see _ _ _ _ F h2 (fun b hb => hF b (List.mem_append_right _ hb))⟩
  rlen := by
    rintro w F x cs ⟨c1, c2, rfl, h1, h2⟩
    rw [List.length_append, A.rlen _ _ _ _ h1, B.rlen _ _ _ _ h2]
  rloc := by
    rintro w w' F F' x cs k1 k2 ⟨c1, c2, rfl, h1, h2⟩
    exact ⟨c1, c2, rfl, A.rloc w w' F F' _ _ k1 k2 h1, B.rloc w w' F F' _ _ k1 k2 h2⟩
/-- the datum under another form -/
def asP {α β : Type} (f : β → α) (A : Rp α) : Rp β where
  sz := A.sz
  own w cs S x := A.own w cs S (f x)
  rd w F x cs := A.rd w F (f x) cs
  len w cs S x := A.len w cs S (f x)
  loc w w' cs S x := A.loc w w' cs S (f x)
  lt w cs S x := A.lt w cs S (f x)
  nd w cs S x := A.nd w cs S (f x)
  see w cs S x := A.see w cs S (f x)
  rlen w F x := A.rlen w F (f x)
  rloc w w' F F' x := A.rloc w w' F F' (f x)

/-- cells brought to a number -/
def fit (n : Nat) (cs : List Value) : List Value := cs.take n ++ List.replicate (n - cs.length) undef
theorem fit_len (n : Nat) (cs : List Value) : (fit n cs).length = n := by simp [fit]; omega
theorem fit_eq {n : Nat} {cs : List Value} (h : cs.length = n) : fit n cs = cs := by subst h; simp [fit]

theorem fit_put (cs : List Value) (v : Value) : splice (fit 1 cs) [v] 0 = fit 1 [v] := by
  have h := fit_len 1 cs
  have : (fit 1 cs).drop 1 = [] := List.drop_of_length_le (by omega)
  show (fit 1 cs).take 0 ++ [v] ++ (fit 1 cs).drop 1 = _
  rw [this]; rfl
/-- the data under a row's cells; ho: the place whose datum stands elsewhere -/
def bunI {α : Type} (R : Rp α) (css : List (List Value)) (Ss : List (List Nat)) (xs : List α) (ho : Option Nat) : Item where
  S := Ss.flatten
  Φ w := css.length = xs.length ∧ Ss.length = xs.length ∧ (∀ (i : Nat) (cs : List Value), css[i]? = some cs → cs.length = R.sz) ∧
    (∀ (i : Nat) (S : List Nat), Ss[i]? = some S → (∀ b ∈ S, b < w.heap.size) ∧ (ho = some i → S = [])) ∧
    ∀ (i : Nat) (cs : List Value) (S : List Nat) (x : α), ho ≠ some i → css[i]? = some cs → Ss[i]? = some S → xs[i]? = some x → R.own w cs S x
  loc w w' h hr := by
    obtain ⟨h1, h2, h3, h4, h5⟩ := hr
    have hsz : ∀ b ∈ Ss.flatten, b < w'.heap.size := fun b hb => by
      have e := h b hb
      obtain ⟨S, hS, hbS⟩ := List.mem_flatten.1 hb
      obtain ⟨i, hi, rfl⟩ := List.mem_iff_getElem.1 hS
      have hlt := (h4 i _ (List.getElem?_eq_getElem hi)).1 b hbS
      rw [Array.getElem?_eq_getElem hlt] at e
      exact (Array.getElem?_eq_some_iff.1 e).1
    exact ⟨h1, h2, h3, fun i S hi => ⟨fun b hb => hsz b (List.mem_flatten.2 ⟨S, List.mem_of_getElem? hi, hb⟩), (h4 i S hi).2⟩,
      fun i cs S x hne hc hS hx => R.loc w w' cs S x (fun b hb => h b (List.mem_flatten.2 ⟨S, List.mem_of_getElem? hS, hb⟩)) (h5 i cs S x hne hc hS hx)⟩
  lt w hr b hb := by
    obtain ⟨S, hS, hbS⟩ := List.mem_flatten.1 hb
    obtain ⟨i, hi, rfl⟩ := List.mem_iff_getElem.1 hS
    exact (hr.2.2.2.1 i _ (List.getElem?_eq_getElem hi)).1 b hbS

theorem nodup_flatten_set {Ss : List (List Nat)} {S' : List Nat} : ∀ {i : Nat}, Ss.flatten.Nodup → S'.Nodup → (∀ (k : Nat) (S : List Nat), k ≠ i → Ss[k]? = some S → ∀ b ∈ S', b ∉ S) → (Ss.set i S').flatten.Nodup := by
  induction Ss with
  | nil => intro i h _ _; simp
  | cons T r ih =>
    intro i h hS hx
    simp only [List.flatten_cons] at h
    obtain ⟨n1, n2, n3⟩ := List.nodup_append.1 h
    cases i with
    | zero =>
      simp only [List.set_cons_zero, List.flatten_cons]
      refine List.nodup_append.2 ⟨hS, n2, fun a ha b hb e => ?_⟩
      subst e
      obtain ⟨S, hSr, hb⟩ := List.mem_flatten.1 hb
      obtain ⟨k, hk, rfl⟩ := List.mem_iff_getElem.1 hSr
      exact hx (k + 1) _ (by omega) (by simp) a ha hb
    | succ i =>
      simp only [List.set_cons_succ, List.flatten_cons]
      refine List.nodup_append.2 ⟨n1, ih n2 hS (fun k S hk hSk => hx (k + 1) S (by omega) (by simpa using hSk)), fun a ha b hb e => ?_⟩
      subst e
      obtain ⟨S, hSr, hb2⟩ := List.mem_flatten.1 hb
      rcases List.mem_or_eq_of_mem_set hSr with hSr | rfl
      · exact n3 a ha a (List.mem_flatten.2 ⟨S, hSr, hb2⟩) rfl
      · exact hx 0 T (by omega) rfl a hb2 ha
theorem mem_flatten_set {Ss : List (List Nat)} {S' : List Nat} {i b : Nat} (h : b ∈ (Ss.set i S').flatten) : b ∈ S' ∨ b ∈ Ss.flatten := by
  obtain ⟨S, hS, hb⟩ := List.mem_flatten.1 h
  rcases List.mem_or_eq_of_mem_set hS with hS | rfl
  · exact .inr (List.mem_flatten.2 ⟨S, hS, hb⟩)
  · exact .inl hb
theorem flatten_apart {Ss : List (List Nat)} (h : Ss.flatten.Nodup) : ∀ {i j : Nat} {A B : List Nat}, i ≠ j → Ss[i]? = some A → Ss[j]? = some B → ∀ b ∈ A, b ∉ B := by
  induction Ss with
  | nil => intro i j A B _ hi; simp at hi
  | cons T r ih =>
    intro i j A B hij hi hj b hb hb2
    simp only [List.flatten_cons] at h
    obtain ⟨n1, n2, n3⟩ := List.nodup_append.1 h
    cases i with
    | zero =>
      cases j with
      | zero => exact hij rfl
      | succ j =>
        simp only [List.getElem?_cons_zero, Option.some.injEq] at hi
        subst hi
        exact n3 b hb b (List.mem_flatten.2 ⟨B, List.mem_of_getElem? (by simpa using hj), hb2⟩) rfl
    | succ i =>
      cases j with
      | zero =>
        simp only [List.getElem?_cons_zero, Option.some.injEq] at hj
        subst hj
        exact n3 b hb2 b (List.mem_flatten.2 ⟨A, List.mem_of_getElem? (by simpa using hi), hb⟩) rfl
      | succ j => exact ih n2 (i := i) (j := j) (by omega) (by simpa using hi) (by simpa using hj) b hb hb2

section
variable {w0 w : World} {S0 : List Nat} {L : List Item} {α : Type} {R : Rp α} {css : List (List Value)} {Ss : List (List Nat)} {xs : List α} {ho : Option Nat}
/-- one item at place k, one more (or one fewer) elsewhere: the general rule -/
theorem St.swap (h : St w0 S0 w L) (k : Nat) {A A' B : Item} (hk : L[k]? = some A) (hA : A'.Φ w) (hAn : A'.S.Nodup) (hAs : ∀ b ∈ A'.S, b ∈ A.S) (hB : B.Φ w) (hBn : B.S.Nodup) (hBs : ∀ b ∈ B.S, b ∈ A.S) (hd : ∀ b ∈ A'.S, b ∉ B.S) :
    St w0 S0 w (L.set k A' ++ [B]) := by
  have hlt : k < L.length := (List.getElem?_eq_some_iff.1 hk).1
  have cs : ∀ (m : Nat) (it : Item), (L.set k A' ++ [B])[m]? = some it → (m = k ∧ it = A') ∨ (m = L.length ∧ it = B) ∨ (m ≠ k ∧ m < L.length ∧ L[m]? = some it) := by
    intro m it hm
    rcases Nat.lt_or_ge m L.length with hml | hml
    · rw [List.getElem?_append_left (by simpa using hml)] at hm
      by_cases e : k = m
      · subst e
        rw [List.getElem?_set_self hlt] at hm
        exact .inl ⟨rfl, (Option.some.inj hm).symm⟩
      · rw [List.getElem?_set_ne e] at hm
        exact .inr (.inr ⟨fun x => e x.symm, hml, hm⟩)
    · rw [List.getElem?_append_right (by simpa using hml)] at hm
      have e : m = L.length := by
        have := (List.getElem?_eq_some_iff.1 hm).1
        simp at this
        omega
      subst e
      simp at hm
      exact .inr (.inl ⟨rfl, hm.symm⟩)
  refine h.repart (fun m it hm => ?_) (fun m n a b hmn hm hn x hxa hxb => ?_)
  · rcases cs m it hm with ⟨_, rfl⟩ | ⟨_, rfl⟩ | ⟨_, _, hm⟩
    · exact ⟨hA, hAn, fun x hx => mem_fp.2 ⟨k, _, hk, hAs x hx⟩⟩
    · exact ⟨hB, hBn, fun x hx => mem_fp.2 ⟨k, _, hk, hBs x hx⟩⟩
    · exact ⟨h.all m it hm, h.nd m it hm, fun x hx => mem_fp.2 ⟨m, it, hm, hx⟩⟩
  · rcases cs m a hm with ⟨e1, rfl⟩ | ⟨e1, rfl⟩ | ⟨m1, m2, hm2⟩ <;> rcases cs n b hn with ⟨e2, rfl⟩ | ⟨e2, rfl⟩ | ⟨n1, n2, hn2⟩
    · omega
    · exact hd x hxa hxb
    · exact h.apart k n A b (fun e => n1 e.symm) hk hn2 x (hAs x hxa) hxb
    · exact hd x hxb hxa
    · omega
    · exact h.apart k n A b (fun e => n1 e.symm) hk hn2 x (hBs x hxa) hxb
    · exact h.apart m k a A m1 hm2 hk x hxa (hAs x hxb)
    · exact h.apart m k a A m1 hm2 hk x hxa (hBs x hxb)
    · exact h.apart m n a b hmn hm2 hn2 x hxa hxb
/-- two items become one -/
theorem St.fuse (h : St w0 S0 w L) (k j : Nat) (hkj : Nat.beq k j = false) {A B C : Item} (hk : L[k]? = some A) (hj : L[j]? = some B) (hC : C.Φ w) (hCn : C.S.Nodup) (hCs : ∀ b ∈ C.S, b ∈ A.S ∨ b ∈ B.S) :
    St w0 S0 w ((L.set k C).set j nilI) := by
  have hne : k ≠ j := Nat.ne_of_beq_eq_false hkj
  have hlk : k < L.length := (List.getElem?_eq_some_iff.1 hk).1
  have hlj : j < L.length := (List.getElem?_eq_some_iff.1 hj).1
  have cs : ∀ (m : Nat) (it : Item), ((L.set k C).set j nilI)[m]? = some it → (m = j ∧ it = nilI) ∨ (m = k ∧ it = C) ∨ (m ≠ k ∧ m ≠ j ∧ L[m]? = some it) := by
    intro m it hm
    by_cases e : j = m
    · subst e
      rw [List.getElem?_set_self (by simpa using hlj)] at hm
      exact .inl ⟨rfl, (Option.some.inj hm).symm⟩
    · rw [List.getElem?_set_ne e] at hm
      by_cases e2 : k = m
      · subst e2
        rw [List.getElem?_set_self hlk] at hm
        exact .inr (.inl ⟨rfl, (Option.some.inj hm).symm⟩)
      · rw [List.getElem?_set_ne e2] at hm
        exact .inr (.inr ⟨fun x => e2 x.symm, fun x => e x.symm, hm⟩)
  have inS : ∀ x ∈ C.S, ∃ m it, (m = k ∨ m = j) ∧ L[m]? = some it ∧ x ∈ it.S := by
    intro x hx
    rcases hCs x hx with h1 | h1
    · exact ⟨k, A, .inl rfl, hk, h1⟩
    · exact ⟨j, B, .inr rfl, hj, h1⟩
  refine h.repart (fun m it hm => ?_) (fun m n a b hmn hm hn x hxa hxb => ?_)
  · rcases cs m it hm with ⟨_, rfl⟩ | ⟨_, rfl⟩ | ⟨_, _, hm⟩
    · exact ⟨trivial, List.nodup_nil, fun x hx => absurd hx List.not_mem_nil⟩
    · refine ⟨hC, hCn, fun x hx => ?_⟩
      obtain ⟨m', it, _, h1, h2⟩ := inS x hx
      exact mem_fp.2 ⟨m', it, h1, h2⟩
    · exact ⟨h.all m it hm, h.nd m it hm, fun x hx => mem_fp.2 ⟨m, it, hm, hx⟩⟩
  · rcases cs m a hm with ⟨_, rfl⟩ | ⟨rfl, rfl⟩ | ⟨m1, m2, hm2⟩
    · exact absurd hxa List.not_mem_nil
    · rcases cs n b hn with ⟨_, rfl⟩ | ⟨rfl, rfl⟩ | ⟨n1, n2, hn2⟩
      · exact absurd hxb List.not_mem_nil
      · exact hmn rfl
      · obtain ⟨y, it, hy, h1, h2⟩ := inS x hxa
        exact h.apart y n it b (by rcases hy with rfl | rfl <;> omega) h1 hn2 x h2 hxb
    · rcases cs n b hn with ⟨_, rfl⟩ | ⟨rfl, rfl⟩ | ⟨n1, n2, hn2⟩
      · exact absurd hxb List.not_mem_nil
      · obtain ⟨y, it, hy, h1, h2⟩ := inS x hxb
        exact h.apart m y a it (by rcases hy with rfl | rfl <;> omega) hm2 h1 x hxa h2
      · exact h.apart m n a b hmn hm2 hn2 x hxa hxb
/-- the item is looked at otherwise -/
theorem St.turn (h : St w0 S0 w L) (k : Nat) {A A' : Item} (hk : L[k]? = some A) (hA : A'.Φ w) (hS : A'.S = A.S) : St w0 S0 w (L.set k A') := by
  have h2 := h.swap k (A' := A') (B := nilI) hk hA (by rw [hS]; exact h.nd k A hk) (by rw [hS]; exact fun _ hb => hb) trivial List.nodup_nil (fun b hb => absurd hb List.not_mem_nil) (fun b _ hb => absurd hb List.not_mem_nil)
  have hl : (L.set k A').length ≤ (L.set k A' ++ [nilI]).length := by simp
  refine h2.repart (fun m it hm => ?_) (fun m n a b hmn hm hn => ?_)
  · have hm' : (L.set k A' ++ [nilI])[m]? = some it := by rw [List.getElem?_append_left (List.getElem?_eq_some_iff.1 hm).1]; exact hm
    exact ⟨h2.all m it hm', h2.nd m it hm', fun x hx => mem_fp.2 ⟨m, it, hm', hx⟩⟩
  · exact h2.apart m n a b hmn (by rw [List.getElem?_append_left (List.getElem?_eq_some_iff.1 hm).1]; exact hm) (by rw [List.getElem?_append_left (List.getElem?_eq_some_iff.1 hn).1]; exact hn)

theorem St.bunAt (h : St w0 S0 w L) (k : Nat) (hk : L[k]? = some (bunI R css Ss xs ho)) {t : Int} {x : α} (hx : idx xs t = some x) :
    ∃ cs S, Sx.idx css t = some cs ∧ Ss[t.toNat]? = some S ∧ cs.length = R.sz := by
  obtain ⟨h1, h2, h3, _, _⟩ := h.all k _ hk
  obtain ⟨h0, hl, hx2⟩ := idx_some hx
  have a1 : t.toNat < css.length := by omega
  have a2 : t.toNat < Ss.length := by omega
  refine ⟨css[t.toNat], Ss[t.toNat], by simp [Sx.idx, h0], List.getElem?_eq_getElem a2, h3 _ _ (List.getElem?_eq_getElem a1)⟩
theorem St.out (h : St w0 S0 w L) (k : Nat) (hk : L[k]? = some (bunI R css Ss xs none)) {t : Int} {x : α} {cs : List Value} {S : List Nat} (hx : idx xs t = some x) (hc : Sx.idx css t = some cs) (hS : Ss[t.toNat]? = some S) :
    St w0 S0 w (L.set k (bunI R css (Ss.set t.toNat []) xs (some t.toNat)) ++ [itI R cs S x]) := by
  have hΦ := h.all k _ hk
  obtain ⟨h1, h2, h3, h4, h5⟩ := hΦ
  have hx2 := (idx_some hx).2.2
  have hc2 := (idx_some hc).2.2
  have hlS := (List.getElem?_eq_some_iff.1 hS).1
  have hn : Ss.flatten.Nodup := h.nd k _ hk
  have hown := h5 _ cs S x (by simp) hc2 hS hx2
  have hget : ∀ (i : Nat) (T : List Nat), (Ss.set t.toNat [])[i]? = some T → (i = t.toNat ∧ T = []) ∨ (i ≠ t.toNat ∧ Ss[i]? = some T) := by
    intro i T hi
    by_cases e : t.toNat = i
    · subst e; rw [List.getElem?_set_self hlS] at hi; exact .inl ⟨rfl, (Option.some.inj hi).symm⟩
    · rw [List.getElem?_set_ne e] at hi; exact .inr ⟨fun x => e x.symm, hi⟩
  refine h.swap k hk ⟨h1, by simpa using h2, h3, fun i T hi => ?_, fun i c T y hne hci hTi hyi => ?_⟩ (nodup_flatten_set hn List.nodup_nil (fun _ _ _ _ b hb => absurd hb List.not_mem_nil)) (fun b hb => ?_) hown (R.nd _ _ _ _ hown) (fun b hb => List.mem_flatten.2 ⟨S, List.mem_of_getElem? hS, hb⟩) (fun b hb hb2 => ?_)
  · rcases hget i T hi with ⟨rfl, rfl⟩ | ⟨hne, hi⟩
    · exact ⟨fun b hb => absurd hb List.not_mem_nil, fun _ => rfl⟩
    · exact ⟨(h4 i T hi).1, fun e => absurd (Option.some.inj e).symm hne⟩
  · rcases hget i T hTi with ⟨rfl, rfl⟩ | ⟨_, hTi⟩
    · exact absurd rfl hne
    · exact h5 i c T y (by simp) hci hTi hyi
  · rcases mem_flatten_set hb with hb | hb
    · exact absurd hb List.not_mem_nil
    · exact hb
  · obtain ⟨T, hT, hb⟩ := List.mem_flatten.1 hb
    obtain ⟨i, hi, rfl⟩ := List.mem_iff_getElem.1 hT
    rcases hget i _ (List.getElem?_eq_getElem hi) with ⟨_, e⟩ | ⟨hne, hi2⟩
    · rw [e] at hb; exact absurd hb List.not_mem_nil
    · exact flatten_apart hn hne hi2 hS b hb hb2
theorem St.outc (h : St w0 S0 w L) (k : Nat) (hk : L[k]? = some (bunI R css Ss xs none)) {t : Int} {x : α} {cs : List Value} (hx : idx xs t = some x) (hc : Sx.idx css t = some cs) :
    ∃ S, St w0 S0 w (L.set k (bunI R css (Ss.set t.toNat []) xs (some t.toNat)) ++ [itI R cs S x]) := by
  obtain ⟨_, S, _, hS, _⟩ := h.bunAt k hk hx
  exact ⟨S, h.out k hk hx hc hS⟩
theorem idx_set {β : Type} {l : List β} {t : Int} {x y : β} (h : idx l t = some x) : idx (l.set t.toNat y) t = some y := by
  obtain ⟨h0, h1, _⟩ := idx_some h
  simp [Sx.idx, h0, (by omega : t.toNat < l.length)]
/-- a datum is put into a place -/
theorem St.put (h : St w0 S0 w L) (k j : Nat) (hkj : Nat.beq k j = false) {t : Int} {cs : List Value} {S : List Nat} {x y : α} (hk : L[k]? = some (bunI R css Ss xs ho)) (hho : ho = none ∨ ho = some t.toNat) (hj : L[j]? = some (itI R cs S x)) (ht : idx xs t = some y) :
    St w0 S0 w ((L.set k (bunI R (css.set t.toNat cs) (Ss.set t.toNat S) (xs.set t.toNat x) none)).set j nilI) := by
  obtain ⟨h1, h2, h3, h4, h5⟩ := h.all k _ hk
  have hown : R.own w cs S x := h.all j _ hj
  have hn : Ss.flatten.Nodup := h.nd k _ hk
  obtain ⟨ht0, htl, _⟩ := idx_some ht
  have hap : ∀ b ∈ S, b ∉ Ss.flatten := fun b hb hb2 => h.apart j k _ _ (fun e => Nat.ne_of_beq_eq_false hkj e.symm) hj hk b hb hb2
  have hget : ∀ {β : Type} (l : List β) (z : β) (i : Nat) (u : β), (l.set t.toNat z)[i]? = some u → (i = t.toNat ∧ u = z) ∨ (i ≠ t.toNat ∧ l[i]? = some u) := by
    intro β l z i u hi
    by_cases e : t.toNat = i
    · subst e
      have hl : t.toNat < l.length := by have := (List.getElem?_eq_some_iff.1 hi).1; simpa using this
      rw [List.getElem?_set_self hl] at hi; exact .inl ⟨rfl, (Option.some.inj hi).symm⟩
    · rw [List.getElem?_set_ne e] at hi; exact .inr ⟨fun x => e x.symm, hi⟩
  refine h.fuse k j hkj hk hj ⟨by simpa using h1, by simpa using h2, fun i c hc => ?_, fun i T hT => ?_, fun i c T z _ hc hT hz => ?_⟩ (nodup_flatten_set hn (R.nd _ _ _ _ hown) (fun q T _ hT b hb hb2 => hap b hb (List.mem_flatten.2 ⟨T, List.mem_of_getElem? hT, hb2⟩))) (fun b hb => ?_)
  · rcases hget _ _ _ _ hc with ⟨_, rfl⟩ | ⟨_, hc⟩
    · exact R.len _ _ _ _ hown
    · exact h3 i c hc
  · rcases hget _ _ _ _ hT with ⟨_, rfl⟩ | ⟨_, hT⟩
    · exact ⟨R.lt _ _ _ _ hown, fun e => by cases e⟩
    · exact ⟨(h4 i T hT).1, fun e => by cases e⟩
  · rcases hget _ _ _ _ hc with ⟨e, rfl⟩ | ⟨hne, hc⟩
    · subst e
      rcases hget _ _ _ _ hT with ⟨_, rfl⟩ | ⟨hne, _⟩
      · rcases hget _ _ _ _ hz with ⟨_, rfl⟩ | ⟨hne, _⟩
        · exact hown
        · exact absurd rfl hne
      · exact absurd rfl hne
    · rcases hget _ _ _ _ hT with ⟨e, _⟩ | ⟨_, hT⟩
      · exact absurd e hne
      · rcases hget _ _ _ _ hz with ⟨e, _⟩ | ⟨_, hz⟩
        · exact absurd e hne
        · refine h5 i c T z (fun e => ?_) hc hT hz
          rcases hho with rfl | rfl
          · cases e
          · exact hne (Option.some.inj e).symm
  · rcases mem_flatten_set hb with hb | hb
    · exact .inr hb
    · exact .inl hb
theorem set_self {β : Type} {l : List β} {t : Int} {x : β} (h : idx l t = some x) : l.set t.toNat x = l := by
  have := (idx_some h).2.2
  apply List.ext_getElem?
  intro i
  by_cases e : t.toNat = i
  · subst e; rw [List.getElem?_set_self (List.getElem?_eq_some_iff.1 this).1, this]
  · rw [List.getElem?_set_ne e]
/-- it goes back as it was -/
theorem St.back (h : St w0 S0 w L) (k j : Nat) (hkj : Nat.beq k j = false) {t : Int} {cs : List Value} {S : List Nat} {x : α} (hk : L[k]? = some (bunI R css Ss xs (some t.toNat))) (hj : L[j]? = some (itI R cs S x)) (ht : idx xs t = some x) (hc : Sx.idx css t = some cs) :
    St w0 S0 w ((L.set k (bunI R css (Ss.set t.toNat S) xs none)).set j nilI) := by
  have := h.put k j hkj hk (.inr rfl) hj ht
  rwa [set_self hc, set_self ht] at this
/-- it goes back, its cells as they were -/
theorem St.backx (h : St w0 S0 w L) (k j : Nat) (hkj : Nat.beq k j = false) {t : Int} {cs : List Value} {S : List Nat} {x y : α} (hk : L[k]? = some (bunI R css Ss xs (some t.toNat))) (hj : L[j]? = some (itI R cs S x)) (ht : idx xs t = some y) (hc : Sx.idx css t = some cs) :
    St w0 S0 w ((L.set k (bunI R css (Ss.set t.toNat S) (xs.set t.toNat x) none)).set j nilI) := by
  have := h.put k j hkj hk (.inr rfl) hj ht
  rwa [set_self hc] at this
theorem St.bunLen (h : St w0 S0 w L) (j k : Nat) {v : Value} {T : TypeId} {enc : List Value → List Value} {sz : Nat} (hj : L[j]? = some (rowI v T enc sz css)) (hk : L[k]? = some (bunI R css Ss xs ho)) :
    xs.length ≤ 9223372036854775807 ∧ ∃ a c, v = .slice a xs.length c := by
  obtain ⟨h1, a, c, rfl⟩ := h.len j hj
  have h2 := (h.all k _ hk).1
  exact ⟨by omega, a, c, by rw [h2]⟩
/-- one bundle behind the other -/
theorem St.bunApp (h : St w0 S0 w L) (k j : Nat) (hkj : Nat.beq k j = false) {css2 : List (List Value)} {Ss2 : List (List Nat)} {ys : List α} (hk : L[k]? = some (bunI R css Ss xs none)) (hj : L[j]? = some (bunI R css2 Ss2 ys none)) :
    St w0 S0 w ((L.set k (bunI R (css ++ css2) (Ss ++ Ss2) (xs ++ ys) none)).set j nilI) := by
  obtain ⟨a1, a2, a3, a4, a5⟩ := h.all k _ hk
  obtain ⟨b1, b2, b3, b4, b5⟩ := h.all j _ hj
  have hap : ∀ b ∈ Ss.flatten, b ∉ Ss2.flatten := fun b hb hb2 => h.apart k j _ _ (Nat.ne_of_beq_eq_false hkj) hk hj b hb hb2
  have get : ∀ {β : Type} (l m : List β) (i : Nat) (u : β), (l ++ m)[i]? = some u → (i < l.length ∧ l[i]? = some u) ∨ (l.length ≤ i ∧ m[i - l.length]? = some u) := by
    intro β l m i u hi
    rcases Nat.lt_or_ge i l.length with hlt | hge
    · rw [List.getElem?_append_left hlt] at hi; exact .inl ⟨hlt, hi⟩
    · rw [List.getElem?_append_right hge] at hi; exact .inr ⟨hge, hi⟩
  refine h.fuse k j hkj hk hj ⟨by simp; omega, by simp; omega, fun i c hc => ?_, fun i T hT => ?_, fun i c T z _ hc hT hz => ?_⟩ ?_ (fun b hb => ?_)
  · rcases get _ _ _ _ hc with ⟨_, hc⟩ | ⟨_, hc⟩
    · exact a3 _ _ hc
    · exact b3 _ _ hc
  · rcases get _ _ _ _ hT with ⟨_, hT⟩ | ⟨_, hT⟩
    · exact ⟨(a4 _ _ hT).1, fun e => by cases e⟩
    · exact ⟨(b4 _ _ hT).1, fun e => by cases e⟩
  · rcases get _ _ _ _ hc with ⟨l1, hc⟩ | ⟨l1, hc⟩
    · rcases get _ _ _ _ hT with ⟨l2, hT⟩ | ⟨l2, hT⟩
      · rcases get _ _ _ _ hz with ⟨l3, hz⟩ | ⟨l3, hz⟩
        · exact a5 i c T z (by simp) hc hT hz
        · omega
      · omega
    · rcases get _ _ _ _ hT with ⟨l2, hT⟩ | ⟨l2, hT⟩
      · omega
      · rcases get _ _ _ _ hz with ⟨l3, hz⟩ | ⟨l3, hz⟩
        · omega
        · refine b5 (i - css.length) c T z (by simp) hc ?_ ?_
          · rw [show css.length = Ss.length by omega]; exact hT
          · rw [show css.length = xs.length by omega]; exact hz
  · show (Ss ++ Ss2).flatten.Nodup
    rw [List.flatten_append]
    exact List.nodup_append.2 ⟨h.nd k _ hk, h.nd j _ hj, fun a ha b hb e => by subst e; exact hap a ha hb⟩
  · have hb' : b ∈ (Ss ++ Ss2).flatten := hb
    rw [List.flatten_append] at hb'
    exact List.mem_append.1 hb'
theorem rep_get {β : Type} {n i : Nat} {a b : β} (h : (List.replicate n a)[i]? = some b) : i < n ∧ a = b := by
  rw [List.getElem?_replicate] at h
  split at h
  · rename_i hi; exact ⟨hi, by cases h; rfl⟩
  · cases h
/-- a bundle of data that own no memory -/
theorem St.bunNew (h : St w0 S0 w L) (R : Rp α) (cs : List Value) (x : α) (n : Nat) (hx : ∀ w, R.own w cs [] x) : St w0 S0 w (L ++ [bunI R (List.replicate n cs) (List.replicate n []) (List.replicate n x) none]) := by
  have e : (List.replicate n ([] : List Nat)).flatten = [] := by
    induction n with
    | zero => rfl
    | succ n ih => simp [List.replicate_succ, ih]
  refine h.push (Chg.refl _ _) ⟨by simp, by simp, fun i c hc => ?_, fun i T hT => ?_, fun i c T z _ hc hT hz => ?_⟩ (fun b hb => ?_) ?_
  · obtain ⟨_, rfl⟩ := rep_get hc
    exact R.len w _ _ _ (hx w)
  · obtain ⟨_, rfl⟩ := rep_get hT
    exact ⟨fun b hb => absurd hb List.not_mem_nil, fun _ => rfl⟩
  · obtain ⟨_, rfl⟩ := rep_get hc
    obtain ⟨_, rfl⟩ := rep_get hT
    obtain ⟨_, rfl⟩ := rep_get hz
    exact hx w
  · have : b ∈ (List.replicate n ([] : List Nat)).flatten := hb
    rw [e] at this
    exact absurd this List.not_mem_nil
  · show (List.replicate n ([] : List Nat)).flatten.Nodup
    rw [e]; exact List.nodup_nil
theorem St.bunNil (h : St w0 S0 w L) (R : Rp α) : St w0 S0 w (L ++ [bunI R [] [] [] none]) := h.push (Chg.refl _ _) ⟨rfl, rfl, fun i c hc => by simp at hc, fun i c hc => by simp at hc, fun i c T z _ hc => by simp at hc⟩ (fun b hb => by simp [bunI] at hb) (by simp [bunI])
/-- a bundle of one -/
theorem St.bunOne (h : St w0 S0 w L) (j : Nat) {cs : List Value} {S : List Nat} {x : α} (hj : L[j]? = some (itI R cs S x)) : St w0 S0 w (L.set j (bunI R [cs] [S] [x] none)) := by
  have hown : R.own w cs S x := h.all j _ hj
  refine h.turn j hj ⟨rfl, rfl, fun i c hc => ?_, fun i T hT => ?_, fun i c T z _ hc hT hz => ?_⟩ (by simp [bunI, itI])
  · cases i with
    | zero => simp at hc; subst hc; exact R.len _ _ _ _ hown
    | succ i => simp at hc
  · cases i with
    | zero => simp at hT; subst hT; exact ⟨R.lt _ _ _ _ hown, fun e => by cases e⟩
    | succ i => simp at hT
  · cases i with
    | zero => simp at hc hT hz; subst hc; subst hT; subst hz; exact hown
    | succ i => simp at hc
/-- rows are items of both forms -/
theorem St.toIt {β : Type} {v : Value} {T : TypeId} {enc : β → List Value} {sz : Nat} {ys : List β} (h : St w0 S0 w L) (j : Nat) (hj : L[j]? = some (rowI v T enc sz ys)) (he : ∀ x, (enc x).length = sz) (hp : 0 < sz) :
    St w0 S0 w (L.set j (itI (rowP T enc sz he hp) [v] v.ownBlock.toList ys)) := h.turn j hj ⟨v, rfl, rfl, h.all j _ hj⟩ rfl
theorem St.toRow {β : Type} {cs : List Value} {S : List Nat} {T : TypeId} {enc : β → List Value} {sz : Nat} {ys : List β} {he : ∀ x, (enc x).length = sz} {hp : 0 < sz} (h : St w0 S0 w L) (j : Nat) (hj : L[j]? = some (itI (rowP T enc sz he hp) cs S ys)) :
    ∃ v, cs = [v] ∧ St w0 S0 w (L.set j (rowI v T enc sz ys)) := by
  obtain ⟨v, rfl, rfl, hr⟩ := h.all j _ hj
  exact ⟨v, rfl, h.turn j hj hr rfl⟩
/-- read where it stands, by a callee that is handed other items -/
theorem St.rdn (hst : St w0 S0 w L) (j k : Nat) {v : Value} {T : TypeId} (hj : L[j]? = some (rowI v T (fit R.sz) R.sz css)) (hk : L[k]? = some (bunI R css Ss xs none)) (ids : List Nat) (hn : mem? j ids = false) (hm : mem? k ids = false) :
    RdN w (fp (sel L ids)) v R.rd R.sz xs := by
  obtain ⟨hl, a, c, hv⟩ := hst.bunLen j k hj hk
  obtain ⟨a1, a2, a3, a4, a5⟩ := hst.all k _ hk
  have hr := hst.all j _ hj
  have noin : ∀ (q : Nat) (A : Item), L[q]? = some A → mem? q ids = false → ∀ b ∈ A.S, b ∉ fp (sel L ids) := by
    intro q A hq hmq b hb hf
    obtain ⟨k1, it, hk1, hbs⟩ := mem_fp.1 hf
    obtain ⟨k', hk', hk1⟩ := sel_get hk1
    rcases getD_cases hk1 with hk1 | rfl
    · have hne : q ≠ k' := by
        rintro rfl
        have := mem?_iff.2 (List.mem_of_getElem? hk')
        rw [this] at hmq
        cases hmq
      exact hst.apart q k' A it hne hq hk1 b hb hbs
    · cases hbs
  have hlc : xs.length ≤ c := by
    subst hv
    have := hst.cap j hj
    omega
  refine ⟨hl, a, c, hv, hlc, fun t x hx => ?_⟩
  have hlt := (List.getElem?_eq_some_iff.1 hx).1
  have l1 : t < css.length := by omega
  have l2 : t < Ss.length := by omega
  have own := a5 t css[t] Ss[t] x (by simp) (List.getElem?_eq_getElem l1) (List.getElem?_eq_getElem l2) hx
  refine ⟨css[t], R.see _ _ _ _ _ own (fun b hb => noin k _ hk hm b (List.mem_flatten.2 ⟨Ss[t], List.getElem_mem l2, hb⟩)), ?_⟩
  subst hv
  rcases hr.2 with ⟨hv, h0⟩ | ⟨g, cap, cur, hv, _, hg, hnc, hmm, hcs, htake⟩
  · omega
  · simp only [Value.slice.injEq] at hv
    obtain ⟨rfl, _, _⟩ := hv
    refine ⟨g, 0, rfl, noin j _ hj hn g (by simp [rowI, Value.ownBlock]), fun f u hu => ?_⟩
    have hu' : (fit R.sz css[t])[f]? = some u := by rw [fit_eq (a3 t _ (List.getElem?_eq_getElem l1))]; exact hu
    have := flat_get (fun x => fit_len R.sz x) (List.getElem?_eq_getElem l1) hu'
    rw [← htake, List.getElem?_take] at this
    split at this
    · rw [cell_of_row w g _ cur T (0, 0) hg, Nat.zero_add]
      simpa using this
    · cases this
end
/-- read memory handed on -/
theorem RdN.give {α : Type} {R : Rp α} {w0 w : World} {S0 : List Nat} {L : List Item} {v : Value} {xs : List α} (hp : 0 < R.sz) (h : RdN w0 S0 v R.rd R.sz xs) (hst : St w0 S0 w L) (ids : List Nat) : RdN w (fp (sel L ids)) v R.rd R.sz xs := by
  obtain ⟨hn, a, c, hv, hlc, hc⟩ := h
  have ins : ∀ b ∈ fp (sel L ids), b ∈ S0 ∨ w0.heap.size ≤ b := by
    intro b hf
    obtain ⟨j, it, hj, hbs⟩ := mem_fp.1 hf
    obtain ⟨k, _, hk⟩ := sel_get hj
    rcases getD_cases hk with hk | rfl
    · exact hst.own k it hk b hbs
    · cases hbs
  refine ⟨hn, a, c, hv, hlc, fun t x hx => ?_⟩
  obtain ⟨cs, hDx, b, o, ha, hb, hcell⟩ := hc t x hx
  have hl := R.rlen _ _ _ _ hDx
  have hlt : b < w0.heap.size := cell_lt (hcell 0 cs[0] (List.getElem?_eq_getElem (by omega)))
  refine ⟨cs, R.rloc _ _ _ _ _ _ (fun b h1 h2 => hst.chg.block b h1 h2) ins hDx, b, o, ha, fun hf => ?_, fun f u hu => (World.cell?_of_block (hst.chg.block b hlt hb)).trans (hcell f u hu)⟩
  rcases ins b hf with h1 | h1
  · exact hb h1
  · omega
theorem RdN.nil {α : Type} (w : World) (S : List Nat) (D : World → List Nat → α → List Value → Prop) (sz c : Nat) : RdN w S (.slice none 0 c) D sz ([] : List α) := ⟨by simp, none, c, rfl, Nat.zero_le _, fun t x hx => by simp at hx⟩

/-! ### parts of what is read -/
def shd (a : Option Addr) (c lo sz : Nat) : Option Addr := if c = lo then a else a.map (·.add (lo * sz))
theorem cut_get {α : Type} {xs ys : List α} {lo hi : Int} (h : cut xs lo hi = some ys) {t : Nat} {x : α} (hx : ys[t]? = some x) : xs[lo.toNat + t]? = some x := by
  obtain ⟨h0, h1, h2, rfl⟩ := cut_some h
  rw [List.getElem?_drop, List.getElem?_take] at hx
  split at hx
  · exact hx
  · cases hx
theorem Rd.part {α : Type} {w : World} {S : List Nat} {a : Option Addr} {n c : Nat} {enc : α → List Value} {sz : Nat} {xs ys : List α} {lo hi : Int} (h : Rd w S (.slice a n c) enc sz xs) (hc : cut xs lo hi = some ys) :
    Rd w S (.slice (shd a c lo.toNat sz) ys.length (c - lo.toNat)) enc sz ys := by
  obtain ⟨hn, a', c', hv, hlc, hcell⟩ := h
  simp only [Value.slice.injEq] at hv
  obtain ⟨rfl, rfl, rfl⟩ := hv
  obtain ⟨h0, h1, h2, _⟩ := cut_some hc
  have hl := cut_len hc
  refine ⟨by omega, _, _, rfl, by omega, fun t x f u hx hu => ?_⟩
  obtain ⟨b, o, rfl, hb, hcl⟩ := hcell _ x f u (cut_get hc hx) hu
  have hlt := (List.getElem?_eq_some_iff.1 hx).1
  refine ⟨b, o + lo.toNat * sz, ?_, hb, ?_⟩
  · unfold shd
    rw [if_neg (by omega), Option.map_some, add_none]
  · rw [Nat.add_mul, ← Nat.add_assoc] at hcl
    exact hcl
theorem Rd.pre {α : Type} {w : World} {S : List Nat} {a : Option Addr} {n c : Nat} {enc : α → List Value} {sz : Nat} {xs ys : List α} {hi : Int} (h : Rd w S (.slice a n c) enc sz xs) (hc : cut xs 0 hi = some ys) : Rd w S (.slice a ys.length c) enc sz ys := by
  have h2 := h.part hc
  have e : shd a c (Int.toNat 0) sz = a := by
    unfold shd
    split
    · rfl
    · cases a with
      | none => rfl
      | some z => simp [Addr.add]
  rw [e] at h2
  exact h2
section
variable {P : Program} {N : Nat} {fr : List (Nat × Value)}
theorem suf_run {α : Type} {o : Oper} {t e : TypeId} {x y : Operand} {a : Option Addr} {n c : Nat} {q : Int} {kd : IntKind} {xs ys : List α} (sz : Nat) (ho : o.op = .slice t x (some y) none none) (hx : look fr x = some (.slice a n c)) (hn : n = xs.length) (hy : look fr y = some (.int kd q))
    (hc : cut xs q (xs.length : Int) = some ys) (ht : P.underlying t = some (.slice e)) (hs : psem P (sizeOf e) = some sz) : ∀ b w, Rep N fr b → (execOp b.eval o).run P w = .ok (.value (.slice (shd a c q.toNat sz) ys.length (c - q.toNat))) w := by
  intro b w hb
  have e1 := hb.look hx
  have e2 := hb.look hy
  obtain ⟨h0, h1, h2, _⟩ := cut_some hc
  have hl := cut_len hc
  subst hn
  have h3 : 0 ≤ q ∧ q ≤ (xs.length : Int) := ⟨h0, h1⟩
  have e3 : xs.length - q.toNat = ys.length := by omega
  simp [execOp, ho, Instr.sliceAt, Instr.slice, Instr.sliceBounds, Instr.sliceBound, run_underlying ht, e1, e2, asIntOf, h3, psem_run hs, e3, shd]
theorem sub_run {α : Type} {o : Oper} {t e : TypeId} {x y z : Operand} {a : Option Addr} {n c : Nat} {q r : Int} {kd ke : IntKind} {xs ys : List α} (sz : Nat) (ho : o.op = .slice t x (some y) (some z) none) (hx : look fr x = some (.slice a n c)) (hy : look fr y = some (.int kd q)) (hz : look fr z = some (.int ke r))
    (hc : cut xs q r = some ys) (hcap : xs.length ≤ c) (ht : P.underlying t = some (.slice e)) (hs : psem P (sizeOf e) = some sz) : ∀ b w, Rep N fr b → (execOp b.eval o).run P w = .ok (.value (.slice (shd a c q.toNat sz) ys.length (c - q.toNat))) w := by
  intro b w hb
  have e1 := hb.look hx
  have e2 := hb.look hy
  have e4 := hb.look hz
  obtain ⟨h0, h1, h2, _⟩ := cut_some hc
  have hl := cut_len hc
  have h3 : 0 ≤ r ∧ r ≤ (c : Int) := ⟨by omega, by omega⟩
  have h5 : 0 ≤ q ∧ q ≤ r := ⟨h0, h1⟩
  have h6 : (r.toNat : Int) = r := by omega
  have e3 : r.toNat - q.toNat = ys.length := by omega
  simp [execOp, ho, Instr.sliceAt, Instr.slice, Instr.sliceBounds, Instr.sliceBound, run_underlying ht, e1, e2, e4, asIntOf, h3, h5, h6, psem_run hs, e3, shd]
end
theorem Rd.cap {α : Type} {w : World} {S : List Nat} {a : Option Addr} {n c : Nat} {enc : α → List Value} {sz : Nat} {xs : List α} (h : Rd w S (.slice a n c) enc sz xs) : xs.length ≤ c := by
  obtain ⟨_, a', c', hv, hlc, _⟩ := h
  simp only [Value.slice.injEq] at hv
  obtain ⟨_, _, rfl⟩ := hv
  exact hlc
end Go.Sx

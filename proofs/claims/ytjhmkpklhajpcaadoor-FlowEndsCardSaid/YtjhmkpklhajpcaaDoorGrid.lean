/- Rows of rows: the outer row holds headers; the inner rows are one item together. -/
import Derived.Test.YtjhmkpklhajpcaaDoorMore
set_option linter.unusedVariables false
namespace Go.Sx
open Go.RowKit

def vnil : Value := .slice none 0 0
def bl : List Value → List Nat
  | [] => []
  | v :: r => v.ownBlock.toList ++ bl r
theorem mem_bl {hs : List Value} {x : Nat} : x ∈ bl hs ↔ ∃ (i : Nat) (v : Value), hs[i]? = some v ∧ x ∈ v.ownBlock.toList := by
  induction hs with
  | nil => simp [bl]
  | cons v r ih =>
    simp only [bl, List.mem_append, ih]
    constructor
    · rintro (h | ⟨i, u, hi, hx⟩)
      · exact ⟨0, v, rfl, h⟩
      · exact ⟨i + 1, u, hi, hx⟩
    · rintro ⟨i, u, hi, hx⟩
      cases i with
      | zero => simp only [List.getElem?_cons_zero, Option.some.injEq] at hi; subst hi; exact .inl hx
      | succ i => exact .inr ⟨i, u, hi, hx⟩
theorem bl_out {hs : List Value} : ∀ {i : Nat} {v : Value}, (bl hs).Nodup → hs[i]? = some v → (bl (hs.set i vnil)).Nodup ∧ ∀ x ∈ v.ownBlock.toList, x ∉ bl (hs.set i vnil) := by
  induction hs with
  | nil => intro i v _ h; simp at h
  | cons u r ih =>
    intro i v hn hi
    simp only [bl] at hn
    obtain ⟨n1, n2, n3⟩ := List.nodup_append.1 hn
    cases i with
    | zero =>
      simp only [List.getElem?_cons_zero, Option.some.injEq] at hi
      subst hi
      refine ⟨by simpa [bl, vnil, Value.ownBlock] using n2, fun x hx hx2 => ?_⟩
      simp only [List.set_cons_zero, bl, vnil, Value.ownBlock, Option.toList_none, List.nil_append] at hx2
      exact n3 x hx x hx2 rfl
    | succ i =>
      have hi' : r[i]? = some v := by simpa using hi
      obtain ⟨a1, a2⟩ := ih n2 hi'
      have sub : ∀ x ∈ bl (r.set i vnil), x ∈ bl r := by
        intro x hx
        obtain ⟨k, w, hk, hw⟩ := mem_bl.1 hx
        by_cases e : i = k
        · subst e
          rw [List.getElem?_set_self (List.getElem?_eq_some_iff.1 hi').1] at hk
          cases hk
          simp [vnil, Value.ownBlock] at hw
        · rw [List.getElem?_set_ne e] at hk
          exact mem_bl.2 ⟨k, w, hk, hw⟩
      refine ⟨?_, fun x hx hx2 => ?_⟩
      · simp only [List.set_cons_succ, bl]
        exact List.nodup_append.2 ⟨n1, a1, fun x hx y hy => n3 x hx y (sub y hy)⟩
      · simp only [List.set_cons_succ, bl, List.mem_append] at hx2
        rcases hx2 with hx2 | hx2
        · exact n3 x hx2 x (mem_bl.2 ⟨i, v, hi', hx⟩) rfl
        · exact a2 x hx hx2
theorem bl_in {hs : List Value} {v : Value} : ∀ {i : Nat}, (bl hs).Nodup → hs[i]? = some vnil → v.ownBlock.toList.Nodup → (∀ x ∈ v.ownBlock.toList, x ∉ bl hs) → (bl (hs.set i v)).Nodup ∧ ∀ x ∈ bl (hs.set i v), x ∈ v.ownBlock.toList ∨ x ∈ bl hs := by
  induction hs with
  | nil => intro i _ h; simp at h
  | cons u r ih =>
    intro i hn hi hv hx
    simp only [bl] at hn hx
    obtain ⟨n1, n2, n3⟩ := List.nodup_append.1 hn
    cases i with
    | zero =>
      simp only [List.set_cons_zero, bl]
      refine ⟨List.nodup_append.2 ⟨hv, n2, fun x hx1 y hy e => ?_⟩, fun x hx1 => ?_⟩
      · subst e; exact hx x hx1 (List.mem_append_right _ hy)
      · rcases List.mem_append.1 hx1 with h | h
        · exact .inl h
        · exact .inr (List.mem_append_right _ h)
    | succ i =>
      have hi' : r[i]? = some vnil := by simpa using hi
      obtain ⟨a1, a2⟩ := ih n2 hi' hv (fun x h1 h2 => hx x h1 (List.mem_append_right _ h2))
      simp only [List.set_cons_succ, bl]
      refine ⟨List.nodup_append.2 ⟨n1, a1, fun x h1 y h2 e => ?_⟩, fun x h1 => ?_⟩
      · subst e
        rcases a2 x h2 with h | h
        · exact hx x h (List.mem_append_left _ h1)
        · exact n3 x h1 x h rfl
      · rcases List.mem_append.1 h1 with h | h
        · exact .inr (List.mem_append_left _ h)
        · rcases a2 x h with h | h
          · exact .inl h
          · exact .inr (List.mem_append_right _ h)

/-- the inner rows together -/
def manyI {α : Type} (hs : List Value) (T : TypeId) (enc : α → List Value) (sz : Nat) (xss : List (List α)) : Item where
  S := bl hs
  Φ w := hs.length = xss.length ∧ ∀ (i : Nat) (v : Value) (xs : List α), hs[i]? = some v → xss[i]? = some xs → (rowI v T enc sz xs).Φ w
  loc w w' h hr := ⟨hr.1, fun i v xs hi hx => (rowI v T enc sz xs).loc w w' (fun b hb => h b (mem_bl.2 ⟨i, v, hi, hb⟩)) (hr.2 i v xs hi hx)⟩
  lt w h x hx := by
    obtain ⟨i, v, hi, hv⟩ := mem_bl.1 hx
    have hlt : i < xss.length := by have := (List.getElem?_eq_some_iff.1 hi).1; omega
    exact (rowI v T enc sz xss[i]).lt w (h.2 i v _ hi (List.getElem?_eq_getElem hlt)) x hv

section
variable {w0 w : World} {S0 : List Nat} {L L' : List Item}
/-- other items over the same blocks -/
theorem St.repart (h : St w0 S0 w L) (h1 : ∀ (i : Nat) (it : Item), L'[i]? = some it → it.Φ w ∧ it.S.Nodup ∧ ∀ x ∈ it.S, x ∈ fp L)
    (h2 : ∀ (i j : Nat) (a b : Item), i ≠ j → L'[i]? = some a → L'[j]? = some b → ∀ x ∈ a.S, x ∉ b.S) : St w0 S0 w L' :=
  ⟨h.chg, fun i it hi => (h1 i it hi).1, fun i it hi => (h1 i it hi).2.1, h2, fun i it hi x hx => by
    obtain ⟨j, jt, hj, hb⟩ := mem_fp.1 ((h1 i it hi).2.2 x hx)
    exact h.own j jt hj x hb⟩

theorem St.focus {α : Type} {hs : List Value} {T : TypeId} {enc : α → List Value} {sz : Nat} {xss : List (List α)} {i : Nat} {v : Value} {xs : List α} (h : St w0 S0 w L) (j : Nat)
    (hj : L[j]? = some (manyI hs T enc sz xss)) (hv : hs[i]? = some v) (hx : xss[i]? = some xs) :
    St w0 S0 w (L.set j (manyI (hs.set i vnil) T enc sz (xss.set i [])) ++ [rowI v T enc sz xs]) := by
  have hlt : j < L.length := (List.getElem?_eq_some_iff.1 hj).1
  have hΦ := h.all j _ hj
  obtain ⟨n1, n2⟩ := bl_out (h.nd j _ hj) hv
  have hvs : ∀ x ∈ v.ownBlock.toList, x ∈ bl hs := fun x hx => mem_bl.2 ⟨i, v, hv, hx⟩
  have sub : ∀ x ∈ bl (hs.set i vnil), x ∈ bl hs := by
    intro x hx
    obtain ⟨k, u, hk, hu⟩ := mem_bl.1 hx
    by_cases e : i = k
    · subst e
      rw [List.getElem?_set_self (List.getElem?_eq_some_iff.1 hv).1] at hk
      cases hk
      simp [vnil, Value.ownBlock] at hu
    · rw [List.getElem?_set_ne e] at hk
      exact mem_bl.2 ⟨k, u, hk, hu⟩
  have cases' : ∀ (k : Nat) (it : Item), (L.set j (manyI (hs.set i vnil) T enc sz (xss.set i [])) ++ [rowI v T enc sz xs])[k]? = some it →
      (k = j ∧ it = manyI (hs.set i vnil) T enc sz (xss.set i [])) ∨ (k = L.length ∧ it = rowI v T enc sz xs) ∨ (k ≠ j ∧ k < L.length ∧ L[k]? = some it) := by
    intro k it hk
    rcases Nat.lt_or_ge k L.length with hkl | hkl
    · rw [List.getElem?_append_left (by simpa using hkl)] at hk
      by_cases e : j = k
      · subst e
        rw [List.getElem?_set_self hlt] at hk
        exact .inl ⟨rfl, (Option.some.inj hk).symm⟩
      · rw [List.getElem?_set_ne e] at hk
        exact .inr (.inr ⟨fun x => e x.symm, hkl, hk⟩)
    · rw [List.getElem?_append_right (by simpa using hkl)] at hk
      have e : k = L.length := by
        have := (List.getElem?_eq_some_iff.1 hk).1
        simp at this
        omega
      subst e
      simp at hk
      exact .inr (.inl ⟨rfl, hk.symm⟩)
  refine h.repart (fun k it hk => ?_) (fun k m a b hkm hk hm x hxa hxb => ?_)
  · rcases cases' k it hk with ⟨rfl, rfl⟩ | ⟨_, rfl⟩ | ⟨_, _, hk⟩
    · refine ⟨⟨by simpa using hΦ.1, fun q u ys hq hy => ?_⟩, n1, fun x hx => mem_fp.2 ⟨k, _, hj, sub x hx⟩⟩
      by_cases e : i = q
      · subst e
        rw [List.getElem?_set_self (List.getElem?_eq_some_iff.1 hv).1] at hq
        rw [List.getElem?_set_self (List.getElem?_eq_some_iff.1 hx).1] at hy
        cases hq; cases hy
        exact World.ownsRow_nil w 0 T sz
      · rw [List.getElem?_set_ne e] at hq hy
        exact hΦ.2 q u ys hq hy
    · exact ⟨hΦ.2 i v xs hv hx, rowI_nodup, fun x hx => mem_fp.2 ⟨j, _, hj, hvs x hx⟩⟩
    · exact ⟨h.all k it hk, h.nd k it hk, fun x hx => mem_fp.2 ⟨k, it, hk, hx⟩⟩
  · rcases cases' k a hk with ⟨rfl, rfl⟩ | ⟨e1, rfl⟩ | ⟨k1, k2, hk2⟩ <;> rcases cases' m b hm with ⟨rfl, rfl⟩ | ⟨e2, rfl⟩ | ⟨m1, m2, hm2⟩
    · exact hkm rfl
    · exact n2 x hxb hxa
    · exact h.apart k m _ b hkm hj hm2 x (sub x hxa) hxb
    · exact n2 x hxa hxb
    · omega
    · exact h.apart j m _ b (fun e => m1 e.symm) hj hm2 x (hvs x hxa) hxb
    · exact h.apart k m a _ hkm hk2 hj x hxa (sub x hxb)
    · exact h.apart k j a _ k1 hk2 hj x hxa (hvs x hxb)
    · exact h.apart k m a b hkm hk2 hm2 x hxa hxb

theorem St.unfocus {α : Type} {hs : List Value} {T : TypeId} {enc : α → List Value} {sz : Nat} {xss : List (List α)} {i : Nat} {v : Value} {xs : List α} (h : St w0 S0 w L) (j k : Nat) (hjk : Nat.beq j k = false)
    (hj : L[j]? = some (manyI hs T enc sz xss)) (hk : L[k]? = some (rowI v T enc sz xs)) (hv : hs[i]? = some vnil) (hx : i < xss.length) :
    St w0 S0 w ((L.set j (manyI (hs.set i v) T enc sz (xss.set i xs))).set k nilI) := by
  have hne := Nat.ne_of_beq_eq_false hjk
  have hltj : j < L.length := (List.getElem?_eq_some_iff.1 hj).1
  have hltk : k < L.length := (List.getElem?_eq_some_iff.1 hk).1
  have hΦ := h.all j _ hj
  have hap : ∀ x ∈ v.ownBlock.toList, x ∉ bl hs := fun x hx hb => h.apart k j _ _ (fun e => hne e.symm) hk hj x hx hb
  obtain ⟨n1, n2⟩ := bl_in (h.nd j _ hj) hv (h.nd k _ hk) hap
  have cases' : ∀ (q : Nat) (it : Item), ((L.set j (manyI (hs.set i v) T enc sz (xss.set i xs))).set k nilI)[q]? = some it →
      (q = k ∧ it = nilI) ∨ (q = j ∧ it = manyI (hs.set i v) T enc sz (xss.set i xs)) ∨ (q ≠ j ∧ q ≠ k ∧ L[q]? = some it) := by
    intro q it hq
    by_cases e : k = q
    · subst e
      rw [List.getElem?_set_self (by simpa using hltk)] at hq
      exact .inl ⟨rfl, (Option.some.inj hq).symm⟩
    · rw [List.getElem?_set_ne e] at hq
      by_cases e2 : j = q
      · subst e2
        rw [List.getElem?_set_self hltj] at hq
        exact .inr (.inl ⟨rfl, (Option.some.inj hq).symm⟩)
      · rw [List.getElem?_set_ne e2] at hq
        exact .inr (.inr ⟨fun x => e2 x.symm, fun x => e x.symm, hq⟩)
  have inS : ∀ x ∈ bl (hs.set i v), ∃ (m : Nat) (it : Item), (m = k ∨ m = j) ∧ L[m]? = some it ∧ x ∈ it.S := by
    intro x hx
    rcases n2 x hx with h1 | h1
    · exact ⟨k, _, .inl rfl, hk, h1⟩
    · exact ⟨j, _, .inr rfl, hj, h1⟩
  refine h.repart (fun q it hq => ?_) (fun q m a b hqm hq hm x hxa hxb => ?_)
  · rcases cases' q it hq with ⟨rfl, rfl⟩ | ⟨rfl, rfl⟩ | ⟨_, _, hq⟩
    · exact ⟨trivial, List.nodup_nil, fun x hx => absurd hx List.not_mem_nil⟩
    · refine ⟨⟨by simpa using hΦ.1, fun m u ys hm hy => ?_⟩, n1, fun x hx => ?_⟩
      · by_cases e : i = m
        · subst e
          rw [List.getElem?_set_self (List.getElem?_eq_some_iff.1 hv).1] at hm
          rw [List.getElem?_set_self hx] at hy
          cases hm; cases hy
          exact h.all k _ hk
        · rw [List.getElem?_set_ne e] at hm hy
          exact hΦ.2 m u ys hm hy
      · obtain ⟨m, it, _, h1, h2⟩ := inS x hx
        exact mem_fp.2 ⟨m, it, h1, h2⟩
    · exact ⟨h.all q it hq, h.nd q it hq, fun x hx => mem_fp.2 ⟨q, it, hq, hx⟩⟩
  · rcases cases' q a hq with ⟨_, rfl⟩ | ⟨rfl, rfl⟩ | ⟨q1, q2, hq2⟩
    · exact absurd hxa List.not_mem_nil
    · rcases cases' m b hm with ⟨_, rfl⟩ | ⟨rfl, rfl⟩ | ⟨m1, m2, hm2⟩
      · exact absurd hxb List.not_mem_nil
      · exact hqm rfl
      · obtain ⟨y, it, hy, h1, h2⟩ := inS x hxa
        exact h.apart y m it b (by rcases hy with rfl | rfl <;> omega) h1 hm2 x h2 hxb
    · rcases cases' m b hm with ⟨_, rfl⟩ | ⟨rfl, rfl⟩ | ⟨m1, m2, hm2⟩
      · exact absurd hxb List.not_mem_nil
      · obtain ⟨y, it, hy, h1, h2⟩ := inS x hxb
        exact h.apart q y a it (by rcases hy with rfl | rfl <;> omega) hq2 h1 x hxa h2
      · exact h.apart q m a b hqm hq2 hm2 x hxa hxb
end
end Go.Sx

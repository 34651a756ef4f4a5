/- What is looked up in the entries ahead of a place. -/
import Derived.Test.YtpchniebplpboaaKKeys
import Derived.Test.YtpchniebplpboaaKFirst
set_option linter.unusedVariables false
set_option linter.unusedSimpArgs false
namespace Go.Proofs.Ytpchniebplpboaa
open Go.Sx

def Lst (es : List api_Entry) (i : Nat) (P : api_Entry → Bool) : Option Nat → Prop
  | none => ∀ j e, j < i → es[j]? = some e → P e = false
  | some k => k < i ∧ (∃ e, es[k]? = some e ∧ P e = true) ∧ ∀ j e, k < j → j < i → es[j]? = some e → P e = false
theorem Lst.next {es : List api_Entry} {i : Nat} {P : api_Entry → Bool} {o : Option Nat} (h : Lst es i P o) {x : api_Entry} (hx : es[i]? = some x) : Lst es (i + 1) P (if P x then some i else o) := by
  by_cases hp : P x = true
  · rw [if_pos hp]
    exact ⟨by omega, ⟨x, hx, hp⟩, fun j e h1 h2 => by omega⟩
  · rw [if_neg hp]
    have hp : P x = false := by simpa using hp
    cases o with
    | none =>
      intro j e hj he
      by_cases ji : j = i
      · subst ji; rw [hx] at he; cases he; exact hp
      · exact h j e (by omega) he
    | some k =>
      refine ⟨by have := h.1; omega, h.2.1, fun j e h1 h2 he => ?_⟩
      by_cases ji : j = i
      · subst ji; rw [hx] at he; cases he; exact hp
      · exact h.2.2 j e h1 (by omega) he
theorem Lst.uniq {es : List api_Entry} {i : Nat} {P : api_Entry → Bool} {o o' : Option Nat} (h : Lst es i P o) (h' : Lst es i P o') : o = o' := by
  cases o with
  | none =>
    cases o' with
    | none => rfl
    | some k =>
      obtain ⟨a, ⟨e, b, c⟩, _⟩ := h'
      rw [h k e a b] at c; cases c
  | some k =>
    obtain ⟨a, ⟨e, b, c⟩, d⟩ := h
    cases o' with
    | none => rw [h' k e a b] at c; cases c
    | some k' =>
      obtain ⟨a', ⟨e', b', c'⟩, d'⟩ := h'
      rcases Nat.lt_trichotomy k k' with hl | hl | hl
      · rw [d k' e' hl a' b'] at c'; cases c'
      · rw [hl]
      · rw [d' k e hl a b] at c; cases c
def Fst (es : List api_Entry) (k i : Nat) (P : api_Entry → Bool) : Option Nat → Prop
  | none => ∀ j e, k < j → j < i → es[j]? = some e → P e = false
  | some m => k < m ∧ m < i ∧ (∃ e, es[m]? = some e ∧ P e = true) ∧ ∀ j e, k < j → j < m → es[j]? = some e → P e = false
theorem Fst.next {es : List api_Entry} {k i : Nat} {P : api_Entry → Bool} {o : Option Nat} (h : Fst es k i P o) (hk : k < i) {x : api_Entry} (hx : es[i]? = some x) : Fst es k (i + 1) P (match o with | some m => some m | none => if P x then some i else none) := by
  cases o with
  | some m => exact ⟨h.1, by have := h.2.1; omega, h.2.2.1, h.2.2.2⟩
  | none =>
    by_cases hp : P x = true
    · simp only [hp, if_true]
      exact ⟨hk, by omega, ⟨x, hx, hp⟩, fun j e h1 h2 he => h j e h1 h2 he⟩
    · have hp : P x = false := by simpa using hp
      simp only [hp, Bool.false_eq_true, if_false]
      intro j e h1 h2 he
      by_cases ji : j = i
      · subst ji; rw [hx] at he; cases he; exact hp
      · exact h j e h1 (by omega) he
theorem Fst.uniq {es : List api_Entry} {k i : Nat} {P : api_Entry → Bool} {o o' : Option Nat} (h : Fst es k i P o) (h' : Fst es k i P o') : o = o' := by
  cases o with
  | none =>
    cases o' with
    | none => rfl
    | some m =>
      obtain ⟨a, b, ⟨e, c, d⟩, _⟩ := h'
      rw [h m e a b c] at d; cases d
  | some m =>
    obtain ⟨a, b, ⟨e, c, d⟩, f⟩ := h
    cases o' with
    | none => rw [h' m e a b c] at d; cases d
    | some m' =>
      obtain ⟨a', b', ⟨e', c', d'⟩, f'⟩ := h'
      rcases Nat.lt_trichotomy m m' with hl | hl | hl
      · rw [f' m e a hl c] at d; cases d
      · rw [hl]
      · rw [f m' e' a' hl c'] at d'; cases d'
def enc : Option Nat → Int
  | none => -1
  | some k => (k : Int)
def mark (a b t : Int) (e : api_Entry) : Bool := (e.What == a || e.What == b) && e.Task == t
def ap (t v : Int) (e : api_Entry) : Bool := e.What == 3 && (e.From == t && e.Event == v)
theorem ref_last {fu : Nat} {es : List api_Entry} (hl : es.length ≤ 1500) (hfu : 2000 < fu) {i : Nat} (hi : i ≤ es.length) (a b t : Int) : ∃ o, tappetref27_last fu es (i : Int) a b t = some (enc o) ∧ Lst es i (mark a b t) o := by
  suffices H : OK (tappetref27_last fu es (i : Int) a b t) (fun r => ∃ o, r = enc o ∧ Lst es i (mark a b t) o) by
    obtain ⟨r, h1, o, rfl, h2⟩ := H
    exact ⟨o, h1, h2⟩
  unfold tappetref27_last
  refine OK.bind2 (R := fun o => match o with | .inl _ => Lst es i (mark a b t) none | .inr r => ∃ k : Nat, r = (k : Int) ∧ Lst es i (mark a b t) (some k))
    (OK.rounds (fun (s : Int) => -1 ≤ s ∧ s < i ∧ ∀ (j : Nat) e, s < (j : Int) → j < i → es[j]? = some e → mark a b t e = false) (fun s => (s + 1).toNat) ?_ fu _ ?_ ?_) ?_
  · rintro s again ⟨h0, h1, h2⟩ kk
    unfold tappetref27_last_l1
    refine OK.ite (fun h => ?_) (fun h => ?_)
    · have h : 0 ≤ s := by simpa using h
      obtain ⟨k, rfl⟩ := Int.eq_ofNat_of_zero_le h
      have hk : k < es.length := by omega
      refine OK.bind2 (R := fun z => z = mark a b t (es[k]'hk)) ?_ (fun z hz => ?_)
      · refine OK.bind (OK.getN hk (fun x hx => ?_))
        rw [List.getElem?_eq_getElem hk] at hx
        cases hx
        unfold mark
        by_cases e1 : (es[k].What == a) = true
        · rw [if_pos e1]; exact OK.ret (by simp [e1])
        · rw [if_neg e1]
          have e1 : (es[k].What == a) = false := by simpa using e1
          by_cases e2 : (es[k].What == b) = true
          · rw [if_pos e2]; exact OK.ret (by simp [e2])
          · rw [if_neg e2]
            have e2 : (es[k].What == b) = false := by simpa using e2
            exact OK.ret (by simp [e1, e2])
      · subst hz
        refine OK.ite (fun hm => OK.ret ⟨k, rfl, by omega, ⟨_, List.getElem?_eq_getElem hk, hm⟩, fun j e q1 q2 q3 => h2 j e (by omega) q2 q3⟩) (fun hm => ?_)
        rw [w64_eq (by omega) (by omega)]
        refine kk _ ⟨by omega, by omega, fun j e q1 q2 q3 => ?_⟩ (by omega)
        by_cases jk : j = k
        · subst jk; rw [List.getElem?_eq_getElem hk] at q3; cases q3; exact hm
        · exact h2 j e (by omega) q2 q3
    · have h : ¬ 0 ≤ s := by simpa using h
      exact OK.ret (fun j e q1 q2 => h2 j e (by omega) q1 q2)
  · rw [w64_eq (by omega) (by omega)]
    exact ⟨by omega, by omega, fun j e q1 q2 => by omega⟩
  · rw [w64_eq (by omega) (by omega)]; omega
  · rintro (u | r) h
    · exact OK.ret ⟨none, rfl, h⟩
    · obtain ⟨k, rfl, h⟩ := h
      exact OK.ret ⟨some k, rfl, h⟩
def pick (es : List api_Entry) (a : Int) : Option Nat → Option Nat
  | none => none
  | some k => match es[k]? with
    | some e => if e.What == a then some k else none
    | none => none
def Opn (es : List api_Entry) (i : Nat) (a b t : Int) (o : Option Nat) : Prop := ∃ l, Lst es i (mark a b t) l ∧ o = pick es a l
theorem Opn.uniq {es : List api_Entry} {i : Nat} {a b t : Int} {o o' : Option Nat} (h : Opn es i a b t o) (h' : Opn es i a b t o') : o = o' := by
  obtain ⟨l, h1, rfl⟩ := h
  obtain ⟨l', h2, rfl⟩ := h'
  rw [h1.uniq h2]
theorem Opn.lt {es : List api_Entry} {i : Nat} {a b t : Int} {k : Nat} (h : Opn es i a b t (some k)) : k < i ∧ ∃ e, es[k]? = some e ∧ e.What = a ∧ e.Task = t := by
  obtain ⟨l, h1, h2⟩ := h
  cases l with
  | none => cases h2
  | some m =>
    obtain ⟨q1, ⟨e, q2, q3⟩, _⟩ := h1
    simp only [pick, q2] at h2
    by_cases hm : (e.What == a) = true
    · rw [if_pos hm] at h2
      cases h2
      simp [mark] at q3
      exact ⟨q1, e, q2, by simpa using hm, q3.2⟩
    · rw [if_neg hm] at h2; cases h2
theorem Opn.next {es : List api_Entry} {i : Nat} {a b t : Int} {o : Option Nat} (h : Opn es i a b t o) {x : api_Entry} (hx : es[i]? = some x) : Opn es (i + 1) a b t (if mark a b t x then (if x.What == a then some i else none) else o) := by
  obtain ⟨l, h1, rfl⟩ := h
  refine ⟨_, h1.next hx, ?_⟩
  by_cases hm : mark a b t x = true
  · rw [if_pos hm, if_pos hm]
    simp only [pick, hx]
  · rw [if_neg hm, if_neg hm]
theorem ref_open {fu : Nat} {es : List api_Entry} (hl : es.length ≤ 1500) (hfu : 2000 < fu) {i : Nat} (hi : i ≤ es.length) (a b t : Int) {o : Option Nat} (ho : Opn es i a b t o) : tappetref27_open fu es (i : Int) a b t = some (enc o) := by
  obtain ⟨l, h1, h2⟩ := ref_last hl hfu hi a b t
  have e : o = pick es a l := Opn.uniq ho ⟨l, h2, rfl⟩
  subst e
  unfold tappetref27_open
  rw [h1]
  simp only [Option.bind_some]
  cases l with
  | none => rfl
  | some k =>
    obtain ⟨q1, ⟨x, q2, q3⟩, _⟩ := h2
    have hk : Go.Sx.idx es (k : Int) = some x := by
      unfold Go.Sx.idx; rw [if_pos (by omega), Int.toNat_natCast]; exact q2
    have e0 : ∀ A B : Option Bool, (if decide (enc (some k) ≥ 0) then A else B) = A := fun A B => if_pos (by simp [enc])
    have e1 : Go.Sx.idx es (enc (some k)) = some x := hk
    rw [e0, e1]
    simp only [Option.bind_some, pick, q2]
    by_cases e : (x.What == a) = true
    · rw [if_pos e, if_pos e]
    · rw [if_neg e, if_neg e]; rfl
theorem ref_applied {fu : Nat} {es : List api_Entry} (hl : es.length ≤ 1500) (hfu : 2000 < fu) {k i : Nat} (hk : k < i) (hi : i ≤ es.length) (t v : Int) {o : Option Nat} (ho : Fst es k i (ap t v) o) : tappetref27_applied fu es (k : Int) (i : Int) t v = some (enc o) := by
  suffices H : OK (tappetref27_applied fu es (k : Int) (i : Int) t v) (fun r => ∃ o, r = enc o ∧ Fst es k i (ap t v) o) by
    obtain ⟨r, h1, o', rfl, h2⟩ := H
    rw [h1, ho.uniq h2]
  unfold tappetref27_applied
  refine OK.bind2 (R := fun o => match o with | .inl _ => Fst es k i (ap t v) none | .inr r => ∃ m : Nat, r = (m : Int) ∧ Fst es k i (ap t v) (some m))
    (OK.rounds (fun s => ∃ m : Nat, s = (m : Int) ∧ k < m ∧ m ≤ i ∧ ∀ j e, k < j → j < m → es[j]? = some e → ap t v e = false) (fun s => i - s.toNat) ?_ fu _ ?_ ?_) ?_
  · rintro s again ⟨m, rfl, h1, h2, h3⟩ kk
    unfold tappetref27_applied_l1
    refine OK.ite (fun h => ?_) (fun h => ?_)
    · have h : (m : Int) < i := by simpa using h
      have hm : m < es.length := by omega
      refine OK.bind2 (R := fun z => z = ap t v (es[m]'hm)) ?_ (fun z hz => ?_)
      · refine OK.bind (OK.getN hm (fun x hx => ?_))
        rw [List.getElem?_eq_getElem hm] at hx
        cases hx
        unfold ap
        by_cases e1 : (es[m].What == 3) = true
        · rw [if_pos e1]
          by_cases e2 : (es[m].From == t) = true
          · rw [if_pos e2]; exact OK.ret (by simp [e1, e2])
          · rw [if_neg e2]
            have e2 : (es[m].From == t) = false := by simpa using e2
            exact OK.ret (by simp [e2])
        · rw [if_neg e1]
          have e1 : (es[m].What == 3) = false := by simpa using e1
          exact OK.ret (by simp [e1])
      · subst hz
        refine OK.ite (fun hp => OK.ret ⟨m, rfl, h1, by omega, ⟨_, List.getElem?_eq_getElem hm, hp⟩, h3⟩) (fun hp => ?_)
        rw [w64_eq (by omega) (by omega)]
        refine kk _ ⟨m + 1, by simp, by omega, by omega, fun j e q1 q2 q3 => ?_⟩ (by omega)
        by_cases jm : j = m
        · subst jm; rw [List.getElem?_eq_getElem hm] at q3; cases q3; exact hp
        · exact h3 j e q1 (by omega) q3
    · have h : ¬ (m : Int) < i := by simpa using h
      exact OK.ret (fun j e q1 q2 q3 => h3 j e q1 (by omega) q3)
  · rw [w64_eq (by omega) (by omega)]
    exact ⟨k + 1, by simp, by omega, by omega, fun j e q1 q2 => by omega⟩
  · rw [w64_eq (by omega) (by omega)]; omega
  · rintro (u | r) h
    · exact OK.ret ⟨none, rfl, h⟩
    · obtain ⟨m, rfl, h⟩ := h
      exact OK.ret ⟨some m, rfl, h⟩
def cnt (es : List api_Entry) (i : Nat) (t : Int) : Nat := ((es.take i).filter (fun e => e.What == 1 && e.Task == t)).length
theorem cnt_next {es : List api_Entry} {i : Nat} {x : api_Entry} (hx : es[i]? = some x) (t : Int) : cnt es (i + 1) t = cnt es i t + if x.What == 1 && x.Task == t then 1 else 0 := by
  unfold cnt
  rw [List.take_add_one, hx, List.filter_append, List.length_append]
  congr 1
  by_cases h : (x.What == 1 && x.Task == t) = true
  · simp [h]
  · simp [h]
theorem cnt_le (es : List api_Entry) (i : Nat) (t : Int) : cnt es i t ≤ i := by
  unfold cnt
  exact Nat.le_trans (List.length_filter_le _ _) (by simp; omega)
theorem ref_count {es : List api_Entry} (hl : es.length ≤ 1500) {i : Nat} (hi : i ≤ es.length) (x : api_Entry) : (room i 1).bind (fun _ => forN (tappetref27_Calls_l2 es x) (fun (s : Int) => s) i 0 0) = some (cnt es i x.Task : Int) := by
  have hr : room i 1 = some () := by unfold room; rw [if_pos (by omega)]
  rw [hr]
  simp only [Option.bind_some]
  rw [forN_take (b := tappetref27_Calls_l2 es x) (l := es) (B := fun _ y again s => if (y.What == 1 && y.Task == x.Task) then again (w64 (s + 1)) else again s) (fun i again s => by
    unfold tappetref27_Calls_l2
    cases hx : Go.Sx.idx es (i : Int) with
    | none => rfl
    | some y =>
      simp only [Option.bind_some]
      by_cases h1 : (y.What == 1) = true
      · simp [h1]
      · simp only [Bool.not_eq_true] at h1
        simp [h1]) _ hi]
  suffices H : ∀ (l : List api_Entry) (i : Nat) (s : Nat), s + l.length ≤ 1500 → each (fun _ y (again : Int → Option Int) s => if (y.What == 1 && y.Task == x.Task) then again (w64 (s + 1)) else again s) (fun s => s) i l (s : Int) = some ((s + (l.filter (fun e => e.What == 1 && e.Task == x.Task)).length : Nat) : Int) by
    have := H (es.take i) 0 0 (by simp; omega)
    rw [show ((0 : Nat) : Int) = 0 from rfl] at this
    rw [this]
    simp [cnt]
  intro l
  induction l with
  | nil => intro i s _; simp [each]
  | cons y l ih =>
    intro i s hs
    simp only [List.length_cons] at hs
    simp only [each]
    by_cases h : (y.What == 1 && y.Task == x.Task) = true
    · rw [if_pos h, w64_eq (by omega) (by omega), show (s : Int) + 1 = ((s + 1 : Nat) : Int) by simp, ih (i + 1) (s + 1) (by omega), List.filter_cons_of_pos (p := fun e : api_Entry => e.What == 1 && e.Task == x.Task) (a := y) h]
      simp only [List.length_cons]
      congr 2
      omega
    · rw [if_neg h, ih (i + 1) s (by omega), List.filter_cons_of_neg (p := fun e : api_Entry => e.What == 1 && e.Task == x.Task) (a := y) h]
end Go.Proofs.Ytpchniebplpboaa

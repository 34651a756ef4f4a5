/- The audit of events tells what the definition by looking back tells. -/
import Derived.Test.YtpchniebplpboaaKLook
set_option linter.unusedVariables false
set_option linter.unusedSimpArgs false
namespace Go.Proofs.Ytpchniebplpboaa
open Go.Sx

def qstep (h : Int) (x : api_Entry) (q : List Int) : Option (List Int) :=
  if x.Hook = h then (if x.What = 4 then some (q ++ [x.Event]) else if x.What = 5 ∨ x.What = 10 then (if q = [] then none else some (q.drop 1)) else some q) else some q
def queue (h : Int) : List api_Entry → List Int → Option (List Int)
  | [], q => some q
  | x :: l, q => (qstep h x q).bind (queue h l)
theorem queue_app (h : Int) : ∀ (l m : List api_Entry) (q : List Int), queue h (l ++ m) q = (queue h l q).bind (queue h m)
  | [], m, q => rfl
  | x :: l, m, q => by
    simp only [List.cons_append, queue]
    cases qstep h x q with
    | none => rfl
    | some q' => exact queue_app h l m q'
def acc (l : List api_Entry) : Nat := (l.filter (fun e => e.What == 4)).length
structure EI (es : List api_Entry) (room : Int) (i : Nat) (v : audit_events) : Prop where
  room : v.room = room
  count : v.count = (acc (es.take i) : Int)
  wait : ∀ h, queue h (es.take i) [] = some ((mget v.wait h).getD [])
  len : ∀ h, ((mget v.wait h).getD []).length ≤ i
theorem ei0 (es : List api_Entry) (room : Int) : EI es room 0 ⟨room, 0, []⟩ := ⟨rfl, rfl, fun h => rfl, fun h => by simp [mget]⟩
theorem acc_next {es : List api_Entry} {i : Nat} {x : api_Entry} (hx : es[i]? = some x) : acc (es.take (i + 1)) = acc (es.take i) + if x.What = 4 then 1 else 0 := by
  unfold acc
  rw [List.take_add_one, hx, List.filter_append, List.length_append]
  congr 1
  by_cases h : x.What = 4
  · simp [h]
  · simp [h]
theorem acc_le (es : List api_Entry) (i : Nat) : acc (es.take i) ≤ i := by
  unfold acc
  exact Nat.le_trans (List.length_filter_le _ _) (by simp; omega)
theorem queue_next {es : List api_Entry} {i : Nat} {x : api_Entry} (hx : es[i]? = some x) (h : Int) {q : List Int} (hq : queue h (es.take i) [] = some q) : queue h (es.take (i + 1)) [] = qstep h x q := by
  rw [List.take_add_one, hx]
  show queue h (es.take i ++ [x]) [] = _
  rw [queue_app, hq]
  simp only [Option.bind_some, queue]
  cases qstep h x q <;> rfl
theorem ref_wait {es : List api_Entry} (hl : es.length ≤ 1500) {i : Nat} (hi : i ≤ es.length) (x : api_Entry) {q : List Int} (hq : queue x.Hook (es.take i) [] = some q) :
    (room i 1).bind (fun _ => forN (tappetref27_Events_l2 es x) (fun (s : Int × List Int) => (s.1, s.2)) i 0 (0, [])) = some ((acc (es.take i) : Int), q) := by
  have hr : room i 1 = some () := by unfold room; rw [if_pos (by omega)]
  rw [hr]
  simp only [Option.bind_some]
  rw [forN_take (b := tappetref27_Events_l2 es x) (l := es) (fun _ _ _ => rfl) _ hi]
  have H : ∀ B : Nat → api_Entry → ((Int × List Int) → Option (Int × List Int)) → (Int × List Int) → Option (Int × List Int), (∀ i y again s, B i y again s = (if (y.What == 4) then some (w64 (s.1 + 1)) else some s.1).bind fun o3449 =>
      if (y.Hook != x.Hook) then again (o3449, s.2)
      else
        (if (y.What == 4) then
          (room (s.2.length + ([y.Event]).length) 8).bind fun u3524 => some (s.2 ++ [y.Event])
        else some s.2).bind fun o3502 =>
        (if (y.What == 5) then some true else some (y.What == 10)).bind fun o3549 =>
        if o3549 then (cut o3502 1 (o3502.length : Int)).bind fun ys3563 => again (o3449, ys3563)
        else again (o3449, o3502)) →
      ∀ (l : List api_Entry) (i a : Nat) (s q : List Int), a + l.length ≤ 1500 → s.length + l.length ≤ 1500 → queue x.Hook l s = some q → each B (fun (s : Int × List Int) => (s.1, s.2)) i l ((a : Int), s) = some (((a + acc l : Nat) : Int), q) := by
    intro B hB l
    induction l with
    | nil =>
      intro i a s q _ _ h
      simp only [queue, Option.some.injEq] at h
      subst h
      simp [each, acc]
    | cons y l ih =>
      intro i a s q h1 h2 h
      simp only [List.length_cons] at h1 h2
      simp only [each, hB]
      simp only [queue] at h
      have hacc : acc (y :: l) = acc l + if y.What = 4 then 1 else 0 := by
        unfold acc
        by_cases w : y.What = 4
        · simp [w]
        · simp [w]
      by_cases w4 : y.What = 4
      · have e4 : (y.What == 4) = true := by simpa using w4
        have e5 : (y.What == 5) = false := by simp [w4]
        have e10 : (y.What == 10) = false := by simp [w4]
        rw [hacc, if_pos w4]
        simp only [e4, if_true, Option.bind_some]
        rw [w64_eq (by omega) (by omega), show (a : Int) + 1 = ((a + 1 : Nat) : Int) by simp]
        by_cases hh : y.Hook = x.Hook
        · have eh : (y.Hook != x.Hook) = false := by simp [hh]
          have hr : room (s.length + ([y.Event]).length) 8 = some () := by unfold room; rw [if_pos (by simp; omega)]
          simp only [eh, Bool.false_eq_true, if_false, hr, Option.bind_some, e5, e10]
          simp only [qstep, hh, w4, if_true, Option.bind_some] at h
          rw [ih (i + 1) (a + 1) (s ++ [y.Event]) q (by omega) (by simp; omega) h]
          congr 2
          omega
        · have eh : (y.Hook != x.Hook) = true := by simpa using hh
          simp only [eh, if_true]
          simp only [qstep, hh, if_false, Option.bind_some] at h
          rw [ih (i + 1) (a + 1) s q (by omega) (by omega) h]
          congr 2
          omega
      · have e4 : (y.What == 4) = false := by simpa using w4
        rw [hacc, if_neg w4]
        simp only [e4, Bool.false_eq_true, if_false, Option.bind_some, Nat.add_zero]
        by_cases hh : y.Hook = x.Hook
        · have eh : (y.Hook != x.Hook) = false := by simp [hh]
          simp only [eh, Bool.false_eq_true, if_false]
          by_cases w5 : y.What = 5 ∨ y.What = 10
          · have et : (if (y.What == 5) = true then some true else some (y.What == 10)) = some true := by
              rcases w5 with w | w <;> simp [w]
            rw [et]
            simp only [Option.bind_some, if_true]
            simp only [qstep, hh, w4, w5, if_true, if_false] at h
            by_cases hs : s = []
            · rw [if_pos hs] at h; cases h
            · rw [if_neg hs] at h
              simp only [Option.bind_some] at h
              have hsl : 1 ≤ s.length := by
                cases s with
                | nil => exact absurd rfl hs
                | cons _ _ => simp
              have hc : cut s 1 (s.length : Int) = some (s.drop 1) := by
                unfold cut
                rw [if_pos ⟨by omega, by omega, by omega⟩, Int.toNat_natCast, List.take_length]; rfl
              rw [hc]
              simp only [Option.bind_some]
              exact ih (i + 1) a (s.drop 1) q (by omega) (by simp; omega) h
          · have w5a : ¬ y.What = 5 := fun z => w5 (.inl z)
            have w5b : ¬ y.What = 10 := fun z => w5 (.inr z)
            have et : (if (y.What == 5) = true then some true else some (y.What == 10)) = some false := by simp [w5a, w5b]
            rw [et]
            simp only [Option.bind_some, Bool.false_eq_true, if_false]
            simp only [qstep, hh, w4, w5, if_true, if_false, Option.bind_some] at h
            exact ih (i + 1) a s q (by omega) (by omega) h
        · have eh : (y.Hook != x.Hook) = true := by simpa using hh
          simp only [eh, if_true]
          simp only [qstep, hh, if_false, Option.bind_some] at h
          exact ih (i + 1) a s q (by omega) (by omega) h
  have h := H _ (fun _ _ _ _ => rfl) (es.take i) 0 0 [] q (by simp; omega) (by simp; omega) hq
  simpa using h
theorem events_step {room_ : Int} {es : List api_Entry} (hl : es.length ≤ 1500) {i : Nat} {v : audit_events} (h : EI es room_ i v) {x : api_Entry} (hx : es[i]? = some x) :
    ∃ b v', audit_events_right v x = some (b, v') ∧ (∀ again, tappetref27_Events_l1 room_ es i again () = if b then again () else some (.inr (i : Int))) ∧ (b = true → EI es room_ (i + 1) v') := by
  have hi : i < es.length := (List.getElem?_eq_some_iff.1 hx).1
  have hxi : Go.Sx.idx es (i : Int) = some x := by unfold Go.Sx.idx; rw [if_pos (by omega), Int.toNat_natCast]; exact hx
  have hw := ref_wait hl (by omega) x (h.wait x.Hook)
  have hal := acc_le es i
  have hcount := h.count
  have hroom := h.room
  obtain ⟨q, hq⟩ : ∃ q, q = (mget v.wait x.Hook).getD [] := ⟨_, rfl⟩
  have hql : q.length ≤ i := by rw [hq]; exact h.len _
  have hqx : queue x.Hook (es.take i) [] = some q := by rw [hq]; exact h.wait _
  have hw' : w64 (v.count + 1) = v.count + 1 := by rw [hcount]; exact w64_eq (by omega) (by omega)
  -- what is kept when a queue is turned
  have nx : ∀ (q' : List Int) (c' : Int), qstep x.Hook x q = some q' → q'.length ≤ i + 1 → c' = (acc (es.take (i + 1)) : Int) → EI es room_ (i + 1) ⟨v.room, c', mput v.wait x.Hook q'⟩ := by
    intro q' c' h1 h2 h3
    refine ⟨hroom, h3, fun g => ?_, fun g => ?_⟩
    · show queue g (es.take (i + 1)) [] = some ((mget (mput v.wait x.Hook q') g).getD [])
      rw [mget_mput, queue_next hx g (h.wait g)]
      by_cases e : x.Hook = g
      · subst e
        rw [if_pos rfl, ← hq]; exact h1
      · rw [if_neg e]
        unfold qstep
        rw [if_neg e]
    · show ((mget (mput v.wait x.Hook q') g).getD []).length ≤ i + 1
      rw [mget_mput]
      by_cases e : x.Hook = g
      · rw [if_pos e]; exact h2
      · rw [if_neg e]; have := h.len g; omega
  have nw : qstep x.Hook x q = some q → x.What ≠ 4 → EI es room_ (i + 1) v := by
    intro h1 h2
    refine ⟨hroom, by rw [hcount, acc_next hx, if_neg h2]; rfl, fun g => ?_, fun g => by have := h.len g; omega⟩
    rw [queue_next hx g (h.wait g)]
    by_cases e : x.Hook = g
    · subst e; rw [← hq]; exact h1
    · unfold qstep; rw [if_neg e]
  unfold audit_events_right tappetref27_Events_l1
  rw [hxi]
  simp only [Option.bind_some]
  by_cases w4 : x.What = 4
  · have e4 : (x.What == 4) = true := by simpa using w4
    have n4 : (x.What != 4) = false := by simp [w4]
    simp only [e4, n4, Bool.false_and, Bool.false_eq_true, if_false, if_true, Bool.true_and]
    rw [hw]
    simp only [Option.bind_some]
    rw [← hq, hw', hroom, ← hcount, hw']
    by_cases bad : ((x.Event != v.count + 1) || decide ((q.length : Int) ≥ room_)) = true
    · refine ⟨false, ⟨room_, v.count + 1, v.wait⟩, by rw [if_pos bad], fun again => by rw [if_pos bad]; rfl, fun z => by cases z⟩
    · have hr : room (q.length + ([x.Event]).length) 8 = some () := by unfold room; rw [if_pos (by simp; omega)]
      refine ⟨true, ⟨room_, v.count + 1, mput v.wait x.Hook (q ++ [x.Event])⟩, by rw [if_neg bad, hr]; rfl, fun again => by rw [if_neg bad]; rfl, fun _ => ?_⟩
      have := nx (q ++ [x.Event]) (v.count + 1) (by simp [qstep, w4]) (by simp; omega) (by rw [hcount, acc_next hx, if_pos w4]; rfl)
      rw [hroom] at this
      exact this
  · have e4 : (x.What == 4) = false := by simpa using w4
    have n4 : (x.What != 4) = true := by simpa using w4
    simp only [e4, n4, Bool.true_and, Bool.false_eq_true, if_false, if_true, Bool.false_and]
    by_cases w5 : x.What = 5 ∨ x.What = 10
    · have et : (if (x.What == 5) = true then some (x.What == 5) else some (x.What == 10)) = some true := by
        rcases w5 with w | w <;> simp [w]
      have en : ((x.What != 5) && (x.What != 10)) = false := by
        rcases w5 with w | w <;> simp [w]
      rw [et]
      simp only [en, Bool.false_eq_true, if_false, Option.bind_some, if_true]
      rw [hw]
      simp only [Option.bind_some]
      rw [← hq]
      cases q with
      | nil =>
        exact ⟨false, v, rfl, fun again => rfl, fun z => by cases z⟩
      | cons y q =>
        have hc : cut (y :: q) 1 ((y :: q).length : Int) = some q := by
          unfold cut
          rw [if_pos ⟨by omega, by simp only [List.length_cons]; omega, by omega⟩, Int.toNat_natCast, List.take_length]; rfl
        have hi0 : Go.Sx.idx (y :: q) 0 = some y := rfl
        have hz : (((y :: q).length : Int) == 0) = false := beq_eq_false_iff_ne.2 (by simp only [List.length_cons]; omega)
        simp only [hz, Bool.false_eq_true, if_false, hi0, Option.bind_some, hc]
        by_cases hy : y = x.Event
        · have : (y != x.Event) = false := by simp [hy]
          simp only [this, Bool.false_eq_true, if_false]
          refine ⟨true, _, rfl, fun again => rfl, fun _ => ?_⟩
          exact nx q v.count (by simp [qstep, w4, w5]) (by simp at hql; omega) (by rw [hcount, acc_next hx, if_neg w4]; rfl)
        · have : (y != x.Event) = true := by simpa using hy
          simp only [this, if_true]
          exact ⟨false, v, rfl, fun again => rfl, fun z => by cases z⟩
    · have w5a : ¬ x.What = 5 := fun z => w5 (.inl z)
      have w5b : ¬ x.What = 10 := fun z => w5 (.inr z)
      have et : (if (x.What == 5) = true then some (x.What == 5) else some (x.What == 10)) = some false := by simp [w5a, w5b]
      have en : ((x.What != 5) && (x.What != 10)) = true := by simp [w5a, w5b]
      rw [et]
      simp only [en, if_true, Option.bind_some, Bool.false_eq_true, if_false]
      exact ⟨true, v, rfl, fun again => rfl, fun _ => nw (by simp [qstep, w4, w5]) w4⟩
theorem events_from {room_ : Int} {fu : Nat} {es : List api_Entry} (hl : es.length ≤ 1500) : ∀ (n i : Nat) (v : audit_events), i + n = es.length → EI es room_ i v →
    ∃ z : Int, one fu i (es.drop i) (.inr (.inr (.inl v))) = some z ∧ (forN (tappetref27_Events_l1 room_ es) (fun (_ : Unit) => (.inl () : Unit ⊕ Int)) n i ()).bind (fun o => match o with | .inl _ => some (-1 : Int) | .inr r => some r) = some z := by
  intro n
  induction n with
  | zero =>
    intro i v hi h
    rw [List.drop_of_length_le (by omega)]
    exact ⟨-1, rfl, rfl⟩
  | succ n ih =>
    intro i v hi h
    have hlt : i < es.length := by omega
    obtain ⟨b, v', r1, r2, r3⟩ := events_step hl h (List.getElem?_eq_getElem hlt)
    have hd : es.drop i = es[i] :: es.drop (i + 1) := List.drop_eq_getElem_cons hlt
    have hf : forN (tappetref27_Events_l1 room_ es) (fun (_ : Unit) => (.inl () : Unit ⊕ Int)) (n + 1) i () = if b then forN (tappetref27_Events_l1 room_ es) (fun (_ : Unit) => (.inl () : Unit ⊕ Int)) n (i + 1) () else some (.inr (i : Int)) := r2 _
    rw [hd, hf]
    cases b with
    | false =>
      refine ⟨(i : Int), ?_, rfl⟩
      simp only [one, I_audit_rule_right, r1, Option.bind_some]; rfl
    | true =>
      obtain ⟨z, z1, z2⟩ := ih (i + 1) v' (by omega) (r3 rfl)
      refine ⟨z, ?_, z2⟩
      simp only [one, I_audit_rule_right, r1, Option.bind_some]
      exact z1
theorem Events_is (fu : Nat) (room_ : Int) {es : List api_Entry} (hl : es.length ≤ 1500) : ∃ z, audit_Events fu room_ es = some z ∧ tappetref27_Events fu room_ es = some z := by
  obtain ⟨z, z1, z2⟩ := events_from (fu := fu) hl es.length 0 ⟨room_, 0, []⟩ (by omega) (ei0 es room_)
  refine ⟨z, ?_, ?_⟩
  · unfold audit_Events audit_newEvents
    simp only [Option.bind_some]
    rw [first_one]
    rw [List.drop_zero] at z1
    rw [z1]; rfl
  · exact z2
end Go.Proofs.Ytpchniebplpboaa

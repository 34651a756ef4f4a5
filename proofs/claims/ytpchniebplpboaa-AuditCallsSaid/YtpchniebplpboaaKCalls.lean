/- The audit of calls and asks tells what the definition by looking back tells. -/
import Derived.Test.YtpchniebplpboaaKLook
set_option linter.unusedVariables false
set_option linter.unusedSimpArgs false
namespace Go.Proofs.Ytpchniebplpboaa
open Go.Sx

def Opens (es : List api_Entry) (i : Nat) (m : List (Int × Int)) : Prop := ∀ t, ∃ o, Opn es i 1 2 t o ∧ mget m t = o.bind (fun k => (es[k]?).map (·.Cmd))
def Counts (es : List api_Entry) (i : Nat) (m : List (Int × Int)) : Prop := ∀ t, (mget m t).getD 0 = (cnt es i t : Int)
def Ask (es : List api_Entry) (i k : Nat) (t : Int) (a : audit_ask) : Prop := ∃ d, es[k]? = some a.Entry ∧ a.Entry.Event ≠ 0 ∧ Fst es k i (ap t a.Entry.Event) d ∧ a.done = d.isSome ∧ ∀ j, d = some j → ∃ x, es[j]? = some x ∧ x.Res = a.res
def Asks (es : List api_Entry) (i : Nat) (m : List (Int × audit_ask)) : Prop := ∀ t, ∃ o, Opn es i 16 17 t o ∧ match o with
  | none => mget m t = none
  | some k => ∃ a, mget m t = some a ∧ Ask es i k t a
structure CI (es : List api_Entry) (i : Nat) (c : audit_calls) : Prop where
  opens : Opens es i c.open_
  count : Counts es i c.count
  asks : Asks es i c.asks
  k1 : Keys c.open_
  k2 : Keys c.asks
theorem ci0 (es : List api_Entry) : CI es 0 ⟨[], [], []⟩ :=
  ⟨fun t => ⟨none, ⟨none, fun j e h => by omega, rfl⟩, rfl⟩, fun t => rfl, fun t => ⟨none, ⟨none, fun j e h => by omega, rfl⟩, rfl⟩, List.nodup_nil, List.nodup_nil⟩
theorem Opens.at {es : List api_Entry} {i : Nat} {m : List (Int × Int)} (h : Opens es i m) (t : Int) : ∃ o, Opn es i 1 2 t o ∧ ((o = none ∧ mget m t = none) ∨ ∃ k e, o = some k ∧ k < i ∧ es[k]? = some e ∧ mget m t = some e.Cmd) := by
  obtain ⟨o, h1, h2⟩ := h t
  refine ⟨o, h1, ?_⟩
  cases o with
  | none => exact .inl ⟨rfl, h2⟩
  | some k =>
    obtain ⟨q1, e, q2, _⟩ := h1.lt
    exact .inr ⟨k, e, rfl, q1, q2, by rw [h2]; simp [q2]⟩
theorem Opens.skip {es : List api_Entry} {i : Nat} {m : List (Int × Int)} (h : Opens es i m) {x : api_Entry} (hx : es[i]? = some x) (h1 : x.What ≠ 1) (h2 : x.What ≠ 2) : Opens es (i + 1) m := fun t => by
  obtain ⟨o, a, b⟩ := h t
  have := a.next hx
  rw [if_neg (by simp [mark, h1, h2])] at this
  exact ⟨o, this, b⟩
theorem Counts.skip {es : List api_Entry} {i : Nat} {m : List (Int × Int)} (h : Counts es i m) {x : api_Entry} (hx : es[i]? = some x) (h1 : x.What ≠ 1) : Counts es (i + 1) m := fun t => by
  rw [h, cnt_next hx, if_neg (by simp [h1])]; rfl
theorem Ask.keep {es : List api_Entry} {i k : Nat} {t : Int} {a : audit_ask} (h : Ask es i k t a) (hk : k < i) {x : api_Entry} (hx : es[i]? = some x) (hap : ap t a.Entry.Event x = false) : Ask es (i + 1) k t a := by
  obtain ⟨d, q1, q2, q3, q4, q5⟩ := h
  refine ⟨d, q1, q2, ?_, q4, q5⟩
  have hn := q3.next hk hx
  cases d with
  | some m => exact hn
  | none => simpa [hap] using hn
theorem Asks.skip {es : List api_Entry} {i : Nat} {m : List (Int × audit_ask)} (h : Asks es i m) {x : api_Entry} (hx : es[i]? = some x) (h16 : x.What ≠ 16) (h17 : x.What ≠ 17) (hap : x.What = 3 → x.Event = 0) : Asks es (i + 1) m := fun t => by
  obtain ⟨o, a, b⟩ := h t
  have hn := a.next hx
  rw [if_neg (by simp [mark, h16, h17])] at hn
  refine ⟨o, hn, ?_⟩
  cases o with
  | none => exact b
  | some k =>
    obtain ⟨y, b1, b2⟩ := b
    refine ⟨y, b1, b2.keep a.lt.1 hx ?_⟩
    obtain ⟨_, _, q2, _⟩ := b2
    unfold ap
    by_cases w : x.What = 3
    · have := hap w
      have : ¬ (x.Event = y.Entry.Event) := fun z => q2 (by rw [← z]; exact this)
      simp [this]
    · simp [w]
theorem enc_some_neg (k : Nat) {α : Type} (A B : α) : (if decide (enc (some k) < 0) = true then A else B) = B := if_neg (by rw [decide_eq_true_eq]; show ¬ (k : Int) < 0; omega)
theorem enc_some_ge (k : Nat) {α : Type} (A B : α) : (if decide (enc (some k) ≥ 0) = true then A else B) = A := if_pos (by rw [decide_eq_true_eq]; show (k : Int) ≥ 0; omega)
theorem enc_none_neg {α : Type} (A B : α) : (if decide (enc none < 0) = true then A else B) = A := if_pos (by decide)
theorem enc_none_ge {α : Type} (A B : α) : (if decide (enc none ≥ 0) = true then A else B) = B := if_neg (by decide)
theorem idx_at {es : List api_Entry} {k : Nat} {e : api_Entry} (h : es[k]? = some e) : Go.Sx.idx es (enc (some k)) = some e := by
  show Go.Sx.idx es (k : Int) = some e
  unfold Go.Sx.idx
  rw [if_pos (by omega), Int.toNat_natCast]; exact h
theorem idx_nat {es : List api_Entry} {k : Nat} {e : api_Entry} (h : es[k]? = some e) : Go.Sx.idx es (k : Int) = some e := idx_at h
theorem isW {x : api_Entry} {n : Int} {α : Type} (h : x.What = n) (A B : α) : (if (x.What == n) = true then A else B) = A := if_pos (by simpa using h)
theorem noW {x : api_Entry} {n : Int} {α : Type} (h : ¬ x.What = n) (A B : α) : (if (x.What == n) = true then A else B) = B := if_neg (by simpa using h)
section
variable {fu : Nat} {es : List api_Entry} (hl : es.length ≤ 1500) (hfu : 2000 < fu) {i : Nat} {c : audit_calls} (h : CI es i c) {x : api_Entry} (hx : es[i]? = some x)
include hl hfu h hx
def Agree (fu : Nat) (es : List api_Entry) (i : Nat) (c : audit_calls) (x : api_Entry) : Prop := ∃ b c', audit_calls_right c x = some (b, c') ∧ (∀ again, tappetref27_Calls_l1 fu es i again () = if b then again () else some (.inr (i : Int))) ∧ (b = true → CI es (i + 1) c')
theorem step_call (w : x.What = 1) : Agree fu es i c x := by
  have hi : i < es.length := (List.getElem?_eq_some_iff.1 hx).1
  obtain ⟨o1, p1, p2⟩ := h.opens.at x.Task
  obtain ⟨o2, p3, _⟩ := h.asks x.Task
  have hcnt := h.count x.Task
  have hcl := cnt_le es i x.Task
  have R : ∀ again, tappetref27_Calls_l1 fu es i again () = if (match o1 with | some _ => true | none => x.Cmd != (cnt es i x.Task : Int)) then some (.inr (i : Int)) else again () := by
    intro again
    unfold tappetref27_Calls_l1
    rw [idx_nat hx]
    simp only [Option.bind_some]
    rw [ref_open hl hfu (by omega) 1 2 x.Task p1, ref_open hl hfu (by omega) 16 17 x.Task p3]
    simp only [Option.bind_some]
    rw [isW w, ref_count hl (by omega) x]
    simp only [Option.bind_some]
    cases o1 with
    | none => rw [enc_none_ge]; rfl
    | some k => rw [enc_some_ge]; rfl
  unfold Agree audit_calls_right
  rw [isW w]
  rcases p2 with ⟨rfl, p2⟩ | ⟨k, e, rfl, _, _, p2⟩
  · rw [p2, hcnt]
    by_cases hc : x.Cmd = (cnt es i x.Task : Int)
    · refine ⟨true, ⟨mput c.open_ x.Task x.Cmd, mput c.count x.Task (w64 ((cnt es i x.Task : Int) + 1)), c.asks⟩, ?_, fun again => ?_, fun _ => ⟨fun t => ?_, fun t => ?_, h.asks.skip hx (by omega) (by omega) (by omega), h.k1.mput' _ _, h.k2⟩⟩
      · simp [hc]
      · rw [R]; simp [hc]
      · obtain ⟨o, a, b⟩ := h.opens t
        have hn := a.next hx
        by_cases e : x.Task = t
        · rw [if_pos (by simp [mark, w, e]), if_pos (by simp [w])] at hn
          exact ⟨_, hn, by rw [mget_mput, if_pos e]; simp [hx]⟩
        · rw [if_neg (by simp [mark, e])] at hn
          exact ⟨_, hn, by rw [mget_mput, if_neg e]; exact b⟩
      · show (mget (mput c.count x.Task _) t).getD 0 = _
        rw [mget_mput, cnt_next hx]
        by_cases e : x.Task = t
        · subst e
          rw [if_pos rfl, if_pos (by simp [w]), w64_eq (by omega) (by omega)]
          simp
        · rw [if_neg e, if_neg (by simp [e]), h.count]; rfl
    · refine ⟨false, c, ?_, fun again => ?_, fun z => by cases z⟩
      · simp [hc]
      · rw [R]; simp [hc]
  · rw [p2]
    exact ⟨false, c, by simp, fun again => by rw [R]; simp, fun z => by cases z⟩
theorem step_return (w : x.What = 2) : Agree fu es i c x := by
  have hi : i < es.length := (List.getElem?_eq_some_iff.1 hx).1
  obtain ⟨o1, p1, p2⟩ := h.opens.at x.Task
  obtain ⟨o2, p3, _⟩ := h.asks x.Task
  unfold Agree audit_calls_right
  rw [noW (by omega), isW w]
  have R : ∀ again, tappetref27_Calls_l1 fu es i again () = ((if decide (enc o1 < 0) then some (.inl true) else (Go.Sx.idx es (enc o1)).bind fun x3457 => some (.inl (x3457.Cmd != x.Cmd)) : Option (Bool ⊕ Int)).bind fun o3200 => match o3200 with
      | .inl t3202 => if t3202 then some (.inr (i : Int)) else again ()
      | .inr r => some (.inr r)) := by
    intro again
    unfold tappetref27_Calls_l1
    rw [idx_nat hx]
    simp only [Option.bind_some]
    rw [ref_open hl hfu (by omega) 1 2 x.Task p1, ref_open hl hfu (by omega) 16 17 x.Task p3]
    simp only [Option.bind_some]
    rw [noW (by omega), isW w]
    rfl
  rcases p2 with ⟨rfl, p2⟩ | ⟨k, e, rfl, _, he, p2⟩
  · rw [p2]
    refine ⟨false, c, by simp, fun again => ?_, fun z => by cases z⟩
    rw [R, enc_none_neg]; rfl
  · rw [p2]
    have R2 : ∀ again, tappetref27_Calls_l1 fu es i again () = if (e.Cmd != x.Cmd) then some (.inr (i : Int)) else again () := fun again => by
      rw [R, enc_some_neg, idx_at he]; rfl
    by_cases hc : e.Cmd = x.Cmd
    · refine ⟨true, ⟨mdel c.open_ x.Task, c.count, c.asks⟩, by simp [hc], fun again => by rw [R2]; simp [hc], fun _ => ⟨fun t => ?_, h.count.skip hx (by omega), h.asks.skip hx (by omega) (by omega) (by omega), h.k1.mdel _, h.k2⟩⟩
      obtain ⟨o, a, b⟩ := h.opens t
      have hn := a.next hx
      by_cases e : x.Task = t
      · rw [if_pos (by simp [mark, w, e]), if_neg (by simp [w])] at hn
        exact ⟨_, hn, by rw [mget_mdel h.k1, if_pos e]; rfl⟩
      · rw [if_neg (by simp [mark, e])] at hn
        exact ⟨_, hn, by rw [mget_mdel h.k1, if_neg e]; exact b⟩
    · exact ⟨false, c, by simp [hc], fun again => by rw [R2]; simp [hc], fun z => by cases z⟩
theorem step_ask (w : x.What = 16) : Agree fu es i c x := by
  have hi : i < es.length := (List.getElem?_eq_some_iff.1 hx).1
  obtain ⟨o1, p1, _⟩ := h.opens.at x.Task
  obtain ⟨o2, p3, p4⟩ := h.asks x.Task
  unfold Agree audit_calls_right
  rw [noW (by omega), noW (by omega), isW w]
  have R : ∀ again, tappetref27_Calls_l1 fu es i again () = ((if decide (enc o2 ≥ 0) then some (.inl true) else some (.inl (x.Event == 0)) : Option (Bool ⊕ Int)).bind fun o3200 => match o3200 with
      | .inl t3202 => if t3202 then some (.inr (i : Int)) else again ()
      | .inr r => some (.inr r)) := by
    intro again
    unfold tappetref27_Calls_l1
    rw [idx_nat hx]
    simp only [Option.bind_some]
    rw [ref_open hl hfu (by omega) 1 2 x.Task p1, ref_open hl hfu (by omega) 16 17 x.Task p3]
    simp only [Option.bind_some]
    rw [noW (by omega), noW (by omega), isW w]
    rfl
  cases o2 with
  | none =>
    have p4 : mget c.asks x.Task = none := p4
    rw [p4]
    by_cases hv : x.Event = 0
    · refine ⟨false, c, by simp [hv], fun again => ?_, fun z => by cases z⟩
      rw [R, enc_none_ge]; simp [hv]
    · refine ⟨true, ⟨c.open_, c.count, mput c.asks x.Task ⟨x, false, ⟨0, false, 0, false, 0, 0⟩⟩⟩, by simp [hv], fun again => ?_, fun _ => ⟨h.opens.skip hx (by omega) (by omega), h.count.skip hx (by omega), fun t => ?_, h.k1, h.k2.mput' _ _⟩⟩
      · rw [R, enc_none_ge]; simp [hv]
      · obtain ⟨o, a, b⟩ := h.asks t
        have hn := a.next hx
        by_cases e : x.Task = t
        · rw [if_pos (by simp [mark, w, e]), if_pos (by simp [w])] at hn
          exact ⟨_, hn, _, by rw [mget_mput, if_pos e], none, hx, hv, fun j e q1 q2 => by omega, rfl, fun j z => by cases z⟩
        · rw [if_neg (by simp [mark, e])] at hn
          refine ⟨o, hn, ?_⟩
          cases o with
          | none =>
            show mget (mput c.asks x.Task _) t = none
            rw [mget_mput, if_neg e]; exact b
          | some k =>
            obtain ⟨y, b1, b2⟩ := b
            exact ⟨y, by rw [mget_mput, if_neg e]; exact b1, b2.keep a.lt.1 hx (by simp [ap, w])⟩
  | some k =>
    obtain ⟨y, p4, _⟩ := p4
    rw [p4]
    refine ⟨false, c, by simp, fun again => ?_, fun z => by cases z⟩
    rw [R, enc_some_ge]; rfl
theorem step_apply (w : x.What = 3) : Agree fu es i c x := by
  have hi : i < es.length := (List.getElem?_eq_some_iff.1 hx).1
  obtain ⟨o1, p1, _⟩ := h.opens.at x.Task
  obtain ⟨o2, p3, _⟩ := h.asks x.Task
  obtain ⟨o3, p5, p6⟩ := h.opens.at x.From
  obtain ⟨o4, p7, p8⟩ := h.asks x.From
  unfold Agree audit_calls_right
  rw [noW (by omega), noW (by omega), noW (by omega), isW w]
  have R : ∀ again, tappetref27_Calls_l1 fu es i again () = ((if (x.Event == 0) then
            (if decide (enc o3 < 0) then
              some (.inl true)
            else
              (Go.Sx.idx es (enc o3)).bind fun x3488 =>
              some (.inl (x3488.Cmd != x.Cmd)))
          else
            if decide (enc o4 < 0) then
              some (.inl true)
            else
              if (x.Cmd != 0) then
                some (.inl true)
              else
                if (x.Tag != 0) then
                  some (.inl true)
                else
                  (Go.Sx.idx es (enc o4)).bind fun x3501 =>
                  if (x3501.Event != x.Event) then
                    some (.inl true)
                  else
                    if (!((x3501.Item.Map == x.Item.Map) && ((x3501.Item.Op == x.Item.Op) && ((x3501.Item.Key == x.Item.Key) && ((x3501.Item.Val == x.Item.Val) && true))))) then
                      some (.inl true)
                    else
                      (tappetref27_applied fu es (enc o4) (i : Int) x.From x.Event).bind fun r3513 =>
                      some (.inl (decide (r3513 ≥ 0))) : Option (Bool ⊕ Int)).bind fun o3200 => match o3200 with
      | .inl t3202 => if t3202 then some (.inr (i : Int)) else again ()
      | .inr r => some (.inr r)) := by
    intro again
    unfold tappetref27_Calls_l1
    rw [idx_nat hx]
    simp only [Option.bind_some]
    rw [ref_open hl hfu (by omega) 1 2 x.Task p1, ref_open hl hfu (by omega) 16 17 x.Task p3]
    simp only [Option.bind_some]
    rw [noW (by omega), noW (by omega), noW (by omega), isW w, ref_open hl hfu (by omega) 1 2 x.From p5, ref_open hl hfu (by omega) 16 17 x.From p7]
    simp only [Option.bind_some]
    rfl
  unfold audit_calls_apply
  by_cases hv : x.Event = 0
  · have e0 : (x.Event == 0) = true := by simpa using hv
    simp only [e0, if_true] at R ⊢
    have nx : CI es (i + 1) c := ⟨h.opens.skip hx (by omega) (by omega), h.count.skip hx (by omega), h.asks.skip hx (by omega) (by omega) (fun _ => hv), h.k1, h.k2⟩
    rcases p6 with ⟨rfl, p6⟩ | ⟨k, e, rfl, _, he, p6⟩
    · rw [p6]
      refine ⟨false, c, by simp, fun again => ?_, fun z => by cases z⟩
      rw [R, enc_none_neg]; rfl
    · rw [p6]
      have R2 : ∀ again, tappetref27_Calls_l1 fu es i again () = if (e.Cmd != x.Cmd) then some (.inr (i : Int)) else again () := fun again => by
        rw [R, enc_some_neg, idx_at he]; rfl
      by_cases hc : e.Cmd = x.Cmd
      · exact ⟨true, c, by simp [hc], fun again => by rw [R2]; simp [hc], fun _ => nx⟩
      · exact ⟨false, c, by simp [hc], fun again => by rw [R2]; simp [hc], fun z => by cases z⟩
  · have e0 : (x.Event == 0) = false := by simpa using hv
    simp only [e0, Bool.false_eq_true, if_false] at R ⊢
    cases o4 with
    | none =>
      have p8 : mget c.asks x.From = none := p8
      rw [p8]
      refine ⟨false, c, by simp, fun again => ?_, fun z => by cases z⟩
      rw [R, enc_none_neg]; rfl
    | some k =>
      obtain ⟨y, p8, d, q1, q2, q3, q4, q5⟩ := p8
      have hk := p7.lt.1
      rw [p8]
      have R2 : ∀ again, tappetref27_Calls_l1 fu es i again () = if ((x.Cmd != 0) || (x.Tag != 0) || (y.Entry.Event != x.Event) || (!((y.Entry.Item.Map == x.Item.Map) && ((y.Entry.Item.Op == x.Item.Op) && ((y.Entry.Item.Key == x.Item.Key) && ((y.Entry.Item.Val == x.Item.Val) && true))))) || y.done) then some (.inr (i : Int)) else again () := by
        intro again
        rw [R, enc_some_neg]
        by_cases h1 : (x.Cmd != 0) = true
        · simp only [h1, if_true, Bool.true_or]; rfl
        · simp only [Bool.not_eq_true] at h1
          simp only [h1, Bool.false_eq_true, if_false, Bool.false_or]
          by_cases h2 : (x.Tag != 0) = true
          · simp only [h2, if_true, Bool.true_or]; rfl
          · simp only [Bool.not_eq_true] at h2
            simp only [h2, Bool.false_eq_true, if_false, Bool.false_or]
            rw [idx_at q1]
            simp only [Option.bind_some]
            by_cases h3 : (y.Entry.Event != x.Event) = true
            · simp only [h3, if_true, Bool.true_or]; rfl
            · have h3e : y.Entry.Event = x.Event := by simpa using h3
              simp only [Bool.not_eq_true] at h3
              simp only [h3, Bool.false_eq_true, if_false, Bool.false_or]
              generalize ((y.Entry.Item.Map == x.Item.Map) && ((y.Entry.Item.Op == x.Item.Op) && ((y.Entry.Item.Key == x.Item.Key) && ((y.Entry.Item.Val == x.Item.Val) && true)))) = z
              cases z with
              | false => rfl
              | true =>
                simp only [Bool.not_true, Bool.false_eq_true, if_false, Bool.false_or]
                rw [h3e] at q3
                have ha := ref_applied hl hfu hk (by omega) x.From x.Event q3
                rw [show tappetref27_applied fu es (enc (some k)) (i : Int) x.From x.Event = some (enc d) from ha]
                rw [q4]
                cases d <;> rfl
      have I : audit_calls_right c x = audit_calls_right c x := rfl
      by_cases bad : ((x.Cmd != 0) || (x.Tag != 0) || (y.Entry.Event != x.Event) || (!((y.Entry.Item.Map == x.Item.Map) && ((y.Entry.Item.Op == x.Item.Op) && ((y.Entry.Item.Key == x.Item.Key) && ((y.Entry.Item.Val == x.Item.Val) && true))))) || y.done) = true
      · refine ⟨false, c, ?_, fun again => by rw [R2, if_pos bad]; rfl, fun z => by cases z⟩
        simp only [Option.isSome_some, Bool.not_true, Bool.false_eq_true, if_false, Option.bind_some]
        generalize ((y.Entry.Item.Map == x.Item.Map) && ((y.Entry.Item.Op == x.Item.Op) && ((y.Entry.Item.Key == x.Item.Key) && ((y.Entry.Item.Val == x.Item.Val) && true)))) = z at bad ⊢
        generalize (x.Cmd != 0) = b1 at bad ⊢
        generalize (x.Tag != 0) = b2 at bad ⊢
        generalize (y.Entry.Event != x.Event) = b3 at bad ⊢
        generalize y.done = b4 at bad ⊢
        revert bad
        cases b1 <;> cases b2 <;> cases b3 <;> cases b4 <;> cases z <;> simp
      · simp only [Bool.not_eq_true] at bad
        refine ⟨true, ⟨c.open_, c.count, mset c.asks x.From ⟨y.Entry, true, x.Res⟩⟩, ?_, fun again => by rw [R2, bad]; rfl, fun _ => ⟨h.opens.skip hx (by omega) (by omega), h.count.skip hx (by omega), fun t => ?_, h.k1, h.k2.mset _ _⟩⟩
        · simp only [Option.isSome_some, Bool.not_true, Bool.false_eq_true, if_false, Option.bind_some]
          generalize ((y.Entry.Item.Map == x.Item.Map) && ((y.Entry.Item.Op == x.Item.Op) && ((y.Entry.Item.Key == x.Item.Key) && ((y.Entry.Item.Val == x.Item.Val) && true)))) = z at bad ⊢
          generalize (x.Cmd != 0) = b1 at bad ⊢
          generalize (x.Tag != 0) = b2 at bad ⊢
          generalize (y.Entry.Event != x.Event) = b3 at bad ⊢
          generalize y.done = b4 at bad ⊢
          revert bad
          cases b1 <;> cases b2 <;> cases b3 <;> cases b4 <;> cases z <;> simp
        · have hd : y.done = false := by
            simp only [Bool.or_eq_false_iff] at bad
            exact bad.2
          have hev : y.Entry.Event = x.Event := by
            simp only [Bool.or_eq_false_iff] at bad
            simpa using bad.1.1.2
          have hdn : d = none := by
            rw [hd] at q4
            cases d with
            | none => rfl
            | some m => cases q4
          obtain ⟨o, a, b⟩ := h.asks t
          have hn := a.next hx
          rw [if_neg (by simp [mark, w])] at hn
          refine ⟨o, hn, ?_⟩
          by_cases e : x.From = t
          · subst e
            have := a.uniq p7
            subst this
            refine ⟨⟨y.Entry, true, x.Res⟩, by rw [mget_mset, if_pos ⟨rfl, by rw [p8]; rfl⟩], some i, q1, q2, ?_, rfl, fun j z => by cases z; exact ⟨x, hx, rfl⟩⟩
            subst hdn
            have hq := q3.next hk hx
            have hp : ap x.From y.Entry.Event x = true := by simp [ap, w, hev]
            simpa [hp] using hq
          · cases o with
            | none =>
              show mget (mset c.asks x.From _) t = none
              rw [mget_mset, if_neg (fun z => e z.1)]; exact b
            | some k' =>
              obtain ⟨y', b1, b2⟩ := b
              exact ⟨y', by rw [mget_mset, if_neg (fun z => e z.1)]; exact b1, b2.keep a.lt.1 hx (by simp [ap, e])⟩
theorem step_back (w : x.What = 17) : Agree fu es i c x := by
  have hi : i < es.length := (List.getElem?_eq_some_iff.1 hx).1
  obtain ⟨o1, p1, _⟩ := h.opens.at x.Task
  obtain ⟨o2, p3, p4⟩ := h.asks x.Task
  unfold Agree audit_calls_right
  rw [noW (by omega), noW (by omega), noW (by omega), noW (by omega), isW w]
  have R : ∀ again, tappetref27_Calls_l1 fu es i again () = ((if decide (enc o2 < 0) then
              some (.inr (i : Int))
            else
              (tappetref27_applied fu es (enc o2) (i : Int) x.Task x.Event).bind fun r3523 =>
              (Go.Sx.idx es (enc o2)).bind fun x3536 =>
              if decide (r3523 < 0) then
                some (.inl true)
              else
                (Go.Sx.idx es r3523).bind fun x3550 =>
                if (!((x3550.Res.E == x.Res.E) && ((x3550.Res.Found == x.Res.Found) && ((x3550.Res.Val == x.Res.Val) && ((x3550.Res.Out == x.Res.Out) && ((x3550.Res.OutKey == x.Res.OutKey) && ((x3550.Res.OutVal == x.Res.OutVal) && true))))))) then
                  some (.inl true)
                else
                  if (x3536.Event != x.Event) then
                    some (.inl true)
                  else
                    if (x3536.Prog != x.Prog) then
                      some (.inl true)
                    else
                      if (x3536.Version != x.Version) then
                        some (.inl true)
                      else
                        some (.inl (x3536.Pc != x.Pc)) : Option (Bool ⊕ Int)).bind fun o3200 => match o3200 with
      | .inl t3202 => if t3202 then some (.inr (i : Int)) else again ()
      | .inr r => some (.inr r)) := by
    intro again
    unfold tappetref27_Calls_l1
    rw [idx_nat hx]
    simp only [Option.bind_some]
    rw [ref_open hl hfu (by omega) 1 2 x.Task p1, ref_open hl hfu (by omega) 16 17 x.Task p3]
    simp only [Option.bind_some]
    rw [noW (by omega), noW (by omega), noW (by omega), noW (by omega), isW w]
    rfl
  cases o2 with
  | none =>
    have p4 : mget c.asks x.Task = none := p4
    rw [p4]
    refine ⟨false, c, by simp, fun again => ?_, fun z => by cases z⟩
    rw [R, enc_none_neg]; rfl
  | some k =>
    obtain ⟨y, p4, d, q1, q2, q3, q4, q5⟩ := p4
    have hk := p3.lt.1
    rw [p4]
    -- what the definition finds at this entry's event
    have R2 : ∀ again, tappetref27_Calls_l1 fu es i again () = if ((!y.done) || (!((y.res.E == x.Res.E) && ((y.res.Found == x.Res.Found) && ((y.res.Val == x.Res.Val) && ((y.res.Out == x.Res.Out) && ((y.res.OutKey == x.Res.OutKey) && ((y.res.OutVal == x.Res.OutVal) && true))))))) || (y.Entry.Event != x.Event) || (y.Entry.Prog != x.Prog) || (y.Entry.Version != x.Version) || (y.Entry.Pc != x.Pc)) then some (.inr (i : Int)) else again () := by
      intro again
      rw [R, enc_some_neg]
      obtain ⟨d', hd'⟩ : ∃ d', Fst es k i (ap x.Task x.Event) d' := by
        by_cases hex : ∃ m, k < m ∧ m < i ∧ ∃ e, es[m]? = some e ∧ ap x.Task x.Event e = true
        · obtain ⟨m, hm, hmin⟩ : ∃ m, (k < m ∧ m < i ∧ ∃ e, es[m]? = some e ∧ ap x.Task x.Event e = true) ∧ ∀ j, j < m → ¬ (k < j ∧ j < i ∧ ∃ e, es[j]? = some e ∧ ap x.Task x.Event e = true) := by
            obtain ⟨m, hm⟩ := hex
            induction m using Nat.strongRecOn with
            | ind m ih =>
              by_cases hz : ∃ j, j < m ∧ (k < j ∧ j < i ∧ ∃ e, es[j]? = some e ∧ ap x.Task x.Event e = true)
              · obtain ⟨j, hj, hp⟩ := hz
                exact ih j hj hp
              · exact ⟨m, hm, fun j hj hp => hz ⟨j, hj, hp⟩⟩
          refine ⟨some m, hm.1, hm.2.1, hm.2.2, fun j e a1 a2 a3 => ?_⟩
          cases hp : ap x.Task x.Event e with
          | false => rfl
          | true => exact absurd ⟨a1, by omega, e, a3, hp⟩ (hmin j a2)
        · refine ⟨none, fun j e a1 a2 a3 => ?_⟩
          cases hp : ap x.Task x.Event e with
          | false => rfl
          | true => exact absurd ⟨j, a1, a2, e, a3, hp⟩ hex
      have ha := ref_applied hl hfu hk (by omega) x.Task x.Event hd'
      rw [show tappetref27_applied fu es (enc (some k)) (i : Int) x.Task x.Event = some (enc d') from ha]
      simp only [Option.bind_some]
      rw [idx_at q1]
      simp only [Option.bind_some]
      by_cases hev : y.Entry.Event = x.Event
      · have e3 : (y.Entry.Event != x.Event) = false := by simpa using hev
        have : d' = d := by rw [← hev] at hd'; exact hd'.uniq q3
        subst this
        rw [q4]
        cases d' with
        | none => rw [enc_none_neg]; rfl
        | some j =>
          obtain ⟨z, z1, z2⟩ := q5 j rfl
          rw [enc_some_neg, idx_at z1]
          simp only [Option.bind_some, Option.isSome_some, Bool.not_true, Bool.false_or, e3, Bool.or_false, z2]
          generalize ((y.res.E == x.Res.E) && ((y.res.Found == x.Res.Found) && ((y.res.Val == x.Res.Val) && ((y.res.Out == x.Res.Out) && ((y.res.OutKey == x.Res.OutKey) && ((y.res.OutVal == x.Res.OutVal) && true)))))) = b1
          generalize (y.Entry.Prog != x.Prog) = b2
          generalize (y.Entry.Version != x.Version) = b3
          generalize (y.Entry.Pc != x.Pc) = b4
          cases b1 <;> cases b2 <;> cases b3 <;> cases b4 <;> rfl
      · have e3 : (y.Entry.Event != x.Event) = true := by simpa using hev
        rw [e3]
        simp only [Bool.or_true, Bool.true_or, if_true]
        cases d' with
        | none => rw [enc_none_neg]; rfl
        | some j =>
          obtain ⟨_, _, ⟨z, z1, _⟩, _⟩ := hd'
          rw [enc_some_neg, idx_at z1]
          simp only [Option.bind_some]
          generalize ((z.Res.E == x.Res.E) && ((z.Res.Found == x.Res.Found) && ((z.Res.Val == x.Res.Val) && ((z.Res.Out == x.Res.Out) && ((z.Res.OutKey == x.Res.OutKey) && ((z.Res.OutVal == x.Res.OutVal) && true)))))) = b1
          cases b1 <;> rfl
    by_cases bad : ((!y.done) || (!((y.res.E == x.Res.E) && ((y.res.Found == x.Res.Found) && ((y.res.Val == x.Res.Val) && ((y.res.Out == x.Res.Out) && ((y.res.OutKey == x.Res.OutKey) && ((y.res.OutVal == x.Res.OutVal) && true))))))) || (y.Entry.Event != x.Event) || (y.Entry.Prog != x.Prog) || (y.Entry.Version != x.Version) || (y.Entry.Pc != x.Pc)) = true
    · refine ⟨false, c, ?_, fun again => by rw [R2, if_pos bad]; rfl, fun z => by cases z⟩
      simp only [Option.isSome_some, Bool.not_true, Bool.false_eq_true, if_false, Option.bind_some]
      generalize ((y.res.E == x.Res.E) && ((y.res.Found == x.Res.Found) && ((y.res.Val == x.Res.Val) && ((y.res.Out == x.Res.Out) && ((y.res.OutKey == x.Res.OutKey) && ((y.res.OutVal == x.Res.OutVal) && true)))))) = z at bad ⊢
      generalize (y.Entry.Event != x.Event) = b1 at bad ⊢
      generalize (y.Entry.Prog != x.Prog) = b2 at bad ⊢
      generalize (y.Entry.Version != x.Version) = b3 at bad ⊢
      generalize (y.Entry.Pc != x.Pc) = b4 at bad ⊢
      generalize y.done = b5 at bad ⊢
      revert bad
      cases b1 <;> cases b2 <;> cases b3 <;> cases b4 <;> cases b5 <;> cases z <;> simp
    · simp only [Bool.not_eq_true] at bad
      refine ⟨true, ⟨c.open_, c.count, mdel c.asks x.Task⟩, ?_, fun again => by rw [R2, bad]; rfl, fun _ => ⟨h.opens.skip hx (by omega) (by omega), h.count.skip hx (by omega), fun t => ?_, h.k1, h.k2.mdel _⟩⟩
      · simp only [Option.isSome_some, Bool.not_true, Bool.false_eq_true, if_false, Option.bind_some]
        generalize ((y.res.E == x.Res.E) && ((y.res.Found == x.Res.Found) && ((y.res.Val == x.Res.Val) && ((y.res.Out == x.Res.Out) && ((y.res.OutKey == x.Res.OutKey) && ((y.res.OutVal == x.Res.OutVal) && true)))))) = z at bad ⊢
        generalize (y.Entry.Event != x.Event) = b1 at bad ⊢
        generalize (y.Entry.Prog != x.Prog) = b2 at bad ⊢
        generalize (y.Entry.Version != x.Version) = b3 at bad ⊢
        generalize (y.Entry.Pc != x.Pc) = b4 at bad ⊢
        generalize y.done = b5 at bad ⊢
        revert bad
        cases b1 <;> cases b2 <;> cases b3 <;> cases b4 <;> cases b5 <;> cases z <;> simp
      · obtain ⟨o, a, b⟩ := h.asks t
        have hn := a.next hx
        by_cases e : x.Task = t
        · rw [if_pos (by simp [mark, w, e]), if_neg (by simp [w])] at hn
          exact ⟨none, hn, by show mget (mdel c.asks x.Task) t = none; rw [mget_mdel h.k2, if_pos e]⟩
        · rw [if_neg (by simp [mark, e])] at hn
          refine ⟨o, hn, ?_⟩
          cases o with
          | none =>
            show mget (mdel c.asks x.Task) t = none
            rw [mget_mdel h.k2, if_neg e]; exact b
          | some k' =>
            obtain ⟨y', b1, b2⟩ := b
            exact ⟨y', by rw [mget_mdel h.k2, if_neg e]; exact b1, b2.keep a.lt.1 hx (by simp [ap, w])⟩
theorem step_other (w1 : ¬ x.What = 1) (w2 : ¬ x.What = 2) (w16 : ¬ x.What = 16) (w3 : ¬ x.What = 3) (w17 : ¬ x.What = 17) : Agree fu es i c x := by
  have hi : i < es.length := (List.getElem?_eq_some_iff.1 hx).1
  obtain ⟨o1, p1, _⟩ := h.opens.at x.Task
  obtain ⟨o2, p3, _⟩ := h.asks x.Task
  unfold Agree audit_calls_right
  rw [noW w1, noW w2, noW w16, noW w3, noW w17]
  refine ⟨true, c, rfl, fun again => ?_, fun _ => ⟨h.opens.skip hx w1 w2, h.count.skip hx w1, h.asks.skip hx w16 w17 (fun z => absurd z w3), h.k1, h.k2⟩⟩
  unfold tappetref27_Calls_l1
  rw [idx_nat hx]
  simp only [Option.bind_some]
  rw [ref_open hl hfu (by omega) 1 2 x.Task p1, ref_open hl hfu (by omega) 16 17 x.Task p3]
  simp only [Option.bind_some]
  rw [noW w1, noW w2, noW w16, noW w3, noW w17]
  rfl
theorem calls_step : Agree fu es i c x := by
  by_cases w1 : x.What = 1
  · exact step_call hl hfu h hx w1
  by_cases w2 : x.What = 2
  · exact step_return hl hfu h hx w2
  by_cases w16 : x.What = 16
  · exact step_ask hl hfu h hx w16
  by_cases w3 : x.What = 3
  · exact step_apply hl hfu h hx w3
  by_cases w17 : x.What = 17
  · exact step_back hl hfu h hx w17
  exact step_other hl hfu h hx w1 w2 w16 w3 w17
end
theorem calls_from {fu : Nat} {es : List api_Entry} (hl : es.length ≤ 1500) (hfu : 2000 < fu) : ∀ (n i : Nat) (c : audit_calls), i + n = es.length → CI es i c →
    ∃ z : Int, one fu i (es.drop i) (.inr (.inl c)) = some z ∧ (forN (tappetref27_Calls_l1 fu es) (fun (_ : Unit) => (.inl () : Unit ⊕ Int)) n i ()).bind (fun o => match o with | .inl _ => some (-1 : Int) | .inr r => some r) = some z := by
  intro n
  induction n with
  | zero =>
    intro i c hi h
    rw [List.drop_of_length_le (by omega)]
    exact ⟨-1, rfl, rfl⟩
  | succ n ih =>
    intro i c hi h
    have hlt : i < es.length := by omega
    obtain ⟨b, c', r1, r2, r3⟩ := calls_step hl hfu h (List.getElem?_eq_getElem hlt)
    have hd : es.drop i = es[i] :: es.drop (i + 1) := List.drop_eq_getElem_cons hlt
    have hf : forN (tappetref27_Calls_l1 fu es) (fun (_ : Unit) => (.inl () : Unit ⊕ Int)) (n + 1) i () = if b then forN (tappetref27_Calls_l1 fu es) (fun (_ : Unit) => (.inl () : Unit ⊕ Int)) n (i + 1) () else some (.inr (i : Int)) := r2 _
    rw [hd, hf]
    cases b with
    | false =>
      refine ⟨(i : Int), ?_, rfl⟩
      simp only [one, I_audit_rule_right, r1, Option.bind_some]; rfl
    | true =>
      obtain ⟨z, z1, z2⟩ := ih (i + 1) c' (by omega) (r3 rfl)
      refine ⟨z, ?_, z2⟩
      simp only [one, I_audit_rule_right, r1, Option.bind_some]
      exact z1
theorem Calls_is {fu : Nat} {es : List api_Entry} (hl : es.length ≤ 1500) (hfu : 2000 < fu) : ∃ z, audit_Calls fu es = some z ∧ tappetref27_Calls fu es = some z := by
  obtain ⟨z, z1, z2⟩ := calls_from hl hfu es.length 0 ⟨[], [], []⟩ (by omega) (ci0 es)
  refine ⟨z, ?_, ?_⟩
  · unfold audit_Calls audit_newCalls
    simp only [Option.bind_some]
    rw [first_one]
    rw [List.drop_zero] at z1
    rw [z1]; rfl
  · exact z2
end Go.Proofs.Ytpchniebplpboaa

/- TraceOnly: the plain law. -/
import Derived.Test.YtalllncanpcmfaaDoorKOnly
set_option linter.unusedVariables false
set_option linter.unusedSimpArgs false
namespace Go.Proofs.YtalllncanpcmfaaDoor
open Go.Sx

theorem filt_at {α : Type} {p : α → Bool} {l : List α} {i : Nat} {x : α} (h : l[i]? = some x) (hp : p x = true) :
    (l.filter p)[((l.take i).filter p).length]? = some x := by
  have h1 : l = l.take i ++ (x :: l.drop (i + 1)) := by
    have := List.getElem?_eq_some_iff.1 h
    obtain ⟨hlt, he⟩ := this
    rw [← he, List.getElem_cons_drop hlt, List.take_append_drop]
  have h2 : l.filter p = (l.take i).filter p ++ (x :: l.drop (i + 1)).filter p := by
    rw [← List.filter_append, ← h1]
  rw [h2, List.filter_cons_of_pos hp]
  simp
theorem filt_snoc {α : Type} {p : α → Bool} {l : List α} {i : Nat} {x : α} (h : l[i]? = some x) :
    ((l.take (i + 1)).filter p).length = ((l.take i).filter p).length + (if p x then 1 else 0) := by
  rw [filt_take h, List.length_append]
  cases p x <;> simp
theorem cont_snoc {l : List Int} {i : Nat} {x y : Int} (h : l[i]? = some x) :
    (l.take (i + 1)).contains y = ((l.take i).contains y || x == y) := by
  rw [List.take_add_one, h]
  by_cases e : x = y
  · subst e; simp
  · have e' : ¬ y = x := fun h => e h.symm
    simp [List.contains_eq_mem, e, e']
theorem fill_ok (v : api_Entry) (body : ((List api_Entry × Int) → Option Unit) → (List api_Entry × Int) → Option Unit)
    (hb : ∀ again s, body again s = if decide (s.2 < ((s.1).length : Int)) then (idx s.1 s.2).bind fun _ => again (s.1.set (Int.toNat s.2) v, w64 (s.2 + 1)) else some ())
    (fu : Nat) (l : List api_Entry) (hl : l.length < fu) (hM : (l.length : Int) < 9223372036854775807) : loop body fu (l, 0) = some () := by
  refine OK.is ?_
  refine OK.rounds (fun s : List api_Entry × Int => s.1.length = l.length ∧ 0 ≤ s.2 ∧ s.2 ≤ (l.length : Int)) (fun s : List api_Entry × Int => l.length - s.2.toNat) (fun s again hs k => ?_) fu (l, 0) ⟨rfl, Int.le_refl _, by simp⟩ (by simp; omega)
  obtain ⟨ys, i⟩ := s
  obtain ⟨h1, h2, h3⟩ := hs
  have h1 : ys.length = l.length := h1
  have h2 : 0 ≤ i := h2
  have h3 : i ≤ (l.length : Int) := h3
  rw [hb]
  refine OK.ite (fun e => ?_) (fun e => OK.ret rfl)
  have e : i < (ys.length : Int) := by simpa using e
  refine OK.bind (OK.get h2 e (fun y hy => ?_))
  have hw : w64 (i + 1) = i + 1 := w64_eq (by omega) (by omega)
  refine k _ ⟨?_, ?_, ?_⟩ ?_
  · simp [h1]
  · show 0 ≤ w64 (i + 1); omega
  · show w64 (i + 1) ≤ _; omega
  · show l.length - (w64 (i + 1)).toNat < l.length - i.toNat; omega

theorem traceOnly_law (fu : Nat) (p0 : List api_Entry) (p1 p2 : List Int) (hf : p0.length + 1000 ≤ fu) (h0 : p0.length * 176 ≤ 140737488355328) (h1 : p1.length * 8 ≤ 140737488355328) (h2 : p2.length * 8 ≤ 140737488355328) :
    tappetlaw26_TraceOnly fu p0 p1 p2 = some true := by
  refine OK.is ?_
  unfold tappetlaw26_TraceOnly
  rw [awake_fu (by omega)]
  simp only [Option.bind_some, List.nil_append, List.length_nil, Nat.zero_add]
  refine OK.ite_false rfl ?_
  refine OK.bind (OK.hasRoom h0 ?_)
  refine OK.bind2 (OK.count (Q := fun s => s = p1) (fun i s => s = p1.take i) rfl (fun i s again hi hs k => ?_) (fun s hs => by rw [hs, List.take_length])) (fun o ho => ?_)
  · unfold tappetlaw26_TraceOnly_l1
    refine OK.bind (OK.getN hi (fun x hx => ?_))
    have : s.length ≤ i := by rw [hs, List.length_take]; omega
    refine OK.bind (OK.hasRoom (by simp; omega) (k _ ?_))
    rw [List.take_add_one, hx, hs]; rfl
  subst ho
  rw [only_eq h0]
  simp only [Option.bind_some]
  refine OK.bind (OK.hasRoom h2 ?_)
  rw [of_eq h0]
  simp only [Option.bind_some]
  refine OK.bind2 (OK.count (Q := fun r => match r with | .inl t => t.1 = ((p0.filter fun x => o.contains x.What).length : Int) ∧ t.2 = ((p0.filter fun x => p2.contains x.Task).length : Int) | .inr b => b = true) (fun i (s : Int × Int) => s.1 = (((p0.take i).filter fun x => o.contains x.What).length : Int) ∧ s.2 = (((p0.take i).filter fun x => p2.contains x.Task).length : Int)) ⟨rfl, rfl⟩ (fun i s again hi hs k => ?_) (fun s hs => by rw [List.take_length] at hs; exact hs)) (fun r hr => ?_)
  · obtain ⟨s1, s2⟩ := s
    obtain ⟨hs1, hs2⟩ := hs
    have hs1 : s1 = _ := hs1
    have hs2 : s2 = _ := hs2
    obtain ⟨x, hx⟩ : ∃ x, p0[i]? = some x := ⟨p0[i], List.getElem?_eq_getElem hi⟩
    have hidx : idx p0 (i : Int) = some x := by
      refine OK.is (OK.getN hi (fun y hy => ?_))
      rw [hx] at hy; cases hy; rfl
    unfold tappetlaw26_TraceOnly_l2
    refine OK.bind2 (OK.count (Q := fun b => b = o.contains x.What) (fun j b => b = (o.take j).contains x.What) (by simp) (fun j b again hj hb k => ?_) (fun b hb => by rw [hb, List.take_length])) (fun b1 hb1 => ?_)
    · unfold tappetlaw26_TraceOnly_l3
      refine OK.ite (fun e => k _ ?_) (fun e => OK.bind (OK.getN hj (fun y hy => ?_)))
      · rw [cont_snoc (List.getElem?_eq_getElem hj), ← hb, e]; rfl
      · rw [hidx]
        simp only [Option.bind_some]
        refine k _ ?_
        rw [cont_snoc hy, ← hb, e]; rfl
    refine OK.bind2 (OK.count (Q := fun b => b = p2.contains x.Task) (fun j b => b = (p2.take j).contains x.Task) (by simp) (fun j b again hj hb k => ?_) (fun b hb => by rw [hb, List.take_length])) (fun b2 hb2 => ?_)
    · unfold tappetlaw26_TraceOnly_l4
      refine OK.ite (fun e => k _ ?_) (fun e => OK.bind (OK.getN hj (fun y hy => ?_)))
      · rw [cont_snoc (List.getElem?_eq_getElem hj), ← hb, e]; rfl
      · rw [hidx]
        simp only [Option.bind_some]
        refine k _ ?_
        rw [cont_snoc hy, ← hb, e]; rfl
    have c1 := filt_snoc (p := fun x => o.contains x.What) hx
    have c2 := filt_snoc (p := fun x => p2.contains x.Task) hx
    have b1' := @filt_len _ (fun x : api_Entry => o.contains x.What) p0 i
    have b2' := @filt_len _ (fun x : api_Entry => p2.contains x.Task) p0 i
    simp only [← hb1, ← hb2] at c1 c2
    refine OK.bind2 (R := fun r => match r with | .inl t => t = (((p0.take (i + 1)).filter fun x => o.contains x.What).length : Int) | .inr _ => False) ?_ (fun t ht => ?_)
    · refine OK.ite (fun e => ?_) (fun e => OK.ret ?_)
      · rw [e] at c1 hb1
        have g := filt_at (p := fun x => o.contains x.What) hx hb1.symm
        have hlt : ((p0.take i).filter fun x => o.contains x.What).length < (p0.filter fun x => o.contains x.What).length := by
          rcases Nat.lt_or_ge ((p0.take i).filter fun x => o.contains x.What).length (p0.filter fun x => o.contains x.What).length with h | h
          · exact h
          · rw [List.getElem?_eq_none h] at g; cases g
        refine OK.bind2 (R := fun b => b = false) ?_ (fun b hb => ?_)
        · refine OK.ite_false (by rw [hs1]; simp only [decide_eq_false_iff_not]; omega) ?_
          rw [hs1]
          refine OK.bind (OK.getN hlt (fun y hy => ?_))
          rw [g] at hy; cases hy
          rw [hidx]
          simp only [Option.bind_some]
          exact OK.ret (by simp)
        · subst hb
          refine OK.ite_false rfl (OK.ret ?_)
          show w64 (s1 + 1) = _
          rw [w64_eq (by omega) (by omega), hs1, c1]
          simp
      · rw [e] at c1
        show s1 = _
        rw [hs1, c1]; simp
    · cases t with
      | inr r => exact ht.elim
      | inl t =>
        refine OK.ite (fun e => ?_) (fun e => k _ ⟨ht, ?_⟩)
        · rw [e] at c2 hb2
          have g := filt_at (p := fun x => p2.contains x.Task) hx hb2.symm
          have hlt : ((p0.take i).filter fun x => p2.contains x.Task).length < (p0.filter fun x => p2.contains x.Task).length := by
            rcases Nat.lt_or_ge ((p0.take i).filter fun x => p2.contains x.Task).length (p0.filter fun x => p2.contains x.Task).length with h | h
            · exact h
            · rw [List.getElem?_eq_none h] at g; cases g
          refine OK.bind2 (R := fun b => b = false) ?_ (fun b hb => ?_)
          · refine OK.ite_false (by rw [hs2]; simp only [decide_eq_false_iff_not]; omega) ?_
            rw [hs2]
            refine OK.bind (OK.getN hlt (fun y hy => ?_))
            rw [g] at hy; cases hy
            rw [hidx]
            simp only [Option.bind_some]
            exact OK.ret (by simp)
          · subst hb
            refine OK.ite_false rfl (k _ ⟨ht, ?_⟩)
            show w64 (s2 + 1) = _
            rw [w64_eq (by omega) (by omega), hs2, c2]
            simp
        · rw [e] at c2
          show s2 = _
          rw [hs2, c2]; simp
  cases r with
  | inr b => exact OK.ret hr
  | inl t =>
    obtain ⟨ht1, ht2⟩ := hr
    refine OK.bind2 (R := fun b => b = false) ?_ (fun b hb => ?_)
    · refine OK.ite_false (by rw [ht1]; simp) (OK.ite_false (by rw [ht2]; simp) ?_)
      rw [only_eq h0, of_eq h0]
      simp only [Option.bind_some]
      refine OK.ite_false (by simp) (OK.ret (by simp))
    · subst hb
      refine OK.ite_false rfl ?_
      have k1 : (p0.filter fun x => o.contains x.What).length ≤ p0.length := List.length_filter_le _ _
      have k2 : (p0.filter fun x => p2.contains x.Task).length ≤ p0.length := List.length_filter_le _ _
      rw [fill_ok _ tappetlaw26_TraceOnly_l5 (fun _ _ => rfl) fu _ (by omega) (by omega)]
      simp only [Option.bind_some]
      rw [fill_ok _ tappetlaw26_TraceOnly_l6 (fun _ _ => rfl) fu _ (by omega) (by omega)]
      simp only [Option.bind_some]
      rw [logs_refl]
      exact OK.ret rfl
end Go.Proofs.YtalllncanpcmfaaDoor

/- KernPlays' plain law: the kernel and the reference go in step. -/
import Derived.Test.YthljmgepekhchaaP1
import Derived.Test.YthljmgepekhchaaD2
set_option linter.unusedVariables false
namespace Go.Proofs.Ythljmgepekhchaa
open Go.Sx

/-- task i's mode in the reference -/
def rIs (r : tappetref21_Kern) (m : Int) (i : Nat) : Bool := r.Mode[i]? == some m
theorem rIs_iff {r : tappetref21_Kern} {m : Int} {i : Nat} : rIs r m i = true ↔ r.Mode[i]? = some m := by
  unfold rIs
  simp

theorem rin_law (r : tappetref21_Kern) (m : Int) (hn : r.Mode.length ≤ 1000) : tappetref21_Kern_In r m = some (posn (rIs r m) r.Mode.length) := by
  refine OK.is ?_
  unfold tappetref21_Kern_In
  refine OK.bind2 (R := fun y => y = posn (rIs r m) r.Mode.length) ?_ (fun x hx => OK.ret hx)
  refine OK.count (fun i s => s = posn (rIs r m) i) rfl ?_ (fun s h => h)
  intro i s again hi hs k
  subst hs
  unfold tappetref21_Kern_In_l1
  refine OK.bind (OK.getN hi (fun x hx => ?_))
  have hm : rIs r m i = (x == m) := by unfold rIs; rw [hx]; rfl
  refine OK.ite (fun h => ?_) (fun h => ?_)
  · have := posn_len (rIs r m) i
    refine OK.bind (OK.hasRoom ?_ ?_)
    · simp; omega
    · exact k _ (by rw [posn_succ, hm, if_pos h])
  · exact k _ (by rw [posn_succ, hm, h]; rfl)

/-- one more than x's last place below k; none: 0 -/
def lastAt (l : List Int) (x : Int) : Nat → Nat
  | 0 => 0
  | k + 1 => if l[k]? = some x then k + 1 else lastAt l x k
theorem lastAt_app (l : List Int) (y x : Int) : ∀ k, k ≤ l.length → lastAt (l ++ [y]) x k = lastAt l x k
  | 0, _ => rfl
  | k + 1, h => by
    unfold lastAt
    rw [List.getElem?_append_left (by omega), lastAt_app l y x k (by omega)]
theorem lastAt_push (l : List Int) (y x : Int) : lastAt (l ++ [y]) x (l ++ [y]).length = if y = x then l.length + 1 else lastAt l x l.length := by
  have e : (l ++ [y]).length = l.length + 1 := by simp
  have h1 : (l ++ [y])[l.length]? = some y := by rw [List.getElem?_append_right (Nat.le_refl _)]; simp
  rw [e, show lastAt (l ++ [y]) x (l.length + 1) = if (l ++ [y])[l.length]? = some x then l.length + 1 else lastAt (l ++ [y]) x l.length from rfl, h1, lastAt_app l y x _ (Nat.le_refl _)]
  simp
theorem lastAt_le (l : List Int) (x : Int) : ∀ k, lastAt l x k ≤ k
  | 0 => Nat.le_refl _
  | k + 1 => by
    unfold lastAt
    have := lastAt_le l x k
    split <;> omega

/-- the kernel and the reference stand alike -/
structure Match (K : kern_Kern) (r : tappetref21_Kern) (n : Nat) : Prop where
  len : K.tasks.length = n
  rlen : r.Mode.length = n
  turns : K.turns = (r.Picks.length : Int)
  mode : ∀ (i : Nat) (t : kern_task), K.tasks[i]? = some t → r.Mode[i]? = some t.mode_
  pk : ∀ (i : Nat) (t : kern_task), K.tasks[i]? = some t → t.picked = (lastAt r.Picks (i : Int) r.Picks.length : Int)
theorem Match.is {K : kern_Kern} {r : tappetref21_Kern} {n : Nat} (h : Match K r n) (m : Int) (i : Nat) : modeIs K m i = rIs r m i := by
  unfold modeIs rIs
  cases hk : K.tasks[i]? with
  | none =>
    have : r.Mode[i]? = none := by
      rw [List.getElem?_eq_none_iff] at hk ⊢
      rw [h.rlen, ← h.len]; exact hk
    rw [this]; rfl
  | some t => rw [h.mode i t hk]; rfl
theorem Match.in_ {K : kern_Kern} {r : tappetref21_Kern} {n : Nat} (h : Match K r n) (m : Int) : posn (rIs r m) r.Mode.length = posn (modeIs K m) K.tasks.length := by
  rw [h.len, h.rlen]
  exact posn_congr (fun i => (h.is m i).symm)

theorem rturn_law (r : tappetref21_Kern) (m : Int) (ts : List Int) : OK (tappetref21_Kern_Turn r m ts) (fun o =>
    (o.1 = 0 ∧ (∀ x ∈ ts, 0 ≤ x ∧ x < r.Mode.length ∧ rIs r 2 x.toNat = false) ∧ o.2.Picks = r.Picks ∧ o.2.Mode.length = r.Mode.length ∧ ∀ k : Nat, o.2.Mode[k]? = (r.Mode[k]?).map (fun t => if (k : Int) ∈ ts then m else t)) ∨
    (o = (2, r) ∧ ∃ x ∈ ts, ¬ (0 ≤ x ∧ x < r.Mode.length)) ∨
    (o = (43, r) ∧ (∀ x ∈ ts, 0 ≤ x ∧ x < r.Mode.length) ∧ ∃ x ∈ ts, rIs r 2 x.toNat = true)) := by
  unfold tappetref21_Kern_Turn
  refine OK.bind2 (R := fun o => match o with
    | .inl _ => ∀ x ∈ ts, 0 ≤ x ∧ x < r.Mode.length
    | .inr o => o = (2, r) ∧ ∃ x ∈ ts, ¬ (0 ≤ x ∧ x < r.Mode.length)) ?_ ?_
  · refine OK.count (fun i s => ∀ j x, j < i → ts[j]? = some x → 0 ≤ x ∧ x < r.Mode.length) (fun j x h => by omega) ?_ ?_
    · intro i s again hi hs k
      unfold tappetref21_Kern_Turn_l1
      refine OK.bind2 (R := fun o => ∀ x, ts[i]? = some x → (o = true ↔ ¬ (0 ≤ x ∧ x < r.Mode.length))) ?_ ?_
      · refine OK.bind (OK.getN hi (fun x hx => ?_))
        refine OK.ite (fun h => OK.ret ?_) (fun h => OK.ret ?_)
        · intro y hy; rw [hx] at hy; cases hy
          simp at h ⊢; omega
        · intro y hy; rw [hx] at hy; cases hy
          simp at h ⊢; omega
      intro o ho
      have hx := List.getElem?_eq_getElem hi
      have ho := ho _ hx
      refine OK.ite (fun h => ?_) (fun h => ?_)
      · exact OK.ret ⟨rfl, _, List.mem_of_getElem? hx, ho.1 h⟩
      · refine k _ ?_
        intro j y hj hy
        by_cases e : j = i
        · subst e
          rw [hx] at hy
          cases hy
          have : ¬ (o = true) := by rw [h]; exact Bool.false_ne_true
          rw [ho] at this
          exact Classical.not_not.1 this
        · exact hs j y (by omega) hy
    · intro s h x hx
      obtain ⟨j, hj⟩ := List.mem_iff_getElem?.1 hx
      exact h j x ((List.getElem?_eq_some_iff.1 hj).1) hj
  · rintro (⟨⟩ | o) h
    rotate_left
    · obtain ⟨rfl, x, hx, hn⟩ := h
      exact OK.ret (.inr (.inl ⟨rfl, x, hx, hn⟩))
    refine OK.bind2 (R := fun o => match o with
      | .inl _ => ∀ x ∈ ts, rIs r 2 x.toNat = false
      | .inr o => o = (43, r) ∧ ∃ x ∈ ts, rIs r 2 x.toNat = true) ?_ ?_
    · refine OK.count (fun i s => ∀ j x, j < i → ts[j]? = some x → rIs r 2 x.toNat = false) (fun j x h => by omega) ?_ ?_
      · intro i s again hi hs k
        unfold tappetref21_Kern_Turn_l2
        refine OK.bind (OK.getN hi (fun x hx => ?_))
        have hr := h x (List.mem_of_getElem? hx)
        refine OK.bind (OK.get hr.1 hr.2 (fun y hy => ?_))
        have hm : rIs r 2 x.toNat = (y == 2) := by unfold rIs; rw [hy]; rfl
        refine OK.ite (fun h => ?_) (fun h => ?_)
        · exact OK.ret ⟨rfl, x, List.mem_of_getElem? hx, hm.trans h⟩
        · refine k _ ?_
          intro j z hj hz
          by_cases e : j = i
          · subst e
            rw [hx] at hz
            cases hz
            exact hm.trans h
          · exact hs j z (by omega) hz
      · intro s h x hx
        obtain ⟨j, hj⟩ := List.mem_iff_getElem?.1 hx
        exact h j x ((List.getElem?_eq_some_iff.1 hj).1) hj
    · rintro (⟨⟩ | o) h2
      rotate_left
      · obtain ⟨rfl, x, hx, hn⟩ := h2
        exact OK.ret (.inr (.inr ⟨rfl, h, x, hx, hn⟩))
      refine OK.bind2 (R := fun s => s.length = r.Mode.length ∧ ∀ k : Nat, s[k]? = (r.Mode[k]?).map (fun t => if (k : Int) ∈ ts then m else t)) ?_ ?_
      · refine OK.count (fun i s => s.length = r.Mode.length ∧ ∀ k : Nat, s[k]? = (r.Mode[k]?).map (fun t => if (k : Int) ∈ ts.take i then m else t)) ⟨rfl, fun k => ?_⟩ ?_ ?_
        · simp
        · intro i s again hi hs k
          unfold tappetref21_Kern_Turn_l3
          refine OK.bind (OK.getN hi (fun x hx => ?_))
          have hr := h x (List.mem_of_getElem? hx)
          refine OK.bind (OK.get hr.1 (by rw [hs.1]; exact hr.2) (fun y hy => ?_))
          refine k _ ⟨by rw [List.length_set]; exact hs.1, fun q => ?_⟩
          have ht : ts.take (i + 1) = ts.take i ++ [x] := by rw [List.take_add_one, hx]; rfl
          rw [ht, get_set]
          by_cases e : x.toNat = q
          · subst e
            rw [if_pos rfl, if_pos (by rw [hs.1]; omega)]
            have e1 : ((x.toNat : Nat) : Int) = x := by omega
            rw [hs.2] at hy
            cases hk : r.Mode[x.toNat]? with
            | none => rw [hk] at hy; cases hy
            | some t =>
              simp only [Option.map_some, e1]
              rw [if_pos (List.mem_append_right _ (List.mem_singleton.2 rfl))]
          · rw [if_neg e, hs.2 q]
            have e1 : (q : Int) ≠ x := by omega
            simp [e1]
        · intro s hs
          refine ⟨hs.1, fun k => ?_⟩
          rw [hs.2 k, List.take_length]
      · rintro s ⟨h3, h4⟩
        exact OK.ret (.inl ⟨rfl, fun x hx => ⟨(h x hx).1, (h x hx).2, h2 x hx⟩, rfl, h3, h4⟩)

theorem turn_match {K : kern_Kern} {r : tappetref21_Kern} {n : Nat} (hM : Match K r n) (m : Int) (ts : List Int) :
    OK (kern_Kern_turn K m ts) (fun a => OK (tappetref21_Kern_Turn r m ts) (fun b => a.1 = b.1 ∧ Match a.2 b.2 n ∧ b.2.Picks = r.Picks)) := by
  refine (turn_law K m ts).mono (fun a ha => (rturn_law r m ts).mono (fun b hb => ?_))
  have hl : K.tasks.length = r.Mode.length := by rw [hM.len, hM.rlen]
  rcases ha with ⟨a1, a2, a3⟩ | ⟨rfl, x, hx, a2⟩ | ⟨rfl, a2, x, hx, a3⟩ <;> rcases hb with ⟨b1, b2, b3, b4, b5⟩ | ⟨rfl, y, hy, b2⟩ | ⟨rfl, b2, y, hy, b3⟩
  · refine ⟨by rw [a1, b1], ⟨by rw [a3.len, hM.len], by rw [b4, hM.rlen], by rw [a3.turns, b3, hM.turns], fun i t ht => ?_, fun i t ht => ?_⟩, b3⟩
    · rw [a3.at_] at ht
      rw [b5]
      cases hk : K.tasks[i]? with
      | none => rw [hk] at ht; cases ht
      | some t0 =>
        rw [hk] at ht
        rw [hM.mode i t0 hk]
        simp only [Option.map_some, Option.some.injEq] at ht ⊢
        rw [← ht]
        split <;> rfl
    · rw [a3.at_] at ht
      rw [b3]
      cases hk : K.tasks[i]? with
      | none => rw [hk] at ht; cases ht
      | some t0 =>
        rw [hk] at ht
        simp only [Option.map_some, Option.some.injEq] at ht
        rw [← hM.pk i t0 hk, ← ht]
        split <;> rfl
  · have := a2 y hy; omega
  · have := (a2 y hy).2.2; rw [hM.is, b3] at this; cases this
  · have := b2 x hx; omega
  · exact ⟨rfl, hM, rfl⟩
  · have := b2 x hx; omega
  · have := (b2 x hx).2.2; rw [← hM.is, a3] at this; cases this
  · have := a2 y hy; omega
  · exact ⟨rfl, hM, rfl⟩

theorem rset_law (r : tappetref21_Kern) (w : List Bool) : OK (tappetref21_Kern_Set r w) (fun o =>
    (w.length ≠ r.Mode.length ∧ o = (2, r)) ∨ (w.length = r.Mode.length ∧ o.1 = 0 ∧ o.2.Picks = r.Picks ∧ o.2.Mode.length = r.Mode.length ∧
      ∀ k : Nat, o.2.Mode[k]? = (r.Mode[k]?).map (fun t => if t == 2 then t else if w[k]? = some true then 1 else 0))) := by
  unfold tappetref21_Kern_Set
  refine OK.ite (fun h => ?_) (fun h => ?_)
  · refine OK.ret (.inl ⟨?_, rfl⟩)
    simp at h
    omega
  · have hl : w.length = r.Mode.length := by simp at h; omega
    refine OK.bind2 (R := fun s => s.length = r.Mode.length ∧ ∀ k : Nat, s[k]? = (r.Mode[k]?).map (fun t => if t == 2 then t else if w[k]? = some true then 1 else 0)) ?_ ?_
    · refine OK.count (fun i s => s.length = r.Mode.length ∧ (∀ k : Nat, k < i → s[k]? = (r.Mode[k]?).map (fun t => if t == 2 then t else if w[k]? = some true then 1 else 0)) ∧ ∀ k : Nat, i ≤ k → s[k]? = r.Mode[k]?) ⟨rfl, fun k h => by omega, fun k h => rfl⟩ ?_ ?_
      · intro i s again hi hs k
        have his : i < s.length := by rw [hs.1]; omega
        unfold tappetref21_Kern_Set_l1
        refine OK.bind (OK.getN his (fun t ht => ?_))
        have ht0 : r.Mode[i]? = some t := by rw [← hs.2.2 i (by omega)]; exact ht
        have e0 : Int.toNat (i : Int) = i := by omega
        have upd : ∀ (s' : List Int) (m : Int), (t == 2) = false → s'.length = r.Mode.length → s'[i]? = some m → (∀ k, k ≠ i → s'[k]? = s[k]?) → m = (if w[i]? = some true then 1 else 0) → OK (again s') (fun s => s.length = r.Mode.length ∧ ∀ k : Nat, s[k]? = (r.Mode[k]?).map (fun t => if t == 2 then t else if w[k]? = some true then 1 else 0)) := by
          intro s' m h2 h3 h4 h5 hm
          refine k _ ⟨h3, fun j hj => ?_, fun j hj => ?_⟩
          · by_cases e : j = i
            · subst e
              rw [h4, ht0]
              simp only [Option.map_some, h2, hm]
              rfl
            · rw [h5 j e]
              exact hs.2.1 j (by omega)
          · rw [h5 j (by omega)]
            exact hs.2.2 j (by omega)
        refine OK.ite (fun h2 => ?_) (fun h2 => ?_)
        · refine k _ ⟨hs.1, fun j hj => ?_, fun j hj => hs.2.2 j (by omega)⟩
          by_cases e : j = i
          · subst e
            rw [ht, ht0]
            simp only [Option.map_some, h2, if_true]
          · exact hs.2.1 j (by omega)
        · refine OK.bind (OK.getN hi (fun b hb => ?_))
          rw [e0]
          refine OK.ite (fun h3 => ?_) (fun h3 => ?_)
          · refine OK.bind (OK.getN (by rw [List.length_set]; exact his) (fun _ _ => ?_))
            refine upd _ 1 h2 (by rw [List.length_set, List.length_set]; exact hs.1) ?_ (fun k hk => ?_) (by rw [hb, h3, if_pos rfl])
            · rw [get_set, if_pos rfl, if_pos (by rw [List.length_set]; exact his)]
            · rw [get_set, if_neg (fun e => hk e.symm), get_set, if_neg (fun e => hk e.symm)]
          · refine upd _ 0 h2 (by rw [List.length_set]; exact hs.1) ?_ (fun k hk => ?_) (by rw [hb, h3, if_neg (by simp)])
            · rw [get_set, if_pos rfl, if_pos his]
            · rw [get_set, if_neg (fun e => hk e.symm)]
      · intro s hs
        refine ⟨hs.1, fun j => ?_⟩
        by_cases hj : j < w.length
        · exact hs.2.1 j hj
        · rw [hs.2.2 j (by omega), List.getElem?_eq_none (by omega)]
          rfl
    · rintro s ⟨h1, h2⟩
      exact OK.ret (.inr ⟨hl, rfl, rfl, h1, h2⟩)

theorem set_match {K : kern_Kern} {r : tappetref21_Kern} {n : Nat} (hM : Match K r n) (w : List Bool) :
    OK (kern_Kern_Set K w) (fun a => OK (tappetref21_Kern_Set r w) (fun b => a.1 = b.1 ∧ Match a.2 b.2 n ∧ b.2.Picks = r.Picks)) := by
  refine (set_law K w).mono (fun a ha => (rset_law r w).mono (fun b hb => ?_))
  have hl : K.tasks.length = r.Mode.length := by rw [hM.len, hM.rlen]
  rcases ha with ⟨a1, rfl⟩ | ⟨a1, a2, a3⟩ <;> rcases hb with ⟨b1, rfl⟩ | ⟨b1, b2, b3, b4, b5⟩
  · exact ⟨rfl, hM, rfl⟩
  · omega
  · omega
  · refine ⟨by rw [a2, b2], ⟨by rw [a3.len, hM.len], by rw [b4, hM.rlen], by rw [a3.turns, b3, hM.turns], fun i t ht => ?_, fun i t ht => ?_⟩, b3⟩
    · rw [a3.at_] at ht
      rw [b5]
      cases hk : K.tasks[i]? with
      | none => rw [hk] at ht; cases ht
      | some t0 =>
        rw [hk] at ht
        rw [hM.mode i t0 hk]
        simp only [Option.map_some, Option.some.injEq] at ht ⊢
        rw [← ht]
        split <;> rfl
    · rw [a3.at_] at ht
      rw [b3]
      cases hk : K.tasks[i]? with
      | none => rw [hk] at ht; cases ht
      | some t0 =>
        rw [hk] at ht
        simp only [Option.map_some, Option.some.injEq] at ht
        rw [← hM.pk i t0 hk, ← ht]
        split <;> rfl

/-- both pick t -/
theorem took_match {K : kern_Kern} {r : tappetref21_Kern} {n : Nat} (hM : Match K r n) {t : Nat} (ht : t < n) : Match (took K t) (tappetref21_Kern.mk r.Mode (r.Picks ++ [(t : Int)])) n := by
  have htl : t < K.tasks.length := by rw [hM.len]; exact ht
  refine ⟨by rw [took_len, hM.len], hM.rlen, by rw [took_turns htl, hM.turns]; simp, fun i y hy => ?_, fun i y hy => ?_⟩
  · rw [took_at htl] at hy
    cases hk : K.tasks[i]? with
    | none => rw [hk] at hy; cases hy
    | some x =>
      rw [hk] at hy
      simp only [Option.map_some, Option.some.injEq] at hy
      show r.Mode[i]? = _
      rw [hM.mode i x hk, ← hy]
      split <;> rfl
  · rw [took_at htl] at hy
    show _ = ((lastAt (r.Picks ++ [(t : Int)]) (i : Int) (r.Picks ++ [(t : Int)]).length : Nat) : Int)
    rw [lastAt_push]
    cases hk : K.tasks[i]? with
    | none => rw [hk] at hy; cases hy
    | some x =>
      rw [hk] at hy
      simp only [Option.map_some, Option.some.injEq] at hy
      by_cases e : i = t
      · rw [if_pos e] at hy
        rw [← hy, if_pos (by omega), hM.turns]
        simp
      · rw [if_neg e] at hy
        rw [← hy, if_neg (by omega)]
        exact hM.pk i x hk

theorem pick_match {K : kern_Kern} {r : tappetref21_Kern} {n : Nat} (hM : Match K r n) (hn : n ≤ 64) (hp : r.Picks.length ≤ 1000) (c : Int) :
    OK (kern_Kern_Pick K c) (fun a => OK (tappetref21_Kern_Pick r c) (fun b => a.1 = b.1 ∧ a.2.1 = b.2.1 ∧ Match a.2.2 b.2.2 n ∧ b.2.2.Picks.length ≤ r.Picks.length + 1)) := by
  have hlen := hM.len
  have hrl := hM.rlen
  have htu := hM.turns
  refine (pick_law K c (by omega) (by omega)).mono (fun a ha => ?_)
  unfold tappetref21_Kern_Pick
  rw [rin_law r 1 (by omega), hM.in_]
  have hl := posn_len (modeIs K 1) K.tasks.length
  generalize hR : posn (modeIs K 1) K.tasks.length = R at *
  simp only [Option.bind_some]
  rcases ha with ⟨a1, rfl⟩ | ⟨q, t, a1, a2, a3, rfl⟩
  · exact OK.ite_true (by rw [a1]; rfl) (OK.ret ⟨rfl, rfl, hM, by simp⟩)
  · have hL := (List.getElem?_eq_some_iff.1 a2).1
    have h0 : (R.length : Int) ≠ 0 := by omega
    refine OK.ite_false (beq_eq_false_iff_ne.2 h0) (OK.bind (OK.isNz h0 ?_))
    have hlow : -(R.length : Int) < c.tmod (R.length : Int) := by
      have := Int.tmod_lt_of_pos (-c) (b := (R.length : Int)) (by omega)
      rw [Int.neg_tmod] at this
      omega
    have hhi : c.tmod (R.length : Int) < (R.length : Int) := Int.tmod_lt_of_pos c (by omega)
    have he : (c.tmod (R.length : Int)) % (R.length : Int) = c % (R.length : Int) := by
      have h1 := Int.tmod_add_mul_tdiv c (R.length : Int)
      have h2 := Int.add_mul_emod_self_left (c.tmod (R.length : Int)) (R.length : Int) (c.tdiv (R.length : Int))
      rw [h1] at h2
      exact h2.symm
    refine OK.bind2 (R := fun o => o = (q : Int)) ?_ ?_
    · refine OK.ite (fun h => OK.ret ?_) (fun h => OK.ret ?_)
      · simp at h
        rw [w64_eq (by omega) (by omega), a1, ← he]
        have := Int.emod_eq_of_lt (a := c.tmod (R.length : Int) + (R.length : Int)) (b := (R.length : Int)) (by omega) (by omega)
        rw [Int.add_emod_right] at this
        omega
      · simp at h
        rw [a1, ← he]
        exact (Int.emod_eq_of_lt h hhi).symm
    rintro o rfl
    refine OK.bind (OK.getN hL (fun x hx => ?_))
    rw [a2] at hx
    cases hx
    refine OK.bind (OK.hasRoom (by simp; omega) (OK.ret ⟨rfl, rfl, took_match hM (by omega), by simp⟩))

theorem fair_match {K : kern_Kern} {r : tappetref21_Kern} {n : Nat} (fu : Nat) (hfu : 2000 ≤ fu) (hM : Match K r n) (hn : n ≤ 64) (hp : r.Picks.length ≤ 1000) :
    OK (kern_Kern_Fair K) (fun a => OK (tappetref21_Kern_Fair fu r) (fun b => a.1 = b.1 ∧ a.2.1 = b.2.1 ∧ Match a.2.2 b.2.2 n ∧ b.2.2.Picks.length ≤ r.Picks.length + 1)) := by
  have hlen := hM.len
  have hrl := hM.rlen
  have htu := hM.turns
  refine (fair_law K (by omega) (by omega)).mono (fun a ha => ?_)
  unfold tappetref21_Kern_Fair
  rw [rin_law r 1 (by omega), hM.in_]
  have hl := posn_len (modeIs K 1) K.tasks.length
  simp only [Option.bind_some]
  rcases ha with ⟨a1, rfl⟩ | ⟨t, x, a1, a2, a3, rfl⟩
  · rw [a1]
    exact OK.ite_true rfl (OK.ret ⟨rfl, rfl, hM, by simp⟩)
  have htl := (List.getElem?_eq_some_iff.1 a1).1
  have htm : (t : Int) ∈ posn (modeIs K 1) K.tasks.length := mem_posn.2 ⟨t, htl, modeIs_iff.2 ⟨x, a1, a2⟩, rfl⟩
  have hpos := List.length_pos_of_mem htm
  refine OK.ite_false (beq_eq_false_iff_ne.2 (by omega)) ?_
  -- the last place of each, by a loop that goes back
  have last : ∀ (i : Nat) (z : Int), (posn (modeIs K 1) K.tasks.length)[i]? = some z → OK (loop (tappetref21_Kern_Fair_l2 r (posn (modeIs K 1) K.tasks.length) i) fu (0, (((r.Picks).length) : Int))) (fun o => o = (lastAt r.Picks z r.Picks.length : Int)) := by
    intro i z hz
    have hil := (List.getElem?_eq_some_iff.1 hz).1
    refine OK.rounds (fun s => 0 ≤ s.2 ∧ s.2 ≤ (r.Picks.length : Int) ∧ (s.1 = 0 → lastAt r.Picks z r.Picks.length = lastAt r.Picks z s.2.toNat) ∧ (s.1 ≠ 0 → s.1 = (lastAt r.Picks z r.Picks.length : Int))) (fun s => s.2.toNat) ?_ fu _ ⟨by simp, by simp, fun _ => by simp, fun h => absurd rfl h⟩ (by simp; omega)
    intro s again hs k
    obtain ⟨s0, s1, s2, s3⟩ := hs
    unfold tappetref21_Kern_Fair_l2
    refine OK.ite (fun h => ?_) (fun h => OK.ret ?_)
    · have h' : 0 < s.2 ∧ s.1 = 0 := by simpa using h
      have e1 : w64 (s.2 - 1) = s.2 - 1 := w64_eq (by omega) (by omega)
      have e2 : s.2.toNat = (s.2 - 1).toNat + 1 := by omega
      have hla := s2 h'.2
      rw [e2, show lastAt r.Picks z ((s.2 - 1).toNat + 1) = if r.Picks[(s.2 - 1).toNat]? = some z then (s.2 - 1).toNat + 1 else lastAt r.Picks z (s.2 - 1).toNat from rfl] at hla
      rw [e1]
      refine OK.bind (OK.get (by omega) (by omega) (fun y hy => OK.bind (OK.getN hil (fun z' hz' => ?_))))
      rw [hz] at hz'
      cases hz'
      refine OK.ite (fun hyz => ?_) (fun hyz => ?_)
      · have hyz : y = z := by simpa using hyz
        rw [hyz] at hy
        rw [if_pos hy] at hla
        refine k _ ⟨by show 0 ≤ s.2 - 1; omega, by show s.2 - 1 ≤ _; omega, fun h0 => ?_, fun _ => ?_⟩ ?_
        · exfalso
          have : s.2 = 0 := h0
          omega
        · show s.2 = _
          rw [hla]; omega
        · show (s.2 - 1).toNat < s.2.toNat; omega
      · have hyz : y ≠ z := by simpa using hyz
        rw [if_neg (by rw [hy]; exact fun e => hyz (Option.some.inj e))] at hla
        refine k _ ⟨by show 0 ≤ s.2 - 1; omega, by show s.2 - 1 ≤ _; omega, fun _ => hla, fun h0 => absurd h'.2 h0⟩ ?_
        show (s.2 - 1).toNat < s.2.toNat; omega
    · by_cases h1 : s.1 = 0
      · have : ¬ (0 < s.2) := fun h2 => by
          have : (decide (s.2 > 0) && (s.1 == 0)) = true := by simp [h1]; omega
          rw [h] at this
          cases this
        have e : s.2.toNat = 0 := by omega
        rw [h1, s2 h1, e]
        rfl
      · exact s3 h1
  refine OK.bind2 (R := fun o => o = (t : Int)) ?_ ?_
  · refine OK.count (fun i s => i = 0 ∨ ∃ (a q : Nat), a < i ∧ (posn (modeIs K 1) K.tasks.length)[a]? = some (q : Int) ∧ s.1 = (q : Int) ∧ s.2 = (lastAt r.Picks (q : Int) r.Picks.length : Int) ∧
        (∀ (b j : Nat), b < i → (posn (modeIs K 1) K.tasks.length)[b]? = some (j : Int) → lastAt r.Picks (q : Int) r.Picks.length < lastAt r.Picks (j : Int) r.Picks.length ∨ lastAt r.Picks (q : Int) r.Picks.length = lastAt r.Picks (j : Int) r.Picks.length ∧ a ≤ b)) (.inl rfl) ?_ ?_
    · intro i s again hi hs k
      have hz := List.getElem?_eq_getElem hi
      obtain ⟨q, q1, q2, q3⟩ := posn_at hz
      rw [q3] at hz
      unfold tappetref21_Kern_Fair_l1
      refine OK.bind2 (last i q hz) ?_
      rintro o rfl
      refine OK.ite (fun h => ?_) (fun h => ?_)
      · refine OK.bind (OK.getN hi (fun z hz' => ?_))
        rw [hz] at hz'
        cases hz'
        refine k _ (.inr ⟨i, q, by omega, hz, rfl, rfl, fun b j hb hj => ?_⟩)
        by_cases e : b = i
        · subst e
          rw [hz] at hj
          have : q = j := by have := Option.some.inj hj; omega
          subst this
          exact .inr ⟨rfl, by omega⟩
        · rcases hs with hs | ⟨a, q', s1, s2, s3, s4, s5⟩
          · omega
          · have := s5 b j (by omega) hj
            have h2 : i = 0 ∨ (lastAt r.Picks (q : Int) r.Picks.length : Int) < s.2 := by
              simpa using h
            rw [s4] at h2
            omega
      · have h2 : ¬ (i = 0) ∧ ¬ ((lastAt r.Picks (q : Int) r.Picks.length : Int) < s.2) := by
          have : ¬ (i = 0 ∨ (lastAt r.Picks (q : Int) r.Picks.length : Int) < s.2) := fun e => by
            have : (((i : Int) == 0) || decide ((lastAt r.Picks (q : Int) r.Picks.length : Int) < s.2)) = true := by
              rcases e with e | e <;> simp [e]
            rw [h] at this
            cases this
          omega
        rcases hs with hs | ⟨a, q', s1, s2, s3, s4, s5⟩
        · omega
        · refine k _ (.inr ⟨a, q', by omega, s2, s3, s4, fun b j hb hj => ?_⟩)
          by_cases e : b = i
          · subst e
            rw [hz] at hj
            have : q = j := by have := Option.some.inj hj; omega
            subst this
            rw [s4] at h2
            omega
          · exact s5 b j (by omega) hj
    · intro s hs
      rcases hs with hs | ⟨a, q, s1, s2, s3, s4, s5⟩
      · omega
      rw [s3]
      obtain ⟨q', q1, q2, q3⟩ := posn_at s2
      have : q = q' := by omega
      subst this
      obtain ⟨y, y1, y2⟩ := modeIs_iff.1 q2
      have h1 := a3 q y y1 y2
      obtain ⟨b, hb⟩ := List.mem_iff_getElem?.1 htm
      have h2 := s5 b t (List.getElem?_eq_some_iff.1 hb).1 hb
      rw [hM.pk q y y1, hM.pk t x a1] at h1
      rcases h2 with h2 | ⟨h2, h3⟩
      · omega
      · have := posn_mono s2 hb h3
        omega
  rintro o rfl
  exact OK.bind (OK.hasRoom (by simp; omega) (OK.ret ⟨rfl, rfl, took_match hM (by omega), by simp⟩))

theorem ints_law (a : List Int) : tappetlaw21_ints a a = some true := by
  refine OK.is ?_
  unfold tappetlaw21_ints
  refine OK.ite_false (by simp) ?_
  refine OK.bind2 (R := fun o => o = .inl ()) ?_ (fun o ho => by subst ho; exact OK.ret rfl)
  refine OK.count (fun _ _ => True) trivial ?_ (fun s _ => rfl)
  intro i s again hi _ k
  unfold tappetlaw21_ints_l1
  refine OK.bind (OK.getN hi (fun x hx => OK.bind (OK.getN hi (fun y hy => ?_))))
  rw [hx] at hy
  cases hy
  exact OK.ite_false (by simp) (k _ trivial)

theorem named2 {K : kern_Kern} {m : Int} {ts : List Int} {Q : Int × kern_Kern → Prop} (h : OK (kern_Kern_turn K m ts) Q) : OK ((kern_Kern_turn K m ts).bind fun r15 => some (r15.1, r15.2)) Q := by
  obtain ⟨r, h, hq⟩ := h
  exact ⟨r, by rw [h]; rfl, hq⟩

theorem kernPlays_true (p0 : Int) (p1 : List tappetlaw21_Op) (g0 : (Lit.int .i64 p0).wf = true) (g1 : p1.length * 64 ≤ reachBytes ∧ ∀ y22 ∈ p1, G_tappetlaw21_Op y22) : ∃ fu, tappetlaw21_KernPlays fu p0 p1 = some true := by
  refine ⟨2000, OK.is ?_⟩
  unfold tappetlaw21_KernPlays
  rw [awake_law]
  refine OK.bind (OK.ret (OK.ite_false rfl ?_))
  rcases new_law p0 with ⟨h, e⟩ | ⟨h, e⟩
  · rw [e]
    refine OK.bind (OK.ret (OK.none_ (OK.ite_true (by simp; omega) (OK.ret rfl))))
  rw [e]
  refine OK.bind (OK.ret (OK.some_ (OK.ite_false (by simp; omega) (OK.ite_false rfl ?_))))
  refine OK.bind (OK.mkl (by omega) (by omega) ?_)
  have hn0 := kern0_len p0.toNat
  generalize hn : p0.toNat = n at *
  have hn64 : n ≤ 64 := by omega
  have hM0 : Match (kern0 n) (tappetref21_Kern.mk (List.replicate n 0) []) n := by
    refine ⟨hn0, by simp, rfl, fun i t ht => ?_, fun i t ht => ?_⟩
    · rw [kern0_at] at ht
      by_cases hi : i < n
      · rw [if_pos hi] at ht
        cases ht
        simp [hi]
      · rw [if_neg hi] at ht; cases ht
    · rw [kern0_at] at ht
      by_cases hi : i < n
      · rw [if_pos hi] at ht
        cases ht
        rfl
      · rw [if_neg hi] at ht; cases ht
  refine OK.bind2 (R := fun o => o = .inl ()) ?_ (fun o ho => by subst ho; exact OK.ret rfl)
  refine OK.rounds (fun s => Match s.1 s.2.1 n ∧ 0 ≤ s.2.2 ∧ (s.2.1.Picks.length : Int) ≤ s.2.2 ∧ s.2.2 ≤ 300) (fun s => (300 - s.2.2).toNat) ?_ 2000 _ ⟨hM0, by simp, by simp, by simp⟩ (by simp)
  intro s again hs k
  obtain ⟨hM, s0, s1, s2⟩ := hs
  unfold tappetlaw21_KernPlays_l1
  refine OK.ite (fun h => ?_) (fun h => OK.ret rfl)
  have h' : s.2.2 < (p1.length : Int) ∧ s.2.2 < 300 := by simpa using h
  refine OK.bind (OK.get s0 h'.1 (fun x hx => ?_))
  have hG := g1.2 x (List.mem_of_getElem? hx)
  unfold G_tappetlaw21_Op reachBytes at hG
  refine OK.bind (OK.hasRoom (by simp; omega) ?_)
  simp only [List.nil_append]
  have e2 : w64 (s.2.2 + 1) = s.2.2 + 1 := w64_eq (by omega) (by omega)
  refine OK.bind2 (R := fun o => Match o.1 o.2.1 n ∧ o.2.2 = true ∧ (o.2.1.Picks.length : Int) ≤ s.2.2 + 1) ?_ ?_
  · have turn : ∀ m, OK (kern_Kern_turn s.1 m x.Tasks) (fun a => OK ((tappetref21_Kern_Turn s.2.1 m x.Tasks).bind fun b => some (a.2, b.2, (a.1 == b.1))) (fun o => Match o.1 o.2.1 n ∧ o.2.2 = true ∧ (o.2.1.Picks.length : Int) ≤ s.2.2 + 1)) := by
      intro m
      refine (turn_match hM m x.Tasks).mono (fun a ha => OK.bind2 ha ?_)
      rintro b ⟨b1, b2, b3⟩
      exact OK.ret ⟨b2, by simp [b1], by show (b.2.Picks.length : Int) ≤ _; rw [b3]; omega⟩
    refine OK.ite (fun _ => OK.bind (named2 (turn 1))) (fun _ => ?_)
    refine OK.ite (fun _ => OK.bind (named2 (turn 0))) (fun _ => ?_)
    refine OK.ite (fun _ => OK.bind (named2 (turn 2))) (fun _ => ?_)
    refine OK.ite (fun _ => ?_) (fun _ => ?_)
    · refine OK.bind (OK.hasRoom (by simp; omega) (OK.bind ?_))
      refine (set_match hM x.Ready).mono (fun a ha => OK.bind2 ha ?_)
      rintro b ⟨b1, b2, b3⟩
      exact OK.ret ⟨b2, by simp [b1], by show (b.2.Picks.length : Int) ≤ _; rw [b3]; omega⟩
    refine OK.ite (fun _ => ?_) (fun _ => ?_)
    · refine OK.bind ((pick_match hM hn64 (by omega) x.Choice).mono (fun a ha => OK.bind2 ha ?_))
      rintro b ⟨b1, b2, b3, b4⟩
      exact OK.ite_true (by simp [b1]) (OK.ret ⟨b3, by simp [b2], by show (b.2.2.Picks.length : Int) ≤ _; omega⟩)
    · refine OK.bind ((fair_match 2000 (by omega) hM hn64 (by omega)).mono (fun a ha => OK.bind2 ha ?_))
      rintro b ⟨b1, b2, b3, b4⟩
      exact OK.ite_true (by simp [b1]) (OK.ret ⟨b3, by simp [b2], by show (b.2.2.Picks.length : Int) ≤ _; omega⟩)
  rintro o ⟨o1, o2, o3⟩
  have hlen := o1.len
  have hrl := o1.rlen
  refine OK.bind2 (R := fun q => q = false) ?_ ?_
  · refine OK.ite_false (by rw [o2]; rfl) ?_
    rw [ints_law]
    refine OK.bind (OK.ret (OK.ite_false rfl ?_))
    rw [ready_law _ (by omega), rin_law _ 1 (by omega), o1.in_]
    refine OK.bind (OK.ret (OK.bind (OK.ret ?_)))
    rw [ints_law]
    refine OK.bind (OK.ret (OK.ite_false rfl ?_))
    rw [ended_law _ (by omega), rin_law _ 2 (by omega), o1.in_]
    refine OK.bind (OK.ret (OK.bind (OK.ret ?_)))
    rw [ints_law]
    refine OK.bind (OK.ret (OK.ite_false rfl ?_))
    refine OK.bind (OK.ret (OK.ret ?_))
    rw [o1.turns]
    simp
  rintro q rfl
  refine OK.ite_false rfl (k _ ⟨o1, ?_, ?_, ?_⟩ ?_)
  · show 0 ≤ w64 (s.2.2 + 1); omega
  · show (o.2.1.Picks.length : Int) ≤ w64 (s.2.2 + 1); omega
  · show w64 (s.2.2 + 1) ≤ 300; omega
  · show (300 - w64 (s.2.2 + 1)).toNat < _; omega
end Go.Proofs.Ythljmgepekhchaa

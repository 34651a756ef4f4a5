/- What kern's functions compute, as plain laws (for KernPlays). -/
import Derived.Test.YthljmgepekhchaaPure
import Derived.Test.YthljmgepekhchaaF2
set_option linter.unusedVariables false
namespace Go.Proofs.Ythljmgepekhchaa
open Go.Sx

/-- the numbers below n that p picks, in order -/
def posn (p : Nat → Bool) (n : Nat) : List Int := ((List.range n).filter p).map (fun (i : Nat) => (i : Int))

theorem posn_zero (p : Nat → Bool) : posn p 0 = [] := rfl
theorem posn_succ (p : Nat → Bool) (n : Nat) : posn p (n + 1) = if p n then posn p n ++ [(n : Int)] else posn p n := by
  unfold posn
  rw [List.range_succ, List.filter_append, List.map_append]
  cases h : p n <;> simp [h]
theorem posn_len (p : Nat → Bool) (n : Nat) : (posn p n).length ≤ n := by
  unfold posn
  rw [List.length_map]
  exact Nat.le_trans (List.length_filter_le _ _) (by simp)
theorem mem_posn {p : Nat → Bool} {n : Nat} {x : Int} : x ∈ posn p n ↔ ∃ i, i < n ∧ p i = true ∧ x = (i : Int) := by
  unfold posn
  simp only [List.mem_map, List.mem_filter, List.mem_range]
  constructor
  · rintro ⟨a, ⟨h1, h2⟩, rfl⟩
    exact ⟨a, h1, h2, rfl⟩
  · rintro ⟨a, h1, h2, rfl⟩
    exact ⟨a, ⟨h1, h2⟩, rfl⟩
theorem posn_sorted (p : Nat → Bool) (n : Nat) : (posn p n).Pairwise (· < ·) := by
  unfold posn
  rw [List.pairwise_map]
  have h : ((List.range n).filter p).Pairwise (· < ·) := List.Pairwise.filter _ List.pairwise_lt_range
  exact h.imp (fun h => by omega)
theorem posn_mono {p : Nat → Bool} {n a b : Nat} {x y : Int} (hx : (posn p n)[a]? = some x) (hy : (posn p n)[b]? = some y) (h : a ≤ b) : x ≤ y := by
  obtain ⟨ha, rfl⟩ := List.getElem?_eq_some_iff.1 hx
  obtain ⟨hb, rfl⟩ := List.getElem?_eq_some_iff.1 hy
  rcases Nat.lt_or_ge a b with h1 | h1
  · have := List.pairwise_iff_getElem.1 (posn_sorted p n) a b ha hb h1
    omega
  · have e : a = b := by omega
    subst e
    omega
theorem posn_at {p : Nat → Bool} {n a : Nat} {x : Int} (hx : (posn p n)[a]? = some x) : ∃ i, i < n ∧ p i = true ∧ x = (i : Int) :=
  mem_posn.1 (List.mem_of_getElem? hx)

/-- task i's mode is m -/
def modeIs (K : kern_Kern) (m : Int) (i : Nat) : Bool := match K.tasks[i]? with
  | some t => t.mode_ == m
  | none => false
theorem modeIs_iff {K : kern_Kern} {m : Int} {i : Nat} : modeIs K m i = true ↔ ∃ t, K.tasks[i]? = some t ∧ t.mode_ = m := by
  unfold modeIs
  cases h : K.tasks[i]? with
  | none => simp
  | some t => simp

theorem in_law (K : kern_Kern) (m : Int) (hn : K.tasks.length ≤ 1000) : kern_Kern_in K m = some (posn (modeIs K m) K.tasks.length) := by
  refine OK.is ?_
  unfold kern_Kern_in
  refine OK.bind2 (R := fun y => y = posn (modeIs K m) K.tasks.length) ?_ (fun x hx => OK.ret hx)
  refine OK.count (fun i s => s = posn (modeIs K m) i) rfl ?_ (fun s h => h)
  intro i s again hi hs k
  subst hs
  unfold kern_Kern_in_l1
  refine OK.bind (OK.getN hi (fun x hx => ?_))
  have hm : modeIs K m i = (x.mode_ == m) := by unfold modeIs; rw [hx]
  refine OK.ite (fun h => ?_) (fun h => ?_)
  · have := posn_len (modeIs K m) i
    refine OK.bind (OK.hasRoom ?_ ?_)
    · simp; omega
    · exact k _ (by rw [posn_succ, hm, if_pos h])
  · exact k _ (by rw [posn_succ, hm, h]; rfl)

theorem ready_law (K : kern_Kern) (hn : K.tasks.length ≤ 1000) : kern_Kern_Ready K = some (posn (modeIs K 1) K.tasks.length) := by
  unfold kern_Kern_Ready
  rw [in_law K 1 hn]
  rfl
theorem ended_law (K : kern_Kern) (hn : K.tasks.length ≤ 1000) : kern_Kern_Ended K = some (posn (modeIs K 2) K.tasks.length) := by
  unfold kern_Kern_Ended
  rw [in_law K 2 hn]
  rfl

/-- the tasks that ts names get mode m -/
structure Turned (K K' : kern_Kern) (m : Int) (ts : List Int) : Prop where
  turns : K'.turns = K.turns
  len : K'.tasks.length = K.tasks.length
  at_ : ∀ k : Nat, K'.tasks[k]? = (K.tasks[k]?).map (fun t => if (k : Int) ∈ ts then kern_task.mk m t.picked else t)

theorem turn_law (K : kern_Kern) (m : Int) (ts : List Int) : OK (kern_Kern_turn K m ts) (fun r =>
    (r.1 = 0 ∧ (∀ x ∈ ts, 0 ≤ x ∧ x < K.tasks.length ∧ modeIs K 2 x.toNat = false) ∧ Turned K r.2 m ts) ∨
    (r = (2, K) ∧ ∃ x ∈ ts, ¬ (0 ≤ x ∧ x < K.tasks.length)) ∨
    (r = (43, K) ∧ (∀ x ∈ ts, 0 ≤ x ∧ x < K.tasks.length) ∧ ∃ x ∈ ts, modeIs K 2 x.toNat = true)) := by
  unfold kern_Kern_turn
  refine OK.bind2 (R := fun o => match o with
    | .inl _ => ∀ x ∈ ts, 0 ≤ x ∧ x < K.tasks.length
    | .inr r => r = (2, K) ∧ ∃ x ∈ ts, ¬ (0 ≤ x ∧ x < K.tasks.length)) ?_ ?_
  · refine OK.count (fun i s => ∀ j x, j < i → ts[j]? = some x → 0 ≤ x ∧ x < K.tasks.length) (fun j x h => by omega) ?_ ?_
    · intro i s again hi hs k
      unfold kern_Kern_turn_l1
      refine OK.bind (OK.getN hi (fun x hx => ?_))
      refine OK.ite (fun h => ?_) (fun h => ?_)
      · refine OK.ret ⟨rfl, x, List.mem_of_getElem? hx, ?_⟩
        simp at h
        omega
      · refine k _ ?_
        intro j y hj hy
        by_cases e : j = i
        · subst e
          rw [hx] at hy
          cases hy
          simp at h
          omega
        · exact hs j y (by omega) hy
    · intro s h x hx
      obtain ⟨j, hj⟩ := List.mem_iff_getElem?.1 hx
      exact h j x ((List.getElem?_eq_some_iff.1 hj).1) hj
  · rintro (⟨⟩ | r) h
    rotate_left
    · obtain ⟨rfl, x, hx, hn⟩ := h
      exact OK.ret (.inr (.inl ⟨rfl, x, hx, hn⟩))
    refine OK.bind2 (R := fun o => match o with
      | .inl _ => ∀ x ∈ ts, modeIs K 2 x.toNat = false
      | .inr r => r = (43, K) ∧ ∃ x ∈ ts, modeIs K 2 x.toNat = true) ?_ ?_
    · refine OK.count (fun i s => ∀ j x, j < i → ts[j]? = some x → modeIs K 2 x.toNat = false) (fun j x h => by omega) ?_ ?_
      · intro i s again hi hs k
        unfold kern_Kern_turn_l2
        refine OK.bind (OK.getN hi (fun x hx => ?_))
        have hr := h x (List.mem_of_getElem? hx)
        refine OK.bind (OK.get hr.1 hr.2 (fun y hy => ?_))
        have hm : modeIs K 2 x.toNat = (y.mode_ == 2) := by unfold modeIs; rw [hy]
        refine OK.ite (fun h => ?_) (fun h => ?_)
        · exact OK.ret ⟨rfl, x, List.mem_of_getElem? hx, hm.trans h⟩
        · refine k _ ?_
          intro j z hj hz
          by_cases e : j = i
          · subst e
            rw [hx] at hz
            cases hz
            exact hm.trans h
          · exact hs j z (by omega) hz
      · intro s h x hx
        obtain ⟨j, hj⟩ := List.mem_iff_getElem?.1 hx
        exact h j x ((List.getElem?_eq_some_iff.1 hj).1) hj
    · rintro (⟨⟩ | r) h2
      rotate_left
      · obtain ⟨rfl, x, hx, hn⟩ := h2
        exact OK.ret (.inr (.inr ⟨rfl, h, x, hx, hn⟩))
      refine OK.bind2 (R := fun s => s.length = K.tasks.length ∧ ∀ k : Nat, s[k]? = (K.tasks[k]?).map (fun t => if (k : Int) ∈ ts then kern_task.mk m t.picked else t)) ?_ ?_
      · refine OK.count (fun i s => s.length = K.tasks.length ∧ ∀ k : Nat, s[k]? = (K.tasks[k]?).map (fun t => if (k : Int) ∈ ts.take i then kern_task.mk m t.picked else t)) ⟨rfl, fun k => ?_⟩ ?_ ?_
        · simp
        · intro i s again hi hs k
          unfold kern_Kern_turn_l3
          refine OK.bind (OK.getN hi (fun x hx => ?_))
          have hr := h x (List.mem_of_getElem? hx)
          refine OK.bind (OK.get hr.1 (by rw [hs.1]; exact hr.2) (fun y hy => ?_))
          refine k _ ⟨by rw [List.length_set]; exact hs.1, fun q => ?_⟩
          have ht : ts.take (i + 1) = ts.take i ++ [x] := by rw [List.take_add_one, hx]; rfl
          rw [ht, get_set]
          by_cases e : x.toNat = q
          · subst e
            rw [if_pos rfl, if_pos (by rw [hs.1]; omega)]
            have e1 : ((x.toNat : Nat) : Int) = x := by omega
            rw [hs.2] at hy
            cases hk : K.tasks[x.toNat]? with
            | none => rw [hk] at hy; cases hy
            | some t =>
              rw [hk] at hy
              simp only [Option.map_some, Option.some.injEq] at hy
              subst hy
              simp only [Option.map_some, e1]
              rw [if_pos (List.mem_append_right _ (List.mem_singleton.2 rfl))]
              split <;> rfl
          · rw [if_neg e, hs.2 q]
            have e1 : (q : Int) ≠ x := by omega
            simp [e1]
        · intro s hs
          refine ⟨hs.1, fun k => ?_⟩
          rw [hs.2 k, List.take_length]
      · rintro s ⟨h3, h4⟩
        exact OK.ret (.inl ⟨rfl, fun x hx => ⟨(h x hx).1, (h x hx).2, h2 x hx⟩, ⟨rfl, h3, h4⟩⟩)

/-- the pick of task t -/
def took (K : kern_Kern) (t : Nat) : kern_Kern := match K.tasks[t]? with
  | some x => kern_Kern.mk (K.tasks.set t (kern_task.mk x.mode_ (K.turns + 1))) (K.turns + 1)
  | none => K
theorem took_len (K : kern_Kern) (t : Nat) : (took K t).tasks.length = K.tasks.length := by
  unfold took
  cases K.tasks[t]? <;> simp
theorem took_turns {K : kern_Kern} {t : Nat} (h : t < K.tasks.length) : (took K t).turns = K.turns + 1 := by
  unfold took
  rw [List.getElem?_eq_getElem h]
theorem took_at {K : kern_Kern} {t : Nat} (h : t < K.tasks.length) (k : Nat) : (took K t).tasks[k]? = (K.tasks[k]?).map (fun x => if k = t then kern_task.mk x.mode_ (K.turns + 1) else x) := by
  unfold took
  rw [List.getElem?_eq_getElem h]
  simp only [get_set]
  by_cases e : t = k
  · subst e
    rw [if_pos rfl, if_pos h, List.getElem?_eq_getElem h]
    simp
  · rw [if_neg e]
    have e1 : ¬ k = t := fun x => e x.symm
    simp [e1]
theorem took_mode {K : kern_Kern} {t : Nat} (m : Int) (i : Nat) : modeIs (took K t) m i = modeIs K m i := by
  by_cases h : t < K.tasks.length
  · unfold modeIs
    rw [took_at h]
    cases K.tasks[i]? with
    | none => rfl
    | some x =>
      simp only [Option.map_some]
      split <;> rfl
  · unfold took
    rw [List.getElem?_eq_none (by omega)]

theorem take_law (K : kern_Kern) (t : Nat) (h : t < K.tasks.length) (ht : -9223372036854775808 ≤ K.turns + 1 ∧ K.turns + 1 ≤ 9223372036854775807) : kern_Kern_take K (t : Int) = some ((t : Int), true, took K t) := by
  refine OK.is ?_
  unfold kern_Kern_take
  refine OK.bind (OK.getN h (fun x hx => OK.ret ?_))
  rw [w64_eq ht.1 ht.2]
  unfold took
  rw [hx]
  simp

/-- the pick by a number -/
theorem pick_law (K : kern_Kern) (c : Int) (hn : K.tasks.length ≤ 1000) (ht : -9223372036854775808 ≤ K.turns + 1 ∧ K.turns + 1 ≤ 9223372036854775807) :
    OK (kern_Kern_Pick K c) (fun r => (posn (modeIs K 1) K.tasks.length = [] ∧ r = (0, false, K)) ∨
      ∃ (a t : Nat), (a : Int) = c % ((posn (modeIs K 1) K.tasks.length).length : Int) ∧ (posn (modeIs K 1) K.tasks.length)[a]? = some (t : Int) ∧ t < K.tasks.length ∧ r = ((t : Int), true, took K t)) := by
  unfold kern_Kern_Pick
  rw [ready_law K hn]
  have hl := posn_len (modeIs K 1) K.tasks.length
  generalize hR : posn (modeIs K 1) K.tasks.length = R at *
  simp only [Option.bind_some]
  refine OK.ite (fun h => ?_) (fun h => ?_)
  · refine OK.ret (.inl ⟨?_, rfl⟩)
    cases R with
    | nil => rfl
    | cons a b => simp at h; omega
  · have h0 : (R.length : Int) ≠ 0 := by simpa using h
    have hlow : -(R.length : Int) < c.tmod (R.length : Int) := by
      have := Int.tmod_lt_of_pos (-c) (b := (R.length : Int)) (by omega)
      rw [Int.neg_tmod] at this
      omega
    have hhi : c.tmod (R.length : Int) < (R.length : Int) := Int.tmod_lt_of_pos c (by omega)
    have he : (c.tmod (R.length : Int)) % (R.length : Int) = c % (R.length : Int) := by
      have h1 := Int.tmod_add_mul_tdiv c (R.length : Int)
      have h2 := Int.add_mul_emod_self_left (c.tmod (R.length : Int)) (R.length : Int) (c.tdiv (R.length : Int))
      rw [h1] at h2
      exact h2.symm
    refine OK.bind (OK.isNz h0 ?_)
    refine OK.bind2 (R := fun o => 0 ≤ o ∧ o < (R.length : Int) ∧ (o = c.tmod (R.length : Int) ∨ o = c.tmod (R.length : Int) + (R.length : Int) ∧ c.tmod (R.length : Int) < 0)) ?_ ?_
    · refine OK.ite (fun h => ?_) (fun h => ?_)
      · simp at h
        refine OK.ret ?_
        rw [w64_eq (by omega) (by omega)]
        omega
      · simp at h
        refine OK.ret ?_
        omega
    · rintro o ⟨o0, o1, o2⟩
      refine OK.bind (OK.get o0 o1 (fun x hx => ?_))
      rw [← hR] at hx
      obtain ⟨t, t1, t2, rfl⟩ := posn_at hx
      rw [take_law K t t1 ht]
      refine OK.ret (.inr ⟨o.toNat, t, ?_, ?_, t1, rfl⟩)
      · have e1 : o % (R.length : Int) = c % (R.length : Int) := by
          rcases o2 with rfl | ⟨rfl, _⟩
          · exact he
          · rw [Int.add_emod_right]; exact he
        have e2 := Int.emod_eq_of_lt o0 o1
        omega
      · rw [hR] at hx; exact hx

/-- the fair pick -/
theorem fair_law (K : kern_Kern) (hn : K.tasks.length ≤ 1000) (ht : -9223372036854775808 ≤ K.turns + 1 ∧ K.turns + 1 ≤ 9223372036854775807) :
    OK (kern_Kern_Fair K) (fun r => (posn (modeIs K 1) K.tasks.length = [] ∧ r = (0, false, K)) ∨
      ∃ (t : Nat) (x : kern_task), K.tasks[t]? = some x ∧ x.mode_ = 1 ∧ (∀ (j : Nat) (y : kern_task), K.tasks[j]? = some y → y.mode_ = 1 → x.picked < y.picked ∨ x.picked = y.picked ∧ t ≤ j) ∧ r = ((t : Int), true, took K t)) := by
  unfold kern_Kern_Fair
  rw [ready_law K hn]
  simp only [Option.bind_some]
  refine OK.bind2 (R := fun o => (o.2 = false ∧ posn (modeIs K 1) K.tasks.length = []) ∨ (o.2 = true ∧ ∃ (t : Nat) (x : kern_task), o.1 = (t : Int) ∧ K.tasks[t]? = some x ∧ x.mode_ = 1 ∧ (∀ (j : Nat) (y : kern_task), K.tasks[j]? = some y → y.mode_ = 1 → x.picked < y.picked ∨ x.picked = y.picked ∧ t ≤ j))) ?_ ?_
  · refine OK.count (fun i s => (i = 0 ∧ s.2 = false) ∨ (0 < i ∧ s.2 = true ∧ ∃ (a t : Nat) (x : kern_task), a < i ∧ (posn (modeIs K 1) K.tasks.length)[a]? = some (t : Int) ∧ s.1 = (t : Int) ∧ K.tasks[t]? = some x ∧
        (∀ (b j : Nat) (y : kern_task), b < i → (posn (modeIs K 1) K.tasks.length)[b]? = some (j : Int) → K.tasks[j]? = some y → x.picked < y.picked ∨ x.picked = y.picked ∧ a ≤ b))) (.inl ⟨rfl, rfl⟩) ?_ ?_
    · intro i s again hi hs k
      unfold kern_Kern_Fair_l1
      refine OK.bind (OK.getN hi (fun z hz => ?_))
      obtain ⟨q, q1, q2, rfl⟩ := posn_at hz
      obtain ⟨tq, tq1, tq2⟩ := modeIs_iff.1 q2
      have first : i = 0 → OK (again ((q : Int), true)) _ := fun e => k ((q : Int), true) (.inr ⟨by omega, rfl, i, q, tq, by omega, hz, rfl, tq1, fun b j y hb hj hy => by
          subst e
          have : b = 0 := by omega
          subst this
          rw [hz] at hj
          have : q = j := by have := Option.some.inj hj; omega
          subst this
          rw [tq1] at hy
          cases hy
          exact .inr ⟨rfl, by omega⟩⟩)
      rcases hs with ⟨e, hs⟩ | ⟨hp, hs, a, t, x, ha, hat, hst, hx, hmin⟩
      · refine OK.bind2 (R := fun o => o = true) (OK.ite_true (by rw [hs]; rfl) (OK.ret rfl)) ?_
        rintro o rfl
        exact first e
      · have htn : t < K.tasks.length := (List.getElem?_eq_some_iff.1 hx).1
        refine OK.bind2 (R := fun o => o = decide (tq.picked < x.picked)) (OK.ite_false (by rw [hs]; rfl) ?_) ?_
        · refine OK.bind (OK.getN q1 (fun y hy => ?_))
          rw [tq1] at hy
          cases hy
          rw [hst]
          refine OK.bind (OK.getN htn (fun y hy => ?_))
          rw [hx] at hy
          cases hy
          exact OK.ret rfl
        · rintro o rfl
          refine OK.ite (fun h => ?_) (fun h => ?_)
          · refine k _ (.inr ⟨by omega, rfl, i, q, tq, by omega, hz, rfl, tq1, fun b j y hb hj hy => ?_⟩)
            simp at h
            by_cases e : b = i
            · subst e
              rw [hz] at hj
              have : q = j := by have := Option.some.inj hj; omega
              subst this
              rw [tq1] at hy
              cases hy
              exact .inr ⟨rfl, by omega⟩
            · have := hmin b j y (by omega) hj hy
              omega
          · refine k _ (.inr ⟨by omega, hs, a, t, x, by omega, hat, hst, hx, fun b j y hb hj hy => ?_⟩)
            simp at h
            by_cases e : b = i
            · subst e
              rw [hz] at hj
              have : q = j := by have := Option.some.inj hj; omega
              subst this
              rw [tq1] at hy
              cases hy
              omega
            · exact hmin b j y (by omega) hj hy
    · intro s hs
      rcases hs with ⟨e, hs⟩ | ⟨hp, hs, a, t, x, ha, hat, hst, hx, hmin⟩
      · exact .inl ⟨hs, List.length_eq_zero_iff.1 e⟩
      · refine .inr ⟨hs, t, x, hst, hx, ?_, ?_⟩
        · obtain ⟨i, i1, i2, i3⟩ := posn_at hat
          have : t = i := by omega
          subst this
          obtain ⟨y, y1, y2⟩ := modeIs_iff.1 i2
          rw [hx] at y1
          cases y1
          exact y2
        · intro j y hy hm
          have hj : (j : Int) ∈ posn (modeIs K 1) K.tasks.length := mem_posn.2 ⟨j, (List.getElem?_eq_some_iff.1 hy).1, modeIs_iff.2 ⟨y, hy, hm⟩, rfl⟩
          obtain ⟨b, hb⟩ := List.mem_iff_getElem?.1 hj
          have h1 := hmin b j y (List.getElem?_eq_some_iff.1 hb).1 hb hy
          rcases h1 with h1 | ⟨h1, h2⟩
          · exact .inl h1
          · have := posn_mono hat hb h2
            exact .inr ⟨h1, by omega⟩
  · rintro o (⟨h1, h2⟩ | ⟨h1, t, x, h2, h3, h4, h5⟩)
    · exact OK.ite_true (by rw [h1]; rfl) (OK.ret (.inl ⟨h2, rfl⟩))
    · refine OK.ite_false (by rw [h1]; rfl) ?_
      rw [h2, take_law K t (List.getElem?_eq_some_iff.1 h3).1 ht]
      exact OK.ret (.inr ⟨t, x, h3, h4, h5, rfl⟩)
theorem awake_law : tappetlaw21_awake = some true := by decide

/-- the new kernel -/
def kern0 (n : Nat) : kern_Kern := kern_Kern.mk (List.replicate n (kern_task.mk 0 0)) 0
theorem new_law (p0 : Int) : (p0 < 1 ∨ p0 > 64) ∧ kern_New p0 = some (none, 2) ∨ (1 ≤ p0 ∧ p0 ≤ 64) ∧ kern_New p0 = some (some (kern0 p0.toNat), 0) := by
  unfold kern_New
  by_cases h : p0 < 1 ∨ p0 > 64
  · exact .inl ⟨h, by rw [if_pos (by simpa using h)]⟩
  · refine .inr ⟨by omega, ?_⟩
    rw [if_neg (by simpa using h)]
    unfold mkLen
    rw [if_pos ⟨by omega, by omega⟩]
    rfl

/-- the first list says of each task whether it is ready -/
structure SetTo (K K' : kern_Kern) (w : List Bool) : Prop where
  turns : K'.turns = K.turns
  len : K'.tasks.length = K.tasks.length
  at_ : ∀ k : Nat, K'.tasks[k]? = (K.tasks[k]?).map (fun t => if t.mode_ == 2 then t else kern_task.mk (if w[k]? = some true then 1 else 0) t.picked)

theorem set_law (K : kern_Kern) (w : List Bool) : OK (kern_Kern_Set K w) (fun r =>
    (w.length ≠ K.tasks.length ∧ r = (2, K)) ∨ (w.length = K.tasks.length ∧ r.1 = 0 ∧ SetTo K r.2 w)) := by
  unfold kern_Kern_Set
  refine OK.ite (fun h => ?_) (fun h => ?_)
  · refine OK.ret (.inl ⟨?_, rfl⟩)
    simp at h
    omega
  · have hl : w.length = K.tasks.length := by simp at h; omega
    refine OK.bind2 (R := fun s => s.length = K.tasks.length ∧ ∀ k : Nat, s[k]? = (K.tasks[k]?).map (fun t => if t.mode_ == 2 then t else kern_task.mk (if w[k]? = some true then 1 else 0) t.picked)) ?_ ?_
    · refine OK.count (fun i s => s.length = K.tasks.length ∧ (∀ k : Nat, k < i → s[k]? = (K.tasks[k]?).map (fun t => if t.mode_ == 2 then t else kern_task.mk (if w[k]? = some true then 1 else 0) t.picked)) ∧ ∀ k : Nat, i ≤ k → s[k]? = K.tasks[k]?) ⟨rfl, fun k h => by omega, fun k h => rfl⟩ ?_ ?_
      · intro i s again hi hs k
        unfold kern_Kern_Set_l1
        refine OK.bind (OK.getN hi (fun b hb => ?_))
        refine OK.bind (OK.getN (by rw [hs.1]; omega) (fun t ht => ?_))
        have ht0 : K.tasks[i]? = some t := by rw [← hs.2.2 i (by omega)]; exact ht
        have upd : ∀ m : Int, (t.mode_ == 2) = false → m = (if w[i]? = some true then 1 else 0) → OK (again (s.set (Int.toNat (i : Int)) (kern_task.mk m t.picked))) (fun s => s.length = K.tasks.length ∧ ∀ k : Nat, s[k]? = (K.tasks[k]?).map (fun t => if t.mode_ == 2 then t else kern_task.mk (if w[k]? = some true then 1 else 0) t.picked)) := by
          intro m h2 hm
          have e0 : Int.toNat (i : Int) = i := by omega
          rw [e0]
          refine k _ ⟨by rw [List.length_set]; exact hs.1, fun j hj => ?_, fun j hj => ?_⟩
          · rw [get_set]
            by_cases e : i = j
            · subst e
              rw [if_pos rfl, if_pos (by rw [hs.1]; omega), ht0]
              simp only [Option.map_some, h2, hm]
              rfl
            · rw [if_neg e]
              exact hs.2.1 j (by omega)
          · rw [get_set, if_neg (by omega)]
            exact hs.2.2 j (by omega)
        refine OK.ite (fun h2 => ?_) (fun h2 => ?_)
        · refine k _ ⟨hs.1, fun j hj => ?_, fun j hj => hs.2.2 j (by omega)⟩
          by_cases e : j = i
          · subst e
            rw [ht, ht0]
            simp only [Option.map_some, h2, if_true]
          · exact hs.2.1 j (by omega)
        · refine OK.ite (fun h3 => ?_) (fun h3 => ?_)
          · exact upd 1 h2 (by rw [hb, h3, if_pos rfl])
          · exact upd 0 h2 (by rw [hb, h3, if_neg (by simp)])
      · intro s hs
        refine ⟨hs.1, fun j => ?_⟩
        by_cases hj : j < w.length
        · exact hs.2.1 j hj
        · rw [hs.2.2 j (by omega), List.getElem?_eq_none (by omega)]
          rfl
    · rintro s ⟨h1, h2⟩
      exact OK.ret (.inr ⟨hl, rfl, rfl, h1, h2⟩)

theorem kern0_len (n : Nat) : (kern0 n).tasks.length = n := by simp [kern0]
theorem kern0_at (n k : Nat) : (kern0 n).tasks[k]? = if k < n then some (kern_task.mk 0 0) else none := by
  simp [kern0, List.getElem?_replicate]

/-- who is ready by the wish -/
def wish (w : List Bool) (i : Nat) : Bool := w[i]? == some true
theorem set0_mode {n : Nat} {K : kern_Kern} {w : List Bool} (h : SetTo (kern0 n) K w) (hw : w.length = n) (i : Nat) : modeIs K 1 i = wish w i := by
  unfold modeIs wish
  rw [h.at_, kern0_at]
  by_cases hi : i < n
  · rw [if_pos hi]
    simp only [Option.map_some]
    have hi' : i < w.length := by omega
    rw [List.getElem?_eq_getElem hi']
    cases w[i] <;> rfl
  · rw [if_neg hi, List.getElem?_eq_none (by omega)]
    rfl
theorem posn_congr {p q : Nat → Bool} {n : Nat} (h : ∀ i, p i = q i) : posn p n = posn q n := by
  have : p = q := funext h
  rw [this]
theorem set0_ready {n : Nat} {K : kern_Kern} {w : List Bool} (h : SetTo (kern0 n) K w) (hw : w.length = n) : posn (modeIs K 1) K.tasks.length = posn (wish w) n := by
  rw [h.len, kern0_len]
  exact posn_congr (set0_mode h hw)

theorem posn_pre (p : Nat → Bool) (i : Nat) : ∀ d, ∃ r, posn p (i + d) = posn p i ++ r := by
  intro d
  induction d with
  | zero => exact ⟨[], by simp⟩
  | succ d ih =>
    obtain ⟨r, hr⟩ := ih
    rw [← Nat.add_assoc, posn_succ, hr]
    cases p (i + d) with
    | true => exact ⟨r ++ [((i + d : Nat) : Int)], by simp⟩
    | false => exact ⟨r, by simp⟩
theorem posn_here {p : Nat → Bool} {i n : Nat} (h : i < n) (hp : p i = true) : (posn p n)[(posn p i).length]? = some (i : Int) := by
  obtain ⟨r, hr⟩ := posn_pre p (i + 1) (n - (i + 1))
  have e : i + 1 + (n - (i + 1)) = n := by omega
  rw [e, posn_succ, if_pos hp] at hr
  rw [hr]
  simp

end Go.Proofs.Ythljmgepekhchaa

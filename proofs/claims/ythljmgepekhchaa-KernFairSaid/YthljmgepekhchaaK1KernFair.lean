/- KernFair's plain law. -/
import Derived.Test.YthljmgepekhchaaK2
import Derived.Test.YthljmgepekhchaaD1
set_option linter.unusedVariables false
namespace Go.Proofs.Ythljmgepekhchaa
open Go.Sx

/-- as many tasks, no pick later than the last turn -/
structure Good (K : kern_Kern) (n : Nat) (lo hi : Int) : Prop where
  len : K.tasks.length = n
  lo : 0 ≤ K.turns
  hi : K.turns ≤ hi
  pk : ∀ (j : Nat) (y : kern_task), K.tasks[j]? = some y → y.picked ≤ K.turns

/-- the same picks -/
structure Same (K K' : kern_Kern) : Prop where
  len : K'.tasks.length = K.tasks.length
  turns : K'.turns = K.turns
  pk : ∀ j : Nat, (K'.tasks[j]?).map (·.picked) = (K.tasks[j]?).map (·.picked)
theorem Same.refl (K : kern_Kern) : Same K K := ⟨rfl, rfl, fun _ => rfl⟩
theorem Same.trans {K1 K2 K3 : kern_Kern} (h : Same K1 K2) (g : Same K2 K3) : Same K1 K3 := ⟨g.len.trans h.len, g.turns.trans h.turns, fun j => (g.pk j).trans (h.pk j)⟩
theorem Turned.same {K K' : kern_Kern} {m : Int} {ts : List Int} (h : Turned K K' m ts) : Same K K' := by
  refine ⟨h.len, h.turns, fun j => ?_⟩
  rw [h.at_]
  cases K.tasks[j]? with
  | none => rfl
  | some t =>
    simp only [Option.map_some]
    split <;> rfl
theorem Same.good {K K' : kern_Kern} {n : Nat} {lo hi : Int} (h : Same K K') (g : Good K n lo hi) : Good K' n lo hi := by
  refine ⟨h.len.trans g.len, by rw [h.turns]; exact g.lo, by rw [h.turns]; exact g.hi, fun j y hy => ?_⟩
  have := h.pk j
  rw [hy] at this
  cases hk : K.tasks[j]? with
  | none => rw [hk] at this; cases this
  | some x =>
    rw [hk] at this
    have e : y.picked = x.picked := Option.some.inj this
    rw [e, h.turns]
    exact g.pk j x hk
theorem Good.took {K : kern_Kern} {n t : Nat} {lo hi : Int} (g : Good K n lo hi) (ht : t < n) : Good (took K t) n lo (hi + 1) := by
  have htl : t < K.tasks.length := by rw [g.len]; exact ht
  have := g.lo
  have := g.hi
  refine ⟨by rw [took_len, g.len], by rw [took_turns htl]; omega, by rw [took_turns htl]; omega, fun j y hy => ?_⟩
  rw [took_at htl] at hy
  rw [took_turns htl]
  cases hk : K.tasks[j]? with
  | none => rw [hk] at hy; cases hy
  | some x =>
    rw [hk] at hy
    have e : (if j = t then kern_task.mk x.mode_ (K.turns + 1) else x) = y := Option.some.inj hy
    have := g.pk j x hk
    by_cases hj : j = t
    · rw [if_pos hj] at e
      rw [← e]
      exact Int.le_refl _
    · rw [if_neg hj] at e
      rw [← e]; omega
theorem Good.up {K : kern_Kern} {n : Nat} {lo hi hi' : Int} (g : Good K n lo hi) (h : hi ≤ hi') : Good K n lo hi' := ⟨g.len, g.lo, Int.le_trans g.hi h, g.pk⟩

/-- any turn keeps the picks -/
theorem turn_same (K : kern_Kern) (m : Int) (ts : List Int) : OK (kern_Kern_turn K m ts) (fun r => Same K r.2 ∧ ∀ i : Nat, (i : Int) ∉ ts → modeIs r.2 1 i = modeIs K 1 i) := by
  refine (turn_law K m ts).mono ?_
  rintro r (⟨_, _, h⟩ | ⟨_, h, _⟩)
  · refine ⟨h.same, fun i hi => ?_⟩
    unfold modeIs
    rw [h.at_]
    cases K.tasks[i]? with
    | none => rfl
    | some t =>
      simp only [Option.map_some]
      rw [if_neg hi]
  · rw [h]
    exact ⟨Same.refl K, fun _ _ => rfl⟩

/-- a turn's name -/
theorem named_turn {K : kern_Kern} {m : Int} {ts : List Int} {Q : Int × kern_Kern → Prop} (h : OK (kern_Kern_turn K m ts) Q) : OK ((kern_Kern_turn K m ts).bind fun r15 => some (r15.1, r15.2)) Q := by
  obtain ⟨r, h, hq⟩ := h
  exact ⟨r, by rw [h]; rfl, hq⟩

/-- j stands ahead of τ -/
def ahead (K : kern_Kern) (τ j : Nat) : Bool := match K.tasks[j]?, K.tasks[τ]? with
  | some x, some y => decide (x.picked < y.picked) || (x.picked == y.picked && decide (j < τ))
  | _, _ => false
theorem ahead_iff {K : kern_Kern} {τ j : Nat} {x y : kern_task} (hx : K.tasks[j]? = some x) (hy : K.tasks[τ]? = some y) : ahead K τ j = true ↔ x.picked < y.picked ∨ x.picked = y.picked ∧ j < τ := by
  unfold ahead
  rw [hx, hy]
  simp
theorem ahead_same {K K' : kern_Kern} (h : Same K K') (τ j : Nat) : ahead K' τ j = ahead K τ j := by
  have h1 := h.pk j
  have h2 := h.pk τ
  unfold ahead
  cases a : K.tasks[j]? <;> cases b : K'.tasks[j]? <;> rw [a, b] at h1 <;> simp at h1 <;>
    cases c : K.tasks[τ]? <;> cases d : K'.tasks[τ]? <;> rw [c, d] at h2 <;> simp at h2 <;> simp_all
theorem posn_len_le {p q : Nat → Bool} (h : ∀ j, q j = true → p j = true) : ∀ n, (posn q n).length ≤ (posn p n).length
  | 0 => Nat.le_refl _
  | n + 1 => by
    have ih := posn_len_le h n
    rw [posn_succ, posn_succ]
    cases hq : q n with
    | true => rw [h n hq]; simpa using ih
    | false =>
      cases p n with
      | true => simp; omega
      | false => simpa using ih
theorem posn_len_lt {p q : Nat → Bool} (h : ∀ j, q j = true → p j = true) {t : Nat} (hp : p t = true) (hq : q t = false) : ∀ n, t < n → (posn q n).length < (posn p n).length
  | 0, ht => by omega
  | n + 1, ht => by
    rw [posn_succ, posn_succ]
    by_cases e : t = n
    · subst e
      rw [hp, hq]
      have := posn_len_le h t
      simp
      omega
    · have ih := posn_len_lt h hp hq n (by omega)
      cases hq' : q n with
      | true => rw [h n hq']; simpa using ih
      | false =>
        cases p n with
        | true => simp; omega
        | false => simpa using ih
theorem posn_all (n : Nat) : (posn (fun _ => true) n).length = n := by
  induction n with
  | zero => rfl
  | succ n ih => rw [posn_succ]; simp [ih]

/-- a pick of one ahead: one fewer ahead -/
theorem ahead_took {K : kern_Kern} {n τ t : Nat} {lo hi : Int} (g : Good K n lo hi) (hτ : τ < n) (ht : t < n) (hne : t ≠ τ) (ha : ahead K τ t = true) : (posn (ahead (took K t) τ) n).length < (posn (ahead K τ) n).length := by
  have htl : t < K.tasks.length := by rw [g.len]; exact ht
  have hτl : τ < K.tasks.length := by rw [g.len]; exact hτ
  have e1 : (took K t).tasks[τ]? = K.tasks[τ]? := by
    rw [took_at htl, List.getElem?_eq_getElem hτl]
    simp only [Option.map_some]
    rw [if_neg (fun e => hne e.symm)]
  have e2 : (took K t).tasks[t]? = some (kern_task.mk (K.tasks[t]).mode_ (K.turns + 1)) := by
    rw [took_at htl, List.getElem?_eq_getElem htl]
    simp only [Option.map_some]
    rw [if_pos trivial]
  have hτp := g.pk τ _ (List.getElem?_eq_getElem hτl)
  have hf : ahead (took K t) τ t = false := by
    unfold ahead
    rw [e1, e2, List.getElem?_eq_getElem hτl]
    simp
    omega
  refine posn_len_lt (fun j hj => ?_) ha hf n ht
  by_cases e : j = t
  · subst e
    exact ha
  · have e3 : (took K t).tasks[j]? = K.tasks[j]? := by
      rw [took_at htl]
      cases K.tasks[j]? with
      | none => rfl
      | some x => simp only [Option.map_some]; rw [if_neg e]
    unfold ahead at hj ⊢
    rw [e1, e3] at hj
    exact hj

theorem found_law (R : List Int) (r : Int × Bool × kern_Kern) (h : r.1 ∈ R) : forN (tappetlaw21_KernFair_l3 R r) (fun (s : Bool) => s) R.length 0 false = some true := by
  refine OK.is ?_
  refine OK.count (fun i s => s = true ∨ s = false ∧ ∀ j x, j < i → R[j]? = some x → x ≠ r.1) (.inr ⟨rfl, fun j x h => by omega⟩) ?_ ?_
  · intro i s again hi hs k
    unfold tappetlaw21_KernFair_l3
    refine OK.ite (fun h => k _ (.inl rfl)) (fun h => ?_)
    rcases hs with hs | ⟨_, hs⟩
    · rw [hs] at h; cases h
    refine OK.bind (OK.getN hi (fun x hx => k _ ?_))
    by_cases e : x = r.1
    · exact .inl (by simpa using e)
    · refine .inr ⟨by simpa using e, fun j y hj hy => ?_⟩
      by_cases e2 : j = i
      · subst e2
        rw [hx] at hy
        cases hy
        exact e
      · exact hs j y (by omega) hy
  · rintro s (h1 | ⟨_, h1⟩)
    · exact h1
    · exfalso
      obtain ⟨j, hj⟩ := List.mem_iff_getElem?.1 h
      exact h1 j _ (List.getElem?_eq_some_iff.1 hj).1 hj rfl

theorem wakes_law (fu : Nat) (p1 : List tappetlaw21_Op) (τ : Nat) (s : kern_Kern × Bool × Int) (K : kern_Kern) (h0 : 0 ≤ s.2.2) (h1 : s.2.2 < p1.length) (hB : ∀ x ∈ p1, x.Tasks.length ≤ 140737488355328 ∧ x.Tasks.length < fu) :
    OK (loop (tappetlaw21_KernFair_l4 p1 (τ : Int) s) fu (K, 0)) (fun K' => Same K K' ∧ modeIs K' 1 τ = modeIs K 1 τ) := by
  have hl : s.2.2.toNat < p1.length := by omega
  have hb := hB p1[s.2.2.toNat] (List.getElem_mem hl)
  refine OK.rounds (fun q => Same K q.1 ∧ modeIs q.1 1 τ = modeIs K 1 τ ∧ 0 ≤ q.2) (fun q => (((p1[s.2.2.toNat]).Tasks.length : Int) - q.2).toNat) ?_ fu _ ⟨Same.refl K, rfl, by simp⟩ (by simp; omega)
  intro q again hs k
  obtain ⟨s1, s2, s3⟩ := hs
  unfold tappetlaw21_KernFair_l4
  refine OK.bind (OK.get h0 h1 (fun x hx => ?_))
  rw [List.getElem?_eq_getElem hl] at hx
  cases hx
  refine OK.ite (fun h => ?_) (fun h => OK.ret ⟨s1, s2⟩)
  have hlt : q.2 < (((p1[s.2.2.toNat]).Tasks.length) : Int) := by simpa using h
  have e2 : w64 (q.2 + 1) = q.2 + 1 := w64_eq (by omega) (by omega)
  refine OK.bind (OK.get s3 hlt (fun t ht => ?_))
  refine OK.ite (fun hne => ?_) (fun _ => ?_)
  · have hne' : t ≠ (τ : Int) := by simpa using hne
    refine OK.bind2 (named_turn (turn_same q.1 1 [t])) ?_
    rintro r ⟨r1, r2⟩
    refine k _ ⟨s1.trans r1, (r2 τ (by simp; omega)).trans s2, ?_⟩ ?_
    · show 0 ≤ w64 (q.2 + 1); omega
    · show (_ - w64 (q.2 + 1)).toNat < _; omega
  · refine k _ ⟨s1, s2, ?_⟩ ?_
    · show 0 ≤ w64 (q.2 + 1); omega
    · show (_ - w64 (q.2 + 1)).toNat < _; omega

theorem fair_true (fu : Nat) (p0 : Int) (p1 : List tappetlaw21_Op) (p2 : Int) (hl : p1.length ≤ 140737488355328) (hf : 1000 ≤ fu) (hB : ∀ x ∈ p1, x.Tasks.length ≤ 140737488355328 ∧ x.Tasks.length < fu) : tappetlaw21_KernFair fu p0 p1 p2 = some true := by
  refine OK.is ?_
  unfold tappetlaw21_KernFair
  rw [awake_law]
  refine OK.bind (OK.ret (OK.ite_false rfl ?_))
  rcases new_law p0 with ⟨h, e⟩ | ⟨h, e⟩
  · rw [e]
    exact OK.bind (OK.ret (OK.none_ (OK.ret rfl)))
  rw [e]
  refine OK.bind (OK.ret (OK.some_ (OK.ite_false rfl ?_)))
  have hn0 := kern0_len p0.toNat
  generalize hn : p0.toNat = n at *
  have hn64 : n ≤ 64 := by omega
  refine OK.bind2 (R := fun K => Good K n 0 (p1.length : Int)) ?_ ?_
  · refine OK.count (fun i K => Good K n 0 (i : Int)) ⟨hn0, by simp [kern0], by simp [kern0], fun j y hy => ?_⟩ ?_ (fun s h => h)
    · rw [kern0_at] at hy
      by_cases hj : j < n
      · rw [if_pos hj] at hy; cases hy; exact Int.le_refl _
      · rw [if_neg hj] at hy; cases hy
    · intro i K again hi hK k
      have hlen := hK.len
      have hlo := hK.lo
      have hhi := hK.hi
      have turned : ∀ (m : Int) (ts : List Int), OK (kern_Kern_turn K m ts) (fun r => Good r.2 n 0 (i : Int)) := fun m ts => (turn_same K m ts).mono (fun r hr => hr.1.good hK)
      have up : ∀ K', Good K' n 0 (i : Int) → Good K' n 0 ((i + 1 : Nat) : Int) := fun K' h => h.up (by omega)
      unfold tappetlaw21_KernFair_l1
      refine OK.bind (OK.getN hi (fun x hx => ?_))
      refine OK.ite (fun _ => OK.bind2 (named_turn (turned 1 x.Tasks)) (fun r hr => k _ (up _ hr))) (fun _ => ?_)
      refine OK.ite (fun _ => OK.bind2 (named_turn (turned 0 x.Tasks)) (fun r hr => k _ (up _ hr))) (fun _ => ?_)
      refine OK.ite (fun _ => OK.bind2 (named_turn (turned 2 x.Tasks)) (fun r hr => k _ (up _ hr))) (fun _ => ?_)
      refine OK.ite (fun _ => ?_) (fun _ => ?_)
      · refine OK.bind2 (pick_law K x.Choice (by omega) (by omega)) ?_
        rintro r (⟨_, rfl⟩ | ⟨a, t, _, _, ht, rfl⟩)
        · exact k _ (up _ hK)
        · exact k _ ((hK.took (t := t) (by omega)).up (by omega))
      · refine OK.bind2 (fair_law K (by omega) (by omega)) ?_
        rintro r (⟨_, rfl⟩ | ⟨t, y, ht, _, _, rfl⟩)
        · exact k _ (up _ hK)
        · have := (List.getElem?_eq_some_iff.1 ht).1
          exact k _ ((hK.took (t := t) (by omega)).up (by omega))
  intro K hK
  have hlen := hK.len
  unfold kern_Kern_Wake
  refine OK.bind2 (named_turn (turn_law K 1 [p2])) ?_
  rintro ⟨e1, K1⟩ (⟨h1, h2, h3⟩ | ⟨h1, h2, h3⟩)
  rotate_left
  · simp only at h1 h2
    subst h2
    refine OK.ite_true (by simpa using h1) (OK.bind ?_)
    refine OK.ite (fun _ => OK.ret (OK.ret rfl)) (fun g1 => ?_)
    refine OK.ite (fun _ => OK.ret (OK.ret rfl)) (fun g2 => ?_)
    have g1 : 0 ≤ p2 := by simpa using g1
    have g2 : p2 < p0 := by simpa using g2
    obtain ⟨x, hx, hx2⟩ := h3
    have ex : x = p2 := by simpa using hx
    subst ex
    have hm := hx2 g1 (by omega)
    rw [ended_law K1 (by omega)]
    refine OK.bind (OK.ret (OK.ret (OK.ret ?_)))
    have hmem : ((x.toNat : Nat) : Int) ∈ posn (modeIs K1 2) K1.tasks.length := mem_posn.2 ⟨x.toNat, by omega, hm, rfl⟩
    have := List.length_pos_of_mem hmem
    exact decide_eq_true (by omega)
  simp only at h1 h2 h3
  refine OK.ite_false (by rw [h1]; rfl) ?_
  obtain ⟨a1, a2, _⟩ := h2 p2 (by simp)
  obtain ⟨τ, rfl⟩ : ∃ τ : Nat, p2 = (τ : Int) := ⟨p2.toNat, by omega⟩
  have hτ : τ < n := by omega
  have hK1 := h3.same.good hK
  have hready : modeIs K1 1 τ = true := by
    unfold modeIs
    rw [h3.at_, List.getElem?_eq_getElem (by omega)]
    simp
  refine OK.bind2 (R := fun o => o = .inl true) ?_ (fun o ho => by subst ho; exact OK.ret rfl)
  have hahead : ∀ K', (posn (ahead K' τ) n).length < n := by
    intro K'
    have := posn_len_lt (p := fun _ => true) (q := ahead K' τ) (fun _ _ => rfl) (t := τ) rfl (by
      unfold ahead
      cases K'.tasks[τ]? <;> simp) n hτ
    rw [posn_all] at this
    exact this
  refine OK.rounds (fun s => 0 ≤ s.2.2 ∧ s.2.2 ≤ (n : Int) ∧ Good s.1 n 0 ((p1.length : Int) + s.2.2) ∧ modeIs s.1 1 τ = true ∧ (s.2.1 = true ∨ ((posn (ahead s.1 τ) n).length : Int) + s.2.2 < n)) (fun s => ((n : Int) - s.2.2).toNat) ?_ fu _ ⟨by simp, by simp, hK1.up (by simp), hready, .inr (by have := hahead K1; simp; omega)⟩ (by simp; omega)
  intro s again hs k
  obtain ⟨s0, s1, s2, s3, s4⟩ := hs
  have hlen2 := s2.len
  have hlo2 := s2.lo
  have hhi2 := s2.hi
  unfold tappetlaw21_KernFair_l2
  refine OK.ite (fun h => ?_) (fun h => ?_)
  rotate_left
  · refine OK.ret ?_
    have : ¬ s.2.2 < p0 := by simpa using h
    rcases s4 with s4 | s4
    · rw [s4]
    · omega
  have hlt : s.2.2 < (n : Int) := by
    have : s.2.2 < p0 := by simpa using h
    omega
  rw [ready_law s.1 (by omega)]
  refine OK.bind (OK.ret ?_)
  refine OK.bind2 (fair_law s.1 (by omega) (by omega)) ?_
  have hτm : (τ : Int) ∈ posn (modeIs s.1 1) s.1.tasks.length := mem_posn.2 ⟨τ, by omega, s3, rfl⟩
  obtain ⟨yτ, hyτ, hmτ⟩ := modeIs_iff.1 s3
  rintro r (⟨h5, _⟩ | ⟨t, x, h5, h6, h7, rfl⟩)
  · rw [h5] at hτm; exact absurd hτm List.not_mem_nil
  have htl := (List.getElem?_eq_some_iff.1 h5).1
  have htm : (t : Int) ∈ posn (modeIs s.1 1) s.1.tasks.length := mem_posn.2 ⟨t, htl, modeIs_iff.2 ⟨x, h5, h6⟩, rfl⟩
  rw [found_law _ _ htm]
  refine OK.bind (OK.ret (OK.ite_false rfl ?_))
  have e2 : w64 (s.2.2 + 1) = s.2.2 + 1 := w64_eq (by omega) (by omega)
  have gt := s2.took (t := t) (by omega)
  -- whoever was picked: fewer are ahead, or it was τ
  have key : ∀ K', Same (took s.1 t) K' → modeIs K' 1 τ = true → OK (again (K', (s.2.1 || ((t : Int) == (τ : Int))), w64 (s.2.2 + 1))) (fun o => o = .inl true) := by
    intro K' b1 b2
    refine k _ ⟨?_, ?_, ?_, b2, ?_⟩ ?_
    · show 0 ≤ w64 (s.2.2 + 1); omega
    · show w64 (s.2.2 + 1) ≤ _; omega
    · show Good K' n 0 ((p1.length : Int) + w64 (s.2.2 + 1))
      rw [e2]
      exact (b1.good gt).up (by omega)
    · show (s.2.1 || ((t : Int) == (τ : Int))) = true ∨ ((posn (ahead K' τ) n).length : Int) + w64 (s.2.2 + 1) < n
      rcases s4 with s4 | s4
      · exact .inl (by rw [s4]; rfl)
      by_cases e : t = τ
      · exact .inl (by rw [e]; simp)
      · right
        have ha : ahead s.1 τ t = true := (ahead_iff h5 hyτ).2 (by have := h7 τ yτ hyτ hmτ; omega)
        have hh := ahead_took s2 hτ (by omega) e ha
        have hh2 : posn (ahead K' τ) n = posn (ahead (took s.1 t) τ) n := posn_congr (fun j => ahead_same b1 τ j)
        rw [hh2, e2]
        omega
    · show ((n : Int) - w64 (s.2.2 + 1)).toNat < _
      omega
  have hmt : modeIs (took s.1 t) 1 τ = true := by rw [took_mode]; exact s3
  refine OK.ite (fun hc => ?_) (fun hc => key _ (Same.refl _) hmt)
  have hc1 : s.2.2 < (p1.length : Int) ∧ (t : Int) ≠ (τ : Int) := by simpa using hc
  unfold kern_Kern_Sleep
  refine OK.bind2 (named_turn (turn_same (took s.1 t) 0 [(t : Int)])) ?_
  rintro r2 ⟨b1, b2⟩
  refine OK.bind2 (wakes_law fu p1 τ s r2.2 s0 hc1.1 hB) ?_
  rintro K' ⟨c1, c2⟩
  refine key K' (b1.trans c1) ?_
  rw [c2, b2 τ (by simp; omega)]
  exact hmt

theorem kernFair_true (p0 : Int) (p1 : List tappetlaw21_Op) (p2 : Int) (g0 : (Lit.int .i64 p0).wf = true) (g1 : p1.length * 64 ≤ reachBytes ∧ ∀ y22 ∈ p1, G_tappetlaw21_Op y22) (g2 : (Lit.int .i64 p2).wf = true) : ∃ fu, tappetlaw21_KernFair fu p0 p1 p2 = some true := by
  refine ⟨140737488355400, fair_true _ p0 p1 p2 ?_ (by omega) (fun x hx => ?_)⟩
  · have := g1.1; unfold reachBytes at this; omega
  · have := (g1.2 x hx).2.2.1.1
    unfold reachBytes at this
    omega
end Go.Proofs.Ythljmgepekhchaa

/- flow's and the document's Check, Loops, Cost: the same answers. -/
import Derived.Test.YtjhmkpklhajpcaaDoorKOps
set_option linter.unusedVariables false
set_option linter.unusedSimpArgs false
namespace Go.Proofs.YtjhmkpklhajpcaaDoor
open Go.Sx

/-! ### searches -/
/-- the first thing that g finds from i on, in n rounds -/
def findN {ρ : Type} (g : Nat → Option ρ) : Nat → Nat → Option ρ
  | 0, _ => none
  | n + 1, i => match g i with
    | some v => some v
    | none => findN g n (i + 1)
def sumOf {ρ : Type} : Option ρ → Unit ⊕ ρ
  | some v => .inr v
  | none => .inl ()
theorem search {ρ : Type} {body : Nat → (Unit → Option (Unit ⊕ ρ)) → Unit → Option (Unit ⊕ ρ)} (g : Nat → Option ρ) {N : Nat}
    (hb : ∀ j again, j < N → body j again () = match g j with | some v => some (.inr v) | none => again ()) :
    ∀ (n i : Nat), i + n = N → forN body (fun _ => (.inl ())) n i () = some (sumOf (findN g n i)) := by
  intro n
  induction n with
  | zero => intro i _; rfl
  | succ n ih =>
    intro i hi
    show body i (forN body _ n (i + 1)) () = _
    rw [hb i _ (by omega)]
    unfold findN
    cases g i with
    | some v => rfl
    | none => exact ih (i + 1) (by omega)
theorem search0 {ρ : Type} {body : Nat → (Unit → Option (Unit ⊕ ρ)) → Unit → Option (Unit ⊕ ρ)} (g : Nat → Option ρ) {N : Nat}
    (hb : ∀ j again, j < N → body j again () = match g j with | some v => some (.inr v) | none => again ()) :
    forN body (fun _ => (.inl ())) N 0 () = some (sumOf (findN g N 0)) := search g hb N 0 (by omega)
theorem findN_some {ρ : Type} {g : Nat → Option ρ} {v : ρ} : ∀ {n i : Nat}, findN g n i = some v → ∃ j, i ≤ j ∧ j < i + n ∧ g j = some v ∧ ∀ q, i ≤ q → q < j → g q = none := by
  intro n
  induction n with
  | zero => intro i h; cases h
  | succ n ih =>
    intro i h
    unfold findN at h
    cases hg : g i with
    | some u =>
      rw [hg] at h
      cases h
      exact ⟨i, Nat.le_refl _, by omega, hg, fun q h1 h2 => by omega⟩
    | none =>
      rw [hg] at h
      obtain ⟨j, h1, h2, h3, h4⟩ := ih h
      refine ⟨j, by omega, by omega, h3, fun q q1 q2 => ?_⟩
      rcases Nat.eq_or_lt_of_le q1 with e | e
      · subst e; exact hg
      · exact h4 q e q2
theorem findN_none {ρ : Type} {g : Nat → Option ρ} : ∀ {n i : Nat}, findN g n i = none → ∀ q, i ≤ q → q < i + n → g q = none := by
  intro n
  induction n with
  | zero => intro i _ q h1 h2; omega
  | succ n ih =>
    intro i h q h1 h2
    unfold findN at h
    cases hg : g i with
    | some u => rw [hg] at h; cases h
    | none =>
      rw [hg] at h
      rcases Nat.eq_or_lt_of_le h1 with e | e
      · subst e; exact hg
      · exact ih h q e (by omega)
theorem findN_none' {ρ : Type} {g : Nat → Option ρ} : ∀ {n i : Nat}, (∀ q, i ≤ q → q < i + n → g q = none) → findN g n i = none := by
  intro n
  induction n with
  | zero => intro i _; rfl
  | succ n ih =>
    intro i h
    unfold findN
    rw [h i (Nat.le_refl _) (by omega)]
    exact ih (fun q h1 h2 => h q (by omega) (by omega))
theorem findN_at {ρ : Type} {g : Nat → Option ρ} {v : ρ} : ∀ {n i j : Nat}, i ≤ j → j < i + n → g j = some v → (∀ q, i ≤ q → q < j → g q = none) → findN g n i = some v := by
  intro n
  induction n with
  | zero => intro i j h1 h2; omega
  | succ n ih =>
    intro i j h1 h2 h3 h4
    unfold findN
    rcases Nat.eq_or_lt_of_le h1 with e | e
    · subst e; rw [h3]
    · rw [h4 i (Nat.le_refl _) e]
      exact ih (j := j) e (by omega) h3 (fun q q1 q2 => h4 q (by omega) q2)
theorem findN_congr {ρ : Type} {g h : Nat → Option ρ} : ∀ {n i : Nat}, (∀ q, i ≤ q → q < i + n → g q = h q) → findN g n i = findN h n i := by
  intro n
  induction n with
  | zero => intro i _; rfl
  | succ n ih =>
    intro i k
    unfold findN
    rw [k i (Nat.le_refl _) (by omega), ih (fun q h1 h2 => k q (by omega) (by omega))]
theorem idxN {α : Type} {xs : List α} {i : Nat} (h : i < xs.length) : idx xs (i : Int) = some xs[i] := by
  simp [Go.Sx.idx, h]

/-! ### one place -/
def errAt (n : Int) (p : Int) (i : api_Inst) : Int :=
  if !rightB i then 12
  else if (goesB i).2.1 && (decide (p + (goesB i).1 < 0) || decide (p + (goesB i).1 ≥ n)) then 30
  else if (goesB i).2.2 && p == n - 1 then 36 else 0
theorem goes_small (i : api_Inst) : -63 ≤ (goesB i).1 ∧ (goesB i).1 ≤ 64 := by
  unfold goesB
  split
  · rename_i h; have := jump_D h; simp; omega
  · split
    · rename_i h; have := loop_D h; simp; omega
    · simp
def placeErr (code : List api_Inst) (p : Nat) : Option (Int × Int) := match code[p]? with
  | some i => if errAt code.length p i = 0 then none else some ((p : Int), errAt code.length p i)
  | none => none
theorem places_eq (code : List api_Inst) (hn : code.length ≤ 64) : flow_places code = some ((findN (placeErr code) code.length 0).getD (0, 0)) := by
  unfold flow_places
  rw [search0 (placeErr code) (N := code.length)]
  · simp only [Option.bind_some]
    cases findN (placeErr code) code.length 0 <;> rfl
  · intro j again hj
    unfold flow_places_l1
    have hx : code[j]? = some code[j] := List.getElem?_eq_getElem hj
    generalize hi : code[j] = x at hx
    have hg := goes_small x
    have e1 : w64 ((j : Int) + (goesB x).1) = j + (goesB x).1 := w64_eq (by omega) (by omega)
    have e2 : w64 ((code.length : Int) - 1) = code.length - 1 := w64_eq (by omega) (by omega)
    have hr : ops_Right [x] = some (rightB x) := by
      unfold ops_Right
      simp only [List.length_singleton, forN, ops_Right_l1]
      rcases Bool.eq_false_or_eq_true (rightB x) with h | h <;> simp [Go.Sx.idx, opsRight_eq, h]
    simp only [idxN hj, hi, Option.bind_some, opsGoes_eq, hr, e1, e2, placeErr, hx, errAt]
    rcases Bool.eq_false_or_eq_true (rightB x) with h1 | h1
    · rcases Bool.eq_false_or_eq_true ((goesB x).2.1 && (decide ((j : Int) + (goesB x).1 < 0) || decide ((j : Int) + (goesB x).1 ≥ code.length))) with h2 | h2
      · simp only [h1, h2]; rfl
      · rcases Bool.eq_false_or_eq_true ((goesB x).2.2 && ((j : Int) == code.length - 1)) with h3 | h3
        · simp only [h1, h2, h3]; rfl
        · simp only [h1, h2, h3]; rfl
    · simp only [h1]; rfl
theorem refPlaces (code : List api_Inst) (hn : code.length ≤ 64) : forN (tappetref07_Check_l1 code) (fun _ => (.inl ())) code.length 0 () = some (sumOf (findN (placeErr code) code.length 0)) := by
  refine search0 (placeErr code) (N := code.length) ?_
  intro j again hj
  unfold tappetref07_Check_l1
  have hx : code[j]? = some code[j] := List.getElem?_eq_getElem hj
  generalize hi : code[j] = x at hx
  have hg := goes_small x
  have e1 : w64 ((j : Int) + (goesB x).1) = j + (goesB x).1 := w64_eq (by omega) (by omega)
  have e2 : w64 ((code.length : Int) - 1) = code.length - 1 := w64_eq (by omega) (by omega)
  have e3 : w64 ((j : Int) + 1) = j + 1 := w64_eq (by omega) (by omega)
  have e4 : (((j : Int) + 1) == code.length) = ((j : Int) == code.length - 1) := by rw [Bool.eq_iff_iff]; simp; omega
  have e5 : decide ((j : Int) + (goesB x).1 > code.length - 1) = decide ((j : Int) + (goesB x).1 ≥ code.length) := by rw [Bool.eq_iff_iff]; simp; omega
  simp only [idxN hj, hi, Option.bind_some, refRight_eq, refGoes_eq, e1, e2, e3, e4, e5, placeErr, hx, errAt]
  rcases Bool.eq_false_or_eq_true (rightB x) with h1 | h1
  · rcases Bool.eq_false_or_eq_true ((goesB x).2.1 && (decide ((j : Int) + (goesB x).1 < 0) || decide ((j : Int) + (goesB x).1 ≥ code.length))) with h2 | h2
    · simp only [h1, h2]; rfl
    · rcases Bool.eq_false_or_eq_true ((goesB x).2.2 && ((j : Int) == code.length - 1)) with h3 | h3
      · simp only [h1, h2, h3]; rfl
      · simp only [h1, h2, h3]; rfl
  · simp only [h1]; rfl

/-- each place is right by itself -/
def Fine (code : List api_Inst) : Prop := ∀ (p : Nat) (i : api_Inst), code[p]? = some i → errAt code.length p i = 0
theorem fine_of {code : List api_Inst} (h : findN (placeErr code) code.length 0 = none) : Fine code := by
  intro p i hi
  have hp := (List.getElem?_eq_some_iff.1 hi).1
  have := findN_none h p (by omega) (by omega)
  unfold placeErr at this
  rw [hi] at this
  simp only at this
  split at this
  · assumption
  · cases this
theorem fine_none {code : List api_Inst} (h : Fine code) : findN (placeErr code) code.length 0 = none := by
  refine findN_none' (fun q _ hq => ?_)
  have hi := List.getElem?_eq_getElem (show q < code.length by omega)
  unfold placeErr
  rw [hi]
  simp only [h q _ hi, if_true]
theorem Fine.right {code : List api_Inst} (h : Fine code) {p : Nat} {i : api_Inst} (hi : code[p]? = some i) : rightB i = true := by
  have := h p i hi
  unfold errAt at this
  rcases Bool.eq_false_or_eq_true (rightB i) with h1 | h1
  · exact h1
  · rw [h1] at this; simp at this
theorem Fine.leads {code : List api_Inst} (h : Fine code) {p : Nat} {i : api_Inst} (hi : code[p]? = some i) (hl : (goesB i).2.1 = true) : 0 ≤ (p : Int) + (goesB i).1 ∧ (p : Int) + (goesB i).1 < code.length := by
  have := h p i hi
  unfold errAt at this
  rw [h.right hi, hl] at this
  simp at this
  split at this
  · omega
  · rename_i h2; omega
theorem Fine.on {code : List api_Inst} (h : Fine code) {p : Nat} {i : api_Inst} (hi : code[p]? = some i) (hl : (goesB i).2.2 = true) : p + 1 < code.length := by
  have hp := (List.getElem?_eq_some_iff.1 hi).1
  have h1 := h p i hi
  unfold errAt at h1
  rw [h.right hi, hl] at h1
  rcases Nat.lt_or_ge (p + 1) code.length with h2 | h2
  · exact h2
  · exfalso
    have e : ((p : Int) == code.length - 1) = true := by simp; omega
    rw [e] at h1
    simp at h1
    split at h1 <;> omega
theorem Fine.loop {code : List api_Inst} (h : Fine code) {p : Nat} {i : api_Inst} (hi : code[p]? = some i) (ho : i.Op = 20) : 1 ≤ i.D ∧ i.D ≤ p ∧ 1 ≤ i.Imm ∧ i.Imm ≤ 255 ∧ p + 1 < code.length := by
  have hr := h.right hi
  have hl : loopsB i = true := by simp [loopsB, hr, ho]
  have hj : jumpsB i = false := by simp [jumpsB, inB, ho]
  have hg : goesB i = (-i.D, true, true) := by simp [goesB, hl, hj]
  have h1 := h.leads hi (by rw [hg])
  have h2 := h.on hi (by rw [hg])
  rw [hg] at h1
  have h3 := loop_D hl
  simp only at h1
  omega

/-! ### loops -/
def loopAt (i : api_Inst) (p : Nat) : api_Loop := ⟨(p : Int) - i.D, p, i.Imm⟩
/-- the loops among the first k places -/
def lps (code : List api_Inst) : Nat → List api_Loop
  | 0 => []
  | k + 1 => match code[k]? with
    | some i => if i.Op == 20 then lps code k ++ [loopAt i k] else lps code k
    | none => lps code k
theorem lps_len (code : List api_Inst) : ∀ k, (lps code k).length ≤ k
  | 0 => Nat.le_refl _
  | k + 1 => by
    have := lps_len code k
    unfold lps
    split
    · split
      · simp; omega
      · omega
    · omega
theorem mem_lps {code : List api_Inst} {l : api_Loop} : ∀ {k : Nat}, l ∈ lps code k ↔ ∃ q i, q < k ∧ code[q]? = some i ∧ i.Op = 20 ∧ l = loopAt i q
  | 0 => by simp [lps]
  | k + 1 => by
    unfold lps
    have ih := @mem_lps code l k
    constructor
    · intro h
      split at h
      · rename_i i hi
        split at h
        · rename_i ho
          rcases List.mem_append.1 h with h | h
          · obtain ⟨q, j, h1, h2⟩ := ih.1 h
            exact ⟨q, j, by omega, h2⟩
          · simp at h
            exact ⟨k, i, by omega, hi, by simpa using ho, h⟩
        · obtain ⟨q, j, h1, h2⟩ := ih.1 h
          exact ⟨q, j, by omega, h2⟩
      · obtain ⟨q, j, h1, h2⟩ := ih.1 h
        exact ⟨q, j, by omega, h2⟩
    · rintro ⟨q, j, h1, h2, h3, h4⟩
      rcases Nat.lt_or_ge q k with hq | hq
      · have := ih.2 ⟨q, j, hq, h2, h3, h4⟩
        split
        · split
          · exact List.mem_append_left _ this
          · exact this
        · exact this
      · have e : q = k := by omega
        subst e
        rw [h2]
        simp only [h3]
        rw [if_pos (by simp)]
        exact List.mem_append_right _ (by simp [h4])
theorem lps_sorted (code : List api_Inst) : ∀ k, (lps code k).Pairwise (fun a b => a.At < b.At) ∧ ∀ l ∈ lps code k, l.At < k
  | 0 => ⟨List.Pairwise.nil, by simp [lps]⟩
  | k + 1 => by
    obtain ⟨h1, h2⟩ := lps_sorted code k
    unfold lps
    split
    · split
      · refine ⟨List.pairwise_append.2 ⟨h1, List.pairwise_singleton _ _, fun a ha b hb => ?_⟩, fun l hl => ?_⟩
        · simp at hb; subst hb; exact h2 a ha
        · rcases List.mem_append.1 hl with hl | hl
          · have := h2 l hl; omega
          · simp at hl; subst hl; simp [loopAt]; omega
      · exact ⟨h1, fun l hl => by have := h2 l hl; omega⟩
    · exact ⟨h1, fun l hl => by have := h2 l hl; omega⟩
theorem loops_eq {code : List api_Inst} (hn : code.length ≤ 64) (hD : Fine code) : flow_loops code = some (lps code code.length) := by
  refine OK.is ?_
  unfold flow_loops
  refine OK.bind2 (R := fun y => y = lps code code.length) ?_ (fun x hx => OK.ret hx)
  refine OK.count (fun i s => s = lps code i) rfl ?_ (fun s h => h)
  intro i s again hi hs k
  subst hs
  unfold flow_loops_l1
  refine OK.bind (OK.getN hi (fun x hx => ?_))
  have hl := lps_len code i
  refine OK.ite (fun h => ?_) (fun h => ?_)
  · have hd := hD.loop hx (by simpa using h)
    refine OK.bind (OK.hasRoom (by simp; omega) ?_)
    refine k _ ?_
    rw [lps, hx]
    simp only [h, if_true, loopAt]
    rw [w64_eq (by omega) (by omega)]
  · refine k _ ?_
    rw [lps, hx]
    simp [h]
theorem refLoops_eq {code : List api_Inst} (hn : code.length ≤ 64) (hD : Fine code) : forN (tappetref07_Loops_l1 code) (fun s => s) code.length 0 ([] : List api_Loop) = some (lps code code.length) := by
  refine OK.is ?_
  refine OK.count (fun i s => s = lps code i) rfl ?_ (fun s h => h)
  intro i s again hi hs k
  subst hs
  unfold tappetref07_Loops_l1
  refine OK.bind (OK.getN hi (fun x hx => ?_))
  have hl := lps_len code i
  refine OK.ite (fun h => ?_) (fun h => ?_)
  · have hd := hD.loop hx (by simpa using h)
    refine OK.bind (OK.hasRoom (by simp; omega) ?_)
    refine k _ ?_
    rw [lps, hx]
    simp only [h, if_true, loopAt]
    rw [w64_eq (by omega) (by omega)]
  · refine k _ ?_
    rw [lps, hx]
    simp [h]

/-! ### bodies -/
/-- is place p in the body of the loop at place a? -/
def covers (code : List api_Inst) (p a : Nat) : Bool := match code[a]? with
  | some i => i.Op == 20 && decide ((a : Int) - i.D ≤ p) && decide (p ≤ a)
  | none => false
def bod (code : List api_Inst) (k p : Nat) : List Int := ((List.range k).filter (covers code p)).map (fun (a : Nat) => (a : Int))
theorem bod_succ (code : List api_Inst) (k p : Nat) : bod code (k + 1) p = if covers code p k then bod code k p ++ [(k : Int)] else bod code k p := by
  unfold bod
  rw [List.range_succ, List.filter_append, List.map_append]
  cases h : covers code p k <;> simp [h]
theorem bod_len (code : List api_Inst) (k p : Nat) : (bod code k p).length ≤ k := by
  unfold bod
  rw [List.length_map]
  exact Nat.le_trans (List.length_filter_le _ _) (by simp)
theorem mem_bod {code : List api_Inst} {k p : Nat} {x : Int} : x ∈ bod code k p ↔ ∃ a : Nat, a < k ∧ covers code p a = true ∧ x = a := by
  unfold bod
  simp only [List.mem_map, List.mem_filter, List.mem_range]
  constructor
  · rintro ⟨a, ⟨h1, h2⟩, rfl⟩; exact ⟨a, h1, h2, rfl⟩
  · rintro ⟨a, h1, h2, rfl⟩; exact ⟨a, ⟨h1, h2⟩, rfl⟩
theorem bodies_eq {code : List api_Inst} (hn : code.length ≤ 64) (hD : Fine code) (fu : Nat) (hf : 100 ≤ fu) : OK (tappetref07_bodies fu code) (fun B => B.length = code.length ∧ ∀ p, p < code.length → B[p]? = some (bod code code.length p)) := by
  unfold tappetref07_bodies
  refine OK.bind (OK.mkl (by omega) (by simp; omega) ?_)
  simp only [Int.toNat_natCast]
  refine OK.bind2 (R := fun B => B.length = code.length ∧ ∀ p, p < code.length → B[p]? = some (bod code code.length p)) ?_ (fun x hx => OK.ret hx)
  refine OK.count (fun i B => B.length = code.length ∧ ∀ p, p < code.length → B[p]? = some (bod code i p)) ⟨by simp, fun p hp => by simp [hp, bod]⟩ ?_ (fun s h => h)
  intro a B again ha ⟨hl, hB⟩ k
  unfold tappetref07_bodies_l1
  refine OK.bind (OK.getN ha (fun x hx => ?_))
  refine OK.ite (fun h => ?_) (fun h => ?_)
  · have ho : x.Op ≠ 20 := by simpa using h
    refine k _ ⟨hl, fun p hp => ?_⟩
    rw [hB p hp, bod_succ]
    have : covers code p a = false := by simp [covers, hx, ho]
    simp [this]
  · have ho : x.Op = 20 := by simpa using h
    have hd := hD.loop hx ho
    have e1 : w64 ((a : Int) - x.D) = a - x.D := w64_eq (by omega) (by omega)
    rw [e1]
    refine OK.bind2 (R := fun B => B.length = code.length ∧ ∀ p, p < code.length → B[p]? = some (bod code (a + 1) p)) ?_ (fun B' h' => k B' h')
    -- the inner loop: from the head to the place
    refine OK.rounds (fun s : List (List Int) × Int => (a : Int) - x.D ≤ s.2 ∧ s.2 ≤ a + 1 ∧ s.1.length = code.length ∧ ∀ p : Nat, p < code.length → s.1[p]? = some (if (p : Int) < s.2 then bod code (a + 1) p else bod code a p))
      (fun s => ((a : Int) + 1 - s.2).toNat) ?_ fu _ ⟨by omega, by omega, hl, fun p hp => ?_⟩ (by omega)
    · rintro ⟨B1, q⟩ again ⟨h1, h2, h3, h4⟩ k2
      simp only at h1 h2 h3 h4
      unfold tappetref07_bodies_l2
      refine OK.ite (fun hc => ?_) (fun hc => ?_)
      · have hq : q ≤ a := by simpa using hc
        have hq0 : 0 ≤ q := by omega
        have hq1 : q < B1.length := by omega
        refine OK.bind (OK.get hq0 hq1 (fun y hy => ?_))
        have hy2 := h4 q.toNat (by omega)
        rw [hy2] at hy
        have hqq : ((q.toNat : Nat) : Int) = q := by omega
        rw [if_neg (by omega)] at hy
        cases hy
        have hbl := bod_len code a q.toNat
        refine OK.bind (OK.hasRoom (by simp; omega) ?_)
        have e2 : w64 (q + 1) = q + 1 := w64_eq (by omega) (by omega)
        rw [e2]
        refine k2 _ ⟨?_, ?_, ?_, fun p hp => ?_⟩ ?_
        · show (a : Int) - x.D ≤ q + 1; omega
        · show q + 1 ≤ (a : Int) + 1; omega
        · simpa using h3
        · simp only
          rw [get_set]
          by_cases hpq : q.toNat = p
          · subst hpq
            rw [if_pos rfl, if_pos (by omega), if_pos (by omega), bod_succ]
            have : covers code q.toNat a = true := by simp [covers, hx, ho]; omega
            rw [this]; rfl
          · rw [if_neg hpq, h4 p hp]
            by_cases hlt : (p : Int) < q
            · rw [if_pos hlt, if_pos (by omega)]
            · rw [if_neg hlt, if_neg (by omega)]
        · simp only; omega
      · have hq : ¬ q ≤ a := by simpa using hc
        refine OK.ret ⟨h3, fun p hp => ?_⟩
        rw [h4 p hp]
        by_cases hlt : (p : Int) < q
        · rw [if_pos hlt]
        · rw [if_neg hlt, bod_succ]
          have : covers code p a = false := by simp [covers, hx, ho]; omega
          simp [this]
    · simp only
      rw [hB p hp]
      by_cases hlt : (p : Int) < a - x.D
      · rw [if_pos hlt, bod_succ]
        have : covers code p a = false := by simp [covers, hx, ho]; omega
        simp [this]
      · rw [if_neg hlt]
theorem has_eq (l : List Int) (m : Int) : tappetref07_has l m = some (l.contains m) := by
  unfold tappetref07_has
  rw [search0 (fun i => if (l[i]? == some m) then some true else none) (N := l.length)]
  · simp only [Option.bind_some]
    cases hf : findN (fun i => if (l[i]? == some m) then some true else none) l.length 0 with
    | some v =>
      obtain ⟨j, _, h2, h3, _⟩ := findN_some hf
      split at h3
      · rename_i h
        cases h3
        have : m ∈ l := List.mem_of_getElem? (by simpa using h)
        simp [sumOf, this]
      · cases h3
    | none =>
      have := findN_none hf
      have hm : m ∉ l := by
        intro hm
        obtain ⟨j, hj, rfl⟩ := List.mem_iff_getElem.1 hm
        have := this j (by omega) (by omega)
        simp [hj] at this
      simp [sumOf, hm]
  · intro j again hj
    unfold tappetref07_has_l1
    simp only [idxN hj, Option.bind_some, List.getElem?_eq_getElem hj]
    rcases Bool.eq_false_or_eq_true (l[j] == m) with h | h
    · simp [h]
    · simp [h]
theorem has_bod {code : List api_Inst} {n p a : Nat} (ha : a < n) : (bod code n p).contains (a : Int) = covers code p a := by
  rw [Bool.eq_iff_iff, List.contains_iff_mem, mem_bod]
  constructor
  · rintro ⟨b, _, h2, h3⟩
    have : a = b := by omega
    subst this
    exact h2
  · intro h
    exact ⟨a, ha, h, rfl⟩

/-! ### crossing -/
open Classical in
noncomputable def pick {ρ : Type} (X : Prop) (v : ρ) : Option ρ := if X then some v else none
theorem pick_t {ρ : Type} {X : Prop} {v : ρ} (h : X) : pick X v = some v := by unfold pick; rw [if_pos h]
theorem pick_f {ρ : Type} {X : Prop} {v : ρ} (h : ¬ X) : pick X v = none := by unfold pick; rw [if_neg h]
theorem pick_some {ρ : Type} {X : Prop} {v u : ρ} (h : pick X v = some u) : X ∧ v = u := by
  unfold pick at h
  split at h
  · rename_i hx; cases h; exact ⟨hx, rfl⟩
  · cases h
theorem pick_none {ρ : Type} {X : Prop} {v : ρ} (h : pick X v = none) : ¬ X := by
  unfold pick at h
  split at h
  · cases h
  · rename_i hx; exact hx
/-- the first place below n with X -/
def First (X : Nat → Prop) (n : Nat) : Option Nat → Prop
  | some l => l < n ∧ X l ∧ ∀ q, q < l → ¬ X q
  | none => ∀ q, q < n → ¬ X q
theorem First.unique {X : Nat → Prop} {n : Nat} {a b : Option Nat} (ha : First X n a) (hb : First X n b) : a = b := by
  cases a with
  | none =>
    cases b with
    | none => rfl
    | some l => exact absurd hb.2.1 (ha l hb.1)
  | some k =>
    cases b with
    | none => exact absurd ha.2.1 (hb k ha.1)
    | some l =>
      rcases Nat.lt_trichotomy k l with h | h | h
      · exact absurd ha.2.1 (hb.2.2 k h)
      · rw [h]
      · exact absurd hb.2.1 (ha.2.2 l h)
theorem first_findN {ρ : Type} {X : Nat → Prop} {n : Nat} {v : Nat → ρ} : ∃ o, First X n o ∧ findN (fun l => pick (X l) (v l)) n 0 = o.map v := by
  cases h : findN (fun l => pick (X l) (v l)) n 0 with
  | none => exact ⟨none, fun q hq => pick_none (findN_none h q (by omega) (by omega)), rfl⟩
  | some u =>
    obtain ⟨j, _, h2, h3, h4⟩ := findN_some h
    obtain ⟨hx, rfl⟩ := pick_some h3
    exact ⟨some j, ⟨by omega, hx, fun q hq => pick_none (h4 q (by omega) hq)⟩, rfl⟩

/-- does the loop at l cross one ahead of it? -/
def Crs (code : List api_Inst) (l m : Nat) : Prop := ∃ il im, code[l]? = some il ∧ il.Op = 20 ∧ code[m]? = some im ∧ im.Op = 20 ∧ (l : Int) - il.D ≤ m ∧ (m : Int) - im.D < l - il.D
def Cr (code : List api_Inst) (l : Nat) : Prop := ∃ m, m < l ∧ Crs code l m

theorem covers_iff {code : List api_Inst} {p a : Nat} {i : api_Inst} (hi : code[a]? = some i) (ho : i.Op = 20) : covers code p a = true ↔ (a : Int) - i.D ≤ p ∧ p ≤ a := by
  simp [covers, hi, ho]

theorem cross3 {code : List api_Inst} {B : List (List Int)} (hn : code.length ≤ 64) (hB : ∀ p, p < code.length → B[p]? = some (bod code code.length p)) (hBl : B.length = code.length) {l m : Nat} (hl : l < code.length) (hm : m < code.length) :
    OK (forN (tappetref07_crossing_l3 B l m) (fun (s : Int × Bool) => (s.1, s.2)) code.length 0 (0, true)) (fun s => (0 < s.1 ↔ ∃ p, p < code.length ∧ covers code p m = true ∧ covers code p l = true) ∧ (s.2 = false ↔ ∃ p, p < code.length ∧ covers code p m = true ∧ covers code p l = false)) := by
  refine OK.count (fun (i : Nat) (s : Int × Bool) => 0 ≤ s.1 ∧ s.1 ≤ (i : Int) ∧ (0 < s.1 ↔ ∃ p, p < i ∧ covers code p m = true ∧ covers code p l = true) ∧ (s.2 = false ↔ ∃ p, p < i ∧ covers code p m = true ∧ covers code p l = false)) ⟨by simp, by simp, by simp, by simp⟩ ?_ (fun s h => h.2.2)
  rintro i ⟨b, al⟩ again hi ⟨h0, h1, h2, h3⟩ k
  simp only at h0 h1 h2 h3
  unfold tappetref07_crossing_l3
  refine OK.bind (OK.getN (by omega) (fun x hx => ?_))
  rw [hB i hi] at hx
  cases hx
  simp only [has_eq, has_bod hm, has_bod hl, Option.bind_some]
  have step : ∀ {P : Nat → Prop}, (∃ p, p < i + 1 ∧ P p) ↔ (∃ p, p < i ∧ P p) ∨ P i := by
    intro P
    constructor
    · rintro ⟨p, hp, h⟩
      rcases Nat.lt_or_ge p i with h4 | h4
      · exact .inl ⟨p, h4, h⟩
      · have : p = i := by omega
        subst this; exact .inr h
    · rintro (⟨p, hp, h⟩ | h)
      · exact ⟨p, by omega, h⟩
      · exact ⟨i, by omega, h⟩
  refine OK.ite (fun hc => ?_) (fun hc => ?_)
  · refine OK.ite (fun hd => ?_) (fun hd => ?_)
    · have e : w64 (b + 1) = b + 1 := w64_eq (by omega) (by omega)
      rw [e]
      refine k _ ⟨by simp only; omega, by simp only; omega, ?_, ?_⟩
      · simp only [step, hc, hd]; simp; omega
      · simp only [step, h3, hc, hd]; simp
    · refine k _ ⟨h0, by simp only; omega, ?_, ?_⟩
      · simp only [step, h2, hc, hd]; simp
      · simp only [step, hc, hd]; simp
  · refine k _ ⟨h0, by simp only; omega, ?_, ?_⟩
    · simp only [step, h2, hc]; simp
    · simp only [step, h3, hc]; simp
theorem crs_iff {code : List api_Inst} (hD : Fine code) {l m : Nat} (hml : m < l) {il im : api_Inst} (h1 : code[l]? = some il) (h2 : il.Op = 20) (h3 : code[m]? = some im) (h4 : im.Op = 20) :
    Crs code l m ↔ (∃ p, p < code.length ∧ covers code p m = true ∧ covers code p l = true) ∧ (∃ p, p < code.length ∧ covers code p m = true ∧ covers code p l = false) := by
  have d1 := hD.loop h1 h2
  have d2 := hD.loop h3 h4
  constructor
  · rintro ⟨il', im', e1, _, e3, _, c1, c2⟩
    rw [h1] at e1; cases e1
    rw [h3] at e3; cases e3
    refine ⟨⟨m, by omega, (covers_iff h3 h4).2 (by omega), (covers_iff h1 h2).2 (by omega)⟩, ⟨((m : Int) - im.D).toNat, by omega, (covers_iff h3 h4).2 (by omega), ?_⟩⟩
    cases hc : covers code ((m : Int) - im.D).toNat l with
    | false => rfl
    | true => have := (covers_iff h1 h2).1 hc; omega
  · rintro ⟨⟨p, _, a1, a2⟩, ⟨q, _, b1, b2⟩⟩
    have a1 := (covers_iff h3 h4).1 a1
    have a2 := (covers_iff h1 h2).1 a2
    have b1 := (covers_iff h3 h4).1 b1
    refine ⟨il, im, h1, h2, h3, h4, by omega, ?_⟩
    rcases Int.lt_or_le ((m : Int) - im.D) (l - il.D) with h | h
    · exact h
    · exfalso
      have := (covers_iff h1 h2).2 (show (l : Int) - il.D ≤ q ∧ q ≤ l by omega)
      rw [b2] at this
      cases this
theorem refCrossing {code : List api_Inst} (hn : code.length ≤ 64) (hD : Fine code) {B : List (List Int)} (hB : ∀ p, p < code.length → B[p]? = some (bod code code.length p)) (hBl : B.length = code.length) (fu : Nat) :
    ∃ o, First (Cr code) code.length o ∧ tappetref07_crossing fu code B = some (match o with | some l => ((l : Int), true) | none => (0, false)) := by
  have main : forN (tappetref07_crossing_l1 code B) (fun _ => (.inl ())) code.length 0 () = some (sumOf (findN (fun l => pick (Cr code l) ((l : Int), true)) code.length 0)) := by
    refine search0 _ (N := code.length) ?_
    intro l again hl
    have hx := List.getElem?_eq_getElem hl
    generalize hi : code[l] = x at hx
    unfold tappetref07_crossing_l1
    simp only [idxN hl, hi, Option.bind_some]
    rcases Bool.eq_false_or_eq_true (x.Op != 20) with h | h
    · rw [pick_f (by rintro ⟨m, _, il, im, e1, e2, _⟩; rw [hx] at e1; cases e1; simp [e2] at h)]
      simp [h]
    · have ho : x.Op = 20 := by simpa using h
      have hr : room l 1 = some () := by unfold room; rw [if_pos (by omega)]
      have inner : forN (tappetref07_crossing_l2 code B l) (fun _ => (.inl ())) l 0 () = some (sumOf (findN (fun m => pick (Crs code l m) ((l : Int), true)) l 0)) := by
        refine search0 _ (N := l) ?_
        intro m again hm
        have hmc : m < code.length := by omega
        have hy := List.getElem?_eq_getElem hmc
        generalize hj : code[m] = y at hy
        unfold tappetref07_crossing_l2
        simp only [idxN hmc, hj, Option.bind_some]
        rcases Bool.eq_false_or_eq_true (y.Op != 20) with h' | h'
        · rw [pick_f (by rintro ⟨il, im, _, _, e3, e4, _⟩; rw [hy] at e3; cases e3; simp [e4] at h')]
          simp [h']
        · have ho' : y.Op = 20 := by simpa using h'
          obtain ⟨s, hs, q1, q2⟩ := cross3 hn hB hBl hl hmc
          have hcr := crs_iff hD hm hx ho hy ho'
          rw [hs]
          simp only [h', Option.bind_some]
          by_cases hc : Crs code l m
          · rw [pick_t hc]
            have c := hcr.1 hc
            have c1 := q1.2 c.1
            have c2 := q2.2 c.2
            simp [c1, c2]
          · rw [pick_f hc]
            have c : ¬ (0 < s.1 ∧ s.2 = false) := fun ⟨c1, c2⟩ => hc (hcr.2 ⟨q1.1 c1, q2.1 c2⟩)
            have : (decide (s.1 > 0) && !s.2) = false := by
              cases h5 : (decide (s.1 > 0) && !s.2) with
              | false => rfl
              | true => exfalso; apply c; simpa using h5
            simp [this]
      simp only [h, hr, inner, Option.bind_some]
      obtain ⟨o, ho1, ho2⟩ := first_findN (X := Crs code l) (n := l) (v := fun _ => ((l : Int), true))
      rw [ho2]
      cases o with
      | none => rw [pick_f (fun ⟨m, h1, h2⟩ => ho1 m h1 h2)]; simp [sumOf]
      | some m => rw [pick_t ⟨m, ho1.1, ho1.2.1⟩]; simp [sumOf]
  obtain ⟨o, h1, h2⟩ := first_findN (X := Cr code) (n := code.length) (v := fun l => ((l : Int), true))
  refine ⟨o, h1, ?_⟩
  unfold tappetref07_crossing
  rw [main, h2]
  cases o <;> rfl
theorem sorted_lt {ls : List api_Loop} (hs : ls.Pairwise (fun a b => a.At < b.At)) {i j : Nat} {a b : api_Loop} (hi : ls[i]? = some a) (hj : ls[j]? = some b) : a.At < b.At ↔ i < j := by
  obtain ⟨h1, rfl⟩ := List.getElem?_eq_some_iff.1 hi
  obtain ⟨h2, rfl⟩ := List.getElem?_eq_some_iff.1 hj
  constructor
  · intro h
    rcases Nat.lt_trichotomy i j with h3 | h3 | h3
    · exact h3
    · subst h3; omega
    · have := List.pairwise_iff_getElem.1 hs j i h2 h1 h3; omega
  · intro h
    exact List.pairwise_iff_getElem.1 hs i j h1 h2 h
theorem cut_pre {α : Type} {xs : List α} {k : Nat} (hk : k ≤ xs.length) : cut xs 0 (k : Int) = some (xs.take k) := by
  unfold cut
  rw [if_pos (by omega)]
  simp
theorem nested1 {code : List api_Inst} (hn : code.length ≤ 64) (hD : Fine code) :
    ∃ o, First (Cr code) code.length o ∧ forN (flow_nested_l1 (lps code code.length)) (fun _ => (.inl ())) (lps code code.length).length 0 () = some (sumOf (o.map fun (l : Nat) => ((l : Int), (31 : Int)))) := by
  have hs := (lps_sorted code code.length).1
  have hl := lps_len code code.length
  generalize hls : lps code code.length = ls at hs hl ⊢
  have mem : ∀ {l : api_Loop}, l ∈ ls ↔ ∃ q i, q < code.length ∧ code[q]? = some i ∧ i.Op = 20 ∧ l = loopAt i q := by
    intro l; rw [← hls]; exact mem_lps
  have main : forN (flow_nested_l1 ls) (fun _ => (.inl ())) ls.length 0 () = some (sumOf (findN (fun k => match ls[k]? with | some l => pick (Cr code l.At.toNat) (l.At, (31 : Int)) | none => none) ls.length 0)) := by
    refine search0 _ (N := ls.length) ?_
    intro k again hk
    have hx := List.getElem?_eq_getElem hk
    generalize hi : ls[k] = x at hx
    obtain ⟨q, i, hq, hqi, hop, rfl⟩ := mem.1 (List.mem_of_getElem? hx)
    unfold flow_nested_l1
    have htl : (ls.take k).length = k := by rw [List.length_take]; omega
    have inner : forN (flow_nested_l2 (loopAt i q) (ls.take k)) (fun _ => (.inl ())) k 0 () = some (sumOf (findN (fun m => match ls[m]? with | some l => pick (Crs code q l.At.toNat) ((q : Int), (31 : Int)) | none => none) k 0)) := by
      refine search0 _ (N := k) ?_
      intro m again hm
      have hml : m < ls.length := by omega
      have hy := List.getElem?_eq_getElem hml
      generalize hj : ls[m] = y at hy
      have hyt : idx (ls.take k) (m : Int) = some y := by
        rw [idxN (by omega)]
        simp [List.getElem_take, hj]
      obtain ⟨q', i', hq', hqi', hop', rfl⟩ := mem.1 (List.mem_of_getElem? hy)
      unfold flow_nested_l2
      simp only [hyt, hy, Option.bind_some]
      have e : ((loopAt i' q').At).toNat = q' := by simp [loopAt]
      rw [e]
      by_cases hc : Crs code q q'
      · rw [pick_t hc]
        obtain ⟨il, im, e1, _, e3, _, c1, c2⟩ := hc
        rw [hqi] at e1; cases e1
        rw [hqi'] at e3; cases e3
        have : (decide ((loopAt i' q').At ≥ (loopAt i q).Head) && decide ((loopAt i' q').Head < (loopAt i q).Head)) = true := by
          have a1 : (loopAt i' q').At = q' := rfl
          have a2 : (loopAt i q).Head = q - i.D := rfl
          have a3 : (loopAt i' q').Head = q' - i'.D := rfl
          simp only [a1, a2, a3, Bool.and_eq_true, decide_eq_true_eq]; exact ⟨c1, c2⟩
        simp only [this]; rfl
      · rw [pick_f hc]
        have : (decide ((loopAt i' q').At ≥ (loopAt i q).Head) && decide ((loopAt i' q').Head < (loopAt i q).Head)) = false := by
          cases h : (decide ((loopAt i' q').At ≥ (loopAt i q).Head) && decide ((loopAt i' q').Head < (loopAt i q).Head)) with
          | false => rfl
          | true =>
            exfalso; apply hc
            have a1 : (loopAt i' q').At = q' := rfl
            have a2 : (loopAt i q).Head = q - i.D := rfl
            have a3 : (loopAt i' q').Head = q' - i'.D := rfl
            simp only [a1, a2, a3, Bool.and_eq_true, decide_eq_true_eq] at h
            exact ⟨i, i', hqi, hop, hqi', hop', h.1, h.2⟩
        simp only [this]; rfl
    simp only [idxN hk, hi, hx, Option.bind_some, cut_pre (Nat.le_of_lt hk), htl, inner]
    have e : ((loopAt i q).At).toNat = q := by simp [loopAt]
    rw [e]
    cases hf : findN (fun m => match ls[m]? with | some l => pick (Crs code q l.At.toNat) ((q : Int), (31 : Int)) | none => none) k 0 with
    | some v =>
      obtain ⟨m, _, h2, h3, _⟩ := findN_some hf
      have hml : m < ls.length := by omega
      have hy := List.getElem?_eq_getElem hml
      rw [hy] at h3
      obtain ⟨hcr, rfl⟩ := pick_some h3
      have hlt := (sorted_lt hs hy hx).2 (by omega)
      obtain ⟨q', i', hq', hqi', hop', e'⟩ := mem.1 (List.mem_of_getElem? hy)
      rw [e'] at hcr hlt
      rw [pick_t ⟨q', by simp [loopAt] at hlt; omega, by simpa [loopAt] using hcr⟩]
      rfl
    | none =>
      have h0 := findN_none hf
      rw [pick_f]
      · rfl
      · rintro ⟨m, hm, hcr⟩
        obtain ⟨il, im, e1, _, e3, e4, c1, c2⟩ := id hcr
        have hmem := mem.2 ⟨m, im, by omega, e3, e4, rfl⟩
        obtain ⟨j, hj, hje⟩ := List.mem_iff_getElem.1 hmem
        have hy := List.getElem?_eq_getElem hj
        rw [hje] at hy
        have hlt := (sorted_lt hs hy hx).1 (by simp [loopAt]; omega)
        have := h0 j (by omega) (by omega)
        rw [hy] at this
        exact pick_none this (by simpa [loopAt] using hcr)
  cases hf : findN (fun k => match ls[k]? with | some l => pick (Cr code l.At.toNat) (l.At, (31 : Int)) | none => none) ls.length 0 with
  | none =>
    refine ⟨none, fun q hq hc => ?_, by rw [main, hf]; rfl⟩
    obtain ⟨m, hm, il, im, e1, e2, _⟩ := id hc
    obtain ⟨j, hj, hje⟩ := List.mem_iff_getElem.1 (mem.2 ⟨q, il, hq, e1, e2, rfl⟩)
    have := findN_none hf j (by omega) (by omega)
    rw [List.getElem?_eq_getElem hj, hje] at this
    exact pick_none this (by simpa [loopAt] using hc)
  | some v =>
    obtain ⟨k, _, h2, h3, h4⟩ := findN_some hf
    have hk : k < ls.length := by omega
    have hx := List.getElem?_eq_getElem hk
    rw [hx] at h3
    obtain ⟨hc, rfl⟩ := pick_some h3
    obtain ⟨q, i, hq, hqi, hop, e⟩ := mem.1 (List.mem_of_getElem? hx)
    refine ⟨some q, ⟨hq, ?_, fun q' hq' hc' => ?_⟩, ?_⟩
    · rw [e] at hc; simpa [loopAt] using hc
    · obtain ⟨m, hm, il, im, e1, e2, _⟩ := id hc'
      obtain ⟨j, hj, hje⟩ := List.mem_iff_getElem.1 (mem.2 ⟨q', il, by omega, e1, e2, rfl⟩)
      have hy := List.getElem?_eq_getElem hj
      have hlt := (sorted_lt hs hy hx).1 (by rw [hje, e]; simp [loopAt]; omega)
      have := h4 j (by omega) hlt
      rw [hy, hje] at this
      exact pick_none this (by simpa [loopAt] using hc')
    · rw [main, hf, e]; rfl

/-! ### entering -/
def En (code : List api_Inst) (p : Nat) : Prop := ∃ i, code[p]? = some i ∧ (goesB i).2.1 = true ∧ 0 < (goesB i).1 ∧ ∃ a ia t, a < code.length ∧ code[a]? = some ia ∧ ia.Op = 20 ∧ (t : Nat) = (p : Int) + (goesB i).1 ∧ covers code t a = true ∧ covers code p a = false ∧ (t : Int) ≠ a - ia.D
theorem goes_ne (i : api_Inst) (h : (goesB i).2.1 = true) : (goesB i).1 ≠ 0 := by
  unfold goesB at h ⊢
  split
  · rename_i hj; have := jump_D hj; simp; omega
  · split
    · rename_i hl; have := loop_D hl; simp; omega
    · rename_i h1 h2; simp [h1, h2] at h
theorem nested2 {code : List api_Inst} (hn : code.length ≤ 64) (hD : Fine code) :
    forN (flow_nested_l3 code (lps code code.length)) (fun _ => (.inl ())) code.length 0 () = some (sumOf (findN (fun p => pick (En code p) ((p : Int), (31 : Int))) code.length 0)) := by
  refine search0 _ (N := code.length) ?_
  intro p again hp
  have hx := List.getElem?_eq_getElem hp
  generalize hi : code[p] = x at hx
  have hg := goes_small x
  have e1 : w64 ((p : Int) + (goesB x).1) = p + (goesB x).1 := w64_eq (by omega) (by omega)
  have hl := lps_len code code.length
  have inner : forN (flow_nested_l4 (lps code code.length) p (goesB x)) (fun _ => (.inl ())) (lps code code.length).length 0 () =
      some (sumOf (findN (fun k => match (lps code code.length)[k]? with | some l => pick ((goesB x).2.1 = true ∧ 0 < (goesB x).1 ∧ ¬ (l.Head ≤ p ∧ (p : Int) ≤ l.At) ∧ (l.Head ≤ p + (goesB x).1 ∧ p + (goesB x).1 ≤ l.At) ∧ p + (goesB x).1 ≠ l.Head) ((p : Int), (31 : Int)) | none => none) (lps code code.length).length 0)) := by
    refine search0 _ (N := (lps code code.length).length) ?_
    intro k again hk
    have hy := List.getElem?_eq_getElem hk
    generalize hj : (lps code code.length)[k] = y at hy
    unfold flow_nested_l4
    simp only [idxN hk, hj, hy, Option.bind_some, flow_in, e1]
    by_cases hc : ((goesB x).2.1 = true ∧ 0 < (goesB x).1 ∧ ¬ (y.Head ≤ p ∧ (p : Int) ≤ y.At) ∧ (y.Head ≤ p + (goesB x).1 ∧ p + (goesB x).1 ≤ y.At) ∧ p + (goesB x).1 ≠ y.Head)
    · rw [pick_t hc]
      obtain ⟨c1, c2, c3, c4, c5⟩ := hc
      have d1 : (decide ((p : Int) ≥ y.Head) && decide ((p : Int) ≤ y.At)) = false := by
        cases h : (decide ((p : Int) ≥ y.Head) && decide ((p : Int) ≤ y.At)) with
        | false => rfl
        | true => exfalso; apply c3; simp at h; omega
      have d2 : (decide ((p : Int) + (goesB x).1 ≥ y.Head) && decide ((p : Int) + (goesB x).1 ≤ y.At)) = true := by simp; omega
      have d3 : decide ((goesB x).1 > 0) = true := by simp; omega
      have d4 : ((p : Int) + (goesB x).1 != y.Head) = true := by simp; omega
      simp only [c1, d1, d2, d3, d4]; rfl
    · rw [pick_f hc]
      rcases Bool.eq_false_or_eq_true (goesB x).2.1 with c1 | c1
      · rcases Bool.eq_false_or_eq_true (decide ((goesB x).1 > 0)) with d3 | d3
        · rcases Bool.eq_false_or_eq_true (decide ((p : Int) ≥ y.Head) && decide ((p : Int) ≤ y.At)) with d1 | d1
          · simp only [c1, d3, d1]; rfl
          · rcases Bool.eq_false_or_eq_true (decide ((p : Int) + (goesB x).1 ≥ y.Head) && decide ((p : Int) + (goesB x).1 ≤ y.At)) with d2 | d2
            · rcases Bool.eq_false_or_eq_true ((p : Int) + (goesB x).1 != y.Head) with d4 | d4
              · exfalso; apply hc
                simp at d1 d2 d3 d4
                exact ⟨c1, d3, by omega, by omega, d4⟩
              · simp only [c1, d3, d1, d2, d4]; rfl
            · simp only [c1, d3, d1, d2]; rfl
        · simp only [c1, d3]; rfl
      · simp only [c1]; rfl
  unfold flow_nested_l3
  simp only [idxN hp, hi, Option.bind_some, opsGoes_eq, inner]
  cases hf : findN (fun k => match (lps code code.length)[k]? with | some l => pick ((goesB x).2.1 = true ∧ 0 < (goesB x).1 ∧ ¬ (l.Head ≤ p ∧ (p : Int) ≤ l.At) ∧ (l.Head ≤ p + (goesB x).1 ∧ p + (goesB x).1 ≤ l.At) ∧ p + (goesB x).1 ≠ l.Head) ((p : Int), (31 : Int)) | none => none) (lps code code.length).length 0 with
  | some v =>
    obtain ⟨k, _, h2, h3, _⟩ := findN_some hf
    have hk : k < (lps code code.length).length := by omega
    have hy := List.getElem?_eq_getElem hk
    rw [hy] at h3
    obtain ⟨⟨c1, c2, c3, c4, c5⟩, rfl⟩ := pick_some h3
    obtain ⟨q, i, hq, hqi, hop, e⟩ := mem_lps.1 (List.mem_of_getElem? hy)
    rw [e] at c3 c4 c5
    simp only [loopAt] at c3 c4 c5
    have hpos : 0 ≤ (p : Int) + (goesB x).1 := by omega
    have hcv : covers code p q = false := by
      cases hcv : covers code p q with
      | false => rfl
      | true => exfalso; apply c3; have := (covers_iff hqi hop).1 hcv; omega
    have hE : En code p := ⟨x, hx, c1, c2, q, i, ((p : Int) + (goesB x).1).toNat, hq, hqi, hop, by omega, (covers_iff hqi hop).2 (by omega), hcv, by omega⟩
    rw [pick_t hE]
    rfl
  | none =>
    have h0 := findN_none hf
    rw [pick_f]
    · rfl
    · rintro ⟨i', hi', c1, c2, a, ia, t, ha, hia, hop, ht, v1, v2, v3⟩
      rw [hx] at hi'; cases hi'
      obtain ⟨j, hj, hje⟩ := List.mem_iff_getElem.1 (mem_lps.2 ⟨a, ia, ha, hia, hop, rfl⟩ : loopAt ia a ∈ lps code code.length)
      have := h0 j (by omega) (by omega)
      rw [List.getElem?_eq_getElem hj, hje] at this
      refine pick_none this ⟨c1, c2, ?_, ?_, ?_⟩
      · intro hh
        simp only [loopAt] at hh
        have := (covers_iff hia hop).2 (show (a : Int) - ia.D ≤ p ∧ p ≤ a by omega)
        rw [v2] at this; cases this
      · have := (covers_iff hia hop).1 v1
        simp only [loopAt]; omega
      · simp only [loopAt]; omega
def EnX (code : List api_Inst) (p : Nat) (d a : Int) : Prop := ∃ (q : Nat) (ia : api_Inst), a = q ∧ q < code.length ∧ code[q]? = some ia ∧ covers code p q = false ∧ (p : Int) + d ≠ q - ia.D
theorem refEntering {code : List api_Inst} (hn : code.length ≤ 64) (hD : Fine code) {B : List (List Int)} (hB : ∀ p, p < code.length → B[p]? = some (bod code code.length p)) (hBl : B.length = code.length) (fu : Nat) (hf : 100 ≤ fu) :
    tappetref07_entering fu code B = some (match findN (fun p => pick (En code p) ((p : Int), true)) code.length 0 with | some v => v | none => (0, false)) := by
  have main : forN (tappetref07_entering_l1 fu code B) (fun _ => (.inl ())) code.length 0 () = some (sumOf (findN (fun p => pick (En code p) ((p : Int), true)) code.length 0)) := by
    refine search0 _ (N := code.length) ?_
    intro p again hp
    have hx := List.getElem?_eq_getElem hp
    generalize hi : code[p] = x at hx
    have hg := goes_small x
    have e1 : w64 ((p : Int) + (goesB x).1) = p + (goesB x).1 := w64_eq (by omega) (by omega)
    unfold tappetref07_entering_l1
    simp only [idxN hp, hi, Option.bind_some, refGoes_eq]
    rcases Bool.eq_false_or_eq_true ((!(goesB x).2.1) || decide ((goesB x).1 < 0)) with h | h
    · rw [pick_f]
      · simp only [h]; rfl
      · rintro ⟨i', hi', c1, c2, _⟩
        rw [hx] at hi'; cases hi'
        simp [c1] at h; omega
    · have h' : (goesB x).2.1 = true ∧ 0 ≤ (goesB x).1 := by simpa using h
      have hne := goes_ne x h'.1
      have hb := hD.leads hx h'.1
      generalize hd : (goesB x).1 = d at e1 hb h' hne hg
      have ht : ((p : Int) + d).toNat < code.length := by omega
      have hbt := hB _ ht
      have hbp := hB p hp
      have hbl := bod_len code code.length ((p : Int) + d).toNat
      generalize hbo : bod code code.length ((p : Int) + d).toNat = bt at hbt hbl
      have hit : idx B ((p : Int) + d) = some bt := by unfold Go.Sx.idx; rw [if_pos hb.1, hbt]
      have hip : idx B (p : Int) = some (bod code code.length p) := by unfold Go.Sx.idx; rw [if_pos (by omega)]; simpa using hbp
      -- the condition at a loop of the target's list
      generalize hX0 : EnX code p d = X
      have hin : OK (loop (tappetref07_entering_l2 code B p (goesB x)) fu 0) (fun r => (r = .inr ((p : Int), true) ∧ ∃ a ∈ bt, X a) ∨ (r = .inl () ∧ ∀ a ∈ bt, ¬ X a)) := by
        refine OK.rounds (fun s : Int => 0 ≤ s ∧ s ≤ bt.length ∧ ∀ (k : Nat) (a : Int), (k : Int) < s → bt[k]? = some a → ¬ X a) (fun s => ((bt.length : Int) - s).toNat) ?_ fu 0 ⟨by omega, by omega, fun k a hk => by omega⟩ (by omega)
        rintro s again ⟨s0, s1, s2⟩ k2
        unfold tappetref07_entering_l2
        simp only [hd, e1, hit, Option.bind_some]
        refine OK.ite (fun hc => ?_) (fun hc => ?_)
        · have hc' : s < bt.length := by simpa using hc
          refine OK.bind (OK.get s0 hc' (fun a ha => ?_))
          obtain ⟨q, hq, hcv, rfl⟩ := mem_bod.1 (by rw [hbo]; exact List.mem_of_getElem? ha)
          have hq2 := List.getElem?_eq_getElem hq
          generalize hqi : code[q] = ia at hq2
          have hop : ia.Op = 20 := by
            unfold covers at hcv; rw [hq2] at hcv; simp at hcv; exact hcv.1.1
          have dl := hD.loop hq2 hop
          have e2 : w64 ((q : Int) - ia.D) = q - ia.D := w64_eq (by omega) (by omega)
          have e3 : w64 (s + 1) = s + 1 := w64_eq (by omega) (by omega)
          simp only [hip, Option.bind_some, has_eq, has_bod hq, idxN hq, hqi, e2]
          rcases Bool.eq_false_or_eq_true (covers code p q) with cv | cv
          · simp only [cv, Option.bind_some]
            refine OK.bind (OK.ite (fun h5 => absurd h5 (by simp)) (fun _ => OK.ret ?_))
            refine OK.ite (fun h5 => absurd h5 (by simp)) (fun _ => ?_)
            rw [e3]
            refine k2 _ ⟨by omega, by omega, fun k a hk hka => ?_⟩ (by omega)
            rcases Int.lt_or_le k s with h6 | h6
            · exact s2 k a h6 hka
            · have : k = s.toNat := by omega
              subst this
              rw [ha] at hka; cases hka
              rw [← hX0]
              rintro ⟨q', ia', e4, _, _, e5, _⟩
              have : q = q' := by omega
              subst this
              rw [cv] at e5; cases e5
          · simp only [cv, Option.bind_some]
            refine OK.bind (OK.ite (fun h5 => OK.ret ?_) (fun h5 => absurd h5 (by simp)))
            refine OK.ite (fun h5 => OK.ret ?_) (fun h5 => ?_)
            · exact .inl ⟨rfl, _, List.mem_of_getElem? ha, by rw [← hX0]; exact ⟨q, ia, rfl, hq, hq2, cv, by simpa using h5⟩⟩
            · rw [e3]
              refine k2 _ ⟨by omega, by omega, fun k a hk hka => ?_⟩ (by omega)
              rcases Int.lt_or_le k s with h6 | h6
              · exact s2 k a h6 hka
              · have : k = s.toNat := by omega
                subst this
                rw [ha] at hka; cases hka
                rw [← hX0]
                rintro ⟨q', ia', e4, _, e6, _, e7⟩
                have : q = q' := by omega
                subst this
                rw [hq2] at e6; cases e6
                exact e7 (by simpa using h5)
        · have hc' : ¬ s < bt.length := by simpa using hc
          refine OK.ret (.inr ⟨rfl, fun a ha => ?_⟩)
          obtain ⟨k, hk, rfl⟩ := List.mem_iff_getElem.1 ha
          exact s2 k _ (by omega) (List.getElem?_eq_getElem hk)
      obtain ⟨r, hr, hcase⟩ := hin
      have hX : (∃ a ∈ bt, X a) ↔ En code p := by
        rw [← hX0]
        constructor
        · rintro ⟨a, ha, q, ia, rfl, hq, hq2, cv, hne2⟩
          rw [← hbo] at ha
          obtain ⟨q', _, hcv, e⟩ := mem_bod.1 ha
          have : q = q' := by omega
          subst this
          have hop : ia.Op = 20 := by
            unfold covers at hcv; rw [hq2] at hcv; simp at hcv; exact hcv.1.1
          exact ⟨x, hx, h'.1, by rw [hd]; omega, q, ia, _, hq, hq2, hop, by rw [hd]; omega, hcv, cv, by omega⟩
        · rintro ⟨i', hi', c1, c2, a, ia, t, ha, hia, hop, ht2, v1, v2, v3⟩
          rw [hx] at hi'; cases hi'
          rw [hd] at ht2
          have : ((p : Int) + d).toNat = t := by omega
          subst this
          refine ⟨a, by rw [← hbo]; exact mem_bod.2 ⟨a, ha, v1, rfl⟩, a, ia, rfl, ha, hia, v2, by omega⟩
      rw [hd] at h
      simp only [h, hr, Option.bind_some]
      rcases hcase with ⟨rfl, hc⟩ | ⟨rfl, hc⟩
      · rw [pick_t (hX.1 hc)]; rfl
      · rw [pick_f (fun h9 => by obtain ⟨a, ha, h10⟩ := hX.2 h9; exact hc a ha h10)]; rfl
  unfold tappetref07_entering
  rw [main]
  cases findN (fun p => pick (En code p) ((p : Int), true)) code.length 0 <;> rfl

/-! ### cost -/
/-- how often place p may be come to, by the loops among the first k places -/
def times (code : List api_Inst) (p : Nat) : Nat → Int
  | 0 => 1
  | k + 1 => match code[k]? with
    | some i => if covers code p k then times code p k * (i.Imm + 1) else times code p k
    | none => times code p k
def sumT (code : List api_Inst) : Nat → Int
  | 0 => 0
  | k + 1 => sumT code k + times code k code.length
theorem covers_op {code : List api_Inst} {p a : Nat} {i : api_Inst} (hi : code[a]? = some i) (h : covers code p a = true) : i.Op = 20 := by
  unfold covers at h; rw [hi] at h; simp at h; exact h.1.1
theorem times_pos {code : List api_Inst} (hD : Fine code) (p : Nat) : ∀ k, 1 ≤ times code p k
  | 0 => by simp [times]
  | k + 1 => by
    have ih := times_pos hD p k
    unfold times
    split
    · rename_i i hi
      split
      · rename_i hc
        have hd := hD.loop hi (covers_op hi hc)
        have : 1 * 1 ≤ times code p k * (i.Imm + 1) := Int.mul_le_mul ih (by omega) (by omega) (by omega)
        omega
      · exact ih
    · exact ih
theorem sumT_nonneg {code : List api_Inst} (hD : Fine code) : ∀ k : Nat, (k : Int) ≤ sumT code k
  | 0 => by simp [sumT]
  | k + 1 => by
    have := sumT_nonneg hD k
    have h2 := times_pos hD k code.length
    unfold sumT
    omega
theorem sumT_succ (code : List api_Inst) (k : Nat) : sumT code (k + 1) = sumT code k + times code k code.length := rfl
def mn (x : Int) : Int := if x ≤ 257 then x else 257
theorem mn_mul {x b : Int} (hx : 1 ≤ x) (hb : 1 ≤ b) : mn (mn x * b) = mn (x * b) := by
  unfold mn
  by_cases h : x ≤ 257
  · rw [if_pos h]
  · rw [if_neg h]
    have h1 : 257 * 1 ≤ 257 * b := Int.mul_le_mul_of_nonneg_left hb (by decide)
    have h2 : 258 * 1 ≤ x * b := Int.mul_le_mul (by omega) hb (by decide) (by omega)
    by_cases h3 : (257 : Int) * b ≤ 257
    · rw [if_pos h3, if_neg (by omega)]; omega
    · rw [if_neg h3, if_neg (by omega)]
theorem mn_add {a b : Int} (ha : 0 ≤ a) (hb : 0 ≤ b) : mn (mn a + mn b) = mn (a + b) := by
  unfold mn; (repeat' split) <;> omega
theorem imin_mn (x : Int) : imin x 257 = mn x := by unfold imin mn; split <;> split <;> omega
theorem mn_le (x : Int) : mn x ≤ 257 ∧ mn x ≤ x := by unfold mn; split <;> omega
/-- flow's product over the loops -/
def prodL (p : Int) : List api_Loop → Int → Int
  | [], s => s
  | l :: r, s => prodL p r (if decide (p ≥ l.Head) && decide (p ≤ l.At) then s * (l.Bound + 1) else s)
theorem prodL_append (p : Int) (l : List api_Loop) : ∀ (a : List api_Loop) (s : Int), prodL p (a ++ l) s = prodL p l (prodL p a s)
  | [], s => rfl
  | x :: r, s => by simp only [List.cons_append, prodL]; exact prodL_append p l r _
theorem prodL_times (code : List api_Inst) (p : Nat) : ∀ k, prodL p (lps code k) 1 = times code p k
  | 0 => rfl
  | k + 1 => by
    have ih := prodL_times code p k
    unfold lps times
    cases hk : code[k]? with
    | none => exact ih
    | some i =>
      simp only
      by_cases ho : i.Op = 20
      · rw [if_pos (by simp [ho]), prodL_append, ih]
        simp only [prodL, loopAt]
        have : covers code p k = (decide ((p : Int) ≥ (k : Int) - i.D) && decide ((p : Int) ≤ k)) := by
          rw [Bool.eq_iff_iff, covers_iff hk ho]; simp
        rw [this]
        rfl
      · rw [if_neg (by simp [ho])]
        have : covers code p k = false := by simp [covers, hk, ho]
        simp [this, ih]
theorem cost2 {code : List api_Inst} (hn : code.length ≤ 64) (hD : Fine code) (p : Nat) :
    forN (flow_cost_l2 (lps code code.length) p) (fun (s : Int) => s) (lps code code.length).length 0 1 = some (mn (times code p code.length)) := by
  have hbound : ∀ (k : Nat) (l : api_Loop), (lps code code.length)[k]? = some l → 1 ≤ l.Bound ∧ l.Bound ≤ 255 := by
    intro k l hl
    obtain ⟨q, i, _, h2, h3, rfl⟩ := mem_lps.1 (List.mem_of_getElem? hl)
    have := hD.loop h2 h3
    simp only [loopAt]; omega
  rw [← prodL_times code p code.length]
  generalize lps code code.length = ls at hbound
  refine OK.is ?_
  refine OK.count (fun (i : Nat) (s : Int) => s = mn (prodL p (ls.take i) 1) ∧ 1 ≤ prodL p (ls.take i) 1) ⟨by simp [prodL, mn], by simp [prodL]⟩ ?_ (fun s h => by rw [h.1]; simp)
  intro i s again hi ⟨hs, h1⟩ k
  unfold flow_cost_l2
  refine OK.bind (OK.getN hi (fun x hx => ?_))
  have hb := hbound i x hx
  have htake : ls.take (i + 1) = ls.take i ++ [x] := by
    rw [List.take_add_one, hx]; rfl
  simp only [flow_in, Option.bind_some]
  have hmn := mn_le (prodL p (ls.take i) 1)
  have hs1 : 1 ≤ s := by rw [hs]; unfold mn; split <;> omega
  refine OK.ite (fun hc => ?_) (fun hc => ?_)
  · have e1 : w64 (x.Bound + 1) = x.Bound + 1 := w64_eq (by omega) (by omega)
    have m1 : s * (x.Bound + 1) ≤ 257 * 256 := Int.mul_le_mul (by omega) (by omega) (by omega) (by omega)
    have m0 : 0 ≤ s * (x.Bound + 1) := Int.mul_nonneg (by omega) (by omega)
    have e2 : w64 (s * (x.Bound + 1)) = s * (x.Bound + 1) := w64_eq (by omega) (by omega)
    rw [e1, e2, imin_mn]
    refine k _ ⟨?_, ?_⟩
    · rw [htake, prodL_append]
      simp only [prodL, hc, if_true]
      rw [hs, mn_mul h1 (by omega)]
    · rw [htake, prodL_append]
      simp only [prodL, hc, if_true]
      have : 1 * 1 ≤ prodL p (ls.take i) 1 * (x.Bound + 1) := Int.mul_le_mul h1 (by omega) (by omega) (by omega)
      omega
  · refine k _ ⟨?_, ?_⟩
    · rw [htake, prodL_append]
      simp only [prodL, hc]
      exact hs
    · rw [htake, prodL_append]
      simp only [prodL, hc]
      exact h1
theorem flowCost {code : List api_Inst} (hn : code.length ≤ 64) (hD : Fine code) : flow_cost code = some (mn (sumT code code.length)) := by
  unfold flow_cost
  rw [loops_eq hn hD]
  simp only [Option.bind_some]
  refine OK.is ?_
  refine OK.bind2 (R := fun y => y = mn (sumT code code.length)) ?_ (fun x hx => OK.ret hx)
  refine OK.count (fun (i : Nat) (s : Int) => s = mn (sumT code i)) (by simp [sumT, mn]) ?_ (fun s h => h)
  intro i s again hi hs k
  subst hs
  unfold flow_cost_l1
  rw [cost2 hn hD i]
  simp only [Option.bind_some]
  have h1 := mn_le (times code i code.length)
  have h2 := mn_le (sumT code i)
  have h3 := times_pos hD i code.length
  have h4 := sumT_nonneg hD i
  have p1 : 1 ≤ mn (times code i code.length) := by unfold mn; split <;> omega
  have p2 : 0 ≤ mn (sumT code i) := by unfold mn; split <;> omega
  rw [w64_eq (by omega) (by omega), imin_mn]
  refine k _ ?_
  rw [sumT_succ, mn_add (by omega) (by omega)]
theorem refCost {code : List api_Inst} (hn : code.length ≤ 64) (hD : Fine code) {B : List (List Int)} (hB : ∀ p, p < code.length → B[p]? = some (bod code code.length p)) (hBl : B.length = code.length) (fu : Nat) (hf : 100 ≤ fu) :
    OK (tappetref07_cost fu code B) (fun S => mn S = mn (sumT code code.length)) := by
  unfold tappetref07_cost
  refine OK.bind2 (R := fun S => mn S = mn (sumT code code.length)) ?_ (fun x hx => OK.ret hx)
  refine OK.count (fun (i : Nat) (s : Int) => mn s = mn (sumT code i) ∧ 0 ≤ s ∧ s ≤ 65536 * i) (by simp [sumT]) ?_ (fun s h => h.1)
  intro p s again hp ⟨hs, s0, s1⟩ k
  unfold tappetref07_cost_l1
  have hbp := hB p hp
  have hip : idx B (p : Int) = some (bod code code.length p) := by unfold Go.Sx.idx; rw [if_pos (by omega)]; simpa using hbp
  have hbl := bod_len code code.length p
  -- the product over the body's list
  let prodB : List Int → Int := fun l => l.foldl (fun s a => s * ((code[a.toNat]?.map (·.Imm)).getD 0 + 1)) 1
  have hprod : ∀ k, prodB (bod code k p) = times code p k := by
    intro k
    induction k with
    | zero => rfl
    | succ k ih =>
      rw [bod_succ]
      unfold times
      cases hk : code[k]? with
      | none =>
        have : covers code p k = false := by simp [covers, hk]
        simp [this, ih]
      | some i =>
        simp only
        cases hc : covers code p k with
        | false => simp [ih]
        | true =>
          simp only [if_true]
          show (bod code k p ++ [(k : Int)]).foldl _ 1 = _
          rw [List.foldl_append]
          have ih' : (bod code k p).foldl (fun s a => s * ((code[a.toNat]?.map (·.Imm)).getD 0 + 1)) 1 = times code p k := ih
          rw [ih']
          simp [hk]
  have himm : ∀ (j : Nat) (a : Int), (bod code code.length p)[j]? = some a → ∃ (q : Nat) (i : api_Inst), a = q ∧ q < code.length ∧ code[q]? = some i ∧ 1 ≤ i.Imm ∧ i.Imm ≤ 255 := by
    intro j a ha
    obtain ⟨q, hq, hcv, rfl⟩ := mem_bod.1 (List.mem_of_getElem? ha)
    have hq2 := List.getElem?_eq_getElem hq
    have := hD.loop hq2 (covers_op hq2 hcv)
    exact ⟨q, _, rfl, hq, hq2, by omega, by omega⟩
  have htm := hprod code.length
  generalize bod code code.length p = bt at hip hbl himm htm
  have mono : ∀ (n i : Nat), i + n = bt.length → 1 ≤ prodB (bt.take i) → prodB (bt.take i) ≤ prodB bt := by
    intro n
    induction n with
    | zero => intro i hi _; rw [List.take_of_length_le (by omega)]; omega
    | succ n ih =>
      intro i hi h1
      have hlt : i < bt.length := by omega
      have hget := List.getElem?_eq_getElem hlt
      obtain ⟨q, im, e, _, hq, i1, i2⟩ := himm i _ hget
      have htake : prodB (bt.take (i + 1)) = prodB (bt.take i) * (im.Imm + 1) := by
        show (bt.take (i + 1)).foldl _ 1 = _
        rw [List.take_add_one, hget, List.foldl_append]
        simp [e, hq]
        rfl
      have h2 : prodB (bt.take i) * 1 ≤ prodB (bt.take i) * (im.Imm + 1) := Int.mul_le_mul_of_nonneg_left (by omega) (by omega)
      have h3 := ih (i + 1) (by omega) (by rw [htake]; omega)
      rw [htake] at h3
      omega
  have hl : OK (loop (tappetref07_cost_l2 code B p) fu (1, 0)) (fun t => mn t = mn (times code p code.length) ∧ 1 ≤ t ∧ t ≤ 65536) := by
    refine OK.rounds (fun (s : Int × Int) => 0 ≤ s.2 ∧ s.2 ≤ bt.length ∧ s.1 = prodB (bt.take s.2.toNat) ∧ 1 ≤ s.1 ∧ s.1 ≤ 65536) (fun s => ((bt.length : Int) - s.2).toNat) ?_ fu _ ⟨by simp, by simp, by simp [prodB], by simp, by simp⟩ (by simp; omega)
    rintro ⟨t, j⟩ again ⟨j0, j1, ht, t1, t2⟩ k2
    simp only at j0 j1 ht t1 t2
    unfold tappetref07_cost_l2
    simp only [hip, Option.bind_some]
    have stop : (¬ j < bt.length ∨ ¬ t ≤ 256) → mn t = mn (times code p code.length) := by
      intro h
      rw [← htm]
      rcases h with h | h
      · rw [ht, List.take_of_length_le (by omega)]
      · have h5 := mono (bt.length - j.toNat) j.toNat (by omega) (by rw [← ht]; omega)
        rw [← ht] at h5
        unfold mn
        split <;> split <;> omega
    refine OK.bind (OK.ite (fun hc => OK.ret ?_) (fun hc => OK.ret ?_))
    · refine OK.ite (fun hd => ?_) (fun hd => ?_)
      · have hj : j < bt.length := by simpa using hc
        have ht3 : t ≤ 256 := by simpa using hd
        refine OK.bind (OK.get j0 hj (fun a ha => ?_))
        obtain ⟨q, im, rfl, hq1, hq, i1, i2⟩ := himm _ _ ha
        refine OK.bind (OK.getN hq1 (fun y hy => ?_))
        rw [hq] at hy; cases hy
        have m1 : t * (im.Imm + 1) ≤ 256 * 256 := Int.mul_le_mul (by omega) (by omega) (by omega) (by omega)
        have m0 : 1 * 1 ≤ t * (im.Imm + 1) := Int.mul_le_mul (by omega) (by omega) (by omega) (by omega)
        have e1 : w64 (im.Imm + 1) = im.Imm + 1 := w64_eq (by omega) (by omega)
        have e2 : w64 (t * (im.Imm + 1)) = t * (im.Imm + 1) := w64_eq (by omega) (by omega)
        have e3 : w64 (j + 1) = j + 1 := w64_eq (by omega) (by omega)
        rw [e1, e2, e3]
        refine k2 _ ⟨by simp only; omega, by simp only; omega, ?_, by simp only; omega, by simp only; omega⟩ (by simp only; omega)
        simp only
        have : (j + 1).toNat = j.toNat + 1 := by omega
        rw [this]
        show _ = (bt.take (j.toNat + 1)).foldl _ 1
        rw [List.take_add_one, ha, List.foldl_append, ht]
        simp [hq]
        rfl
      · exact OK.ret ⟨stop (.inr (by simpa using hd)), t1, t2⟩
    · refine OK.ite (fun hd => absurd hd (by simp)) (fun hd => ?_)
      exact OK.ret ⟨stop (.inl (by simpa using hc)), t1, t2⟩
  refine OK.bind2 hl ?_
  rintro t ⟨ht, t1, t2⟩
  rw [w64_eq (by omega) (by omega)]
  refine k _ ⟨?_, by omega, by omega⟩
  have h3 := times_pos hD p code.length
  have h4 := sumT_nonneg hD p
  rw [sumT_succ, ← mn_add (by omega) (by omega), ← mn_add (a := sumT code p) (by omega) (by omega), ht, hs]
end Go.Proofs.YtjhmkpklhajpcaaDoor

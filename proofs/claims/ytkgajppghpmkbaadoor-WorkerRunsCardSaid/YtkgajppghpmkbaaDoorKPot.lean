/- How often places may still be come to: a measure that falls at each step through a code that is taken. -/
import Derived.Test.YtkgajppghpmkbaaDoorKCheck
set_option linter.unusedVariables false
set_option linter.unusedSimpArgs false
namespace Go.Proofs.YtkgajppghpmkbaaDoor
open Go.Sx

def rem (code : List api_Inst) (back : Nat → Int) (a : Nat) : Int := match code[a]? with
  | some i => i.Imm - back a
  | none => 0
def val (code : List api_Inst) (back : Nat → Int) (q p : Nat) : Nat → Int
  | 0 => if q ≤ p then 1 else 0
  | k + 1 =>
    if covers code p k then
      (if covers code q k then val code back q p k + rem code back k * times code p k else val code back q p k * (rem code (fun _ => 0) k + 1))
    else val code back q p k
theorem times_succ {code : List api_Inst} {p k : Nat} (hk : k < code.length) : times code p (k + 1) = if covers code p k then times code p k * (rem code (fun _ => 0) k + 1) else times code p k := by
  have h : times code p (k + 1) = match code[k]? with
    | some i => if covers code p k then times code p k * (i.Imm + 1) else times code p k
    | none => times code p k := rfl
  rw [h, List.getElem?_eq_getElem hk]
  simp only [rem, List.getElem?_eq_getElem hk, Int.sub_zero]
theorem val_succ (code : List api_Inst) (back : Nat → Int) (q p k : Nat) : val code back q p (k + 1) =
    if covers code p k then
      (if covers code q k then val code back q p k + rem code back k * times code p k else val code back q p k * (rem code (fun _ => 0) k + 1))
    else val code back q p k := rfl

def Fit (code : List api_Inst) (back : Nat → Int) : Prop := ∀ (a : Nat) (i : api_Inst), code[a]? = some i → i.Op = 20 → 0 ≤ back a ∧ back a ≤ i.Imm
section
variable {code : List api_Inst} (g : Good code) {back back' : Nat → Int}
include g
theorem cov_at {p a : Nat} (h : covers code p a = true) : ∃ i, code[a]? = some i ∧ i.Op = 20 ∧ (a : Int) - i.D ≤ p ∧ p ≤ a ∧ 1 ≤ i.D ∧ 1 ≤ i.Imm ∧ a < code.length ∧ i.D ≤ a := by
  unfold covers at h
  split at h
  · rename_i i hi
    simp only [Bool.and_eq_true, beq_iff_eq, decide_eq_true_eq] at h
    have := g.fine.loop hi h.1.1
    exact ⟨i, hi, h.1.1, h.1.2, h.2, by omega, by omega, (List.getElem?_eq_some_iff.1 hi).1, by omega⟩
  · cases h
theorem rem_bounds (hf : Fit code back) {p a : Nat} (h : covers code p a = true) : 0 ≤ rem code back a ∧ rem code back a ≤ rem code (fun _ => 0) a ∧ 1 ≤ rem code (fun _ => 0) a := by
  obtain ⟨i, hi, ho, _, _, _, h6, _⟩ := cov_at g h
  have := hf a i hi ho
  simp only [rem, hi]
  omega
theorem outer {p a b : Nat} (ha : covers code p a = true) (hb : covers code p b = true) (hab : a < b) : ∀ q, covers code q a = true → covers code q b = true := by
  intro q hq
  obtain ⟨ia, a1, a2, a3, a4, a5, a6, a7, a8⟩ := cov_at g ha
  obtain ⟨ib, b1, b2, b3, b4, b5, b6, b7, b8⟩ := cov_at g hb
  obtain ⟨iq, q1, q2, q3, q4, _⟩ := cov_at g hq
  rw [a1] at q1; cases q1
  refine (covers_iff b1 b2).2 ⟨?_, by omega⟩
  have hno := g.cr b b7
  rcases Int.lt_or_le ((a : Int) - ia.D) (b - ib.D) with h | h
  · exact absurd ⟨a, hab, ib, ia, b1, b2, a1, a2, by omega, h⟩ hno
  · omega
theorem times_pos' (p k : Nat) : 1 ≤ times code p k := times_pos g.fine p k
theorem val_nonneg (hf : Fit code back) (q p : Nat) : ∀ k, k ≤ code.length → (if q ≤ p then 1 else 0) ≤ val code back q p k := by
  intro k
  induction k with
  | zero => intro _; exact Int.le_refl _
  | succ k ih =>
    intro hk
    have ih := ih (by omega)
    rw [val_succ]
    have h0 : (0 : Int) ≤ if q ≤ p then 1 else 0 := by split <;> omega
    generalize (if q ≤ p then (1 : Int) else 0) = z at ih h0
    by_cases hc : covers code p k = true
    · rw [if_pos hc]
      have hr := rem_bounds g hf hc
      split
      · have : 0 ≤ rem code back k * times code p k := Int.mul_nonneg hr.1 (by have := times_pos' g p k; omega)
        omega
      · have : val code back q p k * 1 ≤ val code back q p k * (rem code (fun _ => 0) k + 1) := Int.mul_le_mul_of_nonneg_left (by omega) (by omega)
        omega
    · rw [if_neg hc]; exact ih
theorem val_start {q p : Nat} : ∀ k, k ≤ code.length → val code (fun _ => 0) q p k ≤ times code p k := by
  intro k
  induction k with
  | zero => intro _; simp only [val, times]; split <;> omega
  | succ k ih =>
    intro hk
    have ih := ih (by omega)
    rw [val_succ, times_succ (by omega)]
    split
    · rename_i hc
      have hf : Fit code (fun _ => 0) := fun a i hi ho => by have := g.fine.loop hi ho; exact ⟨Int.le_refl _, by simp only; omega⟩
      have hr := rem_bounds g hf hc
      have ht := times_pos' g p k
      split
      · rw [Int.mul_add, Int.mul_one, Int.mul_comm (times code p k)]; omega
      · exact Int.mul_le_mul_of_nonneg_right ih (by omega)
    · exact ih
theorem val_fwd (hf : Fit code back) {q t p : Nat} (hqt : q < t) (hin : ∀ a, covers code t a = true → covers code q a = true ∨ ∃ i, code[a]? = some i ∧ (t : Int) = a - i.D) (hb : ∀ a, covers code t a = true → back' a = back a ∧ 0 ≤ back' a) (hp : p < code.length) :
    val code back' t p code.length + (if q = p then 1 else 0) ≤ val code back q p code.length := by
  by_cases hpt : t ≤ p
  · -- behind the place that is led to
    have hne : ¬ q = p := by omega
    rw [if_neg hne]
    have main : ∀ k, k ≤ code.length → val code back' t p k ≤ val code back q p k ∧ ((∀ a, a < k → covers code p a = true → covers code q a = false) → val code back q p k = times code p k) := by
      intro k
      induction k with
      | zero => intro _; simp only [val, times]; rw [if_pos hpt, if_pos (by omega)]; exact ⟨Int.le_refl _, fun _ => rfl⟩
      | succ k ih =>
        intro hk
        obtain ⟨i1, i2⟩ := ih (by omega)
        rw [val_succ, val_succ, times_succ (by omega)]
        by_cases hc : covers code p k = true
        · rw [if_pos hc, if_pos hc, if_pos hc]
          have hr := rem_bounds g hf hc
          have ht := times_pos' g p k
          have hv := val_nonneg g hf q p k (by omega)
          rw [if_pos (by omega)] at hv
          by_cases hq : covers code q k = true
          · obtain ⟨i, c1, c2, c3, c4, c5, c6, c7, c8⟩ := cov_at g hc
            obtain ⟨i', d1, d2, d3, d4, _⟩ := cov_at g hq
            rw [c1] at d1; cases d1
            have htk : covers code t k = true := (covers_iff c1 c2).2 ⟨by omega, by omega⟩
            rw [if_pos hq, if_pos htk]
            have hrr : rem code back' k = rem code back k := by simp only [rem, c1, (hb k htk).1]
            rw [hrr]
            refine ⟨by omega, fun hall => ?_⟩
            have := hall k (by omega) hc
            rw [hq] at this; cases this
          · have hq' : covers code q k = false := by simpa using hq
            simp only [hq', Bool.false_eq_true, if_false]
            -- no loop so far is around q
            have hbefore : ∀ a, a < k → covers code p a = true → covers code q a = false := by
              intro a ha hca
              cases h : covers code q a with
              | false => rfl
              | true =>
                have := outer g hca hc ha q h
                rw [this] at hq'; cases hq'
            have hvt := i2 hbefore
            by_cases htk : covers code t k = true
            · rw [if_pos htk]
              refine ⟨?_, fun _ => by rw [hvt]⟩
              have hb2 := hb k htk
              have hrr : rem code back' k ≤ rem code (fun _ => 0) k := by
                obtain ⟨i, c1, _⟩ := cov_at g hc
                simp only [rem, c1]; omega
              have : rem code back' k * times code p k ≤ rem code (fun _ => 0) k * times code p k := Int.mul_le_mul_of_nonneg_right hrr (by omega)
              rw [hvt, Int.mul_add, Int.mul_one, Int.mul_comm (times code p k)]
              omega
            · rw [if_neg htk]
              exact ⟨Int.mul_le_mul_of_nonneg_right i1 (by omega), fun _ => by rw [hvt]⟩
        · rw [if_neg hc, if_neg hc, if_neg hc]
          refine ⟨i1, fun hall => i2 (fun a ha => hall a (by omega))⟩
    exact Int.le_trans (by omega) (main _ (Nat.le_refl _)).1
  · -- ahead of it
    have hlt : p < t := by omega
    -- a loop around p and t is around q
    have hboth : ∀ a, covers code p a = true → covers code t a = true → covers code q a = true := by
      intro a h1 h2
      rcases hin a h2 with h | ⟨i, hi, hh⟩
      · exact h
      · exfalso
        obtain ⟨i', c1, c2, c3, _⟩ := cov_at g h1
        rw [hi] at c1; cases c1
        omega
    have main : ∀ k, k ≤ code.length → (val code back' t p k + (if q = p then 1 else 0) ≤ val code back q p k ∧ (∃ a, a < k ∧ covers code p a = true ∧ covers code t a = true)) ∨
        (val code back' t p k = 0 ∧ ∀ a, a < k → covers code p a = true → covers code t a = false) := by
      intro k
      induction k with
      | zero => intro _; right; simp only [val]; rw [if_neg (by omega)]; exact ⟨rfl, fun a ha => by omega⟩
      | succ k ih =>
        intro hk
        rw [val_succ, val_succ]
        by_cases hc : covers code p k = true
        · rw [if_pos hc, if_pos hc]
          have hr := rem_bounds g hf hc
          have ht := times_pos' g p k
          have hv := val_nonneg g hf q p k (by omega)
          by_cases htk : covers code t k = true
          · have hq := hboth k hc htk
            rw [if_pos htk, if_pos hq]
            left
            have hrr : rem code back' k = rem code back k := by
              obtain ⟨i, c1, _⟩ := cov_at g hc
              simp only [rem, c1, (hb k htk).1]
            rw [hrr]
            refine ⟨?_, k, by omega, hc, htk⟩
            rcases ih (by omega) with ⟨h1, _⟩ | ⟨h1, _⟩
            · omega
            · rw [h1]
              by_cases hqp : q = p
              · rw [if_pos hqp]; rw [if_pos (by omega)] at hv; omega
              · rw [if_neg hqp]
                have : (0 : Int) ≤ if q ≤ p then 1 else 0 := by split <;> omega
                omega
          · rw [if_neg htk]
            rcases ih (by omega) with ⟨h1, a, ha, h2, h3⟩ | ⟨h1, h2⟩
            · exact absurd (outer g h2 hc ha t h3) htk
            · right
              refine ⟨by rw [h1]; omega, fun a ha hca => ?_⟩
              rcases Nat.lt_or_ge a k with h3 | h3
              · exact h2 a h3 hca
              · have : a = k := by omega
                subst this
                simpa using htk
        · rw [if_neg hc, if_neg hc]
          rcases ih (by omega) with ⟨h1, a, ha, h2, h3⟩ | ⟨h1, h2⟩
          · exact .inl ⟨h1, a, by omega, h2, h3⟩
          · refine .inr ⟨h1, fun a ha hca => ?_⟩
            rcases Nat.lt_or_ge a k with h3 | h3
            · exact h2 a h3 hca
            · have : a = k := by omega
              subst this
              exact absurd hca hc
    have hv := val_nonneg g hf q p code.length (Nat.le_refl _)
    rcases main _ (Nat.le_refl _) with ⟨h1, _⟩ | ⟨h1, _⟩
    · exact h1
    · rw [h1]
      by_cases hqp : q = p
      · rw [if_pos hqp]; rw [if_pos (by omega)] at hv; omega
      · rw [if_neg hqp]
        have : (0 : Int) ≤ if q ≤ p then 1 else 0 := by split <;> omega
        omega
theorem val_back (hf : Fit code back) {a h p : Nat} {i : api_Inst} (hi : code[a]? = some i) (ho : i.Op = 20) (hh : (h : Int) = a - i.D) (hb : back' a = back a + 1) (hb2 : ∀ b, b ≠ a → back' b = back b) (hlim : back a < i.Imm) (hp : p < code.length) :
    val code back' h p code.length + (if a = p then 1 else 0) ≤ val code back a p code.length := by
  have hd := g.fine.loop hi ho
  have hal := (List.getElem?_eq_some_iff.1 hi).1
  have hcaa : covers code a a = true := (covers_iff hi ho).2 ⟨by omega, by omega⟩
  have hcha : covers code h a = true := (covers_iff hi ho).2 ⟨by omega, by omega⟩
  -- another loop is around a just if it is around h, where it is around a place outside the body, or behind a
  have hrem : ∀ b, b ≠ a → rem code back' b = rem code back b := by
    intro b hba; unfold rem; split
    · rw [hb2 b hba]
    · rfl
  by_cases hbody : h ≤ p ∧ p ≤ a
  · have hcpa : covers code p a = true := (covers_iff hi ho).2 ⟨by omega, by omega⟩
    have low : ∀ k, k ≤ a → val code back a p k = (if a ≤ p then 1 else 0) * times code p k ∧ val code back' h p k ≤ times code p k := by
      intro k
      induction k with
      | zero => intro _; simp only [val, times]; rw [if_pos hbody.1]; simp
      | succ k ih =>
        intro hk
        obtain ⟨i1, i2⟩ := ih (by omega)
        rw [val_succ, val_succ, times_succ (by omega)]
        by_cases hc : covers code p k = true
        · rw [if_pos hc, if_pos hc, if_pos hc]
          have hr := rem_bounds g hf hc
          have ht := times_pos' g p k
          have hka : ¬ covers code a k = true := by
            intro h9
            obtain ⟨_, _, _, _, c4, _⟩ := cov_at g h9
            omega
          rw [if_neg hka, i1, Int.mul_assoc]
          refine ⟨rfl, ?_⟩
          split
          · rw [hrem k (by omega)]
            have : rem code back k * times code p k ≤ rem code (fun _ => 0) k * times code p k := Int.mul_le_mul_of_nonneg_right hr.2.1 (by omega)
            rw [Int.mul_add, Int.mul_one, Int.mul_comm (times code p k)]
            omega
          · exact Int.mul_le_mul_of_nonneg_right i2 (by omega)
        · rw [if_neg hc, if_neg hc, if_neg hc]; exact ⟨i1, i2⟩
    have high : ∀ n, a + 1 + n ≤ code.length → val code back' h p (a + 1 + n) + (if a = p then 1 else 0) ≤ val code back a p (a + 1 + n) := by
      intro n
      induction n with
      | zero =>
        intro _
        obtain ⟨l1, l2⟩ := low a (Nat.le_refl _)
        rw [Nat.add_zero, val_succ, val_succ, if_pos hcpa, if_pos hcpa, if_pos hcaa, if_pos hcha, l1]
        have ht := times_pos' g p a
        have er : rem code back' a = rem code back a - 1 := by simp only [rem, hi, hb]; omega
        rw [er, Int.sub_mul, Int.one_mul]
        by_cases hap : a = p
        · subst hap; rw [if_pos rfl, if_pos (Nat.le_refl _)]; omega
        · rw [if_neg hap]
          have : (0 : Int) ≤ (if a ≤ p then 1 else 0) * times code p a := Int.mul_nonneg (by split <;> omega) (by omega)
          omega
      | succ n ih =>
        intro hn
        have ih := ih (by omega)
        rw [show a + 1 + (n + 1) = (a + 1 + n) + 1 by omega, val_succ, val_succ]
        by_cases hc : covers code p (a + 1 + n) = true
        · have o1 := outer g hcpa hc (by omega)
          rw [if_pos hc, if_pos hc, if_pos (o1 a hcaa), if_pos (o1 h hcha), hrem _ (by omega)]
          omega
        · rw [if_neg hc, if_neg hc]; exact ih
    have := high (code.length - (a + 1)) (by omega)
    rwa [show a + 1 + (code.length - (a + 1)) = code.length by omega] at this
  · have hne : ¬ a = p := by omega
    rw [if_neg hne]
    have same : ∀ k, k ≤ code.length → val code back' h p k = val code back a p k := by
      intro k
      induction k with
      | zero => intro _; simp only [val]; by_cases h1 : h ≤ p <;> by_cases h2 : a ≤ p <;> simp [h1, h2] <;> omega
      | succ k ih =>
        intro hk
        rw [val_succ, val_succ, ih (by omega)]
        by_cases hc : covers code p k = true
        · rw [if_pos hc, if_pos hc]
          obtain ⟨ik, c1, c2, c3, c4, c5, c6, c7, c8⟩ := cov_at g hc
          have hka : k ≠ a := by
            rintro rfl
            rw [hi] at c1; cases c1
            omega
          have hiff : covers code h k = covers code a k := by
            rw [Bool.eq_iff_iff]
            constructor
            · intro hck
              obtain ⟨i', d1, d2, d3, d4, _⟩ := cov_at g hck
              rw [c1] at d1; cases d1
              rcases Nat.lt_or_ge k a with h5 | h5
              · -- it would end inside the body, around a place ahead of it
                exfalso
                exact g.cr a hal ⟨k, h5, i, ik, hi, ho, c1, c2, by omega, by omega⟩
              · exact (covers_iff c1 c2).2 ⟨by omega, by omega⟩
            · intro hck
              obtain ⟨i', d1, d2, d3, d4, _⟩ := cov_at g hck
              rw [c1] at d1; cases d1
              have hk2 : a < k := by omega
              refine (covers_iff c1 c2).2 ⟨?_, by omega⟩
              rcases Int.lt_or_le ((a : Int) - i.D) (k - ik.D) with h5 | h5
              · exact absurd ⟨a, hk2, ik, i, c1, c2, hi, ho, by omega, h5⟩ (g.cr k c7)
              · omega
          rw [hiff, hrem k hka]
        · rw [if_neg hc, if_neg hc]
    rw [same _ (Nat.le_refl _)]
    omega
end
def pot (code : List api_Inst) (back : Nat → Int) (q : Nat) : Nat → Int
  | 0 => 0
  | p + 1 => pot code back q p + val code back q p code.length
theorem pot_step {code : List api_Inst} {back back' : Nat → Int} {q t : Nat} (hq : q < code.length) (h : ∀ p, p < code.length → val code back' t p code.length + (if q = p then 1 else 0) ≤ val code back q p code.length) :
    pot code back' t code.length + 1 ≤ pot code back q code.length := by
  have main : ∀ n, n ≤ code.length → pot code back' t n + (if q < n then 1 else 0) ≤ pot code back q n := by
    intro n
    induction n with
    | zero => intro _; simp [pot]
    | succ n ih =>
      intro hn
      have := ih (by omega)
      have h2 := h n (by omega)
      simp only [pot]
      by_cases e : q = n
      · subst e
        rw [if_neg (by omega)] at this
        rw [if_pos rfl] at h2
        rw [if_pos (by omega)]
        omega
      · rw [if_neg e] at h2
        by_cases e2 : q < n
        · rw [if_pos e2] at this; rw [if_pos (by omega)]; omega
        · rw [if_neg e2] at this; rw [if_neg (by omega)]; omega
  have := main _ (Nat.le_refl _)
  rwa [if_pos hq] at this
theorem pot_start {code : List api_Inst} (g : Good code) {q : Nat} : pot code (fun _ => 0) q code.length ≤ sumT code code.length := by
  have main : ∀ n, n ≤ code.length → pot code (fun _ => 0) q n ≤ sumT code n := by
    intro n
    induction n with
    | zero => intro _; simp [pot, sumT]
    | succ n ih =>
      intro hn
      have := ih (by omega)
      have h2 := val_start g (q := q) (p := n) code.length (Nat.le_refl _)
      simp only [pot, sumT]
      omega
  exact main _ (Nat.le_refl _)
theorem pot_pos {code : List api_Inst} (g : Good code) {back : Nat → Int} (hf : Fit code back) {q : Nat} (hq : q < code.length) : 1 ≤ pot code back q code.length := by
  have main : ∀ n, n ≤ code.length → (if q < n then 1 else 0) ≤ pot code back q n := by
    intro n
    induction n with
    | zero => intro _; simp [pot]
    | succ n ih =>
      intro hn
      have := ih (by omega)
      have h2 := val_nonneg g hf q n code.length (Nat.le_refl _)
      simp only [pot]
      by_cases e : q ≤ n
      · rw [if_pos e] at h2; rw [if_pos (by omega)]; split at this <;> omega
      · rw [if_neg e] at h2; rw [if_neg (by omega)]; split at this <;> omega
  have := main _ (Nat.le_refl _)
  rwa [if_pos hq] at this

import Derived.Test.YtgmmfjpmahcocaaGreatDoorKCheck
set_option linter.unusedVariables false
set_option linter.unusedSimpArgs false
namespace Go.Proofs.YtgmmfjpmahcocaaGreatDoor
open Go.Sx
def rem (code : List zc) (back : Nat -> Int) (a : Nat) : Int := match code[a]? with
 | some i => i.Imm - back a
 | none => 0
def val (code : List zc) (back : Nat -> Int) (q p : Nat) : Nat -> Int
 | 0 => if q <= p then 1 else 0
 | k + 1 =>
  if zw code p k then
   (if zw code q k then val code back q p k + rem code back k * xI code p k else val code back q p k * (rem code (fun _ => 0) k + 1))
  else val code back q p k
theorem zfM {code : List zc} {p k : Nat} (hk : k < code.length) : xI code p (k + 1) = if zw code p k then xI code p k * (rem code (fun _ => 0) k + 1) else xI code p k := by
 have h : xI code p (k + 1) = match code[k]? with
  | some i => if zw code p k then xI code p k * (i.Imm + 1) else xI code p k
  | none => xI code p k := rfl
 rw [h, zeg hk]
 simp only [rem, zeg hk, Int.sub_zero]
theorem vG (code : List zc) (back : Nat -> Int) (q p k : Nat) : val code back q p (k + 1) =
  if zw code p k then
   (if zw code q k then val code back q p k + rem code back k * xI code p k else val code back q p k * (rem code (fun _ => 0) k + 1))
  else val code back q p k := rfl
def Fit (code : List zc) (back : Nat -> Int) : Prop := ∀ (a : Nat) (i : zc), code[a]? = some i -> i.Op = 20 -> 0 <= back a /\ back a <= i.Imm
section
variable {code : List zc} (g : zen code) {back back' : Nat -> Int}
include g
theorem zb6 {p a : Nat} (h : zw code p a = true) : ∃ i, code[a]? = some i /\ i.Op = 20 /\ (a : Int) - i.D <= p /\ p <= a /\ 1 <= i.D /\ 1 <= i.Imm /\ a < code.length /\ i.D <= a := by
 unfold zw at h
 split at h
 ·rename_i i hi
  simp only [zae, beq_iff_eq, zdq] at h
  have := g.fine.loop hi h.1.1
  exact ⟨i, hi, h.1.1, h.1.2, h.2, by omega, by omega, (zes.1 hi).1, by omega⟩
 ·cases h
theorem zcM (hf : Fit code back) {p a : Nat} (h : zw code p a = true) : 0 <= rem code back a /\ rem code back a <= rem code (fun _ => 0) a /\ 1 <= rem code (fun _ => 0) a := by
 obtain ⟨i, hi, ho, _, _, _, h6, _⟩ := zb6 g h
 have := hf a i hi ho
 simp only [rem, hi]
 omega
theorem zmz {p a b : Nat} (ha : zw code p a = true) (hb : zw code p b = true) (hab : a < b) : ∀ q, zw code q a = true -> zw code q b = true := by
 intro q hq
 obtain ⟨ia, a1, a2, a3, a4, a5, a6, a7, a8⟩ := zb6 g ha
 obtain ⟨ib, b1, b2, b3, b4, b5, b6, b7, b8⟩ := zb6 g hb
 obtain ⟨iq, q1, q2, q3, q4, _⟩ := zb6 g hq
 rw [a1] at q1; cases q1
 refine (zZ b1 b2).2 ⟨?_, by omega⟩
 have hno := g.cr b b7
 rcases Int.lt_or_le ((a : Int) - ia.D) (b - ib.D) with h | h
 ·exact absurd ⟨a, hab, ib, ia, b1, b2, a1, a2, by omega, h⟩ hno
 ·omega
theorem zbY (p k : Nat) : 1 <= xI code p k := zdN g.fine p k
theorem zec (hf : Fit code back) (q p : Nat) : ∀ k, k <= code.length -> (if q <= p then 1 else 0) <= val code back q p k := by
 intro k
 induction k with
 | zero => intro _; exact Int.le_refl _
 | succ k ih =>
  intro hk
  have ih := ih (by omega)
  rw [vG]
  have h0 : (0 : Int) <= if q <= p then 1 else 0 := by split <;> omega
  generalize (if q <= p then (1 : Int) else 0) = z at ih h0
  by_cases hc : zw code p k = true
  ·rw [if_pos hc]
   have hr := zcM g hf hc
   split
   ·have : 0 <= rem code back k * xI code p k := Int.mul_nonneg hr.1 (by have := zbY g p k; omega)
    omega
   ·have : val code back q p k * 1 <= val code back q p k * (rem code (fun _ => 0) k + 1) := Int.mul_le_mul_of_nonneg_left (by omega) (by omega)
    omega
  ·rw [if_neg hc]; exact ih
theorem zky {q p : Nat} : ∀ k, k <= code.length -> val code (fun _ => 0) q p k <= xI code p k := by
 intro k
 induction k with
 | zero => intro _; simp only [val, xI]; split <;> omega
 | succ k ih =>
  intro hk
  have ih := ih (by omega)
  rw [vG, zfM (by omega)]
  split
  ·rename_i hc
   have hf : Fit code (fun _ => 0) := fun a i hi ho => by have := g.fine.loop hi ho; exact ⟨Int.le_refl _, by simp only; omega⟩
   have hr := zcM g hf hc
   have ht := zbY g p k
   split
   ·rw [Int.mul_add, Int.mul_one, Int.mul_comm (xI code p k)]; omega
   ·exact Int.mul_le_mul_of_nonneg_right ih (by omega)
  ·exact ih
theorem zmA (hf : Fit code back) {q t p : Nat} (hqt : q < t) (hin : ∀ a, zw code t a = true -> zw code q a = true \/ ∃ i, code[a]? = some i /\ (t : Int) = a - i.D) (hb : ∀ a, zw code t a = true -> back' a = back a /\ 0 <= back' a) (hp : p < code.length) :
  val code back' t p code.length + (if q = p then 1 else 0) <= val code back q p code.length := by
 by_cases hpt : t <= p
 ·
  have hne : ¬ q = p := by omega
  rw [if_neg hne]
  have main : ∀ k, k <= code.length -> val code back' t p k <= val code back q p k /\ ((∀ a, a < k -> zw code p a = true -> zw code q a = false) -> val code back q p k = xI code p k) := by
   intro k
   induction k with
   | zero => intro _; simp only [val, xI]; rw [if_pos hpt, if_pos (by omega)]; exact ⟨Int.le_refl _, fun _ => rfl⟩
   | succ k ih =>
    intro hk
    obtain ⟨i1, i2⟩ := ih (by omega)
    rw [vG, vG, zfM (by omega)]
    by_cases hc : zw code p k = true
    ·rw [if_pos hc, if_pos hc, if_pos hc]
     have hr := zcM g hf hc
     have ht := zbY g p k
     have hv := zec g hf q p k (by omega)
     rw [if_pos (by omega)] at hv
     by_cases hq : zw code q k = true
     ·obtain ⟨i, c1, c2, c3, c4, c5, c6, c7, c8⟩ := zb6 g hc
      obtain ⟨i', d1, d2, d3, d4, _⟩ := zb6 g hq
      rw [c1] at d1; cases d1
      have htk : zw code t k = true := (zZ c1 c2).2 ⟨by omega, by omega⟩
      rw [if_pos hq, if_pos htk]
      have hrr : rem code back' k = rem code back k := by simp only [rem, c1, (hb k htk).1]
      rw [hrr]
      refine ⟨by omega, fun hall => ?_⟩
      have := hall k (by omega) hc
      rw [hq] at this; cases this
     ·have hq' : zw code q k = false := by simpa using hq
      simp only [hq', zfe, if_false]
      have hbefore : ∀ a, a < k -> zw code p a = true -> zw code q a = false := by
       intro a ha hca
       cases h : zw code q a with
       | false => rfl
       | true =>
        have := zmz g hca hc ha q h
        rw [this] at hq'; cases hq'
      have hvt := i2 hbefore
      by_cases htk : zw code t k = true
      ·rw [if_pos htk]
       refine ⟨?_, fun _ => by rw [hvt]⟩
       have hb2 := hb k htk
       have hrr : rem code back' k <= rem code (fun _ => 0) k := by
        obtain ⟨i, c1, _⟩ := zb6 g hc
        simp only [rem, c1]; omega
       have : rem code back' k * xI code p k <= rem code (fun _ => 0) k * xI code p k := Int.mul_le_mul_of_nonneg_right hrr (by omega)
       rw [hvt, Int.mul_add, Int.mul_one, Int.mul_comm (xI code p k)]
       omega
      ·rw [if_neg htk]
       exact ⟨Int.mul_le_mul_of_nonneg_right i1 (by omega), fun _ => by rw [hvt]⟩
    ·rw [if_neg hc, if_neg hc, if_neg hc]
     refine ⟨i1, fun hall => i2 (fun a ha => hall a (by omega))⟩
  exact Int.le_trans (by omega) (main _ (Nat.le_refl _)).1
 ·
  have hlt : p < t := by omega
  have hboth : ∀ a, zw code p a = true -> zw code t a = true -> zw code q a = true := by
   intro a h1 h2
   rcases hin a h2 with h | ⟨i, hi, hh⟩
   ·exact h
   ·exfalso
    obtain ⟨i', c1, c2, c3, _⟩ := zb6 g h1
    rw [hi] at c1; cases c1
    omega
  have main : ∀ k, k <= code.length -> (val code back' t p k + (if q = p then 1 else 0) <= val code back q p k /\ (∃ a, a < k /\ zw code p a = true /\ zw code t a = true)) \/
    (val code back' t p k = 0 /\ ∀ a, a < k -> zw code p a = true -> zw code t a = false) := by
   intro k
   induction k with
   | zero => intro _; right; simp only [val]; rw [if_neg (by omega)]; exact ⟨rfl, fun a ha => by omega⟩
   | succ k ih =>
    intro hk
    rw [vG, vG]
    by_cases hc : zw code p k = true
    ·rw [if_pos hc, if_pos hc]
     have hr := zcM g hf hc
     have ht := zbY g p k
     have hv := zec g hf q p k (by omega)
     by_cases htk : zw code t k = true
     ·have hq := hboth k hc htk
      rw [if_pos htk, if_pos hq]
      left
      have hrr : rem code back' k = rem code back k := by
       obtain ⟨i, c1, _⟩ := zb6 g hc
       simp only [rem, c1, (hb k htk).1]
      rw [hrr]
      refine ⟨?_, k, by omega, hc, htk⟩
      rcases ih (by omega) with ⟨h1, _⟩ | ⟨h1, _⟩
      ·omega
      ·rw [h1]
       by_cases hqp : q = p
       ·rw [if_pos hqp]; rw [if_pos (by omega)] at hv; omega
       ·rw [if_neg hqp]
        have : (0 : Int) <= if q <= p then 1 else 0 := by split <;> omega
        omega
     ·rw [if_neg htk]
      rcases ih (by omega) with ⟨h1, a, ha, h2, h3⟩ | ⟨h1, h2⟩
      ·exact absurd (zmz g h2 hc ha t h3) htk
      ·right
       refine ⟨by rw [h1]; omega, fun a ha hca => ?_⟩
       rcases Nat.lt_or_ge a k with h3 | h3
       ·exact h2 a h3 hca
       ·have : a = k := by omega
        subst this
        simpa using htk
    ·rw [if_neg hc, if_neg hc]
     rcases ih (by omega) with ⟨h1, a, ha, h2, h3⟩ | ⟨h1, h2⟩
     ·exact .inl ⟨h1, a, by omega, h2, h3⟩
     ·refine .inr ⟨h1, fun a ha hca => ?_⟩
      rcases Nat.lt_or_ge a k with h3 | h3
      ·exact h2 a h3 hca
      ·have : a = k := by omega
       subst this
       exact absurd hca hc
  have hv := zec g hf q p code.length (Nat.le_refl _)
  rcases main _ (Nat.le_refl _) with ⟨h1, _⟩ | ⟨h1, _⟩
  ·exact h1
  ·rw [h1]
   by_cases hqp : q = p
   ·rw [if_pos hqp]; rw [if_pos (by omega)] at hv; omega
   ·rw [if_neg hqp]
    have : (0 : Int) <= if q <= p then 1 else 0 := by split <;> omega
    omega
theorem zlt (hf : Fit code back) {a h p : Nat} {i : zc} (hi : code[a]? = some i) (ho : i.Op = 20) (hh : (h : Int) = a - i.D) (hb : back' a = back a + 1) (hb2 : ∀ b, b ≠ a -> back' b = back b) (hlim : back a < i.Imm) (hp : p < code.length) :
  val code back' h p code.length + (if a = p then 1 else 0) <= val code back a p code.length := by
 have hd := g.fine.loop hi ho
 have hal := (zes.1 hi).1
 have hcaa : zw code a a = true := (zZ hi ho).2 ⟨by omega, by omega⟩
 have hcha : zw code h a = true := (zZ hi ho).2 ⟨by omega, by omega⟩
 have hrem : ∀ b, b ≠ a -> rem code back' b = rem code back b := by
  intro b hba; unfold rem; split
  ·rw [hb2 b hba]
  ·rfl
 by_cases hbody : h <= p /\ p <= a
 ·have hcpa : zw code p a = true := (zZ hi ho).2 ⟨by omega, by omega⟩
  have low : ∀ k, k <= a -> val code back a p k = (if a <= p then 1 else 0) * xI code p k /\ val code back' h p k <= xI code p k := by
   intro k
   induction k with
   | zero => intro _; simp only [val, xI]; rw [if_pos hbody.1]; simp
   | succ k ih =>
    intro hk
    obtain ⟨i1, i2⟩ := ih (by omega)
    rw [vG, vG, zfM (by omega)]
    by_cases hc : zw code p k = true
    ·rw [if_pos hc, if_pos hc, if_pos hc]
     have hr := zcM g hf hc
     have ht := zbY g p k
     have hka : ¬ zw code a k = true := by
      intro h9
      obtain ⟨_, _, _, _, c4, _⟩ := zb6 g h9
      omega
     rw [if_neg hka, i1, Int.mul_assoc]
     refine ⟨rfl, ?_⟩
     split
     ·rw [hrem k (by omega)]
      have : rem code back k * xI code p k <= rem code (fun _ => 0) k * xI code p k := Int.mul_le_mul_of_nonneg_right hr.2.1 (by omega)
      rw [Int.mul_add, Int.mul_one, Int.mul_comm (xI code p k)]
      omega
     ·exact Int.mul_le_mul_of_nonneg_right i2 (by omega)
    ·rw [if_neg hc, if_neg hc, if_neg hc]; exact ⟨i1, i2⟩
  have high : ∀ n, a + 1 + n <= code.length -> val code back' h p (a + 1 + n) + (if a = p then 1 else 0) <= val code back a p (a + 1 + n) := by
   intro n
   induction n with
   | zero =>
    intro _
    obtain ⟨l1, l2⟩ := low a (Nat.le_refl _)
    rw [Nat.add_zero, vG, vG, if_pos hcpa, if_pos hcpa, if_pos hcaa, if_pos hcha, l1]
    have ht := zbY g p a
    have er : rem code back' a = rem code back a - 1 := by simp only [rem, hi, hb]; omega
    rw [er, Int.sub_mul, Int.one_mul]
    by_cases hap : a = p
    ·subst hap; rw [if_pos rfl, if_pos (Nat.le_refl _)]; omega
    ·rw [if_neg hap]
     have : (0 : Int) <= (if a <= p then 1 else 0) * xI code p a := Int.mul_nonneg (by split <;> omega) (by omega)
     omega
   | succ n ih =>
    intro hn
    have ih := ih (by omega)
    rw [show a + 1 + (n + 1) = (a + 1 + n) + 1 by omega, vG, vG]
    by_cases hc : zw code p (a + 1 + n) = true
    ·have o1 := zmz g hcpa hc (by omega)
     rw [if_pos hc, if_pos hc, if_pos (o1 a hcaa), if_pos (o1 h hcha), hrem _ (by omega)]
     omega
    ·rw [if_neg hc, if_neg hc]; exact ih
  have := high (code.length - (a + 1)) (by omega)
  rwa [show a + 1 + (code.length - (a + 1)) = code.length by omega] at this
 ·have hne : ¬ a = p := by omega
  rw [if_neg hne]
  have same : ∀ k, k <= code.length -> val code back' h p k = val code back a p k := by
   intro k
   induction k with
   | zero => intro _; simp only [val]; by_cases h1 : h <= p <;> by_cases h2 : a <= p <;> simp [h1, h2] <;> omega
   | succ k ih =>
    intro hk
    rw [vG, vG, ih (by omega)]
    by_cases hc : zw code p k = true
    ·rw [if_pos hc, if_pos hc]
     obtain ⟨ik, c1, c2, c3, c4, c5, c6, c7, c8⟩ := zb6 g hc
     have hka : k ≠ a := by
      rintro rfl
      rw [hi] at c1; cases c1
      omega
     have hiff : zw code h k = zw code a k := by
      rw [Bool.eq_iff_iff]
      constructor
      ·intro hck
       obtain ⟨i', d1, d2, d3, d4, _⟩ := zb6 g hck
       rw [c1] at d1; cases d1
       rcases Nat.lt_or_ge k a with h5 | h5
       ·
        exfalso
        exact g.cr a hal ⟨k, h5, i, ik, hi, ho, c1, c2, by omega, by omega⟩
       ·exact (zZ c1 c2).2 ⟨by omega, by omega⟩
      ·intro hck
       obtain ⟨i', d1, d2, d3, d4, _⟩ := zb6 g hck
       rw [c1] at d1; cases d1
       have hk2 : a < k := by omega
       refine (zZ c1 c2).2 ⟨?_, by omega⟩
       rcases Int.lt_or_le ((a : Int) - i.D) (k - ik.D) with h5 | h5
       ·exact absurd ⟨a, hk2, ik, i, c1, c2, hi, ho, by omega, h5⟩ (g.cr k c7)
       ·omega
     rw [hiff, hrem k hka]
    ·rw [if_neg hc, if_neg hc]
  rw [same _ (Nat.le_refl _)]
  omega
end
def pot (code : List zc) (back : Nat -> Int) (q : Nat) : Nat -> Int
 | 0 => 0
 | p + 1 => pot code back q p + val code back q p code.length
theorem zjm {code : List zc} {back back' : Nat -> Int} {q t : Nat} (hq : q < code.length) (h : ∀ p, p < code.length -> val code back' t p code.length + (if q = p then 1 else 0) <= val code back q p code.length) :
  pot code back' t code.length + 1 <= pot code back q code.length := by
 have main : ∀ n, n <= code.length -> pot code back' t n + (if q < n then 1 else 0) <= pot code back q n := by
  intro n
  induction n with
  | zero => intro _; simp [pot]
  | succ n ih =>
   intro hn
   have := ih (by omega)
   have h2 := h n (by omega)
   simp only [pot]
   by_cases e : q = n
   ·subst e
    rw [if_neg (by omega)] at this
    rw [if_pos rfl] at h2
    rw [if_pos (by omega)]
    omega
   ·rw [if_neg e] at h2
    by_cases e2 : q < n
    ·rw [if_pos e2] at this; rw [if_pos (by omega)]; omega
    ·rw [if_neg e2] at this; rw [if_neg (by omega)]; omega
 have := main _ (Nat.le_refl _)
 rwa [if_pos hq] at this
theorem zkz {code : List zc} (g : zen code) {q : Nat} : pot code (fun _ => 0) q code.length <= zfD code code.length := by
 have main : ∀ n, n <= code.length -> pot code (fun _ => 0) q n <= zfD code n := by
  intro n
  induction n with
  | zero => intro _; simp [pot, zfD]
  | succ n ih =>
   intro hn
   have := ih (by omega)
   have h2 := zky g (q := q) (p := n) code.length (Nat.le_refl _)
   simp only [pot, zfD]
   omega
 exact main _ (Nat.le_refl _)
theorem zmB {code : List zc} (g : zen code) {back : Nat -> Int} (hf : Fit code back) {q : Nat} (hq : q < code.length) : 1 <= pot code back q code.length := by
 have main : ∀ n, n <= code.length -> (if q < n then 1 else 0) <= pot code back q n := by
  intro n
  induction n with
  | zero => intro _; simp [pot]
  | succ n ih =>
   intro hn
   have := ih (by omega)
   have h2 := zec g hf q n code.length (Nat.le_refl _)
   simp only [pot]
   by_cases e : q <= n
   ·rw [if_pos e] at h2; rw [if_pos (by omega)]; split at this <;> omega
   ·rw [if_neg e] at h2; rw [if_neg (by omega)]; split at this <;> omega
 have := main _ (Nat.le_refl _)
 rwa [if_pos hq] at this
end Go.Proofs.YtgmmfjpmahcocaaGreatDoor

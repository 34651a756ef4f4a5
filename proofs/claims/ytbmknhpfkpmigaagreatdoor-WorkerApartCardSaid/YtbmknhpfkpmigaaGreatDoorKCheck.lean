/- Texts KCheck, KPot, KSpan, KSpan2 of this proof. -/
import Derived.Test.YtbmknhpfkpmigaaGreatDoorKOld
set_option linter.unusedVariables false
set_option linter.unusedSimpArgs false
namespace Go.Proofs.YtbmknhpfkpmigaaGreatDoor
open Go.Sx
structure ze7 (code : List zc) : Prop where
 n1 : 1 <= code.length
 n64 : code.length <= 64
 fine : zgt code
 cr : ∀ l, l < code.length -> ¬ Cr code l
 en : ∀ p, p < code.length -> ¬ En code p
 cost : zgN code code.length <= 256
theorem zhx {code : List zc} (hn : code.length <= 64) (hD : zgt code) :
  ∃ o, zhV (Cr code) code.length o /\ zci code = some (match o with | some l => ((l : Int), 31) | none => (zaC (fun p => pick (En code p) ((p : Int), (31 : Int))) code.length 0).getD (0, 0)) := by
 obtain ⟨o, h1, h2⟩ := zob hn hD
 refine ⟨o, h1, ?_⟩
 unfold zci
 rw [zhU hn hD]
 simp only [zbs, h2, zod hn hD]
 cases o with
 | some l => rfl
 | none => cases zaC (fun p => pick (En code p) ((p : Int), (31 : Int))) code.length 0 <;> rfl
theorem zgH (code : List zc) : ∃ r, zaL code = some r /\ (r.1 = 0 \/ 0 <= r.1 /\ r.1 < code.length) /\ (r.2 = 0 -> r.1 = 0 /\ ze7 code) /\ (ze7 code -> r.2 = 0) := by
 unfold zaL
 by_cases h0 : code.length = 0
 ·refine ⟨(0, 10), ?_, .inl rfl, by simp, fun h => by have := h.n1; omega⟩
  simp [h0]
 ·have e0 : ((code.length : Int) == 0) = false := by simp; exact fun h => h0 (by simp [h])
  by_cases h1 : 64 < code.length
  ·have e1 : decide ((code.length : Int) > 64) = true := by simp; omega
   refine ⟨(0, 11), ?_, .inl rfl, by simp, fun h => by have := h.n64; omega⟩
   simp only [e0, e1]; rfl
  ·have e1 : decide ((code.length : Int) > 64) = false := by simp; omega
   have hn : code.length <= 64 := by omega
   simp only [e0, e1, ziD code hn, zbs]
   cases hp : zaC (zac code) code.length 0 with
   | some v =>
    obtain ⟨j, _, h2, h3, _⟩ := zbd hp
    have hne : v.2 ≠ 0 /\ v.1 = j := by
     unfold zac at h3
     split at h3
     ·split at h3
      ·cases h3
      ·rename_i h4; cases h3; exact ⟨h4, rfl⟩
     ·cases h3
    refine ⟨v, ?_, .inr ⟨by rw [hne.2]; omega, by rw [hne.2]; omega⟩, fun h => absurd h hne.1, fun h => ?_⟩
    ·have : (v.2 != 0) = true := by simpa using hne.1
     simp [this]
    ·rw [ziE h.fine] at hp; cases hp
   | none =>
    have hD := zlz hp
    obtain ⟨o, o1, o2⟩ := zhx hn hD
    simp only [o2, zbs, Option.getD_none]
    cases o with
    | some l =>
     have := o1.1
     refine ⟨((l : Int), 31), by simp, .inr ⟨by simp, by simpa using this⟩, by simp, fun h => absurd o1.2.1 (h.cr l o1.1)⟩
    | none =>
     obtain ⟨p, p1, p2⟩ := zco (X := En code) (n := code.length) (v := fun p => ((p : Int), (31 : Int)))
     rw [p2]
     cases p with
     | some l =>
      have := p1.1
      exact ⟨((l : Int), 31), by simp, .inr ⟨by simp, by simpa using this⟩, by simp, fun h => absurd p1.2.1 (h.en l p1.1)⟩
     | none =>
      simp only [zj8 hn hD, zbs, Option.map_none, Option.getD_none]
      have hmn := zlD (zgN code code.length)
      by_cases hc : mn (zgN code code.length) > 256
      ·refine ⟨(0, 32), by simp [hc], .inl rfl, by simp, fun h => ?_⟩
       have := h.cost; omega
      ·refine ⟨(0, 0), by simp [hc], .inl rfl, fun _ => ⟨rfl, ⟨by omega, hn, hD, o1, p1, ?_⟩⟩, fun _ => rfl⟩
       unfold mn at hc
       split at hc <;> omega
theorem zkB {code : List zc} (h : ze7 code) : zaL code = some (0, 0) := by
 obtain ⟨r, h1, _, h2, h3⟩ := zgH code
 have := h3 h
 have h4 := (h2 this).1
 rw [h1]
 obtain ⟨a, b⟩ := r
 simp only at this h4
 subst this; subst h4; rfl
theorem zfV {code : List zc} (h : ze7 code) : zc9 code = some (lps code code.length, 0) := by
 unfold zc9
 rw [zkB h]
 simp [zhU h.n64 h.fine]
end Go.Proofs.YtbmknhpfkpmigaaGreatDoor
namespace Go.Proofs.YtbmknhpfkpmigaaGreatDoor
open Go.Sx
def rem (code : List zc) (back : Nat -> Int) (a : Nat) : Int := match code[a]? with
 | some i => i.Imm - back a
 | none => 0
def val (code : List zc) (back : Nat -> Int) (q p : Nat) : Nat -> Int
 | 0 => if q <= p then 1 else 0
 | k + 1 =>
  if zx code p k then
   (if zx code q k then val code back q p k + rem code back k * vF code p k else val code back q p k * (rem code (fun _ => 0) k + 1))
  else val code back q p k
theorem zhB {code : List zc} {p k : Nat} (hk : k < code.length) : vF code p (k + 1) = if zx code p k then vF code p k * (rem code (fun _ => 0) k + 1) else vF code p k := by
 have h : vF code p (k + 1) = match code[k]? with
  | some i => if zx code p k then vF code p k * (i.Imm + 1) else vF code p k
  | none => vF code p k := rfl
 rw [h, zeg hk]
 simp only [rem, zeg hk, Int.sub_zero]
theorem zaN (code : List zc) (back : Nat -> Int) (q p k : Nat) : val code back q p (k + 1) =
  if zx code p k then
   (if zx code q k then val code back q p k + rem code back k * vF code p k else val code back q p k * (rem code (fun _ => 0) k + 1))
  else val code back q p k := rfl
def Fit (code : List zc) (back : Nat -> Int) : Prop := ∀ (a : Nat) (i : zc), code[a]? = some i -> i.Op = 20 -> 0 <= back a /\ back a <= i.Imm
section
variable {code : List zc} (g : ze7 code) {back back' : Nat -> Int}
include g
theorem zct {p a : Nat} (h : zx code p a = true) : ∃ i, code[a]? = some i /\ i.Op = 20 /\ (a : Int) - i.D <= p /\ p <= a /\ 1 <= i.D /\ 1 <= i.Imm /\ a < code.length /\ i.D <= a := by
 unfold zx at h
 split at h
 ·rename_i i hi
  simp only [zae, beq_iff_eq, zdq] at h
  have := g.fine.loop hi h.1.1
  exact ⟨i, hi, h.1.1, h.1.2, h.2, by omega, by omega, (zes.1 hi).1, by omega⟩
 ·cases h
theorem zeG (hf : Fit code back) {p a : Nat} (h : zx code p a = true) : 0 <= rem code back a /\ rem code back a <= rem code (fun _ => 0) a /\ 1 <= rem code (fun _ => 0) a := by
 obtain ⟨i, hi, ho, _, _, _, h6, _⟩ := zct g h
 have := hf a i hi ho
 simp only [rem, hi]
 omega
theorem zoo {p a b : Nat} (ha : zx code p a = true) (hb : zx code p b = true) (hab : a < b) : ∀ q, zx code q a = true -> zx code q b = true := by
 intro q hq
 obtain ⟨ia, a1, a2, a3, a4, a5, a6, a7, a8⟩ := zct g ha
 obtain ⟨ib, b1, b2, b3, b4, b5, b6, b7, b8⟩ := zct g hb
 obtain ⟨iq, q1, q2, q3, q4, _⟩ := zct g hq
 rw [a1] at q1; cases q1
 refine (qA b1 b2).2 ⟨?_, by omega⟩
 have hno := g.cr b b7
 rcases Int.lt_or_le ((a : Int) - ia.D) (b - ib.D) with h | h
 ·exact absurd ⟨a, hab, ib, ia, b1, b2, a1, a2, by omega, h⟩ hno
 ·omega
theorem zdi (p k : Nat) : 1 <= vF code p k := zej g.fine p k
theorem zfY (hf : Fit code back) (q p : Nat) : ∀ k, k <= code.length -> (if q <= p then 1 else 0) <= val code back q p k := by
 intro k
 induction k with
 | zero => intro _; exact Int.le_refl _
 | succ k ih =>
  intro hk
  have ih := ih (by omega)
  rw [zaN]
  have h0 : (0 : Int) <= if q <= p then 1 else 0 := by split <;> omega
  generalize (if q <= p then (1 : Int) else 0) = z at ih h0
  by_cases hc : zx code p k = true
  ·rw [if_pos hc]
   have hr := zeG g hf hc
   split
   ·have : 0 <= rem code back k * vF code p k := Int.mul_nonneg hr.1 (by have := zdi g p k; omega)
    omega
   ·have : val code back q p k * 1 <= val code back q p k * (rem code (fun _ => 0) k + 1) := Int.mul_le_mul_of_nonneg_left (by omega) (by omega)
    omega
  ·rw [if_neg hc]; exact ih
theorem zop (hf : Fit code back) {q t p : Nat} (hqt : q < t) (hin : ∀ a, zx code t a = true -> zx code q a = true \/ ∃ i, code[a]? = some i /\ (t : Int) = a - i.D) (hb : ∀ a, zx code t a = true -> back' a = back a /\ 0 <= back' a) (hp : p < code.length) :
  val code back' t p code.length + (if q = p then 1 else 0) <= val code back q p code.length := by
 by_cases hpt : t <= p
 ·
  have hne : ¬ q = p := by omega
  rw [if_neg hne]
  have main : ∀ k, k <= code.length -> val code back' t p k <= val code back q p k /\ ((∀ a, a < k -> zx code p a = true -> zx code q a = false) -> val code back q p k = vF code p k) := by
   intro k
   induction k with
   | zero => intro _; simp only [val, vF]; rw [if_pos hpt, if_pos (by omega)]; exact ⟨Int.le_refl _, fun _ => rfl⟩
   | succ k ih =>
    intro hk
    obtain ⟨i1, i2⟩ := ih (by omega)
    rw [zaN, zaN, zhB (by omega)]
    by_cases hc : zx code p k = true
    ·rw [if_pos hc, if_pos hc, if_pos hc]
     have hr := zeG g hf hc
     have ht := zdi g p k
     have hv := zfY g hf q p k (by omega)
     rw [if_pos (by omega)] at hv
     by_cases hq : zx code q k = true
     ·obtain ⟨i, c1, c2, c3, c4, c5, c6, c7, c8⟩ := zct g hc
      obtain ⟨i', d1, d2, d3, d4, _⟩ := zct g hq
      rw [c1] at d1; cases d1
      have htk : zx code t k = true := (qA c1 c2).2 ⟨by omega, by omega⟩
      rw [if_pos hq, if_pos htk]
      have hrr : rem code back' k = rem code back k := by simp only [rem, c1, (hb k htk).1]
      rw [hrr]
      refine ⟨by omega, fun hall => ?_⟩
      have := hall k (by omega) hc
      rw [hq] at this; cases this
     ·have hq' : zx code q k = false := by simpa using hq
      simp only [hq', zfe, if_false]
      have hbefore : ∀ a, a < k -> zx code p a = true -> zx code q a = false := by
       intro a ha hca
       cases h : zx code q a with
       | false => rfl
       | true =>
        have := zoo g hca hc ha q h
        rw [this] at hq'; cases hq'
      have hvt := i2 hbefore
      by_cases htk : zx code t k = true
      ·rw [if_pos htk]
       refine ⟨?_, fun _ => by rw [hvt]⟩
       have hb2 := hb k htk
       have hrr : rem code back' k <= rem code (fun _ => 0) k := by
        obtain ⟨i, c1, _⟩ := zct g hc
        simp only [rem, c1]; omega
       have : rem code back' k * vF code p k <= rem code (fun _ => 0) k * vF code p k := Int.mul_le_mul_of_nonneg_right hrr (by omega)
       rw [hvt, Int.mul_add, Int.mul_one, Int.mul_comm (vF code p k)]
       omega
      ·rw [if_neg htk]
       exact ⟨Int.mul_le_mul_of_nonneg_right i1 (by omega), fun _ => by rw [hvt]⟩
    ·rw [if_neg hc, if_neg hc, if_neg hc]
     refine ⟨i1, fun hall => i2 (fun a ha => hall a (by omega))⟩
  exact Int.le_trans (by omega) (main _ (Nat.le_refl _)).1
 ·
  have hlt : p < t := by omega
  have hboth : ∀ a, zx code p a = true -> zx code t a = true -> zx code q a = true := by
   intro a h1 h2
   rcases hin a h2 with h | ⟨i, hi, hh⟩
   ·exact h
   ·exfalso
    obtain ⟨i', c1, c2, c3, _⟩ := zct g h1
    rw [hi] at c1; cases c1
    omega
  have main : ∀ k, k <= code.length -> (val code back' t p k + (if q = p then 1 else 0) <= val code back q p k /\ (∃ a, a < k /\ zx code p a = true /\ zx code t a = true)) \/
    (val code back' t p k = 0 /\ ∀ a, a < k -> zx code p a = true -> zx code t a = false) := by
   intro k
   induction k with
   | zero => intro _; right; simp only [val]; rw [if_neg (by omega)]; exact ⟨rfl, fun a ha => by omega⟩
   | succ k ih =>
    intro hk
    rw [zaN, zaN]
    by_cases hc : zx code p k = true
    ·rw [if_pos hc, if_pos hc]
     have hr := zeG g hf hc
     have ht := zdi g p k
     have hv := zfY g hf q p k (by omega)
     by_cases htk : zx code t k = true
     ·have hq := hboth k hc htk
      rw [if_pos htk, if_pos hq]
      left
      have hrr : rem code back' k = rem code back k := by
       obtain ⟨i, c1, _⟩ := zct g hc
       simp only [rem, c1, (hb k htk).1]
      rw [hrr]
      refine ⟨?_, k, by omega, hc, htk⟩
      rcases ih (by omega) with ⟨h1, _⟩ | ⟨h1, _⟩
      ·omega
      ·rw [h1]
       by_cases hqp : q = p
       ·rw [if_pos hqp]; rw [if_pos (by omega)] at hv; omega
       ·rw [if_neg hqp]
        have : (0 : Int) <= if q <= p then 1 else 0 := by split <;> omega
        omega
     ·rw [if_neg htk]
      rcases ih (by omega) with ⟨h1, a, ha, h2, h3⟩ | ⟨h1, h2⟩
      ·exact absurd (zoo g h2 hc ha t h3) htk
      ·right
       refine ⟨by rw [h1]; omega, fun a ha hca => ?_⟩
       rcases Nat.lt_or_ge a k with h3 | h3
       ·exact h2 a h3 hca
       ·have : a = k := by omega
        subst this
        simpa using htk
    ·rw [if_neg hc, if_neg hc]
     rcases ih (by omega) with ⟨h1, a, ha, h2, h3⟩ | ⟨h1, h2⟩
     ·exact .inl ⟨h1, a, by omega, h2, h3⟩
     ·refine .inr ⟨h1, fun a ha hca => ?_⟩
      rcases Nat.lt_or_ge a k with h3 | h3
      ·exact h2 a h3 hca
      ·have : a = k := by omega
       subst this
       exact absurd hca hc
  have hv := zfY g hf q p code.length (Nat.le_refl _)
  rcases main _ (Nat.le_refl _) with ⟨h1, _⟩ | ⟨h1, _⟩
  ·exact h1
  ·rw [h1]
   by_cases hqp : q = p
   ·rw [if_pos hqp]; rw [if_pos (by omega)] at hv; omega
   ·rw [if_neg hqp]
    have : (0 : Int) <= if q <= p then 1 else 0 := by split <;> omega
    omega
theorem znc (hf : Fit code back) {a h p : Nat} {i : zc} (hi : code[a]? = some i) (ho : i.Op = 20) (hh : (h : Int) = a - i.D) (hb : back' a = back a + 1) (hb2 : ∀ b, b ≠ a -> back' b = back b) (hlim : back a < i.Imm) (hp : p < code.length) :
  val code back' h p code.length + (if a = p then 1 else 0) <= val code back a p code.length := by
 have hd := g.fine.loop hi ho
 have hal := (zes.1 hi).1
 have hcaa : zx code a a = true := (qA hi ho).2 ⟨by omega, by omega⟩
 have hcha : zx code h a = true := (qA hi ho).2 ⟨by omega, by omega⟩
 have hrem : ∀ b, b ≠ a -> rem code back' b = rem code back b := by
  intro b hba; unfold rem; split
  ·rw [hb2 b hba]
  ·rfl
 by_cases hbody : h <= p /\ p <= a
 ·have hcpa : zx code p a = true := (qA hi ho).2 ⟨by omega, by omega⟩
  have low : ∀ k, k <= a -> val code back a p k = (if a <= p then 1 else 0) * vF code p k /\ val code back' h p k <= vF code p k := by
   intro k
   induction k with
   | zero => intro _; simp only [val, vF]; rw [if_pos hbody.1]; simp
   | succ k ih =>
    intro hk
    obtain ⟨i1, i2⟩ := ih (by omega)
    rw [zaN, zaN, zhB (by omega)]
    by_cases hc : zx code p k = true
    ·rw [if_pos hc, if_pos hc, if_pos hc]
     have hr := zeG g hf hc
     have ht := zdi g p k
     have hka : ¬ zx code a k = true := by
      intro h9
      obtain ⟨_, _, _, _, c4, _⟩ := zct g h9
      omega
     rw [if_neg hka, i1, Int.mul_assoc]
     refine ⟨rfl, ?_⟩
     split
     ·rw [hrem k (by omega)]
      have : rem code back k * vF code p k <= rem code (fun _ => 0) k * vF code p k := Int.mul_le_mul_of_nonneg_right hr.2.1 (by omega)
      rw [Int.mul_add, Int.mul_one, Int.mul_comm (vF code p k)]
      omega
     ·exact Int.mul_le_mul_of_nonneg_right i2 (by omega)
    ·rw [if_neg hc, if_neg hc, if_neg hc]; exact ⟨i1, i2⟩
  have high : ∀ n, a + 1 + n <= code.length -> val code back' h p (a + 1 + n) + (if a = p then 1 else 0) <= val code back a p (a + 1 + n) := by
   intro n
   induction n with
   | zero =>
    intro _
    obtain ⟨l1, l2⟩ := low a (Nat.le_refl _)
    rw [Nat.add_zero, zaN, zaN, if_pos hcpa, if_pos hcpa, if_pos hcaa, if_pos hcha, l1]
    have ht := zdi g p a
    have er : rem code back' a = rem code back a - 1 := by simp only [rem, hi, hb]; omega
    rw [er, Int.sub_mul, Int.one_mul]
    by_cases hap : a = p
    ·subst hap; rw [if_pos rfl, if_pos (Nat.le_refl _)]; omega
    ·rw [if_neg hap]
     have : (0 : Int) <= (if a <= p then 1 else 0) * vF code p a := Int.mul_nonneg (by split <;> omega) (by omega)
     omega
   | succ n ih =>
    intro hn
    have ih := ih (by omega)
    rw [show a + 1 + (n + 1) = (a + 1 + n) + 1 by omega, zaN, zaN]
    by_cases hc : zx code p (a + 1 + n) = true
    ·have o1 := zoo g hcpa hc (by omega)
     rw [if_pos hc, if_pos hc, if_pos (o1 a hcaa), if_pos (o1 h hcha), hrem _ (by omega)]
     omega
    ·rw [if_neg hc, if_neg hc]; exact ih
  have := high (code.length - (a + 1)) (by omega)
  rwa [show a + 1 + (code.length - (a + 1)) = code.length by omega] at this
 ·have hne : ¬ a = p := by omega
  rw [if_neg hne]
  have same : ∀ k, k <= code.length -> val code back' h p k = val code back a p k := by
   intro k
   induction k with
   | zero => intro _; simp only [val]; by_cases h1 : h <= p <;> by_cases h2 : a <= p <;> simp [h1, h2] <;> omega
   | succ k ih =>
    intro hk
    rw [zaN, zaN, ih (by omega)]
    by_cases hc : zx code p k = true
    ·rw [if_pos hc, if_pos hc]
     obtain ⟨ik, c1, c2, c3, c4, c5, c6, c7, c8⟩ := zct g hc
     have hka : k ≠ a := by
      rintro rfl
      rw [hi] at c1; cases c1
      omega
     have hiff : zx code h k = zx code a k := by
      rw [Bool.eq_iff_iff]
      constructor
      ·intro hck
       obtain ⟨i', d1, d2, d3, d4, _⟩ := zct g hck
       rw [c1] at d1; cases d1
       rcases Nat.lt_or_ge k a with h5 | h5
       ·
        exfalso
        exact g.cr a hal ⟨k, h5, i, ik, hi, ho, c1, c2, by omega, by omega⟩
       ·exact (qA c1 c2).2 ⟨by omega, by omega⟩
      ·intro hck
       obtain ⟨i', d1, d2, d3, d4, _⟩ := zct g hck
       rw [c1] at d1; cases d1
       have hk2 : a < k := by omega
       refine (qA c1 c2).2 ⟨?_, by omega⟩
       rcases Int.lt_or_le ((a : Int) - i.D) (k - ik.D) with h5 | h5
       ·exact absurd ⟨a, hk2, ik, i, c1, c2, hi, ho, by omega, h5⟩ (g.cr k c7)
       ·omega
     rw [hiff, hrem k hka]
    ·rw [if_neg hc, if_neg hc]
  rw [same _ (Nat.le_refl _)]
  omega
end
def pot (code : List zc) (back : Nat -> Int) (q : Nat) : Nat -> Int
 | 0 => 0
 | p + 1 => pot code back q p + val code back q p code.length
theorem zkg {code : List zc} {back back' : Nat -> Int} {q t : Nat} (hq : q < code.length) (h : ∀ p, p < code.length -> val code back' t p code.length + (if q = p then 1 else 0) <= val code back q p code.length) :
  pot code back' t code.length + 1 <= pot code back q code.length := by
 have main : ∀ n, n <= code.length -> pot code back' t n + (if q < n then 1 else 0) <= pot code back q n := by
  intro n
  induction n with
  | zero => intro _; simp [pot]
  | succ n ih =>
   intro hn
   have := ih (by omega)
   have h2 := h n (by omega)
   simp only [pot]
   by_cases e : q = n
   ·subst e
    rw [if_neg (by omega)] at this
    rw [if_pos rfl] at h2
    rw [if_pos (by omega)]
    omega
   ·rw [if_neg e] at h2
    by_cases e2 : q < n
    ·rw [if_pos e2] at this; rw [if_pos (by omega)]; omega
    ·rw [if_neg e2] at this; rw [if_neg (by omega)]; omega
 have := main _ (Nat.le_refl _)
 rwa [if_pos hq] at this
end Go.Proofs.YtbmknhpfkpmigaaGreatDoor
namespace Go.Proofs.YtbmknhpfkpmigaaGreatDoor
open Go.Sx
def SW (s : zb) : Prop := 0 <= s.Lo /\ s.Lo <= s.Hi /\ s.Hi < 18446744073709551616
theorem zbN (x : Int) : qf x = x % 18446744073709551616 := rfl
theorem jJ {x : Int} (h0 : 0 <= x) (h1 : x < 18446744073709551616) : qf x = x := by rw [zbN]; omega
theorem xn (x : Int) : 0 <= qf x /\ qf x < 18446744073709551616 := by rw [zbN]; omega
theorem zki (x y : Int) : ze2 .u64 x y = ((BitVec.ofInt 64 x &&& BitVec.ofInt 64 y).toNat : Int) % 18446744073709551616 := rfl
theorem zjI (x y : Int) : bOr .u64 x y = ((BitVec.ofInt 64 x ||| BitVec.ofInt 64 y).toNat : Int) % 18446744073709551616 := rfl
theorem zgw (x y : Int) : zi8 .u64 x y = ((BitVec.ofInt 64 x ^^^ BitVec.ofInt 64 y).toNat : Int) % 18446744073709551616 := rfl
theorem zdF (x y : Int) : zfS .u64 x y = (x * 2 ^ (min y.toNat 64)) % 18446744073709551616 := rfl
theorem zni (x y : Int) : zbx .u64 x y = x.fdiv (2 ^ (min y.toNat 64)) := rfl
theorem zfD {x : Int} (h0 : 0 <= x) (h1 : x < 18446744073709551616) : (BitVec.ofInt 64 x).toNat = x.toNat := by
 rw [BitVec.toNat_ofInt]
 omega
theorem zfE {x y : Int} (x0 : 0 <= x) (x1 : x < 18446744073709551616) (y0 : 0 <= y) (y1 : y < 18446744073709551616) : ze2 .u64 x y = ((x.toNat &&& y.toNat : Nat) : Int) := by
 rw [zki, BitVec.toNat_and, zfD x0 x1, zfD y0 y1]
 have : x.toNat &&& y.toNat <= x.toNat := Nat.and_le_left
 omega
theorem zg1 {x y : Int} (x0 : 0 <= x) (x1 : x < 18446744073709551616) (y0 : 0 <= y) (y1 : y < 18446744073709551616) : bOr .u64 x y = ((x.toNat ||| y.toNat : Nat) : Int) := by
 have h : (BitVec.ofInt 64 x ||| BitVec.ofInt 64 y).toNat < 2 ^ 64 := BitVec.isLt _
 rw [zjI, Int.emod_eq_of_lt (by omega) (by omega), BitVec.toNat_or, zfD x0 x1, zfD y0 y1]
theorem znj {x y : Int} (x0 : 0 <= x) (x1 : x < 18446744073709551616) (y0 : 0 <= y) (y1 : y < 18446744073709551616) : zi8 .u64 x y = ((x.toNat ^^^ y.toNat : Nat) : Int) := by
 have h : (BitVec.ofInt 64 x ^^^ BitVec.ofInt 64 y).toNat < 2 ^ 64 := BitVec.isLt _
 rw [zgw, Int.emod_eq_of_lt (by omega) (by omega), BitVec.toNat_xor, zfD x0 x1, zfD y0 y1]
theorem zjJ {x y : Int} (x0 : 0 <= x) (x1 : x < 18446744073709551616) (y0 : 0 <= y) (y1 : y < 18446744073709551616) : x <= bOr .u64 x y /\ y <= bOr .u64 x y /\ bOr .u64 x y < 18446744073709551616 := by
 have h : (BitVec.ofInt 64 x ||| BitVec.ofInt 64 y).toNat < 2 ^ 64 := BitVec.isLt _
 rw [BitVec.toNat_or, zfD x0 x1, zfD y0 y1] at h
 rw [zg1 x0 x1 y0 y1]
 have h1 : x.toNat <= x.toNat ||| y.toNat := Nat.left_le_or
 have h2 : y.toNat <= x.toNat ||| y.toNat := Nat.right_le_or
 omega
theorem zjK (x y : Int) : 0 <= ze2 .u64 x y /\ ze2 .u64 x y < 18446744073709551616 := by rw [zki]; omega
theorem zkj (x y : Int) : 0 <= bOr .u64 x y /\ bOr .u64 x y < 18446744073709551616 := by rw [zjI]; omega
theorem zl3 (x y : Int) : 0 <= zi8 .u64 x y /\ zi8 .u64 x y < 18446744073709551616 := by rw [zgw]; omega
theorem zjL (x y : Int) : 0 <= zfS .u64 x y /\ zfS .u64 x y < 18446744073709551616 := by rw [zdF]; omega
theorem zg2 {x y : Int} (x0 : 0 <= x) : zbx .u64 x y = ((x.toNat / 2 ^ (min y.toNat 64) : Nat) : Int) := by
 rw [zni]
 obtain ⟨a, rfl⟩ := zof x0
 rw [Int.fdiv_eq_ediv_of_nonneg _ (by exact_mod_cast Nat.zero_le _)]
 simp
theorem zjM {x y : Int} (x0 : 0 <= x) (x1 : x < 18446744073709551616) : 0 <= zbx .u64 x y /\ zbx .u64 x y <= x := by
 rw [zg2 x0]
 have := Nat.div_le_self x.toNat (2 ^ (min y.toNat 64))
 generalize x.toNat / 2 ^ (min y.toNat 64) = q at *
 omega
theorem zh4 {x y s t : Int} (x0 : 0 <= x) (xy : x <= y) (ts : t <= s) : zbx .u64 x s <= zbx .u64 y t := by
 rw [zg2 x0, zg2 (by omega)]
 have h1 : x.toNat / 2 ^ (min s.toNat 64) <= y.toNat / 2 ^ (min s.toNat 64) := Nat.div_le_div_right (by omega)
 have h2 : y.toNat / 2 ^ (min s.toNat 64) <= y.toNat / 2 ^ (min t.toNat 64) := Nat.div_le_div_left (Nat.pow_le_pow_right (by omega) (by omega)) (Nat.pow_pos (by omega))
 exact_mod_cast Nat.le_trans h1 h2
theorem zbI {y : Int} (h : 0 <= y) : nn y = some () := by unfold nn; rw [if_neg (by omega)]
theorem zcv {y : Int} (h : y ≠ 0) : nz y = some () := by unfold nz; rw [if_neg h]
def zg3 : ByteArray := ⟨[0, 1, 2, 2, 3, 3, 3, 3, 4, 4, 4, 4, 4, 4, 4, 4, 5, 5, 5, 5, 5, 5, 5, 5, 5, 5, 5, 5, 5, 5, 5, 5, 6, 6, 6, 6, 6, 6, 6, 6, 6, 6, 6, 6, 6, 6, 6, 6, 6, 6, 6, 6, 6, 6, 6, 6, 6, 6, 6, 6, 6, 6, 6, 6, 7, 7, 7, 7, 7, 7, 7, 7, 7, 7, 7, 7, 7, 7, 7, 7, 7, 7, 7, 7, 7, 7, 7, 7, 7, 7, 7, 7, 7, 7, 7, 7, 7, 7, 7, 7, 7, 7, 7, 7, 7, 7, 7, 7, 7, 7, 7, 7, 7, 7, 7, 7, 7, 7, 7, 7, 7, 7, 7, 7, 7, 7, 7, 7, 8, 8, 8, 8, 8, 8, 8, 8, 8, 8, 8, 8, 8, 8, 8, 8, 8, 8, 8, 8, 8, 8, 8, 8, 8, 8, 8, 8, 8, 8, 8, 8, 8, 8, 8, 8, 8, 8, 8, 8, 8, 8, 8, 8, 8, 8, 8, 8, 8, 8, 8, 8, 8, 8, 8, 8, 8, 8, 8, 8, 8, 8, 8, 8, 8, 8, 8, 8, 8, 8, 8, 8, 8, 8, 8, 8, 8, 8, 8, 8, 8, 8, 8, 8, 8, 8, 8, 8, 8, 8, 8, 8, 8, 8, 8, 8, 8, 8, 8, 8, 8, 8, 8, 8, 8, 8, 8, 8, 8, 8, 8, 8, 8, 8, 8, 8, 8, 8, 8, 8, 8, 8, 8, 8, 8, 8, 8, 8].toArray⟩
theorem zqA : ∀ c : Nat, c < 256 -> ∃ k : Nat, k <= 8 /\ c < 2 ^ k /\ (c = 0 -> k = 0) /\ (0 < c -> 2 ^ (k - 1) <= c) /\ zhG zg3 (c : Int) = some (k : Int) := by
 have h : ∀ c : Fin 256, ∃ k : Fin 9, (c : Nat) < 2 ^ (k : Nat) /\ ((c : Nat) = 0 -> (k : Nat) = 0) /\ (0 < (c : Nat) -> 2 ^ ((k : Nat) - 1) <= (c : Nat)) /\ zhG zg3 ((c : Nat) : Int) = some ((k : Nat) : Int) := by decide +kernel
 intro c hc
 obtain ⟨k, h1, h2, h3, h4⟩ := h ⟨c, hc⟩
 exact ⟨k, by omega, h1, h2, h3, h4⟩
theorem zg4 {n : Nat} (s : Nat) (h : s <= 64) : zbx .u64 (n : Int) (s : Int) = ((n / 2 ^ s : Nat) : Int) := by
 rw [zg2 (by omega)]
 have : min (s : Int).toNat 64 = s := by omega
 rw [this]; simp
theorem zov (c s : Nat) (hc : c < 256) (hs : s <= 56) : ∃ k : Nat, k <= 8 /\ c < 2 ^ k /\ (c = 0 -> k = 0) /\ (0 < c -> 2 ^ (k - 1) <= c) /\
  ((zhG zg3 (IntKind.u8.wrap (c : Int))).bind fun c15 => some (w64 ((s : Int) + (w64 c15)))) = some ((s + k : Nat) : Int) := by
 obtain ⟨k, h1, h2, h3, h4, h5⟩ := zqA c hc
 refine ⟨k, h1, h2, h3, h4, ?_⟩
 have e : IntKind.u8.wrap (c : Int) = (c : Int) := by rw [IntKind.wrap_u8]; omega
 rw [e, h5]
 show some _ = some _
 rw [zO (x := (k : Int)) (by omega) (by omega), zO (by omega) (by omega)]
 simp
set_option maxRecDepth 100000 in
theorem zeI {n : Nat} (h1 : n < 18446744073709551616) : ∃ k : Nat, k <= 64 /\ zce (n : Int) = some (k : Int) /\ n < 2 ^ k /\ (n = 0 -> k = 0) /\ (0 < n -> 2 ^ (k - 1) <= n) := by
 have go : ∀ (c s : Nat), c < 256 -> s <= 56 -> c = n / 2 ^ s -> (s = 0 \/ 0 < c) -> ∃ k : Nat, k <= 64 /\ ((zhG zg3 (IntKind.u8.wrap (c : Int))).bind fun c15 => some (w64 ((s : Int) + (w64 c15)))) = some (k : Int) /\ n < 2 ^ k /\ (n = 0 -> k = 0) /\ (0 < n -> 2 ^ (k - 1) <= n) := by
  intro c s hc hs he hz
  obtain ⟨k, k1, k2, k3, k4, k5⟩ := zov c s hc hs
  have hp : 0 < 2 ^ s := Nat.pow_pos (by omega)
  refine ⟨s + k, by omega, k5, ?_, fun h0 => ?_, fun h0 => ?_⟩
  ·rw [Nat.pow_add, Nat.mul_comm]
   exact (Nat.div_lt_iff_lt_mul hp).1 (by omega)
  ·subst h0
   rw [Nat.zero_div] at he
   rcases hz with hz | hz
   ·have := k3 he; omega
   ·omega
  ·have hc0 : 0 < c := by
    rcases hz with rfl | hz
    ·simp at he; omega
    ·exact hz
   have hk := k4 hc0
   have hk0 : 0 < k := by
    rcases Nat.eq_zero_or_pos k with rfl | hk
    ·simp at k2; omega
    ·exact hk
   rw [show s + k - 1 = s + (k - 1) by omega, Nat.pow_add, Nat.mul_comm]
   exact (Nat.le_div_iff_mul_le hp).1 (by omega)
 show ∃ k : Nat, k <= 64 /\ ((if decide ((n : Int) >= 4294967296) then some (zbx .u64 (n : Int) 32, (32 : Int)) else some ((n : Int), 0)).bind fun o2 =>
  (if decide (o2.1 >= 65536) then some (zbx .u64 o2.1 16, w64 (o2.2 + 16)) else some (o2.1, o2.2)).bind fun o6 =>
  (if decide (o6.1 >= 256) then some (zbx .u64 o6.1 8, w64 (o6.2 + 8)) else some (o6.1, o6.2)).bind fun o10 =>
  (zhG zg3 (IntKind.u8.wrap o10.1)).bind fun c15 => some (w64 (o10.2 + (w64 c15)))) = some (k : Int) /\ _
 have s32 : zbx .u64 (n : Int) 32 = ((n / 2 ^ 32 : Nat) : Int) := zg4 32 (by omega)
 have s16 : ∀ m : Nat, zbx .u64 (m : Int) 16 = ((m / 2 ^ 16 : Nat) : Int) := fun m => zg4 16 (by omega)
 have s8 : ∀ m : Nat, zbx .u64 (m : Int) 8 = ((m / 2 ^ 8 : Nat) : Int) := fun m => zg4 8 (by omega)
 have last : ∀ m s : Nat, m < 65536 -> s <= 48 -> m = n / 2 ^ s -> (s = 0 \/ 0 < m) -> ∃ k : Nat, k <= 64 /\ ((if decide ((m : Int) >= 256) then some (zbx .u64 (m : Int) 8, w64 ((s : Int) + 8)) else some ((m : Int), (s : Int))).bind fun o10 =>
  (zhG zg3 (IntKind.u8.wrap o10.1)).bind fun c15 => some (w64 (o10.2 + (w64 c15)))) = some (k : Int) /\ n < 2 ^ k /\ (n = 0 -> k = 0) /\ (0 < n -> 2 ^ (k - 1) <= n) := by
  intro m s hm hs he hz
  by_cases h : m >= 256
  ·rw [if_pos (by simp; omega), s8, show w64 ((s : Int) + 8) = ((s + 8 : Nat) : Int) by rw [zO (by omega) (by omega)]; simp]
   exact go (m / 2 ^ 8) (s + 8) (by omega) (by omega) (by rw [he, Nat.div_div_eq_div_mul, <- Nat.pow_add]) (.inr (by omega))
  ·rw [if_neg (by simp; omega)]
   exact go m s (by omega) (by omega) he hz
 have mid : ∀ m s : Nat, m < 4294967296 -> s <= 32 -> m = n / 2 ^ s -> (s = 0 \/ 0 < m) -> ∃ k : Nat, k <= 64 /\ ((if decide ((m : Int) >= 65536) then some (zbx .u64 (m : Int) 16, w64 ((s : Int) + 16)) else some ((m : Int), (s : Int))).bind fun o6 =>
  (if decide (o6.1 >= 256) then some (zbx .u64 o6.1 8, w64 (o6.2 + 8)) else some (o6.1, o6.2)).bind fun o10 =>
  (zhG zg3 (IntKind.u8.wrap o10.1)).bind fun c15 => some (w64 (o10.2 + (w64 c15)))) = some (k : Int) /\ n < 2 ^ k /\ (n = 0 -> k = 0) /\ (0 < n -> 2 ^ (k - 1) <= n) := by
  intro m s hm hs he hz
  by_cases h : m >= 65536
  ·rw [if_pos (by simp; omega), s16, show w64 ((s : Int) + 16) = ((s + 16 : Nat) : Int) by rw [zO (by omega) (by omega)]; simp]
   exact last (m / 2 ^ 16) (s + 16) (by omega) (by omega) (by rw [he, Nat.div_div_eq_div_mul, <- Nat.pow_add]) (.inr (by omega))
  ·rw [if_neg (by simp; omega)]
   exact last m s (by omega) (by omega) he hz
 by_cases h : n >= 4294967296
 ·rw [if_pos (by simp; omega), s32]
  exact mid (n / 2 ^ 32) 32 (by omega) (by omega) rfl (.inr (by omega))
 ·rw [if_neg (by simp; omega)]
  exact mid n 0 (by omega) (by omega) (by simp) (.inl rfl)
end Go.Proofs.YtbmknhpfkpmigaaGreatDoor
namespace Go.Proofs.YtbmknhpfkpmigaaGreatDoor
open Go.Sx
theorem SW.full : SW ⟨0, 18446744073709551615⟩ := ⟨by simp, by simp, by simp⟩
theorem SW.one {n : Int} (h0 : 0 <= n) (h1 : n < 18446744073709551616) : SW ⟨n, n⟩ := ⟨h0, by simp, h1⟩
theorem SW.zero : SW ⟨0, 0⟩ := ⟨by simp, by simp, by simp⟩
theorem zpK (n : Nat) : zbx .u64 (n : Int) 32 = ((n / 4294967296 : Nat) : Int) := zg4 32 (by omega)
theorem zow (n : Nat) (h : n < 18446744073709551616) : ze2 .u64 (n : Int) 4294967295 = ((n % 4294967296 : Nat) : Int) := by
 rw [zfE (by omega) (by omega) (by omega) (by omega)]
 have : (n : Int).toNat &&& (4294967295 : Int).toNat = n % 2 ^ 32 := by
  rw [<- Nat.and_two_pow_sub_one_eq_mod]
  rfl
 rw [this]
theorem wuN {n : Nat} (h : n < 18446744073709551616) : qf (n : Int) = (n : Int) := jJ (by omega) (by omega)
theorem zox {x y : Nat} (hx : x < 18446744073709551616) (hy : y < 18446744073709551616) : ∃ hi : Nat, zdb (x : Int) (y : Int) = some ((hi : Int), qf ((x : Int) * (y : Int))) /\ hi = x * y / 18446744073709551616 := by
 obtain ⟨x0, hx0⟩ : ∃ q, q = x % 4294967296 := ⟨_, rfl⟩
 obtain ⟨x1, hx1⟩ : ∃ q, q = x / 4294967296 := ⟨_, rfl⟩
 obtain ⟨y0, hy0⟩ : ∃ q, q = y % 4294967296 := ⟨_, rfl⟩
 obtain ⟨y1, hy1⟩ : ∃ q, q = y / 4294967296 := ⟨_, rfl⟩
 have ex : x = x1 * 4294967296 + x0 := by omega
 have ey : y = y1 * 4294967296 + y0 := by omega
 have b00 : x0 * y0 <= 4294967295 * 4294967295 := Nat.mul_le_mul (by omega) (by omega)
 have b01 : x0 * y1 <= 4294967295 * 4294967295 := Nat.mul_le_mul (by omega) (by omega)
 have b10 : x1 * y0 <= 4294967295 * 4294967295 := Nat.mul_le_mul (by omega) (by omega)
 have b11 : x1 * y1 <= 4294967295 * 4294967295 := Nat.mul_le_mul (by omega) (by omega)
 have exy : x * y = x1 * y1 * 18446744073709551616 + (x1 * y0 + x0 * y1) * 4294967296 + x0 * y0 := by
  rw [ex, ey]
  simp only [Nat.add_mul, Nat.mul_add, Nat.mul_assoc]
  have c1 : 4294967296 * (y1 * 4294967296) = y1 * 18446744073709551616 := by omega
  have c2 : 4294967296 * y0 = y0 * 4294967296 := Nat.mul_comm _ _
  rw [c1, c2]
  omega
 unfold zdb
 simp only [zpK, zow x hx, zow y hy, <- hx0, <- hx1, <- hy0, <- hy1, <- Int.natCast_mul]
 generalize hp00 : x0 * y0 = p00 at *
 generalize hp01 : x0 * y1 = p01 at *
 generalize hp10 : x1 * y0 = p10 at *
 generalize hp11 : x1 * y1 = p11 at *
 rw [wuN (n := p00) (by omega), wuN (n := p01) (by omega), wuN (n := p10) (by omega), wuN (n := p11) (by omega)]
 simp only [zpK, <- Int.natCast_add]
 rw [wuN (n := p10 + p00 / 4294967296) (by omega)]
 simp only [zpK, <- Int.natCast_add]
 rw [zow _ (by omega), wuN (n := p11 + (p10 + p00 / 4294967296) / 4294967296) (by omega)]
 simp only [<- Int.natCast_add]
 rw [wuN (n := (p10 + p00 / 4294967296) % 4294967296 + p01) (by omega)]
 simp only [zpK, <- Int.natCast_add]
 rw [wuN (by omega)]
 refine ⟨_, rfl, ?_⟩
 rw [exy]
 omega
theorem zbu : zaA = some ⟨0, 18446744073709551615⟩ := rfl
theorem zdl (s : zb) : vl s = some (decide (s.Lo <= s.Hi)) := rfl
theorem zpp {a b : zb} (ha : SW a) (hb : SW b) : OK (zcQ a b) SW := by
 obtain ⟨a0, a1, a2⟩ := ha
 obtain ⟨b0, b1, b2⟩ := hb
 unfold zcQ zi9
 rw [if_pos ⟨by omega, by omega, by omega, by omega⟩]
 simp only [zbs, zbu]
 refine OK.ite (fun h => OK.ret SW.full) (fun h => OK.ret ?_)
 have h1 := of_decide_eq_false h
 refine ⟨(xn _).1, ?_, ?_⟩
 ·show qf _ <= (a.Hi + b.Hi + 0) % 18446744073709551616
  rw [jJ (by omega) (by omega)]
  omega
 ·show (a.Hi + b.Hi + 0) % 18446744073709551616 < _
  omega
theorem zkQ {a b : zb} (ha : SW a) (hb : SW b) : OK (vS a b) SW := by
 obtain ⟨al, ah⟩ := a
 obtain ⟨bl, bh⟩ := b
 obtain ⟨a0, a1, a2⟩ := ha
 obtain ⟨b0, b1, b2⟩ := hb
 simp only at a0 a1 a2 b0 b1 b2
 obtain ⟨al, rfl⟩ := zof a0
 obtain ⟨bl, rfl⟩ := zof b0
 obtain ⟨ah, rfl⟩ := zof (show 0 <= ah by omega)
 obtain ⟨bh, rfl⟩ := zof (show 0 <= bh by omega)
 unfold vS
 obtain ⟨hi, h1, h2⟩ := zox (x := ah) (y := bh) (by omega) (by omega)
 simp only [h1, zbs, zbu]
 refine OK.ite (fun h => OK.ret SW.full) (fun h => OK.ret ?_)
 have h3 := of_decide_eq_false h
 have h4 : ah * bh < 18446744073709551616 := by
  have : hi = 0 := by omega
  rw [this] at h2
  exact (Nat.div_eq_zero_iff_lt (by omega)).1 h2.symm
 have h5 : al * bl <= ah * bh := Nat.mul_le_mul (by omega) (by omega)
 simp only [<- Int.natCast_mul]
 rw [wuN h4, wuN (by omega)]
 exact ⟨Int.natCast_nonneg _, Int.ofNat_le.2 h5, by show ((ah * bh : Nat) : Int) < _; omega⟩
theorem zdG (a b : Nat) : (a : Int).tdiv (b : Int) = ((a / b : Nat) : Int) := rfl
theorem zkR {a b : zb} (ha : SW a) (hb : SW b) : OK (vT a b) SW := by
 obtain ⟨al, ah⟩ := a
 obtain ⟨bl, bh⟩ := b
 obtain ⟨a0, a1, a2⟩ := ha
 obtain ⟨b0, b1, b2⟩ := hb
 simp only at a0 a1 a2 b0 b1 b2
 unfold vT
 refine OK.ite (fun h => OK.ret ⟨by simp, by simp; omega, by simpa using a2⟩) (fun h => ?_)
 have hb : bl ≠ 0 := by simpa using h
 rw [zcv (show bh ≠ 0 by omega)]
 simp only [zbs]
 rw [zcv hb]
 obtain ⟨al, rfl⟩ := zof a0
 obtain ⟨bl, rfl⟩ := zof b0
 obtain ⟨ah, rfl⟩ := zof (show 0 <= ah by omega)
 obtain ⟨bh, rfl⟩ := zof (show 0 <= bh by omega)
 simp only [zbs, zdG]
 have h1 : al / bh <= ah / bl := Nat.le_trans (Nat.div_le_div_right (by omega)) (Nat.div_le_div_left (by omega) (by omega))
 have h2 := Nat.div_le_self ah bl
 rw [wuN (by omega), wuN (by omega)]
 exact OK.ret ⟨Int.natCast_nonneg _, Int.ofNat_le.2 h1, by show ((ah / bl : Nat) : Int) < _; omega⟩
theorem zoy {a b : zb} (ha : SW a) (hb : SW b) : OK (zbR a b) SW := by
 obtain ⟨a0, a1, a2⟩ := id ha
 obtain ⟨b0, b1, b2⟩ := hb
 unfold zbR
 refine OK.ite (fun h => OK.ret ⟨by simp, by simp; omega, by simpa using a2⟩) (fun h => ?_)
 refine OK.ite (fun h => OK.ret ha) (fun h2 => OK.ret ?_)
 have hb : b.Lo ≠ 0 := by simpa using h
 rw [jJ (by omega) (by omega)]
 refine ⟨by simp, ?_, ?_⟩ <;> (unfold zb3; simp only; split <;> omega)
theorem zl4 {n : Int} (h0 : 0 <= n) (h1 : n < 18446744073709551616) : OK (zaW n) (fun r => n <= r /\ r < 18446744073709551616) := by
 obtain ⟨n, rfl⟩ := zof h0
 obtain ⟨k, k1, k2, k3, _⟩ := zeI (n := n) (by omega)
 unfold zaW
 simp only [k2, zbs]
 rw [zbI (by omega)]
 refine OK.ret ?_
 have e : zfS .u64 1 (k : Int) = ((2 ^ k % 18446744073709551616 : Nat) : Int) := by
  rw [zdF, show min ((k : Int)).toNat 64 = k by omega, Int.one_mul]
  simp
 rw [e]
 by_cases hk : k = 64
 ·subst hk
  exact ⟨by show _ <= qf (((2 ^ 64 % 18446744073709551616 : Nat) : Int) - 1); rw [zbN]; omega, (xn _).2⟩
 ·have h2 : (2 : Nat) ^ k <= 2 ^ 63 := Nat.pow_le_pow_right (by omega) (by omega)
  generalize 2 ^ k = q at *
  rw [Nat.mod_eq_of_lt (by omega), jJ (by omega) (by omega)]
  omega
theorem zoz {a b : zb} (ha : SW a) (hb : SW b) : OK (zbo a b) SW := by
 obtain ⟨al, ah⟩ := a
 obtain ⟨bl, bh⟩ := b
 obtain ⟨a0, a1, a2⟩ := ha
 obtain ⟨b0, b1, b2⟩ := hb
 simp only at a0 a1 a2 b0 b1 b2
 obtain ⟨al, rfl⟩ := zof a0
 obtain ⟨bl, rfl⟩ := zof b0
 obtain ⟨ah, rfl⟩ := zof (show 0 <= ah by omega)
 obtain ⟨k, k1, k2, k3, k4, k5⟩ := zeI (n := ah) (by omega)
 unfold zbo xr
 simp only [k2, zbs, zbu]
 refine OK.bind2 (R := fun o => o = false -> (k = 0 \/ k + bl <= 64)) ?_ (fun o ho => ?_)
 ·refine OK.ite (fun _ => OK.ret (by simp)) (fun _ => OK.ite (fun h1 => ?_) (fun h1 => OK.ret (fun _ => .inl ?_)))
  ·refine OK.ite (fun _ => OK.ret (by simp)) (fun h2 => OK.ret (fun h3 => .inr ?_))
   have h2 := of_decide_eq_false h2
   have h3 := of_decide_eq_false h3
   rw [jJ (x := (k : Int)) (by omega) (by omega), jJ (by omega) (by omega)] at h3
   omega
  ·have := of_decide_eq_false h1
   omega
 ·refine OK.ite (fun _ => OK.ret SW.full) (fun h => ?_)
  rw [zbI (by omega)]
  simp only [zbs]
  refine OK.ret ?_
  have e : ∀ n : Nat, zfS .u64 (n : Int) (bl : Int) = ((n * 2 ^ (min bl 64) % 18446744073709551616 : Nat) : Int) := by
   intro n
   rw [zdF, show ((bl : Int)).toNat = bl by omega]
   simp
  rw [e, e]
  rcases ho h with hk | hk
  ·have h6 : ah = 0 := by subst hk; simp at k3; omega
   have h7 : al = 0 := by omega
   subst h6; subst h7
   exact ⟨by simp, by simp, by simp⟩
  ·rw [show min bl 64 = bl by omega]
   have h6 : ah * 2 ^ bl < 18446744073709551616 := by
    have h7 : ah * 2 ^ bl < 2 ^ k * 2 ^ bl := Nat.mul_lt_mul_of_pos_right k3 (Nat.pow_pos (by omega))
    rw [<- Nat.pow_add] at h7
    have h8 : (2 : Nat) ^ (k + bl) <= 2 ^ 64 := Nat.pow_le_pow_right (by omega) hk
    omega
   have h9 : al * 2 ^ bl <= ah * 2 ^ bl := Nat.mul_le_mul_right _ (by omega)
   rw [Nat.mod_eq_of_lt h6, Nat.mod_eq_of_lt (by omega)]
   exact ⟨Int.natCast_nonneg _, Int.ofNat_le.2 h9, Int.ofNat_lt.2 h6⟩
theorem zh5 {op a b : Int} (a0 : 0 <= a) (a1 : a < 18446744073709551616) (b0 : 0 <= b) (b1 : b < 18446744073709551616) : OK (zb7 op a b) (fun r => 0 <= r.1 /\ r.1 < 18446744073709551616 /\ r.2 = (decide (1 <= op) && decide (op <= 10))) := by
 unfold zb7
 have q : ∀ k : Int, 1 <= k -> k <= 10 -> (op == k) = true -> true = (decide (1 <= op) && decide (op <= 10)) := by
  intro k h1 h2 h3
  have : op = k := by simpa using h3
  subst this; simp [h1, h2]
 refine OK.ite (fun h => OK.ret ⟨(xn _).1, (xn _).2, q 1 (by omega) (by omega) h⟩) (fun n1 => ?_)
 refine OK.ite (fun h => OK.ret ⟨(xn _).1, (xn _).2, q 2 (by omega) (by omega) h⟩) (fun n2 => ?_)
 refine OK.ite (fun h => OK.ret ⟨(xn _).1, (xn _).2, q 3 (by omega) (by omega) h⟩) (fun n3 => ?_)
 refine OK.ite (fun h => ?_) (fun n4 => ?_)
 ·refine OK.ite (fun _ => OK.ret ⟨by simp, by simp, q 4 (by omega) (by omega) h⟩) (fun hz => ?_)
  rw [zcv (by simpa using hz)]
  exact OK.ret ⟨(xn _).1, (xn _).2, q 4 (by omega) (by omega) h⟩
 refine OK.ite (fun h => ?_) (fun n5 => ?_)
 ·refine OK.ite (fun _ => OK.ret ⟨a0, a1, q 5 (by omega) (by omega) h⟩) (fun hz => ?_)
  rw [zcv (by simpa using hz)]
  obtain ⟨a, rfl⟩ := zof a0
  obtain ⟨b, rfl⟩ := zof b0
  have e : (a : Int).tmod (b : Int) = ((a % b : Nat) : Int) := rfl
  have := Nat.mod_le a b
  refine OK.ret ⟨?_, ?_, q 5 (by omega) (by omega) h⟩
  ·show 0 <= (a : Int).tmod (b : Int); rw [e]; omega
  ·show (a : Int).tmod (b : Int) < _; rw [e]; omega
 refine OK.ite (fun h => OK.ret ⟨(zjK _ _).1, (zjK _ _).2, q 6 (by omega) (by omega) h⟩) (fun n6 => ?_)
 refine OK.ite (fun h => OK.ret ⟨(zkj _ _).1, (zkj _ _).2, q 7 (by omega) (by omega) h⟩) (fun n7 => ?_)
 refine OK.ite (fun h => OK.ret ⟨(zl3 _ _).1, (zl3 _ _).2, q 8 (by omega) (by omega) h⟩) (fun n8 => ?_)
 refine OK.ite (fun h => ?_) (fun n9 => ?_)
 ·rw [zbI b0]
  exact OK.ret ⟨(zjL _ _).1, (zjL _ _).2, q 9 (by omega) (by omega) h⟩
 refine OK.ite (fun h => ?_) (fun n10 => OK.ret ⟨by simp, by simp, ?_⟩)
 ·rw [zbI b0]
  have := zjM (y := b) a0 a1
  exact OK.ret ⟨this.1, by show zbx .u64 a b < _; omega, q 10 (by omega) (by omega) h⟩
 ·simp only [beq_eq_false_iff_ne, ne_eq] at n1 n2 n3 n4 n5 n6 n7 n8 n9 n10
  show false = _
  rw [Eq.comm, Bool.and_eq_false_iff]
  simp only [decide_eq_false_iff_not]
  omega
theorem zpq {op : Int} {a b : zb} (ha : SW a) (hb : SW b) : OK (zdz op a b) (fun r => SW r.1) := by
 obtain ⟨a0, a1, a2⟩ := id ha
 obtain ⟨b0, b1, b2⟩ := id hb
 unfold zdz
 refine OK.bind2 (zh5 (op := op) (a := a.Lo) (b := b.Lo) a0 (by omega) b0 (by omega)) (fun r hr => ?_)
 simp only [zdl, zbs]
 refine OK.bind2 (R := fun o => o = false -> 1 <= op /\ op <= 10) ?_ (fun o ho => ?_)
 ·refine OK.ite (fun _ => OK.ret (by simp)) (fun h => ?_)
  have h2 : 1 <= op /\ op <= 10 := by
   have : r.2 = true := by simpa using h
   rw [hr.2.2] at this
   simpa using this
  exact OK.ite (fun _ => OK.ret (by simp)) (fun _ => OK.ret (fun _ => h2))
 refine OK.ite (fun _ => OK.ret SW.zero) (fun h => ?_)
 obtain ⟨o1, o2⟩ := ho h
 refine OK.bind2 (R := fun _ => True) ?_ (fun _ _ => ?_)
 ·unfold xr
  exact OK.ite (fun _ => OK.ret trivial) (fun _ => OK.ret trivial)
 refine OK.ite (fun _ => OK.ret (SW.one hr.1 hr.2.1)) (fun _ => ?_)
 have fwd : ∀ {o : Option zb}, OK o SW -> OK (o.bind fun r => some (r, true)) (fun r => SW r.1) := fun h => OK.bind2 h (fun x hx => OK.ret hx)
 refine OK.ite (fun _ => fwd (zpp ha hb)) (fun _ => ?_)
 refine OK.ite (fun _ => OK.ite (fun _ => fwd (OK.ret SW.full)) (fun h => OK.ret ?_)) (fun _ => ?_)
 ·have h := of_decide_eq_false h
  rw [jJ (by omega) (by omega), jJ (by omega) (by omega)]
  exact ⟨by simp; omega, by simp; omega, by simp; omega⟩
 refine OK.ite (fun _ => fwd (zkQ ha hb)) (fun _ => ?_)
 refine OK.ite (fun _ => fwd (zkR ha hb)) (fun _ => ?_)
 refine OK.ite (fun _ => fwd (zoy ha hb)) (fun _ => ?_)
 refine OK.ite (fun _ => OK.ret ⟨by simp, ?_, ?_⟩) (fun _ => ?_)
 ·show 0 <= zb3 a.Hi b.Hi
  unfold zb3; split <;> omega
 ·show zb3 a.Hi b.Hi < _
  unfold zb3; split <;> omega
 have hor := zjJ (x := a.Hi) (y := b.Hi) (by omega) a2 (by omega) b2
 have hor2 := zkj a.Hi b.Hi
 refine OK.ite (fun _ => OK.bind2 (zl4 hor2.1 hor2.2) (fun x hx => OK.ret ⟨?_, ?_, ?_⟩)) (fun _ => ?_)
 ·show 0 <= zcC a.Lo b.Lo
  unfold zcC; split <;> omega
 ·show zcC a.Lo b.Lo <= x
  unfold zcC; split <;> omega
 ·exact hx.2
 refine OK.ite (fun _ => OK.bind2 (zl4 hor2.1 hor2.2) (fun x hx => OK.ret ⟨by simp, ?_, ?_⟩)) (fun _ => ?_)
 ·show 0 <= x
  omega
 ·exact hx.2
 refine OK.ite (fun _ => fwd (zoz ha hb)) (fun _ => ?_)
 rw [zbI (show 0 <= b.Hi by omega)]
 simp only [zbs]
 rw [zbI b0]
 refine OK.ret ⟨(zjM a0 (by omega)).1, zh4 a0 a1 b1, ?_⟩
 have := (zjM (y := b.Lo) (show 0 <= a.Hi by omega) a2).2
 show zbx .u64 a.Hi b.Lo < _
 omega
end Go.Proofs.YtbmknhpfkpmigaaGreatDoor

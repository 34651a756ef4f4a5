import Derived.Test.YtgmmfjpmahcocaaGreatDoorKArith
set_option linter.unusedVariables false
set_option linter.unusedSimpArgs false
namespace Go.Proofs.YtgmmfjpmahcocaaGreatDoor
open Go.Sx
theorem zcp {s : zd} (h : SW s) : zK s = some true := by
 have := h.2.1
 rw [zK]; congr 1; simp; omega
theorem zhu (s : zd) : xd s = some (s.Lo == s.Hi) := rfl
theorem zlB {a b : Nat} (ha : a < 18446744073709551616) (hb : b < 18446744073709551616) : zaa a b = some (decide (18446744073709551616 <= a * b)) := by
 rw [zaa]
 by_cases h : a = 0
 ·subst h; simp
 ·rw [if_pos (by simp; omega), zb8 (by omega)]
  show some (decide ((b : Int) > zp (Int.tdiv ((18446744073709551615 : Nat) : Int) (a : Int)))) = _
  rw [zdh, wuN (Nat.lt_of_le_of_lt (Nat.div_le_self _ _) (by decide))]
  congr 1
  have : ((b : Int) > ((18446744073709551615 / a : Nat) : Int)) ↔ 18446744073709551616 <= a * b := by
   constructor
   ·intro h1
    have h2 : 18446744073709551615 / a < b := by omega
    have := (Nat.div_lt_iff_lt_mul (by omega : 0 < a)).1 h2
    rw [Nat.mul_comm] at this; omega
   ·intro h1
    have h2 : 18446744073709551615 / a < b := (Nat.div_lt_iff_lt_mul (by omega : 0 < a)).2 (by rw [Nat.mul_comm]; omega)
    omega
  rw [decide_eq_decide]; exact this
theorem zkI {n : Nat} (hn : n < 18446744073709551616) {k : Nat} (hk : k <= 64) (h1 : n < 2 ^ k) (h2 : k = 0 \/ 2 ^ (k - 1) <= n) : ∀ (j f i : Nat), i + j = k -> j < f -> loop (jL n) f ((2 ^ i - 1 : Nat) : Int) = some ((2 ^ k - 1 : Nat) : Int) := by
 intro j
 induction j with
 | zero =>
  intro f i hi hf
  obtain ⟨f, rfl⟩ : ∃ q, f = q + 1 := ⟨f - 1, by omega⟩
  have : i = k := by omega
  subst this
  rw [loop, jL, if_neg]
  simp; omega
 | succ j ih =>
  intro f i hi hf
  obtain ⟨f, rfl⟩ : ∃ q, f = q + 1 := ⟨f - 1, by omega⟩
  have hlt : 2 ^ i - 1 < n := by
   rcases h2 with h2 | h2
   ·omega
   ·have h3 : 2 ^ i <= 2 ^ (k - 1) := Nat.pow_le_pow_right (by decide) (by omega)
    have := Nat.pow_pos (n := i) (show 0 < 2 by decide)
    omega
  have h64 := zlm (i := i) (by omega)
  have hp := Nat.pow_pos (n := i) (show 0 < 2 by decide)
  rw [loop, jL, if_pos (by simp; omega)]
  have e : zp (zp (2 * ((2 ^ i - 1 : Nat) : Int)) + 1) = ((2 ^ (i + 1) - 1 : Nat) : Int) := by
   rw [Nat.pow_succ, show (2 : Int) * ((2 ^ i - 1 : Nat) : Int) = ((2 * (2 ^ i - 1) : Nat) : Int) by push_cast; rfl, wuN (by omega), show ((2 * (2 ^ i - 1) : Nat) : Int) + 1 = ((2 * (2 ^ i - 1) + 1 : Nat) : Int) by push_cast; rfl, wuN (by omega)]
   congr 1; omega
  rw [e]
  exact ih f (i + 1) (by omega) (by omega)
theorem zmM {n fu : Nat} (hf : 70 <= fu) (hn : n < 18446744073709551616) {k : Nat} (hk : k <= 64) (h1 : n < 2 ^ k) (h2 : k = 0 \/ 2 ^ (k - 1) <= n) : xJ fu n = some ((2 ^ k - 1 : Nat) : Int) := by
 have := zkI hn hk h1 h2 k fu 0 (by omega) (by omega)
 rw [xJ]
 show (loop (jL n) fu (((2 ^ 0 - 1 : Nat) : Int))).bind _ = _
 rw [this]; rfl
theorem zh9 {a b fu : Nat} (hf : 70 <= fu) (ha : a < 18446744073709551616) (hb : b < 18446744073709551616) : ∃ v, zaY (bOr .u64 (a : Int) (b : Int)) = some v /\ xJ fu (zay a b) = some v := by
 rw [orN ha hb]
 obtain ⟨k, hk, e, h1, h2, h3⟩ := zee (zn2 ha hb)
 refine ⟨((2 ^ k - 1 : Nat) : Int), ?_, ?_⟩
 ·rw [zaY, e]
  simp only [zbs, nnN]
  congr 1
  rw [show (1 : Int) = ((1 : Nat) : Int) from rfl, ziv, Nat.one_mul, zby]
  have hp := Nat.pow_pos (n := k) (show 0 < 2 by decide)
  by_cases h : k = 64
  ·subst h; decide
  ·have := zlm (i := k) (by omega)
   rw [Nat.mod_eq_of_lt (by omega)]; omega
 ·have em : zay (a : Int) (b : Int) = ((max a b : Nat) : Int) := by unfold zay; split <;> omega
  rw [em]
  have l1 : a <= a ||| b := Nat.left_le_or
  have l2 : b <= a ||| b := Nat.right_le_or
  refine zmM hf (by omega) hk (by omega) ?_
  by_cases h0 : k = 0
  ·exact .inl h0
  ·right
   by_cases hlt : 2 ^ (k - 1) <= max a b
   ·exact hlt
   ·have := Nat.or_lt_two_pow (n := k - 1) (x := a) (y := b) (by omega) (by omega)
    have h4 : 0 < a ||| b := by
     by_cases hz : a ||| b = 0
     ·exact absurd (h2 hz) h0
     ·omega
    have := h3 h4
    omega
theorem zkJ {b : Nat} (hb : b < 18446744073709551616) : ∀ (k n a i : Nat), a < 18446744073709551616 -> a < 2 ^ k -> k < n -> i <= b ->
  loop (jM b) n ((a : Int), (i : Int)) = some ((a / 2 ^ (b - i) : Nat) : Int) := by
 intro k
 induction k with
 | zero =>
  intro n a i _ ha hn hi
  obtain ⟨n, rfl⟩ : ∃ q, n = q + 1 := ⟨n - 1, by omega⟩
  have h0 : a = 0 := by simpa using ha
  subst h0
  rw [loop, jM]
  simp
 | succ k ih =>
  intro n a i ha64 ha hn hi
  obtain ⟨n, rfl⟩ : ∃ q, n = q + 1 := ⟨n - 1, by omega⟩
  rw [loop, jM]
  by_cases h0 : a = 0
  ·subst h0; simp
  ·by_cases hib : i = b
   ·subst hib; simp
   ·have hc : (decide ((i : Int) < (b : Int)) && decide ((a : Int) > 0)) = true := by
     rw [zae]; exact ⟨decide_eq_true (by omega), decide_eq_true (by omega)⟩
    simp only [hc, if_true]
    have e2 : zp ((a : Int).tdiv 2) = ((a / 2 : Nat) : Int) := by
     rw [show (2 : Int) = ((2 : Nat) : Int) from rfl, zdh, wuN (by omega)]
    rw [e2, show (i : Int) + 1 = ((i + 1 : Nat) : Int) by push_cast; rfl, wuN (by omega), ih n _ (i + 1) (by omega) (by rw [Nat.pow_succ] at ha; omega) (by omega) (by omega)]
    have : b - i = (b - (i + 1)) + 1 := by omega
    rw [this, Nat.pow_succ, Nat.mul_comm (2 ^ _) 2, Nat.div_div_eq_div_mul]
theorem zkK {a b fu : Nat} (hf : 70 <= fu) (ha : a < 18446744073709551616) (hb : b < 18446744073709551616) : vv fu a b = some (qQ .u64 a b) := by
 have := zkJ hb 64 fu a 0 ha ha (by omega) (by omega)
 rw [vv]
 show (loop (jM b) fu ((a : Int), ((0 : Nat) : Int))).bind _ = _
 rw [this, zka ha]; rfl
theorem zjO {b : Nat} (hb : b < 18446744073709551616) : ∀ (k n lo hi i : Nat), hi < 18446744073709551616 -> lo <= hi -> (hi ≠ 0 -> 2 ^ (64 - k) <= hi) -> k <= 64 -> k + 1 < n -> i <= b ->
  loop (qF b) n (⟨(lo : Int), (hi : Int)⟩, (i : Int)) = some (if hi ≠ 0 /\ 18446744073709551616 <= hi * 2 ^ (b - i) then .inr (⟨0, 0⟩, false) else .inl ⟨((lo * 2 ^ (b - i) : Nat) : Int), ((hi * 2 ^ (b - i) : Nat) : Int)⟩) := by
 intro k
 induction k with
 | zero =>
  intro n lo hi i h1 h2 h3 _ hn hi'
  obtain ⟨n, rfl⟩ : ∃ q, n = q + 1 := ⟨n - 1, by omega⟩
  have h0 : hi = 0 := by
   by_cases h : hi = 0
   ·exact h
   ·have := h3 h
    have e : 2 ^ (64 - 0) = 18446744073709551616 := by decide
    omega
  subst h0
  have : lo = 0 := by omega
  subst this
  rw [loop, qF]
  simp
 | succ k ih =>
  intro n lo hi i h1 h2 h3 hk hn hi'
  obtain ⟨n, rfl⟩ : ∃ q, n = q + 1 := ⟨n - 1, by omega⟩
  rw [loop, qF]
  by_cases h0 : hi = 0
  ·subst h0
   have : lo = 0 := by omega
   subst this
   simp
  ·by_cases hib : i = b
   ·subst hib; simp; omega
   ·have hc : (decide ((i : Int) < (b : Int)) && decide ((hi : Int) > 0)) = true := by
     rw [zae]; exact ⟨decide_eq_true (by omega), decide_eq_true (by omega)⟩
    simp only [hc, if_true]
    have hpow : b - i = (b - (i + 1)) + 1 := by omega
    have hp := Nat.pow_pos (n := b - (i + 1)) (show 0 < 2 by decide)
    by_cases hg : 9223372036854775807 < hi
    ·rw [if_pos (by simp; omega), if_pos]
     refine ⟨h0, ?_⟩
     rw [hpow, Nat.pow_succ, Nat.mul_comm (2 ^ _) 2, <- Nat.mul_assoc]
     exact Nat.le_trans (by omega) (Nat.le_mul_of_pos_right (hi * 2) hp)
    ·rw [if_neg (by simp; omega)]
     rw [show (2 : Int) * (lo : Int) = ((2 * lo : Nat) : Int) by push_cast; rfl, wuN (by omega), show (2 : Int) * (hi : Int) = ((2 * hi : Nat) : Int) by push_cast; rfl, wuN (by omega), show (i : Int) + 1 = ((i + 1 : Nat) : Int) by push_cast; rfl, wuN (by omega)]
     rw [ih n (2 * lo) (2 * hi) (i + 1) (by omega) (by omega) (by
      intro _
      have := h3 h0
      have e : 64 - k = (64 - (k + 1)) + 1 := by omega
      rw [e, Nat.pow_succ]; omega) (by omega) (by omega) (by omega)]
     have e1 : 2 * hi * 2 ^ (b - (i + 1)) = hi * 2 ^ (b - i) := by rw [hpow, Nat.pow_succ, Nat.mul_comm 2 hi, Nat.mul_assoc, Nat.mul_comm 2]
     have e2 : 2 * lo * 2 ^ (b - (i + 1)) = lo * 2 ^ (b - i) := by rw [hpow, Nat.pow_succ, Nat.mul_comm 2 lo, Nat.mul_assoc, Nat.mul_comm 2]
     rw [e1, e2]
     have : (2 * hi ≠ 0) ↔ (hi ≠ 0) := by omega
     simp only [this]
theorem zjP {lo hi b fu : Nat} (hf : 70 <= fu) (h1 : hi < 18446744073709551616) (h2 : lo <= hi) (hb : b < 18446744073709551616) :
  xq fu ⟨(lo : Int), (hi : Int)⟩ (b : Int) = some (if hi ≠ 0 /\ 18446744073709551616 <= hi * 2 ^ b then (⟨0, 0⟩, false) else (⟨((lo * 2 ^ b : Nat) : Int), ((hi * 2 ^ b : Nat) : Int)⟩, true)) := by
 have := zjO hb 64 fu lo hi 0 h1 h2 (by intro h; simp; omega) (by omega) (by omega) (by omega)
 rw [xq]
 show (loop (qF b) fu (_, ((0 : Nat) : Int))).bind _ = _
 rw [this, Nat.sub_zero]
 by_cases h : hi ≠ 0 /\ 18446744073709551616 <= hi * 2 ^ b
 ·rw [if_pos h, if_pos h]; rfl
 ·rw [if_neg h, if_neg h]; rfl
theorem SWn {s : zd} (h : SW s) : ∃ lo hi : Nat, s = ⟨lo, hi⟩ /\ lo <= hi /\ hi < 18446744073709551616 := by
 obtain ⟨h0, h1, h2⟩ := h
 obtain ⟨lo, hi⟩ := s
 exact ⟨lo.toNat, hi.toNat, by simp only at h0 h1 h2 |-; congr 1 <;> omega, by simp only at h0 h1 h2; omega, by simp only at h0 h1 h2; omega⟩
theorem zmN (a b : Nat) : vH (a : Int) (b : Int) = ((min a b : Nat) : Int) := by unfold vH; split <;> omega
theorem zmO (a b : Nat) : zay (a : Int) (b : Int) = ((max a b : Nat) : Int) := by unfold zay; split <;> omega
theorem zmP {al ah bl bh fu : Nat} (hf : 70 <= fu) (h1 : al <= ah) (h2 : ah < 18446744073709551616) (h3 : bl <= bh) (h4 : bh < 18446744073709551616) :
  ∃ s, zbJ ⟨al, ah⟩ ⟨bl, bh⟩ = some s /\ (if (((bl : Int)) != (bh : Int)) = true then some ((zd.mk 0 18446744073709551615), true) else (xq fu ⟨al, ah⟩ (bl : Int)).bind fun r => if (!r.2) = true then some ((zd.mk 0 18446744073709551615), true) else some (r.1, true)) = some (s, true) := by
 obtain ⟨k, hk, e, l1, l2, l3⟩ := zee (n := ah) h2
 rw [zbJ, zhu]
 by_cases hs : bl = bh
 ·subst hs
  have hs2 : ((bl : Int) == (bl : Int)) = true := by simp
  rw [if_neg (show ¬ ((((bl : Int)) != (bl : Int)) = true) by simp), zjP hf h2 h1 h4]
  simp only [zbs, hs2, Bool.not_true, zfe, if_false, e]
  have key : (ah ≠ 0 /\ 18446744073709551616 <= ah * 2 ^ bl) ↔ (0 < k /\ 64 < k + bl) := by
   by_cases h0 : ah = 0
   ·have := l2 h0; omega
   ·have hk0 : 0 < k := by
     by_cases hz : k = 0
     ·subst hz; omega
     ·omega
    have l4 := l3 (by omega)
    constructor
    ·rintro ⟨_, h⟩
     refine ⟨hk0, ?_⟩
     by_cases hc : 64 < k + bl
     ·exact hc
     ·exfalso
      have : ah * 2 ^ bl < 2 ^ k * 2 ^ bl := Nat.mul_lt_mul_of_pos_right l1 (Nat.pow_pos (by decide))
      rw [<- Nat.pow_add] at this
      have h5 : 2 ^ (k + bl) <= 2 ^ 64 := Nat.pow_le_pow_right (by decide) (by omega)
      have : (2 : Nat) ^ 64 = 18446744073709551616 := by decide
      omega
    ·rintro ⟨_, h⟩
     refine ⟨h0, ?_⟩
     have h5 : 2 ^ (k - 1) * 2 ^ bl <= ah * 2 ^ bl := Nat.mul_le_mul_right _ l4
     rw [<- Nat.pow_add] at h5
     have h6 : 2 ^ 64 <= 2 ^ (k - 1 + bl) := Nat.pow_le_pow_right (by decide) (by omega)
     have : (2 : Nat) ^ 64 = 18446744073709551616 := by decide
     omega
  have keyB : ((if decide ((k : Int) > 0) = true then (if decide ((bl : Int) > 64) = true then some true else some (decide (zp (zp (k : Int) + (bl : Int)) > 64))) else some false : Option Bool)) = some (decide (0 < k /\ 64 < k + bl)) := by
   by_cases hz : 0 < k
   ·rw [if_pos (by simp; omega)]
    by_cases hb : 64 < bl
    ·rw [if_pos (by simp; omega)]; congr 1; symm; exact decide_eq_true (by omega)
    ·rw [if_neg (by simp; omega), wuN (by omega), show (k : Int) + (bl : Int) = ((k + bl : Nat) : Int) by push_cast; rfl, wuN (by omega)]
     congr 1; rw [decide_eq_decide]; omega
   ·rw [if_neg (by simp; omega)]; congr 1; symm; exact decide_eq_false (by omega)
  rw [keyB]
  by_cases hg : ah ≠ 0 /\ 18446744073709551616 <= ah * 2 ^ bl
  ·refine ⟨⟨0, 18446744073709551615⟩, ?_, ?_⟩
   ·rw [decide_eq_true (key.1 hg)]; rfl
   ·rw [if_pos hg]; rfl
  ·refine ⟨⟨((al * 2 ^ bl : Nat) : Int), ((ah * 2 ^ bl : Nat) : Int)⟩, ?_, ?_⟩
   ·rw [decide_eq_false (fun h => hg (key.2 h))]
    simp only [zbs, zfe, if_false, nnN, ziv]
    have hlt : ah * 2 ^ bl < 18446744073709551616 := by
     by_cases h0 : ah = 0
     ·subst h0; simp
     ·by_cases hh : 18446744073709551616 <= ah * 2 ^ bl
      ·exact absurd ⟨h0, hh⟩ hg
      ·omega
    have : al * 2 ^ bl <= ah * 2 ^ bl := Nat.mul_le_mul_right _ h1
    rw [Nat.mod_eq_of_lt hlt, Nat.mod_eq_of_lt (by omega)]
   ·rw [if_neg hg]; rfl
 ·have hs2 : ((bl : Int) == (bh : Int)) = false := by simp; omega
  refine ⟨⟨0, 18446744073709551615⟩, ?_, ?_⟩
  ·simp only [zbs, hs2, Bool.not_false, if_true]; rfl
  ·rw [if_pos (by simp; omega)]
theorem zmQ {fu : Nat} (hf : 70 <= fu) {op : Int} {a b : zd} (ha : SW a) (hb : SW b) (o1 : 1 <= op) (o2 : op <= 10) : ∃ s, zdG op a b = some (s, true) /\ zbv fu op a b = some (s, true) := by
 have hA := zed (op := op) (ha.in_ ⟨Int.le_refl _, ha.2.1⟩) (hb.in_ ⟨Int.le_refl _, hb.2.1⟩)
 have hR := zjc hf (op := op) (ha.in_ ⟨Int.le_refl _, ha.2.1⟩) (hb.in_ ⟨Int.le_refl _, hb.2.1⟩) o1 o2
 have hc : (decide (1 <= op) && decide (op <= 10)) = true := by rw [zae]; exact ⟨decide_eq_true o1, decide_eq_true o2⟩
 rw [hc] at hA
 have c1 : decide (op < 1) = false := decide_eq_false (by omega)
 have c2 : decide (op > 10) = false := decide_eq_false (by omega)
 rw [zdG, hA, zbv, hR]
 simp only [zbs, Bool.not_true, zfe, if_false, za2 ha, za2 hb, zcp ha, zcp hb, c1, c2, zhu]
 by_cases hs : ((a.Lo == a.Hi) && (b.Lo == b.Hi)) = true
 ·have hs2 := hs
  rw [zae] at hs2
  simp only [hs2.1, hs2.2, if_true, Bool.and_self, zbs, zkq]
  exact ⟨_, rfl, rfl⟩
 ·have hs1 : ((if (a.Lo == a.Hi) = true then some (b.Lo == b.Hi) else some false : Option Bool)) = some false := by
   by_cases h : (a.Lo == a.Hi) = true
   ·rw [if_pos h]
    rw [h, Bool.true_and] at hs
    simp only [Bool.not_eq_true] at hs
    rw [hs]
   ·rw [if_neg h]
  have hs2 : ((a.Lo == a.Hi) && (b.Lo == b.Hi)) = false := by simpa using hs
  simp only [hs1, hs2, zbs, zfe, if_false]
  obtain ⟨al, ah, rfl, h1, h2⟩ := SWn ha
  obtain ⟨bl, bh, rfl, h3, h4⟩ := SWn hb
  have hop : op = 1 \/ op = 2 \/ op = 3 \/ op = 4 \/ op = 5 \/ op = 6 \/ op = 7 \/ op = 8 \/ op = 9 \/ op = 10 := by omega
  rcases hop with rfl | rfl | rfl | rfl | rfl | rfl | rfl | rfl | rfl | rfl
  ·simp only [Int.reduceBEq, if_true, zc9]
   have ea : zjw (ah : Int) (bh : Int) 0 = some (((ah : Int) + bh + 0) % 18446744073709551616, ((ah : Int) + bh + 0) / 18446744073709551616) := if_pos ⟨by omega, by omega, by omega, by omega⟩
   rw [ea]
   have e2 : zp (18446744073709551615 - (bh : Int)) = 18446744073709551615 - (bh : Int) := jQ (by omega) (by omega)
   rw [e2]
   simp only [zbs]
   by_cases h : (ah : Int) > 18446744073709551615 - (bh : Int)
   ·rw [decide_eq_true h, if_pos rfl, if_pos (decide_eq_true (show ((ah : Int) + bh + 0) / 18446744073709551616 > 0 by omega))]
    exact ⟨_, rfl, rfl⟩
   ·rw [decide_eq_false h, if_neg (show ¬ (decide (((ah : Int) + bh + 0) / 18446744073709551616 > 0) = true) by simp; omega)]
    refine ⟨_, rfl, ?_⟩
    rw [if_neg (by decide), zby, zby, Int.add_zero]
  ·simp only [Int.reduceBEq, zfe, if_false, if_true]
   by_cases h : ((al : Int)) < (bh : Int)
   ·simp only [decide_eq_true h, if_true]; exact ⟨_, rfl, rfl⟩
   ·simp only [decide_eq_false h, zfe, if_false]; exact ⟨_, rfl, rfl⟩
  ·simp only [Int.reduceBEq, zfe, if_false, if_true, vK]
   obtain ⟨hi, e, hh⟩ := zmJ h2 h4
   rw [e, zlB h2 h4]
   simp only [zbs]
   by_cases h : 18446744073709551616 <= ah * bh
   ·have : 0 < hi := by rw [hh]; exact Nat.div_pos h (by decide)
    rw [decide_eq_true h, if_pos rfl, decide_eq_true (show (hi : Int) > 0 by omega), if_pos rfl]
    exact ⟨_, rfl, rfl⟩
   ·have : hi = 0 := by rw [hh]; exact Nat.div_eq_of_lt (by omega)
    subst this
    rw [decide_eq_false h]
    exact ⟨_, rfl, rfl⟩
  ·simp only [Int.reduceBEq, zfe, if_false, if_true, vL]
   by_cases h : bl = 0
   ·subst h; exact ⟨_, rfl, rfl⟩
   ·have e : (((bl : Int)) == 0) = false := by simp; omega
    simp only [e, zfe, if_false, zb8 (show (bh : Int) ≠ 0 by omega), zb8 (show (bl : Int) ≠ 0 by omega), zbs]
    exact ⟨_, rfl, rfl⟩
  ·simp only [Int.reduceBEq, zfe, if_false, if_true, zb3]
   by_cases h : (((bl : Int)) == 0) = true
   ·rw [h]; exact ⟨_, rfl, rfl⟩
   ·rw [if_neg h, if_neg h]
    by_cases h' : decide ((ah : Int) < (bl : Int)) = true
    ·rw [if_pos h', if_pos h']; exact ⟨_, rfl, rfl⟩
    ·rw [if_neg h', if_neg h']; exact ⟨_, rfl, rfl⟩
  ·simp only [Int.reduceBEq, zfe, if_false, if_true]
   exact ⟨_, rfl, rfl⟩
  ·simp only [Int.reduceBEq, zfe, if_false, if_true]
   obtain ⟨v, e1, e2⟩ := zh9 hf h2 h4
   rw [e1, e2]; exact ⟨_, rfl, rfl⟩
  ·simp only [Int.reduceBEq, zfe, if_false, if_true]
   obtain ⟨v, e1, e2⟩ := zh9 hf h2 h4
   rw [e1, e2]; exact ⟨_, rfl, rfl⟩
  ·simp only [Int.reduceBEq, zfe, if_false, if_true]
   obtain ⟨s, e1, e2⟩ := zmP hf h1 h2 h3 h4
   rw [e1]
   exact ⟨s, rfl, e2⟩
  ·simp only [Int.reduceBEq, zfe, if_false, if_true]
   rw [zkK hf (by omega) h4, zkK hf h2 (by omega), nnN, nnN]
   exact ⟨_, rfl, rfl⟩
theorem zmR {al ah bl bh : Nat} (h1 : al <= ah) (h2 : ah < 18446744073709551616) (h3 : bl <= bh) (h4 : bh < 18446744073709551616) :
  vt [⟨(al : Int), (ah : Int)⟩, ⟨(bl : Int), (bh : Int)⟩] = some (if max al bl <= min ah bh then (⟨((max al bl : Nat) : Int), ((min ah bh : Nat) : Int)⟩, true) else (⟨0, 0⟩, false)) := by
 have := ziH (a := ⟨(al : Int), (ah : Int)⟩) (b := ⟨(bl : Int), (bh : Int)⟩) ⟨by simp, by simp; omega, by simp; omega⟩ ⟨by simp, by simp; omega, by simp; omega⟩
 rw [this]
 have e1 : zay (zay 0 (al : Int)) (bl : Int) = ((max al bl : Nat) : Int) := by
  rw [show (0 : Int) = ((0 : Nat) : Int) from rfl, zmO, zmO, Nat.zero_max]
 have e2 : vH (vH 18446744073709551615 (ah : Int)) (bh : Int) = ((min ah bh : Nat) : Int) := by
  rw [show (18446744073709551615 : Int) = ((18446744073709551615 : Nat) : Int) from rfl, zmN, zmN]; congr 1; omega
 simp only [e1, e2]
 by_cases h : max al bl <= min ah bh
 ·rw [if_pos h, if_pos (by omega)]
 ·rw [if_neg h, if_neg (by omega)]
theorem zkL {lo hi : Nat} (h : lo <= hi) (n : Nat) : xr ⟨(lo : Int), (hi : Int)⟩ (n : Int) = some (decide (lo <= n /\ n <= hi)) := by
 have hr : zK ⟨(lo : Int), (hi : Int)⟩ = some true := by rw [zK]; congr 1; simp; omega
 rw [xr, hr]
 simp only [zbs, if_true]
 by_cases h1 : lo <= n
 ·rw [if_pos (decide_eq_true (show (n : Int) >= (lo : Int) by omega)), zbs]
  congr 1; rw [decide_eq_decide]; omega
 ·rw [if_neg (by simp; omega), zbs]
  congr 1; symm; exact decide_eq_false (by omega)
theorem ziY {op : Int} {a b : zd} {h : Bool} (ha : SW a) (hb : SW b) (o1 : 16 <= op) (o2 : op <= 19) : ∃ r, jI op a b h = some r /\ vB op a b h = some r := by
 have c1 : decide (op < 16) = false := decide_eq_false (by omega)
 have c2 : decide (op > 19) = false := decide_eq_false (by omega)
 have c3 : inB op 16 19 = true := by unfold inB; rw [zae]; exact ⟨decide_eq_true (by omega), decide_eq_true (by omega)⟩
 rw [jI, zga, vB]
 simp only [zbs, c1, c2, c3, Bool.not_true, zfe, if_false, za2 ha, za2 hb, zcp ha, zcp hb, zhu]
 obtain ⟨al, ah, rfl, h1, h2⟩ := SWn ha
 obtain ⟨bl, bh, rfl, h3, h4⟩ := SWn hb
 by_cases hs : bl = bh
 ·subst hs
  have hs2 : ((bl : Int) == (bl : Int)) = true := by simp
  have hs3 : ((bl : Int) != (bl : Int)) = false := by simp
  simp only [hs2, hs3, Bool.not_true, zfe, if_false]
  have below : ∃ r, (if ((bl : Int) == 0) = true then some ((zd.mk 0 0), false) else (vt [⟨(al : Int), (ah : Int)⟩, ⟨0, zp ((bl : Int) - 1)⟩]).bind fun r => some (r.1, r.2)) = some r /\
    (if decide ((al : Int) >= (bl : Int)) = true then some ((zd.mk 0 0), false) else some ((zd.mk (al : Int) (vH (ah : Int) (zp ((bl : Int) - 1)))), true)) = some r := by
   by_cases h0 : bl = 0
   ·subst h0
    exact ⟨_, rfl, by rw [if_pos (by simp)]⟩
   ·have ew : zp ((bl : Int) - 1) = ((bl - 1 : Nat) : Int) := by rw [jQ (by omega) (by omega)]; omega
    rw [if_neg (by simp; omega), ew]
    have := zmR (al := al) (ah := ah) (bl := 0) (bh := bl - 1) h1 h2 (by omega) (by omega)
    rw [show ((0 : Nat) : Int) = 0 from rfl] at this
    rw [this, zmN]
    by_cases hl : bl <= al
    ·rw [if_neg (by omega), if_pos (decide_eq_true (show (al : Int) >= (bl : Int) by omega))]; exact ⟨_, rfl, rfl⟩
    ·rw [if_pos (by omega), if_neg (by simp; omega)]
     refine ⟨_, rfl, ?_⟩
     simp only [Nat.max_zero]
  have above : ∃ r, ((vt [⟨(al : Int), (ah : Int)⟩, ⟨(bl : Int), 18446744073709551615⟩]).bind fun r => some (r.1, r.2)) = some r /\
    (if decide ((ah : Int) < (bl : Int)) = true then some ((zd.mk 0 0), false) else some ((zd.mk (zay (al : Int) (bl : Int)) (ah : Int)), true)) = some r := by
   have := zmR (al := al) (ah := ah) (bl := bl) (bh := 18446744073709551615) h1 h2 (by omega) (by omega)
   rw [show ((18446744073709551615 : Nat) : Int) = 18446744073709551615 from rfl] at this
   rw [this, zmO]
   by_cases hl : ah < bl
   ·rw [if_neg (by omega), if_pos (decide_eq_true (by omega))]; exact ⟨_, rfl, rfl⟩
   ·rw [if_pos (by omega), if_neg (by simp; omega)]
    refine ⟨_, rfl, ?_⟩
    rw [Nat.min_eq_left (show ah <= 18446744073709551615 by omega)]
  have at_ : ∃ r, ((vt [⟨(al : Int), (ah : Int)⟩, ⟨(bl : Int), (bl : Int)⟩]).bind fun r => some (r.1, r.2)) = some r /\
    ((xr ⟨(al : Int), (ah : Int)⟩ (bl : Int)).bind fun r => if (!r) = true then some ((zd.mk 0 0), false) else some ((zd.mk (bl : Int) (bl : Int)), true)) = some r := by
   rw [zmR h1 h2 (Nat.le_refl _) h4, zkL h1]
   by_cases hl : al <= bl /\ bl <= ah
   ·rw [if_pos (by omega), decide_eq_true hl]
    refine ⟨_, rfl, ?_⟩
    rw [Nat.max_eq_right hl.1, Nat.min_eq_right hl.2]; rfl
   ·rw [if_neg (by omega), decide_eq_false hl]; exact ⟨_, rfl, rfl⟩
  have off : ∃ r, (if (((al : Int) == (bl : Int)) && (((ah : Int) == (bl : Int)) && true)) = true then some ((zd.mk 0 0), false) else if ((al : Int) == (bl : Int)) = true then some ((zd.mk (zp ((al : Int) + 1)) (ah : Int)), true) else if ((ah : Int) == (bl : Int)) = true then some ((zd.mk (al : Int) (zp ((ah : Int) - 1))), true) else some ((zd.mk (al : Int) (ah : Int)), true)) = some r /\
    (if (((al : Int) == (bl : Int)) && ((ah : Int) == (bl : Int))) = true then some ((zd.mk 0 0), false) else if ((al : Int) == (bl : Int)) = true then some ((zd.mk (zp ((bl : Int) + 1)) (ah : Int)), true) else if ((ah : Int) == (bl : Int)) = true then some ((zd.mk (al : Int) (zp ((bl : Int) - 1))), true) else some ((zd.mk (al : Int) (ah : Int)), true)) = some r := by
   rw [Bool.and_true]
   by_cases e1 : al = bl
   ·subst e1
    by_cases e2 : ah = al
    ·subst e2; simp
    ·have : ((ah : Int) == (al : Int)) = false := by simp; omega
     simp [this]
   ·have x1 : ((al : Int) == (bl : Int)) = false := by simp; omega
    by_cases e2 : ah = bl
    ·subst e2; simp [x1]
    ·have x2 : ((ah : Int) == (bl : Int)) = false := by simp; omega
     simp [x1, x2]
  have hop : op = 16 \/ op = 17 \/ op = 18 \/ op = 19 := by omega
  rcases hop with rfl | rfl | rfl | rfl <;> cases h <;>
   simp only [Int.reduceBEq, Bool.true_and, Bool.and_true, Bool.false_and, Bool.and_false, Bool.not_true, Bool.not_false, zfe, if_true, if_false, zbs, Bool.or_false, Bool.or_true, Bool.false_or, Bool.true_or, Int.reduceGE, decide_true, decide_false] <;>
   first
   | exact below
   | exact above
   | exact at_
   | (simp only [Bool.and_true] at off; exact off)
 ·have hs2 : ((bl : Int) == (bh : Int)) = false := by simp; omega
  have hs3 : ((bl : Int) != (bh : Int)) = true := by simp; omega
  simp only [hs2, hs3, Bool.not_false, if_true]
  exact ⟨_, rfl, rfl⟩
theorem zgB {a b : zd} (ha : SW a) (hb : SW b) : ∃ r, vl a b = some r /\ xM a b = some r := by
 rw [vl, xM, za2 ha, zcp ha, zcp hb]
 obtain ⟨al, ah, rfl, h1, h2⟩ := SWn ha
 obtain ⟨bl, bh, rfl, h3, h4⟩ := SWn hb
 simp only [zbs, if_true, zkL h3]
 by_cases e1 : bl <= al
 ·rw [if_pos (decide_eq_true (show (bl : Int) <= (al : Int) by omega))]
  by_cases e2 : al <= bh
  ·rw [decide_eq_true (show bl <= al /\ al <= bh from ⟨e1, e2⟩), if_pos rfl]
   refine ⟨_, rfl, ?_⟩
   congr 1; simp; omega
  ·rw [decide_eq_false (show ¬ (bl <= al /\ al <= bh) by omega), if_neg (by decide)]
   refine ⟨_, rfl, ?_⟩
   congr 1; symm; simp; omega
 ·rw [if_neg (by simp; omega), decide_eq_false (show ¬ (bl <= al /\ al <= bh) by omega), if_neg (by decide)]
  exact ⟨_, rfl, rfl⟩
end Go.Proofs.YtgmmfjpmahcocaaGreatDoor

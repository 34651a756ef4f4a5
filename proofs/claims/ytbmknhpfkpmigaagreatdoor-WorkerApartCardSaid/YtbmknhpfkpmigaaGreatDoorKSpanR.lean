/- Texts KSpanR, KSigsR, KAskR of this proof. -/
import Derived.Test.YtbmknhpfkpmigaaGreatDoorKArith
set_option linter.unusedVariables false
set_option linter.unusedSimpArgs false
namespace Go.Proofs.YtbmknhpfkpmigaaGreatDoor
open Go.Sx
theorem zcS {s : zb} (h : SW s) : zQ s = some true := by
 have := h.2.1
 rw [zQ]; congr 1; simp; omega
theorem zh6 (s : zb) : xr s = some (s.Lo == s.Hi) := rfl
theorem znk {a b : Nat} (ha : a < 18446744073709551616) (hb : b < 18446744073709551616) : vN a b = some (decide (18446744073709551616 <= a * b)) := by
 rw [vN]
 by_cases h : a = 0
 ·subst h; simp
 ·rw [if_pos (by simp; omega), zcv (by omega)]
  show some (decide ((b : Int) > qf (Int.tdiv ((18446744073709551615 : Nat) : Int) (a : Int)))) = _
  rw [zdG, wuN (Nat.lt_of_le_of_lt (Nat.div_le_self _ _) (by decide))]
  congr 1
  have : ((b : Int) > ((18446744073709551615 / a : Nat) : Int)) ↔ 18446744073709551616 <= a * b := by
   constructor
   ·intro h1
    have h2 : 18446744073709551615 / a < b := by omega
    have := (Nat.div_lt_iff_lt_mul (by omega : 0 < a)).1 h2
    rw [Nat.mul_comm] at this; omega
   ·intro h1
    have h2 : 18446744073709551615 / a < b := (Nat.div_lt_iff_lt_mul (by omega : 0 < a)).2 (by rw [Nat.mul_comm]; omega)
    omega
  rw [decide_eq_decide]; exact this
theorem zl5 {n : Nat} (hn : n < 18446744073709551616) {k : Nat} (hk : k <= 64) (h1 : n < 2 ^ k) (h2 : k = 0 \/ 2 ^ (k - 1) <= n) : ∀ (j f i : Nat), i + j = k -> j < f -> loop (qY n) f ((2 ^ i - 1 : Nat) : Int) = some ((2 ^ k - 1 : Nat) : Int) := by
 intro j
 induction j with
 | zero =>
  intro f i hi hf
  obtain ⟨f, rfl⟩ : ∃ q, f = q + 1 := ⟨f - 1, by omega⟩
  have : i = k := by omega
  subst this
  rw [loop, qY, if_neg]
  simp; omega
 | succ j ih =>
  intro f i hi hf
  obtain ⟨f, rfl⟩ : ∃ q, f = q + 1 := ⟨f - 1, by omega⟩
  have hlt : 2 ^ i - 1 < n := by
   rcases h2 with h2 | h2
   ·omega
   ·have h3 : 2 ^ i <= 2 ^ (k - 1) := Nat.pow_le_pow_right (by decide) (by omega)
    have := Nat.pow_pos (n := i) (show 0 < 2 by decide)
    omega
  have h64 := zm4 (i := i) (by omega)
  have hp := Nat.pow_pos (n := i) (show 0 < 2 by decide)
  rw [loop, qY, if_pos (by simp; omega)]
  have e : qf (qf (2 * ((2 ^ i - 1 : Nat) : Int)) + 1) = ((2 ^ (i + 1) - 1 : Nat) : Int) := by
   rw [Nat.pow_succ, show (2 : Int) * ((2 ^ i - 1 : Nat) : Int) = ((2 * (2 ^ i - 1) : Nat) : Int) by push_cast; rfl, wuN (by omega), show ((2 * (2 ^ i - 1) : Nat) : Int) + 1 = ((2 * (2 ^ i - 1) + 1 : Nat) : Int) by push_cast; rfl, wuN (by omega)]
   congr 1; omega
  rw [e]
  exact ih f (i + 1) (by omega) (by omega)
theorem zoA {n fu : Nat} (hf : 70 <= fu) (hn : n < 18446744073709551616) {k : Nat} (hk : k <= 64) (h1 : n < 2 ^ k) (h2 : k = 0 \/ 2 ^ (k - 1) <= n) : je fu n = some ((2 ^ k - 1 : Nat) : Int) := by
 have := zl5 hn hk h1 h2 k fu 0 (by omega) (by omega)
 rw [je]
 show (loop (qY n) fu (((2 ^ 0 - 1 : Nat) : Int))).bind _ = _
 rw [this]; rfl
theorem ziS {a b fu : Nat} (hf : 70 <= fu) (ha : a < 18446744073709551616) (hb : b < 18446744073709551616) : ∃ v, zaW (bOr .u64 (a : Int) (b : Int)) = some v /\ je fu (zcC a b) = some v := by
 rw [orN ha hb]
 obtain ⟨k, hk, e, h1, h2, h3⟩ := zeI (zql ha hb)
 refine ⟨((2 ^ k - 1 : Nat) : Int), ?_, ?_⟩
 ·rw [zaW, e]
  simp only [zbs, nnN]
  congr 1
  rw [show (1 : Int) = ((1 : Nat) : Int) from rfl, zjk, Nat.one_mul, zbN]
  have hp := Nat.pow_pos (n := k) (show 0 < 2 by decide)
  by_cases h : k = 64
  ·subst h; decide
  ·have := zm4 (i := k) (by omega)
   rw [Nat.mod_eq_of_lt (by omega)]; omega
 ·have em : zcC (a : Int) (b : Int) = ((max a b : Nat) : Int) := by unfold zcC; split <;> omega
  rw [em]
  have l1 : a <= a ||| b := Nat.left_le_or
  have l2 : b <= a ||| b := Nat.right_le_or
  refine zoA hf (by omega) hk (by omega) ?_
  by_cases h0 : k = 0
  ·exact .inl h0
  ·right
   by_cases hlt : 2 ^ (k - 1) <= max a b
   ·exact hlt
   ·have := Nat.or_lt_two_pow (n := k - 1) (x := a) (y := b) (by omega) (by omega)
    have h4 : 0 < a ||| b := by
     by_cases hz : a ||| b = 0
     ·exact absurd (h2 hz) h0
     ·omega
    have := h3 h4
    omega
theorem zl6 {b : Nat} (hb : b < 18446744073709551616) : ∀ (k n a i : Nat), a < 18446744073709551616 -> a < 2 ^ k -> k < n -> i <= b ->
  loop (qZ b) n ((a : Int), (i : Int)) = some ((a / 2 ^ (b - i) : Nat) : Int) := by
 intro k
 induction k with
 | zero =>
  intro n a i _ ha hn hi
  obtain ⟨n, rfl⟩ : ∃ q, n = q + 1 := ⟨n - 1, by omega⟩
  have h0 : a = 0 := by simpa using ha
  subst h0
  rw [loop, qZ]
  simp
 | succ k ih =>
  intro n a i ha64 ha hn hi
  obtain ⟨n, rfl⟩ : ∃ q, n = q + 1 := ⟨n - 1, by omega⟩
  rw [loop, qZ]
  by_cases h0 : a = 0
  ·subst h0; simp
  ·by_cases hib : i = b
   ·subst hib; simp
   ·have hc : (decide ((i : Int) < (b : Int)) && decide ((a : Int) > 0)) = true := by
     rw [zae]; exact ⟨decide_eq_true (by omega), decide_eq_true (by omega)⟩
    simp only [hc, if_true]
    have e2 : qf ((a : Int).tdiv 2) = ((a / 2 : Nat) : Int) := by
     rw [show (2 : Int) = ((2 : Nat) : Int) from rfl, zdG, wuN (by omega)]
    rw [e2, show (i : Int) + 1 = ((i + 1 : Nat) : Int) by push_cast; rfl, wuN (by omega), ih n _ (i + 1) (by omega) (by rw [Nat.pow_succ] at ha; omega) (by omega) (by omega)]
    have : b - i = (b - (i + 1)) + 1 := by omega
    rw [this, Nat.pow_succ, Nat.mul_comm (2 ^ _) 2, Nat.div_div_eq_div_mul]
theorem zl7 {a b fu : Nat} (hf : 70 <= fu) (ha : a < 18446744073709551616) (hb : b < 18446744073709551616) : jH fu a b = some (zbx .u64 a b) := by
 have := zl6 hb 64 fu a 0 ha ha (by omega) (by omega)
 rw [jH]
 show (loop (qZ b) fu ((a : Int), ((0 : Nat) : Int))).bind _ = _
 rw [this, zlr ha]; rfl
theorem zkS {b : Nat} (hb : b < 18446744073709551616) : ∀ (k n lo hi i : Nat), hi < 18446744073709551616 -> lo <= hi -> (hi ≠ 0 -> 2 ^ (64 - k) <= hi) -> k <= 64 -> k + 1 < n -> i <= b ->
  loop (qo b) n (⟨(lo : Int), (hi : Int)⟩, (i : Int)) = some (if hi ≠ 0 /\ 18446744073709551616 <= hi * 2 ^ (b - i) then .inr (⟨0, 0⟩, false) else .inl ⟨((lo * 2 ^ (b - i) : Nat) : Int), ((hi * 2 ^ (b - i) : Nat) : Int)⟩) := by
 intro k
 induction k with
 | zero =>
  intro n lo hi i h1 h2 h3 _ hn hi'
  obtain ⟨n, rfl⟩ : ∃ q, n = q + 1 := ⟨n - 1, by omega⟩
  have h0 : hi = 0 := by
   by_cases h : hi = 0
   ·exact h
   ·have := h3 h
    have e : 2 ^ (64 - 0) = 18446744073709551616 := by decide
    omega
  subst h0
  have : lo = 0 := by omega
  subst this
  rw [loop, qo]
  simp
 | succ k ih =>
  intro n lo hi i h1 h2 h3 hk hn hi'
  obtain ⟨n, rfl⟩ : ∃ q, n = q + 1 := ⟨n - 1, by omega⟩
  rw [loop, qo]
  by_cases h0 : hi = 0
  ·subst h0
   have : lo = 0 := by omega
   subst this
   simp
  ·by_cases hib : i = b
   ·subst hib; simp; omega
   ·have hc : (decide ((i : Int) < (b : Int)) && decide ((hi : Int) > 0)) = true := by
     rw [zae]; exact ⟨decide_eq_true (by omega), decide_eq_true (by omega)⟩
    simp only [hc, if_true]
    have hpow : b - i = (b - (i + 1)) + 1 := by omega
    have hp := Nat.pow_pos (n := b - (i + 1)) (show 0 < 2 by decide)
    by_cases hg : 9223372036854775807 < hi
    ·rw [if_pos (by simp; omega), if_pos]
     refine ⟨h0, ?_⟩
     rw [hpow, Nat.pow_succ, Nat.mul_comm (2 ^ _) 2, <- Nat.mul_assoc]
     exact Nat.le_trans (by omega) (Nat.le_mul_of_pos_right (hi * 2) hp)
    ·rw [if_neg (by simp; omega)]
     rw [show (2 : Int) * (lo : Int) = ((2 * lo : Nat) : Int) by push_cast; rfl, wuN (by omega), show (2 : Int) * (hi : Int) = ((2 * hi : Nat) : Int) by push_cast; rfl, wuN (by omega), show (i : Int) + 1 = ((i + 1 : Nat) : Int) by push_cast; rfl, wuN (by omega)]
     rw [ih n (2 * lo) (2 * hi) (i + 1) (by omega) (by omega) (by
      intro _
      have := h3 h0
      have e : 64 - k = (64 - (k + 1)) + 1 := by omega
      rw [e, Nat.pow_succ]; omega) (by omega) (by omega) (by omega)]
     have e1 : 2 * hi * 2 ^ (b - (i + 1)) = hi * 2 ^ (b - i) := by rw [hpow, Nat.pow_succ, Nat.mul_comm 2 hi, Nat.mul_assoc, Nat.mul_comm 2]
     have e2 : 2 * lo * 2 ^ (b - (i + 1)) = lo * 2 ^ (b - i) := by rw [hpow, Nat.pow_succ, Nat.mul_comm 2 lo, Nat.mul_assoc, Nat.mul_comm 2]
     rw [e1, e2]
     have : (2 * hi ≠ 0) ↔ (hi ≠ 0) := by omega
     simp only [this]
theorem zkT {lo hi b fu : Nat} (hf : 70 <= fu) (h1 : hi < 18446744073709551616) (h2 : lo <= hi) (hb : b < 18446744073709551616) :
  qD fu ⟨(lo : Int), (hi : Int)⟩ (b : Int) = some (if hi ≠ 0 /\ 18446744073709551616 <= hi * 2 ^ b then (⟨0, 0⟩, false) else (⟨((lo * 2 ^ b : Nat) : Int), ((hi * 2 ^ b : Nat) : Int)⟩, true)) := by
 have := zkS hb 64 fu lo hi 0 h1 h2 (by intro h; simp; omega) (by omega) (by omega) (by omega)
 rw [qD]
 show (loop (qo b) fu (_, ((0 : Nat) : Int))).bind _ = _
 rw [this, Nat.sub_zero]
 by_cases h : hi ≠ 0 /\ 18446744073709551616 <= hi * 2 ^ b
 ·rw [if_pos h, if_pos h]; rfl
 ·rw [if_neg h, if_neg h]; rfl
theorem SWn {s : zb} (h : SW s) : ∃ lo hi : Nat, s = ⟨lo, hi⟩ /\ lo <= hi /\ hi < 18446744073709551616 := by
 obtain ⟨h0, h1, h2⟩ := h
 obtain ⟨lo, hi⟩ := s
 exact ⟨lo.toNat, hi.toNat, by simp only at h0 h1 h2 |-; congr 1 <;> omega, by simp only at h0 h1 h2; omega, by simp only at h0 h1 h2; omega⟩
theorem zoB (a b : Nat) : zb3 (a : Int) (b : Int) = ((min a b : Nat) : Int) := by unfold zb3; split <;> omega
theorem zoC (a b : Nat) : zcC (a : Int) (b : Int) = ((max a b : Nat) : Int) := by unfold zcC; split <;> omega
theorem zoD {al ah bl bh fu : Nat} (hf : 70 <= fu) (h1 : al <= ah) (h2 : ah < 18446744073709551616) (h3 : bl <= bh) (h4 : bh < 18446744073709551616) :
  ∃ s, zbo ⟨al, ah⟩ ⟨bl, bh⟩ = some s /\ (if (((bl : Int)) != (bh : Int)) = true then some ((zb.mk 0 18446744073709551615), true) else (qD fu ⟨al, ah⟩ (bl : Int)).bind fun r => if (!r.2) = true then some ((zb.mk 0 18446744073709551615), true) else some (r.1, true)) = some (s, true) := by
 obtain ⟨k, hk, e, l1, l2, l3⟩ := zeI (n := ah) h2
 rw [zbo, zh6]
 by_cases hs : bl = bh
 ·subst hs
  have hs2 : ((bl : Int) == (bl : Int)) = true := by simp
  rw [if_neg (show ¬ ((((bl : Int)) != (bl : Int)) = true) by simp), zkT hf h2 h1 h4]
  simp only [zbs, hs2, Bool.not_true, zfe, if_false, e]
  have key : (ah ≠ 0 /\ 18446744073709551616 <= ah * 2 ^ bl) ↔ (0 < k /\ 64 < k + bl) := by
   by_cases h0 : ah = 0
   ·have := l2 h0; omega
   ·have hk0 : 0 < k := by
     by_cases hz : k = 0
     ·subst hz; omega
     ·omega
    have l4 := l3 (by omega)
    constructor
    ·rintro ⟨_, h⟩
     refine ⟨hk0, ?_⟩
     by_cases hc : 64 < k + bl
     ·exact hc
     ·exfalso
      have : ah * 2 ^ bl < 2 ^ k * 2 ^ bl := Nat.mul_lt_mul_of_pos_right l1 (Nat.pow_pos (by decide))
      rw [<- Nat.pow_add] at this
      have h5 : 2 ^ (k + bl) <= 2 ^ 64 := Nat.pow_le_pow_right (by decide) (by omega)
      have : (2 : Nat) ^ 64 = 18446744073709551616 := by decide
      omega
    ·rintro ⟨_, h⟩
     refine ⟨h0, ?_⟩
     have h5 : 2 ^ (k - 1) * 2 ^ bl <= ah * 2 ^ bl := Nat.mul_le_mul_right _ l4
     rw [<- Nat.pow_add] at h5
     have h6 : 2 ^ 64 <= 2 ^ (k - 1 + bl) := Nat.pow_le_pow_right (by decide) (by omega)
     have : (2 : Nat) ^ 64 = 18446744073709551616 := by decide
     omega
  have keyB : ((if decide ((k : Int) > 0) = true then (if decide ((bl : Int) > 64) = true then some true else some (decide (qf (qf (k : Int) + (bl : Int)) > 64))) else some false : Option Bool)) = some (decide (0 < k /\ 64 < k + bl)) := by
   by_cases hz : 0 < k
   ·rw [if_pos (by simp; omega)]
    by_cases hb : 64 < bl
    ·rw [if_pos (by simp; omega)]; congr 1; symm; exact decide_eq_true (by omega)
    ·rw [if_neg (by simp; omega), wuN (by omega), show (k : Int) + (bl : Int) = ((k + bl : Nat) : Int) by push_cast; rfl, wuN (by omega)]
     congr 1; rw [decide_eq_decide]; omega
   ·rw [if_neg (by simp; omega)]; congr 1; symm; exact decide_eq_false (by omega)
  rw [keyB]
  by_cases hg : ah ≠ 0 /\ 18446744073709551616 <= ah * 2 ^ bl
  ·refine ⟨⟨0, 18446744073709551615⟩, ?_, ?_⟩
   ·rw [decide_eq_true (key.1 hg)]; rfl
   ·rw [if_pos hg]; rfl
  ·refine ⟨⟨((al * 2 ^ bl : Nat) : Int), ((ah * 2 ^ bl : Nat) : Int)⟩, ?_, ?_⟩
   ·rw [decide_eq_false (fun h => hg (key.2 h))]
    simp only [zbs, zfe, if_false, nnN, zjk]
    have hlt : ah * 2 ^ bl < 18446744073709551616 := by
     by_cases h0 : ah = 0
     ·subst h0; simp
     ·by_cases hh : 18446744073709551616 <= ah * 2 ^ bl
      ·exact absurd ⟨h0, hh⟩ hg
      ·omega
    have : al * 2 ^ bl <= ah * 2 ^ bl := Nat.mul_le_mul_right _ h1
    rw [Nat.mod_eq_of_lt hlt, Nat.mod_eq_of_lt (by omega)]
   ·rw [if_neg hg]; rfl
 ·have hs2 : ((bl : Int) == (bh : Int)) = false := by simp; omega
  refine ⟨⟨0, 18446744073709551615⟩, ?_, ?_⟩
  ·simp only [zbs, hs2, Bool.not_false, if_true]; rfl
  ·rw [if_pos (by simp; omega)]
theorem zoE {fu : Nat} (hf : 70 <= fu) {op : Int} {a b : zb} (ha : SW a) (hb : SW b) (o1 : 1 <= op) (o2 : op <= 10) : ∃ s, zdz op a b = some (s, true) /\ xR fu op a b = some (s, true) := by
 have hA := zeH (op := op) (ha.in_ ⟨Int.le_refl _, ha.2.1⟩) (hb.in_ ⟨Int.le_refl _, hb.2.1⟩)
 have hR := zj4 hf (op := op) (ha.in_ ⟨Int.le_refl _, ha.2.1⟩) (hb.in_ ⟨Int.le_refl _, hb.2.1⟩) o1 o2
 have hc : (decide (1 <= op) && decide (op <= 10)) = true := by rw [zae]; exact ⟨decide_eq_true o1, decide_eq_true o2⟩
 rw [hc] at hA
 have c1 : decide (op < 1) = false := decide_eq_false (by omega)
 have c2 : decide (op > 10) = false := decide_eq_false (by omega)
 rw [zdz, hA, xR, hR]
 simp only [zbs, Bool.not_true, zfe, if_false, zbp ha, zbp hb, zcS ha, zcS hb, c1, c2, zh6]
 by_cases hs : ((a.Lo == a.Hi) && (b.Lo == b.Hi)) = true
 ·have hs2 := hs
  rw [zae] at hs2
  simp only [hs2.1, hs2.2, if_true, Bool.and_self, zbs, zlI]
  exact ⟨_, rfl, rfl⟩
 ·have hs1 : ((if (a.Lo == a.Hi) = true then some (b.Lo == b.Hi) else some false : Option Bool)) = some false := by
   by_cases h : (a.Lo == a.Hi) = true
   ·rw [if_pos h]
    rw [h, Bool.true_and] at hs
    simp only [Bool.not_eq_true] at hs
    rw [hs]
   ·rw [if_neg h]
  have hs2 : ((a.Lo == a.Hi) && (b.Lo == b.Hi)) = false := by simpa using hs
  simp only [hs1, hs2, zbs, zfe, if_false]
  obtain ⟨al, ah, rfl, h1, h2⟩ := SWn ha
  obtain ⟨bl, bh, rfl, h3, h4⟩ := SWn hb
  have hop : op = 1 \/ op = 2 \/ op = 3 \/ op = 4 \/ op = 5 \/ op = 6 \/ op = 7 \/ op = 8 \/ op = 9 \/ op = 10 := by omega
  rcases hop with rfl | rfl | rfl | rfl | rfl | rfl | rfl | rfl | rfl | rfl
  ·simp only [Int.reduceBEq, if_true, zcQ]
   have ea : zi9 (ah : Int) (bh : Int) 0 = some (((ah : Int) + bh + 0) % 18446744073709551616, ((ah : Int) + bh + 0) / 18446744073709551616) := if_pos ⟨by omega, by omega, by omega, by omega⟩
   rw [ea]
   have e2 : qf (18446744073709551615 - (bh : Int)) = 18446744073709551615 - (bh : Int) := jJ (by omega) (by omega)
   rw [e2]
   simp only [zbs]
   by_cases h : (ah : Int) > 18446744073709551615 - (bh : Int)
   ·rw [decide_eq_true h, if_pos rfl, if_pos (decide_eq_true (show ((ah : Int) + bh + 0) / 18446744073709551616 > 0 by omega))]
    exact ⟨_, rfl, rfl⟩
   ·rw [decide_eq_false h, if_neg (show ¬ (decide (((ah : Int) + bh + 0) / 18446744073709551616 > 0) = true) by simp; omega)]
    refine ⟨_, rfl, ?_⟩
    rw [if_neg (by decide), zbN, zbN, Int.add_zero]
  ·simp only [Int.reduceBEq, zfe, if_false, if_true]
   by_cases h : ((al : Int)) < (bh : Int)
   ·simp only [decide_eq_true h, if_true]; exact ⟨_, rfl, rfl⟩
   ·simp only [decide_eq_false h, zfe, if_false]; exact ⟨_, rfl, rfl⟩
  ·simp only [Int.reduceBEq, zfe, if_false, if_true, vS]
   obtain ⟨hi, e, hh⟩ := zox h2 h4
   rw [e, znk h2 h4]
   simp only [zbs]
   by_cases h : 18446744073709551616 <= ah * bh
   ·have : 0 < hi := by rw [hh]; exact Nat.div_pos h (by decide)
    rw [decide_eq_true h, if_pos rfl, decide_eq_true (show (hi : Int) > 0 by omega), if_pos rfl]
    exact ⟨_, rfl, rfl⟩
   ·have : hi = 0 := by rw [hh]; exact Nat.div_eq_of_lt (by omega)
    subst this
    rw [decide_eq_false h]
    exact ⟨_, rfl, rfl⟩
  ·simp only [Int.reduceBEq, zfe, if_false, if_true, vT]
   by_cases h : bl = 0
   ·subst h; exact ⟨_, rfl, rfl⟩
   ·have e : (((bl : Int)) == 0) = false := by simp; omega
    simp only [e, zfe, if_false, zcv (show (bh : Int) ≠ 0 by omega), zcv (show (bl : Int) ≠ 0 by omega), zbs]
    exact ⟨_, rfl, rfl⟩
  ·simp only [Int.reduceBEq, zfe, if_false, if_true, zbR]
   by_cases h : (((bl : Int)) == 0) = true
   ·rw [h]; exact ⟨_, rfl, rfl⟩
   ·rw [if_neg h, if_neg h]
    by_cases h' : decide ((ah : Int) < (bl : Int)) = true
    ·rw [if_pos h', if_pos h']; exact ⟨_, rfl, rfl⟩
    ·rw [if_neg h', if_neg h']; exact ⟨_, rfl, rfl⟩
  ·simp only [Int.reduceBEq, zfe, if_false, if_true]
   exact ⟨_, rfl, rfl⟩
  ·simp only [Int.reduceBEq, zfe, if_false, if_true]
   obtain ⟨v, e1, e2⟩ := ziS hf h2 h4
   rw [e1, e2]; exact ⟨_, rfl, rfl⟩
  ·simp only [Int.reduceBEq, zfe, if_false, if_true]
   obtain ⟨v, e1, e2⟩ := ziS hf h2 h4
   rw [e1, e2]; exact ⟨_, rfl, rfl⟩
  ·simp only [Int.reduceBEq, zfe, if_false, if_true]
   obtain ⟨s, e1, e2⟩ := zoD hf h1 h2 h3 h4
   rw [e1]
   exact ⟨s, rfl, e2⟩
  ·simp only [Int.reduceBEq, zfe, if_false, if_true]
   rw [zl7 hf (by omega) h4, zl7 hf h2 (by omega), nnN, nnN]
   exact ⟨_, rfl, rfl⟩
theorem zoF {al ah bl bh : Nat} (h1 : al <= ah) (h2 : ah < 18446744073709551616) (h3 : bl <= bh) (h4 : bh < 18446744073709551616) :
  vJ [⟨(al : Int), (ah : Int)⟩, ⟨(bl : Int), (bh : Int)⟩] = some (if max al bl <= min ah bh then (⟨((max al bl : Nat) : Int), ((min ah bh : Nat) : Int)⟩, true) else (⟨0, 0⟩, false)) := by
 have := zjv (a := ⟨(al : Int), (ah : Int)⟩) (b := ⟨(bl : Int), (bh : Int)⟩) ⟨by simp, by simp; omega, by simp; omega⟩ ⟨by simp, by simp; omega, by simp; omega⟩
 rw [this]
 have e1 : zcC (zcC 0 (al : Int)) (bl : Int) = ((max al bl : Nat) : Int) := by
  rw [show (0 : Int) = ((0 : Nat) : Int) from rfl, zoC, zoC, Nat.zero_max]
 have e2 : zb3 (zb3 18446744073709551615 (ah : Int)) (bh : Int) = ((min ah bh : Nat) : Int) := by
  rw [show (18446744073709551615 : Int) = ((18446744073709551615 : Nat) : Int) from rfl, zoB, zoB]; congr 1; omega
 simp only [e1, e2]
 by_cases h : max al bl <= min ah bh
 ·rw [if_pos h, if_pos (by omega)]
 ·rw [if_neg h, if_neg (by omega)]
theorem zl8 {lo hi : Nat} (h : lo <= hi) (n : Nat) : xD ⟨(lo : Int), (hi : Int)⟩ (n : Int) = some (decide (lo <= n /\ n <= hi)) := by
 have hr : zQ ⟨(lo : Int), (hi : Int)⟩ = some true := by rw [zQ]; congr 1; simp; omega
 rw [xD, hr]
 simp only [zbs, if_true]
 by_cases h1 : lo <= n
 ·rw [if_pos (decide_eq_true (show (n : Int) >= (lo : Int) by omega)), zbs]
  congr 1; rw [decide_eq_decide]; omega
 ·rw [if_neg (by simp; omega), zbs]
  congr 1; symm; exact decide_eq_false (by omega)
theorem zjN {op : Int} {a b : zb} {h : Bool} (ha : SW a) (hb : SW b) (o1 : 16 <= op) (o2 : op <= 19) : ∃ r, xa op a b h = some r /\ vr op a b h = some r := by
 have c1 : decide (op < 16) = false := decide_eq_false (by omega)
 have c2 : decide (op > 19) = false := decide_eq_false (by omega)
 have c3 : inB op 16 19 = true := by unfold inB; rw [zae]; exact ⟨decide_eq_true (by omega), decide_eq_true (by omega)⟩
 rw [xa, zgv, vr]
 simp only [zbs, c1, c2, c3, Bool.not_true, zfe, if_false, zbp ha, zbp hb, zcS ha, zcS hb, zh6]
 obtain ⟨al, ah, rfl, h1, h2⟩ := SWn ha
 obtain ⟨bl, bh, rfl, h3, h4⟩ := SWn hb
 by_cases hs : bl = bh
 ·subst hs
  have hs2 : ((bl : Int) == (bl : Int)) = true := by simp
  have hs3 : ((bl : Int) != (bl : Int)) = false := by simp
  simp only [hs2, hs3, Bool.not_true, zfe, if_false]
  have below : ∃ r, (if ((bl : Int) == 0) = true then some ((zb.mk 0 0), false) else (vJ [⟨(al : Int), (ah : Int)⟩, ⟨0, qf ((bl : Int) - 1)⟩]).bind fun r => some (r.1, r.2)) = some r /\
    (if decide ((al : Int) >= (bl : Int)) = true then some ((zb.mk 0 0), false) else some ((zb.mk (al : Int) (zb3 (ah : Int) (qf ((bl : Int) - 1)))), true)) = some r := by
   by_cases h0 : bl = 0
   ·subst h0
    exact ⟨_, rfl, by rw [if_pos (by simp)]⟩
   ·have ew : qf ((bl : Int) - 1) = ((bl - 1 : Nat) : Int) := by rw [jJ (by omega) (by omega)]; omega
    rw [if_neg (by simp; omega), ew]
    have := zoF (al := al) (ah := ah) (bl := 0) (bh := bl - 1) h1 h2 (by omega) (by omega)
    rw [show ((0 : Nat) : Int) = 0 from rfl] at this
    rw [this, zoB]
    by_cases hl : bl <= al
    ·rw [if_neg (by omega), if_pos (decide_eq_true (show (al : Int) >= (bl : Int) by omega))]; exact ⟨_, rfl, rfl⟩
    ·rw [if_pos (by omega), if_neg (by simp; omega)]
     refine ⟨_, rfl, ?_⟩
     simp only [Nat.max_zero]
  have above : ∃ r, ((vJ [⟨(al : Int), (ah : Int)⟩, ⟨(bl : Int), 18446744073709551615⟩]).bind fun r => some (r.1, r.2)) = some r /\
    (if decide ((ah : Int) < (bl : Int)) = true then some ((zb.mk 0 0), false) else some ((zb.mk (zcC (al : Int) (bl : Int)) (ah : Int)), true)) = some r := by
   have := zoF (al := al) (ah := ah) (bl := bl) (bh := 18446744073709551615) h1 h2 (by omega) (by omega)
   rw [show ((18446744073709551615 : Nat) : Int) = 18446744073709551615 from rfl] at this
   rw [this, zoC]
   by_cases hl : ah < bl
   ·rw [if_neg (by omega), if_pos (decide_eq_true (by omega))]; exact ⟨_, rfl, rfl⟩
   ·rw [if_pos (by omega), if_neg (by simp; omega)]
    refine ⟨_, rfl, ?_⟩
    rw [Nat.min_eq_left (show ah <= 18446744073709551615 by omega)]
  have at_ : ∃ r, ((vJ [⟨(al : Int), (ah : Int)⟩, ⟨(bl : Int), (bl : Int)⟩]).bind fun r => some (r.1, r.2)) = some r /\
    ((xD ⟨(al : Int), (ah : Int)⟩ (bl : Int)).bind fun r => if (!r) = true then some ((zb.mk 0 0), false) else some ((zb.mk (bl : Int) (bl : Int)), true)) = some r := by
   rw [zoF h1 h2 (Nat.le_refl _) h4, zl8 h1]
   by_cases hl : al <= bl /\ bl <= ah
   ·rw [if_pos (by omega), decide_eq_true hl]
    refine ⟨_, rfl, ?_⟩
    rw [Nat.max_eq_right hl.1, Nat.min_eq_right hl.2]; rfl
   ·rw [if_neg (by omega), decide_eq_false hl]; exact ⟨_, rfl, rfl⟩
  have off : ∃ r, (if (((al : Int) == (bl : Int)) && (((ah : Int) == (bl : Int)) && true)) = true then some ((zb.mk 0 0), false) else if ((al : Int) == (bl : Int)) = true then some ((zb.mk (qf ((al : Int) + 1)) (ah : Int)), true) else if ((ah : Int) == (bl : Int)) = true then some ((zb.mk (al : Int) (qf ((ah : Int) - 1))), true) else some ((zb.mk (al : Int) (ah : Int)), true)) = some r /\
    (if (((al : Int) == (bl : Int)) && ((ah : Int) == (bl : Int))) = true then some ((zb.mk 0 0), false) else if ((al : Int) == (bl : Int)) = true then some ((zb.mk (qf ((bl : Int) + 1)) (ah : Int)), true) else if ((ah : Int) == (bl : Int)) = true then some ((zb.mk (al : Int) (qf ((bl : Int) - 1))), true) else some ((zb.mk (al : Int) (ah : Int)), true)) = some r := by
   rw [Bool.and_true]
   by_cases e1 : al = bl
   ·subst e1
    by_cases e2 : ah = al
    ·subst e2; simp
    ·have : ((ah : Int) == (al : Int)) = false := by simp; omega
     simp [this]
   ·have x1 : ((al : Int) == (bl : Int)) = false := by simp; omega
    by_cases e2 : ah = bl
    ·subst e2; simp [x1]
    ·have x2 : ((ah : Int) == (bl : Int)) = false := by simp; omega
     simp [x1, x2]
  have hop : op = 16 \/ op = 17 \/ op = 18 \/ op = 19 := by omega
  rcases hop with rfl | rfl | rfl | rfl <;> cases h <;>
   simp only [Int.reduceBEq, Bool.true_and, Bool.and_true, Bool.false_and, Bool.and_false, Bool.not_true, Bool.not_false, zfe, if_true, if_false, zbs, Bool.or_false, Bool.or_true, Bool.false_or, Bool.true_or, Int.reduceGE, decide_true, decide_false] <;>
   first
   | exact below
   | exact above
   | exact at_
   | (simp only [Bool.and_true] at off; exact off)
 ·have hs2 : ((bl : Int) == (bh : Int)) = false := by simp; omega
  have hs3 : ((bl : Int) != (bh : Int)) = true := by simp; omega
  simp only [hs2, hs3, Bool.not_false, if_true]
  exact ⟨_, rfl, rfl⟩
theorem zg5 {a b : zb} (ha : SW a) (hb : SW b) : ∃ r, vA a b = some r /\ xH a b = some r := by
 rw [vA, xH, zbp ha, zcS ha, zcS hb]
 obtain ⟨al, ah, rfl, h1, h2⟩ := SWn ha
 obtain ⟨bl, bh, rfl, h3, h4⟩ := SWn hb
 simp only [zbs, if_true, zl8 h3]
 by_cases e1 : bl <= al
 ·rw [if_pos (decide_eq_true (show (bl : Int) <= (al : Int) by omega))]
  by_cases e2 : al <= bh
  ·rw [decide_eq_true (show bl <= al /\ al <= bh from ⟨e1, e2⟩), if_pos rfl]
   refine ⟨_, rfl, ?_⟩
   congr 1; simp; omega
  ·rw [decide_eq_false (show ¬ (bl <= al /\ al <= bh) by omega), if_neg (by decide)]
   refine ⟨_, rfl, ?_⟩
   congr 1; symm; simp; omega
 ·rw [if_neg (by simp; omega), decide_eq_false (show ¬ (bl <= al /\ al <= bh) by omega), if_neg (by decide)]
  exact ⟨_, rfl, rfl⟩
end Go.Proofs.YtbmknhpfkpmigaaGreatDoor
namespace Go.Proofs.YtbmknhpfkpmigaaGreatDoor
open Go.Sx
theorem zkN {σ ρ : Type} {b1 b2 : Nat -> (σ -> Option ρ) -> σ -> Option ρ} {out : σ -> ρ} {N : Nat} (h : ∀ i again s, i < N -> b1 i again s = b2 i again s) : ∀ (n i : Nat) (s : σ), i + n = N -> qQ b1 out n i s = qQ b2 out n i s := by
 intro n
 induction n with
 | zero => intro i s _; rfl
 | succ n ih =>
  intro i s hi
  show b1 i (qQ b1 out n (i + 1)) s = b2 i (qQ b2 out n (i + 1)) s
  rw [h i _ s (by omega), show qQ b1 out n (i + 1) = qQ b2 out n (i + 1) from funext fun s => ih (i + 1) s (by omega)]
theorem zdE (op : Int) : zX op = some (inB op 1 10) := rfl
theorem zjF (op : Int) : jF op = some (inB op 16 19) := rfl
def wrB (i : zc) : Int × Bool := if qe i then (if (decide (i.Op <= 11) || (decide (i.Op = 13) || decide (i.Op = 14))) then (i.D, true) else (0, i.Op == 21)) else (0, false)
theorem znO (i : zc) : vk i = some (wrB i) := by
 unfold wrB
 by_cases h : qe i = true
 ·have ho := zbr h
  obtain ⟨f, h1, h2, _⟩ := zhX i.Op ho.1 (by omega)
  unfold vk
  simp only [za6, h, h1, h2, zbs, Bool.not_true, zfe, if_false, if_true, Bool.or_assoc]
  split <;> rfl
 ·have h' : qe i = false := by simpa using h
  unfold vk
  simp only [za6, h', zbs, Bool.not_false, if_true, zfe, if_false]
theorem zpn (i : zc) : vu i = some (wrB i) := by
 unfold wrB vu
 rw [zdB]
 by_cases h : qe i = true
 ·simp only [h, zbs, Bool.not_true, zfe, if_false, if_true, Bool.or_assoc]
  have : ((decide (i.Op <= 11) || ((i.Op == 13) || (i.Op == 14)))) = (decide (i.Op <= 11) || (decide (i.Op = 13) || decide (i.Op = 14))) := rfl
  rw [this]
  split <;> rfl
 ·have h' : qe i = false := by simpa using h
  simp only [h', zbs, Bool.not_false, if_true, zfe, if_false]
theorem zos {i : zc} (h : qe i = true) : vv i = some (decide (i.Op <= 12) || (decide (16 <= i.Op) && decide (i.Op <= 19))) := by
 unfold vv
 rw [zdB, h]
 simp only [zbs, if_true, zjF]
 by_cases h1 : i.Op <= 12
 ·simp [h1]
 ·simp [h1, inB]
theorem ziQ (k : Fin 7) : qO 5000 ((k : Nat) : Int) = zaj ((k : Nat) : Int) := by
 match k with
 | ⟨0, _⟩ => rfl
 | ⟨1, _⟩ => rfl
 | ⟨2, _⟩ => rfl
 | ⟨3, _⟩ => rfl
 | ⟨4, _⟩ => rfl
 | ⟨5, _⟩ => rfl
 | ⟨6, _⟩ => rfl
theorem zjG (k : Fin 7) : zaB ((k : Nat) : Int) = zas ((k : Nat) : Int) := by
 match k with
 | ⟨0, _⟩ => rfl
 | ⟨1, _⟩ => rfl
 | ⟨2, _⟩ => rfl
 | ⟨3, _⟩ => rfl
 | ⟨4, _⟩ => rfl
 | ⟨5, _⟩ => rfl
 | ⟨6, _⟩ => rfl
theorem zlZ (k : Fin 7) : ∃ l, qO 5000 ((k : Nat) : Int) = some l /\ l.length <= 3 /\ ∀ x ∈ l, SW x.Sp := by
 have z : SW ⟨0, 0⟩ := SW.zero
 have f : SW ⟨0, 18446744073709551615⟩ := SW.full
 have s : SW ⟨0, 15⟩ := ⟨by decide, by decide, by decide⟩
 match k with
 | ⟨0, _⟩ => exact ⟨[⟨2, ⟨0, 0⟩, 0⟩, ⟨1, ⟨0, 18446744073709551615⟩, 0⟩], rfl, by decide, by simp [z, f]⟩
 | ⟨1, _⟩ => exact ⟨[⟨2, ⟨0, 0⟩, 0⟩, ⟨1, ⟨0, 18446744073709551615⟩, 0⟩], rfl, by decide, by simp [z, f]⟩
 | ⟨2, _⟩ => exact ⟨[⟨2, ⟨0, 0⟩, 0⟩, ⟨1, ⟨0, 18446744073709551615⟩, 0⟩, ⟨1, ⟨0, 18446744073709551615⟩, 0⟩], rfl, by decide, by simp [z, f]⟩
 | ⟨3, _⟩ => exact ⟨[⟨2, ⟨0, 0⟩, 0⟩, ⟨1, ⟨0, 18446744073709551615⟩, 0⟩], rfl, by decide, by simp [z, f]⟩
 | ⟨4, _⟩ => exact ⟨[⟨2, ⟨0, 0⟩, 0⟩, ⟨1, ⟨0, 18446744073709551615⟩, 0⟩, ⟨1, ⟨0, 18446744073709551615⟩, 0⟩], rfl, by decide, by simp [z, f]⟩
 | ⟨5, _⟩ => exact ⟨[⟨1, ⟨0, 15⟩, 0⟩], rfl, by decide, by simp [s]⟩
 | ⟨6, _⟩ => exact ⟨[⟨1, ⟨0, 18446744073709551615⟩, 0⟩], rfl, by decide, by simp [f]⟩
theorem zkO (k : Fin 7) {ys : List za} (hy : ∀ y ∈ ys, SW y.Sp) : vm 5000 ((k : Nat) : Int) ys = vO ((k : Nat) : Int) ys := by
 obtain ⟨l, ha, _, hw⟩ := zlZ k
 have hs : ∃ s, xZ ((k : Nat) : Int) = some (s, true) := by
  obtain ⟨s, h, _⟩ := zgT k
  exact ⟨s, h⟩
 obtain ⟨s, hs⟩ := hs
 have hk := k.isLt
 unfold vm vO
 rw [hs, <- ziQ k, ha]
 have c : (decide ((((k : Nat) : Int)) < 0) || decide (((k : Nat) : Int) > 6)) = false := by
  rw [Bool.or_eq_false_iff]; exact ⟨decide_eq_false (by omega), decide_eq_false (by omega)⟩
 simp only [zbs, Bool.not_true, zfe, if_false, c]
 by_cases hl : l.length = ys.length
 ·have : ((l.length : Int) != (ys.length : Int)) = false := by simp; omega
  simp only [this, zfe, if_false]
  rw [zkN (N := l.length) (b1 := vo ys l) (b2 := zaQ ys l) ?_ _ _ _ (by omega)]
  intro i again u hi
  unfold vo zaQ
  rw [ze8 hi, ze8 (by omega : i < ys.length)]
  simp only [zbs]
  have w1 := hw _ (List.getElem_mem hi)
  have w2 := hy _ (List.getElem_mem (by omega : i < ys.length))
  obtain ⟨r, e1, e2⟩ := zg5 w2 w1
  rw [e1, e2]
  by_cases hkd : (l[i]).Ki = (ys[i]'(by omega)).Ki
  ·rw [hkd]
  ·have a1 : ((l[i]).Ki != (ys[i]'(by omega)).Ki) = true := by simpa using hkd
   have a2 : ((ys[i]'(by omega)).Ki != (l[i]).Ki) = true := by simpa using fun h => hkd h.symm
   rw [a1, a2]
   try rfl
 ·have : ((l.length : Int) != (ys.length : Int)) = true := by simp; omega
  simp only [this, if_true]
theorem zl0 (fu : Nat) (l : List Int) : ∃ b, zcd l = some b /\ jd fu l = some b := by
 obtain ⟨b, h1, h2⟩ := zjA l
 refine ⟨b, h1, ?_⟩
 have : OK (jd fu l) (fun r => r = true ↔ zjz l) := by
  unfold jd
  refine OK.ite (fun h => OK.ret ?_) (fun h => ?_)
  ·simp only [zdq] at h
   exact ⟨fun e => (by cases e), fun g => (by have := g.2.2; omega)⟩
  ·simp only [decide_eq_false_iff_not] at h
   refine OK.bind2 (OK.count (Q := fun o => match o with | .inl _ => (∀ x ∈ l, 0 <= x /\ x < 4) /\ l.Nodup | .inr r => r = false /\ ¬ zjz l) (fun i _ => (∀ x ∈ l.take i, 0 <= x /\ x < 4) /\ (l.take i).Nodup) (by simp) (fun i s again hi hI k => ?_) (fun s hI => ?_)) (fun o ho => ?_)
   ·unfold vc
    rw [ze8 hi]
    simp only [zbs]
    have hb : (if decide (l[i] < 0) = true then some true else some (decide (l[i] > 3)) : Option Bool) = some (decide (l[i] < 0) || decide (l[i] > 3)) := by
     by_cases hc : l[i] < 0
     ·simp [hc]
     ·simp [hc]
    rw [hb]
    simp only [zbs]
    refine OK.ite (fun hc => OK.ret ?_) (fun hc => ?_)
    ·refine ⟨rfl, fun g => ?_⟩
     have := g.1 _ (List.getElem_mem hi)
     simp only [Bool.or_eq_true, zdq] at hc
     omega
    ·simp only [Bool.or_eq_false_iff, decide_eq_false_iff_not] at hc
     refine OK.bind2 (R := fun o => match o with | .inl _ => l[i] ∉ l.take i | .inr r => r = false /\ l[i] ∈ l.take i) ?_ (fun o ho => ?_)
     ·refine OK.bind (OK.hasRoom (by omega) ?_)
      refine OK.count (fun j _ => l[i] ∉ l.take j) (by simp) (fun j u again2 hj hJ k2 => ?_) (fun u hJ => hJ)
      unfold zcl
      rw [ze8 (by omega : j < l.length), ze8 hi]
      simp only [zbs]
      refine OK.ite (fun he => OK.ret ⟨rfl, ?_⟩) (fun he => k2 _ ?_)
      ·simp only [beq_iff_eq] at he
       rw [<- he]
       rw [List.mem_take_iff_getElem]
       exact ⟨j, by omega, rfl⟩
      ·simp only [beq_eq_false_iff_ne, ne_eq] at he
       rw [List.take_succ_eq_append_getElem (by omega), List.mem_append]
       rintro (h1 | h1)
       ·exact hJ h1
       ·simp only [List.mem_singleton] at h1; exact he h1.symm
     ·match o, ho with
      | .inl _, ho =>
       refine k () ?_
       constructor
       ·intro x hx
        rw [List.take_succ_eq_append_getElem hi, List.mem_append] at hx
        rcases hx with hx | hx
        ·exact hI.1 x hx
        ·simp only [List.mem_singleton] at hx; subst hx; omega
       ·exact (zeF hi).2 ⟨hI.2, ho⟩
      | .inr r, ho =>
       refine OK.ret ⟨ho.1, fun g => ?_⟩
       have := (zeF hi).1 (List.Nodup.sublist (List.take_sublist (i + 1) l) g.2.1)
       exact this.2 ho.2
   ·rw [List.take_length] at hI; exact hI
   ·match o, ho with
    | .inl _, ho => exact OK.ret ⟨fun _ => ⟨ho.1, ho.2, by omega⟩, fun _ => rfl⟩
    | .inr r, ho => exact OK.ret ⟨fun e => (by rw [ho.1] at e; cases e), fun g => absurd g ho.2⟩
 obtain ⟨c, h3, h4⟩ := this
 rw [h3]
 congr 1
 rw [Bool.eq_iff_iff, h2, h4]
end Go.Proofs.YtbmknhpfkpmigaaGreatDoor
namespace Go.Proofs.YtbmknhpfkpmigaaGreatDoor
open Go.Sx
theorem zjl {α : Type} {n r : Nat} (a : Nat -> α) (h : r < n) : (xE n a)[r]? = some (a r) := by simp [xE, h]
theorem jv {α : Type} {n : Nat} (a : Nat -> α) {t : Int} (h0 : 0 <= t) (h1 : t < n) : idx (xE n a) t = some (a t.toNat) := by
 unfold Go.Sx.idx
 rw [if_pos h0, zjl a (by omega)]
theorem zau {α : Type} {n : Nat} (a : Nat -> α) (t : Nat) (x : α) : (xE n a).set t x = xE n (jf a t x) := by
 apply List.ext_getElem?
 intro q
 by_cases hq : q < n
 ·rw [zjl _ hq]
  by_cases e : t = q
  ·subst e
   rw [List.getElem?_set_self (by rw [zaI]; exact hq)]; simp [jf]
  ·rw [List.getElem?_set_ne e, zjl _ hq]; simp [jf, Ne.symm e]
 ·rw [List.getElem?_eq_none (by rw [List.length_set, zaI]; omega), List.getElem?_eq_none (by rw [zaI]; omega)]
theorem zhO {α : Type} {n : Nat} {a b : Nat -> α} (h : ∀ r, r < n -> a r = b r) : xE n a = xE n b := by
 unfold xE
 exact List.map_congr_left (fun r hr => h r (by simpa using hr))
theorem zn2 (a : za) : xG [a] = some (if a.Ki != 1 then 33 else 0) := by
 by_cases h : (a.Ki != 1) = true
 ·rw [if_pos h]
  show (zU [a] 0 (qQ (zU [a]) _ 0 1) ()).bind _ = _
  unfold zU
  show ((if (a.Ki != 1) = true then some (.inr 33) else _ : Option (Unit ⊕ Int))).bind _ = _
  rw [if_pos h]; rfl
 ·rw [if_neg h]
  show (zU [a] 0 (qQ (zU [a]) _ 0 1) ()).bind _ = _
  unfold zU
  show ((if (a.Ki != 1) = true then some (.inr 33) else _ : Option (Unit ⊕ Int))).bind _ = _
  rw [if_neg h]; rfl
theorem zn3 (a b : za) : xG [a, b] = some (if (a.Ki != 1 || b.Ki != 1) then 33 else 0) := by
 show (zU [a, b] 0 (qQ (zU [a, b]) _ 1 1) ()).bind _ = _
 by_cases h : (a.Ki != 1) = true
 ·rw [h, Bool.true_or, if_pos rfl]
  unfold zU
  show ((if (a.Ki != 1) = true then some (.inr 33) else _ : Option (Unit ⊕ Int))).bind _ = _
  rw [if_pos h]; rfl
 ·have h' : (a.Ki != 1) = false := by simpa using h
  rw [h', Bool.false_or]
  have e : zU [a, b] 0 (qQ (zU [a, b]) (fun (s : Unit) => (.inl ())) 1 1) () = (qQ (zU [a, b]) (fun (s : Unit) => (.inl ())) 1 1) () := by
   conv => lhs; unfold zU
   show ((if (a.Ki != 1) = true then some (.inr 33) else _ : Option (Unit ⊕ Int))) = _
   rw [if_neg h]; rfl
  rw [e]
  show (zU [a, b] 1 (qQ (zU [a, b]) _ 0 2) ()).bind _ = _
  unfold zU
  show ((if (b.Ki != 1) = true then some (.inr 33) else _ : Option (Unit ⊕ Int))).bind _ = _
  by_cases hb : (b.Ki != 1) = true
  ·rw [if_pos hb, if_pos hb]; rfl
  ·rw [if_neg hb, if_neg hb]; rfl
theorem znI (x y : Int) : za4 [x, y] = some (if x != 0 then x else y) := by
 show (jc [x, y] 0 (qQ (jc [x, y]) _ 1 1) ()).bind _ = _
 by_cases h : (x != 0) = true
 ·rw [if_pos h]
  unfold jc
  show ((if (x != 0) = true then some (.inr x) else _ : Option (Unit ⊕ Int))).bind _ = _
  rw [if_pos h]; rfl
 ·rw [if_neg h]
  have e : jc [x, y] 0 (qQ (jc [x, y]) (fun (s : Unit) => (.inl ())) 1 1) () = (qQ (jc [x, y]) (fun (s : Unit) => (.inl ())) 1 1) () := by
   conv => lhs; unfold jc
   show ((if (x != 0) = true then some (.inr x) else _ : Option (Unit ⊕ Int))) = _
   rw [if_neg h]; rfl
  rw [e]
  show (jc [x, y] 1 (qQ (jc [x, y]) _ 0 2) ()).bind _ = _
  unfold jc
  show ((if (y != 0) = true then some (.inr y) else _ : Option (Unit ⊕ Int))).bind _ = _
  by_cases hb : (y != 0) = true
  ·rw [if_pos hb]; rfl
  ·have : y = 0 := by simpa using hb
   subst this; rfl
theorem zo9 {t : za} (h : SW t.Sp) : zbb t = some (if decide (t.Sp.Hi > 15) then 35 else 0) := by
 unfold zbb vA
 rw [zbp h]
 simp only [zbs, if_true]
 rw [if_pos (decide_eq_true h.1)]
 simp only [zbs]
 by_cases hc : t.Sp.Hi <= 15
 ·rw [decide_eq_true hc, decide_eq_false (by omega)]; rfl
 ·rw [decide_eq_false hc, decide_eq_true (by omega)]; rfl
theorem zlt {n : Nat} {a b : za} (ha : WT n a) (hb : WT n b) : ∃ r, zbF a b = some r /\ zak a b = some r := by
 obtain ⟨r, e1, e2⟩ := zg5 ha.span hb.span
 unfold zbF zak
 rcases hb with rfl | ⟨k1, _, m1⟩ | ⟨k1, s1, m1, m2⟩
 ·exact ⟨true, rfl, rfl⟩
 ·rw [k1, e1, e2]
  by_cases hk : a.Ki = 1
  ·rw [hk]; exact ⟨r, rfl, rfl⟩
  ·have x1 : (a.Ki == 1) = false := by simpa using hk
   have x2 : (a.Ki != 1) = true := by simpa using hk
   rw [x1, x2]; exact ⟨false, rfl, rfl⟩
 ·rw [k1]
  rcases ha with rfl | ⟨ka, sa, ma⟩ | ⟨ka, sa, ma, mb⟩
  ·exact ⟨false, rfl, rfl⟩
  ·rw [ka]; exact ⟨false, rfl, rfl⟩
  ·rw [ka, sa, s1]
   refine ⟨a.Map == b.Map, ?_, rfl⟩
   show some _ = some _
   simp
theorem zhw {i : zc} {k : Nat -> za} (h : i.B = 8 \/ (0 <= i.B /\ i.B < 8)) : jy i (xE 8 k) = some (zfz i k) := by
 unfold jy zfz
 rcases h with h | h
 ·rw [h]; rfl
 ·have : (i.B == 8) = false := by simp; omega
  rw [this]
  simp only [zfe, if_false]
  rw [jv k h.1 (by omega)]; rfl
theorem zjm : zah = some ⟨1, ⟨0, 18446744073709551615⟩, 0⟩ := rfl
theorem znJ (a b : Int) : xC a b = some ⟨1, ⟨a, b⟩, 0⟩ := rfl
theorem zm7 {n : Nat} {k kh : Nat -> za} (hk : ∀ r, r < 8 -> WT n (k r)) (hh : ∀ r, r < 8 -> WT n (kh r)) {j : zf} {p : Int} {i : zc} (hj : idx j.ca (w64 (p - i.D)) = some kh) :
  ∀ (c r : Nat), r + c = 8 -> ∃ b : Bool, qQ (qg j p (i, k)) (fun (s : Unit) => (.inl ())) c r () = some (if b then .inl () else .inr (k, 33)) /\
   qQ (xv (xE 8 k) (xE 8 kh)) (fun (s : Unit) => (.inl ())) c r () = some (if b then .inl () else .inr 33) := by
 intro c
 induction c with
 | zero => intro r _; exact ⟨true, rfl, rfl⟩
 | succ c ih =>
  intro r hr
  obtain ⟨f, e1, e2⟩ := zlt (hk r (by omega)) (hh r (by omega))
  have s1 : ∀ again, qg j p (i, k) r again () = if f then again () else some (.inr (k, 33)) := by
   intro again
   unfold qg
   rw [znM (by omega : r < 8), hj]
   simp only [zbs, e1]
   cases f <;> rfl
  have s2 : ∀ again, xv (xE 8 k) (xE 8 kh) r again () = if f then again () else some (.inr 33) := by
   intro again
   unfold xv
   rw [jv k (by omega) (by omega), jv kh (by omega) (by omega)]
   simp only [zbs, Int.toNat_natCast, e2]
   cases f <;> rfl
  show ∃ b, qg j p (i, k) r (qQ (qg j p (i, k)) (fun (s : Unit) => (.inl ())) c (r + 1)) () = _ /\ xv (xE 8 k) (xE 8 kh) r (qQ (xv (xE 8 k) (xE 8 kh)) (fun (s : Unit) => (.inl ())) c (r + 1)) () = _
  rw [s1, s2]
  cases f with
  | true => exact ih (r + 1) (by omega)
  | false => exact ⟨false, rfl, rfl⟩
theorem zj5 {fu : Nat} (hf : 70 <= fu) {m : zj} {j : zf} (h : JI m j) (hg : ze7 m.Co) {p : Nat} (hp : p < m.Co.length) {i : zc} {k kh : Nat -> za} (hi : m.Co[p]? = some i) (hk : j.ca[p]? = some k)
  (hh : ∀ r, r < 8 -> WT m.Ms.length (kh r)) (hkh : i.Op = 20 -> idx j.ca (w64 ((p : Int) - i.D)) = some kh) :
  ∃ k' e, qG 5000 j p = some (k', e) /\ xl m p (xE 8 k) (xE 8 kh) = some e /\ (15 <= i.Op -> i.Op <= 20 -> k' = k) /\
   (e = 0 -> ∀ b, ¬ (16 <= i.Op /\ i.Op <= 19) -> zZ fu m p (xE 8 k) b = some (xE 8 k', true)) := by
 have hr : qe i = true := hg.fine.right hi
 have ho := zbr hr
 have hwt := h.wt p k hk
 have hA := zbH hr
 have hD := zdC hr
 have hS := jU hr
 have eidx : idx m.Co (p : Int) = some i := by unfold Go.Sx.idx; rw [if_pos (by omega)]; exact hi
 have eidk : idx j.ca (p : Int) = some k := by unfold Go.Sx.idx; rw [if_pos (by omega)]; exact hk
 have hm := h.mod
 have hroom : room (([] : List za).length + (xE 8 k).length) 32 = some () := by rw [zaI]; rfl
 have e0 : ([] : List za) ++ xE 8 k = xE 8 k := rfl
 have hsw : ∀ t, WT m.Ms.length t -> SW t.Sp := fun t ht => ht.span
 have hkA := hwt i.A.toNat (by omega)
 unfold qG xl zZ
 rw [hm, eidx, eidk]
 simp only [zbs, zgS hr, zos hr, zdE, zjF, hroom, e0, zgi hA.1 hA.2, jv k hA.1 hA.2]
 by_cases g1 : 1 <= i.Op /\ i.Op <= 10
 ·have hs := hS (.inl (by omega))
  have hw := zcZ hs hwt
  have q0 : (i.Op == 0) = false := by simp; omega
  have q11 : (i.Op == 11) = false := by simp; omega
  have q12 : (i.Op == 12) = false := by simp; omega
  have q13 : (i.Op == 13) = false := by simp; omega
  have q14 : (i.Op == 14) = false := by simp; omega
  have q15 : (i.Op == 15) = false := by simp; omega
  have q16 : (i.Op == 16) = false := by simp; omega
  have q17 : (i.Op == 17) = false := by simp; omega
  have q18 : (i.Op == 18) = false := by simp; omega
  have q19 : (i.Op == 19) = false := by simp; omega
  have q20 : (i.Op == 20) = false := by simp; omega
  have q21 : (i.Op == 21) = false := by simp; omega
  have q22 : (i.Op == 22) = false := by simp; omega
  have d12 : decide (i.Op <= 12) = true := decide_eq_true (by omega)
  have b1 : inB i.Op 1 10 = true := by unfold inB; rw [zae]; exact ⟨decide_eq_true g1.1, decide_eq_true g1.2⟩
  have dD := hD (by omega)
  obtain ⟨s, e1, e2⟩ := zoE hf (op := i.Op) hkA.span hw.span g1.1 g1.2
  simp only [q0, q11, q12, q13, q14, q15, q16, q17, q18, q19, q20, q21, q22, d12, b1, Bool.true_or, Bool.or_self, zfe, if_false, if_true, zbs, ze1 hs, zhw hs, e1, e2, zn3, zaD, znJ, zgi dD.1 dD.2, jv k dD.1 dD.2, zau, Bool.false_and]
  refine ⟨_, _, rfl, ?_, fun h => absurd h (by first | decide | omega), fun _ _ _ => rfl⟩
  by_cases ha : ((k i.A.toNat).Ki != 1) = true
  ·simp only [ha, if_true, zbs, Bool.true_or]
  ·have ha' : ((k i.A.toNat).Ki != 1) = false := by simpa using ha
   by_cases hb : ((zfz i k).Ki != 1) = true
   ·simp only [ha', hb, if_true, zbs, Bool.false_or, zfe, if_false]
   ·have hb' : ((zfz i k).Ki != 1) = false := by simpa using hb
    simp only [ha', hb', zbs, Bool.false_or, zfe, if_false]
 by_cases g2 : 16 <= i.Op /\ i.Op <= 19
 ·have hs := hS (.inr (by omega))
  have hw := zcZ hs hwt
  have q0 : (i.Op == 0) = false := by simp; omega
  have q11 : (i.Op == 11) = false := by simp; omega
  have q12 : (i.Op == 12) = false := by simp; omega
  have q13 : (i.Op == 13) = false := by simp; omega
  have q14 : (i.Op == 14) = false := by simp; omega
  have q15 : (i.Op == 15) = false := by simp; omega
  have q20 : (i.Op == 20) = false := by simp; omega
  have q21 : (i.Op == 21) = false := by simp; omega
  have q22 : (i.Op == 22) = false := by simp; omega
  have d12 : (decide (i.Op <= 12) || (decide (16 <= i.Op) && decide (i.Op <= 19))) = true := by
   rw [Bool.or_eq_true, zae]; exact .inr ⟨decide_eq_true g2.1, decide_eq_true g2.2⟩
  have hj : (if (i.Op == 16) = true then some (i.Op == 16) else if (i.Op == 17) = true then some (i.Op == 17) else if (i.Op == 18) = true then some (i.Op == 18) else some (i.Op == 19) : Option Bool) = some true := by
   have hop : i.Op = 16 \/ i.Op = 17 \/ i.Op = 18 \/ i.Op = 19 := by omega
   rcases hop with e | e | e | e <;> rw [e] <;> rfl
  simp only [q0, q11, q12, q13, q14, q15, q20, q21, q22, d12, hj, Bool.or_self, zfe, if_false, if_true, zbs, ze1 hs, zhw hs, zn3, Bool.false_and]
  refine ⟨_, _, rfl, ?_, fun _ _ => rfl, fun _ _ hx => absurd g2 hx⟩
  by_cases ha : ((k i.A.toNat).Ki != 1) = true
  ·simp only [ha, if_true, zbs, Bool.true_or]
  ·have ha' : ((k i.A.toNat).Ki != 1) = false := by simpa using ha
   by_cases hb : ((zfz i k).Ki != 1) = true
   ·simp only [ha', hb, if_true, zbs, Bool.false_or, zfe, if_false]
   ·have hb' : ((zfz i k).Ki != 1) = false := by simpa using hb
    simp only [ha', hb', zbs, Bool.false_or, zfe, if_false]
 have hop : i.Op = 0 \/ i.Op = 11 \/ i.Op = 12 \/ i.Op = 13 \/ i.Op = 14 \/ i.Op = 15 \/ i.Op = 20 \/ i.Op = 21 \/ i.Op = 22 := by omega
 rcases hop with e | e | e | e | e | e | e | e | e
 ·have hs := hS (.inl (by omega))
  have dD := hD (by omega)
  simp only [e, Int.reduceBEq, Int.reduceLE, decide_true, Bool.true_or, if_true, zbs, ze1 hs, zhw hs, zgi dD.1 dD.2, jv k dD.1 dD.2, zau]
  by_cases hc : ((zfz i k).Ki == 0) = true
  ·simp only [hc, if_true, zbs]
   exact ⟨_, _, rfl, rfl, fun h => absurd h (by first | decide | omega), fun h => by cases h⟩
  ·simp only [hc, zfe, if_false, zbs, Int.reduceBEq, Bool.or_self, Bool.false_and]
   exact ⟨_, _, rfl, rfl, fun h => absurd h (by first | decide | omega), fun _ _ _ => rfl⟩
 ·have hs := hS (.inl (by omega))
  have hw := zcZ hs hwt
  have dD := hD (by omega)
  have b1 : inB 11 1 10 = false := rfl
  simp only [e, b1, Int.reduceBEq, Int.reduceLE, decide_true, Bool.true_or, Bool.or_true, Bool.or_false, zfe, if_false, if_true, zbs, ze1 hs, zhw hs, zgi dD.1 dD.2, jv k dD.1 dD.2, zau, zbu, zaD, zjm, zn2, zo9 hw.span, znI, Bool.or_self, Bool.true_and]
  refine ⟨_, _, rfl, ?_, fun h => absurd h (by first | decide | omega), fun _ _ _ => rfl⟩
  by_cases hb : ((zfz i k).Ki != 1) = true
  ·simp only [hb, if_true, zbs]; rfl
  ·simp only [hb, zfe, if_false, zbs]
   by_cases hx : (zfz i k).Sp.Hi > 15
   ·simp only [decide_eq_true hx, if_true]; rfl
   ·simp only [decide_eq_false hx, zfe, if_false]; rfl
 ·have hs := hS (.inl (by omega))
  have hw := zcZ hs hwt
  have b1 : inB 12 1 10 = false := rfl
  have b2 : inB 12 16 19 = false := rfl
  simp only [e, b1, b2, Int.reduceBEq, Int.reduceLE, decide_true, Bool.true_or, Bool.or_true, Bool.or_false, zfe, if_false, if_true, zbs, ze1 hs, zhw hs, zn3, zo9 hw.span, znI, Bool.or_self, Bool.true_and]
  refine ⟨_, _, rfl, ?_, fun h => absurd h (by first | decide | omega), fun _ _ _ => rfl⟩
  by_cases ha : ((k i.A.toNat).Ki != 1) = true
  ·simp only [ha, if_true, zbs, Bool.true_or]; rfl
  ·have ha' : ((k i.A.toNat).Ki != 1) = false := by simpa using ha
   by_cases hb : ((zfz i k).Ki != 1) = true
   ·simp only [ha', hb, if_true, zbs, Bool.false_or, zfe, if_false]; rfl
   ·have hb' : ((zfz i k).Ki != 1) = false := by simpa using hb
    simp only [ha', hb', zbs, Bool.false_or, zfe, if_false]
    by_cases hx : (zfz i k).Sp.Hi > 15
    ·simp only [decide_eq_true hx, if_true]; rfl
    ·simp only [decide_eq_false hx, zfe, if_false]; rfl
 ·have dD := hD (by omega)
  have b1 : inB 13 1 10 = false := rfl
  simp only [e, b1, Int.reduceBEq, Int.reduceLE, decide_true, decide_false, Bool.true_or, Bool.or_true, Bool.or_false, zfe, if_false, if_true, zbs, zgi dD.1 dD.2, jv k dD.1 dD.2, zau, zbu, zaD, zjm, Bool.or_self, Bool.false_and, Bool.true_and]
  exact ⟨_, _, rfl, rfl, fun h => absurd h (by first | decide | omega), fun _ _ _ => rfl⟩
 ·have dD := hD (by omega)
  have b1 : inB 14 1 10 = false := rfl
  simp only [e, b1, Int.reduceBEq, Int.reduceLE, decide_true, decide_false, Bool.true_or, Bool.or_true, Bool.or_false, zfe, if_false, if_true, zbs, zgi dD.1 dD.2, jv k dD.1 dD.2, zau, Bool.or_self, Bool.false_and, Bool.true_and]
  by_cases hx : i.Imm >= (m.Ms.length : Int)
  ·simp only [decide_eq_true hx, if_true, zbs]
   exact ⟨_, _, rfl, rfl, fun h => absurd h (by first | decide | omega), fun _ _ _ => rfl⟩
  ·simp only [decide_eq_false hx, zfe, if_false, zbs]
   exact ⟨_, _, rfl, rfl, fun h => absurd h (by first | decide | omega), fun _ _ _ => rfl⟩
 ·have b1 : inB 15 1 10 = false := rfl
  have b2 : inB 15 16 19 = false := rfl
  simp only [e, b1, b2, Int.reduceBEq, Int.reduceLE, decide_true, decide_false, Bool.true_or, Bool.or_true, Bool.or_false, zfe, if_false, if_true, zbs, Bool.or_self, Bool.false_and, Bool.true_and]
  exact ⟨_, _, rfl, rfl, fun _ _ => rfl, fun _ _ _ => rfl⟩
 ·have b1 : inB 20 1 10 = false := rfl
  have b2 : inB 20 16 19 = false := rfl
  simp only [e, b1, b2, Int.reduceBEq, Int.reduceLE, decide_true, decide_false, Bool.true_or, Bool.or_true, Bool.or_false, zfe, if_false, if_true, zbs, Bool.or_self, Bool.false_and, Bool.true_and, Bool.and_false, zn2]
  by_cases ha : ((k i.A.toNat).Ki != 1) = true
  ·simp only [ha, if_true, zbs]
   exact ⟨_, _, rfl, rfl, fun _ _ => rfl, fun h => by cases h⟩
  ·simp only [ha, zfe, if_false, zbs, Int.reduceBNe]
   obtain ⟨b, e1, e2⟩ := zm7 (i := i) (p := (p : Int)) (j := j) hwt hh (hkh e) 8 0 rfl
   rw [e1, e2]
   cases b with
   | true => exact ⟨_, _, rfl, rfl, fun _ _ => rfl, fun _ _ _ => rfl⟩
   | false => exact ⟨_, _, rfl, rfl, fun _ _ => rfl, fun h => by cases h⟩
 ·have b1 : inB 21 1 10 = false := rfl
  have hI := zbX hr e
  obtain ⟨c, hc⟩ : ∃ c : Fin 7, i.Imm = ((c : Nat) : Int) := ⟨⟨i.Imm.toNat, by omega⟩, by simp; omega⟩
  obtain ⟨l, ha, hl, _⟩ := zlZ c
  have hcut : cut (xE 8 k) 1 (w64 (1 + ((l.length : Nat) : Int))) = some (((xE 8 k).take (1 + l.length)).drop 1) := by
   rw [zO (by omega) (by omega), show (1 : Int) + ((l.length : Nat) : Int) = ((1 + l.length : Nat) : Int) by push_cast; rfl]
   exact zhz (lo := 1) (by omega) (by rw [zaI]; omega)
  have hys : ∀ y ∈ ((xE 8 k).take (1 + l.length)).drop 1, SW y.Sp := by
   intro y hy
   have := List.mem_of_mem_take (List.mem_of_mem_drop hy)
   unfold xE at this
   simp only [List.mem_map, List.mem_range] at this
   obtain ⟨r, hr8, rfl⟩ := this
   exact (hwt r hr8).span
  obtain ⟨l2, ha2, hl2⟩ := zhY c
  have hck := zkO c hys
  obtain ⟨y, hy, _⟩ := ziJ c ha2 (((xE 8 k).take (1 + l.length)).drop 1)
  obtain ⟨s, hs1, _⟩ := zgT c
  have hres : ∃ r, zaB ((c : Nat) : Int) = some r := by
   unfold zaB
   rw [hs1]
   exact ⟨_, rfl⟩
  obtain ⟨r, hres⟩ := hres
  have hres2 := zjG c
  rw [hres] at hres2
  have haR := ziQ c
  rw [ha] at haR
  rw [hy] at hck
  simp only [e, b1, hc, <- haR, ha, hcut, hy, <- hck, hres, <- hres2, Int.reduceBEq, Int.reduceLE, decide_true, decide_false, Bool.true_or, Bool.or_true, Bool.or_false, zfe, if_false, if_true, zbs, jv k (show (0 : Int) <= 0 by decide) (show (0 : Int) < (8 : Nat) by decide), zau, Bool.or_self, Bool.false_and, Bool.true_and, Bool.and_false]
  exact ⟨_, _, rfl, rfl, fun _ h => absurd h (by first | decide | omega), fun _ _ _ => rfl⟩
 ·have b1 : inB 22 1 10 = false := rfl
  have b2 : inB 22 16 19 = false := rfl
  simp only [e, b1, b2, Int.reduceBEq, Int.reduceLE, decide_true, decide_false, Bool.true_or, Bool.or_true, Bool.or_false, zfe, if_false, if_true, zbs, Bool.or_self, Bool.false_and, Bool.true_and, Bool.and_false, zn2]
  by_cases ha : ((k i.A.toNat).Ki != 1) = true
  ·simp only [ha, if_true, zbs]
   exact ⟨_, _, rfl, rfl, fun _ h => absurd h (by first | decide | omega), fun h => by cases h⟩
  ·simp only [ha, zfe, if_false, zbs]
   exact ⟨_, _, rfl, rfl, fun _ h => absurd h (by first | decide | omega), fun _ _ _ => rfl⟩
theorem zjn {fu : Nat} {m : zj} {n p : Nat} {i : zc} {k : Nat -> za} (hi : m.Co[p]? = some i) (hr : qe i = true) (hwt : ∀ r, r < 8 -> WT n (k r)) (g : 16 <= i.Op /\ i.Op <= 19) (b : Bool) :
  ∃ s ok, xa i.Op (k i.A.toNat).Sp (zfz i k).Sp b = some (s, ok) /\ zZ fu m p (xE 8 k) b = some (if ok then (xE 8 (jf k i.A.toNat ⟨1, s, 0⟩), true) else ([], false)) := by
 have hA := zbH hr
 have hs := jU hr (.inr (by omega))
 have hw := zcZ hs hwt
 have eidx : idx m.Co (p : Int) = some i := by unfold Go.Sx.idx; rw [if_pos (by omega)]; exact hi
 have hroom : room (([] : List za).length + (xE 8 k).length) 32 = some () := by rw [zaI]; rfl
 have e0 : ([] : List za) ++ xE 8 k = xE 8 k := rfl
 have q0 : (i.Op == 0) = false := by simp; omega
 have q11 : (i.Op == 11) = false := by simp; omega
 have q13 : (i.Op == 13) = false := by simp; omega
 have q14 : (i.Op == 14) = false := by simp; omega
 have q21 : (i.Op == 21) = false := by simp; omega
 have b1 : inB i.Op 1 10 = false := by unfold inB; rw [Bool.and_eq_false_iff]; exact .inr (decide_eq_false (by omega))
 have b2 : inB i.Op 16 19 = true := by unfold inB; rw [zae]; exact ⟨decide_eq_true g.1, decide_eq_true g.2⟩
 obtain ⟨r, e1, e2⟩ := zjN (op := i.Op) (h := b) (hwt i.A.toNat (by omega)).span hw.span g.1 g.2
 refine ⟨r.1, r.2, e1, ?_⟩
 unfold zZ
 rw [eidx]
 simp only [zbs, zdE, zjF, hroom, e0, q0, q11, q13, q14, q21, b1, b2, Bool.or_self, zfe, if_false, if_true, jv k hA.1 hA.2, zhw hs, e2, znJ, zau]
 cases r.2 <;> rfl
end Go.Proofs.YtbmknhpfkpmigaaGreatDoor

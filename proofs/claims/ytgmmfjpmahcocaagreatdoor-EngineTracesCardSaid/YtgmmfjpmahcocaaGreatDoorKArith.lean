import Derived.Test.YtgmmfjpmahcocaaGreatDoorKSem
set_option linter.unusedVariables false
set_option linter.unusedSimpArgs false
namespace Go.Proofs.YtgmmfjpmahcocaaGreatDoor
open Go.Sx
theorem znd (n : Nat) (h : n < 18446744073709551616) : xP .u64 (n : Int) 1 = ((n % 2 : Nat) : Int) := by
 rw [zfl (by omega) (by omega) (by omega) (by omega)]
 have : (1 : Int).toNat = 1 := rfl
 rw [this, Nat.and_one_is_mod]; rfl
theorem znA {n i : Nat} (hi : i <= 64) : qQ .u64 (n : Int) (zp (i : Int)) = ((n / 2 ^ i : Nat) : Int) := by
 rw [wuN (by omega)]; exact zgA i hi
theorem znR {n i : Nat} (hi : i <= 64) : zbO .u64 (n : Int) (zp (i : Int)) = ((n * 2 ^ i % 18446744073709551616 : Nat) : Int) := by
 rw [wuN (by omega), zdg]
 have : min (i : Int).toNat 64 = i := by simp; omega
 rw [this, Int.natCast_emod, Int.natCast_mul, Int.natCast_pow]
 rfl
theorem orN {a b : Nat} (ha : a < 18446744073709551616) (hb : b < 18446744073709551616) : bOr .u64 (a : Int) (b : Int) = ((a ||| b : Nat) : Int) := by
 rw [zgx (by omega) (by omega) (by omega) (by omega)]; rfl
theorem zj6 {s c i : Nat} (hs : s < 2 ^ i) : s ||| c * 2 ^ i = s + c * 2 ^ i := by
 have := Nat.two_pow_add_eq_or_of_lt hs c
 rw [Nat.or_comm, Nat.mul_comm, <- this, Nat.add_comm]
theorem zdK (a i : Nat) : a % 2 ^ (i + 1) = a % 2 ^ i + 2 ^ i * (a / 2 ^ i % 2) := by
 rw [Nat.pow_succ, Nat.mod_mul]
theorem zlm {i : Nat} (h : i < 64) : 2 ^ i * 2 <= 18446744073709551616 := by
 have : 2 ^ (i + 1) <= 2 ^ 64 := Nat.pow_le_pow_right (by decide) h
 rw [Nat.pow_succ] at this; exact this
theorem zj7 {a b i : Nat} (ha : a < 18446744073709551616) (hb : b < 18446744073709551616) (hi : i < 64) (again : (Int × Int) -> Option Int) :
  qp a b i again ((((a % 2 ^ i + b % 2 ^ i) % 2 ^ i : Nat) : Int), (((a % 2 ^ i + b % 2 ^ i) / 2 ^ i : Nat) : Int)) =
  again ((((a % 2 ^ (i + 1) + b % 2 ^ (i + 1)) % 2 ^ (i + 1) : Nat) : Int), (((a % 2 ^ (i + 1) + b % 2 ^ (i + 1)) / 2 ^ (i + 1) : Nat) : Int)) := by
 have h64 := zlm hi
 have hp : 0 < 2 ^ i := Nat.pow_pos (by decide)
 rw [qp]
 generalize hx : a / 2 ^ i % 2 = x
 generalize hy : b / 2 ^ i % 2 = y
 have hx2 : x < 2 := by omega
 have hy2 : y < 2 := by omega
 have hA : a % 2 ^ (i + 1) = a % 2 ^ i + 2 ^ i * x := by rw [zdK, hx]
 have hB : b % 2 ^ (i + 1) = b % 2 ^ i + 2 ^ i * y := by rw [zdK, hy]
 have la : a % 2 ^ i < 2 ^ i := Nat.mod_lt _ hp
 have lb : b % 2 ^ i < 2 ^ i := Nat.mod_lt _ hp
 generalize hu : a % 2 ^ i = u at *
 generalize hv : b % 2 ^ i = v at *
 generalize hc : (u + v) / 2 ^ i = c
 generalize hs : (u + v) % 2 ^ i = s
 have hsum : u + v = s + 2 ^ i * c := by rw [<- hs, <- hc, Nat.mod_add_div]
 have hsl : s < 2 ^ i := by rw [<- hs]; exact Nat.mod_lt _ hp
 have hc2 : c < 2 := by rw [<- hc]; exact Nat.div_lt_of_lt_mul (by omega)
 have e1 : xP .u64 (qQ .u64 (a : Int) (zp (i : Int))) 1 = (x : Int) := by
  rw [znA (by omega), znd _ (Nat.lt_of_le_of_lt (Nat.div_le_self _ _) ha), hx]
 have e2 : xP .u64 (qQ .u64 (b : Int) (zp (i : Int))) 1 = (y : Int) := by
  rw [znA (by omega), znd _ (Nat.lt_of_le_of_lt (Nat.div_le_self _ _) hb), hy]
 simp only [e1, e2]
 have e3 : zp (zp ((x : Int) + (y : Int)) + (c : Int)) = ((x + y + c : Nat) : Int) := by
  rw [show (x : Int) + (y : Int) = ((x + y : Nat) : Int) by push_cast; rfl, wuN (by omega), show ((x + y : Nat) : Int) + (c : Int) = ((x + y + c : Nat) : Int) by push_cast; rfl, wuN (by omega)]
 simp only [e3]
 rw [znd _ (by omega), znR (by omega), show (1 : Int) = ((1 : Nat) : Int) from rfl, zgA 1 (by omega)]
 have hm : (x + y + c) % 2 * 2 ^ i < 18446744073709551616 := by
  have : (x + y + c) % 2 <= 1 := by omega
  calc _ <= 1 * 2 ^ i := Nat.mul_le_mul_right _ this
   _ < _ := by omega
 rw [Nat.mod_eq_of_lt hm, orN (by omega) hm, zj6 hsl]
 have hS : a % 2 ^ (i + 1) + b % 2 ^ (i + 1) = s + 2 ^ i * (x + y + c) := by
  rw [hA, hB]
  have : u + 2 ^ i * x + (v + 2 ^ i * y) = (u + v) + 2 ^ i * (x + y) := by rw [Nat.mul_add]; omega
  rw [this, hsum, Nat.add_assoc, <- Nat.mul_add, Nat.add_comm c]
 rw [hS]
 have d1 : (s + 2 ^ i * (x + y + c)) % 2 ^ (i + 1) = s + (x + y + c) % 2 * 2 ^ i := by
  rw [Nat.pow_succ, Nat.mod_mul, Nat.add_mul_mod_self_left, Nat.mod_eq_of_lt hsl, Nat.add_mul_div_left _ _ hp, Nat.div_eq_of_lt hsl, Nat.zero_add, Nat.mul_comm]
 have d2 : (s + 2 ^ i * (x + y + c)) / 2 ^ (i + 1) = (x + y + c) / 2 ^ 1 := by
  rw [Nat.pow_succ, <- Nat.div_div_eq_div_mul, Nat.add_mul_div_left _ _ hp, Nat.div_eq_of_lt hsl, Nat.zero_add]
 rw [d1, d2]
theorem zj8 {a b : Nat} (ha : a < 18446744073709551616) (hb : b < 18446744073709551616) : ∀ (n i : Nat), i + n = 64 ->
  zQ (qp a b) (fun (s : Int × Int) => s.1) n i ((((a % 2 ^ i + b % 2 ^ i) % 2 ^ i : Nat) : Int), (((a % 2 ^ i + b % 2 ^ i) / 2 ^ i : Nat) : Int)) = some (((a + b) % 18446744073709551616 : Nat) : Int) := by
 intro n
 induction n with
 | zero =>
  intro i hi
  have : i = 64 := by omega
  subst this
  have ea : a % 2 ^ 64 = a := Nat.mod_eq_of_lt ha
  have eb : b % 2 ^ 64 = b := Nat.mod_eq_of_lt hb
  rw [ea, eb]; rfl
 | succ n ih =>
  intro i hi
  show qp a b i (zQ (qp a b) (fun (s : Int × Int) => s.1) n (i + 1)) _ = _
  rw [zj7 ha hb (by omega)]
  exact ih (i + 1) (by omega)
theorem zjy {a b : Nat} (ha : a < 18446744073709551616) (hb : b < 18446744073709551616) : qs a b = some (((a + b) % 18446744073709551616 : Nat) : Int) := by
 have := zj8 ha hb 64 0 rfl
 simp only [Nat.pow_zero, Nat.mod_one, Nat.div_one, Nat.add_zero] at this
 rw [qs]
 show (zQ (qp a b) (fun (s : Int × Int) => s.1) 64 0 (((0 : Nat) : Int), ((0 : Nat) : Int))).bind _ = _
 rw [this]; rfl
theorem zme {b : Nat} (hb : b < 18446744073709551616) : zgg .u64 18446744073709551615 (b : Int) = ((18446744073709551615 - b : Nat) : Int) := by
 rw [zgb]
 have e1 : BitVec.ofInt 64 18446744073709551615 = BitVec.allOnes 64 := by decide
 rw [e1, BitVec.allOnes_xor, BitVec.toNat_not, zfk (by omega) (by omega)]
 have : (b : Int).toNat = b := rfl
 rw [this]
 have : 2 ^ 64 - 1 - b = 18446744073709551615 - b := rfl
 rw [this]; omega
theorem zlV {a b : Nat} (ha : a < 18446744073709551616) (hb : b < 18446744073709551616) : vg a b = some (((a + (18446744073709551616 - b)) % 18446744073709551616 : Nat) : Int) := by
 rw [vg, zme hb, show (1 : Int) = ((1 : Nat) : Int) from rfl, zjy (by omega) (by omega)]
 show (qs _ _).bind _ = _
 rw [zjy ha (Nat.mod_lt _ (by decide))]
 show some _ = some _
 congr 2
 omega
theorem zjz {a b : Nat} (ha : a < 18446744073709551616) (hb : b < 18446744073709551616) : ∀ (n i : Nat), i + n = 64 ->
  zQ (qy b) (fun (s : Int × Int) => s.2) n i (((a * 2 ^ i % 18446744073709551616 : Nat) : Int), ((a * (b % 2 ^ i) % 18446744073709551616 : Nat) : Int)) = some ((a * b % 18446744073709551616 : Nat) : Int) := by
 intro n
 induction n with
 | zero =>
  intro i hi
  have : i = 64 := by omega
  subst this
  have eb : b % 2 ^ 64 = b := Nat.mod_eq_of_lt hb
  rw [eb]; rfl
 | succ n ih =>
  intro i hi
  show qy b i (zQ (qy b) (fun (s : Int × Int) => s.2) n (i + 1)) _ = _
  have m1 : a * 2 ^ i % 18446744073709551616 < 18446744073709551616 := Nat.mod_lt _ (by decide)
  have m2 : a * (b % 2 ^ i) % 18446744073709551616 < 18446744073709551616 := Nat.mod_lt _ (by decide)
  have e2 : xP .u64 (qQ .u64 (b : Int) (zp (i : Int))) 1 = ((b / 2 ^ i % 2 : Nat) : Int) := by
   rw [znA (by omega), znd _ (Nat.lt_of_le_of_lt (Nat.div_le_self _ _) hb)]
  have hn : (a * 2 ^ i % 18446744073709551616 + a * 2 ^ i % 18446744073709551616) % 18446744073709551616 = a * 2 ^ (i + 1) % 18446744073709551616 := by
   rw [<- Nat.add_mod, Nat.pow_succ, <- Nat.mul_assoc]; congr 1; omega
  rw [qy]
  simp only [e2]
  rw [zjy m1 m1, zjy m2 m1, hn]
  have hq : (if (((b / 2 ^ i % 2 : Nat) : Int) == 1) = true then (some (((a * (b % 2 ^ i) % 18446744073709551616 + a * 2 ^ i % 18446744073709551616) % 18446744073709551616 : Nat) : Int)).bind (fun r => some r) else some ((a * (b % 2 ^ i) % 18446744073709551616 : Nat) : Int)) = some ((a * (b % 2 ^ (i + 1)) % 18446744073709551616 : Nat) : Int) := by
   rw [zdK b i]
   by_cases h : b / 2 ^ i % 2 = 1
   ·rw [h]
    rw [if_pos (by decide)]
    show some _ = some _
    rw [<- Nat.add_mod, Nat.mul_one, <- Nat.mul_add]
   ·have h0 : b / 2 ^ i % 2 = 0 := by omega
    rw [h0, if_neg (by decide), Nat.mul_zero, Nat.add_zero]
  rw [hq]
  exact ih (i + 1) (by omega)
theorem zne {a b : Nat} (ha : a < 18446744073709551616) (hb : b < 18446744073709551616) : vY a b = some ((a * b % 18446744073709551616 : Nat) : Int) := by
 have := zjz ha hb 64 0 rfl
 simp only [Nat.pow_zero, Nat.mod_one, Nat.mul_zero, Nat.mul_one, Nat.zero_mod, Nat.mod_eq_of_lt ha] at this
 rw [vY]
 show (zQ (qy b) (fun (s : Int × Int) => s.2) 64 0 ((a : Int), ((0 : Nat) : Int))).bind _ = _
 rw [this]; rfl
theorem nnN (n : Nat) : nn (n : Int) = some () := zbm (by omega)
theorem zjA {a b i : Nat} (ha : a < 18446744073709551616) (hb : b < 18446744073709551616) (h0 : 0 < b) (hi : i < 64) (again : (Int × Int × Int) -> Option (Int × Int)) :
  qz a b again (((a / 2 ^ (i + 1) / b * 2 ^ (i + 1) : Nat) : Int), ((a / 2 ^ (i + 1) % b : Nat) : Int), (i : Int)) =
  again (((a / 2 ^ i / b * 2 ^ i : Nat) : Int), ((a / 2 ^ i % b : Nat) : Int), (i : Int) - 1) := by
 have hp : 0 < 2 ^ i := Nat.pow_pos (by decide)
 have h64 := zlm hi
 have hA : a / 2 ^ i = 2 * (a / 2 ^ (i + 1)) + a / 2 ^ i % 2 := by
  rw [Nat.pow_succ, <- Nat.div_div_eq_div_mul]; omega
 have hA64 : a / 2 ^ i < 18446744073709551616 := Nat.lt_of_le_of_lt (Nat.div_le_self _ _) ha
 generalize hx : a / 2 ^ i % 2 = x at hA
 generalize hu : a / 2 ^ (i + 1) = u at hA |-
 have hx2 : x < 2 := by omega
 have hqr : u = b * (u / b) + u % b := (Nat.div_add_mod u b).symm
 have hrl : u % b < b := Nat.mod_lt _ h0
 generalize hq : u / b = q at *
 generalize hr : u % b = r at *
 have hu64 : u * 2 ^ (i + 1) <= a := by rw [<- hu]; exact Nat.div_mul_le_self _ _
 have hq64 : q * 2 ^ (i + 1) <= a := Nat.le_trans (Nat.mul_le_mul_right _ (by rw [<- hq]; exact Nat.div_le_self _ _)) hu64
 have d0 : decide ((i : Int) >= 0) = true := by simp
 have e1 : xP .u64 (qQ .u64 (a : Int) (zp (i : Int))) 1 = (x : Int) := by
  rw [znA (by omega), znd _ hA64, hx]
 have e2 : zbO .u64 (r : Int) 1 = ((r * 2 % 18446744073709551616 : Nat) : Int) := by
  have := znR (n := r) (i := 1) (by omega)
  rw [show zp ((1 : Nat) : Int) = 1 from by decide] at this
  exact this
 have hor : r * 2 % 18446744073709551616 ||| x = r * 2 % 18446744073709551616 + x := by
  have h2 : r * 2 % 18446744073709551616 = r % 9223372036854775808 * 2 ^ 1 := by omega
  rw [h2, Nat.or_comm, zj6 (by omega), Nat.add_comm]
 have e3 : bOr .u64 (zbO .u64 (r : Int) 1) (xP .u64 (qQ .u64 (a : Int) (zp (i : Int))) 1) = ((r * 2 % 18446744073709551616 + x : Nat) : Int) := by
  rw [e1, e2, orN (Nat.mod_lt _ (by decide)) (by omega), hor]
 have e4 : qQ .u64 (r : Int) 63 = ((r / 9223372036854775808 : Nat) : Int) := zgA 63 (by omega)
 rw [qz]
 simp only [d0, if_true]
 have en : nn (zp (i : Int)) = some () := by rw [wuN (by omega)]; exact nnN i
 rw [en, e3, e4]
 have ew : w64 ((i : Int) - 1) = (i : Int) - 1 := zI (by omega) (by omega)
 rw [ew]
 simp only [zbs]
 by_cases hc : b <= 2 * r + x
 ·
  have hcond : (((r / 9223372036854775808 : Nat) : Int) == 1 || decide (((r * 2 % 18446744073709551616 + x : Nat) : Int) >= (b : Int))) = true := by
   by_cases h : r / 9223372036854775808 = 1
   ·rw [h]; rfl
   ·have h0' : r / 9223372036854775808 = 0 := by omega
    have : r * 2 % 18446744073709551616 = 2 * r := by omega
    rw [this]
    have : decide (((2 * r + x : Nat) : Int) >= (b : Int)) = true := decide_eq_true (by omega)
    rw [this, Bool.or_true]
  rw [if_pos hcond, zlV (by omega) hb]
  have e5 : ((r * 2 % 18446744073709551616 + x + (18446744073709551616 - b)) % 18446744073709551616) = 2 * r + x - b := by omega
  rw [e5]
  have hdiv : a / 2 ^ i / b = 2 * q + 1 := by
   rw [hA, hqr]
   have : 2 * (b * q + r) + x = (2 * r + x - b) + b * (2 * q + 1) := by rw [Nat.mul_add b, <- Nat.mul_assoc, Nat.mul_comm b 2, Nat.mul_assoc, Nat.mul_add 2]; omega
   rw [this, Nat.add_mul_div_left _ _ h0, Nat.div_eq_of_lt (by omega), Nat.zero_add]
  have hmod : a / 2 ^ i % b = 2 * r + x - b := by
   rw [hA, hqr]
   have : 2 * (b * q + r) + x = (2 * r + x - b) + b * (2 * q + 1) := by rw [Nat.mul_add b, <- Nat.mul_assoc, Nat.mul_comm b 2, Nat.mul_assoc, Nat.mul_add 2]; omega
   rw [this, Nat.add_mul_mod_self_left, Nat.mod_eq_of_lt (by omega)]
  simp only [zbs]
  have e6 : zbO .u64 1 (zp (i : Int)) = ((1 * 2 ^ i : Nat) : Int) := by
   rw [show (1 : Int) = ((1 : Nat) : Int) from rfl, znR (by omega), Nat.mod_eq_of_lt (by omega)]
  have e7 : q * 2 ^ (i + 1) ||| 1 * 2 ^ i = (2 * q + 1) * 2 ^ i := by
   have h2 : q * 2 ^ (i + 1) = q * 2 * 2 ^ i := by rw [Nat.pow_succ, Nat.mul_assoc, Nat.mul_comm 2]
   have h3 : (2 * q + 1) * 2 ^ i = q * 2 * 2 ^ i + 2 ^ i := by rw [Nat.add_mul, Nat.one_mul, Nat.mul_comm 2 q]
   rw [Nat.or_comm, Nat.one_mul, zj6 (Nat.pow_lt_pow_right (by decide) (by omega)), h2, h3]
   omega
  rw [e6, orN (by omega) (by omega), e7, hdiv, hmod]
 ·have hcond : (((r / 9223372036854775808 : Nat) : Int) == 1 || decide (((r * 2 % 18446744073709551616 + x : Nat) : Int) >= (b : Int))) = false := by
   have h0' : r / 9223372036854775808 = 0 := by omega
   have : r * 2 % 18446744073709551616 = 2 * r := by omega
   rw [this, h0']
   have : decide (((2 * r + x : Nat) : Int) >= (b : Int)) = false := decide_eq_false (by omega)
   rw [this]; rfl
  rw [if_neg (by rw [hcond]; decide)]
  have e5 : r * 2 % 18446744073709551616 + x = 2 * r + x := by omega
  rw [e5]
  have hdiv : a / 2 ^ i / b = 2 * q := by
   rw [hA, hqr]
   have : 2 * (b * q + r) + x = (2 * r + x) + b * (2 * q) := by rw [<- Nat.mul_assoc, Nat.mul_comm b 2, Nat.mul_assoc, Nat.mul_add 2]; omega
   rw [this, Nat.add_mul_div_left _ _ h0, Nat.div_eq_of_lt (by omega), Nat.zero_add]
  have hmod : a / 2 ^ i % b = 2 * r + x := by
   rw [hA, hqr]
   have : 2 * (b * q + r) + x = (2 * r + x) + b * (2 * q) := by rw [<- Nat.mul_assoc, Nat.mul_comm b 2, Nat.mul_assoc, Nat.mul_add 2]; omega
   rw [this, Nat.add_mul_mod_self_left, Nat.mod_eq_of_lt (by omega)]
  have h2 : q * 2 ^ (i + 1) = 2 * q * 2 ^ i := by rw [Nat.pow_succ, Nat.mul_comm (2 ^ i) 2, <- Nat.mul_assoc, Nat.mul_comm q 2]
  rw [hdiv, hmod, h2]
theorem zjB {a b : Nat} (ha : a < 18446744073709551616) (hb : b < 18446744073709551616) (h0 : 0 < b) : ∀ (i n : Nat), i <= 64 -> i < n ->
  loop (qz a b) n (((a / 2 ^ i / b * 2 ^ i : Nat) : Int), ((a / 2 ^ i % b : Nat) : Int), (i : Int) - 1) = some (((a / b : Nat) : Int), ((a % b : Nat) : Int)) := by
 intro i
 induction i with
 | zero =>
  intro n _ hn
  obtain ⟨n, rfl⟩ : ∃ k, n = k + 1 := ⟨n - 1, by omega⟩
  rw [loop, qz]
  simp
 | succ i ih =>
  intro n hi hn
  obtain ⟨n, rfl⟩ : ∃ k, n = k + 1 := ⟨n - 1, by omega⟩
  rw [loop, show (((i + 1 : Nat) : Int) - 1) = (i : Int) by omega, zjA ha hb h0 (by omega)]
  exact ih n (by omega) (by omega)
theorem zlW {a b fu : Nat} (ha : a < 18446744073709551616) (hb : b < 18446744073709551616) (h0 : 0 < b) (hf : 70 <= fu) : vZ fu a b = some (((a / b : Nat) : Int), ((a % b : Nat) : Int)) := by
 have := zjB ha hb h0 64 fu (by omega) (by omega)
 have e : a / 2 ^ 64 = 0 := Nat.div_eq_of_lt ha
 rw [e, Nat.zero_div, Nat.zero_mul, Nat.zero_mod] at this
 rw [vZ]
 show (loop (qz a b) fu (((0 : Nat) : Int), ((0 : Nat) : Int), ((64 : Nat) : Int) - 1)).bind _ = _
 rw [this]; rfl
theorem zln {b : Nat} (hb : b < 18446744073709551616) : ∀ (k n a i : Nat), a < 18446744073709551616 -> (a ≠ 0 -> a % 2 ^ (64 - k) = 0) -> k <= 64 -> k < n -> i <= b ->
  loop (qv 9 b) n ((a : Int), (i : Int)) = some ((a * 2 ^ (b - i) % 18446744073709551616 : Nat) : Int) := by
 intro k
 induction k with
 | zero =>
  intro n a i ha hz _ hn hi
  obtain ⟨n, rfl⟩ : ∃ q, n = q + 1 := ⟨n - 1, by omega⟩
  have h0 : a = 0 := by
   by_cases h : a = 0
   ·exact h
   ·have := hz h
    rw [Nat.mod_eq_of_lt (by simpa using ha)] at this
    exact this
  subst h0
  rw [loop, qv]
  simp
 | succ k ih =>
  intro n a i ha hz hk hn hi
  obtain ⟨n, rfl⟩ : ∃ q, n = q + 1 := ⟨n - 1, by omega⟩
  rw [loop, qv]
  by_cases h0 : a = 0
  ·subst h0; simp
  ·by_cases hib : i = b
   ·subst hib
    simp [Nat.mod_eq_of_lt ha]
   ·have hc : (decide ((i : Int) < (b : Int)) && decide ((a : Int) > 0)) = true := by
     rw [decide_eq_true (by omega), decide_eq_true (by omega)]; rfl
    simp only [hc, if_true]
    rw [if_pos (by decide), zjy ha ha]
    show loop (qv 9 b) n (_, _) = _
    rw [show (i : Int) + 1 = ((i + 1 : Nat) : Int) by push_cast; rfl, wuN (by omega), ih n _ (i + 1) (Nat.mod_lt _ (by decide)) ?_ (by omega) (by omega) (by omega)]
    ·congr 2
     rw [Nat.mod_mul_mod]
     congr 1
     have : b - i = (b - (i + 1)) + 1 := by omega
     rw [this, Nat.pow_succ, Nat.mul_comm (2 ^ _) 2, <- Nat.mul_assoc]
     congr 1; omega
    ·intro _
     have h1 := hz h0
     have hdiv : 2 ^ (64 - (k + 1)) ∣ a := Nat.dvd_of_mod_eq_zero h1
     have hd2 : 2 ^ (64 - k) ∣ a + a := by
      have e : 64 - k = (64 - (k + 1)) + 1 := by omega
      rw [e, Nat.pow_succ]
      obtain ⟨c, hc⟩ := hdiv
      exact ⟨c, by rw [hc]; rw [Nat.mul_assoc, Nat.mul_comm 2 c, <- Nat.mul_assoc]; omega⟩
     have hd3 : 2 ^ (64 - k) ∣ 18446744073709551616 := by
      have : (18446744073709551616 : Nat) = 2 ^ 64 := by decide
      rw [this]; exact Nat.pow_dvd_pow 2 (by omega)
     exact Nat.mod_eq_zero_of_dvd ((Nat.dvd_mod_iff hd3).2 hd2)
theorem zlo {b : Nat} (hb : b < 18446744073709551616) : ∀ (k n a i : Nat), a < 18446744073709551616 -> a < 2 ^ k -> k < n -> i <= b ->
  loop (qv 10 b) n ((a : Int), (i : Int)) = some ((a / 2 ^ (b - i) : Nat) : Int) := by
 intro k
 induction k with
 | zero =>
  intro n a i _ ha hn hi
  obtain ⟨n, rfl⟩ : ∃ q, n = q + 1 := ⟨n - 1, by omega⟩
  have h0 : a = 0 := by simpa using ha
  subst h0
  rw [loop, qv]
  simp
 | succ k ih =>
  intro n a i ha64 ha hn hi
  obtain ⟨n, rfl⟩ : ∃ q, n = q + 1 := ⟨n - 1, by omega⟩
  rw [loop, qv]
  by_cases h0 : a = 0
  ·subst h0; simp
  ·by_cases hib : i = b
   ·subst hib; simp
   ·have hc : (decide ((i : Int) < (b : Int)) && decide ((a : Int) > 0)) = true := by
     rw [decide_eq_true (by omega), decide_eq_true (by omega)]; rfl
    simp only [hc, if_true]
    rw [if_neg (by decide)]
    have e2 : zp ((a : Int).tdiv 2) = ((a / 2 : Nat) : Int) := by
     rw [show (2 : Int) = ((2 : Nat) : Int) from rfl, zdh, wuN (by omega)]
    rw [e2, show (i : Int) + 1 = ((i + 1 : Nat) : Int) by push_cast; rfl, wuN (by omega), ih n _ (i + 1) (by omega) (by rw [Nat.pow_succ] at ha; omega) (by omega) (by omega)]
    have : b - i = (b - (i + 1)) + 1 := by omega
    rw [this, Nat.pow_succ, Nat.mul_comm (2 ^ _) 2, Nat.div_div_eq_div_mul]
theorem zj9 {a b : Nat} (hb : 64 <= b) : a * 2 ^ b % 18446744073709551616 = 0 := by
 have : b = 64 + (b - 64) := by omega
 rw [this, Nat.pow_add, <- Nat.mul_assoc, Nat.mul_comm a, Nat.mul_assoc]
 exact Nat.mul_mod_right _ _
theorem ziv {a b : Nat} : zbO .u64 (a : Int) (b : Int) = ((a * 2 ^ b % 18446744073709551616 : Nat) : Int) := by
 rw [zdg, show (b : Int).toNat = b from rfl]
 by_cases h : b <= 64
 ·rw [Nat.min_eq_left h, Int.natCast_emod, Int.natCast_mul, Int.natCast_pow]; rfl
 ·have e : a * 2 ^ b % 18446744073709551616 = a * 2 ^ 64 % 18446744073709551616 := by rw [zj9 (by omega), zj9 (by omega)]
  rw [Nat.min_eq_right (by omega), e, Int.natCast_emod, Int.natCast_mul, Int.natCast_pow]; rfl
theorem zka {a b : Nat} (ha : a < 18446744073709551616) : qQ .u64 (a : Int) (b : Int) = ((a / 2 ^ b : Nat) : Int) := by
 rw [zgy (by omega), show (b : Int).toNat = b from rfl, show (a : Int).toNat = a from rfl]
 by_cases h : b <= 64
 ·rw [Nat.min_eq_left h]
 ·have h1 : a / 2 ^ 64 = 0 := Nat.div_eq_of_lt ha
  have h2 : a / 2 ^ b = 0 := Nat.div_eq_of_lt (Nat.lt_of_lt_of_le ha (Nat.pow_le_pow_right (show 0 < 2 by decide) (show 64 <= b by omega)))
  rw [Nat.min_eq_right (by omega), h1, h2]
theorem zlX (x y : Int) : zeU .u64 x y = ((BitVec.ofInt 64 x &&& ~~~ BitVec.ofInt 64 y).toNat : Int) % 18446744073709551616 := rfl
theorem bvN {a : Nat} (ha : a < 18446744073709551616) : (BitVec.ofNat 64 a).toNat = a := by
 rw [BitVec.toNat_ofNat, Nat.mod_eq_of_lt ha]
theorem znB {a : Nat} (ha : a < 18446744073709551616) : (~~~ BitVec.ofNat 64 a).toNat = 18446744073709551615 - a := by
 rw [BitVec.toNat_not, bvN ha]
theorem zn2 {x y : Nat} (hx : x < 18446744073709551616) (hy : y < 18446744073709551616) : x ||| y < 18446744073709551616 := Nat.or_lt_two_pow (n := 64) hx hy
theorem zlY (a b : Nat) (ha : a < 18446744073709551616) (hb : b < 18446744073709551616) :
  18446744073709551615 - ((18446744073709551615 - a) ||| (18446744073709551615 - b)) = a &&& b /\ 18446744073709551615 - ((18446744073709551615 - a) &&& (18446744073709551615 - b)) = a ||| b := by
 constructor
 ·have h := congrArg BitVec.toNat (show ~~~(~~~ BitVec.ofNat 64 a ||| ~~~ BitVec.ofNat 64 b) = BitVec.ofNat 64 a &&& BitVec.ofNat 64 b by ext i; simp)
  rw [BitVec.toNat_not, BitVec.toNat_or, znB ha, znB hb, BitVec.toNat_and, bvN ha, bvN hb] at h
  exact h
 ·have h := congrArg BitVec.toNat (show ~~~(~~~ BitVec.ofNat 64 a &&& ~~~ BitVec.ofNat 64 b) = BitVec.ofNat 64 a ||| BitVec.ofNat 64 b by ext i; simp)
  rw [BitVec.toNat_not, BitVec.toNat_and, znB ha, znB hb, BitVec.toNat_or, bvN ha, bvN hb] at h
  exact h
theorem bvI {a : Nat} : BitVec.ofInt 64 (a : Int) = BitVec.ofNat 64 a := by
 apply BitVec.eq_of_toNat_eq
 simp [BitVec.toNat_ofInt]
theorem zmf {a b : Nat} (ha : a < 18446744073709551616) (hb : b < 18446744073709551616) : bOr .u64 (zeU .u64 (a : Int) (b : Int)) (zeU .u64 (b : Int) (a : Int)) = zgg .u64 (a : Int) (b : Int) := by
 have m (x : BitVec 64) : ((x.toNat : Int) % 18446744073709551616) = (x.toNat : Int) := by have := x.isLt; omega
 have o (x : BitVec 64) : BitVec.ofInt 64 (x.toNat : Int) = x := by rw [bvI, BitVec.ofNat_toNat, BitVec.setWidth_eq]
 rw [zlX, zlX, m, m, ziT, o, o, zgb, bvI, bvI]
 congr 2
 have : (BitVec.ofNat 64 a &&& ~~~ BitVec.ofNat 64 b ||| BitVec.ofNat 64 b &&& ~~~ BitVec.ofNat 64 a) = BitVec.ofNat 64 a ^^^ BitVec.ofNat 64 b := by
  ext i
  simp only [BitVec.getElem_or, BitVec.getElem_and, BitVec.getElem_not, BitVec.getElem_xor]
  cases (BitVec.ofNat 64 a)[i] <;> cases (BitVec.ofNat 64 b)[i] <;> rfl
 rw [this]
theorem zn3 {x : Int} (h : u64 x) : ∃ n : Nat, x = n /\ n < 18446744073709551616 := ⟨x.toNat, by have := h.1; omega, by have := h.2; omega⟩
theorem zjc {fu : Nat} (hf : 70 <= fu) {op x y : Int} (hx : u64 x) (hy : u64 y) (h1 : 1 <= op) (h2 : op <= 10) : qa fu op x y = some (ar op x y, true) := by
 obtain ⟨a, rfl, ha⟩ := zn3 hx
 obtain ⟨b, rfl, hb⟩ := zn3 hy
 have hop : op = 1 \/ op = 2 \/ op = 3 \/ op = 4 \/ op = 5 \/ op = 6 \/ op = 7 \/ op = 8 \/ op = 9 \/ op = 10 := by omega
 rcases hop with rfl | rfl | rfl | rfl | rfl | rfl | rfl | rfl | rfl | rfl
 ·simp only [qa, ar, Int.reduceBEq, if_true]
  rw [zjy ha hb, zby, zbs]
  try rfl
 ·simp only [qa, ar, Int.reduceBEq, if_true, zfe, if_false]
  rw [zlV ha hb, zby]
  show some _ = some _
  congr 2; omega
 ·simp only [qa, ar, Int.reduceBEq, if_true, zfe, if_false]
  rw [zne ha hb, zby, zbs]
  try rfl
 ·simp only [qa, ar, Int.reduceBEq, if_true, zfe, if_false, zbs]
  by_cases h0 : b = 0
  ·subst h0; rfl
  ·have hd : decide ((b : Int) > 0) = true := decide_eq_true (by omega)
   have hz : ((b : Int) == 0) = false := by simp; omega
   simp only [hd, if_true, zlW ha hb (by omega) hf, hz, zdh, wuN (Nat.lt_of_le_of_lt (Nat.div_le_self a b) ha), zfe, if_false, zbs]
 ·simp only [qa, ar, Int.reduceBEq, if_true, zfe, if_false, zbs]
  by_cases h0 : b = 0
  ·subst h0; rfl
  ·have hd : decide ((b : Int) > 0) = true := decide_eq_true (by omega)
   have hz : ((b : Int) == 0) = false := by simp; omega
   simp only [hd, if_true, zlW ha hb (by omega) hf, hz, zfe, if_false, zbs]
   rfl
 ·simp only [qa, ar, Int.reduceBEq, if_true, zfe, if_false, zbs]
  rw [zme ha, zme hb, zgx (by omega) (by omega) (by omega) (by omega), zfl (by omega) (by omega) (by omega) (by omega)]
  have e := zlY a b ha hb
  rw [show ((18446744073709551615 - a : Nat) : Int).toNat = 18446744073709551615 - a from rfl, show ((18446744073709551615 - b : Nat) : Int).toNat = 18446744073709551615 - b from rfl, zme (zn2 (by omega) (by omega)), e.1]; rfl
 ·simp only [qa, ar, Int.reduceBEq, if_true, zfe, if_false, zbs]
  rw [zme ha, zme hb, zfl (by omega) (by omega) (by omega) (by omega), zgx (by omega) (by omega) (by omega) (by omega)]
  have e := zlY a b ha hb
  rw [show ((18446744073709551615 - a : Nat) : Int).toNat = 18446744073709551615 - a from rfl, show ((18446744073709551615 - b : Nat) : Int).toNat = 18446744073709551615 - b from rfl, zme (Nat.lt_of_le_of_lt Nat.and_le_left (by omega)), e.2]; rfl
 ·simp only [qa, ar, Int.reduceBEq, if_true, zfe, if_false, zbs]
  rw [zmf ha hb]
 ·simp only [qa, ar, Int.reduceBEq, if_true, zfe, if_false, zbs]
  have := zln hb 64 fu a 0 ha (by intro _; simp [Nat.mod_one]) (by omega) (by omega) (by omega)
  rw [show ((0 : Nat) : Int) = 0 from rfl] at this
  rw [this, ziv]; rfl
 ·simp only [qa, ar, Int.reduceBEq, if_true, zfe, if_false, zbs]
  have := zlo hb 64 fu a 0 ha ha (by omega) (by omega)
  rw [show ((0 : Nat) : Int) = 0 from rfl] at this
  rw [this, zka ha]; rfl
end Go.Proofs.YtgmmfjpmahcocaaGreatDoor

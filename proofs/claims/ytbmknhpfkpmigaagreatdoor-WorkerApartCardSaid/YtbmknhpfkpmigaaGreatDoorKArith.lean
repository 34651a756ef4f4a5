/- Texts KArith, KSound of this proof. -/
import Derived.Test.YtbmknhpfkpmigaaGreatDoorKFlowR
set_option linter.unusedVariables false
set_option linter.unusedSimpArgs false
namespace Go.Proofs.YtbmknhpfkpmigaaGreatDoor
open Go.Sx
theorem zo7 (n : Nat) (h : n < 18446744073709551616) : ze2 .u64 (n : Int) 1 = ((n % 2 : Nat) : Int) := by
 rw [zfE (by omega) (by omega) (by omega) (by omega)]
 have : (1 : Int).toNat = 1 := rfl
 rw [this, Nat.and_one_is_mod]; rfl
theorem zpE {n i : Nat} (hi : i <= 64) : zbx .u64 (n : Int) (qf (i : Int)) = ((n / 2 ^ i : Nat) : Int) := by
 rw [wuN (by omega)]; exact zg4 i hi
theorem zp2 {n i : Nat} (hi : i <= 64) : zfS .u64 (n : Int) (qf (i : Int)) = ((n * 2 ^ i % 18446744073709551616 : Nat) : Int) := by
 rw [wuN (by omega), zdF]
 have : min (i : Int).toNat 64 = i := by simp; omega
 rw [this, Int.natCast_emod, Int.natCast_mul, Int.natCast_pow]
 rfl
theorem orN {a b : Nat} (ha : a < 18446744073709551616) (hb : b < 18446744073709551616) : bOr .u64 (a : Int) (b : Int) = ((a ||| b : Nat) : Int) := by
 rw [zg1 (by omega) (by omega) (by omega) (by omega)]; rfl
theorem zln {s c i : Nat} (hs : s < 2 ^ i) : s ||| c * 2 ^ i = s + c * 2 ^ i := by
 have := Nat.two_pow_add_eq_or_of_lt hs c
 rw [Nat.or_comm, Nat.mul_comm, <- this, Nat.add_comm]
theorem zeh (a i : Nat) : a % 2 ^ (i + 1) = a % 2 ^ i + 2 ^ i * (a / 2 ^ i % 2) := by
 rw [Nat.pow_succ, Nat.mod_mul]
theorem zm4 {i : Nat} (h : i < 64) : 2 ^ i * 2 <= 18446744073709551616 := by
 have : 2 ^ (i + 1) <= 2 ^ 64 := Nat.pow_le_pow_right (by decide) h
 rw [Nat.pow_succ] at this; exact this
theorem zlo {a b i : Nat} (ha : a < 18446744073709551616) (hb : b < 18446744073709551616) (hi : i < 64) (again : (Int × Int) -> Option Int) :
  jI a b i again ((((a % 2 ^ i + b % 2 ^ i) % 2 ^ i : Nat) : Int), (((a % 2 ^ i + b % 2 ^ i) / 2 ^ i : Nat) : Int)) =
  again ((((a % 2 ^ (i + 1) + b % 2 ^ (i + 1)) % 2 ^ (i + 1) : Nat) : Int), (((a % 2 ^ (i + 1) + b % 2 ^ (i + 1)) / 2 ^ (i + 1) : Nat) : Int)) := by
 have h64 := zm4 hi
 have hp : 0 < 2 ^ i := Nat.pow_pos (by decide)
 rw [jI]
 generalize hx : a / 2 ^ i % 2 = x
 generalize hy : b / 2 ^ i % 2 = y
 have hx2 : x < 2 := by omega
 have hy2 : y < 2 := by omega
 have hA : a % 2 ^ (i + 1) = a % 2 ^ i + 2 ^ i * x := by rw [zeh, hx]
 have hB : b % 2 ^ (i + 1) = b % 2 ^ i + 2 ^ i * y := by rw [zeh, hy]
 have la : a % 2 ^ i < 2 ^ i := Nat.mod_lt _ hp
 have lb : b % 2 ^ i < 2 ^ i := Nat.mod_lt _ hp
 generalize hu : a % 2 ^ i = u at *
 generalize hv : b % 2 ^ i = v at *
 generalize hc : (u + v) / 2 ^ i = c
 generalize hs : (u + v) % 2 ^ i = s
 have hsum : u + v = s + 2 ^ i * c := by rw [<- hs, <- hc, Nat.mod_add_div]
 have hsl : s < 2 ^ i := by rw [<- hs]; exact Nat.mod_lt _ hp
 have hc2 : c < 2 := by rw [<- hc]; exact Nat.div_lt_of_lt_mul (by omega)
 have e1 : ze2 .u64 (zbx .u64 (a : Int) (qf (i : Int))) 1 = (x : Int) := by
  rw [zpE (by omega), zo7 _ (Nat.lt_of_le_of_lt (Nat.div_le_self _ _) ha), hx]
 have e2 : ze2 .u64 (zbx .u64 (b : Int) (qf (i : Int))) 1 = (y : Int) := by
  rw [zpE (by omega), zo7 _ (Nat.lt_of_le_of_lt (Nat.div_le_self _ _) hb), hy]
 simp only [e1, e2]
 have e3 : qf (qf ((x : Int) + (y : Int)) + (c : Int)) = ((x + y + c : Nat) : Int) := by
  rw [show (x : Int) + (y : Int) = ((x + y : Nat) : Int) by push_cast; rfl, wuN (by omega), show ((x + y : Nat) : Int) + (c : Int) = ((x + y + c : Nat) : Int) by push_cast; rfl, wuN (by omega)]
 simp only [e3]
 rw [zo7 _ (by omega), zp2 (by omega), show (1 : Int) = ((1 : Nat) : Int) from rfl, zg4 1 (by omega)]
 have hm : (x + y + c) % 2 * 2 ^ i < 18446744073709551616 := by
  have : (x + y + c) % 2 <= 1 := by omega
  calc _ <= 1 * 2 ^ i := Nat.mul_le_mul_right _ this
   _ < _ := by omega
 rw [Nat.mod_eq_of_lt hm, orN (by omega) hm, zln hsl]
 have hS : a % 2 ^ (i + 1) + b % 2 ^ (i + 1) = s + 2 ^ i * (x + y + c) := by
  rw [hA, hB]
  have : u + 2 ^ i * x + (v + 2 ^ i * y) = (u + v) + 2 ^ i * (x + y) := by rw [Nat.mul_add]; omega
  rw [this, hsum, Nat.add_assoc, <- Nat.mul_add, Nat.add_comm c]
 rw [hS]
 have d1 : (s + 2 ^ i * (x + y + c)) % 2 ^ (i + 1) = s + (x + y + c) % 2 * 2 ^ i := by
  rw [Nat.pow_succ, Nat.mod_mul, Nat.add_mul_mod_self_left, Nat.mod_eq_of_lt hsl, Nat.add_mul_div_left _ _ hp, Nat.div_eq_of_lt hsl, Nat.zero_add, Nat.mul_comm]
 have d2 : (s + 2 ^ i * (x + y + c)) / 2 ^ (i + 1) = (x + y + c) / 2 ^ 1 := by
  rw [Nat.pow_succ, <- Nat.div_div_eq_div_mul, Nat.add_mul_div_left _ _ hp, Nat.div_eq_of_lt hsl, Nat.zero_add]
 rw [d1, d2]
theorem zlp {a b : Nat} (ha : a < 18446744073709551616) (hb : b < 18446744073709551616) : ∀ (n i : Nat), i + n = 64 ->
  qQ (jI a b) (fun (s : Int × Int) => s.1) n i ((((a % 2 ^ i + b % 2 ^ i) % 2 ^ i : Nat) : Int), (((a % 2 ^ i + b % 2 ^ i) / 2 ^ i : Nat) : Int)) = some (((a + b) % 18446744073709551616 : Nat) : Int) := by
 intro n
 induction n with
 | zero =>
  intro i hi
  have : i = 64 := by omega
  subst this
  have ea : a % 2 ^ 64 = a := Nat.mod_eq_of_lt ha
  have eb : b % 2 ^ 64 = b := Nat.mod_eq_of_lt hb
  rw [ea, eb]; rfl
 | succ n ih =>
  intro i hi
  show jI a b i (qQ (jI a b) (fun (s : Int × Int) => s.1) n (i + 1)) _ = _
  rw [zlo ha hb (by omega)]
  exact ih (i + 1) (by omega)
theorem zkx {a b : Nat} (ha : a < 18446744073709551616) (hb : b < 18446744073709551616) : qH a b = some (((a + b) % 18446744073709551616 : Nat) : Int) := by
 have := zlp ha hb 64 0 rfl
 simp only [Nat.pow_zero, Nat.mod_one, Nat.div_one, Nat.add_zero] at this
 rw [qH]
 show (qQ (jI a b) (fun (s : Int × Int) => s.1) 64 0 (((0 : Nat) : Int), ((0 : Nat) : Int))).bind _ = _
 rw [this]; rfl
theorem zn0 {b : Nat} (hb : b < 18446744073709551616) : zi8 .u64 18446744073709551615 (b : Int) = ((18446744073709551615 - b : Nat) : Int) := by
 rw [zgw]
 have e1 : BitVec.ofInt 64 18446744073709551615 = BitVec.allOnes 64 := by decide
 rw [e1, BitVec.allOnes_xor, BitVec.toNat_not, zfD (by omega) (by omega)]
 have : (b : Int).toNat = b := rfl
 rw [this]
 have : 2 ^ 64 - 1 - b = 18446744073709551615 - b := rfl
 rw [this]; omega
theorem znE {a b : Nat} (ha : a < 18446744073709551616) (hb : b < 18446744073709551616) : xT a b = some (((a + (18446744073709551616 - b)) % 18446744073709551616 : Nat) : Int) := by
 rw [xT, zn0 hb, show (1 : Int) = ((1 : Nat) : Int) from rfl, zkx (by omega) (by omega)]
 show (qH _ _).bind _ = _
 rw [zkx ha (Nat.mod_lt _ (by decide))]
 show some _ = some _
 congr 2
 omega
theorem zky {a b : Nat} (ha : a < 18446744073709551616) (hb : b < 18446744073709551616) : ∀ (n i : Nat), i + n = 64 ->
  qQ (xh b) (fun (s : Int × Int) => s.2) n i (((a * 2 ^ i % 18446744073709551616 : Nat) : Int), ((a * (b % 2 ^ i) % 18446744073709551616 : Nat) : Int)) = some ((a * b % 18446744073709551616 : Nat) : Int) := by
 intro n
 induction n with
 | zero =>
  intro i hi
  have : i = 64 := by omega
  subst this
  have eb : b % 2 ^ 64 = b := Nat.mod_eq_of_lt hb
  rw [eb]; rfl
 | succ n ih =>
  intro i hi
  show xh b i (qQ (xh b) (fun (s : Int × Int) => s.2) n (i + 1)) _ = _
  have m1 : a * 2 ^ i % 18446744073709551616 < 18446744073709551616 := Nat.mod_lt _ (by decide)
  have m2 : a * (b % 2 ^ i) % 18446744073709551616 < 18446744073709551616 := Nat.mod_lt _ (by decide)
  have e2 : ze2 .u64 (zbx .u64 (b : Int) (qf (i : Int))) 1 = ((b / 2 ^ i % 2 : Nat) : Int) := by
   rw [zpE (by omega), zo7 _ (Nat.lt_of_le_of_lt (Nat.div_le_self _ _) hb)]
  have hn : (a * 2 ^ i % 18446744073709551616 + a * 2 ^ i % 18446744073709551616) % 18446744073709551616 = a * 2 ^ (i + 1) % 18446744073709551616 := by
   rw [<- Nat.add_mod, Nat.pow_succ, <- Nat.mul_assoc]; congr 1; omega
  rw [xh]
  simp only [e2]
  rw [zkx m1 m1, zkx m2 m1, hn]
  have hq : (if (((b / 2 ^ i % 2 : Nat) : Int) == 1) = true then (some (((a * (b % 2 ^ i) % 18446744073709551616 + a * 2 ^ i % 18446744073709551616) % 18446744073709551616 : Nat) : Int)).bind (fun r => some r) else some ((a * (b % 2 ^ i) % 18446744073709551616 : Nat) : Int)) = some ((a * (b % 2 ^ (i + 1)) % 18446744073709551616 : Nat) : Int) := by
   rw [zeh b i]
   by_cases h : b / 2 ^ i % 2 = 1
   ·rw [h]
    rw [if_pos (by decide)]
    show some _ = some _
    rw [<- Nat.add_mod, Nat.mul_one, <- Nat.mul_add]
   ·have h0 : b / 2 ^ i % 2 = 0 := by omega
    rw [h0, if_neg (by decide), Nat.mul_zero, Nat.add_zero]
  rw [hq]
  exact ih (i + 1) (by omega)
theorem zo8 {a b : Nat} (ha : a < 18446744073709551616) (hb : b < 18446744073709551616) : vM a b = some ((a * b % 18446744073709551616 : Nat) : Int) := by
 have := zky ha hb 64 0 rfl
 simp only [Nat.pow_zero, Nat.mod_one, Nat.mul_zero, Nat.mul_one, Nat.zero_mod, Nat.mod_eq_of_lt ha] at this
 rw [vM]
 show (qQ (xh b) (fun (s : Int × Int) => s.2) 64 0 ((a : Int), ((0 : Nat) : Int))).bind _ = _
 rw [this]; rfl
theorem nnN (n : Nat) : nn (n : Int) = some () := zbI (by omega)
theorem zkz {a b i : Nat} (ha : a < 18446744073709551616) (hb : b < 18446744073709551616) (h0 : 0 < b) (hi : i < 64) (again : (Int × Int × Int) -> Option (Int × Int)) :
  qt a b again (((a / 2 ^ (i + 1) / b * 2 ^ (i + 1) : Nat) : Int), ((a / 2 ^ (i + 1) % b : Nat) : Int), (i : Int)) =
  again (((a / 2 ^ i / b * 2 ^ i : Nat) : Int), ((a / 2 ^ i % b : Nat) : Int), (i : Int) - 1) := by
 have hp : 0 < 2 ^ i := Nat.pow_pos (by decide)
 have h64 := zm4 hi
 have hA : a / 2 ^ i = 2 * (a / 2 ^ (i + 1)) + a / 2 ^ i % 2 := by
  rw [Nat.pow_succ, <- Nat.div_div_eq_div_mul]; omega
 have hA64 : a / 2 ^ i < 18446744073709551616 := Nat.lt_of_le_of_lt (Nat.div_le_self _ _) ha
 generalize hx : a / 2 ^ i % 2 = x at hA
 generalize hu : a / 2 ^ (i + 1) = u at hA |-
 have hx2 : x < 2 := by omega
 have hqr : u = b * (u / b) + u % b := (Nat.div_add_mod u b).symm
 have hrl : u % b < b := Nat.mod_lt _ h0
 generalize hq : u / b = q at *
 generalize hr : u % b = r at *
 have hu64 : u * 2 ^ (i + 1) <= a := by rw [<- hu]; exact Nat.div_mul_le_self _ _
 have hq64 : q * 2 ^ (i + 1) <= a := Nat.le_trans (Nat.mul_le_mul_right _ (by rw [<- hq]; exact Nat.div_le_self _ _)) hu64
 have d0 : decide ((i : Int) >= 0) = true := by simp
 have e1 : ze2 .u64 (zbx .u64 (a : Int) (qf (i : Int))) 1 = (x : Int) := by
  rw [zpE (by omega), zo7 _ hA64, hx]
 have e2 : zfS .u64 (r : Int) 1 = ((r * 2 % 18446744073709551616 : Nat) : Int) := by
  have := zp2 (n := r) (i := 1) (by omega)
  rw [show qf ((1 : Nat) : Int) = 1 from by decide] at this
  exact this
 have hor : r * 2 % 18446744073709551616 ||| x = r * 2 % 18446744073709551616 + x := by
  have h2 : r * 2 % 18446744073709551616 = r % 9223372036854775808 * 2 ^ 1 := by omega
  rw [h2, Nat.or_comm, zln (by omega), Nat.add_comm]
 have e3 : bOr .u64 (zfS .u64 (r : Int) 1) (ze2 .u64 (zbx .u64 (a : Int) (qf (i : Int))) 1) = ((r * 2 % 18446744073709551616 + x : Nat) : Int) := by
  rw [e1, e2, orN (Nat.mod_lt _ (by decide)) (by omega), hor]
 have e4 : zbx .u64 (r : Int) 63 = ((r / 9223372036854775808 : Nat) : Int) := zg4 63 (by omega)
 rw [qt]
 simp only [d0, if_true]
 have en : nn (qf (i : Int)) = some () := by rw [wuN (by omega)]; exact nnN i
 rw [en, e3, e4]
 have ew : w64 ((i : Int) - 1) = (i : Int) - 1 := zO (by omega) (by omega)
 rw [ew]
 simp only [zbs]
 by_cases hc : b <= 2 * r + x
 ·
  have hcond : (((r / 9223372036854775808 : Nat) : Int) == 1 || decide (((r * 2 % 18446744073709551616 + x : Nat) : Int) >= (b : Int))) = true := by
   by_cases h : r / 9223372036854775808 = 1
   ·rw [h]; rfl
   ·have h0' : r / 9223372036854775808 = 0 := by omega
    have : r * 2 % 18446744073709551616 = 2 * r := by omega
    rw [this]
    have : decide (((2 * r + x : Nat) : Int) >= (b : Int)) = true := decide_eq_true (by omega)
    rw [this, Bool.or_true]
  rw [if_pos hcond, znE (by omega) hb]
  have e5 : ((r * 2 % 18446744073709551616 + x + (18446744073709551616 - b)) % 18446744073709551616) = 2 * r + x - b := by omega
  rw [e5]
  have hdiv : a / 2 ^ i / b = 2 * q + 1 := by
   rw [hA, hqr]
   have : 2 * (b * q + r) + x = (2 * r + x - b) + b * (2 * q + 1) := by rw [Nat.mul_add b, <- Nat.mul_assoc, Nat.mul_comm b 2, Nat.mul_assoc, Nat.mul_add 2]; omega
   rw [this, Nat.add_mul_div_left _ _ h0, Nat.div_eq_of_lt (by omega), Nat.zero_add]
  have hmod : a / 2 ^ i % b = 2 * r + x - b := by
   rw [hA, hqr]
   have : 2 * (b * q + r) + x = (2 * r + x - b) + b * (2 * q + 1) := by rw [Nat.mul_add b, <- Nat.mul_assoc, Nat.mul_comm b 2, Nat.mul_assoc, Nat.mul_add 2]; omega
   rw [this, Nat.add_mul_mod_self_left, Nat.mod_eq_of_lt (by omega)]
  simp only [zbs]
  have e6 : zfS .u64 1 (qf (i : Int)) = ((1 * 2 ^ i : Nat) : Int) := by
   rw [show (1 : Int) = ((1 : Nat) : Int) from rfl, zp2 (by omega), Nat.mod_eq_of_lt (by omega)]
  have e7 : q * 2 ^ (i + 1) ||| 1 * 2 ^ i = (2 * q + 1) * 2 ^ i := by
   have h2 : q * 2 ^ (i + 1) = q * 2 * 2 ^ i := by rw [Nat.pow_succ, Nat.mul_assoc, Nat.mul_comm 2]
   have h3 : (2 * q + 1) * 2 ^ i = q * 2 * 2 ^ i + 2 ^ i := by rw [Nat.add_mul, Nat.one_mul, Nat.mul_comm 2 q]
   rw [Nat.or_comm, Nat.one_mul, zln (Nat.pow_lt_pow_right (by decide) (by omega)), h2, h3]
   omega
  rw [e6, orN (by omega) (by omega), e7, hdiv, hmod]
 ·have hcond : (((r / 9223372036854775808 : Nat) : Int) == 1 || decide (((r * 2 % 18446744073709551616 + x : Nat) : Int) >= (b : Int))) = false := by
   have h0' : r / 9223372036854775808 = 0 := by omega
   have : r * 2 % 18446744073709551616 = 2 * r := by omega
   rw [this, h0']
   have : decide (((2 * r + x : Nat) : Int) >= (b : Int)) = false := decide_eq_false (by omega)
   rw [this]; rfl
  rw [if_neg (by rw [hcond]; decide)]
  have e5 : r * 2 % 18446744073709551616 + x = 2 * r + x := by omega
  rw [e5]
  have hdiv : a / 2 ^ i / b = 2 * q := by
   rw [hA, hqr]
   have : 2 * (b * q + r) + x = (2 * r + x) + b * (2 * q) := by rw [<- Nat.mul_assoc, Nat.mul_comm b 2, Nat.mul_assoc, Nat.mul_add 2]; omega
   rw [this, Nat.add_mul_div_left _ _ h0, Nat.div_eq_of_lt (by omega), Nat.zero_add]
  have hmod : a / 2 ^ i % b = 2 * r + x := by
   rw [hA, hqr]
   have : 2 * (b * q + r) + x = (2 * r + x) + b * (2 * q) := by rw [<- Nat.mul_assoc, Nat.mul_comm b 2, Nat.mul_assoc, Nat.mul_add 2]; omega
   rw [this, Nat.add_mul_mod_self_left, Nat.mod_eq_of_lt (by omega)]
  have h2 : q * 2 ^ (i + 1) = 2 * q * 2 ^ i := by rw [Nat.pow_succ, Nat.mul_comm (2 ^ i) 2, <- Nat.mul_assoc, Nat.mul_comm q 2]
  rw [hdiv, hmod, h2]
theorem zkA {a b : Nat} (ha : a < 18446744073709551616) (hb : b < 18446744073709551616) (h0 : 0 < b) : ∀ (i n : Nat), i <= 64 -> i < n ->
  loop (qt a b) n (((a / 2 ^ i / b * 2 ^ i : Nat) : Int), ((a / 2 ^ i % b : Nat) : Int), (i : Int) - 1) = some (((a / b : Nat) : Int), ((a % b : Nat) : Int)) := by
 intro i
 induction i with
 | zero =>
  intro n _ hn
  obtain ⟨n, rfl⟩ : ∃ k, n = k + 1 := ⟨n - 1, by omega⟩
  rw [loop, qt]
  simp
 | succ i ih =>
  intro n hi hn
  obtain ⟨n, rfl⟩ : ∃ k, n = k + 1 := ⟨n - 1, by omega⟩
  rw [loop, show (((i + 1 : Nat) : Int) - 1) = (i : Int) by omega, zkz ha hb h0 (by omega)]
  exact ih n (by omega) (by omega)
theorem znF {a b fu : Nat} (ha : a < 18446744073709551616) (hb : b < 18446744073709551616) (h0 : 0 < b) (hf : 70 <= fu) : jN fu a b = some (((a / b : Nat) : Int), ((a % b : Nat) : Int)) := by
 have := zkA ha hb h0 64 fu (by omega) (by omega)
 have e : a / 2 ^ 64 = 0 := Nat.div_eq_of_lt ha
 rw [e, Nat.zero_div, Nat.zero_mul, Nat.zero_mod] at this
 rw [jN]
 show (loop (qt a b) fu (((0 : Nat) : Int), ((0 : Nat) : Int), ((64 : Nat) : Int) - 1)).bind _ = _
 rw [this]; rfl
theorem zm5 {b : Nat} (hb : b < 18446744073709551616) : ∀ (k n a i : Nat), a < 18446744073709551616 -> (a ≠ 0 -> a % 2 ^ (64 - k) = 0) -> k <= 64 -> k < n -> i <= b ->
  loop (qx 9 b) n ((a : Int), (i : Int)) = some ((a * 2 ^ (b - i) % 18446744073709551616 : Nat) : Int) := by
 intro k
 induction k with
 | zero =>
  intro n a i ha hz _ hn hi
  obtain ⟨n, rfl⟩ : ∃ q, n = q + 1 := ⟨n - 1, by omega⟩
  have h0 : a = 0 := by
   by_cases h : a = 0
   ·exact h
   ·have := hz h
    rw [Nat.mod_eq_of_lt (by simpa using ha)] at this
    exact this
  subst h0
  rw [loop, qx]
  simp
 | succ k ih =>
  intro n a i ha hz hk hn hi
  obtain ⟨n, rfl⟩ : ∃ q, n = q + 1 := ⟨n - 1, by omega⟩
  rw [loop, qx]
  by_cases h0 : a = 0
  ·subst h0; simp
  ·by_cases hib : i = b
   ·subst hib
    simp [Nat.mod_eq_of_lt ha]
   ·have hc : (decide ((i : Int) < (b : Int)) && decide ((a : Int) > 0)) = true := by
     rw [decide_eq_true (by omega), decide_eq_true (by omega)]; rfl
    simp only [hc, if_true]
    rw [if_pos (by decide), zkx ha ha]
    show loop (qx 9 b) n (_, _) = _
    rw [show (i : Int) + 1 = ((i + 1 : Nat) : Int) by push_cast; rfl, wuN (by omega), ih n _ (i + 1) (Nat.mod_lt _ (by decide)) ?_ (by omega) (by omega) (by omega)]
    ·congr 2
     rw [Nat.mod_mul_mod]
     congr 1
     have : b - i = (b - (i + 1)) + 1 := by omega
     rw [this, Nat.pow_succ, Nat.mul_comm (2 ^ _) 2, <- Nat.mul_assoc]
     congr 1; omega
    ·intro _
     have h1 := hz h0
     have hdiv : 2 ^ (64 - (k + 1)) ∣ a := Nat.dvd_of_mod_eq_zero h1
     have hd2 : 2 ^ (64 - k) ∣ a + a := by
      have e : 64 - k = (64 - (k + 1)) + 1 := by omega
      rw [e, Nat.pow_succ]
      obtain ⟨c, hc⟩ := hdiv
      exact ⟨c, by rw [hc]; rw [Nat.mul_assoc, Nat.mul_comm 2 c, <- Nat.mul_assoc]; omega⟩
     have hd3 : 2 ^ (64 - k) ∣ 18446744073709551616 := by
      have : (18446744073709551616 : Nat) = 2 ^ 64 := by decide
      rw [this]; exact Nat.pow_dvd_pow 2 (by omega)
     exact Nat.mod_eq_zero_of_dvd ((Nat.dvd_mod_iff hd3).2 hd2)
theorem zm6 {b : Nat} (hb : b < 18446744073709551616) : ∀ (k n a i : Nat), a < 18446744073709551616 -> a < 2 ^ k -> k < n -> i <= b ->
  loop (qx 10 b) n ((a : Int), (i : Int)) = some ((a / 2 ^ (b - i) : Nat) : Int) := by
 intro k
 induction k with
 | zero =>
  intro n a i _ ha hn hi
  obtain ⟨n, rfl⟩ : ∃ q, n = q + 1 := ⟨n - 1, by omega⟩
  have h0 : a = 0 := by simpa using ha
  subst h0
  rw [loop, qx]
  simp
 | succ k ih =>
  intro n a i ha64 ha hn hi
  obtain ⟨n, rfl⟩ : ∃ q, n = q + 1 := ⟨n - 1, by omega⟩
  rw [loop, qx]
  by_cases h0 : a = 0
  ·subst h0; simp
  ·by_cases hib : i = b
   ·subst hib; simp
   ·have hc : (decide ((i : Int) < (b : Int)) && decide ((a : Int) > 0)) = true := by
     rw [decide_eq_true (by omega), decide_eq_true (by omega)]; rfl
    simp only [hc, if_true]
    rw [if_neg (by decide)]
    have e2 : qf ((a : Int).tdiv 2) = ((a / 2 : Nat) : Int) := by
     rw [show (2 : Int) = ((2 : Nat) : Int) from rfl, zdG, wuN (by omega)]
    rw [e2, show (i : Int) + 1 = ((i + 1 : Nat) : Int) by push_cast; rfl, wuN (by omega), ih n _ (i + 1) (by omega) (by rw [Nat.pow_succ] at ha; omega) (by omega) (by omega)]
    have : b - i = (b - (i + 1)) + 1 := by omega
    rw [this, Nat.pow_succ, Nat.mul_comm (2 ^ _) 2, Nat.div_div_eq_div_mul]
theorem zlq {a b : Nat} (hb : 64 <= b) : a * 2 ^ b % 18446744073709551616 = 0 := by
 have : b = 64 + (b - 64) := by omega
 rw [this, Nat.pow_add, <- Nat.mul_assoc, Nat.mul_comm a, Nat.mul_assoc]
 exact Nat.mul_mod_right _ _
theorem zjk {a b : Nat} : zfS .u64 (a : Int) (b : Int) = ((a * 2 ^ b % 18446744073709551616 : Nat) : Int) := by
 rw [zdF, show (b : Int).toNat = b from rfl]
 by_cases h : b <= 64
 ·rw [Nat.min_eq_left h, Int.natCast_emod, Int.natCast_mul, Int.natCast_pow]; rfl
 ·have e : a * 2 ^ b % 18446744073709551616 = a * 2 ^ 64 % 18446744073709551616 := by rw [zlq (by omega), zlq (by omega)]
  rw [Nat.min_eq_right (by omega), e, Int.natCast_emod, Int.natCast_mul, Int.natCast_pow]; rfl
theorem zlr {a b : Nat} (ha : a < 18446744073709551616) : zbx .u64 (a : Int) (b : Int) = ((a / 2 ^ b : Nat) : Int) := by
 rw [zg2 (by omega), show (b : Int).toNat = b from rfl, show (a : Int).toNat = a from rfl]
 by_cases h : b <= 64
 ·rw [Nat.min_eq_left h]
 ·have h1 : a / 2 ^ 64 = 0 := Nat.div_eq_of_lt ha
  have h2 : a / 2 ^ b = 0 := Nat.div_eq_of_lt (Nat.lt_of_lt_of_le ha (Nat.pow_le_pow_right (show 0 < 2 by decide) (show 64 <= b by omega)))
  rw [Nat.min_eq_right (by omega), h1, h2]
theorem znG (x y : Int) : zhj .u64 x y = ((BitVec.ofInt 64 x &&& ~~~ BitVec.ofInt 64 y).toNat : Int) % 18446744073709551616 := rfl
theorem bvN {a : Nat} (ha : a < 18446744073709551616) : (BitVec.ofNat 64 a).toNat = a := by
 rw [BitVec.toNat_ofNat, Nat.mod_eq_of_lt ha]
theorem zpF {a : Nat} (ha : a < 18446744073709551616) : (~~~ BitVec.ofNat 64 a).toNat = 18446744073709551615 - a := by
 rw [BitVec.toNat_not, bvN ha]
theorem zql {x y : Nat} (hx : x < 18446744073709551616) (hy : y < 18446744073709551616) : x ||| y < 18446744073709551616 := Nat.or_lt_two_pow (n := 64) hx hy
theorem znH (a b : Nat) (ha : a < 18446744073709551616) (hb : b < 18446744073709551616) :
  18446744073709551615 - ((18446744073709551615 - a) ||| (18446744073709551615 - b)) = a &&& b /\ 18446744073709551615 - ((18446744073709551615 - a) &&& (18446744073709551615 - b)) = a ||| b := by
 constructor
 ·have h := congrArg BitVec.toNat (show ~~~(~~~ BitVec.ofNat 64 a ||| ~~~ BitVec.ofNat 64 b) = BitVec.ofNat 64 a &&& BitVec.ofNat 64 b by ext i; simp)
  rw [BitVec.toNat_not, BitVec.toNat_or, zpF ha, zpF hb, BitVec.toNat_and, bvN ha, bvN hb] at h
  exact h
 ·have h := congrArg BitVec.toNat (show ~~~(~~~ BitVec.ofNat 64 a &&& ~~~ BitVec.ofNat 64 b) = BitVec.ofNat 64 a ||| BitVec.ofNat 64 b by ext i; simp)
  rw [BitVec.toNat_not, BitVec.toNat_and, zpF ha, zpF hb, BitVec.toNat_or, bvN ha, bvN hb] at h
  exact h
theorem bvI {a : Nat} : BitVec.ofInt 64 (a : Int) = BitVec.ofNat 64 a := by
 apply BitVec.eq_of_toNat_eq
 simp [BitVec.toNat_ofInt]
theorem zn1 {a b : Nat} (ha : a < 18446744073709551616) (hb : b < 18446744073709551616) : bOr .u64 (zhj .u64 (a : Int) (b : Int)) (zhj .u64 (b : Int) (a : Int)) = zi8 .u64 (a : Int) (b : Int) := by
 have m (x : BitVec 64) : ((x.toNat : Int) % 18446744073709551616) = (x.toNat : Int) := by have := x.isLt; omega
 have o (x : BitVec 64) : BitVec.ofInt 64 (x.toNat : Int) = x := by rw [bvI, BitVec.ofNat_toNat, BitVec.setWidth_eq]
 rw [znG, znG, m, m, zjI, o, o, zgw, bvI, bvI]
 congr 2
 have : (BitVec.ofNat 64 a &&& ~~~ BitVec.ofNat 64 b ||| BitVec.ofNat 64 b &&& ~~~ BitVec.ofNat 64 a) = BitVec.ofNat 64 a ^^^ BitVec.ofNat 64 b := by
  ext i
  simp only [BitVec.getElem_or, BitVec.getElem_and, BitVec.getElem_not, BitVec.getElem_xor]
  cases (BitVec.ofNat 64 a)[i] <;> cases (BitVec.ofNat 64 b)[i] <;> rfl
 rw [this]
theorem zqm {x : Int} (h : u64 x) : ∃ n : Nat, x = n /\ n < 18446744073709551616 := ⟨x.toNat, by have := h.1; omega, by have := h.2; omega⟩
theorem zj4 {fu : Nat} (hf : 70 <= fu) {op x y : Int} (hx : u64 x) (hy : u64 y) (h1 : 1 <= op) (h2 : op <= 10) : zL fu op x y = some (ar op x y, true) := by
 obtain ⟨a, rfl, ha⟩ := zqm hx
 obtain ⟨b, rfl, hb⟩ := zqm hy
 have hop : op = 1 \/ op = 2 \/ op = 3 \/ op = 4 \/ op = 5 \/ op = 6 \/ op = 7 \/ op = 8 \/ op = 9 \/ op = 10 := by omega
 rcases hop with rfl | rfl | rfl | rfl | rfl | rfl | rfl | rfl | rfl | rfl
 ·simp only [zL, ar, Int.reduceBEq, if_true]
  rw [zkx ha hb, zbN, zbs]
  try rfl
 ·simp only [zL, ar, Int.reduceBEq, if_true, zfe, if_false]
  rw [znE ha hb, zbN]
  show some _ = some _
  congr 2; omega
 ·simp only [zL, ar, Int.reduceBEq, if_true, zfe, if_false]
  rw [zo8 ha hb, zbN, zbs]
  try rfl
 ·simp only [zL, ar, Int.reduceBEq, if_true, zfe, if_false, zbs]
  by_cases h0 : b = 0
  ·subst h0; rfl
  ·have hd : decide ((b : Int) > 0) = true := decide_eq_true (by omega)
   have hz : ((b : Int) == 0) = false := by simp; omega
   simp only [hd, if_true, znF ha hb (by omega) hf, hz, zdG, wuN (Nat.lt_of_le_of_lt (Nat.div_le_self a b) ha), zfe, if_false, zbs]
 ·simp only [zL, ar, Int.reduceBEq, if_true, zfe, if_false, zbs]
  by_cases h0 : b = 0
  ·subst h0; rfl
  ·have hd : decide ((b : Int) > 0) = true := decide_eq_true (by omega)
   have hz : ((b : Int) == 0) = false := by simp; omega
   simp only [hd, if_true, znF ha hb (by omega) hf, hz, zfe, if_false, zbs]
   rfl
 ·simp only [zL, ar, Int.reduceBEq, if_true, zfe, if_false, zbs]
  rw [zn0 ha, zn0 hb, zg1 (by omega) (by omega) (by omega) (by omega), zfE (by omega) (by omega) (by omega) (by omega)]
  have e := znH a b ha hb
  rw [show ((18446744073709551615 - a : Nat) : Int).toNat = 18446744073709551615 - a from rfl, show ((18446744073709551615 - b : Nat) : Int).toNat = 18446744073709551615 - b from rfl, zn0 (zql (by omega) (by omega)), e.1]; rfl
 ·simp only [zL, ar, Int.reduceBEq, if_true, zfe, if_false, zbs]
  rw [zn0 ha, zn0 hb, zfE (by omega) (by omega) (by omega) (by omega), zg1 (by omega) (by omega) (by omega) (by omega)]
  have e := znH a b ha hb
  rw [show ((18446744073709551615 - a : Nat) : Int).toNat = 18446744073709551615 - a from rfl, show ((18446744073709551615 - b : Nat) : Int).toNat = 18446744073709551615 - b from rfl, zn0 (Nat.lt_of_le_of_lt Nat.and_le_left (by omega)), e.2]; rfl
 ·simp only [zL, ar, Int.reduceBEq, if_true, zfe, if_false, zbs]
  rw [zn1 ha hb]
 ·simp only [zL, ar, Int.reduceBEq, if_true, zfe, if_false, zbs]
  have := zm5 hb 64 fu a 0 ha (by intro _; simp [Nat.mod_one]) (by omega) (by omega) (by omega)
  rw [show ((0 : Nat) : Int) = 0 from rfl] at this
  rw [this, zjk]; rfl
 ·simp only [zL, ar, Int.reduceBEq, if_true, zfe, if_false, zbs]
  have := zm6 hb 64 fu a 0 ha ha (by omega) (by omega)
  rw [show ((0 : Nat) : Int) = 0 from rfl] at this
  rw [this, zlr ha]; rfl
end Go.Proofs.YtbmknhpfkpmigaaGreatDoor
namespace Go.Proofs.YtbmknhpfkpmigaaGreatDoor
open Go.Sx
theorem zpJ {α : Type} {o : Option α} {x : α} {Q : α -> Prop} (h : OK o Q) (e : o = some x) : Q x := by
 obtain ⟨y, h1, h2⟩ := h
 rw [e] at h1
 cases h1
 exact h2
theorem zkh {α : Type} {o : Option α} {Q R : α -> Prop} (h : OK o Q) (k : OK o R) : OK o (fun x => Q x /\ R x) := by
 obtain ⟨y, h1, h2⟩ := h
 exact ⟨y, h1, h2, zpJ k h1⟩
def zh3 (k : Nat -> za) (regs : Nat -> Int) : Prop := ∀ r, r < 8 -> sem (k r) (regs r)
def zgZ (regs : Nat -> Int) : Prop := ∀ r, r < 8 -> u64 (regs r)
def zcu (x x' : Nat -> za) : Prop := ∀ r n, r < 8 -> u64 n -> sem (x r) n -> sem (x' r) n
theorem zcu.refl (x : Nat -> za) : zcu x x := fun _ _ _ _ h => h
theorem zcu.trans {x y z : Nat -> za} (h : zcu x y) (k : zcu y z) : zcu x z := fun r n hr hn hs => k r n hr hn (h r n hr hn hs)
theorem zcu.sems {x y : Nat -> za} {regs : Nat -> Int} (h : zcu x y) (hu : zgZ regs) (hs : zh3 x regs) : zh3 y regs := fun r hr => h r _ hr (hu r hr) (hs r hr)
theorem zdj {k : Nat -> za} {regs : Nat -> Int} (h : zh3 k regs) {t : Nat} {x : za} {v : Int} (hv : sem x v) : zh3 (jf k t x) (jf regs t v) := by
 intro r hr
 unfold jf
 split
 ·exact hv
 ·exact h r hr
theorem zot {m : zj} {j : zf} (h : JI m j) {p : Nat} (hp : p < m.Co.length) {k : Nat -> za} (hk : ∀ r, r < 8 -> WT m.Ms.length (k r)) :
  OK (zG j (p : Int) k) (fun j' => ∃ x', j'.ca[p]? = some x' /\ zcu k x' /\ ∀ x, j.any[p]? = some true -> j.ca[p]? = some x -> zcu x x') := by
 unfold zG
 obtain ⟨a, ha, ha2⟩ := vz (xs := j.any) (p := p) (by rw [h.lenA]; exact hp)
 obtain ⟨c, hc, hc2⟩ := vz (xs := j.ca) (p := p) (by rw [h.lenC]; exact hp)
 simp only [ha2, hc2, zbs, Int.toNat_natCast]
 refine OK.ite (fun hf => OK.ret ⟨k, ?_, zcu.refl _, fun x hx => ?_⟩) (fun hn => ?_)
 ·show (j.ca.set p k)[p]? = _
  rw [List.getElem?_set, if_pos rfl, if_pos (by rw [h.lenC]; exact hp)]
 ·have hf : a = false := by simpa using hf
  rw [ha, hf] at hx; cases hx
 refine OK.bind2 (OK.count (fun i s => JI m s /\ ∃ x', s.ca[p]? = some x' /\ (∀ r, i <= r -> x' r = c r) /\ ∀ r, r < i -> ∀ n, (sem (k r) n \/ sem (c r) n) -> sem (x' r) n) ⟨h, c, hc, fun _ _ => rfl, fun r hr => by omega⟩ (fun i s again hi hI kk => ?_) (fun s hI => hI)) (fun o ho => OK.ret ?_)
 ·unfold qT
  obtain ⟨hj, x', hx', h1, h2⟩ := hI
  obtain ⟨c', hc', hc2'⟩ := vz (xs := s.ca) (p := p) (by rw [hj.lenC]; exact hp)
  rw [hx'] at hc'; cases hc'
  have w1 := hj.wt p x' hx' i hi
  simp only [hc2', znM hi, zbs, zgP w1.span (hk i hi).span, Int.toNat_natCast]
  refine kk _ ⟨hj.put (zc0 (hj.wt p x' hx') (w1.join (hk i hi))) _ hj.lenA, jf x' i (zbq (x' i) (k i)), ?_, fun r hr => ?_, fun r hr n hn => ?_⟩
  ·show (s.ca.set p _)[p]? = _
   rw [List.getElem?_set, if_pos rfl, if_pos (by rw [hj.lenC]; exact hp)]
  ·unfold jf
   rw [if_neg (by omega)]
   exact h1 r (by omega)
  ·unfold jf
   by_cases e : r = i
   ·subst e
    rw [if_pos rfl]
    refine znd w1 (hk r hi) ?_
    rw [h1 r (Nat.le_refl _)]
    exact hn.symm
   ·rw [if_neg e]
    exact h2 r (by omega) n hn
 ·obtain ⟨_, x', hx', _, h2⟩ := ho
  refine ⟨x', hx', fun r n hr _ hs => h2 r hr n (.inl hs), fun x _ hx r n hr _ hs => ?_⟩
  rw [hc] at hx; cases hx
  exact h2 r hr n (.inr hs)
theorem znf {m : zj} {j : zf} (h : JI m j) (hg : ze7 m.Co) {p : Nat} (hp : p < m.Co.length) :
  OK (jk j (p : Int)) (fun j' => ∀ x, j.ca[p]? = some x -> ∃ x', j'.ca[p]? = some x' /\ zcu x x') := by
 unfold jk
 have upd : ∀ {c : Nat -> za} {t : Nat} {v : za}, (∀ n, u64 n -> sem v n) -> zcu c (jf c t v) := by
  intro c t v hv r n hr hn hs
  unfold jf
  split
  ·exact hv n hn
  ·exact hs
 refine OK.bind2 (OK.count (Q := fun j' => ∀ x, j.ca[p]? = some x -> ∃ x', j'.ca[p]? = some x' /\ zcu x x') (fun _ s => JI m ⟨j.Module, s, j.any, j.loops⟩ /\ ∀ x, j.ca[p]? = some x -> ∃ x', s[p]? = some x' /\ zcu x x') ⟨⟨h.mod, h.lenC, h.lenA, h.lps, h.wt⟩, fun x hx => ⟨x, hx, zcu.refl x⟩⟩ (fun i s again hi hI k => ?_) (fun s hI => hI.2)) (fun o ho => OK.ret ho)
 unfold xJ
 refine OK.bind (OK.getN hi (fun l hl => OK.ite (fun _ => k _ hI) (fun hh => ?_)))
 rw [h.lps] at hl
 obtain ⟨a, ia, ha, hia, hop, rfl⟩ := zei.1 (zmg hl)
 have hlp := hg.fine.loop hia hop
 have hn := hg.n64
 have e1 : (qk ia a).Head = (((a : Int) - ia.D).toNat : Int) := by show (a : Int) - ia.D = _; omega
 have e2 : w64 ((qk ia a).At + 1) = ((a + 1 : Nat) : Int) := by show w64 ((a : Int) + 1) = _; rw [zO (by omega) (by omega)]; simp
 rw [e1, e2, h.mod, zhz (by omega) (by omega)]
 simp only [zbs]
 refine OK.bind2 (OK.count (fun _ s => JI m ⟨j.Module, s, j.any, j.loops⟩ /\ ∀ x, j.ca[p]? = some x -> ∃ x', s[p]? = some x' /\ zcu x x') hI (fun i s again hi hI k => ?_) (fun s hI => hI)) (fun o ho => k _ ho)
 unfold xe
 refine OK.bind (OK.getN hi (fun x hx => ?_))
 have hr : OK (vk x) (fun r => r.2 = true -> 0 <= r.1 /\ r.1 < 8) := by
  rcases zft (qe x) with e | e
  ·exact zgR e
  ·exact zge e
 refine OK.bind2 hr (fun r hr => OK.ite (fun _ => k _ hI) (fun hw => ?_))
 have hr := hr (by simpa using hw)
 obtain ⟨c', hc', hc2'⟩ := vz (xs := s) (p := p) (by rw [show s.length = m.Co.length from hI.1.lenC]; exact hp)
 simp only [hc2', zgi hr.1 hr.2, zbs, zbu, zaD, Int.toNat_natCast]
 have go : ∀ {v : za}, WT m.Ms.length v -> (∀ n, u64 n -> sem v n) -> JI m ⟨j.Module, s.set p (jf c' r.1.toNat v), j.any, j.loops⟩ /\ ∀ x, j.ca[p]? = some x -> ∃ x', (s.set p (jf c' r.1.toNat v))[p]? = some x' /\ zcu x x' := by
  intro v hv hs
  refine ⟨hI.1.put (zc0 (hI.1.wt p c' hc') hv) _ hI.1.lenA, fun x hx => ?_⟩
  obtain ⟨x', hx', hw⟩ := hI.2 x hx
  rw [hc'] at hx'; cases hx'
  refine ⟨_, by rw [List.getElem?_set, if_pos rfl, if_pos (by rw [show s.length = m.Co.length from hI.1.lenC]; exact hp)], hw.trans (upd hs)⟩
 exact OK.ite (fun _ => k _ (go (WT.num SW.full) (fun n hn => zeo (zdD hn)))) (fun _ => k _ (go WT.zero (fun n _ => zh2 n)))
structure zdV (j j' : zf) : Prop where
 grow : ∀ (q : Nat) (x : Nat -> za), j.any[q]? = some true -> j.ca[q]? = some x -> ∃ x', j'.ca[q]? = some x' /\ zcu x x'
 keep : ∀ q : Nat, j.any[q]? = some true -> j'.any[q]? = some true
theorem zdV.refl (j : zf) : zdV j j := ⟨fun q x _ hx => ⟨x, hx, zcu.refl x⟩, fun _ h => h⟩
theorem zdV.trans {a b c : zf} (h : zdV a b) (k : zdV b c) : zdV a c :=
 ⟨fun q x ha hx => by
  obtain ⟨x', h1, h2⟩ := h.grow q x ha hx
  obtain ⟨x'', h3, h4⟩ := k.grow q x' (h.keep q ha) h1
  exact ⟨x'', h3, h2.trans h4⟩, fun q ha => k.keep q (h.keep q ha)⟩
theorem zng {m : zj} {j : zf} (h : JI m j) {p : Nat} (hp : p < m.Co.length) {k : Nat -> za} (hk : ∀ r, r < 8 -> WT m.Ms.length (k r)) :
  OK (zG j (p : Int) k) (fun j' => JI m j' /\ j'.any = j.any.set p true /\ (∀ q, q ≠ p -> j'.ca[q]? = j.ca[q]?) /\ zdV j j' /\ j'.any[p]? = some true /\ ∃ x', j'.ca[p]? = some x' /\ zcu k x') := by
 refine (zkh (zlK h hp hk) (zot h hp hk)).mono (fun j' hj' => ?_)
 obtain ⟨⟨h1, h2, h3⟩, x', h4, h5, h6⟩ := hj'
 have hat : j'.any[p]? = some true := by
  rw [h2, List.getElem?_set, if_pos rfl, if_pos (by rw [h.lenA]; exact hp)]
 refine ⟨h1, h2, h3, ⟨fun q x ha hx => ?_, fun q ha => ?_⟩, hat, x', h4, h5⟩
 ·by_cases e : q = p
  ·subst e; exact ⟨x', h4, h6 x ha hx⟩
  ·exact ⟨x, by rw [h3 q e]; exact hx, zcu.refl x⟩
 ·by_cases e : q = p
  ·subst e; exact hat
  ·rw [h2, zbY e]; exact ha
def zg0 (i : zc) (regs : Nat -> Int) : Int := if i.B == 8 then qf i.Imm else regs i.B.toNat
inductive Stp (i : zc) (p : Nat) (regs : Nat -> Int) : Nat -> (Nat -> Int) -> Prop
 | set : i.Op = 0 -> Stp i p regs (p + 1) (jf regs i.D.toNat (zg0 i regs))
 | arith : 1 <= i.Op -> i.Op <= 10 -> Stp i p regs (p + 1) (jf regs i.D.toNat (ar i.Op (regs i.A.toNat) (zg0 i regs)))
 | any (v : Int) : i.Op = 11 \/ i.Op = 13 -> u64 v -> Stp i p regs (p + 1) (jf regs i.D.toNat v)
 | store : i.Op = 12 -> Stp i p regs (p + 1) regs
 | map : i.Op = 14 -> Stp i p regs (p + 1) (jf regs i.D.toNat i.Imm)
 | jump (q : Nat) : i.Op = 15 -> (q : Int) = p + (i.D + 1) -> Stp i p regs q regs
 | yes (q : Nat) : 16 <= i.Op -> i.Op <= 19 -> hl i.Op (regs i.A.toNat) (zg0 i regs) = true -> (q : Int) = p + (i.D + 1) -> Stp i p regs q regs
 | no : 16 <= i.Op -> i.Op <= 19 -> hl i.Op (regs i.A.toNat) (zg0 i regs) = false -> Stp i p regs (p + 1) regs
 | back (q : Nat) : i.Op = 20 -> (q : Int) = p - i.D -> Stp i p regs q regs
 | on : i.Op = 20 -> Stp i p regs (p + 1) regs
 | call (v : Int) : i.Op = 21 -> (∀ s, xZ i.Imm = some (s, true) -> 0 <= v /\ v <= s.most) -> Stp i p regs (p + 1) (jf regs 0 v)
structure zhC (m : zj) (i : zc) (k k' : Nat -> za) : Prop where
 same : 15 <= i.Op -> i.Op <= 20 -> k' = k
 plain : ∀ (p : Nat) regs q regs', ¬ (15 <= i.Op /\ i.Op <= 20) -> zgZ regs -> zh3 k regs -> Stp i p regs q regs' -> zh3 k' regs'
 nums : 16 <= i.Op -> i.Op <= 19 -> (k i.A.toNat).Ki = 1 /\ (zfz i k).Ki = 1
 handle : i.Op = 21 -> i.Imm <= 4 -> (k 1).Ki = 2
theorem zl1 (l : List za) : OK (xG l) (fun r => r = 0 -> ∀ x ∈ l, x.Ki = 1) := by
 unfold xG
 refine OK.bind2 (OK.count (Q := fun o => match o with | .inl _ => ∀ x ∈ l, x.Ki = 1 | .inr r => r ≠ 0) (fun i _ => ∀ (q : Nat) (x : za), q < i -> l[q]? = some x -> x.Ki = 1) (fun q x h => by omega) (fun i s again hi hI k => ?_) (fun _ hI => ?_)) (fun o ho => ?_)
 ·unfold zU
  refine OK.bind (OK.getN hi (fun x hx => OK.ite (fun h => OK.ret (by simp)) (fun h => k _ (fun q y hq hy => ?_))))
  by_cases hqi : q < i
  ·exact hI q y hqi hy
  ·obtain rfl : q = i := by omega
   rw [hx] at hy; cases hy
   simpa using h
 ·intro x hx
  obtain ⟨q, hq⟩ := List.mem_iff_getElem?.1 hx
  exact hI q x (zes.1 hq).1 hq
 ·cases o with
  | inl _ => exact OK.ret (fun _ => ho)
  | inr r => exact OK.ret (fun h => absurd h ho)
theorem zl2 (k : Fin 7) {l : List za} (ha : qO 5000 ((k : Nat) : Int) = some l) (ys : List za) : OK (vm 5000 ((k : Nat) : Int) ys) (fun r => r = 0 -> ∀ (q : Nat) (x y : za), l[q]? = some x -> ys[q]? = some y -> x.Ki = y.Ki) := by
 obtain ⟨s, h1, _⟩ := zgT k
 unfold vm
 simp only [h1, ha, zbs]
 refine OK.ite (fun h => by cases h) (fun _ => OK.ite (fun _ => OK.ret (by simp)) (fun hl => ?_))
 have hl : l.length = ys.length := by
  have : (l.length : Int) = ys.length := by simpa using hl
  omega
 refine OK.bind2 (OK.count (Q := fun o => match o with | .inl _ => ∀ (q : Nat) (x y : za), l[q]? = some x -> ys[q]? = some y -> x.Ki = y.Ki | .inr r => r ≠ 0) (fun i _ => ∀ (q : Nat) (x y : za), q < i -> l[q]? = some x -> ys[q]? = some y -> x.Ki = y.Ki) (fun q x y h => by omega) (fun i s again hi hI kk => ?_) (fun _ hI => ?_)) (fun o ho => ?_)
 ·unfold vo
  refine OK.bind (OK.getN hi (fun x hx => OK.bind (OK.getN (by omega) (fun y hy => ?_))))
  refine OK.ite (fun _ => OK.ret (by simp)) (fun hk => OK.bind2 (R := fun _ => True) ?_ (fun o _ => OK.ite (fun _ => OK.ret (by simp)) (fun _ => kk _ (fun q a b hq ha hb => ?_))))
  ·exact OK.ite (fun _ => OK.bind2 (zfy _ _) (fun x _ => OK.ret trivial)) (fun _ => OK.ret trivial)
  ·by_cases hqi : q < i
   ·exact hI q a b hqi ha hb
   ·obtain rfl : q = i := by omega
    rw [hx] at ha; rw [hy] at hb; cases ha; cases hb
    simpa using hk
 ·intro q x y hx hy
  exact hI q x y (zes.1 hx).1 hx hy
 ·cases o with
  | inl _ => exact OK.ret (fun _ => ho)
  | inr r => exact OK.ret (fun h => absurd h ho)
theorem zkP : ∀ k : Fin 7, (k : Nat) <= 4 -> ∃ l x, qO 5000 ((k : Nat) : Int) = some l /\ l[0]? = some x /\ x.Ki = 2 := by
 intro k hk
 have h : ∀ k : Fin 7, (k : Nat) <= 4 -> (qO 5000 ((k : Nat) : Int)).bind (fun l => (l[0]?).map (·.Ki)) = some 2 := by decide +kernel
 obtain ⟨l, h1, h2⟩ := Option.bind_eq_some_iff.1 (h k hk)
 obtain ⟨x, h3, h4⟩ := Option.map_eq_some_iff.1 h2
 exact ⟨l, x, h1, h3, h4⟩
theorem zpo {m : zj} {j : zf} (h : JI m j) (hg : ze7 m.Co) {p : Nat} (hp : p < m.Co.length) :
  OK (qG 5000 j (p : Int)) (fun r => r.2 = 0 -> ∀ i k, m.Co[p]? = some i -> j.ca[p]? = some k -> zhC m i k r.1) := by
 have hn := hg.n64
 obtain ⟨i, hi, hi2⟩ := vz hp
 obtain ⟨k, hk1, hk2⟩ := vz (xs := j.ca) (p := p) (by rw [h.lenC]; exact hp)
 have hk := h.wt p k hk1
 have hr := hg.fine.right hi
 have hop := zbr hr
 have hA := zbH hr
 have fin : ∀ {r : (Nat -> za) × Int}, (r.2 = 0 -> zhC m i k r.1) -> r.2 = 0 -> ∀ i' k', m.Co[p]? = some i' -> j.ca[p]? = some k' -> zhC m i' k' r.1 := by
  intro r hl h0 i' k' hi' hk'
  rw [hi] at hi'; rw [hk1] at hk'; cases hi'; cases hk'
  exact hl h0
 unfold qG
 rw [h.mod, hi2, hk2]
 simp only [zbs, zgS hr]
 refine OK.bind2 (R := fun t => (i.Op <= 12 \/ (16 <= i.Op /\ i.Op <= 19)) -> t = zfz i k) ?_ (fun s hs => ?_)
 ·refine OK.ite (fun hsrc => ?_) (fun hns => OK.ret (fun h => ?_))
  ·have hb := jU hr (by simp at hsrc; omega)
   rw [ze1 hb]
   exact OK.ret (fun _ => rfl)
  ·simp at hns; omega
 rw [zgi hA.1 hA.2]
 simp only [zbs, zbu, zaD]
 have hD : ¬ (15 <= i.Op /\ i.Op <= 20) -> ain 8 i.D = some i.D.toNat := fun h => zgi (zdC hr h).1 (zdC hr h).2
 have mk : ∀ {k' : Nat -> za}, ¬ (15 <= i.Op /\ i.Op <= 20) -> i.Op ≠ 21 -> (∀ (p : Nat) regs q regs', zgZ regs -> zh3 k regs -> Stp i p regs q regs' -> zh3 k' regs') -> zhC m i k k' :=
  fun h1 h2 h3 => ⟨fun a b => absurd ⟨a, b⟩ h1, fun p regs q regs' _ hu hs hst => h3 p regs q regs' hu hs hst, fun a b => absurd ⟨by omega, by omega⟩ h1, fun a => absurd a h2⟩
 refine OK.ite (fun e => ?_) (fun e0 => ?_)
 ·have e : i.Op = 0 := by simpa using e
  refine OK.ite (fun _ => OK.ret (fin (fun h => by simp at h))) (fun _ => ?_)
  rw [hD (by omega)]
  refine OK.ret (fin (fun _ => mk (by omega) (by omega) (fun p regs q regs' hu hsm hst => ?_)))
  rw [hs (.inl (by omega))]
  cases hst with
  | set _ => exact zdj hsm (zjE (jU hr (.inl (by omega))) hsm)
  | _ => omega
 refine OK.ite (fun e => ?_) (fun e11 => ?_)
 ·have e : i.Op = 11 := by simpa using e
  rw [hD (by omega)]
  simp only [zbs]
  refine OK.bind2 (zcY _) (fun a _ => OK.bind2 (zhW _) (fun b _ => OK.bind2 (zgu _) (fun c _ => OK.ret (fin (fun _ => mk (by omega) (by omega) (fun p regs q regs' hu hsm hst => ?_))))))
  cases hst with
  | any v _ hv => exact zdj hsm (zeo (zdD hv))
  | _ => omega
 refine OK.ite (fun e => ?_) (fun e12 => ?_)
 ·have e : i.Op = 12 := by simpa using e
  refine OK.bind2 (zcY _) (fun a _ => OK.bind2 (zhW _) (fun b _ => OK.bind2 (zgu _) (fun c _ => OK.ret (fin (fun _ => mk (by omega) (by omega) (fun p regs q regs' hu hsm hst => ?_))))))
  cases hst with
  | store _ => exact hsm
  | _ => omega
 refine OK.ite (fun e => ?_) (fun e13 => ?_)
 ·have e : i.Op = 13 := by simpa using e
  rw [hD (by omega)]
  refine OK.ret (fin (fun _ => mk (by omega) (by omega) (fun p regs q regs' hu hsm hst => ?_)))
  cases hst with
  | any v _ hv => exact zdj hsm (zeo (zdD hv))
  | _ => omega
 refine OK.ite (fun e => ?_) (fun e14 => ?_)
 ·have e : i.Op = 14 := by simpa using e
  rw [hD (by omega)]
  simp only [zbs]
  refine OK.ite (fun _ => OK.ret (fin (fun h => by simp at h))) (fun hlt => OK.ret (fin (fun _ => mk (by omega) (by omega) (fun p regs q regs' hu hsm hst => ?_))))
  cases hst with
  | map _ => exact zdj hsm ⟨fun e => by simp at e, fun _ => rfl⟩
  | _ => omega
 refine OK.ite (fun e => ?_) (fun e15 => ?_)
 ·have e : i.Op = 15 := by simpa using e
  exact OK.ret (fin (fun _ => ⟨fun _ _ => rfl, fun p regs q regs' hne => absurd ⟨by omega, by omega⟩ hne, fun a => by omega, fun a => by omega⟩))
 refine OK.bind2 (R := fun o => o = inB i.Op 16 19) ?_ (fun o ho => ?_)
 ·refine OK.ite (fun e => OK.ret ?_) (fun e => OK.ite (fun e => OK.ret ?_) (fun e2 => OK.ite (fun e => OK.ret ?_) (fun e3 => OK.ret ?_)))
  ·have e : i.Op = 16 := by simpa using e
   simp [e, inB]
  ·have e : i.Op = 17 := by simpa using e
   simp [e, inB]
  ·have e : i.Op = 18 := by simpa using e
   simp [e, inB]
  ·simp only [beq_eq_false_iff_ne, ne_eq] at e e2 e3
   rcases zft (i.Op == 19) with e4 | e4
   ·have e5 : i.Op = 19 := by simpa using e4
    simp [e5, inB]
   ·have e5 : i.Op ≠ 19 := by simpa using e4
    rw [e4, Eq.comm, inB, Bool.and_eq_false_iff]
    simp only [decide_eq_false_iff_not]
    omega
 refine OK.ite (fun e => ?_) (fun e16 => ?_)
 ·rw [ho] at e
  have e : 16 <= i.Op /\ i.Op <= 19 := by simpa [inB] using e
  refine OK.bind2 (zl1 _) (fun a ha => OK.ret (fin (fun h0 => ⟨fun _ _ => rfl, fun p regs q regs' hne => absurd ⟨by omega, by omega⟩ hne, fun _ _ => ?_, fun a => by omega⟩)))
  have := ha h0
  exact ⟨this _ (by simp), by rw [<- hs (.inr e)]; exact this _ (by simp)⟩
 refine OK.ite (fun e => ?_) (fun e20 => ?_)
 ·have e : i.Op = 20 := by simpa using e
  have lv : zhC m i k k := ⟨fun _ _ => rfl, fun p regs q regs' hne => absurd ⟨by omega, by omega⟩ hne, fun a => by omega, fun a => by omega⟩
  refine OK.bind2 (zcY _) (fun a _ => OK.ite (fun ha => OK.ret (fin (fun _ => lv))) (fun _ => ?_))
  have hlp := hg.fine.loop hi e
  have ew : w64 ((p : Int) - i.D) = (((p : Int) - i.D).toNat : Int) := by rw [zO (by omega) (by omega)]; omega
  obtain ⟨hd, hd1, hd2⟩ := vz (xs := j.ca) (p := ((p : Int) - i.D).toNat) (by rw [h.lenC]; omega)
  refine OK.bind2 (OK.count (Q := fun o => match o with | .inl _ => True | .inr r => r.2 ≠ 0) (fun t _ => True) trivial (fun t s again ht hI kk => ?_) (fun _ hI => trivial)) (fun o ho => ?_)
  ·unfold qg
   simp only [znM ht, ew, hd2, zbs]
   exact OK.bind2 (zlJ _ _) (fun r hr => OK.ite (fun _ => OK.ret (by simp)) (fun hn => kk _ trivial))
  ·cases o with
   | inl _ => exact OK.ret (fin (fun _ => lv))
   | inr r => exact OK.ret (fun h0 => absurd h0 ho)
 refine OK.ite (fun e => ?_) (fun e21 => ?_)
 ·have e : i.Op = 21 := by simpa using e
  have him := zbX hr e
  obtain ⟨n, hn⟩ := zof him.1
  rw [hn]
  obtain ⟨l, hl, hl3⟩ := zhY ⟨n, by omega⟩
  obtain ⟨sg, hs1, hs2, hs3⟩ := zgT ⟨n, by omega⟩
  have hl' : qO 5000 (n : Int) = some l := hl
  have hs1' : xZ (n : Int) = some (sg, true) := hs1
  simp only [hl', zbs]
  have ec : w64 (1 + (l.length : Int)) = ((1 + l.length : Nat) : Int) := by rw [zO (by omega) (by omega)]; simp
  have hcut : cut (xE 8 k) 1 (w64 (1 + (l.length : Int))) = some (((xE 8 k).take (1 + l.length)).drop 1) := by
   rw [ec]
   exact zhz (lo := 1) (by omega) (by rw [zaI]; omega)
  rw [hcut]
  simp only [zbs]
  refine OK.bind2 (zl2 ⟨n, by omega⟩ hl _) (fun r hrk => ?_)
  unfold zaB
  simp only [hs1', zbs]
  refine OK.ret (fin (fun h0 => ⟨fun a b => by omega, fun p regs q regs' _ hu hsm hst => ?_, fun a b => by omega, fun _ h4 => ?_⟩))
  ·cases hst with
   | call v _ hv =>
    have := hv sg (by rw [hn]; exact hs1')
    exact zdj hsm (zeo ⟨this.1, this.2⟩)
   | _ => omega
  ·obtain ⟨l2, x, h1, h2, h3⟩ := zkP ⟨n, by omega⟩ (by show n <= 4; omega)
   have h1' : qO 5000 (n : Int) = some l2 := h1
   rw [hl'] at h1'; cases h1'
   have hll := (zes.1 h2).1
   have hy : (((xE 8 k).take (1 + l.length)).drop 1)[0]? = some (k 1) := by
    rw [List.getElem?_drop, List.getElem?_take, if_pos (by omega)]
    rfl
   rw [<- hrk h0 0 x (k 1) h2 hy]
   exact h3
 refine OK.ite (fun e => ?_) (fun e22 => ?_)
 ·have e : i.Op = 22 := by simpa using e
  refine OK.bind2 (zcY _) (fun a _ => OK.ret (fin (fun _ => mk (by omega) (by omega) (fun p regs q regs' hu hsm hst => ?_))))
  cases hst <;> omega
 simp only [beq_eq_false_iff_ne, ne_eq] at e0 e11 e12 e13 e14 e15 e20 e21 e22
 have e16' : ¬ (16 <= i.Op /\ i.Op <= 19) := by
  rw [ho] at e16
  intro h
  simp [inB, h] at e16
 have o1 : 1 <= i.Op := by omega
 have o2 : i.Op <= 10 := by omega
 have hsb := jU hr (.inl (by omega))
 have hse := hs (.inl (by omega))
 have hws : WT m.Ms.length s := by rw [hse]; exact zcZ hsb hk
 obtain ⟨d, hd1, hd2⟩ := zpq (op := i.Op) (hk i.A.toNat (by omega)).span hws.span
 rw [hd1]
 simp only [zbs]
 rw [hD (by omega)]
 simp only [zbs]
 refine OK.bind2 (zl1 _) (fun a ha => OK.ret (fin (fun h0 => mk (by omega) (by omega) (fun p regs q regs' hu hsm hst => ?_))))
 have hkinds := ha h0
 cases hst with
 | arith _ _ =>
  refine zdj hsm (zeo ?_)
  have hx := (hsm i.A.toNat (by omega)).1 (hkinds _ (by simp))
  have hy := (zjE hsb hsm).1 (by rw [<- hse]; exact hkinds _ (by simp))
  rw [<- hse] at hy
  have hdi := zpJ (zqa (hk i.A.toNat (by omega)).span hws.span hx hy o1 o2) hd1
  exact hdi
 | _ => omega
end Go.Proofs.YtbmknhpfkpmigaaGreatDoor

import Derived.Test.YtgmmfjpmahcocaaGreatDoorKCheck
set_option linter.unusedVariables false
set_option linter.unusedSimpArgs false
namespace Go.Proofs.YtgmmfjpmahcocaaGreatDoor
open Go.Sx
def SW (s : zd) : Prop := 0 <= s.Lo /\ s.Lo <= s.Hi /\ s.Hi < 18446744073709551616
theorem zby (x : Int) : zp x = x % 18446744073709551616 := rfl
theorem jQ {x : Int} (h0 : 0 <= x) (h1 : x < 18446744073709551616) : zp x = x := by rw [zby]; omega
theorem xO (x : Int) : 0 <= zp x /\ zp x < 18446744073709551616 := by rw [zby]; omega
theorem zjo (x y : Int) : xP .u64 x y = ((BitVec.ofInt 64 x &&& BitVec.ofInt 64 y).toNat : Int) % 18446744073709551616 := rfl
theorem ziT (x y : Int) : bOr .u64 x y = ((BitVec.ofInt 64 x ||| BitVec.ofInt 64 y).toNat : Int) % 18446744073709551616 := rfl
theorem zgb (x y : Int) : zgg .u64 x y = ((BitVec.ofInt 64 x ^^^ BitVec.ofInt 64 y).toNat : Int) % 18446744073709551616 := rfl
theorem zdg (x y : Int) : zbO .u64 x y = (x * 2 ^ (min y.toNat 64)) % 18446744073709551616 := rfl
theorem zlz (x y : Int) : qQ .u64 x y = x.fdiv (2 ^ (min y.toNat 64)) := rfl
theorem zfk {x : Int} (h0 : 0 <= x) (h1 : x < 18446744073709551616) : (BitVec.ofInt 64 x).toNat = x.toNat := by
 rw [BitVec.toNat_ofInt]
 omega
theorem zfl {x y : Int} (x0 : 0 <= x) (x1 : x < 18446744073709551616) (y0 : 0 <= y) (y1 : y < 18446744073709551616) : xP .u64 x y = ((x.toNat &&& y.toNat : Nat) : Int) := by
 rw [zjo, BitVec.toNat_and, zfk x0 x1, zfk y0 y1]
 have : x.toNat &&& y.toNat <= x.toNat := Nat.and_le_left
 omega
theorem zgx {x y : Int} (x0 : 0 <= x) (x1 : x < 18446744073709551616) (y0 : 0 <= y) (y1 : y < 18446744073709551616) : bOr .u64 x y = ((x.toNat ||| y.toNat : Nat) : Int) := by
 have h : (BitVec.ofInt 64 x ||| BitVec.ofInt 64 y).toNat < 2 ^ 64 := BitVec.isLt _
 rw [ziT, Int.emod_eq_of_lt (by omega) (by omega), BitVec.toNat_or, zfk x0 x1, zfk y0 y1]
theorem zlA {x y : Int} (x0 : 0 <= x) (x1 : x < 18446744073709551616) (y0 : 0 <= y) (y1 : y < 18446744073709551616) : zgg .u64 x y = ((x.toNat ^^^ y.toNat : Nat) : Int) := by
 have h : (BitVec.ofInt 64 x ^^^ BitVec.ofInt 64 y).toNat < 2 ^ 64 := BitVec.isLt _
 rw [zgb, Int.emod_eq_of_lt (by omega) (by omega), BitVec.toNat_xor, zfk x0 x1, zfk y0 y1]
theorem ziU {x y : Int} (x0 : 0 <= x) (x1 : x < 18446744073709551616) (y0 : 0 <= y) (y1 : y < 18446744073709551616) : x <= bOr .u64 x y /\ y <= bOr .u64 x y /\ bOr .u64 x y < 18446744073709551616 := by
 have h : (BitVec.ofInt 64 x ||| BitVec.ofInt 64 y).toNat < 2 ^ 64 := BitVec.isLt _
 rw [BitVec.toNat_or, zfk x0 x1, zfk y0 y1] at h
 rw [zgx x0 x1 y0 y1]
 have h1 : x.toNat <= x.toNat ||| y.toNat := Nat.left_le_or
 have h2 : y.toNat <= x.toNat ||| y.toNat := Nat.right_le_or
 omega
theorem ziV (x y : Int) : 0 <= xP .u64 x y /\ xP .u64 x y < 18446744073709551616 := by rw [zjo]; omega
theorem zjp (x y : Int) : 0 <= bOr .u64 x y /\ bOr .u64 x y < 18446744073709551616 := by rw [ziT]; omega
theorem zkG (x y : Int) : 0 <= zgg .u64 x y /\ zgg .u64 x y < 18446744073709551616 := by rw [zgb]; omega
theorem ziW (x y : Int) : 0 <= zbO .u64 x y /\ zbO .u64 x y < 18446744073709551616 := by rw [zdg]; omega
theorem zgy {x y : Int} (x0 : 0 <= x) : qQ .u64 x y = ((x.toNat / 2 ^ (min y.toNat 64) : Nat) : Int) := by
 rw [zlz]
 obtain ⟨a, rfl⟩ := zof x0
 rw [Int.fdiv_eq_ediv_of_nonneg _ (by exact_mod_cast Nat.zero_le _)]
 simp
theorem ziX {x y : Int} (x0 : 0 <= x) (x1 : x < 18446744073709551616) : 0 <= qQ .u64 x y /\ qQ .u64 x y <= x := by
 rw [zgy x0]
 have := Nat.div_le_self x.toNat (2 ^ (min y.toNat 64))
 generalize x.toNat / 2 ^ (min y.toNat 64) = q at *
 omega
theorem zhs {x y s t : Int} (x0 : 0 <= x) (xy : x <= y) (ts : t <= s) : qQ .u64 x s <= qQ .u64 y t := by
 rw [zgy x0, zgy (by omega)]
 have h1 : x.toNat / 2 ^ (min s.toNat 64) <= y.toNat / 2 ^ (min s.toNat 64) := Nat.div_le_div_right (by omega)
 have h2 : y.toNat / 2 ^ (min s.toNat 64) <= y.toNat / 2 ^ (min t.toNat 64) := Nat.div_le_div_left (Nat.pow_le_pow_right (by omega) (by omega)) (Nat.pow_pos (by omega))
 exact_mod_cast Nat.le_trans h1 h2
theorem zbm {y : Int} (h : 0 <= y) : nn y = some () := by unfold nn; rw [if_neg (by omega)]
theorem zb8 {y : Int} (h : y ≠ 0) : nz y = some () := by unfold nz; rw [if_neg h]
def zgz : ByteArray := ⟨[0, 1, 2, 2, 3, 3, 3, 3, 4, 4, 4, 4, 4, 4, 4, 4, 5, 5, 5, 5, 5, 5, 5, 5, 5, 5, 5, 5, 5, 5, 5, 5, 6, 6, 6, 6, 6, 6, 6, 6, 6, 6, 6, 6, 6, 6, 6, 6, 6, 6, 6, 6, 6, 6, 6, 6, 6, 6, 6, 6, 6, 6, 6, 6, 7, 7, 7, 7, 7, 7, 7, 7, 7, 7, 7, 7, 7, 7, 7, 7, 7, 7, 7, 7, 7, 7, 7, 7, 7, 7, 7, 7, 7, 7, 7, 7, 7, 7, 7, 7, 7, 7, 7, 7, 7, 7, 7, 7, 7, 7, 7, 7, 7, 7, 7, 7, 7, 7, 7, 7, 7, 7, 7, 7, 7, 7, 7, 7, 8, 8, 8, 8, 8, 8, 8, 8, 8, 8, 8, 8, 8, 8, 8, 8, 8, 8, 8, 8, 8, 8, 8, 8, 8, 8, 8, 8, 8, 8, 8, 8, 8, 8, 8, 8, 8, 8, 8, 8, 8, 8, 8, 8, 8, 8, 8, 8, 8, 8, 8, 8, 8, 8, 8, 8, 8, 8, 8, 8, 8, 8, 8, 8, 8, 8, 8, 8, 8, 8, 8, 8, 8, 8, 8, 8, 8, 8, 8, 8, 8, 8, 8, 8, 8, 8, 8, 8, 8, 8, 8, 8, 8, 8, 8, 8, 8, 8, 8, 8, 8, 8, 8, 8, 8, 8, 8, 8, 8, 8, 8, 8, 8, 8, 8, 8, 8, 8, 8, 8, 8, 8, 8, 8, 8, 8, 8, 8].toArray⟩
theorem zoj : ∀ c : Nat, c < 256 -> ∃ k : Nat, k <= 8 /\ c < 2 ^ k /\ (c = 0 -> k = 0) /\ (0 < c -> 2 ^ (k - 1) <= c) /\ zhA zgz (c : Int) = some (k : Int) := by
 have h : ∀ c : Fin 256, ∃ k : Fin 9, (c : Nat) < 2 ^ (k : Nat) /\ ((c : Nat) = 0 -> (k : Nat) = 0) /\ (0 < (c : Nat) -> 2 ^ ((k : Nat) - 1) <= (c : Nat)) /\ zhA zgz ((c : Nat) : Int) = some ((k : Nat) : Int) := by decide +kernel
 intro c hc
 obtain ⟨k, h1, h2, h3, h4⟩ := h ⟨c, hc⟩
 exact ⟨k, by omega, h1, h2, h3, h4⟩
theorem zgA {n : Nat} (s : Nat) (h : s <= 64) : qQ .u64 (n : Int) (s : Int) = ((n / 2 ^ s : Nat) : Int) := by
 rw [zgy (by omega)]
 have : min (s : Int).toNat 64 = s := by omega
 rw [this]; simp
theorem zmH (c s : Nat) (hc : c < 256) (hs : s <= 56) : ∃ k : Nat, k <= 8 /\ c < 2 ^ k /\ (c = 0 -> k = 0) /\ (0 < c -> 2 ^ (k - 1) <= c) /\
  ((zhA zgz (IntKind.u8.wrap (c : Int))).bind fun c15 => some (w64 ((s : Int) + (w64 c15)))) = some ((s + k : Nat) : Int) := by
 obtain ⟨k, h1, h2, h3, h4, h5⟩ := zoj c hc
 refine ⟨k, h1, h2, h3, h4, ?_⟩
 have e : IntKind.u8.wrap (c : Int) = (c : Int) := by rw [IntKind.wrap_u8]; omega
 rw [e, h5]
 show some _ = some _
 rw [zI (x := (k : Int)) (by omega) (by omega), zI (by omega) (by omega)]
 simp
set_option maxRecDepth 100000 in
theorem zee {n : Nat} (h1 : n < 18446744073709551616) : ∃ k : Nat, k <= 64 /\ zcH (n : Int) = some (k : Int) /\ n < 2 ^ k /\ (n = 0 -> k = 0) /\ (0 < n -> 2 ^ (k - 1) <= n) := by
 have go : ∀ (c s : Nat), c < 256 -> s <= 56 -> c = n / 2 ^ s -> (s = 0 \/ 0 < c) -> ∃ k : Nat, k <= 64 /\ ((zhA zgz (IntKind.u8.wrap (c : Int))).bind fun c15 => some (w64 ((s : Int) + (w64 c15)))) = some (k : Int) /\ n < 2 ^ k /\ (n = 0 -> k = 0) /\ (0 < n -> 2 ^ (k - 1) <= n) := by
  intro c s hc hs he hz
  obtain ⟨k, k1, k2, k3, k4, k5⟩ := zmH c s hc hs
  have hp : 0 < 2 ^ s := Nat.pow_pos (by omega)
  refine ⟨s + k, by omega, k5, ?_, fun h0 => ?_, fun h0 => ?_⟩
  ·rw [Nat.pow_add, Nat.mul_comm]
   exact (Nat.div_lt_iff_lt_mul hp).1 (by omega)
  ·subst h0
   rw [Nat.zero_div] at he
   rcases hz with hz | hz
   ·have := k3 he; omega
   ·omega
  ·have hc0 : 0 < c := by
    rcases hz with rfl | hz
    ·simp at he; omega
    ·exact hz
   have hk := k4 hc0
   have hk0 : 0 < k := by
    rcases Nat.eq_zero_or_pos k with rfl | hk
    ·simp at k2; omega
    ·exact hk
   rw [show s + k - 1 = s + (k - 1) by omega, Nat.pow_add, Nat.mul_comm]
   exact (Nat.le_div_iff_mul_le hp).1 (by omega)
 show ∃ k : Nat, k <= 64 /\ ((if decide ((n : Int) >= 4294967296) then some (qQ .u64 (n : Int) 32, (32 : Int)) else some ((n : Int), 0)).bind fun o2 =>
  (if decide (o2.1 >= 65536) then some (qQ .u64 o2.1 16, w64 (o2.2 + 16)) else some (o2.1, o2.2)).bind fun o6 =>
  (if decide (o6.1 >= 256) then some (qQ .u64 o6.1 8, w64 (o6.2 + 8)) else some (o6.1, o6.2)).bind fun o10 =>
  (zhA zgz (IntKind.u8.wrap o10.1)).bind fun c15 => some (w64 (o10.2 + (w64 c15)))) = some (k : Int) /\ _
 have s32 : qQ .u64 (n : Int) 32 = ((n / 2 ^ 32 : Nat) : Int) := zgA 32 (by omega)
 have s16 : ∀ m : Nat, qQ .u64 (m : Int) 16 = ((m / 2 ^ 16 : Nat) : Int) := fun m => zgA 16 (by omega)
 have s8 : ∀ m : Nat, qQ .u64 (m : Int) 8 = ((m / 2 ^ 8 : Nat) : Int) := fun m => zgA 8 (by omega)
 have last : ∀ m s : Nat, m < 65536 -> s <= 48 -> m = n / 2 ^ s -> (s = 0 \/ 0 < m) -> ∃ k : Nat, k <= 64 /\ ((if decide ((m : Int) >= 256) then some (qQ .u64 (m : Int) 8, w64 ((s : Int) + 8)) else some ((m : Int), (s : Int))).bind fun o10 =>
  (zhA zgz (IntKind.u8.wrap o10.1)).bind fun c15 => some (w64 (o10.2 + (w64 c15)))) = some (k : Int) /\ n < 2 ^ k /\ (n = 0 -> k = 0) /\ (0 < n -> 2 ^ (k - 1) <= n) := by
  intro m s hm hs he hz
  by_cases h : m >= 256
  ·rw [if_pos (by simp; omega), s8, show w64 ((s : Int) + 8) = ((s + 8 : Nat) : Int) by rw [zI (by omega) (by omega)]; simp]
   exact go (m / 2 ^ 8) (s + 8) (by omega) (by omega) (by rw [he, Nat.div_div_eq_div_mul, <- Nat.pow_add]) (.inr (by omega))
  ·rw [if_neg (by simp; omega)]
   exact go m s (by omega) (by omega) he hz
 have mid : ∀ m s : Nat, m < 4294967296 -> s <= 32 -> m = n / 2 ^ s -> (s = 0 \/ 0 < m) -> ∃ k : Nat, k <= 64 /\ ((if decide ((m : Int) >= 65536) then some (qQ .u64 (m : Int) 16, w64 ((s : Int) + 16)) else some ((m : Int), (s : Int))).bind fun o6 =>
  (if decide (o6.1 >= 256) then some (qQ .u64 o6.1 8, w64 (o6.2 + 8)) else some (o6.1, o6.2)).bind fun o10 =>
  (zhA zgz (IntKind.u8.wrap o10.1)).bind fun c15 => some (w64 (o10.2 + (w64 c15)))) = some (k : Int) /\ n < 2 ^ k /\ (n = 0 -> k = 0) /\ (0 < n -> 2 ^ (k - 1) <= n) := by
  intro m s hm hs he hz
  by_cases h : m >= 65536
  ·rw [if_pos (by simp; omega), s16, show w64 ((s : Int) + 16) = ((s + 16 : Nat) : Int) by rw [zI (by omega) (by omega)]; simp]
   exact last (m / 2 ^ 16) (s + 16) (by omega) (by omega) (by rw [he, Nat.div_div_eq_div_mul, <- Nat.pow_add]) (.inr (by omega))
  ·rw [if_neg (by simp; omega)]
   exact last m s (by omega) (by omega) he hz
 by_cases h : n >= 4294967296
 ·rw [if_pos (by simp; omega), s32]
  exact mid (n / 2 ^ 32) 32 (by omega) (by omega) rfl (.inr (by omega))
 ·rw [if_neg (by simp; omega)]
  exact mid n 0 (by omega) (by omega) (by simp) (.inl rfl)
end Go.Proofs.YtgmmfjpmahcocaaGreatDoor

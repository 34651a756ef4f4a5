import Derived.Test.YtgmmfjpmahcocaaGreatDoorKSpan
set_option linter.unusedVariables false
set_option linter.unusedSimpArgs false
namespace Go.Proofs.YtgmmfjpmahcocaaGreatDoor
open Go.Sx
theorem SW.full : SW ⟨0, 18446744073709551615⟩ := ⟨by simp, by simp, by simp⟩
theorem SW.one {n : Int} (h0 : 0 <= n) (h1 : n < 18446744073709551616) : SW ⟨n, n⟩ := ⟨h0, by simp, h1⟩
theorem SW.zero : SW ⟨0, 0⟩ := ⟨by simp, by simp, by simp⟩
theorem znE (n : Nat) : qQ .u64 (n : Int) 32 = ((n / 4294967296 : Nat) : Int) := zgA 32 (by omega)
theorem zmI (n : Nat) (h : n < 18446744073709551616) : xP .u64 (n : Int) 4294967295 = ((n % 4294967296 : Nat) : Int) := by
 rw [zfl (by omega) (by omega) (by omega) (by omega)]
 have : (n : Int).toNat &&& (4294967295 : Int).toNat = n % 2 ^ 32 := by
  rw [<- Nat.and_two_pow_sub_one_eq_mod]
  rfl
 rw [this]
theorem wuN {n : Nat} (h : n < 18446744073709551616) : zp (n : Int) = (n : Int) := jQ (by omega) (by omega)
theorem zmJ {x y : Nat} (hx : x < 18446744073709551616) (hy : y < 18446744073709551616) : ∃ hi : Nat, zd9 (x : Int) (y : Int) = some ((hi : Int), zp ((x : Int) * (y : Int))) /\ hi = x * y / 18446744073709551616 := by
 obtain ⟨x0, hx0⟩ : ∃ q, q = x % 4294967296 := ⟨_, rfl⟩
 obtain ⟨x1, hx1⟩ : ∃ q, q = x / 4294967296 := ⟨_, rfl⟩
 obtain ⟨y0, hy0⟩ : ∃ q, q = y % 4294967296 := ⟨_, rfl⟩
 obtain ⟨y1, hy1⟩ : ∃ q, q = y / 4294967296 := ⟨_, rfl⟩
 have ex : x = x1 * 4294967296 + x0 := by omega
 have ey : y = y1 * 4294967296 + y0 := by omega
 have b00 : x0 * y0 <= 4294967295 * 4294967295 := Nat.mul_le_mul (by omega) (by omega)
 have b01 : x0 * y1 <= 4294967295 * 4294967295 := Nat.mul_le_mul (by omega) (by omega)
 have b10 : x1 * y0 <= 4294967295 * 4294967295 := Nat.mul_le_mul (by omega) (by omega)
 have b11 : x1 * y1 <= 4294967295 * 4294967295 := Nat.mul_le_mul (by omega) (by omega)
 have exy : x * y = x1 * y1 * 18446744073709551616 + (x1 * y0 + x0 * y1) * 4294967296 + x0 * y0 := by
  rw [ex, ey]
  simp only [Nat.add_mul, Nat.mul_add, Nat.mul_assoc]
  have c1 : 4294967296 * (y1 * 4294967296) = y1 * 18446744073709551616 := by omega
  have c2 : 4294967296 * y0 = y0 * 4294967296 := Nat.mul_comm _ _
  rw [c1, c2]
  omega
 unfold zd9
 simp only [znE, zmI x hx, zmI y hy, <- hx0, <- hx1, <- hy0, <- hy1, <- Int.natCast_mul]
 generalize hp00 : x0 * y0 = p00 at *
 generalize hp01 : x0 * y1 = p01 at *
 generalize hp10 : x1 * y0 = p10 at *
 generalize hp11 : x1 * y1 = p11 at *
 rw [wuN (n := p00) (by omega), wuN (n := p01) (by omega), wuN (n := p10) (by omega), wuN (n := p11) (by omega)]
 simp only [znE, <- Int.natCast_add]
 rw [wuN (n := p10 + p00 / 4294967296) (by omega)]
 simp only [znE, <- Int.natCast_add]
 rw [zmI _ (by omega), wuN (n := p11 + (p10 + p00 / 4294967296) / 4294967296) (by omega)]
 simp only [<- Int.natCast_add]
 rw [wuN (n := (p10 + p00 / 4294967296) % 4294967296 + p01) (by omega)]
 simp only [znE, <- Int.natCast_add]
 rw [wuN (by omega)]
 refine ⟨_, rfl, ?_⟩
 rw [exy]
 omega
theorem za6 : zav = some ⟨0, 18446744073709551615⟩ := rfl
theorem zcP (s : zd) : ve s = some (decide (s.Lo <= s.Hi)) := rfl
theorem znr {a b : zd} (ha : SW a) (hb : SW b) : OK (zc9 a b) SW := by
 obtain ⟨a0, a1, a2⟩ := ha
 obtain ⟨b0, b1, b2⟩ := hb
 unfold zc9 zjw
 rw [if_pos ⟨by omega, by omega, by omega, by omega⟩]
 simp only [zbs, za6]
 refine OK.ite (fun h => OK.ret SW.full) (fun h => OK.ret ?_)
 have h1 := of_decide_eq_false h
 refine ⟨(xO _).1, ?_, ?_⟩
 ·show zp _ <= (a.Hi + b.Hi + 0) % 18446744073709551616
  rw [jQ (by omega) (by omega)]
  omega
 ·show (a.Hi + b.Hi + 0) % 18446744073709551616 < _
  omega
theorem zjM {a b : zd} (ha : SW a) (hb : SW b) : OK (vK a b) SW := by
 obtain ⟨al, ah⟩ := a
 obtain ⟨bl, bh⟩ := b
 obtain ⟨a0, a1, a2⟩ := ha
 obtain ⟨b0, b1, b2⟩ := hb
 simp only at a0 a1 a2 b0 b1 b2
 obtain ⟨al, rfl⟩ := zof a0
 obtain ⟨bl, rfl⟩ := zof b0
 obtain ⟨ah, rfl⟩ := zof (show 0 <= ah by omega)
 obtain ⟨bh, rfl⟩ := zof (show 0 <= bh by omega)
 unfold vK
 obtain ⟨hi, h1, h2⟩ := zmJ (x := ah) (y := bh) (by omega) (by omega)
 simp only [h1, zbs, za6]
 refine OK.ite (fun h => OK.ret SW.full) (fun h => OK.ret ?_)
 have h3 := of_decide_eq_false h
 have h4 : ah * bh < 18446744073709551616 := by
  have : hi = 0 := by omega
  rw [this] at h2
  exact (Nat.div_eq_zero_iff_lt (by omega)).1 h2.symm
 have h5 : al * bl <= ah * bh := Nat.mul_le_mul (by omega) (by omega)
 simp only [<- Int.natCast_mul]
 rw [wuN h4, wuN (by omega)]
 exact ⟨Int.natCast_nonneg _, Int.ofNat_le.2 h5, by show ((ah * bh : Nat) : Int) < _; omega⟩
theorem zdh (a b : Nat) : (a : Int).tdiv (b : Int) = ((a / b : Nat) : Int) := rfl
theorem zjN {a b : zd} (ha : SW a) (hb : SW b) : OK (vL a b) SW := by
 obtain ⟨al, ah⟩ := a
 obtain ⟨bl, bh⟩ := b
 obtain ⟨a0, a1, a2⟩ := ha
 obtain ⟨b0, b1, b2⟩ := hb
 simp only at a0 a1 a2 b0 b1 b2
 unfold vL
 refine OK.ite (fun h => OK.ret ⟨by simp, by simp; omega, by simpa using a2⟩) (fun h => ?_)
 have hb : bl ≠ 0 := by simpa using h
 rw [zb8 (show bh ≠ 0 by omega)]
 simp only [zbs]
 rw [zb8 hb]
 obtain ⟨al, rfl⟩ := zof a0
 obtain ⟨bl, rfl⟩ := zof b0
 obtain ⟨ah, rfl⟩ := zof (show 0 <= ah by omega)
 obtain ⟨bh, rfl⟩ := zof (show 0 <= bh by omega)
 simp only [zbs, zdh]
 have h1 : al / bh <= ah / bl := Nat.le_trans (Nat.div_le_div_right (by omega)) (Nat.div_le_div_left (by omega) (by omega))
 have h2 := Nat.div_le_self ah bl
 rw [wuN (by omega), wuN (by omega)]
 exact OK.ret ⟨Int.natCast_nonneg _, Int.ofNat_le.2 h1, by show ((ah / bl : Nat) : Int) < _; omega⟩
theorem zmK {a b : zd} (ha : SW a) (hb : SW b) : OK (zb3 a b) SW := by
 obtain ⟨a0, a1, a2⟩ := id ha
 obtain ⟨b0, b1, b2⟩ := hb
 unfold zb3
 refine OK.ite (fun h => OK.ret ⟨by simp, by simp; omega, by simpa using a2⟩) (fun h => ?_)
 refine OK.ite (fun h => OK.ret ha) (fun h2 => OK.ret ?_)
 have hb : b.Lo ≠ 0 := by simpa using h
 rw [jQ (by omega) (by omega)]
 refine ⟨by simp, ?_, ?_⟩ <;> (unfold vH; simp only; split <;> omega)
theorem zkH {n : Int} (h0 : 0 <= n) (h1 : n < 18446744073709551616) : OK (zaY n) (fun r => n <= r /\ r < 18446744073709551616) := by
 obtain ⟨n, rfl⟩ := zof h0
 obtain ⟨k, k1, k2, k3, _⟩ := zee (n := n) (by omega)
 unfold zaY
 simp only [k2, zbs]
 rw [zbm (by omega)]
 refine OK.ret ?_
 have e : zbO .u64 1 (k : Int) = ((2 ^ k % 18446744073709551616 : Nat) : Int) := by
  rw [zdg, show min ((k : Int)).toNat 64 = k by omega, Int.one_mul]
  simp
 rw [e]
 by_cases hk : k = 64
 ·subst hk
  exact ⟨by show _ <= zp (((2 ^ 64 % 18446744073709551616 : Nat) : Int) - 1); rw [zby]; omega, (xO _).2⟩
 ·have h2 : (2 : Nat) ^ k <= 2 ^ 63 := Nat.pow_le_pow_right (by omega) (by omega)
  generalize 2 ^ k = q at *
  rw [Nat.mod_eq_of_lt (by omega), jQ (by omega) (by omega)]
  omega
theorem zmL {a b : zd} (ha : SW a) (hb : SW b) : OK (zbJ a b) SW := by
 obtain ⟨al, ah⟩ := a
 obtain ⟨bl, bh⟩ := b
 obtain ⟨a0, a1, a2⟩ := ha
 obtain ⟨b0, b1, b2⟩ := hb
 simp only at a0 a1 a2 b0 b1 b2
 obtain ⟨al, rfl⟩ := zof a0
 obtain ⟨bl, rfl⟩ := zof b0
 obtain ⟨ah, rfl⟩ := zof (show 0 <= ah by omega)
 obtain ⟨k, k1, k2, k3, k4, k5⟩ := zee (n := ah) (by omega)
 unfold zbJ xd
 simp only [k2, zbs, za6]
 refine OK.bind2 (R := fun o => o = false -> (k = 0 \/ k + bl <= 64)) ?_ (fun o ho => ?_)
 ·refine OK.ite (fun _ => OK.ret (by simp)) (fun _ => OK.ite (fun h1 => ?_) (fun h1 => OK.ret (fun _ => .inl ?_)))
  ·refine OK.ite (fun _ => OK.ret (by simp)) (fun h2 => OK.ret (fun h3 => .inr ?_))
   have h2 := of_decide_eq_false h2
   have h3 := of_decide_eq_false h3
   rw [jQ (x := (k : Int)) (by omega) (by omega), jQ (by omega) (by omega)] at h3
   omega
  ·have := of_decide_eq_false h1
   omega
 ·refine OK.ite (fun _ => OK.ret SW.full) (fun h => ?_)
  rw [zbm (by omega)]
  simp only [zbs]
  refine OK.ret ?_
  have e : ∀ n : Nat, zbO .u64 (n : Int) (bl : Int) = ((n * 2 ^ (min bl 64) % 18446744073709551616 : Nat) : Int) := by
   intro n
   rw [zdg, show ((bl : Int)).toNat = bl by omega]
   simp
  rw [e, e]
  rcases ho h with hk | hk
  ·have h6 : ah = 0 := by subst hk; simp at k3; omega
   have h7 : al = 0 := by omega
   subst h6; subst h7
   exact ⟨by simp, by simp, by simp⟩
  ·rw [show min bl 64 = bl by omega]
   have h6 : ah * 2 ^ bl < 18446744073709551616 := by
    have h7 : ah * 2 ^ bl < 2 ^ k * 2 ^ bl := Nat.mul_lt_mul_of_pos_right k3 (Nat.pow_pos (by omega))
    rw [<- Nat.pow_add] at h7
    have h8 : (2 : Nat) ^ (k + bl) <= 2 ^ 64 := Nat.pow_le_pow_right (by omega) hk
    omega
   have h9 : al * 2 ^ bl <= ah * 2 ^ bl := Nat.mul_le_mul_right _ (by omega)
   rw [Nat.mod_eq_of_lt h6, Nat.mod_eq_of_lt (by omega)]
   exact ⟨Int.natCast_nonneg _, Int.ofNat_le.2 h9, Int.ofNat_lt.2 h6⟩
theorem zht {op a b : Int} (a0 : 0 <= a) (a1 : a < 18446744073709551616) (b0 : 0 <= b) (b1 : b < 18446744073709551616) : OK (zc8 op a b) (fun r => 0 <= r.1 /\ r.1 < 18446744073709551616 /\ r.2 = (decide (1 <= op) && decide (op <= 10))) := by
 unfold zc8
 have q : ∀ k : Int, 1 <= k -> k <= 10 -> (op == k) = true -> true = (decide (1 <= op) && decide (op <= 10)) := by
  intro k h1 h2 h3
  have : op = k := by simpa using h3
  subst this; simp [h1, h2]
 refine OK.ite (fun h => OK.ret ⟨(xO _).1, (xO _).2, q 1 (by omega) (by omega) h⟩) (fun n1 => ?_)
 refine OK.ite (fun h => OK.ret ⟨(xO _).1, (xO _).2, q 2 (by omega) (by omega) h⟩) (fun n2 => ?_)
 refine OK.ite (fun h => OK.ret ⟨(xO _).1, (xO _).2, q 3 (by omega) (by omega) h⟩) (fun n3 => ?_)
 refine OK.ite (fun h => ?_) (fun n4 => ?_)
 ·refine OK.ite (fun _ => OK.ret ⟨by simp, by simp, q 4 (by omega) (by omega) h⟩) (fun hz => ?_)
  rw [zb8 (by simpa using hz)]
  exact OK.ret ⟨(xO _).1, (xO _).2, q 4 (by omega) (by omega) h⟩
 refine OK.ite (fun h => ?_) (fun n5 => ?_)
 ·refine OK.ite (fun _ => OK.ret ⟨a0, a1, q 5 (by omega) (by omega) h⟩) (fun hz => ?_)
  rw [zb8 (by simpa using hz)]
  obtain ⟨a, rfl⟩ := zof a0
  obtain ⟨b, rfl⟩ := zof b0
  have e : (a : Int).tmod (b : Int) = ((a % b : Nat) : Int) := rfl
  have := Nat.mod_le a b
  refine OK.ret ⟨?_, ?_, q 5 (by omega) (by omega) h⟩
  ·show 0 <= (a : Int).tmod (b : Int); rw [e]; omega
  ·show (a : Int).tmod (b : Int) < _; rw [e]; omega
 refine OK.ite (fun h => OK.ret ⟨(ziV _ _).1, (ziV _ _).2, q 6 (by omega) (by omega) h⟩) (fun n6 => ?_)
 refine OK.ite (fun h => OK.ret ⟨(zjp _ _).1, (zjp _ _).2, q 7 (by omega) (by omega) h⟩) (fun n7 => ?_)
 refine OK.ite (fun h => OK.ret ⟨(zkG _ _).1, (zkG _ _).2, q 8 (by omega) (by omega) h⟩) (fun n8 => ?_)
 refine OK.ite (fun h => ?_) (fun n9 => ?_)
 ·rw [zbm b0]
  exact OK.ret ⟨(ziW _ _).1, (ziW _ _).2, q 9 (by omega) (by omega) h⟩
 refine OK.ite (fun h => ?_) (fun n10 => OK.ret ⟨by simp, by simp, ?_⟩)
 ·rw [zbm b0]
  have := ziX (y := b) a0 a1
  exact OK.ret ⟨this.1, by show qQ .u64 a b < _; omega, q 10 (by omega) (by omega) h⟩
 ·simp only [beq_eq_false_iff_ne, ne_eq] at n1 n2 n3 n4 n5 n6 n7 n8 n9 n10
  show false = _
  rw [Eq.comm, Bool.and_eq_false_iff]
  simp only [decide_eq_false_iff_not]
  omega
theorem zns {op : Int} {a b : zd} (ha : SW a) (hb : SW b) : OK (zdG op a b) (fun r => SW r.1) := by
 obtain ⟨a0, a1, a2⟩ := id ha
 obtain ⟨b0, b1, b2⟩ := id hb
 unfold zdG
 refine OK.bind2 (zht (op := op) (a := a.Lo) (b := b.Lo) a0 (by omega) b0 (by omega)) (fun r hr => ?_)
 simp only [zcP, zbs]
 refine OK.bind2 (R := fun o => o = false -> 1 <= op /\ op <= 10) ?_ (fun o ho => ?_)
 ·refine OK.ite (fun _ => OK.ret (by simp)) (fun h => ?_)
  have h2 : 1 <= op /\ op <= 10 := by
   have : r.2 = true := by simpa using h
   rw [hr.2.2] at this
   simpa using this
  exact OK.ite (fun _ => OK.ret (by simp)) (fun _ => OK.ret (fun _ => h2))
 refine OK.ite (fun _ => OK.ret SW.zero) (fun h => ?_)
 obtain ⟨o1, o2⟩ := ho h
 refine OK.bind2 (R := fun _ => True) ?_ (fun _ _ => ?_)
 ·unfold xd
  exact OK.ite (fun _ => OK.ret trivial) (fun _ => OK.ret trivial)
 refine OK.ite (fun _ => OK.ret (SW.one hr.1 hr.2.1)) (fun _ => ?_)
 have fwd : ∀ {o : Option zd}, OK o SW -> OK (o.bind fun r => some (r, true)) (fun r => SW r.1) := fun h => OK.bind2 h (fun x hx => OK.ret hx)
 refine OK.ite (fun _ => fwd (znr ha hb)) (fun _ => ?_)
 refine OK.ite (fun _ => OK.ite (fun _ => fwd (OK.ret SW.full)) (fun h => OK.ret ?_)) (fun _ => ?_)
 ·have h := of_decide_eq_false h
  rw [jQ (by omega) (by omega), jQ (by omega) (by omega)]
  exact ⟨by simp; omega, by simp; omega, by simp; omega⟩
 refine OK.ite (fun _ => fwd (zjM ha hb)) (fun _ => ?_)
 refine OK.ite (fun _ => fwd (zjN ha hb)) (fun _ => ?_)
 refine OK.ite (fun _ => fwd (zmK ha hb)) (fun _ => ?_)
 refine OK.ite (fun _ => OK.ret ⟨by simp, ?_, ?_⟩) (fun _ => ?_)
 ·show 0 <= vH a.Hi b.Hi
  unfold vH; split <;> omega
 ·show vH a.Hi b.Hi < _
  unfold vH; split <;> omega
 have hor := ziU (x := a.Hi) (y := b.Hi) (by omega) a2 (by omega) b2
 have hor2 := zjp a.Hi b.Hi
 refine OK.ite (fun _ => OK.bind2 (zkH hor2.1 hor2.2) (fun x hx => OK.ret ⟨?_, ?_, ?_⟩)) (fun _ => ?_)
 ·show 0 <= zay a.Lo b.Lo
  unfold zay; split <;> omega
 ·show zay a.Lo b.Lo <= x
  unfold zay; split <;> omega
 ·exact hx.2
 refine OK.ite (fun _ => OK.bind2 (zkH hor2.1 hor2.2) (fun x hx => OK.ret ⟨by simp, ?_, ?_⟩)) (fun _ => ?_)
 ·show 0 <= x
  omega
 ·exact hx.2
 refine OK.ite (fun _ => fwd (zmL ha hb)) (fun _ => ?_)
 rw [zbm (show 0 <= b.Hi by omega)]
 simp only [zbs]
 rw [zbm b0]
 refine OK.ret ⟨(ziX a0 (by omega)).1, zhs a0 a1 b1, ?_⟩
 have := (ziX (y := b.Lo) (show 0 <= a.Hi by omega) a2).2
 show qQ .u64 a.Hi b.Lo < _
 omega
end Go.Proofs.YtgmmfjpmahcocaaGreatDoor

import Derived.Test.YtgmmfjpmahcocaaGreatDoorKJudged
set_option linter.unusedVariables false
set_option linter.unusedSimpArgs false
namespace Go.Proofs.YtgmmfjpmahcocaaGreatDoor
open Go.Sx
def inS (s : zd) (n : Int) : Prop := s.Lo <= n /\ n <= s.Hi
def sem (x : za) (n : Int) : Prop := (x.Ki = 1 -> inS x.Sp n) /\ (x.Ki = 2 -> n = x.Map)
def u64 (n : Int) : Prop := 0 <= n /\ n < 18446744073709551616
theorem zde {n : Int} (h : u64 n) : inS ⟨0, 18446744073709551615⟩ n := by
 obtain ⟨h0, h1⟩ := h
 exact ⟨h0, by show n <= 18446744073709551615; omega⟩
def ar (op x y : Int) : Int :=
 if op == 1 then zp (x + y) else if op == 2 then zp (x - y) else if op == 3 then zp (x * y)
 else if op == 4 then (if y == 0 then 0 else zp (x.tdiv y)) else if op == 5 then (if y == 0 then x else x.tmod y)
 else if op == 6 then xP .u64 x y else if op == 7 then bOr .u64 x y else if op == 8 then zgg .u64 x y
 else if op == 9 then zbO .u64 x y else if op == 10 then qQ .u64 x y else 0
theorem zed {op x y : Int} (hx : u64 x) (hy : u64 y) : zc8 op x y = some (ar op x y, decide (1 <= op) && decide (op <= 10)) := by
 obtain ⟨r, h1, _, _, h4⟩ := zht (op := op) hx.1 hx.2 hy.1 hy.2
 rw [h1, <- h4]
 have key : r.1 = ar op x y := by
  unfold zc8 at h1
  unfold ar
  rcases zft (op == 1) with e | e
  ·rw [if_pos e] at h1 |-; cases h1; rfl
  rw [if_neg (by simp [e])] at h1 |-
  rcases zft (op == 2) with e | e
  ·rw [if_pos e] at h1 |-; cases h1; rfl
  rw [if_neg (by simp [e])] at h1 |-
  rcases zft (op == 3) with e | e
  ·rw [if_pos e] at h1 |-; cases h1; rfl
  rw [if_neg (by simp [e])] at h1 |-
  rcases zft (op == 4) with e | e
  ·rw [if_pos e] at h1 |-
   rcases zft (y == 0) with e2 | e2
   ·rw [if_pos e2] at h1 |-; cases h1; rfl
   ·rw [if_neg (by simp [e2])] at h1 |-
    rw [zb8 (by simpa using e2)] at h1
    cases h1; rfl
  rw [if_neg (by simp [e])] at h1 |-
  rcases zft (op == 5) with e | e
  ·rw [if_pos e] at h1 |-
   rcases zft (y == 0) with e2 | e2
   ·rw [if_pos e2] at h1 |-; cases h1; rfl
   ·rw [if_neg (by simp [e2])] at h1 |-
    rw [zb8 (by simpa using e2)] at h1
    cases h1; rfl
  rw [if_neg (by simp [e])] at h1 |-
  rcases zft (op == 6) with e | e
  ·rw [if_pos e] at h1 |-; cases h1; rfl
  rw [if_neg (by simp [e])] at h1 |-
  rcases zft (op == 7) with e | e
  ·rw [if_pos e] at h1 |-; cases h1; rfl
  rw [if_neg (by simp [e])] at h1 |-
  rcases zft (op == 8) with e | e
  ·rw [if_pos e] at h1 |-; cases h1; rfl
  rw [if_neg (by simp [e])] at h1 |-
  rcases zft (op == 9) with e | e
  ·rw [if_pos e] at h1 |-
   rw [zbm hy.1] at h1
   cases h1; rfl
  rw [if_neg (by simp [e])] at h1 |-
  rcases zft (op == 10) with e | e
  ·rw [if_pos e] at h1 |-
   rw [zbm hy.1] at h1
   cases h1; rfl
  rw [if_neg (by simp [e])] at h1 |-
  cases h1; rfl
 rw [<- key]
theorem znn {op x y : Int} (hx : u64 x) (hy : u64 y) : u64 (ar op x y) := by
 obtain ⟨r, h1, h2, h3, _⟩ := zht (op := op) hx.1 hx.2 hy.1 hy.2
 rw [zed hx hy] at h1
 cases h1
 exact ⟨h2, h3⟩
theorem SW.in_ {s : zd} {n : Int} (h : SW s) (hn : inS s n) : u64 n := ⟨by have := h.1; have := hn.1; omega, by have := h.2.2; have := hn.2; omega⟩
section
variable {a b : zd} {x y : Int}
theorem zno (ha : SW a) (hb : SW b) (hx : inS a x) (hy : inS b y) : OK (zc9 a b) (fun r => inS r (zp (x + y))) := by
 obtain ⟨a0, a1, a2⟩ := ha
 obtain ⟨b0, b1, b2⟩ := hb
 obtain ⟨x0, x1⟩ := hx
 obtain ⟨y0, y1⟩ := hy
 unfold zc9 zjw
 rw [if_pos ⟨by omega, by omega, by omega, by omega⟩]
 simp only [zbs, za6]
 refine OK.ite (fun h => OK.ret (zde (xO _))) (fun h => OK.ret ?_)
 have h1 := of_decide_eq_false h
 have h2 : a.Hi + b.Hi < 18446744073709551616 := by omega
 rw [jQ (x := x + y) (by omega) (by omega)]
 constructor
 ·show zp _ <= _
  rw [jQ (by omega) (by omega)]; omega
 ·show _ <= (a.Hi + b.Hi + 0) % 18446744073709551616
  omega
theorem zjH (ha : SW a) (hb : SW b) (hx : inS a x) (hy : inS b y) : OK (vK a b) (fun r => inS r (zp (x * y))) := by
 have ux := ha.in_ hx
 have uy := hb.in_ hy
 obtain ⟨al, ah⟩ := a
 obtain ⟨bl, bh⟩ := b
 obtain ⟨a0, a1, a2⟩ := ha
 obtain ⟨b0, b1, b2⟩ := hb
 obtain ⟨x0, x1⟩ := hx
 obtain ⟨y0, y1⟩ := hy
 simp only at a0 a1 a2 b0 b1 b2 x0 x1 y0 y1
 obtain ⟨al, rfl⟩ := zof a0
 obtain ⟨bl, rfl⟩ := zof b0
 obtain ⟨ah, rfl⟩ := zof (show 0 <= ah by omega)
 obtain ⟨bh, rfl⟩ := zof (show 0 <= bh by omega)
 obtain ⟨x, rfl⟩ := zof ux.1
 obtain ⟨y, rfl⟩ := zof uy.1
 unfold vK
 obtain ⟨hi, h1, h2⟩ := zmJ (x := ah) (y := bh) (by omega) (by omega)
 simp only [h1, zbs, za6]
 refine OK.ite (fun h => OK.ret (zde (xO _))) (fun h => OK.ret ?_)
 have h3 := of_decide_eq_false h
 have h4 : ah * bh < 18446744073709551616 := by
  have : hi = 0 := by omega
  rw [this] at h2
  exact (Nat.div_eq_zero_iff_lt (by omega)).1 h2.symm
 have h5 : al * bl <= x * y := Nat.mul_le_mul (by omega) (by omega)
 have h6 : x * y <= ah * bh := Nat.mul_le_mul (by omega) (by omega)
 simp only [<- Int.natCast_mul]
 rw [wuN h4, wuN (show x * y < _ by omega), wuN (show al * bl < _ by omega)]
 exact ⟨Int.ofNat_le.2 h5, Int.ofNat_le.2 h6⟩
theorem zjI (ha : SW a) (hb : SW b) (hx : inS a x) (hy : inS b y) : OK (vL a b) (fun r => inS r (if y == 0 then 0 else zp (x.tdiv y))) := by
 have ux := ha.in_ hx
 have uy := hb.in_ hy
 obtain ⟨al, ah⟩ := a
 obtain ⟨bl, bh⟩ := b
 obtain ⟨a0, a1, a2⟩ := ha
 obtain ⟨b0, b1, b2⟩ := hb
 obtain ⟨x0, x1⟩ := hx
 obtain ⟨y0, y1⟩ := hy
 simp only at a0 a1 a2 b0 b1 b2 x0 x1 y0 y1
 obtain ⟨al, rfl⟩ := zof a0
 obtain ⟨bl, rfl⟩ := zof b0
 obtain ⟨ah, rfl⟩ := zof (show 0 <= ah by omega)
 obtain ⟨bh, rfl⟩ := zof (show 0 <= bh by omega)
 obtain ⟨x, rfl⟩ := zof ux.1
 obtain ⟨y, rfl⟩ := zof uy.1
 obtain ⟨_, ux⟩ := ux
 unfold vL
 refine OK.ite (fun h => OK.ret ?_) (fun h => ?_)
 ·split
  ·exact ⟨by simp, by show (0 : Int) <= (ah : Int); omega⟩
  ·rw [zdh, wuN (by have := Nat.div_le_self x y; omega)]
   have := Nat.div_le_self x y
   refine ⟨?_, ?_⟩
   ·show (0 : Int) <= ((x / y : Nat) : Int); exact Int.natCast_nonneg _
   ·show ((x / y : Nat) : Int) <= (ah : Int); exact Int.ofNat_le.2 (by omega)
 ·have hb : (bl : Int) ≠ 0 := by simpa using h
  have hyz : ((y : Int) == 0) = false := by simp; omega
  rw [zb8 (show (bh : Int) ≠ 0 by omega)]
  simp only [zbs]
  rw [zb8 hb, hyz]
  simp only [zbs, zdh]
  have h1 : al / bh <= x / y := Nat.le_trans (Nat.div_le_div_right (by omega)) (Nat.div_le_div_left (by omega) (by omega))
  have h2 : x / y <= ah / bl := Nat.le_trans (Nat.div_le_div_right (by omega)) (Nat.div_le_div_left (by omega) (by omega))
  have h3 := Nat.div_le_self ah bl
  rw [wuN (show al / bh < _ by omega), wuN (show ah / bl < _ by omega)]
  refine OK.ret ?_
  rw [if_neg (by simp), wuN (show x / y < _ by omega)]
  exact ⟨Int.ofNat_le.2 h1, Int.ofNat_le.2 h2⟩
theorem zmC (ha : SW a) (hb : SW b) (hx : inS a x) (hy : inS b y) : OK (zb3 a b) (fun r => inS r (if y == 0 then x else x.tmod y)) := by
 have ux := ha.in_ hx
 have uy := hb.in_ hy
 obtain ⟨a0, a1, a2⟩ := id ha
 obtain ⟨b0, b1, b2⟩ := id hb
 obtain ⟨x0, x1⟩ := id hx
 obtain ⟨y0, y1⟩ := id hy
 obtain ⟨x, rfl⟩ := zof ux.1
 obtain ⟨y, rfl⟩ := zof uy.1
 have e : (x : Int).tmod (y : Int) = ((x % y : Nat) : Int) := rfl
 have hm := Nat.mod_le x y
 unfold zb3
 refine OK.ite (fun h => OK.ret ?_) (fun h => ?_)
 ·split
  ·exact ⟨by show (0 : Int) <= _; omega, x1⟩
  ·rw [e]; exact ⟨by show (0 : Int) <= _; omega, by show _ <= a.Hi; omega⟩
 have hb0 : b.Lo ≠ 0 := by simpa using h
 have hyz : ((y : Int) == 0) = false := by simp; omega
 rw [hyz]
 simp only [zfe, if_false]
 refine OK.ite (fun h2 => OK.ret ?_) (fun h2 => OK.ret ?_)
 ·have h2 := of_decide_eq_true h2
  rw [e, Nat.mod_eq_of_lt (by omega)]
  exact hx
 ·rw [e, jQ (by omega) (by omega)]
  have := Nat.mod_lt x (show 0 < y by omega)
  refine ⟨by show (0 : Int) <= _; omega, ?_⟩
  show ((x % y : Nat) : Int) <= vH a.Hi (b.Hi - 1)
  unfold vH
  split <;> omega
theorem zkA {n : Int} (h0 : 0 <= n) (h1 : n < 18446744073709551616) : OK (zaY n) (fun r => ∃ k : Nat, k <= 64 /\ r = ((2 ^ k - 1 : Nat) : Int) /\ n.toNat < 2 ^ k) := by
 obtain ⟨n, rfl⟩ := zof h0
 obtain ⟨k, k1, k2, k3, _⟩ := zee (n := n) (by omega)
 unfold zaY
 simp only [k2, zbs]
 rw [zbm (by omega)]
 refine OK.ret ⟨k, k1, ?_, by simpa using k3⟩
 have e : zbO .u64 1 (k : Int) = ((2 ^ k % 18446744073709551616 : Nat) : Int) := by
  rw [zdg, show min ((k : Int)).toNat 64 = k by omega, Int.one_mul]
  simp
 show zp (zbO .u64 1 (k : Int) - 1) = _
 rw [e]
 by_cases hk : k = 64
 ·subst hk
  rw [zby]
  decide
 ·have h2 : (2 : Nat) ^ k <= 2 ^ 63 := Nat.pow_le_pow_right (by omega) (by omega)
  have h3 : 0 < (2 : Nat) ^ k := Nat.pow_pos (by omega)
  generalize 2 ^ k = q at *
  rw [Nat.mod_eq_of_lt (by omega), jQ (by omega) (by omega)]
  omega
theorem zmD (ha : SW a) (hb : SW b) (hx : inS a x) (hy : inS b y) : OK (zbJ a b) (fun r => inS r (zbO .u64 x y)) := by
 have ux := ha.in_ hx
 have uy := hb.in_ hy
 obtain ⟨al, ah⟩ := a
 obtain ⟨bl, bh⟩ := b
 obtain ⟨a0, a1, a2⟩ := ha
 obtain ⟨b0, b1, b2⟩ := hb
 obtain ⟨x0, x1⟩ := hx
 obtain ⟨y0, y1⟩ := hy
 simp only at a0 a1 a2 b0 b1 b2 x0 x1 y0 y1
 obtain ⟨al, rfl⟩ := zof a0
 obtain ⟨bl, rfl⟩ := zof b0
 obtain ⟨ah, rfl⟩ := zof (show 0 <= ah by omega)
 obtain ⟨x, rfl⟩ := zof ux.1
 obtain ⟨k, k1, k2, k3, k4, k5⟩ := zee (n := ah) (by omega)
 unfold zbJ xd
 simp only [k2, zbs, za6]
 refine OK.bind2 (R := fun o => o = false -> (bl : Int) = bh /\ (k = 0 \/ k + bl <= 64)) ?_ (fun o ho => ?_)
 ·refine OK.ite (fun _ => OK.ret (by simp)) (fun hs => OK.ite (fun h1 => ?_) (fun h1 => OK.ret (fun _ => ⟨by simpa using hs, .inl ?_⟩)))
  ·refine OK.ite (fun _ => OK.ret (by simp)) (fun h2 => OK.ret (fun h3 => ⟨by simpa using hs, .inr ?_⟩))
   have h2 := of_decide_eq_false h2
   have h3 := of_decide_eq_false h3
   rw [jQ (x := (k : Int)) (by omega) (by omega), jQ (by omega) (by omega)] at h3
   omega
  ·have := of_decide_eq_false h1
   omega
 ·refine OK.ite (fun _ => OK.ret (zde (ziW _ _))) (fun h => ?_)
  obtain ⟨hs, ho⟩ := ho h
  have hyb : y = (bl : Int) := by omega
  subst hyb
  rw [zbm (by omega)]
  simp only [zbs]
  refine OK.ret ?_
  have e : ∀ n : Nat, zbO .u64 (n : Int) (bl : Int) = ((n * 2 ^ (min bl 64) % 18446744073709551616 : Nat) : Int) := by
   intro n
   rw [zdg, show ((bl : Int)).toNat = bl by omega]
   simp
  rw [e, e, e]
  rcases ho with hk | hk
  ·have h6 : ah = 0 := by subst hk; simp at k3; omega
   have h7 : al = 0 := by omega
   have h8 : x = 0 := by omega
   subst h6; subst h7; subst h8
   exact ⟨by simp, by simp⟩
  ·rw [show min bl 64 = bl by omega]
   have h6 : ah * 2 ^ bl < 18446744073709551616 := by
    have h7 : ah * 2 ^ bl < 2 ^ k * 2 ^ bl := Nat.mul_lt_mul_of_pos_right k3 (Nat.pow_pos (by omega))
    rw [<- Nat.pow_add] at h7
    have h8 : (2 : Nat) ^ (k + bl) <= 2 ^ 64 := Nat.pow_le_pow_right (by omega) hk
    omega
   have h9 : al * 2 ^ bl <= x * 2 ^ bl := Nat.mul_le_mul_right _ (by omega)
   have h10 : x * 2 ^ bl <= ah * 2 ^ bl := Nat.mul_le_mul_right _ (by omega)
   rw [Nat.mod_eq_of_lt h6, Nat.mod_eq_of_lt (show x * 2 ^ bl < _ by omega), Nat.mod_eq_of_lt (show al * 2 ^ bl < _ by omega)]
   exact ⟨Int.ofNat_le.2 h9, Int.ofNat_le.2 h10⟩
theorem znV {op : Int} (ha : SW a) (hb : SW b) (hx : inS a x) (hy : inS b y) (o1 : 1 <= op) (o2 : op <= 10) : OK (zdG op a b) (fun r => inS r.1 (ar op x y)) := by
 have ux := ha.in_ hx
 have uy := hb.in_ hy
 obtain ⟨a0, a1, a2⟩ := id ha
 obtain ⟨b0, b1, b2⟩ := id hb
 obtain ⟨x0, x1⟩ := id hx
 obtain ⟨y0, y1⟩ := id hy
 unfold zdG
 rw [zed (op := op) (x := a.Lo) (y := b.Lo) ⟨a0, by omega⟩ ⟨b0, by omega⟩]
 simp only [za2 ha, za2 hb, zbs]
 refine OK.bind2 (R := fun o => o = false) ?_ (fun o ho => ?_)
 ·refine OK.ite (fun h => ?_) (fun h => OK.ite (fun h => by cases h) (fun _ => OK.ret rfl))
  exfalso
  simp at h
  omega
 subst ho
 refine OK.ite (fun h => by cases h) (fun _ => ?_)
 unfold xd
 refine OK.bind2 (R := fun o => o = true -> a.Lo = a.Hi /\ b.Lo = b.Hi) ?_ (fun o ho => ?_)
 ·exact OK.ite (fun h1 => OK.ret (fun h2 => ⟨by simpa using h1, by simpa using h2⟩)) (fun _ => OK.ret (fun h => by cases h))
 refine OK.ite (fun h => ?_) (fun _ => ?_)
 ·obtain ⟨e1, e2⟩ := ho h
  have ex : x = a.Lo := by omega
  have ey : y = b.Lo := by omega
  subst ex; subst ey
  exact OK.ret ⟨Int.le_refl _, Int.le_refl _⟩
 have fwd : ∀ {o : Option zd} {z : Int}, OK o (fun r => inS r z) -> OK (o.bind fun r => some (r, true)) (fun r => inS r.1 z) := fun h => OK.bind2 h (fun x hx => OK.ret hx)
 refine OK.ite (fun e => ?_) (fun e1 => ?_)
 ·have e : op = 1 := by simpa using e
  subst e
  exact fwd (zno ha hb hx hy)
 refine OK.ite (fun e => ?_) (fun e2 => ?_)
 ·have e : op = 2 := by simpa using e
  subst e
  refine OK.ite (fun _ => fwd (OK.ret (zde (xO _)))) (fun h => OK.ret ?_)
  have h := of_decide_eq_false h
  rw [jQ (x := a.Lo - b.Hi) (by omega) (by omega), jQ (x := a.Hi - b.Lo) (by omega) (by omega), show ar 2 x y = zp (x - y) from rfl, jQ (x := x - y) (by omega) (by omega)]
  exact ⟨by show a.Lo - b.Hi <= _; omega, by show _ <= a.Hi - b.Lo; omega⟩
 refine OK.ite (fun e => ?_) (fun e3 => ?_)
 ·have e : op = 3 := by simpa using e
  subst e
  exact fwd (zjH ha hb hx hy)
 refine OK.ite (fun e => ?_) (fun e4 => ?_)
 ·have e : op = 4 := by simpa using e
  subst e
  exact fwd (zjI ha hb hx hy)
 refine OK.ite (fun e => ?_) (fun e5 => ?_)
 ·have e : op = 5 := by simpa using e
  subst e
  exact fwd (zmC ha hb hx hy)
 refine OK.ite (fun e => ?_) (fun e6 => ?_)
 ·have e : op = 6 := by simpa using e
  subst e
  refine OK.ret ⟨(ziV x y).1, ?_⟩
  rw [show ar 6 x y = xP .u64 x y from rfl, zfl ux.1 ux.2 uy.1 uy.2]
  have h1 : x.toNat &&& y.toNat <= x.toNat := Nat.and_le_left
  have h2 : x.toNat &&& y.toNat <= y.toNat := Nat.and_le_right
  show _ <= vH a.Hi b.Hi
  unfold vH
  split <;> omega
 have hor := ziU (x := a.Hi) (y := b.Hi) (by omega) a2 (by omega) b2
 have hor2 := zjp a.Hi b.Hi
 refine OK.ite (fun e => ?_) (fun e7 => ?_)
 ·have e : op = 7 := by simpa using e
  subst e
  refine OK.bind2 (zkA hor2.1 hor2.2) (fun r hr => OK.ret ?_)
  obtain ⟨k, _, rfl, hk⟩ := hr
  have g := ziU ux.1 ux.2 uy.1 uy.2
  have hlt : (x.toNat ||| y.toNat) < 2 ^ k := Nat.or_lt_two_pow (by omega) (by omega)
  rw [show ar 7 x y = bOr .u64 x y from rfl]
  rw [zgx ux.1 ux.2 uy.1 uy.2] at g |-
  refine ⟨?_, ?_⟩
  ·show zay a.Lo b.Lo <= _
   unfold zay
   split <;> omega
  ·show _ <= ((2 ^ k - 1 : Nat) : Int)
   omega
 refine OK.ite (fun e => ?_) (fun e8 => ?_)
 ·have e : op = 8 := by simpa using e
  subst e
  refine OK.bind2 (zkA hor2.1 hor2.2) (fun r hr => OK.ret ?_)
  obtain ⟨k, _, rfl, hk⟩ := hr
  have hlt : (x.toNat ^^^ y.toNat) < 2 ^ k := Nat.xor_lt_two_pow (by omega) (by omega)
  rw [show ar 8 x y = zgg .u64 x y from rfl, zlA ux.1 ux.2 uy.1 uy.2]
  refine ⟨Int.natCast_nonneg _, ?_⟩
  show _ <= ((2 ^ k - 1 : Nat) : Int)
  omega
 refine OK.ite (fun e => ?_) (fun e9 => ?_)
 ·have e : op = 9 := by simpa using e
  subst e
  exact fwd (zmD ha hb hx hy)
 simp only [beq_eq_false_iff_ne, ne_eq] at e1 e2 e3 e4 e5 e6 e7 e8 e9
 have e : op = 10 := by omega
 subst e
 rw [zbm (show 0 <= b.Hi by omega)]
 simp only [zbs]
 rw [zbm b0]
 exact OK.ret ⟨zhs a0 x0 y1, zhs ux.1 x1 y0⟩
def hl (op x y : Int) : Bool := if op == 16 then x == y else if op == 17 then x != y else if op == 18 then decide (x < y) else if op == 19 then decide (x >= y) else false
theorem zga (op x y : Int) : zaH op x y = some (hl op x y, inB op 16 19) := by
 obtain ⟨r, h1, h2⟩ := zjj op x y
 rw [h1, <- h2]
 have key : r.1 = hl op x y := by
  unfold zaH at h1
  unfold hl
  rcases zft (op == 16) with e | e
  ·rw [if_pos e] at h1 |-; cases h1; rfl
  rw [if_neg (by simp [e])] at h1 |-
  rcases zft (op == 17) with e | e
  ·rw [if_pos e] at h1 |-; cases h1; rfl
  rw [if_neg (by simp [e])] at h1 |-
  rcases zft (op == 18) with e | e
  ·rw [if_pos e] at h1 |-; cases h1; rfl
  rw [if_neg (by simp [e])] at h1 |-
  rcases zft (op == 19) with e | e
  ·rw [if_pos e] at h1 |-; cases h1; rfl
  rw [if_neg (by simp [e])] at h1 |-
  cases h1; rfl
 rw [<- key]
theorem ziO (ha : SW a) (hb : SW b) (hx : inS a x) (hx2 : inS b x) : OK (vt [a, b]) (fun r => r.2 = true /\ inS r.1 x) := by
 refine ⟨_, ziH ha hb, ?_⟩
 obtain ⟨a0, a1, a2⟩ := ha
 obtain ⟨b0, b1, b2⟩ := hb
 obtain ⟨x0, x1⟩ := hx
 obtain ⟨y0, y1⟩ := hx2
 have h1 : zay (zay 0 a.Lo) b.Lo <= x := by unfold zay; (repeat' split) <;> omega
 have h2 : x <= vH (vH 18446744073709551615 a.Hi) b.Hi := by unfold vH; (repeat' split) <;> omega
 rw [if_pos (by omega)]
 exact ⟨rfl, h1, h2⟩
theorem zkB {op : Int} (ha : SW a) (hb : SW b) (hx : inS a x) (hy : inS b y) (o1 : 16 <= op) (o2 : op <= 19) : OK (jI op a b (hl op x y)) (fun r => r.2 = true /\ inS r.1 x) := by
 have ux := ha.in_ hx
 have uy := hb.in_ hy
 obtain ⟨a0, a1, a2⟩ := id ha
 obtain ⟨b0, b1, b2⟩ := id hb
 obtain ⟨x0, x1⟩ := id hx
 obtain ⟨y0, y1⟩ := id hy
 have ho : inB op 16 19 = true := by simp [inB]; omega
 unfold jI
 rw [zga, ho]
 simp only [za2 ha, za2 hb, zbs]
 refine OK.bind2 (R := fun o => o = false) (OK.ite (fun h => by cases h) (fun _ => OK.ite (fun h => by cases h) (fun _ => OK.ret rfl))) (fun o ho => ?_)
 subst ho
 refine OK.ite (fun h => by cases h) (fun _ => ?_)
 unfold xd
 simp only [zbs]
 refine OK.ite (fun _ => OK.ret ⟨rfl, hx⟩) (fun hs => ?_)
 have hs : b.Lo = b.Hi := by simpa using hs
 have ey : y = b.Lo := by omega
 have hlv : (op = 16 /\ hl op x y = (x == y)) \/ (op = 17 /\ hl op x y = (x != y)) \/ (op = 18 /\ hl op x y = decide (x < y)) \/ (op = 19 /\ hl op x y = decide (x >= y)) := by
  have : op = 16 \/ op = 17 \/ op = 18 \/ op = 19 := by omega
  rcases this with rfl | rfl | rfl | rfl
  ·exact .inl ⟨rfl, rfl⟩
  ·exact .inr (.inl ⟨rfl, rfl⟩)
  ·exact .inr (.inr (.inl ⟨rfl, rfl⟩))
  ·exact .inr (.inr (.inr ⟨rfl, rfl⟩))
 refine OK.bind2 (R := fun o => o = true ↔ (op = 18 /\ hl op x y = true) \/ (op = 19 /\ hl op x y = false)) ?_ (fun o ho => ?_)
 ·refine OK.ite (fun h => OK.ret ?_) (fun h => OK.ite (fun h2 => OK.ret ?_) (fun h2 => OK.ret ?_))
  ·simp at h; simp [h]
  ·have h2 : op = 19 := by simpa using h2
   subst h2; simp
  ·have h2 : op ≠ 19 := by simpa using h2
   simp only [Bool.and_eq_false_iff, beq_eq_false_iff_ne] at h
   simp [h2]
   intro e
   rcases h with h | h
   ·exact absurd e h
   ·exact h
 refine OK.ite (fun h => OK.ite (fun hz => ?_) (fun hz => ?_)) (fun h => ?_)
 ·exfalso
  have hz : b.Lo = 0 := by simpa using hz
  have hlt : x < y := by
   rcases ho.1 h with ⟨e, e2⟩ | ⟨e, e2⟩
   ·rcases hlv with ⟨e3, _⟩ | ⟨e3, _⟩ | ⟨_, e4⟩ | ⟨e3, _⟩
    ·omega
    ·omega
    ·rw [e4] at e2; exact of_decide_eq_true e2
    ·omega
   ·rcases hlv with ⟨e3, _⟩ | ⟨e3, _⟩ | ⟨e3, _⟩ | ⟨_, e4⟩
    ·omega
    ·omega
    ·omega
    ·rw [e4] at e2; have := of_decide_eq_false e2; omega
  have := ux.1
  omega
 ·have hz : b.Lo ≠ 0 := by simpa using hz
  have hlt : x < y := by
   rcases ho.1 h with ⟨e, e2⟩ | ⟨e, e2⟩
   ·rcases hlv with ⟨e3, _⟩ | ⟨e3, _⟩ | ⟨_, e4⟩ | ⟨e3, _⟩
    ·omega
    ·omega
    ·rw [e4] at e2; exact of_decide_eq_true e2
    ·omega
   ·rcases hlv with ⟨e3, _⟩ | ⟨e3, _⟩ | ⟨e3, _⟩ | ⟨_, e4⟩
    ·omega
    ·omega
    ·omega
    ·rw [e4] at e2; have := of_decide_eq_false e2; omega
  refine OK.bind2 (ziO (x := x) ha ?_ hx ?_) (fun r hr => OK.ret hr)
  ·rw [jQ (by omega) (by omega)]
   exact ⟨by simp, by simp; omega, by simp; omega⟩
  ·rw [jQ (by omega) (by omega)]
   exact ⟨ux.1, by show x <= b.Lo - 1; omega⟩
 have hn1 : ¬ ((op = 18 /\ hl op x y = true) \/ (op = 19 /\ hl op x y = false)) := fun h2 => by rw [ho.2 h2] at h; cases h
 refine OK.bind2 (R := fun o => o = true ↔ op = 18 \/ op = 19) ?_ (fun o ho2 => ?_)
 ·refine OK.ite (fun h => OK.ret ?_) (fun h => OK.ret ?_)
  ·have h : op = 18 := by simpa using h
   subst h; simp
  ·have h : op ≠ 18 := by simpa using h
   simp [h]
 refine OK.ite (fun h => ?_) (fun h => ?_)
 ·have hge : x >= y := by
   rcases ho2.1 h with e | e
   ·rcases hlv with ⟨e3, _⟩ | ⟨e3, _⟩ | ⟨_, e4⟩ | ⟨e3, _⟩
    ·omega
    ·omega
    ·have : ¬ x < y := fun hlt => hn1 (.inl ⟨e, by rw [e4]; exact decide_eq_true hlt⟩)
     omega
    ·omega
   ·rcases hlv with ⟨e3, _⟩ | ⟨e3, _⟩ | ⟨e3, _⟩ | ⟨_, e4⟩
    ·omega
    ·omega
    ·omega
    ·have : ¬ ¬ x >= y := fun hlt => hn1 (.inr ⟨e, by rw [e4]; exact decide_eq_false hlt⟩)
     omega
  refine OK.bind2 (ziO (x := x) ha ⟨b0, by simp; omega, by simp⟩ hx ⟨by show b.Lo <= x; omega, by show x <= 18446744073709551615; have := ux.2; omega⟩) (fun r hr => OK.ret hr)
 have hne : op = 16 \/ op = 17 := by
  have : ¬ (op = 18 \/ op = 19) := fun h2 => by rw [ho2.2 h2] at h; cases h
  omega
 refine OK.bind2 (R := fun o => o = true ↔ x = y) ?_ (fun o ho3 => ?_)
 ·refine OK.ite (fun h => OK.ret ?_) (fun h => OK.ite (fun h2 => OK.ret ?_) (fun h2 => OK.ret ?_))
  ·rcases hlv with ⟨e3, e4⟩ | ⟨e3, e4⟩ | ⟨e3, _⟩ | ⟨e3, _⟩
   ·rw [e4] at h |-; subst e3; simp
   ·subst e3; simp at h
   ·omega
   ·omega
  ·have h2 : op = 17 := by simpa using h2
   rcases hlv with ⟨e3, e4⟩ | ⟨e3, e4⟩ | ⟨e3, _⟩ | ⟨e3, _⟩
   ·omega
   ·rw [e4]; simp
   ·omega
   ·omega
  ·have h2 : op ≠ 17 := by simpa using h2
   rcases hlv with ⟨e3, e4⟩ | ⟨e3, e4⟩ | ⟨e3, _⟩ | ⟨e3, _⟩
   ·rw [e4] at h; subst e3
    simp at h
    simp [h]
   ·omega
   ·omega
   ·omega
 refine OK.ite (fun h => ?_) (fun h => ?_)
 ·have e := ho3.1 h
  subst e
  exact OK.bind2 (ziO ha hb hx hy) (fun r hr => OK.ret hr)
 have hxy : x ≠ y := fun e => by rw [ho3.2 e] at h; cases h
 refine OK.ite (fun h2 => ?_) (fun h2 => ?_)
 ·exfalso
  simp at h2
  omega
 refine OK.ite (fun h3 => OK.ret ⟨rfl, ?_⟩) (fun h3 => ?_)
 ·have h3 : a.Lo = b.Lo := by simpa using h3
  rw [jQ (by omega) (by omega)]
  exact ⟨by show a.Lo + 1 <= x; omega, x1⟩
 refine OK.ite (fun h4 => OK.ret ⟨rfl, ?_⟩) (fun h4 => OK.ret ⟨rfl, hx⟩)
 have h4 : a.Hi = b.Lo := by simpa using h4
 rw [jQ (by omega) (by omega)]
 exact ⟨x0, by show x <= a.Hi - 1; omega⟩
end
theorem zhq (n : Int) : sem vI n := ⟨fun h => by simp [vI] at h, fun h => by simp [vI] at h⟩
theorem zdQ {s : zd} {n : Int} (h : inS s n) : sem ⟨1, s, 0⟩ n := ⟨fun _ => h, fun h => by simp at h⟩
theorem zlu {k : Nat} {a b : za} {n : Int} (ha : WT k a) (hb : WT k b) (h : sem a n \/ sem b n) : sem (za3 a b) n := by
 unfold za3
 split
 ·exact zhq n
 rename_i hne
 have hk : a.Ki = b.Ki /\ a.Map = b.Map := by simpa using hne
 split
 ·rename_i h1
  have h1 : a.Ki = 1 := by simpa using h1
  refine zdQ ?_
  have hin : inS a.Sp n \/ inS b.Sp n := h.imp (fun h => h.1 h1) (fun h => h.1 (by omega))
  obtain ⟨a0, a1, a2⟩ := ha.span
  obtain ⟨b0, b1, b2⟩ := hb.span
  constructor
  ·show vH (vH 18446744073709551615 a.Sp.Lo) b.Sp.Lo <= n
   unfold vH
   rcases hin with ⟨i1, i2⟩ | ⟨i1, i2⟩ <;> (repeat' split) <;> omega
  ·show n <= zay (zay 0 a.Sp.Hi) b.Sp.Hi
   unfold zay
   rcases hin with ⟨i1, i2⟩ | ⟨i1, i2⟩ <;> (repeat' split) <;> omega
 ·rename_i h1
  have h1 : a.Ki ≠ 1 := by simpa using h1
  rcases h with h | h
  ·exact h
  ·exact ⟨fun e => absurd e h1, fun e => by rw [hk.2]; exact h.2 (by omega)⟩
theorem zlv {a b : za} {n : Int} (h : ziJ a b) (ha : sem a n) : sem b n := by
 refine ⟨fun e => ?_, fun e => ?_⟩
 ·obtain ⟨h1, h2, h3, h4⟩ := h.1 e
  obtain ⟨i1, i2⟩ := ha.1 h1
  exact ⟨by omega, by omega⟩
 ·have := h.2 e
  subst this
  exact ha.2 e
theorem ziP {i : zc} {k : Nat -> za} {regs : Nat -> Int} (h : i.B = 8 \/ (0 <= i.B /\ i.B < 8)) (hk : ∀ r, r < 8 -> sem (k r) (regs r)) : sem (zfh i k) (if i.B == 8 then zp i.Imm else regs i.B.toNat) := by
 unfold zfh
 split
 ·exact zdQ ⟨Int.le_refl _, Int.le_refl _⟩
 ·rename_i e
  have : i.B ≠ 8 := by simpa using e
  exact hk _ (by omega)
end Go.Proofs.YtgmmfjpmahcocaaGreatDoor

import Derived.Test.YtgmmfjpmahcocaaGreatDoorKSigsR
set_option linter.unusedVariables false
set_option linter.unusedSimpArgs false
namespace Go.Proofs.YtgmmfjpmahcocaaGreatDoor
open Go.Sx
theorem ziw {α : Type} {n r : Nat} (a : Nat -> α) (h : r < n) : (jY n a)[r]? = some (a r) := by simp [jY, h]
theorem qw {α : Type} {n : Nat} (a : Nat -> α) {t : Int} (h0 : 0 <= t) (h1 : t < n) : idx (jY n a) t = some (a t.toNat) := by
 unfold Go.Sx.idx
 rw [if_pos h0, ziw a (by omega)]
theorem vF {α : Type} {n : Nat} (a : Nat -> α) (t : Nat) (x : α) : (jY n a).set t x = jY n (zW a t x) := by
 apply List.ext_getElem?
 intro q
 by_cases hq : q < n
 ·rw [ziw _ hq]
  by_cases e : t = q
  ·subst e
   rw [List.getElem?_set_self (by rw [vU]; exact hq)]; simp [zW]
  ·rw [List.getElem?_set_ne e, ziw _ hq]; simp [zW, Ne.symm e]
 ·rw [List.getElem?_eq_none (by rw [List.length_set, vU]; omega), List.getElem?_eq_none (by rw [vU]; omega)]
theorem zhd {α : Type} {n : Nat} {a b : Nat -> α} (h : ∀ r, r < n -> a r = b r) : jY n a = jY n b := by
 unfold jY
 exact List.map_congr_left (fun r hr => h r (by simpa using hr))
theorem zmh (a : za) : xn [a] = some (if a.Ki != 1 then 33 else 0) := by
 by_cases h : (a.Ki != 1) = true
 ·rw [if_pos h]
  show (zF [a] 0 (zQ (zF [a]) _ 0 1) ()).bind _ = _
  unfold zF
  show ((if (a.Ki != 1) = true then some (.inr 33) else _ : Option (Unit ⊕ Int))).bind _ = _
  rw [if_pos h]; rfl
 ·rw [if_neg h]
  show (zF [a] 0 (zQ (zF [a]) _ 0 1) ()).bind _ = _
  unfold zF
  show ((if (a.Ki != 1) = true then some (.inr 33) else _ : Option (Unit ⊕ Int))).bind _ = _
  rw [if_neg h]; rfl
theorem zmi (a b : za) : xn [a, b] = some (if (a.Ki != 1 || b.Ki != 1) then 33 else 0) := by
 show (zF [a, b] 0 (zQ (zF [a, b]) _ 1 1) ()).bind _ = _
 by_cases h : (a.Ki != 1) = true
 ·rw [h, Bool.true_or, if_pos rfl]
  unfold zF
  show ((if (a.Ki != 1) = true then some (.inr 33) else _ : Option (Unit ⊕ Int))).bind _ = _
  rw [if_pos h]; rfl
 ·have h' : (a.Ki != 1) = false := by simpa using h
  rw [h', Bool.false_or]
  have e : zF [a, b] 0 (zQ (zF [a, b]) (fun (s : Unit) => (.inl ())) 1 1) () = (zQ (zF [a, b]) (fun (s : Unit) => (.inl ())) 1 1) () := by
   conv => lhs; unfold zF
   show ((if (a.Ki != 1) = true then some (.inr 33) else _ : Option (Unit ⊕ Int))) = _
   rw [if_neg h]; rfl
  rw [e]
  show (zF [a, b] 1 (zQ (zF [a, b]) _ 0 2) ()).bind _ = _
  unfold zF
  show ((if (b.Ki != 1) = true then some (.inr 33) else _ : Option (Unit ⊕ Int))).bind _ = _
  by_cases hb : (b.Ki != 1) = true
  ·rw [if_pos hb, if_pos hb]; rfl
  ·rw [if_neg hb, if_neg hb]; rfl
theorem zlZ (x y : Int) : zbh [x, y] = some (if x != 0 then x else y) := by
 show (qh [x, y] 0 (zQ (qh [x, y]) _ 1 1) ()).bind _ = _
 by_cases h : (x != 0) = true
 ·rw [if_pos h]
  unfold qh
  show ((if (x != 0) = true then some (.inr x) else _ : Option (Unit ⊕ Int))).bind _ = _
  rw [if_pos h]; rfl
 ·rw [if_neg h]
  have e : qh [x, y] 0 (zQ (qh [x, y]) (fun (s : Unit) => (.inl ())) 1 1) () = (zQ (qh [x, y]) (fun (s : Unit) => (.inl ())) 1 1) () := by
   conv => lhs; unfold qh
   show ((if (x != 0) = true then some (.inr x) else _ : Option (Unit ⊕ Int))) = _
   rw [if_neg h]; rfl
  rw [e]
  show (qh [x, y] 1 (zQ (qh [x, y]) _ 0 2) ()).bind _ = _
  unfold qh
  show ((if (y != 0) = true then some (.inr y) else _ : Option (Unit ⊕ Int))).bind _ = _
  by_cases hb : (y != 0) = true
  ·rw [if_pos hb]; rfl
  ·have : y = 0 := by simpa using hb
   subst this; rfl
theorem znf {t : za} (h : SW t.Sp) : zbg t = some (if decide (t.Sp.Hi > 15) then 35 else 0) := by
 unfold zbg vl
 rw [za2 h]
 simp only [zbs, if_true]
 rw [if_pos (decide_eq_true h.1)]
 simp only [zbs]
 by_cases hc : t.Sp.Hi <= 15
 ·rw [decide_eq_true hc, decide_eq_false (by omega)]; rfl
 ·rw [decide_eq_false hc, decide_eq_true (by omega)]; rfl
theorem zkb {n : Nat} {a b : za} (ha : WT n a) (hb : WT n b) : ∃ r, zbW a b = some r /\ zaE a b = some r := by
 obtain ⟨r, e1, e2⟩ := zgB ha.span hb.span
 unfold zbW zaE
 rcases hb with rfl | ⟨k1, _, m1⟩ | ⟨k1, s1, m1, m2⟩
 ·exact ⟨true, rfl, rfl⟩
 ·rw [k1, e1, e2]
  by_cases hk : a.Ki = 1
  ·rw [hk]; exact ⟨r, rfl, rfl⟩
  ·have x1 : (a.Ki == 1) = false := by simpa using hk
   have x2 : (a.Ki != 1) = true := by simpa using hk
   rw [x1, x2]; exact ⟨false, rfl, rfl⟩
 ·rw [k1]
  rcases ha with rfl | ⟨ka, sa, ma⟩ | ⟨ka, sa, ma, mb⟩
  ·exact ⟨false, rfl, rfl⟩
  ·rw [ka]; exact ⟨false, rfl, rfl⟩
  ·rw [ka, sa, s1]
   refine ⟨a.Map == b.Map, ?_, rfl⟩
   show some _ = some _
   simp
theorem zg0 {i : zc} {k : Nat -> za} (h : i.B = 8 \/ (0 <= i.B /\ i.B < 8)) : qW i (jY 8 k) = some (zfh i k) := by
 unfold qW zfh
 rcases h with h | h
 ·rw [h]; rfl
 ·have : (i.B == 8) = false := by simp; omega
  rw [this]
  simp only [zfe, if_false]
  rw [qw k h.1 (by omega)]; rfl
theorem zix : zaB = some ⟨1, ⟨0, 18446744073709551615⟩, 0⟩ := rfl
theorem zl0 (a b : Int) : xp a b = some ⟨1, ⟨a, b⟩, 0⟩ := rfl
theorem zlp {n : Nat} {k kh : Nat -> za} (hk : ∀ r, r < 8 -> WT n (k r)) (hh : ∀ r, r < 8 -> WT n (kh r)) {j : ze} {p : Int} {i : zc} (hj : idx j.ca (w64 (p - i.D)) = some kh) :
  ∀ (c r : Nat), r + c = 8 -> ∃ b : Bool, zQ (ql j p (i, k)) (fun (s : Unit) => (.inl ())) c r () = some (if b then .inl () else .inr (k, 33)) /\
   zQ (qK (jY 8 k) (jY 8 kh)) (fun (s : Unit) => (.inl ())) c r () = some (if b then .inl () else .inr 33) := by
 intro c
 induction c with
 | zero => intro r _; exact ⟨true, rfl, rfl⟩
 | succ c ih =>
  intro r hr
  obtain ⟨f, e1, e2⟩ := zkb (hk r (by omega)) (hh r (by omega))
  have s1 : ∀ again, ql j p (i, k) r again () = if f then again () else some (.inr (k, 33)) := by
   intro again
   unfold ql
   rw [zl3 (by omega : r < 8), hj]
   simp only [zbs, e1]
   cases f <;> rfl
  have s2 : ∀ again, qK (jY 8 k) (jY 8 kh) r again () = if f then again () else some (.inr 33) := by
   intro again
   unfold qK
   rw [qw k (by omega) (by omega), qw kh (by omega) (by omega)]
   simp only [zbs, Int.toNat_natCast, e2]
   cases f <;> rfl
  show ∃ b, ql j p (i, k) r (zQ (ql j p (i, k)) (fun (s : Unit) => (.inl ())) c (r + 1)) () = _ /\ qK (jY 8 k) (jY 8 kh) r (zQ (qK (jY 8 k) (jY 8 kh)) (fun (s : Unit) => (.inl ())) c (r + 1)) () = _
  rw [s1, s2]
  cases f with
  | true => exact ih (r + 1) (by omega)
  | false => exact ⟨false, rfl, rfl⟩
theorem zjd {fu : Nat} (hf : 70 <= fu) {m : zi} {j : ze} (h : JI m j) (hg : zen m.Co) {p : Nat} (hp : p < m.Co.length) {i : zc} {k kh : Nat -> za} (hi : m.Co[p]? = some i) (hk : j.ca[p]? = some k)
  (hh : ∀ r, r < 8 -> WT m.Ms.length (kh r)) (hkh : i.Op = 20 -> idx j.ca (w64 ((p : Int) - i.D)) = some kh) :
  ∃ k' e, jV 1000 j p = some (k', e) /\ xK m p (jY 8 k) (jY 8 kh) = some e /\ (15 <= i.Op -> i.Op <= 20 -> k' = k) /\
   (e = 0 -> ∀ b, ¬ (16 <= i.Op /\ i.Op <= 19) -> qD fu m p (jY 8 k) b = some (jY 8 k', true)) := by
 have hr : zO i = true := hg.fine.right hi
 have ho := za4 hr
 have hwt := h.wt p k hk
 have hA := zbl hr
 have hD := zdd hr
 have hS := qP hr
 have eidx : idx m.Co (p : Int) = some i := by unfold Go.Sx.idx; rw [if_pos (by omega)]; exact hi
 have eidk : idx j.ca (p : Int) = some k := by unfold Go.Sx.idx; rw [if_pos (by omega)]; exact hk
 have hm := h.mod
 have hroom : room (([] : List za).length + (jY 8 k).length) 32 = some () := by rw [vU]; rfl
 have e0 : ([] : List za) ++ jY 8 k = jY 8 k := rfl
 have hsw : ∀ t, WT m.Ms.length t -> SW t.Sp := fun t ht => ht.span
 have hkA := hwt i.A.toNat (by omega)
 unfold jV xK qD
 rw [hm, eidx, eidk]
 simp only [zbs, zgt hr, zmE hr, zdf, ziQ, hroom, e0, zf0 hA.1 hA.2, qw k hA.1 hA.2]
 by_cases g1 : 1 <= i.Op /\ i.Op <= 10
 ·have hs := hS (.inl (by omega))
  have hw := zcu hs hwt
  have q0 : (i.Op == 0) = false := by simp; omega
  have q11 : (i.Op == 11) = false := by simp; omega
  have q12 : (i.Op == 12) = false := by simp; omega
  have q13 : (i.Op == 13) = false := by simp; omega
  have q14 : (i.Op == 14) = false := by simp; omega
  have q15 : (i.Op == 15) = false := by simp; omega
  have q16 : (i.Op == 16) = false := by simp; omega
  have q17 : (i.Op == 17) = false := by simp; omega
  have q18 : (i.Op == 18) = false := by simp; omega
  have q19 : (i.Op == 19) = false := by simp; omega
  have q20 : (i.Op == 20) = false := by simp; omega
  have q21 : (i.Op == 21) = false := by simp; omega
  have q22 : (i.Op == 22) = false := by simp; omega
  have d12 : decide (i.Op <= 12) = true := decide_eq_true (by omega)
  have b1 : inB i.Op 1 10 = true := by unfold inB; rw [zae]; exact ⟨decide_eq_true g1.1, decide_eq_true g1.2⟩
  have dD := hD (by omega)
  obtain ⟨s, e1, e2⟩ := zmQ hf (op := i.Op) hkA.span hw.span g1.1 g1.2
  simp only [q0, q11, q12, q13, q14, q15, q16, q17, q18, q19, q20, q21, q22, d12, b1, Bool.true_or, Bool.or_self, zfe, if_false, if_true, zbs, zeF hs, zg0 hs, e1, e2, zmi, vQ, zl0, zf0 dD.1 dD.2, qw k dD.1 dD.2, vF, Bool.false_and]
  refine ⟨_, _, rfl, ?_, fun h => absurd h (by first | decide | omega), fun _ _ _ => rfl⟩
  by_cases ha : ((k i.A.toNat).Ki != 1) = true
  ·simp only [ha, if_true, zbs, Bool.true_or]
  ·have ha' : ((k i.A.toNat).Ki != 1) = false := by simpa using ha
   by_cases hb : ((zfh i k).Ki != 1) = true
   ·simp only [ha', hb, if_true, zbs, Bool.false_or, zfe, if_false]
   ·have hb' : ((zfh i k).Ki != 1) = false := by simpa using hb
    simp only [ha', hb', zbs, Bool.false_or, zfe, if_false]
 by_cases g2 : 16 <= i.Op /\ i.Op <= 19
 ·have hs := hS (.inr (by omega))
  have hw := zcu hs hwt
  have q0 : (i.Op == 0) = false := by simp; omega
  have q11 : (i.Op == 11) = false := by simp; omega
  have q12 : (i.Op == 12) = false := by simp; omega
  have q13 : (i.Op == 13) = false := by simp; omega
  have q14 : (i.Op == 14) = false := by simp; omega
  have q15 : (i.Op == 15) = false := by simp; omega
  have q20 : (i.Op == 20) = false := by simp; omega
  have q21 : (i.Op == 21) = false := by simp; omega
  have q22 : (i.Op == 22) = false := by simp; omega
  have d12 : (decide (i.Op <= 12) || (decide (16 <= i.Op) && decide (i.Op <= 19))) = true := by
   rw [Bool.or_eq_true, zae]; exact .inr ⟨decide_eq_true g2.1, decide_eq_true g2.2⟩
  have hj : (if (i.Op == 16) = true then some (i.Op == 16) else if (i.Op == 17) = true then some (i.Op == 17) else if (i.Op == 18) = true then some (i.Op == 18) else some (i.Op == 19) : Option Bool) = some true := by
   have hop : i.Op = 16 \/ i.Op = 17 \/ i.Op = 18 \/ i.Op = 19 := by omega
   rcases hop with e | e | e | e <;> rw [e] <;> rfl
  simp only [q0, q11, q12, q13, q14, q15, q20, q21, q22, d12, hj, Bool.or_self, zfe, if_false, if_true, zbs, zeF hs, zg0 hs, zmi, Bool.false_and]
  refine ⟨_, _, rfl, ?_, fun _ _ => rfl, fun _ _ hx => absurd g2 hx⟩
  by_cases ha : ((k i.A.toNat).Ki != 1) = true
  ·simp only [ha, if_true, zbs, Bool.true_or]
  ·have ha' : ((k i.A.toNat).Ki != 1) = false := by simpa using ha
   by_cases hb : ((zfh i k).Ki != 1) = true
   ·simp only [ha', hb, if_true, zbs, Bool.false_or, zfe, if_false]
   ·have hb' : ((zfh i k).Ki != 1) = false := by simpa using hb
    simp only [ha', hb', zbs, Bool.false_or, zfe, if_false]
 have hop : i.Op = 0 \/ i.Op = 11 \/ i.Op = 12 \/ i.Op = 13 \/ i.Op = 14 \/ i.Op = 15 \/ i.Op = 20 \/ i.Op = 21 \/ i.Op = 22 := by omega
 rcases hop with e | e | e | e | e | e | e | e | e
 ·have hs := hS (.inl (by omega))
  have dD := hD (by omega)
  simp only [e, Int.reduceBEq, Int.reduceLE, decide_true, Bool.true_or, if_true, zbs, zeF hs, zg0 hs, zf0 dD.1 dD.2, qw k dD.1 dD.2, vF]
  by_cases hc : ((zfh i k).Ki == 0) = true
  ·simp only [hc, if_true, zbs]
   exact ⟨_, _, rfl, rfl, fun h => absurd h (by first | decide | omega), fun h => by cases h⟩
  ·simp only [hc, zfe, if_false, zbs, Int.reduceBEq, Bool.or_self, Bool.false_and]
   exact ⟨_, _, rfl, rfl, fun h => absurd h (by first | decide | omega), fun _ _ _ => rfl⟩
 ·have hs := hS (.inl (by omega))
  have hw := zcu hs hwt
  have dD := hD (by omega)
  have b1 : inB 11 1 10 = false := rfl
  simp only [e, b1, Int.reduceBEq, Int.reduceLE, decide_true, Bool.true_or, Bool.or_true, Bool.or_false, zfe, if_false, if_true, zbs, zeF hs, zg0 hs, zf0 dD.1 dD.2, qw k dD.1 dD.2, vF, za6, vQ, zix, zmh, znf hw.span, zlZ, Bool.or_self, Bool.true_and]
  refine ⟨_, _, rfl, ?_, fun h => absurd h (by first | decide | omega), fun _ _ _ => rfl⟩
  by_cases hb : ((zfh i k).Ki != 1) = true
  ·simp only [hb, if_true, zbs]; rfl
  ·simp only [hb, zfe, if_false, zbs]
   by_cases hx : (zfh i k).Sp.Hi > 15
   ·simp only [decide_eq_true hx, if_true]; rfl
   ·simp only [decide_eq_false hx, zfe, if_false]; rfl
 ·have hs := hS (.inl (by omega))
  have hw := zcu hs hwt
  have b1 : inB 12 1 10 = false := rfl
  have b2 : inB 12 16 19 = false := rfl
  simp only [e, b1, b2, Int.reduceBEq, Int.reduceLE, decide_true, Bool.true_or, Bool.or_true, Bool.or_false, zfe, if_false, if_true, zbs, zeF hs, zg0 hs, zmi, znf hw.span, zlZ, Bool.or_self, Bool.true_and]
  refine ⟨_, _, rfl, ?_, fun h => absurd h (by first | decide | omega), fun _ _ _ => rfl⟩
  by_cases ha : ((k i.A.toNat).Ki != 1) = true
  ·simp only [ha, if_true, zbs, Bool.true_or]; rfl
  ·have ha' : ((k i.A.toNat).Ki != 1) = false := by simpa using ha
   by_cases hb : ((zfh i k).Ki != 1) = true
   ·simp only [ha', hb, if_true, zbs, Bool.false_or, zfe, if_false]; rfl
   ·have hb' : ((zfh i k).Ki != 1) = false := by simpa using hb
    simp only [ha', hb', zbs, Bool.false_or, zfe, if_false]
    by_cases hx : (zfh i k).Sp.Hi > 15
    ·simp only [decide_eq_true hx, if_true]; rfl
    ·simp only [decide_eq_false hx, zfe, if_false]; rfl
 ·have dD := hD (by omega)
  have b1 : inB 13 1 10 = false := rfl
  simp only [e, b1, Int.reduceBEq, Int.reduceLE, decide_true, decide_false, Bool.true_or, Bool.or_true, Bool.or_false, zfe, if_false, if_true, zbs, zf0 dD.1 dD.2, qw k dD.1 dD.2, vF, za6, vQ, zix, Bool.or_self, Bool.false_and, Bool.true_and]
  exact ⟨_, _, rfl, rfl, fun h => absurd h (by first | decide | omega), fun _ _ _ => rfl⟩
 ·have dD := hD (by omega)
  have b1 : inB 14 1 10 = false := rfl
  simp only [e, b1, Int.reduceBEq, Int.reduceLE, decide_true, decide_false, Bool.true_or, Bool.or_true, Bool.or_false, zfe, if_false, if_true, zbs, zf0 dD.1 dD.2, qw k dD.1 dD.2, vF, Bool.or_self, Bool.false_and, Bool.true_and]
  by_cases hx : i.Imm >= (m.Ms.length : Int)
  ·simp only [decide_eq_true hx, if_true, zbs]
   exact ⟨_, _, rfl, rfl, fun h => absurd h (by first | decide | omega), fun _ _ _ => rfl⟩
  ·simp only [decide_eq_false hx, zfe, if_false, zbs]
   exact ⟨_, _, rfl, rfl, fun h => absurd h (by first | decide | omega), fun _ _ _ => rfl⟩
 ·have b1 : inB 15 1 10 = false := rfl
  have b2 : inB 15 16 19 = false := rfl
  simp only [e, b1, b2, Int.reduceBEq, Int.reduceLE, decide_true, decide_false, Bool.true_or, Bool.or_true, Bool.or_false, zfe, if_false, if_true, zbs, Bool.or_self, Bool.false_and, Bool.true_and]
  exact ⟨_, _, rfl, rfl, fun _ _ => rfl, fun _ _ _ => rfl⟩
 ·have b1 : inB 20 1 10 = false := rfl
  have b2 : inB 20 16 19 = false := rfl
  simp only [e, b1, b2, Int.reduceBEq, Int.reduceLE, decide_true, decide_false, Bool.true_or, Bool.or_true, Bool.or_false, zfe, if_false, if_true, zbs, Bool.or_self, Bool.false_and, Bool.true_and, Bool.and_false, zmh]
  by_cases ha : ((k i.A.toNat).Ki != 1) = true
  ·simp only [ha, if_true, zbs]
   exact ⟨_, _, rfl, rfl, fun _ _ => rfl, fun h => by cases h⟩
  ·simp only [ha, zfe, if_false, zbs, Int.reduceBNe]
   obtain ⟨b, e1, e2⟩ := zlp (i := i) (p := (p : Int)) (j := j) hwt hh (hkh e) 8 0 rfl
   rw [e1, e2]
   cases b with
   | true => exact ⟨_, _, rfl, rfl, fun _ _ => rfl, fun _ _ _ => rfl⟩
   | false => exact ⟨_, _, rfl, rfl, fun _ _ => rfl, fun h => by cases h⟩
 ·have b1 : inB 21 1 10 = false := rfl
  have hI := zbL hr e
  obtain ⟨c, hc⟩ : ∃ c : Fin 7, i.Imm = ((c : Nat) : Int) := ⟨⟨i.Imm.toNat, by omega⟩, by simp; omega⟩
  obtain ⟨l, ha, hl, _⟩ := zkC c
  have hcut : cut (jY 8 k) 1 (w64 (1 + ((l.length : Nat) : Int))) = some (((jY 8 k).take (1 + l.length)).drop 1) := by
   rw [zI (by omega) (by omega), show (1 : Int) + ((l.length : Nat) : Int) = ((1 + l.length : Nat) : Int) by push_cast; rfl]
   exact zg3 (lo := 1) (by omega) (by rw [vU]; omega)
  have hys : ∀ y ∈ ((jY 8 k).take (1 + l.length)).drop 1, SW y.Sp := by
   intro y hy
   have := List.mem_of_mem_take (List.mem_of_mem_drop hy)
   unfold jY at this
   simp only [List.mem_map, List.mem_range] at this
   obtain ⟨r, hr8, rfl⟩ := this
   exact (hwt r hr8).span
  obtain ⟨l2, ha2, hl2⟩ := zho c
  have hck := zjK c hys
  obtain ⟨y, hy, _⟩ := zh2 c ha2 (((jY 8 k).take (1 + l.length)).drop 1)
  obtain ⟨s, hs1, _⟩ := zgu c
  have hres : ∃ r, zaG ((c : Nat) : Int) = some r := by
   unfold zaG
   rw [hs1]
   exact ⟨_, rfl⟩
  obtain ⟨r, hres⟩ := hres
  have hres2 := ziR c
  rw [hres] at hres2
  have haR := zh7 c
  rw [ha] at haR
  rw [hy] at hck
  simp only [e, b1, hc, <- haR, ha, hcut, hy, <- hck, hres, <- hres2, Int.reduceBEq, Int.reduceLE, decide_true, decide_false, Bool.true_or, Bool.or_true, Bool.or_false, zfe, if_false, if_true, zbs, qw k (show (0 : Int) <= 0 by decide) (show (0 : Int) < (8 : Nat) by decide), vF, Bool.or_self, Bool.false_and, Bool.true_and, Bool.and_false]
  exact ⟨_, _, rfl, rfl, fun _ h => absurd h (by first | decide | omega), fun _ _ _ => rfl⟩
 ·have b1 : inB 22 1 10 = false := rfl
  have b2 : inB 22 16 19 = false := rfl
  simp only [e, b1, b2, Int.reduceBEq, Int.reduceLE, decide_true, decide_false, Bool.true_or, Bool.or_true, Bool.or_false, zfe, if_false, if_true, zbs, Bool.or_self, Bool.false_and, Bool.true_and, Bool.and_false, zmh]
  by_cases ha : ((k i.A.toNat).Ki != 1) = true
  ·simp only [ha, if_true, zbs]
   exact ⟨_, _, rfl, rfl, fun _ h => absurd h (by first | decide | omega), fun h => by cases h⟩
  ·simp only [ha, zfe, if_false, zbs]
   exact ⟨_, _, rfl, rfl, fun _ h => absurd h (by first | decide | omega), fun _ _ _ => rfl⟩
theorem ziy {fu : Nat} {m : zi} {n p : Nat} {i : zc} {k : Nat -> za} (hi : m.Co[p]? = some i) (hr : zO i = true) (hwt : ∀ r, r < 8 -> WT n (k r)) (g : 16 <= i.Op /\ i.Op <= 19) (b : Bool) :
  ∃ s ok, jI i.Op (k i.A.toNat).Sp (zfh i k).Sp b = some (s, ok) /\ qD fu m p (jY 8 k) b = some (if ok then (jY 8 (zW k i.A.toNat ⟨1, s, 0⟩), true) else ([], false)) := by
 have hA := zbl hr
 have hs := qP hr (.inr (by omega))
 have hw := zcu hs hwt
 have eidx : idx m.Co (p : Int) = some i := by unfold Go.Sx.idx; rw [if_pos (by omega)]; exact hi
 have hroom : room (([] : List za).length + (jY 8 k).length) 32 = some () := by rw [vU]; rfl
 have e0 : ([] : List za) ++ jY 8 k = jY 8 k := rfl
 have q0 : (i.Op == 0) = false := by simp; omega
 have q11 : (i.Op == 11) = false := by simp; omega
 have q13 : (i.Op == 13) = false := by simp; omega
 have q14 : (i.Op == 14) = false := by simp; omega
 have q21 : (i.Op == 21) = false := by simp; omega
 have b1 : inB i.Op 1 10 = false := by unfold inB; rw [Bool.and_eq_false_iff]; exact .inr (decide_eq_false (by omega))
 have b2 : inB i.Op 16 19 = true := by unfold inB; rw [zae]; exact ⟨decide_eq_true g.1, decide_eq_true g.2⟩
 obtain ⟨r, e1, e2⟩ := ziY (op := i.Op) (h := b) (hwt i.A.toNat (by omega)).span hw.span g.1 g.2
 refine ⟨r.1, r.2, e1, ?_⟩
 unfold qD
 rw [eidx]
 simp only [zbs, zdf, ziQ, hroom, e0, q0, q11, q13, q14, q21, b1, b2, Bool.or_self, zfe, if_false, if_true, qw k hA.1 hA.2, zg0 hs, e2, zl0, vF]
 cases r.2 <;> rfl
end Go.Proofs.YtgmmfjpmahcocaaGreatDoor

import Derived.Test.YtgmmfjpmahcocaaGreatDoorKSpan2
set_option linter.unusedVariables false
set_option linter.unusedSimpArgs false
namespace Go.Proofs.YtgmmfjpmahcocaaGreatDoor
open Go.Sx
def vI : za := ⟨0, ⟨0, 0⟩, 0⟩
def WT (n : Nat) (x : za) : Prop := x = vI \/ (x.Ki = 1 /\ SW x.Sp /\ x.Map = 0) \/ (x.Ki = 2 /\ x.Sp = ⟨0, 0⟩ /\ 0 <= x.Map /\ x.Map < n)
theorem WT.span {n : Nat} {x : za} (h : WT n x) : SW x.Sp := by
 rcases h with rfl | h | h
 ·exact SW.zero
 ·exact h.2.1
 ·rw [h.2.1]; exact SW.zero
theorem WT.num {n : Nat} {s : zd} (h : SW s) : WT n ⟨1, s, 0⟩ := .inr (.inl ⟨rfl, h, rfl⟩)
theorem WT.zero {n : Nat} : WT n vI := .inl rfl
theorem vQ (s : zd) : jA s = some ⟨1, s, 0⟩ := rfl
theorem zkq (x : Int) : zc6 x = some ⟨x, x⟩ := rfl
theorem za2 {s : zd} (h : SW s) : ve s = some true := by rw [zcP, decide_eq_true h.2.1]
theorem SW.join {a b : zd} (ha : SW a) (hb : SW b) : SW ⟨vH (vH 18446744073709551615 a.Lo) b.Lo, zay (zay 0 a.Hi) b.Hi⟩ := by
 obtain ⟨a0, a1, a2⟩ := ha
 obtain ⟨b0, b1, b2⟩ := hb
 unfold vH zay
 refine ⟨?_, ?_, ?_⟩ <;> simp only <;> (repeat' split) <;> omega
theorem zmv {a b : zd} (ha : SW a) (hb : SW b) : ze8 [a, b] = some (⟨vH (vH 18446744073709551615 a.Lo) b.Lo, zay (zay 0 a.Hi) b.Hi⟩, true) := by
 unfold ze8
 simp [zQ, zdH, idx, za2 ha, za2 hb]
def za3 (a b : za) : za :=
 if (a.Ki != b.Ki) || (a.Map != b.Map) then vI
 else if a.Ki == 1 then ⟨1, ⟨vH (vH 18446744073709551615 a.Sp.Lo) b.Sp.Lo, zay (zay 0 a.Sp.Hi) b.Sp.Hi⟩, 0⟩
 else a
theorem zgq {a b : za} (ha : SW a.Sp) (hb : SW b.Sp) : zcn a b = some (za3 a b) := by
 unfold zcn za3
 rw [zmv ha hb]
 split
 ·rfl
 ·split <;> rfl
theorem WT.join {n : Nat} {a b : za} (ha : WT n a) (hb : WT n b) : WT n (za3 a b) := by
 unfold za3
 split
 ·exact WT.zero
 ·split
  ·exact WT.num (SW.join ha.span hb.span)
  ·exact ha
theorem ziH {a b : zd} (ha : SW a) (hb : SW b) : vt [a, b] = some (if zay (zay 0 a.Lo) b.Lo <= vH (vH 18446744073709551615 a.Hi) b.Hi then (⟨zay (zay 0 a.Lo) b.Lo, vH (vH 18446744073709551615 a.Hi) b.Hi⟩, true) else (⟨0, 0⟩, false)) := by
 unfold vt
 simp only [za6, zbs]
 by_cases h : zay (zay 0 a.Lo) b.Lo <= vH (vH 18446744073709551615 a.Hi) b.Hi
 ·simp [zQ, zco, idx, Int.not_lt.2 ha.2.1, Int.not_lt.2 hb.2.1, zcP, h]
 ·simp [zQ, zco, idx, Int.not_lt.2 ha.2.1, Int.not_lt.2 hb.2.1, zcP, h]
theorem ziI {a b : zd} (ha : SW a) (hb : SW b) : OK (vt [a, b]) (fun r => SW r.1) := by
 refine ⟨_, ziH ha hb, ?_⟩
 obtain ⟨a0, a1, a2⟩ := ha
 obtain ⟨b0, b1, b2⟩ := hb
 split
 ·rename_i h
  refine ⟨?_, h, ?_⟩
  ·show 0 <= zay (zay 0 a.Lo) b.Lo
   unfold zay; (repeat' split) <;> omega
  ·show vH (vH 18446744073709551615 a.Hi) b.Hi < _
   unfold vH; (repeat' split) <;> omega
 ·exact SW.zero
theorem zjj (op a b : Int) : OK (zaH op a b) (fun r => r.2 = inB op 16 19) := by
 unfold zaH
 have q : ∀ k : Int, 16 <= k -> k <= 19 -> (op == k) = true -> true = inB op 16 19 := by
  intro k h1 h2 h3
  have : op = k := by simpa using h3
  subst this; simp [inB, h1, h2]
 refine OK.ite (fun h => OK.ret (q 16 (by omega) (by omega) h)) (fun n1 => ?_)
 refine OK.ite (fun h => OK.ret (q 17 (by omega) (by omega) h)) (fun n2 => ?_)
 refine OK.ite (fun h => OK.ret (q 18 (by omega) (by omega) h)) (fun n3 => ?_)
 refine OK.ite (fun h => OK.ret (q 19 (by omega) (by omega) h)) (fun n4 => OK.ret ?_)
 simp only [beq_eq_false_iff_ne, ne_eq] at n1 n2 n3 n4
 show false = _
 rw [Eq.comm, inB, Bool.and_eq_false_iff]
 simp only [decide_eq_false_iff_not]
 omega
theorem zgr {op : Int} {a b : zd} {h : Bool} (ha : SW a) (hb : SW b) : OK (jI op a b h) (fun r => SW r.1) := by
 obtain ⟨a0, a1, a2⟩ := id ha
 obtain ⟨b0, b1, b2⟩ := id hb
 unfold jI
 refine OK.bind2 (zjj op 0 0) (fun r hr => ?_)
 simp only [za2 ha, za2 hb, zbs]
 refine OK.bind2 (R := fun _ => True) (OK.ite (fun _ => OK.ret trivial) (fun _ => OK.ite (fun _ => OK.ret trivial) (fun _ => OK.ret trivial))) (fun o _ => ?_)
 refine OK.ite (fun _ => OK.ret SW.zero) (fun _ => ?_)
 unfold xd
 simp only [zbs]
 refine OK.ite (fun _ => OK.ret ha) (fun hs => ?_)
 have hs : b.Lo = b.Hi := by simpa using hs
 refine OK.bind2 (R := fun _ => True) (OK.ite (fun _ => OK.ret trivial) (fun _ => OK.ite (fun _ => OK.ret trivial) (fun _ => OK.ret trivial))) (fun o _ => ?_)
 refine OK.ite (fun _ => OK.ite (fun _ => OK.ret SW.zero) (fun hz => ?_)) (fun _ => ?_)
 ·have hz : b.Lo ≠ 0 := by simpa using hz
  refine OK.bind2 (ziI ha ?_) (fun x hx => OK.ret hx)
  rw [jQ (by omega) (by omega)]
  exact ⟨by simp, by simp; omega, by simp; omega⟩
 refine OK.bind2 (R := fun _ => True) (OK.ite (fun _ => OK.ret trivial) (fun _ => OK.ret trivial)) (fun o _ => ?_)
 refine OK.ite (fun _ => OK.bind2 (ziI ha ⟨b0, by simp; omega, by simp⟩) (fun x hx => OK.ret hx)) (fun _ => ?_)
 refine OK.bind2 (R := fun _ => True) (OK.ite (fun _ => OK.ret trivial) (fun _ => OK.ite (fun _ => OK.ret trivial) (fun _ => OK.ret trivial))) (fun o _ => ?_)
 refine OK.ite (fun _ => OK.bind2 (ziI ha hb) (fun x hx => OK.ret hx)) (fun _ => ?_)
 refine OK.ite (fun _ => OK.ret SW.zero) (fun hne => ?_)
 have hne : ¬ (a.Lo = b.Lo /\ a.Hi = b.Hi) := by
  rintro ⟨e1, e2⟩
  rw [e1, e2] at hne
  simp at hne
 refine OK.ite (fun h1 => OK.ret ?_) (fun h1 => ?_)
 ·have h1 : a.Lo = b.Lo := by simpa using h1
  rw [jQ (by omega) (by omega)]
  exact ⟨by simp; omega, by simp; omega, by simpa using a2⟩
 refine OK.ite (fun h2 => OK.ret ?_) (fun _ => OK.ret ha)
 have h1 : a.Lo ≠ b.Lo := by simpa using h1
 have h2 : a.Hi = b.Lo := by simpa using h2
 rw [jQ (by omega) (by omega)]
 exact ⟨by simpa using a0, by simp; omega, by simp; omega⟩
theorem zct (l : List za) : OK (xn l) (fun _ => True) := by
 unfold xn
 refine OK.bind2 (OK.count (Q := fun _ => True) (fun _ _ => True) trivial (fun i s again hi _ k => ?_) (fun _ _ => trivial)) (fun o _ => ?_)
 ·unfold zF
  exact OK.bind (OK.getN hi (fun x _ => OK.ite (fun _ => OK.ret trivial) (fun _ => k _ trivial)))
 ·cases o <;> exact OK.ret trivial
theorem zf9 (l : List Int) : OK (zbh l) (fun r => r = 0 -> ∀ x ∈ l, x = 0) := by
 unfold zbh
 refine OK.bind2 (OK.count (Q := fun o => match o with | .inl _ => ∀ x ∈ l, x = 0 | .inr r => r ≠ 0) (fun i _ => ∀ q x, q < i -> l[q]? = some x -> x = 0) (fun q x h => by omega) (fun i s again hi hI k => ?_) (fun _ hI => ?_)) (fun o ho => ?_)
 ·unfold qh
  refine OK.bind (OK.getN hi (fun x hx => OK.ite (fun h => OK.ret (by simpa using h)) (fun h => k _ (fun q y hq hy => ?_))))
  by_cases hqi : q < i
  ·exact hI q y hqi hy
  ·obtain rfl : q = i := by omega
   rw [hx] at hy; cases hy
   simpa using h
 ·intro x hx
  obtain ⟨q, hq⟩ := List.mem_iff_getElem?.1 hx
  exact hI q x (zes.1 hq).1 hq
 ·cases o with
  | inl _ => exact OK.ret (fun _ => ho)
  | inr r => exact OK.ret (fun h => absurd h ho)
theorem zfg (a b : zd) : OK (vl a b) (fun r => r = true ↔ a.Lo <= a.Hi /\ b.Lo <= a.Lo /\ a.Hi <= b.Hi) := by
 unfold vl
 rw [zcP]
 simp only [zbs]
 refine OK.bind2 (R := fun r => r = true ↔ a.Lo <= a.Hi /\ b.Lo <= a.Lo /\ a.Hi <= b.Hi) ?_ (fun x hx => OK.ret hx)
 refine OK.ite (fun h1 => OK.ite (fun h2 => OK.ret ?_) (fun h2 => OK.ret ?_)) (fun h1 => OK.ret ?_)
 ·simp at h1 h2 |-; omega
 ·simp at h1 h2 |-; omega
 ·simp at h1 |-; omega
def ziJ (a b : za) : Prop := (b.Ki = 1 -> a.Ki = 1 /\ a.Sp.Lo <= a.Sp.Hi /\ b.Sp.Lo <= a.Sp.Lo /\ a.Sp.Hi <= b.Sp.Hi) /\ (b.Ki = 2 -> a = b)
theorem zmw {a b : za} (h : ((a.Ki == b.Ki) && (((a.Sp.Lo == b.Sp.Lo) && ((a.Sp.Hi == b.Sp.Hi) && true)) && ((a.Map == b.Map) && true))) = true) : a = b := by
 obtain ⟨k, ⟨l, h1⟩, m⟩ := a
 obtain ⟨k', ⟨l', h1'⟩, m'⟩ := b
 simp at h
 obtain ⟨rfl, ⟨rfl, rfl⟩, rfl⟩ := h
 rfl
theorem zkr (a b : za) : OK (zbW a b) (fun r => r = true -> ziJ a b) := by
 unfold zbW
 refine OK.ite (fun h1 => ?_) (fun h1 => OK.ite (fun h2 => OK.ret ?_) (fun h2 => OK.ret ?_))
 ·have h1 : b.Ki = 1 := by simpa using h1
  refine OK.bind2 (R := fun r => r = true -> ziJ a b) ?_ (fun x hx => OK.ret hx)
  refine OK.ite (fun h2 => OK.bind2 (zfg _ _) (fun x hx => OK.ret (fun e => ⟨fun _ => ⟨by simpa using h2, hx.1 e⟩, fun e2 => by omega⟩))) (fun _ => OK.ret (fun e => by cases e))
 ·intro h
  have h1 : b.Ki ≠ 1 := by simpa using h1
  exact ⟨fun e => absurd e h1, fun _ => zmw h⟩
 ·intro _
  have h1 : b.Ki ≠ 1 := by simpa using h1
  have h2 : b.Ki ≠ 2 := by simpa using h2
  exact ⟨fun e => absurd e h1, fun e => absurd e h2⟩
theorem zhm (t : za) : OK (zbg t) (fun _ => True) := by
 unfold zbg
 exact OK.bind2 (zfg _ _) (fun x _ => OK.ite (fun _ => OK.ret trivial) (fun _ => OK.ret trivial))
theorem zdd {i : zc} (h : zO i = true) (ho : ¬ (15 <= i.Op /\ i.Op <= 20)) : 0 <= i.D /\ i.D < 8 := by
 unfold zO at h
 simp only [inB, zfK] at h
 simp only [zae, Bool.or_eq_true, zdq, beq_iff_eq] at h
 iterate 11 (all_goals (try split at h))
 all_goals simp only [zae, Bool.or_eq_true, zdq, beq_iff_eq, zfe] at h
 all_goals omega
theorem zbl {i : zc} (h : zO i = true) : 0 <= i.A /\ i.A < 8 := by
 unfold zO at h
 simp only [inB, zfK] at h
 simp only [zae, Bool.or_eq_true, zdq, beq_iff_eq] at h
 iterate 11 (all_goals (try split at h))
 all_goals simp only [zae, Bool.or_eq_true, zdq, beq_iff_eq, zfe] at h
 all_goals omega
theorem za4 {i : zc} (h : zO i = true) : 0 <= i.Op /\ i.Op <= 22 := by
 unfold zO at h
 simp only [inB, zfK] at h
 simp only [zae, Bool.or_eq_true, zdq, beq_iff_eq] at h
 iterate 11 (all_goals (try split at h))
 all_goals simp only [zae, Bool.or_eq_true, zdq, beq_iff_eq, zfe] at h
 all_goals omega
theorem qP {i : zc} (h : zO i = true) (ho : i.Op <= 12 \/ (16 <= i.Op /\ i.Op <= 19)) : i.B = 8 \/ (0 <= i.B /\ i.B < 8) := by
 unfold zO at h
 simp only [inB, zfK, zl4] at h
 simp only [zae, Bool.or_eq_true, zdq, beq_iff_eq] at h
 iterate 11 (all_goals (try split at h))
 all_goals simp only [zae, Bool.or_eq_true, zdq, beq_iff_eq, zfe] at h
 all_goals omega
theorem zbL {i : zc} (h : zO i = true) (ho : i.Op = 21) : 0 <= i.Imm /\ i.Imm <= 6 := by
 unfold zO at h
 simp only [inB, zfK] at h
 simp [ho] at h
 omega
theorem zeP {i : zc} (h : zO i = true) (ho : i.Op = 14) : 0 <= i.Imm /\ i.Imm <= 3 := by
 unfold zO at h
 simp only [inB, zfK] at h
 simp [ho] at h
 omega
theorem zf0 {t : Int} (h0 : 0 <= t) (h1 : t < 8) : ain 8 t = some t.toNat := by unfold ain; rw [if_pos ⟨h0, by omega⟩]
theorem zl3 {i n : Nat} (h : i < n) : ain n (i : Int) = some i := by unfold ain; rw [if_pos ⟨by omega, by omega⟩]; simp
theorem zhn (op : Int) (h0 : 0 <= op) (h1 : op < 23) : ∃ f, zbF op = some (f, true) /\ qu f 100 = some (decide (op <= 11) || decide (op = 13) || decide (op = 14)) /\ qu f 115 = some (decide (op <= 12) || (decide (16 <= op) && decide (op <= 19))) := by
 have h : ∀ k : Fin 23, ∃ f, zbF ((k : Nat) : Int) = some (f, true) /\ qu f 100 = some (decide (((k : Nat) : Int) <= 11) || decide (((k : Nat) : Int) = 13) || decide (((k : Nat) : Int) = 14)) /\ qu f 115 = some (decide (((k : Nat) : Int) <= 12) || (decide (16 <= ((k : Nat) : Int)) && decide (((k : Nat) : Int) <= 19))) := by
  intro k
  have hk : ∃ f, zbF ((k : Nat) : Int) = some (f, true) := by
   obtain ⟨f, hf, _⟩ := zkx ((k : Nat) : Int) (by omega) (by omega)
   exact ⟨f, hf⟩
  obtain ⟨f, hf⟩ := hk
  have key : ∀ k : Fin 23, ((zbF ((k : Nat) : Int)).bind fun r => qu r.1 100) = some (decide (((k : Nat) : Int) <= 11) || decide (((k : Nat) : Int) = 13) || decide (((k : Nat) : Int) = 14)) /\ ((zbF ((k : Nat) : Int)).bind fun r => qu r.1 115) = some (decide (((k : Nat) : Int) <= 12) || (decide (16 <= ((k : Nat) : Int)) && decide (((k : Nat) : Int) <= 19))) := by decide +kernel
  have := key k
  rw [hf] at this
  exact ⟨f, hf, this.1, this.2⟩
 obtain ⟨n, rfl⟩ := zof h0
 exact h ⟨n, by omega⟩
theorem zgs {i : zc} (h : zO i = true) : OK (vd i) (fun r => r.2 = true -> 0 <= r.1 /\ r.1 < 8) := by
 have ho := za4 h
 obtain ⟨f, h1, h2, _⟩ := zhn i.Op ho.1 (by omega)
 unfold vd
 simp only [zaL, h, h1, h2, zbs]
 refine OK.ite (fun e => by cases e) (fun _ => OK.ite (fun e => OK.ret (fun _ => zdd h (by simp at e; omega))) (fun _ => OK.ret (fun _ => by simp)))
theorem zfY {i : zc} (h : zO i = false) : OK (vd i) (fun r => r.2 = true -> 0 <= r.1 /\ r.1 < 8) := by
 unfold vd
 simp only [zaL, h, zbs]
 exact OK.ret (by simp)
theorem zgt {i : zc} (h : zO i = true) : zd8 i = some (decide (i.Op <= 12) || (decide (16 <= i.Op) && decide (i.Op <= 19))) := by
 have ho := za4 h
 obtain ⟨f, h1, _, h2⟩ := zhn i.Op ho.1 (by omega)
 unfold zd8
 simp only [zaL, h, h1, h2, zbs]
 rfl
def zfh (i : zc) (k : Nat -> za) : za := if i.B == 8 then ⟨1, ⟨zp i.Imm, zp i.Imm⟩, 0⟩ else k i.B.toNat
theorem zeF {i : zc} {k : Nat -> za} (h : i.B = 8 \/ (0 <= i.B /\ i.B < 8)) : zbI i k = some (zfh i k) := by
 unfold zbI zfh
 rcases zft (i.B == 8) with e | e
 ·rw [if_pos e, if_pos e]; rfl
 ·have : i.B ≠ 8 := by simpa using e
  rw [if_neg (by simp [e]), if_neg (by simp [e]), zf0 (by omega) (by omega)]; rfl
theorem zcu {n : Nat} {i : zc} {k : Nat -> za} (h : i.B = 8 \/ (0 <= i.B /\ i.B < 8)) (hk : ∀ r, r < 8 -> WT n (k r)) : WT n (zfh i k) := by
 unfold zfh
 split
 ·exact WT.num (SW.one (xO _).1 (xO _).2)
 ·rename_i e
  have : i.B ≠ 8 := by simpa using e
  exact hk _ (by omega)
structure JI (m : zi) (j : ze) : Prop where
 mod : j.Module = m
 lenC : j.ca.length = m.Co.length
 lenA : j.any.length = m.Co.length
 lps : j.loops = lps m.Co m.Co.length
 wt : ∀ (q : Nat) (x : Nat -> za), j.ca[q]? = some x -> ∀ r, r < 8 -> WT m.Ms.length (x r)
theorem xG {α : Type} {xs : List α} {p : Nat} (h : p < xs.length) : ∃ x, xs[p]? = some x /\ idx xs (p : Int) = some x := ⟨xs[p], zeg h, zdL h⟩
theorem zbM {α : Type} {xs : List α} {p q : Nat} {v : α} (h : q ≠ p) : (xs.set p v)[q]? = xs[q]? := List.getElem?_set_ne (fun e => h e.symm)
theorem JI.put {m : zi} {j : ze} (h : JI m j) {p : Nat} {x : Nat -> za} (hx : ∀ r, r < 8 -> WT m.Ms.length (x r)) (A : List Bool) (hA : A.length = m.Co.length) : JI m ⟨j.Module, j.ca.set p x, A, j.loops⟩ :=
 ⟨h.mod, by simpa using h.lenC, hA, h.lps, fun q y hy r hr => by
  simp only at hy
  by_cases hq : q = p
  ·subst hq
   rw [List.getElem?_set] at hy
   simp at hy
   rw [<- hy.2]; exact hx r hr
  ·rw [zbM hq] at hy
   exact h.wt q y hy r hr⟩
theorem zcv {n : Nat} {x : Nat -> za} (hx : ∀ r, r < 8 -> WT n (x r)) {t : Nat} {v : za} (hv : WT n v) : ∀ r, r < 8 -> WT n (zW x t v r) := by
 intro r hr
 unfold zW
 split
 ·exact hv
 ·exact hx r hr
theorem zks {m : zi} {j : ze} (h : JI m j) {p : Nat} (hp : p < m.Co.length) {k : Nat -> za} (hk : ∀ r, r < 8 -> WT m.Ms.length (k r)) :
  OK (zD j (p : Int) k) (fun j' => JI m j' /\ j'.any = j.any.set p true /\ ∀ q, q ≠ p -> j'.ca[q]? = j.ca[q]?) := by
 unfold zD
 obtain ⟨a, ha, ha2⟩ := xG (xs := j.any) (p := p) (by rw [h.lenA]; exact hp)
 obtain ⟨c, hc, hc2⟩ := xG (xs := j.ca) (p := p) (by rw [h.lenC]; exact hp)
 simp only [ha2, hc2, zbs, Int.toNat_natCast]
 refine OK.ite (fun _ => OK.ret ⟨h.put hk _ (by simpa using h.lenA), rfl, fun q hq => zbM hq⟩) (fun hn => ?_)
 have hat : a = true := by simpa using hn
 have hset : j.any.set p true = j.any := by
  apply List.ext_getElem?
  intro q
  by_cases hq : q = p
  ·subst hq; rw [List.getElem?_set, ha, hat]; simp [h.lenA, hp]
  ·exact zbM hq
 refine OK.bind2 (OK.count (fun _ s => JI m s /\ s.any = j.any.set p true /\ ∀ q, q ≠ p -> s.ca[q]? = j.ca[q]?) ⟨h, hset.symm, fun _ _ => rfl⟩ (fun i s again hi hI kk => ?_) (fun s hI => hI)) (fun o ho => OK.ret ho)
 unfold qf
 obtain ⟨c', hc', hc2'⟩ := xG (xs := s.ca) (p := p) (by rw [hI.1.lenC]; exact hp)
 have w1 := hI.1.wt p c' hc' i hi
 simp only [hc2', zl3 hi, zbs, zgq w1.span (hk i hi).span, Int.toNat_natCast]
 exact kk _ ⟨hI.1.put (zcv (hI.1.wt p c' hc') (w1.join (hk i hi))) _ hI.1.lenA, hI.2.1, fun q hq => by rw [<- hI.2.2 q hq]; exact zbM hq⟩
theorem zg3 {α : Type} {xs : List α} {lo hi : Nat} (h1 : lo <= hi) (h2 : hi <= xs.length) : cut xs (lo : Int) (hi : Int) = some ((xs.take hi).drop lo) := by
 unfold cut
 rw [if_pos ⟨by omega, by omega, by omega⟩]
 simp
theorem zjk {m : zi} {j : ze} (h : JI m j) (hg : zen m.Co) {p : Nat} (hp : p < m.Co.length) :
  OK (qL j (p : Int)) (fun j' => JI m j' /\ j'.any = j.any /\ ∀ q, q ≠ p -> j'.ca[q]? = j.ca[q]?) := by
 unfold qL
 refine OK.bind2 (OK.count (Q := fun j' => JI m j' /\ j'.any = j.any /\ ∀ q, q ≠ p -> j'.ca[q]? = j.ca[q]?) (fun _ s => JI m ⟨j.Module, s, j.any, j.loops⟩ /\ ∀ q, q ≠ p -> s[q]? = j.ca[q]?) ⟨⟨h.mod, h.lenC, h.lenA, h.lps, h.wt⟩, fun _ _ => rfl⟩ (fun i s again hi hI k => ?_) (fun s hI => ⟨hI.1, rfl, hI.2⟩)) (fun o ho => OK.ret ho)
 unfold qZ
 refine OK.bind (OK.getN hi (fun l hl => OK.ite (fun _ => k _ hI) (fun hh => ?_)))
 rw [h.lps] at hl
 obtain ⟨a, ia, ha, hia, hop, rfl⟩ := zdM.1 (zmg hl)
 have hlp := hg.fine.loop hia hop
 have hn := hg.n64
 have e1 : (zU ia a).Head = (((a : Int) - ia.D).toNat : Int) := by show (a : Int) - ia.D = _; omega
 have e2 : w64 ((zU ia a).At + 1) = ((a + 1 : Nat) : Int) := by show w64 ((a : Int) + 1) = _; rw [zI (by omega) (by omega)]; simp
 rw [e1, e2, h.mod, zg3 (by omega) (by omega)]
 simp only [zbs]
 refine OK.bind2 (OK.count (fun _ s => JI m ⟨j.Module, s, j.any, j.loops⟩ /\ ∀ q, q ≠ p -> s[q]? = j.ca[q]?) hI (fun i s again hi hI k => ?_) (fun s hI => hI)) (fun o ho => k _ ho)
 unfold qx
 refine OK.bind (OK.getN hi (fun x hx => ?_))
 have hr : OK (vd x) (fun r => r.2 = true -> 0 <= r.1 /\ r.1 < 8) := by
  rcases zft (zO x) with e | e
  ·exact zgs e
  ·exact zfY e
 refine OK.bind2 hr (fun r hr => OK.ite (fun _ => k _ hI) (fun hw => ?_))
 have hr := hr (by simpa using hw)
 obtain ⟨c', hc', hc2'⟩ := xG (xs := s) (p := p) (by rw [show s.length = m.Co.length from hI.1.lenC]; exact hp)
 simp only [hc2', zf0 hr.1 hr.2, zbs, za6, vQ, Int.toNat_natCast]
 refine OK.ite (fun _ => k _ ⟨hI.1.put (zcv (hI.1.wt p c' hc') (WT.num SW.full)) _ hI.1.lenA, fun q hq => by rw [<- hI.2 q hq]; exact zbM hq⟩) (fun _ => k _ ⟨hI.1.put (zcv (hI.1.wt p c' hc') WT.zero) _ hI.1.lenA, fun q hq => by rw [<- hI.2 q hq]; exact zbM hq⟩)
end Go.Proofs.YtgmmfjpmahcocaaGreatDoor

/- Texts KJudge, KJudge2, KJudged of this proof. -/
import Derived.Test.YtbmknhpfkpmigaaGreatDoorKCheck
set_option linter.unusedVariables false
set_option linter.unusedSimpArgs false
namespace Go.Proofs.YtbmknhpfkpmigaaGreatDoor
open Go.Sx
def zax : za := ⟨0, ⟨0, 0⟩, 0⟩
def WT (n : Nat) (x : za) : Prop := x = zax \/ (x.Ki = 1 /\ SW x.Sp /\ x.Map = 0) \/ (x.Ki = 2 /\ x.Sp = ⟨0, 0⟩ /\ 0 <= x.Map /\ x.Map < n)
theorem WT.span {n : Nat} {x : za} (h : WT n x) : SW x.Sp := by
 rcases h with rfl | h | h
 ·exact SW.zero
 ·exact h.2.1
 ·rw [h.2.1]; exact SW.zero
theorem WT.num {n : Nat} {s : zb} (h : SW s) : WT n ⟨1, s, 0⟩ := .inr (.inl ⟨rfl, h, rfl⟩)
theorem WT.zero {n : Nat} : WT n zax := .inl rfl
theorem zaD (s : zb) : jL s = some ⟨1, s, 0⟩ := rfl
theorem zlI (x : Int) : zcj x = some ⟨x, x⟩ := rfl
theorem zbp {s : zb} (h : SW s) : vl s = some true := by rw [zdl, decide_eq_true h.2.1]
theorem SW.join {a b : zb} (ha : SW a) (hb : SW b) : SW ⟨zb3 (zb3 18446744073709551615 a.Lo) b.Lo, zcC (zcC 0 a.Hi) b.Hi⟩ := by
 obtain ⟨a0, a1, a2⟩ := ha
 obtain ⟨b0, b1, b2⟩ := hb
 unfold zb3 zcC
 refine ⟨?_, ?_, ?_⟩ <;> simp only <;> (repeat' split) <;> omega
theorem zoh {a b : zb} (ha : SW a) (hb : SW b) : zed [a, b] = some (⟨zb3 (zb3 18446744073709551615 a.Lo) b.Lo, zcC (zcC 0 a.Hi) b.Hi⟩, true) := by
 unfold zed
 simp [qQ, zgd, idx, zbp ha, zbp hb]
def zbq (a b : za) : za :=
 if (a.Ki != b.Ki) || (a.Map != b.Map) then zax
 else if a.Ki == 1 then ⟨1, ⟨zb3 (zb3 18446744073709551615 a.Sp.Lo) b.Sp.Lo, zcC (zcC 0 a.Sp.Hi) b.Sp.Hi⟩, 0⟩
 else a
theorem zgP {a b : za} (ha : SW a.Sp) (hb : SW b.Sp) : zbS a b = some (zbq a b) := by
 unfold zbS zbq
 rw [zoh ha hb]
 split
 ·rfl
 ·split <;> rfl
theorem WT.join {n : Nat} {a b : za} (ha : WT n a) (hb : WT n b) : WT n (zbq a b) := by
 unfold zbq
 split
 ·exact WT.zero
 ·split
  ·exact WT.num (SW.join ha.span hb.span)
  ·exact ha
theorem zjv {a b : zb} (ha : SW a) (hb : SW b) : vJ [a, b] = some (if zcC (zcC 0 a.Lo) b.Lo <= zb3 (zb3 18446744073709551615 a.Hi) b.Hi then (⟨zcC (zcC 0 a.Lo) b.Lo, zb3 (zb3 18446744073709551615 a.Hi) b.Hi⟩, true) else (⟨0, 0⟩, false)) := by
 unfold vJ
 simp only [zbu, zbs]
 by_cases h : zcC (zcC 0 a.Lo) b.Lo <= zb3 (zb3 18446744073709551615 a.Hi) b.Hi
 ·simp [qQ, zee, idx, Int.not_lt.2 ha.2.1, Int.not_lt.2 hb.2.1, zdl, h]
 ·simp [qQ, zee, idx, Int.not_lt.2 ha.2.1, Int.not_lt.2 hb.2.1, zdl, h]
theorem zjw {a b : zb} (ha : SW a) (hb : SW b) : OK (vJ [a, b]) (fun r => SW r.1) := by
 refine ⟨_, zjv ha hb, ?_⟩
 obtain ⟨a0, a1, a2⟩ := ha
 obtain ⟨b0, b1, b2⟩ := hb
 split
 ·rename_i h
  refine ⟨?_, h, ?_⟩
  ·show 0 <= zcC (zcC 0 a.Lo) b.Lo
   unfold zcC; (repeat' split) <;> omega
  ·show zb3 (zb3 18446744073709551615 a.Hi) b.Hi < _
   unfold zb3; (repeat' split) <;> omega
 ·exact SW.zero
theorem zkb (op a b : Int) : OK (vZ op a b) (fun r => r.2 = inB op 16 19) := by
 unfold vZ
 have q : ∀ k : Int, 16 <= k -> k <= 19 -> (op == k) = true -> true = inB op 16 19 := by
  intro k h1 h2 h3
  have : op = k := by simpa using h3
  subst this; simp [inB, h1, h2]
 refine OK.ite (fun h => OK.ret (q 16 (by omega) (by omega) h)) (fun n1 => ?_)
 refine OK.ite (fun h => OK.ret (q 17 (by omega) (by omega) h)) (fun n2 => ?_)
 refine OK.ite (fun h => OK.ret (q 18 (by omega) (by omega) h)) (fun n3 => ?_)
 refine OK.ite (fun h => OK.ret (q 19 (by omega) (by omega) h)) (fun n4 => OK.ret ?_)
 simp only [beq_eq_false_iff_ne, ne_eq] at n1 n2 n3 n4
 show false = _
 rw [Eq.comm, inB, Bool.and_eq_false_iff]
 simp only [decide_eq_false_iff_not]
 omega
theorem zgQ {op : Int} {a b : zb} {h : Bool} (ha : SW a) (hb : SW b) : OK (xa op a b h) (fun r => SW r.1) := by
 obtain ⟨a0, a1, a2⟩ := id ha
 obtain ⟨b0, b1, b2⟩ := id hb
 unfold xa
 refine OK.bind2 (zkb op 0 0) (fun r hr => ?_)
 simp only [zbp ha, zbp hb, zbs]
 refine OK.bind2 (R := fun _ => True) (OK.ite (fun _ => OK.ret trivial) (fun _ => OK.ite (fun _ => OK.ret trivial) (fun _ => OK.ret trivial))) (fun o _ => ?_)
 refine OK.ite (fun _ => OK.ret SW.zero) (fun _ => ?_)
 unfold xr
 simp only [zbs]
 refine OK.ite (fun _ => OK.ret ha) (fun hs => ?_)
 have hs : b.Lo = b.Hi := by simpa using hs
 refine OK.bind2 (R := fun _ => True) (OK.ite (fun _ => OK.ret trivial) (fun _ => OK.ite (fun _ => OK.ret trivial) (fun _ => OK.ret trivial))) (fun o _ => ?_)
 refine OK.ite (fun _ => OK.ite (fun _ => OK.ret SW.zero) (fun hz => ?_)) (fun _ => ?_)
 ·have hz : b.Lo ≠ 0 := by simpa using hz
  refine OK.bind2 (zjw ha ?_) (fun x hx => OK.ret hx)
  rw [jJ (by omega) (by omega)]
  exact ⟨by simp, by simp; omega, by simp; omega⟩
 refine OK.bind2 (R := fun _ => True) (OK.ite (fun _ => OK.ret trivial) (fun _ => OK.ret trivial)) (fun o _ => ?_)
 refine OK.ite (fun _ => OK.bind2 (zjw ha ⟨b0, by simp; omega, by simp⟩) (fun x hx => OK.ret hx)) (fun _ => ?_)
 refine OK.bind2 (R := fun _ => True) (OK.ite (fun _ => OK.ret trivial) (fun _ => OK.ite (fun _ => OK.ret trivial) (fun _ => OK.ret trivial))) (fun o _ => ?_)
 refine OK.ite (fun _ => OK.bind2 (zjw ha hb) (fun x hx => OK.ret hx)) (fun _ => ?_)
 refine OK.ite (fun _ => OK.ret SW.zero) (fun hne => ?_)
 have hne : ¬ (a.Lo = b.Lo /\ a.Hi = b.Hi) := by
  rintro ⟨e1, e2⟩
  rw [e1, e2] at hne
  simp at hne
 refine OK.ite (fun h1 => OK.ret ?_) (fun h1 => ?_)
 ·have h1 : a.Lo = b.Lo := by simpa using h1
  rw [jJ (by omega) (by omega)]
  exact ⟨by simp; omega, by simp; omega, by simpa using a2⟩
 refine OK.ite (fun h2 => OK.ret ?_) (fun _ => OK.ret ha)
 have h1 : a.Lo ≠ b.Lo := by simpa using h1
 have h2 : a.Hi = b.Lo := by simpa using h2
 rw [jJ (by omega) (by omega)]
 exact ⟨by simpa using a0, by simp; omega, by simp; omega⟩
theorem zcY (l : List za) : OK (xG l) (fun _ => True) := by
 unfold xG
 refine OK.bind2 (OK.count (Q := fun _ => True) (fun _ _ => True) trivial (fun i s again hi _ k => ?_) (fun _ _ => trivial)) (fun o _ => ?_)
 ·unfold zU
  exact OK.bind (OK.getN hi (fun x _ => OK.ite (fun _ => OK.ret trivial) (fun _ => k _ trivial)))
 ·cases o <;> exact OK.ret trivial
theorem zgu (l : List Int) : OK (za4 l) (fun r => r = 0 -> ∀ x ∈ l, x = 0) := by
 unfold za4
 refine OK.bind2 (OK.count (Q := fun o => match o with | .inl _ => ∀ x ∈ l, x = 0 | .inr r => r ≠ 0) (fun i _ => ∀ q x, q < i -> l[q]? = some x -> x = 0) (fun q x h => by omega) (fun i s again hi hI k => ?_) (fun _ hI => ?_)) (fun o ho => ?_)
 ·unfold jc
  refine OK.bind (OK.getN hi (fun x hx => OK.ite (fun h => OK.ret (by simpa using h)) (fun h => k _ (fun q y hq hy => ?_))))
  by_cases hqi : q < i
  ·exact hI q y hqi hy
  ·obtain rfl : q = i := by omega
   rw [hx] at hy; cases hy
   simpa using h
 ·intro x hx
  obtain ⟨q, hq⟩ := List.mem_iff_getElem?.1 hx
  exact hI q x (zes.1 hq).1 hq
 ·cases o with
  | inl _ => exact OK.ret (fun _ => ho)
  | inr r => exact OK.ret (fun h => absurd h ho)
theorem zfy (a b : zb) : OK (vA a b) (fun r => r = true ↔ a.Lo <= a.Hi /\ b.Lo <= a.Lo /\ a.Hi <= b.Hi) := by
 unfold vA
 rw [zdl]
 simp only [zbs]
 refine OK.bind2 (R := fun r => r = true ↔ a.Lo <= a.Hi /\ b.Lo <= a.Lo /\ a.Hi <= b.Hi) ?_ (fun x hx => OK.ret hx)
 refine OK.ite (fun h1 => OK.ite (fun h2 => OK.ret ?_) (fun h2 => OK.ret ?_)) (fun h1 => OK.ret ?_)
 ·simp at h1 h2 |-; omega
 ·simp at h1 h2 |-; omega
 ·simp at h1 |-; omega
def zjx (a b : za) : Prop := (b.Ki = 1 -> a.Ki = 1 /\ a.Sp.Lo <= a.Sp.Hi /\ b.Sp.Lo <= a.Sp.Lo /\ a.Sp.Hi <= b.Sp.Hi) /\ (b.Ki = 2 -> a = b)
theorem zoi {a b : za} (h : ((a.Ki == b.Ki) && (((a.Sp.Lo == b.Sp.Lo) && ((a.Sp.Hi == b.Sp.Hi) && true)) && ((a.Map == b.Map) && true))) = true) : a = b := by
 obtain ⟨k, ⟨l, h1⟩, m⟩ := a
 obtain ⟨k', ⟨l', h1'⟩, m'⟩ := b
 simp at h
 obtain ⟨rfl, ⟨rfl, rfl⟩, rfl⟩ := h
 rfl
theorem zlJ (a b : za) : OK (zbF a b) (fun r => r = true -> zjx a b) := by
 unfold zbF
 refine OK.ite (fun h1 => ?_) (fun h1 => OK.ite (fun h2 => OK.ret ?_) (fun h2 => OK.ret ?_))
 ·have h1 : b.Ki = 1 := by simpa using h1
  refine OK.bind2 (R := fun r => r = true -> zjx a b) ?_ (fun x hx => OK.ret hx)
  refine OK.ite (fun h2 => OK.bind2 (zfy _ _) (fun x hx => OK.ret (fun e => ⟨fun _ => ⟨by simpa using h2, hx.1 e⟩, fun e2 => by omega⟩))) (fun _ => OK.ret (fun e => by cases e))
 ·intro h
  have h1 : b.Ki ≠ 1 := by simpa using h1
  exact ⟨fun e => absurd e h1, fun _ => zoi h⟩
 ·intro _
  have h1 : b.Ki ≠ 1 := by simpa using h1
  have h2 : b.Ki ≠ 2 := by simpa using h2
  exact ⟨fun e => absurd e h1, fun e => absurd e h2⟩
theorem zhW (t : za) : OK (zbb t) (fun _ => True) := by
 unfold zbb
 exact OK.bind2 (zfy _ _) (fun x _ => OK.ite (fun _ => OK.ret trivial) (fun _ => OK.ret trivial))
theorem zdC {i : zc} (h : qe i = true) (ho : ¬ (15 <= i.Op /\ i.Op <= 20)) : 0 <= i.D /\ i.D < 8 := by
 unfold qe at h
 simp only [inB, zfW] at h
 simp only [zae, Bool.or_eq_true, zdq, beq_iff_eq] at h
 iterate 11 (all_goals (try split at h))
 all_goals simp only [zae, Bool.or_eq_true, zdq, beq_iff_eq, zfe] at h
 all_goals omega
theorem zbH {i : zc} (h : qe i = true) : 0 <= i.A /\ i.A < 8 := by
 unfold qe at h
 simp only [inB, zfW] at h
 simp only [zae, Bool.or_eq_true, zdq, beq_iff_eq] at h
 iterate 11 (all_goals (try split at h))
 all_goals simp only [zae, Bool.or_eq_true, zdq, beq_iff_eq, zfe] at h
 all_goals omega
theorem zbr {i : zc} (h : qe i = true) : 0 <= i.Op /\ i.Op <= 22 := by
 unfold qe at h
 simp only [inB, zfW] at h
 simp only [zae, Bool.or_eq_true, zdq, beq_iff_eq] at h
 iterate 11 (all_goals (try split at h))
 all_goals simp only [zae, Bool.or_eq_true, zdq, beq_iff_eq, zfe] at h
 all_goals omega
theorem jU {i : zc} (h : qe i = true) (ho : i.Op <= 12 \/ (16 <= i.Op /\ i.Op <= 19)) : i.B = 8 \/ (0 <= i.B /\ i.B < 8) := by
 unfold qe at h
 simp only [inB, zfW, znN] at h
 simp only [zae, Bool.or_eq_true, zdq, beq_iff_eq] at h
 iterate 11 (all_goals (try split at h))
 all_goals simp only [zae, Bool.or_eq_true, zdq, beq_iff_eq, zfe] at h
 all_goals omega
theorem zbX {i : zc} (h : qe i = true) (ho : i.Op = 21) : 0 <= i.Imm /\ i.Imm <= 6 := by
 unfold qe at h
 simp only [inB, zfW] at h
 simp [ho] at h
 omega
theorem zfa {i : zc} (h : qe i = true) (ho : i.Op = 14) : 0 <= i.Imm /\ i.Imm <= 3 := by
 unfold qe at h
 simp only [inB, zfW] at h
 simp [ho] at h
 omega
theorem zgi {t : Int} (h0 : 0 <= t) (h1 : t < 8) : ain 8 t = some t.toNat := by unfold ain; rw [if_pos ⟨h0, by omega⟩]
theorem znM {i n : Nat} (h : i < n) : ain n (i : Int) = some i := by unfold ain; rw [if_pos ⟨by omega, by omega⟩]; simp
theorem zhX (op : Int) (h0 : 0 <= op) (h1 : op < 23) : ∃ f, zbz op = some (f, true) /\ qN f 100 = some (decide (op <= 11) || decide (op = 13) || decide (op = 14)) /\ qN f 115 = some (decide (op <= 12) || (decide (16 <= op) && decide (op <= 19))) := by
 have h : ∀ k : Fin 23, ∃ f, zbz ((k : Nat) : Int) = some (f, true) /\ qN f 100 = some (decide (((k : Nat) : Int) <= 11) || decide (((k : Nat) : Int) = 13) || decide (((k : Nat) : Int) = 14)) /\ qN f 115 = some (decide (((k : Nat) : Int) <= 12) || (decide (16 <= ((k : Nat) : Int)) && decide (((k : Nat) : Int) <= 19))) := by
  intro k
  have hk : ∃ f, zbz ((k : Nat) : Int) = some (f, true) := by
   obtain ⟨f, hf, _⟩ := zlR ((k : Nat) : Int) (by omega) (by omega)
   exact ⟨f, hf⟩
  obtain ⟨f, hf⟩ := hk
  have key : ∀ k : Fin 23, ((zbz ((k : Nat) : Int)).bind fun r => qN r.1 100) = some (decide (((k : Nat) : Int) <= 11) || decide (((k : Nat) : Int) = 13) || decide (((k : Nat) : Int) = 14)) /\ ((zbz ((k : Nat) : Int)).bind fun r => qN r.1 115) = some (decide (((k : Nat) : Int) <= 12) || (decide (16 <= ((k : Nat) : Int)) && decide (((k : Nat) : Int) <= 19))) := by decide +kernel
  have := key k
  rw [hf] at this
  exact ⟨f, hf, this.1, this.2⟩
 obtain ⟨n, rfl⟩ := zof h0
 exact h ⟨n, by omega⟩
theorem zgR {i : zc} (h : qe i = true) : OK (vk i) (fun r => r.2 = true -> 0 <= r.1 /\ r.1 < 8) := by
 have ho := zbr h
 obtain ⟨f, h1, h2, _⟩ := zhX i.Op ho.1 (by omega)
 unfold vk
 simp only [za6, h, h1, h2, zbs]
 refine OK.ite (fun e => by cases e) (fun _ => OK.ite (fun e => OK.ret (fun _ => zdC h (by simp at e; omega))) (fun _ => OK.ret (fun _ => by simp)))
theorem zge {i : zc} (h : qe i = false) : OK (vk i) (fun r => r.2 = true -> 0 <= r.1 /\ r.1 < 8) := by
 unfold vk
 simp only [za6, h, zbs]
 exact OK.ret (by simp)
theorem zgS {i : zc} (h : qe i = true) : zda i = some (decide (i.Op <= 12) || (decide (16 <= i.Op) && decide (i.Op <= 19))) := by
 have ho := zbr h
 obtain ⟨f, h1, _, h2⟩ := zhX i.Op ho.1 (by omega)
 unfold zda
 simp only [za6, h, h1, h2, zbs]
 rfl
def zfz (i : zc) (k : Nat -> za) : za := if i.B == 8 then ⟨1, ⟨qf i.Imm, qf i.Imm⟩, 0⟩ else k i.B.toNat
theorem ze1 {i : zc} {k : Nat -> za} (h : i.B = 8 \/ (0 <= i.B /\ i.B < 8)) : zba i k = some (zfz i k) := by
 unfold zba zfz
 rcases zft (i.B == 8) with e | e
 ·rw [if_pos e, if_pos e]; rfl
 ·have : i.B ≠ 8 := by simpa using e
  rw [if_neg (by simp [e]), if_neg (by simp [e]), zgi (by omega) (by omega)]; rfl
theorem zcZ {n : Nat} {i : zc} {k : Nat -> za} (h : i.B = 8 \/ (0 <= i.B /\ i.B < 8)) (hk : ∀ r, r < 8 -> WT n (k r)) : WT n (zfz i k) := by
 unfold zfz
 split
 ·exact WT.num (SW.one (xn _).1 (xn _).2)
 ·rename_i e
  have : i.B ≠ 8 := by simpa using e
  exact hk _ (by omega)
structure JI (m : zj) (j : zf) : Prop where
 mod : j.Module = m
 lenC : j.ca.length = m.Co.length
 lenA : j.any.length = m.Co.length
 lps : j.loops = lps m.Co m.Co.length
 wt : ∀ (q : Nat) (x : Nat -> za), j.ca[q]? = some x -> ∀ r, r < 8 -> WT m.Ms.length (x r)
theorem vz {α : Type} {xs : List α} {p : Nat} (h : p < xs.length) : ∃ x, xs[p]? = some x /\ idx xs (p : Int) = some x := ⟨xs[p], zeg h, ze8 h⟩
theorem zbY {α : Type} {xs : List α} {p q : Nat} {v : α} (h : q ≠ p) : (xs.set p v)[q]? = xs[q]? := List.getElem?_set_ne (fun e => h e.symm)
theorem JI.put {m : zj} {j : zf} (h : JI m j) {p : Nat} {x : Nat -> za} (hx : ∀ r, r < 8 -> WT m.Ms.length (x r)) (A : List Bool) (hA : A.length = m.Co.length) : JI m ⟨j.Module, j.ca.set p x, A, j.loops⟩ :=
 ⟨h.mod, by simpa using h.lenC, hA, h.lps, fun q y hy r hr => by
  simp only at hy
  by_cases hq : q = p
  ·subst hq
   rw [List.getElem?_set] at hy
   simp at hy
   rw [<- hy.2]; exact hx r hr
  ·rw [zbY hq] at hy
   exact h.wt q y hy r hr⟩
theorem zc0 {n : Nat} {x : Nat -> za} (hx : ∀ r, r < 8 -> WT n (x r)) {t : Nat} {v : za} (hv : WT n v) : ∀ r, r < 8 -> WT n (jf x t v r) := by
 intro r hr
 unfold jf
 split
 ·exact hv
 ·exact hx r hr
theorem zlK {m : zj} {j : zf} (h : JI m j) {p : Nat} (hp : p < m.Co.length) {k : Nat -> za} (hk : ∀ r, r < 8 -> WT m.Ms.length (k r)) :
  OK (zG j (p : Int) k) (fun j' => JI m j' /\ j'.any = j.any.set p true /\ ∀ q, q ≠ p -> j'.ca[q]? = j.ca[q]?) := by
 unfold zG
 obtain ⟨a, ha, ha2⟩ := vz (xs := j.any) (p := p) (by rw [h.lenA]; exact hp)
 obtain ⟨c, hc, hc2⟩ := vz (xs := j.ca) (p := p) (by rw [h.lenC]; exact hp)
 simp only [ha2, hc2, zbs, Int.toNat_natCast]
 refine OK.ite (fun _ => OK.ret ⟨h.put hk _ (by simpa using h.lenA), rfl, fun q hq => zbY hq⟩) (fun hn => ?_)
 have hat : a = true := by simpa using hn
 have hset : j.any.set p true = j.any := by
  apply List.ext_getElem?
  intro q
  by_cases hq : q = p
  ·subst hq; rw [List.getElem?_set, ha, hat]; simp [h.lenA, hp]
  ·exact zbY hq
 refine OK.bind2 (OK.count (fun _ s => JI m s /\ s.any = j.any.set p true /\ ∀ q, q ≠ p -> s.ca[q]? = j.ca[q]?) ⟨h, hset.symm, fun _ _ => rfl⟩ (fun i s again hi hI kk => ?_) (fun s hI => hI)) (fun o ho => OK.ret ho)
 unfold qT
 obtain ⟨c', hc', hc2'⟩ := vz (xs := s.ca) (p := p) (by rw [hI.1.lenC]; exact hp)
 have w1 := hI.1.wt p c' hc' i hi
 simp only [hc2', znM hi, zbs, zgP w1.span (hk i hi).span, Int.toNat_natCast]
 exact kk _ ⟨hI.1.put (zc0 (hI.1.wt p c' hc') (w1.join (hk i hi))) _ hI.1.lenA, hI.2.1, fun q hq => by rw [<- hI.2.2 q hq]; exact zbY hq⟩
theorem zhz {α : Type} {xs : List α} {lo hi : Nat} (h1 : lo <= hi) (h2 : hi <= xs.length) : cut xs (lo : Int) (hi : Int) = some ((xs.take hi).drop lo) := by
 unfold cut
 rw [if_pos ⟨by omega, by omega, by omega⟩]
 simp
theorem zkc {m : zj} {j : zf} (h : JI m j) (hg : ze7 m.Co) {p : Nat} (hp : p < m.Co.length) :
  OK (jk j (p : Int)) (fun j' => JI m j' /\ j'.any = j.any /\ ∀ q, q ≠ p -> j'.ca[q]? = j.ca[q]?) := by
 unfold jk
 refine OK.bind2 (OK.count (Q := fun j' => JI m j' /\ j'.any = j.any /\ ∀ q, q ≠ p -> j'.ca[q]? = j.ca[q]?) (fun _ s => JI m ⟨j.Module, s, j.any, j.loops⟩ /\ ∀ q, q ≠ p -> s[q]? = j.ca[q]?) ⟨⟨h.mod, h.lenC, h.lenA, h.lps, h.wt⟩, fun _ _ => rfl⟩ (fun i s again hi hI k => ?_) (fun s hI => ⟨hI.1, rfl, hI.2⟩)) (fun o ho => OK.ret ho)
 unfold xJ
 refine OK.bind (OK.getN hi (fun l hl => OK.ite (fun _ => k _ hI) (fun hh => ?_)))
 rw [h.lps] at hl
 obtain ⟨a, ia, ha, hia, hop, rfl⟩ := zei.1 (zmg hl)
 have hlp := hg.fine.loop hia hop
 have hn := hg.n64
 have e1 : (qk ia a).Head = (((a : Int) - ia.D).toNat : Int) := by show (a : Int) - ia.D = _; omega
 have e2 : w64 ((qk ia a).At + 1) = ((a + 1 : Nat) : Int) := by show w64 ((a : Int) + 1) = _; rw [zO (by omega) (by omega)]; simp
 rw [e1, e2, h.mod, zhz (by omega) (by omega)]
 simp only [zbs]
 refine OK.bind2 (OK.count (fun _ s => JI m ⟨j.Module, s, j.any, j.loops⟩ /\ ∀ q, q ≠ p -> s[q]? = j.ca[q]?) hI (fun i s again hi hI k => ?_) (fun s hI => hI)) (fun o ho => k _ ho)
 unfold xe
 refine OK.bind (OK.getN hi (fun x hx => ?_))
 have hr : OK (vk x) (fun r => r.2 = true -> 0 <= r.1 /\ r.1 < 8) := by
  rcases zft (qe x) with e | e
  ·exact zgR e
  ·exact zge e
 refine OK.bind2 hr (fun r hr => OK.ite (fun _ => k _ hI) (fun hw => ?_))
 have hr := hr (by simpa using hw)
 obtain ⟨c', hc', hc2'⟩ := vz (xs := s) (p := p) (by rw [show s.length = m.Co.length from hI.1.lenC]; exact hp)
 simp only [hc2', zgi hr.1 hr.2, zbs, zbu, zaD, Int.toNat_natCast]
 refine OK.ite (fun _ => k _ ⟨hI.1.put (zc0 (hI.1.wt p c' hc') (WT.num SW.full)) _ hI.1.lenA, fun q hq => by rw [<- hI.2 q hq]; exact zbY hq⟩) (fun _ => k _ ⟨hI.1.put (zc0 (hI.1.wt p c' hc') WT.zero) _ hI.1.lenA, fun q hq => by rw [<- hI.2 q hq]; exact zbY hq⟩)
end Go.Proofs.YtbmknhpfkpmigaaGreatDoor
namespace Go.Proofs.YtbmknhpfkpmigaaGreatDoor
open Go.Sx
def Way (code : List zc) (p q : Nat) : Prop := ∃ i, code[p]? = some i /\ ((zr i).2.2 = true /\ q = p + 1 \/ (zr i).2.1 = true /\ 0 < (zr i).1 /\ (q : Int) = p + (zr i).1)
structure zkF (code : List zc) (p : Nat) (j j' : zf) : Prop where
 same : ∀ q : Nat, q <= p -> j'.ca[q]? = j.ca[q]? /\ j'.any[q]? = j.any[q]?
 keep : ∀ q : Nat, j.any[q]? = some true -> j'.any[q]? = some true
 new : ∀ q : Nat, j'.any[q]? = some true -> j.any[q]? = some true \/ Way code p q
theorem zkF.refl (code : List zc) (p : Nat) (j : zf) : zkF code p j j := ⟨fun _ _ => ⟨rfl, rfl⟩, fun _ h => h, fun _ h => .inl h⟩
theorem zkF.trans {code : List zc} {p : Nat} {a b c : zf} (h : zkF code p a b) (k : zkF code p b c) : zkF code p a c :=
 ⟨fun q hq => ⟨(k.same q hq).1.trans (h.same q hq).1, (k.same q hq).2.trans (h.same q hq).2⟩, fun q hq => k.keep q (h.keep q hq), fun q hq => (k.new q hq).elim (fun e => h.new q e) .inr⟩
theorem zoj {code : List zc} {p q : Nat} {j j' : zf} (hA : j.any.length = code.length) (hq : p < q) (hw : Way code p q) (h1 : j'.any = j.any.set q true) (h2 : ∀ t, t ≠ q -> j'.ca[t]? = j.ca[t]?) : zkF code p j j' := by
 refine ⟨fun t ht => ⟨h2 t (by omega), by rw [h1]; exact zbY (by omega)⟩, fun t ht => ?_, fun t ht => ?_⟩
 ·rw [h1]
  by_cases e : t = q
  ·subst e
   have := (zes.1 ht).1
   rw [List.getElem?_set]; simp [this]
  ·rw [zbY e]; exact ht
 ·by_cases e : t = q
  ·subst e; exact .inr hw
  ·rw [h1, zbY e] at ht; exact .inl ht
theorem zkd {i : zc} (h : (zr i).2.1 = true) : (0 < (zr i).1 /\ 15 <= i.Op /\ i.Op <= 19 /\ (zr i).2.2 = (i.Op != 15)) \/ ((zr i).1 < 0 /\ i.Op = 20 /\ (zr i).2.2 = true) := by
 unfold zr at h |-
 by_cases hj : vf i = true
 ·have := zdg hj
  rw [if_pos hj]
  exact .inl ⟨by simp; omega, this.2.2.1, this.2.2.2, rfl⟩
 ·rw [if_neg hj] at h |-
  by_cases hl : zbA i = true
  ·have := zhA hl
   rw [if_pos hl]
   exact .inr ⟨by simp; omega, this.2.2.1, rfl⟩
  ·rw [if_neg hl] at h
   cases h
theorem zlL {m : zj} {j : zf} (h : JI m j) (hg : ze7 m.Co) {p : Nat} (hp : p < m.Co.length) {k : Nat -> za} (hk : ∀ r, r < 8 -> WT m.Ms.length (k r)) :
  OK (jE j (p : Int) k) (fun j' => JI m j' /\ zkF m.Co p j j') := by
 have hn := hg.n64
 obtain ⟨i, hi, hi2⟩ := vz hp
 have hr := hg.fine.right hi
 unfold jE
 rw [h.mod, hi2]
 simp only [zdh, zbs]
 have e1 : w64 ((p : Int) + 1) = ((p + 1 : Nat) : Int) := by rw [zO (by omega) (by omega)]; simp
 have step : ∀ {j : zf} {q : Nat} {k : Nat -> za}, JI m j -> p < q -> q < m.Co.length -> Way m.Co p q -> (∀ r, r < 8 -> WT m.Ms.length (k r)) -> OK (zG j (q : Int) k) (fun j' => JI m j' /\ zkF m.Co p j j') :=
  fun hj hq hqn hw hk => (zlK hj hqn hk).mono (fun j' hj' => ⟨hj'.1, zoj hj.lenA hq hw hj'.2.1 hj'.2.2⟩)
 refine OK.ite (fun hc => OK.bind2 (OK.ite (fun hon => ?_) (fun _ => OK.ret ⟨h, zkF.refl _ _ _⟩)) (fun o ho => OK.ret ho)) (fun hc => ?_)
 ·rw [e1]
  exact OK.bind2 (step h (by omega) (hg.fine.on hi hon) ⟨i, hi, .inl ⟨hon, rfl⟩⟩ hk) (fun x hx => OK.ret hx)
 have hl : (zr i).2.1 = true /\ 0 <= (zr i).1 := by simp at hc; exact ⟨hc.1, by omega⟩
 have hd : 0 < (zr i).1 := by
  rcases zkd hl.1 with h1 | h1
  ·exact h1.1
  ·omega
 have hlead := hg.fine.leads hi hl.1
 obtain ⟨q, hq⟩ := zof hlead.1
 have eq : w64 ((p : Int) + (zr i).1) = (q : Int) := by rw [zO (by omega) (by omega), hq]
 have hq1 : (q : Int) = p + (zr i).1 := hq.symm
 have hwq : Way m.Co p q := ⟨i, hi, .inr ⟨hl.1, hd, hq1⟩⟩
 refine OK.ite (fun _ => ?_) (fun hon => ?_)
 ·rw [eq]
  exact OK.bind2 (step h (by omega) (by omega) hwq hk) (fun x hx => OK.ret hx)
 have hon : (zr i).2.2 = true := by simpa using hon
 have hops : 16 <= i.Op /\ i.Op <= 19 := by
  rcases zkd hl.1 with h1 | h1
  ·rw [h1.2.2.2] at hon
   have : i.Op ≠ 15 := by simpa using hon
   omega
  ·omega
 have hs := jU hr (.inr hops)
 have hA := zbH hr
 rw [ze1 hs]
 simp only [zbs]
 refine OK.bind2 (OK.count (fun _ s => JI m s /\ zkF m.Co p j s) ⟨h, zkF.refl _ _ _⟩ (fun t s again ht hI kk => ?_) (fun s hI => hI)) (fun o ho => OK.ret ho)
 unfold qC
 refine OK.bind (OK.getN (by simpa using ht) (fun x hx => ?_))
 refine OK.bind2 (R := fun (o : Int) => ∃ q' : Nat, o = (q' : Int) /\ p < q' /\ q' < m.Co.length /\ Way m.Co p q') ?_ (fun o ho => ?_)
 ·refine OK.ite (fun _ => OK.ret ⟨p + 1, e1, by omega, hg.fine.on hi hon, i, hi, .inl ⟨hon, rfl⟩⟩) (fun _ => OK.ret ⟨q, eq, by omega, by omega, hwq⟩)
 obtain ⟨q', rfl, hq1', hq2', hw'⟩ := ho
 rw [zgi hA.1 hA.2]
 simp only [zbs]
 refine OK.bind2 (R := fun r => SW r.1) (OK.bind2 (zgQ (hk _ (by omega)).span (zcZ hs hk).span) (fun r hr => OK.ret hr)) (fun r hr => ?_)
 refine OK.ite (fun _ => ?_) (fun _ => kk _ hI)
 simp only [zaD, zbs]
 exact OK.bind2 (step hI.1 hq1' hq2' hw' (zc0 hk (WT.num hr))) (fun x hx => kk _ ⟨hx.1, hI.2.trans hx.2⟩)
theorem zhY : ∀ k : Fin 7, ∃ l, qO 5000 ((k : Nat) : Int) = some l /\ l.length <= 3 := by
 have h : ∀ k : Fin 7, ∃ n : Fin 4, (qO 5000 ((k : Nat) : Int)).map (·.length) = some (n : Nat) := by decide +kernel
 intro k
 obtain ⟨n, hn⟩ := h k
 obtain ⟨l, h1, h2⟩ := Option.map_eq_some_iff.1 hn
 exact ⟨l, h1, by omega⟩
theorem zgT : ∀ k : Fin 7, ∃ s, xZ ((k : Nat) : Int) = some (s, true) /\ 0 <= s.most /\ s.most < 18446744073709551616 := by
 intro k
 have h : ∀ k : Fin 7, ((xZ ((k : Nat) : Int)).map (fun r => r.2 && decide (0 <= r.1.most) && decide (r.1.most < 18446744073709551616))) = some true := by decide +kernel
 obtain ⟨⟨s, b⟩, h1, h2⟩ := Option.map_eq_some_iff.1 (h k)
 simp at h2
 obtain ⟨⟨rfl, h3⟩, h4⟩ := h2
 exact ⟨s, h1, h3, h4⟩
theorem ziJ (k : Fin 7) {l : List za} (ha : qO 5000 ((k : Nat) : Int) = some l) (ys : List za) : OK (vm 5000 ((k : Nat) : Int) ys) (fun _ => True) := by
 obtain ⟨s, h1, _⟩ := zgT k
 unfold vm
 simp only [h1, ha, zbs]
 refine OK.ite (fun _ => OK.ret trivial) (fun _ => OK.ite (fun _ => OK.ret trivial) (fun hl => ?_))
 have hl : l.length = ys.length := by
  have : (l.length : Int) = ys.length := by simpa using hl
  omega
 refine OK.bind2 (OK.count (Q := fun _ => True) (fun _ _ => True) trivial (fun i s again hi _ kk => ?_) (fun _ _ => trivial)) (fun o _ => ?_)
 ·unfold vo
  refine OK.bind (OK.getN hi (fun x _ => OK.bind (OK.getN (by omega) (fun y _ => ?_))))
  refine OK.ite (fun _ => OK.ret trivial) (fun _ => OK.bind2 (R := fun _ => True) ?_ (fun o _ => OK.ite (fun _ => OK.ret trivial) (fun _ => kk _ trivial)))
  exact OK.ite (fun _ => OK.bind2 (zfy _ _) (fun x _ => OK.ret trivial)) (fun _ => OK.ret trivial)
 ·cases o <;> exact OK.ret trivial
def One (m : zj) (j : zf) (p : Nat) (r : (Nat -> za) × Int) : Prop :=
 r.2 = 0 -> (∀ q, q < 8 -> WT m.Ms.length (r.1 q)) /\ ∀ i, m.Co[p]? = some i -> i.Op = 20 -> ∀ q, q < 8 -> ∀ x h, j.ca[p]? = some x -> j.ca[((p : Int) - i.D).toNat]? = some h -> zjx (x q) (h q)
theorem zlM {m : zj} {j : zf} (h : JI m j) (hg : ze7 m.Co) {p : Nat} (hp : p < m.Co.length) :
  OK (qG 5000 j (p : Int)) (One m j p) := by
 have hn := hg.n64
 obtain ⟨i, hi, hi2⟩ := vz hp
 obtain ⟨k, hk1, hk2⟩ := vz (xs := j.ca) (p := p) (by rw [h.lenC]; exact hp)
 have hk := h.wt p k hk1
 have hr := hg.fine.right hi
 have hop := zbr hr
 have hA := zbH hr
 unfold qG
 rw [h.mod, hi2, hk2]
 simp only [zbs, zgS hr]
 have notLoop : ∀ {r : (Nat -> za) × Int}, i.Op ≠ 20 -> (r.2 = 0 -> ∀ q, q < 8 -> WT m.Ms.length (r.1 q)) -> One m j p r := by
  intro r hne hw h0
  refine ⟨hw h0, fun i' hi' ho => ?_⟩
  rw [hi] at hi'; cases hi'
  exact absurd ho hne
 refine OK.bind2 (R := fun t => WT m.Ms.length t) ?_ (fun s hs => ?_)
 ·refine OK.ite (fun hsrc => ?_) (fun _ => OK.ret WT.zero)
  have hb := jU hr (by simp at hsrc; omega)
  rw [ze1 hb]
  exact OK.ret (zcZ hb hk)
 rw [zgi hA.1 hA.2]
 simp only [zbs, zbu, zaD]
 have hD : ¬ (15 <= i.Op /\ i.Op <= 20) -> ain 8 i.D = some i.D.toNat := fun h => zgi (zdC hr h).1 (zdC hr h).2
 have kw : ∀ {v : za} {t : Nat}, WT m.Ms.length v -> ∀ q, q < 8 -> WT m.Ms.length (jf k t v q) := fun hv => zc0 hk hv
 refine OK.ite (fun e => ?_) (fun e0 => ?_)
 ·have e : i.Op = 0 := by simpa using e
  refine OK.ite (fun _ => OK.ret (notLoop (by omega) (fun h => by simp at h))) (fun _ => ?_)
  rw [hD (by omega)]
  exact OK.ret (notLoop (by omega) (fun _ => kw hs))
 refine OK.ite (fun e => ?_) (fun e11 => ?_)
 ·have e : i.Op = 11 := by simpa using e
  rw [hD (by omega)]
  simp only [zbs]
  exact OK.bind2 (zcY _) (fun a _ => OK.bind2 (zhW _) (fun b _ => OK.bind2 (zgu _) (fun c _ => OK.ret (notLoop (by omega) (fun _ => kw (WT.num SW.full))))))
 refine OK.ite (fun e => ?_) (fun e12 => ?_)
 ·have e : i.Op = 12 := by simpa using e
  exact OK.bind2 (zcY _) (fun a _ => OK.bind2 (zhW _) (fun b _ => OK.bind2 (zgu _) (fun c _ => OK.ret (notLoop (by omega) (fun _ => hk)))))
 refine OK.ite (fun e => ?_) (fun e13 => ?_)
 ·have e : i.Op = 13 := by simpa using e
  rw [hD (by omega)]
  exact OK.ret (notLoop (by omega) (fun _ => kw (WT.num SW.full)))
 refine OK.ite (fun e => ?_) (fun e14 => ?_)
 ·have e : i.Op = 14 := by simpa using e
  have him := zfa hr e
  rw [hD (by omega)]
  simp only [zbs]
  refine OK.ite (fun _ => OK.ret (notLoop (by omega) (fun h => by simp at h))) (fun hlt => OK.ret (notLoop (by omega) (fun _ => kw (.inr (.inr ⟨rfl, rfl, him.1, ?_⟩)))))
  have := of_decide_eq_false hlt
  show i.Imm < _
  omega
 refine OK.ite (fun e => ?_) (fun e15 => ?_)
 ·have e : i.Op = 15 := by simpa using e
  exact OK.ret (notLoop (by omega) (fun _ => hk))
 refine OK.bind2 (R := fun o => o = inB i.Op 16 19) ?_ (fun o ho => ?_)
 ·refine OK.ite (fun e => OK.ret ?_) (fun e => OK.ite (fun e => OK.ret ?_) (fun e2 => OK.ite (fun e => OK.ret ?_) (fun e3 => OK.ret ?_)))
  ·have e : i.Op = 16 := by simpa using e
   simp [e, inB]
  ·have e : i.Op = 17 := by simpa using e
   simp [e, inB]
  ·have e : i.Op = 18 := by simpa using e
   simp [e, inB]
  ·simp only [beq_eq_false_iff_ne, ne_eq] at e e2 e3
   rcases zft (i.Op == 19) with e4 | e4
   ·have e5 : i.Op = 19 := by simpa using e4
    simp [e5, inB]
   ·have e5 : i.Op ≠ 19 := by simpa using e4
    rw [e4, Eq.comm, inB, Bool.and_eq_false_iff]
    simp only [decide_eq_false_iff_not]
    omega
 refine OK.ite (fun e => ?_) (fun e16 => ?_)
 ·rw [ho] at e
  have e : 16 <= i.Op /\ i.Op <= 19 := by simpa [inB] using e
  exact OK.bind2 (zcY _) (fun a _ => OK.ret (notLoop (by omega) (fun _ => hk)))
 refine OK.ite (fun e => ?_) (fun e20 => ?_)
 ·have e : i.Op = 20 := by simpa using e
  have hlp := hg.fine.loop hi e
  have ew : w64 ((p : Int) - i.D) = (((p : Int) - i.D).toNat : Int) := by rw [zO (by omega) (by omega)]; omega
  obtain ⟨hd, hd1, hd2⟩ := vz (xs := j.ca) (p := ((p : Int) - i.D).toNat) (by rw [h.lenC]; omega)
  refine OK.bind2 (zcY _) (fun a _ => OK.ite (fun ha => OK.ret (fun h0 => absurd h0 (by simpa using ha))) (fun _ => ?_))
  refine OK.bind2 (OK.count (Q := fun o => match o with | .inl _ => ∀ q, q < 8 -> zjx (k q) (hd q) | .inr r => r.2 ≠ 0) (fun t _ => ∀ q, q < t -> zjx (k q) (hd q)) (fun q hq => by omega) (fun t s again ht hI kk => ?_) (fun _ hI => hI)) (fun o ho => ?_)
  ·unfold qg
   simp only [znM ht, ew, hd2, zbs]
   refine OK.bind2 (zlJ _ _) (fun r hr => OK.ite (fun _ => OK.ret (by simp)) (fun hn => kk _ (fun q hq => ?_)))
   by_cases hqt : q < t
   ·exact hI q hqt
   ·obtain rfl : q = t := by omega
    exact hr (by simpa using hn)
  ·cases o with
   | inl _ =>
    refine OK.ret (fun _ => ⟨hk, fun i' hi' _ q hq x hx h1 h2 => ?_⟩)
    rw [hi] at hi'; cases hi'
    rw [hk1] at h1; cases h1
    rw [hd1] at h2; cases h2
    exact ho q hq
   | inr r => exact OK.ret (fun h0 => absurd h0 ho)
 refine OK.ite (fun e => ?_) (fun e21 => ?_)
 ·have e : i.Op = 21 := by simpa using e
  have him := zbX hr e
  obtain ⟨n, hn⟩ := zof him.1
  rw [hn]
  obtain ⟨l, hl, hl3⟩ := zhY ⟨n, by omega⟩
  obtain ⟨sg, hs1, hs2, hs3⟩ := zgT ⟨n, by omega⟩
  have hl' : qO 5000 (n : Int) = some l := hl
  have hs1' : xZ (n : Int) = some (sg, true) := hs1
  simp only [hl', zbs]
  have ec : w64 (1 + (l.length : Int)) = ((1 + l.length : Nat) : Int) := by rw [zO (by omega) (by omega)]; simp
  have ec1 : (1 : Int) = ((1 : Nat) : Int) := rfl
  have hcut : ∃ ys, cut (xE 8 k) 1 (w64 (1 + (l.length : Int))) = some ys := by
   rw [ec]
   exact ⟨_, zhz (lo := 1) (by omega) (by rw [zaI]; omega)⟩
  obtain ⟨ys, hys⟩ := hcut
  rw [hys]
  simp only [zbs]
  refine OK.bind2 (ziJ ⟨n, by omega⟩ hl ys) (fun r _ => ?_)
  unfold zaB
  simp only [hs1', zbs]
  refine OK.ret (notLoop (by omega) (fun _ => ?_))
  exact kw (WT.num ⟨by simp, by simpa using hs2, by simpa using hs3⟩)
 refine OK.ite (fun e => ?_) (fun e22 => ?_)
 ·have e : i.Op = 22 := by simpa using e
  exact OK.bind2 (zcY _) (fun a _ => OK.ret (notLoop (by omega) (fun _ => hk)))
 simp only [beq_eq_false_iff_ne, ne_eq] at e0 e11 e12 e13 e14 e15 e20 e21 e22
 have e16' : ¬ (16 <= i.Op /\ i.Op <= 19) := by
  rw [ho] at e16
  intro h
  simp [inB, h] at e16
 refine OK.bind2 (zpq (hk _ (by omega)).span hs.span) (fun r hr => ?_)
 rw [hD (by omega)]
 simp only [zbs]
 exact OK.bind2 (zcY _) (fun a _ => OK.ret (notLoop (by omega) (fun _ => kw (WT.num hr))))
end Go.Proofs.YtbmknhpfkpmigaaGreatDoor
namespace Go.Proofs.YtbmknhpfkpmigaaGreatDoor
open Go.Sx
theorem zjy (l : List Int) (m : Int) : jh l m = some (l.contains m) := by
 unfold jh vG
 rw [zcn (fun i => if (l[i]? == some m) then some (i : Int) else none) (N := l.length)]
 ·simp only [zbs]
  cases hf : zaC (fun i => if (l[i]? == some m) then some (i : Int) else none) l.length 0 with
  | some v =>
   obtain ⟨j, _, h2, h3, _⟩ := zbd hf
   split at h3
   ·rename_i h
    cases h3
    have : m ∈ l := zmg (by simpa using h)
    simp [zdU, this]
   ·cases h3
  | none =>
   have := zbG hf
   have hm : m ∉ l := by
    intro hm
    obtain ⟨j, hj, rfl⟩ := List.mem_iff_getElem.1 hm
    have := this j (by omega) (by omega)
    simp [hj] at this
   simp [zdU, hm]
 ·intro j again hj
  unfold zbn
  simp only [ze8 hj, zbs, zeg hj]
  rcases zft (m == l[j]) with h | h
  ·have e : m = l[j] := by simpa using h
   simp [e]
  ·have e : ¬ m = l[j] := by simpa using h
   have e2 : ¬ l[j] = m := fun x => e x.symm
   simp [e, e2]
def zjz (l : List Int) : Prop := (∀ x ∈ l, 0 <= x /\ x < 4) /\ l.Nodup /\ l.length <= 4
theorem zeF {l : List Int} {i : Nat} (h : i < l.length) : (l.take (i + 1)).Nodup ↔ (l.take i).Nodup /\ l[i] ∉ l.take i := by
 rw [List.take_add_one, zeg h]
 simp only [Option.toList_some]
 rw [List.nodup_append]
 constructor
 ·rintro ⟨h1, _, h3⟩
  exact ⟨h1, fun hm => h3 _ hm _ (by simp) rfl⟩
 ·rintro ⟨h1, h2⟩
  refine ⟨h1, by simp, fun a ha b hb e => ?_⟩
  simp at hb
  subst hb; subst e
  exact h2 ha
theorem zjA (l : List Int) : OK (zcd l) (fun r => r = true ↔ zjz l) := by
 unfold zcd
 refine OK.bind2 (OK.count (Q := fun o => match o with | .inl _ => (∀ x ∈ l, 0 <= x /\ x < 4) /\ l.Nodup | .inr r => r = false /\ ¬ zjz l) (fun i _ => (∀ x ∈ l.take i, 0 <= x /\ x < 4) /\ (l.take i).Nodup) (by simp) (fun i s again hi hI k => ?_) (fun s hI => ?_)) (fun o ho => ?_)
 ·unfold zfp
  simp only [ze8 hi, zbs, zlA (show i <= l.length by omega), zjy]
  refine OK.bind2 (R := fun o => o = true ↔ ¬ (0 <= l[i] /\ l[i] < 4 /\ l[i] ∉ l.take i)) ?_ (fun o ho => ?_)
  ·refine OK.ite (fun h => OK.ret ?_) (fun h => OK.ite (fun h2 => OK.ret ?_) (fun h2 => OK.ret ?_))
   ·simp at h; simp; omega
   ·simp at h h2; simp; omega
   ·simp at h h2
    have h3 : 0 <= l[i] := by omega
    have h4 : l[i] < 4 := by omega
    simp [h3, h4]
  refine OK.ite (fun h => OK.ret ⟨rfl, fun hg => ?_⟩) (fun h => k _ ?_)
  ·have := (zeF hi).1 (hg.2.1.sublist (List.take_sublist _ _))
   have hm := hg.1 l[i] (List.getElem_mem _)
   exact (ho.1 h) ⟨hm.1, hm.2, this.2⟩
  ·have hh : 0 <= l[i] /\ l[i] < 4 /\ l[i] ∉ l.take i := Classical.byContradiction (fun hc => by rw [ho.2 hc] at h; cases h)
   refine ⟨fun x hx => ?_, (zeF hi).2 ⟨hI.2, hh.2.2⟩⟩
   rw [List.take_add_one, zeg hi] at hx
   rcases List.mem_append.1 hx with hx | hx
   ·exact hI.1 x hx
   ·simp at hx; subst hx; exact ⟨hh.1, hh.2.1⟩
 ·simpa using hI
 ·cases o with
  | inl _ =>
   refine OK.ret ?_
   simp only [zdq]
   exact ⟨fun h => ⟨ho.1, ho.2, by omega⟩, fun h => by have := h.2.2; omega⟩
  | inr r => exact OK.ret ⟨fun h => (by rw [ho.1] at h; cases h), fun h => absurd h ho.2⟩
def zoT (code : List zc) (j : zf) : Prop := ∀ (q a : Nat) (ia : zc), j.any[q]? = some true -> code[a]? = some ia -> ia.Op = 20 -> (a : Int) - ia.D < q -> q <= a -> j.any[((a : Int) - ia.D).toNat]? = some true
theorem zoT.ways {code : List zc} (hg : ze7 code) {p : Nat} {j j' : zf} (h : zoT code j) (hp : j.any[p]? = some true) (hw : zkF code p j j') : zoT code j' := by
 intro q a ia hq ha ho h1 h2
 have hlp := hg.fine.loop ha ho
 rcases hw.new q hq with h3 | ⟨i, hi, hway⟩
 ·exact hw.keep _ (h q a ia h3 ha ho h1 h2)
 ·
  by_cases hin : (a : Int) - ia.D <= p /\ p <= a
  ·by_cases hh : (p : Int) = a - ia.D
   ·rw [<- hh]
    exact hw.keep _ (by simpa using hp)
   ·exact hw.keep _ (h p a ia hp ha ho (by omega) hin.2)
  ·exfalso
   rcases hway with ⟨hon, rfl⟩ | ⟨hl, hd, hqd⟩
   ·omega
   ·refine hg.en p (zes.1 hi).1 ⟨i, hi, hl, hd, a, ia, q, (zes.1 ha).1, ha, ho, hqd, (qA ha ho).2 ⟨by omega, by omega⟩, ?_, by omega⟩
    rcases zft (zx code p a) with hc | hc
    ·exact absurd ((qA ha ho).1 hc) (fun hc => hin ⟨hc.1, by omega⟩)
    ·exact hc
structure ziK (m : zj) (n : Nat) (j : zf) : Prop where
 ji : JI m j
 zero : j.any[0]? = some true
 clos : zoT m.Co j
 fits : ∀ (p : Nat) (i : zc), p < n -> m.Co[p]? = some i -> i.Op = 20 -> j.any[p]? = some true -> ∀ q, q < 8 -> ∀ x h, j.ca[p]? = some x -> j.ca[((p : Int) - i.D).toNat]? = some h -> zjx (x q) (h q)
theorem zlN {m : zj} {j : zf} {n : Nat} (h : ziK m n j) (hg : ze7 m.Co) (hn : n < m.Co.length) (again : zf -> Option (zf ⊕ ((Option zf) × Int × Int)))
  {Q : (zf ⊕ ((Option zf) × Int × Int)) -> Prop} (hk : ∀ j', ziK m (n + 1) j' -> OK (again j') Q) (he : ∀ e, e ≠ 0 -> Q (.inr (none, (n : Int), e))) : OK (zN 5000 n again j) Q := by
 unfold zN
 obtain ⟨a, ha, ha2⟩ := vz (xs := j.any) (p := n) (by rw [h.ji.lenA]; exact hn)
 simp only [ha2, zbs]
 refine OK.ite (fun hf => ?_) (fun hf => ?_)
 ·have hf : a = false := by simpa using hf
  refine hk j ⟨h.ji, h.zero, h.clos, fun p i hp hi ho hany => ?_⟩
  by_cases e : p = n
  ·subst e; rw [ha, hf] at hany; cases hany
  ·exact h.fits p i (by omega) hi ho hany
 have hat : j.any[n]? = some true := by rw [ha]; simpa using hf
 refine OK.bind2 (zkc h.ji hg hn) (fun j1 ⟨hj1, ha1, hc1⟩ => ?_)
 refine OK.bind2 (zlM hj1 hg hn) (fun r hr => ?_)
 refine OK.ite (fun e => OK.ret (he _ (by simpa using e))) (fun e => ?_)
 have hr := hr (by simpa using e)
 refine OK.bind2 (zlL hj1 hg hn hr.1) (fun j2 ⟨hj2, hw⟩ => hk j2 ?_)
 have hcl : zoT m.Co j1 := by intro q a ia; rw [ha1]; exact h.clos q a ia
 refine ⟨hj2, hw.keep _ (by rw [ha1]; exact h.zero), hcl.ways hg (by rw [ha1]; exact hat) hw, fun p i hp hi ho hany q hq x hh hx hhd => ?_⟩
 have hlp := hg.fine.loop hi ho
 rw [(hw.same p (by omega)).1] at hx
 rw [(hw.same _ (by omega)).1] at hhd
 rw [(hw.same p (by omega)).2, ha1] at hany
 by_cases e : p = n
 ·subst e
  exact hr.2 i hi ho q hq x hh hx hhd
 ·rw [hc1 p e] at hx
  rw [hc1 _ (by omega)] at hhd
  exact h.fits p i (by omega) hi ho hany q hq x hh hx hhd
structure zpg (m : zj) (r : (Option zf) × Int × Int) : Prop where
 place : r.2.1 = 0 \/ 0 <= r.2.1 /\ r.2.1 < m.Co.length
 good : r.2.2 = 0 -> r.2.1 = 0 /\ ze7 m.Co /\ zjz m.Ms /\ ∃ j, r.1 = some j /\ ziK m m.Co.length j
 bad : r.2.2 ≠ 0 -> r.1 = none
theorem zok {m : zj} (hg : ze7 m.Co) : ziK m 0 ⟨m, List.replicate m.Co.length (fun _ => zax), (List.replicate m.Co.length false).set 0 true, lps m.Co m.Co.length⟩ := by
 have hn := hg.n1
 refine ⟨⟨rfl, by simp, by simp, rfl, fun q x hx r _ => ?_⟩, by show (List.set _ _ _)[0]? = _; rw [List.getElem?_set, if_pos rfl, if_pos (by rw [List.length_replicate]; omega)], fun q a ia hq ha ho h1 h2 => ?_, fun p i hp => by omega⟩
 ·obtain ⟨_, rfl⟩ := zhg hx
  exact WT.zero
 ·have hlp := hg.fine.loop ha ho
  simp only at hq
  by_cases e : q = 0
  ·subst e; omega
  ·rw [zbY e] at hq
   obtain ⟨_, h⟩ := zhg hq
   cases h
theorem ziL (m : zj) : OK (qJ 5000 m) (zpg m) := by
 unfold qJ
 refine OK.bind2 (zjA _) (fun g hgm => ?_)
 refine OK.ite (fun _ => OK.ret ⟨.inl rfl, fun h => by simp at h, fun _ => rfl⟩) (fun hgt => ?_)
 have hgm := hgm.1 (by simpa using hgt)
 obtain ⟨r, h1, h2, h3, h4⟩ := zgH m.Co
 simp only [h1, zbs]
 refine OK.ite (fun hr => OK.ret ⟨h2, fun h => absurd h (by simpa using hr), fun _ => rfl⟩) (fun hr => ?_)
 have hg := (h3 (by simpa using hr)).2
 have hn := hg.n64
 have hn1 := hg.n1
 refine OK.bind2 (R := fun o => o = zf.mk m (List.replicate m.Co.length (fun _ => zax)) (List.replicate m.Co.length false) []) ?_ (fun o ho => ?_)
 ·refine OK.bind (OK.mkl (by omega) (by simp; omega) ?_)
  refine OK.bind (OK.mkl (by omega) (by simp; omega) (OK.ret ?_))
  simp [zax]
 subst ho
 simp only [zfV hg, zbs]
 have e0 : idx (List.replicate m.Co.length false) 0 = some false := by
  have := ze8 (xs := List.replicate m.Co.length false) (i := 0) (by simp; omega)
  simpa using this
 rw [e0]
 simp only [zbs]
 refine OK.bind2 (OK.count (Q := fun o => match o with | .inl j => ziK m m.Co.length j | .inr r => r.1 = none /\ r.2.2 ≠ 0 /\ 0 <= r.2.1 /\ r.2.1 < m.Co.length) (fun i s => ziK m i s) ?_ (fun i s again hi hI k => zlN hI hg hi again k (fun e he => ⟨rfl, he, by simp, by simpa using hi⟩)) (fun s hI => hI)) (fun o ho => ?_)
 ·simpa using zok hg
 ·cases o with
  | inl j => exact OK.ret ⟨.inl rfl, fun _ => ⟨rfl, hg, hgm, j, rfl, ho⟩, fun h => absurd rfl h⟩
  | inr r => exact OK.ret ⟨.inr ho.2.2, fun h => absurd h ho.2.1, fun _ => ho.1⟩
def known (j : zf) (p : Nat) : List za := match j.any[p]?, j.ca[p]? with
 | some true, some c => xE 8 c
 | _, _ => []
end Go.Proofs.YtbmknhpfkpmigaaGreatDoor

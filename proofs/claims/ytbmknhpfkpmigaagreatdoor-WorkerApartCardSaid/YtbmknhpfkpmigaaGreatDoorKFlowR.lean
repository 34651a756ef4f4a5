/- Texts KFlowR, KSem of this proof. -/
import Derived.Test.YtbmknhpfkpmigaaGreatDoorKJudge
set_option linter.unusedVariables false
set_option linter.unusedSimpArgs false
namespace Go.Proofs.YtbmknhpfkpmigaaGreatDoor
open Go.Sx
theorem znK (n : Int) : qj n = some (zfW n) := by
 unfold qj zfW
 congr 1
 rw [Bool.eq_iff_iff]; simp; omega
theorem zkC (i : zc) : qX i = some (znN i) := by
 unfold qX znN
 rw [znK]
 cases zfW i.B <;> cases h : (i.Imm == 0) <;> simp [h]
theorem zdB (i : zc) : jM i = some (qe i) := by
 unfold jM qe zX jF inB
 simp only [znK, zkC, zbs, Option.bind_fun_some, ge_iff_le, Bool.and_assoc]
 refine zbM (jV (jV rfl)) ?_
 refine zbM (jV (jV rfl)) ?_
 refine zbM (jV (jV rfl)) ?_
 refine zbM (jV (jV (jV ?_))) ?_
 ·cases h : (i.Imm == 0)
  ·simp only [zfe, if_false]
   congr 1
   rw [Bool.eq_iff_iff]; simp at h |-; omega
  ·simp at h; simp [h]
 refine zbM (jV (jV (jV (jV rfl)))) ?_
 refine zbM rfl ?_
 refine zbM (jV (jV (jV rfl))) ?_
 refine zbM (jV (jV (jV (jV (jV rfl))))) ?_
 refine zbM rfl ?_
 refine zbM (jV (jV (jV rfl))) rfl
section
variable {p : zc} {x : Bool} {o d a b m : Int}
end
theorem zeE (i : zc) : jG i = some (zr i) := by
 unfold jG
 rw [zdB]
 simp only [zbs, jF]
 cases hr : qe i with
 | false => simp [zr, vf, zbA, hr]
 | true =>
  cases h15 : (i.Op == 15) with
  | true =>
   have hj : inB i.Op 15 19 = true := by simp at h15; simp [inB, h15]
   have := zdg (i := i) (by simp [vf, hr, hj])
   simp [zr, vf, hr, hj, zO (x := i.D + 1) (by omega) (by omega)]
   simpa using h15
  | false =>
   have e15 : i.Op ≠ 15 := by simpa using h15
   cases hj : inB i.Op 16 19 with
   | true =>
    have hj2 : inB i.Op 15 19 = true := by simp [inB] at hj |-; omega
    have := zdg (i := i) (by simp [vf, hr, hj2])
    have hj3 : (decide (i.Op >= 16) && decide (i.Op <= 19)) = true := hj
    simp [zr, vf, hr, hj2, hj3, zO (x := i.D + 1) (by omega) (by omega), e15]
   | false =>
    have hj2 : inB i.Op 15 19 = false := by
     cases h : inB i.Op 15 19 with
     | false => rfl
     | true =>
      simp [inB] at h hj
      omega
    have hj3 : (decide (i.Op >= 16) && decide (i.Op <= 19)) = false := hj
    cases hl : (i.Op == 20) with
    | true =>
     have := zhA (i := i) (by simp [zbA, hr, hl])
     have e : w64 (0 - i.D) = -i.D := by rw [zO (by omega) (by omega)]; omega
     simp only [hl, hj3, e, zr, vf, zbA, hr, hj2]
     rfl
    | false =>
     simp [zr, vf, zbA, hr, hj2, hj3, hl]
theorem zlE (code : List zc) (hn : code.length <= 64) : qQ (xg code) (fun _ => (.inl ())) code.length 0 () = some (zdU (zaC (zac code) code.length 0)) := by
 refine zcn (zac code) (N := code.length) ?_
 intro j again hj
 unfold xg
 have hx : code[j]? = some code[j] := zeg hj
 generalize hi : code[j] = x at hx
 have hg := zde x
 have e1 : w64 ((j : Int) + (zr x).1) = j + (zr x).1 := zO (by omega) (by omega)
 have e2 : w64 ((code.length : Int) - 1) = code.length - 1 := zO (by omega) (by omega)
 have e3 : w64 ((j : Int) + 1) = j + 1 := zO (by omega) (by omega)
 have e4 : (((j : Int) + 1) == code.length) = ((j : Int) == code.length - 1) := by rw [Bool.eq_iff_iff]; simp; omega
 have e5 : decide ((j : Int) + (zr x).1 > code.length - 1) = decide ((j : Int) + (zr x).1 >= code.length) := by rw [Bool.eq_iff_iff]; simp; omega
 simp only [ze8 hj, hi, zbs, zdB, zeE, e1, e2, e3, e4, e5, zac, hx, ziC]
 rcases zft (qe x) with h1 | h1
 ·rcases zft ((zr x).2.1 && (decide ((j : Int) + (zr x).1 < 0) || decide ((j : Int) + (zr x).1 >= code.length))) with h2 | h2
  ·simp only [h1, h2]; rfl
  ·rcases zft ((zr x).2.2 && ((j : Int) == code.length - 1)) with h3 | h3
   ·simp only [h1, h2, h3]; rfl
   ·simp only [h1, h2, h3]; rfl
 ·simp only [h1]; rfl
theorem zlF {code : List zc} (hn : code.length <= 64) (hD : zgt code) (fu : Nat) (hf : 100 <= fu) : OK (jx fu code) (fun B => B.length = code.length /\ ∀ p, p < code.length -> B[p]? = some (bod code code.length p)) := by
 unfold jx
 refine OK.bind (OK.mkl (by omega) (by simp; omega) ?_)
 simp only [Int.toNat_natCast]
 refine OK.bind2 (R := fun B => B.length = code.length /\ ∀ p, p < code.length -> B[p]? = some (bod code code.length p)) ?_ (fun x hx => OK.ret hx)
 refine OK.count (fun i B => B.length = code.length /\ ∀ p, p < code.length -> B[p]? = some (bod code i p)) ⟨by simp, fun p hp => by simp [hp, bod]⟩ ?_ (fun s h => h)
 intro a B again ha ⟨hl, hB⟩ k
 unfold xB
 refine OK.bind (OK.getN ha (fun x hx => ?_))
 refine OK.ite (fun h => ?_) (fun h => ?_)
 ·have ho : x.Op ≠ 20 := by simpa using h
  refine k _ ⟨hl, fun p hp => ?_⟩
  rw [hB p hp, zfw]
  have : zx code p a = false := by simp [zx, hx, ho]
  simp [this]
 ·have ho : x.Op = 20 := by simpa using h
  have hd := hD.loop hx ho
  have e1 : w64 ((a : Int) - x.D) = a - x.D := zO (by omega) (by omega)
  rw [e1]
  refine OK.bind2 (R := fun B => B.length = code.length /\ ∀ p, p < code.length -> B[p]? = some (bod code (a + 1) p)) ?_ (fun B' h' => k B' h')
  refine OK.rounds (fun s : List (List Int) × Int => (a : Int) - x.D <= s.2 /\ s.2 <= a + 1 /\ s.1.length = code.length /\ ∀ p : Nat, p < code.length -> s.1[p]? = some (if (p : Int) < s.2 then bod code (a + 1) p else bod code a p))
   (fun s => ((a : Int) + 1 - s.2).toNat) ?_ fu _ ⟨by omega, by omega, hl, fun p hp => ?_⟩ (by omega)
  ·rintro ⟨B1, q⟩ again ⟨h1, h2, h3, h4⟩ k2
   simp only at h1 h2 h3 h4
   unfold xA
   refine OK.ite (fun hc => ?_) (fun hc => ?_)
   ·have hq : q <= a := by simpa using hc
    have hq0 : 0 <= q := by omega
    have hq1 : q < B1.length := by omega
    refine OK.bind (OK.get hq0 hq1 (fun y hy => ?_))
    have hy2 := h4 q.toNat (by omega)
    rw [hy2] at hy
    have hqq : ((q.toNat : Nat) : Int) = q := by omega
    rw [if_neg (by omega)] at hy
    cases hy
    have hbl := zjp code a q.toNat
    refine OK.bind (OK.hasRoom (by simp; omega) ?_)
    have e2 : w64 (q + 1) = q + 1 := zO (by omega) (by omega)
    rw [e2]
    refine k2 _ ⟨?_, ?_, ?_, fun p hp => ?_⟩ ?_
    ·show (a : Int) - x.D <= q + 1; omega
    ·show q + 1 <= (a : Int) + 1; omega
    ·simpa using h3
    ·simp only
     rw [zoP]
     by_cases hpq : q.toNat = p
     ·subst hpq
      rw [if_pos rfl, if_pos (by omega), if_pos (by omega), zfw]
      have : zx code q.toNat a = true := by simp [zx, hx, ho]; omega
      rw [this]; rfl
     ·rw [if_neg hpq, h4 p hp]
      by_cases hlt : (p : Int) < q
      ·rw [if_pos hlt, if_pos (by omega)]
      ·rw [if_neg hlt, if_neg (by omega)]
    ·simp only; omega
   ·have hq : ¬ q <= a := by simpa using hc
    refine OK.ret ⟨h3, fun p hp => ?_⟩
    rw [h4 p hp]
    by_cases hlt : (p : Int) < q
    ·rw [if_pos hlt]
    ·rw [if_neg hlt, zfw]
     have : zx code p a = false := by simp [zx, hx, ho]; omega
     simp [this]
  ·simp only
   rw [hB p hp]
   by_cases hlt : (p : Int) < a - x.D
   ·rw [if_pos hlt, zfw]
    have : zx code p a = false := by simp [zx, hx, ho]; omega
    simp [this]
   ·rw [if_neg hlt]
theorem znL (l : List Int) (m : Int) : vd l m = some (l.contains m) := by
 unfold vd
 rw [zcn (fun i => if (l[i]? == some m) then some true else none) (N := l.length)]
 ·simp only [zbs]
  cases hf : zaC (fun i => if (l[i]? == some m) then some true else none) l.length 0 with
  | some v =>
   obtain ⟨j, _, h2, h3, _⟩ := zbd hf
   split at h3
   ·rename_i h
    cases h3
    have : m ∈ l := zmg (by simpa using h)
    simp [zdU, this]
   ·cases h3
  | none =>
   have := zbG hf
   have hm : m ∉ l := by
    intro hm
    obtain ⟨j, hj, rfl⟩ := List.mem_iff_getElem.1 hm
    have := this j (by omega) (by omega)
    simp [hj] at this
   simp [zdU, hm]
 ·intro j again hj
  unfold zcR
  simp only [ze8 hj, zbs, zeg hj]
  rcases zft (l[j] == m) with h | h
  ·simp [h]
  ·simp [h]
open Classical in
theorem zpf {code : List zc} {B : List (List Int)} (hn : code.length <= 64) (hB : ∀ p, p < code.length -> B[p]? = some (bod code code.length p)) (hBl : B.length = code.length) {l m : Nat} (hl : l < code.length) (hm : m < code.length) :
  OK (qQ (zaa B l m) (fun (s : Int × Bool) => (s.1, s.2)) code.length 0 (0, true)) (fun s => (0 < s.1 ↔ ∃ p, p < code.length /\ zx code p m = true /\ zx code p l = true) /\ (s.2 = false ↔ ∃ p, p < code.length /\ zx code p m = true /\ zx code p l = false)) := by
 refine OK.count (fun (i : Nat) (s : Int × Bool) => 0 <= s.1 /\ s.1 <= (i : Int) /\ (0 < s.1 ↔ ∃ p, p < i /\ zx code p m = true /\ zx code p l = true) /\ (s.2 = false ↔ ∃ p, p < i /\ zx code p m = true /\ zx code p l = false)) ⟨by simp, by simp, by simp, by simp⟩ ?_ (fun s h => h.2.2)
 rintro i ⟨b, al⟩ again hi ⟨h0, h1, h2, h3⟩ k
 simp only at h0 h1 h2 h3
 unfold zaa
 refine OK.bind (OK.getN (by omega) (fun x hx => ?_))
 rw [hB i hi] at hx
 cases hx
 simp only [znL, zjq hm, zjq hl, zbs]
 have step : ∀ {P : Nat -> Prop}, (∃ p, p < i + 1 /\ P p) ↔ (∃ p, p < i /\ P p) \/ P i := by
  intro P
  constructor
  ·rintro ⟨p, hp, h⟩
   rcases Nat.lt_or_ge p i with h4 | h4
   ·exact .inl ⟨p, h4, h⟩
   ·have : p = i := by omega
    subst this; exact .inr h
  ·rintro (⟨p, hp, h⟩ | h)
   ·exact ⟨p, by omega, h⟩
   ·exact ⟨i, by omega, h⟩
 refine OK.ite (fun hc => ?_) (fun hc => ?_)
 ·refine OK.ite (fun hd => ?_) (fun hd => ?_)
  ·have e : w64 (b + 1) = b + 1 := zO (by omega) (by omega)
   rw [e]
   refine k _ ⟨by simp only; omega, by simp only; omega, ?_, ?_⟩
   ·simp only [step, hc, hd]; simp; omega
   ·simp only [step, h3, hc, hd]; simp
  ·refine k _ ⟨h0, by simp only; omega, ?_, ?_⟩
   ·simp only [step, h2, hc, hd]; simp
   ·simp only [step, hc, hd]; simp
 ·refine k _ ⟨h0, by simp only; omega, ?_, ?_⟩
  ·simp only [step, h2, hc]; simp
  ·simp only [step, h3, hc]; simp
theorem zjr {code : List zc} (hn : code.length <= 64) (hD : zgt code) {B : List (List Int)} (hB : ∀ p, p < code.length -> B[p]? = some (bod code code.length p)) (hBl : B.length = code.length) (fu : Nat) :
  ∃ o, zhV (Cr code) code.length o /\ qK fu code B = some (match o with | some l => ((l : Int), true) | none => (0, false)) := by
 have main : qQ (jl code B) (fun _ => (.inl ())) code.length 0 () = some (zdU (zaC (fun l => pick (Cr code l) ((l : Int), true)) code.length 0)) := by
  refine zcn _ (N := code.length) ?_
  intro l again hl
  have hx := zeg hl
  generalize hi : code[l] = x at hx
  unfold jl
  simp only [ze8 hl, hi, zbs]
  rcases zft (x.Op != 20) with h | h
  ·rw [ze0 (by rintro ⟨m, _, il, im, e1, e2, _⟩; rw [hx] at e1; cases e1; simp [e2] at h)]
   simp [h]
  ·have ho : x.Op = 20 := by simpa using h
   have hr : room l 1 = some () := by unfold room; rw [if_pos (by omega)]
   have inner : qQ (zab code B l) (fun _ => (.inl ())) l 0 () = some (zdU (zaC (fun m => pick (Crs code l m) ((l : Int), true)) l 0)) := by
    refine zcn _ (N := l) ?_
    intro m again hm
    have hmc : m < code.length := by omega
    have hy := zeg hmc
    generalize hj : code[m] = y at hy
    unfold zab
    simp only [ze8 hmc, hj, zbs]
    rcases zft (y.Op != 20) with h' | h'
    ·rw [ze0 (by rintro ⟨il, im, _, _, e3, e4, _⟩; rw [hy] at e3; cases e3; simp [e4] at h')]
     simp [h']
    ·have ho' : y.Op = 20 := by simpa using h'
     obtain ⟨s, hs, q1, q2⟩ := zpf hn hB hBl hl hmc
     have hcr := zoa hD hm hx ho hy ho'
     rw [hs]
     simp only [h', zbs]
     by_cases hc : Crs code l m
     ·rw [zgL hc]
      have c := hcr.1 hc
      have c1 := q1.2 c.1
      have c2 := q2.2 c.2
      simp [c1, c2]
     ·rw [ze0 hc]
      have c : ¬ (0 < s.1 /\ s.2 = false) := fun ⟨c1, c2⟩ => hc (hcr.2 ⟨q1.1 c1, q2.1 c2⟩)
      have : (decide (s.1 > 0) && !s.2) = false := by
       cases h5 : (decide (s.1 > 0) && !s.2) with
       | false => rfl
       | true => exfalso; apply c; simpa using h5
      simp [this]
   simp only [h, hr, inner, zbs]
   obtain ⟨o, ho1, ho2⟩ := zco (X := Crs code l) (n := l) (v := fun _ => ((l : Int), true))
   rw [ho2]
   cases o with
   | none => rw [ze0 (fun ⟨m, h1, h2⟩ => ho1 m h1 h2)]; simp [zdU]
   | some m => rw [zgL ⟨m, ho1.1, ho1.2.1⟩]; simp [zdU]
 obtain ⟨o, h1, h2⟩ := zco (X := Cr code) (n := code.length) (v := fun l => ((l : Int), true))
 refine ⟨o, h1, ?_⟩
 unfold qK
 rw [main, h2]
 cases o <;> rfl
theorem zjs {code : List zc} (hn : code.length <= 64) (hD : zgt code) {B : List (List Int)} (hB : ∀ p, p < code.length -> B[p]? = some (bod code code.length p)) (hBl : B.length = code.length) (fu : Nat) (hf : 100 <= fu) :
  qL fu code B = some (match zaC (fun p => pick (En code p) ((p : Int), true)) code.length 0 with | some v => v | none => (0, false)) := by
 have main : qQ (jo fu code B) (fun _ => (.inl ())) code.length 0 () = some (zdU (zaC (fun p => pick (En code p) ((p : Int), true)) code.length 0)) := by
  refine zcn _ (N := code.length) ?_
  intro p again hp
  have hx := zeg hp
  generalize hi : code[p] = x at hx
  have hg := zde x
  have e1 : w64 ((p : Int) + (zr x).1) = p + (zr x).1 := zO (by omega) (by omega)
  unfold jo
  simp only [ze8 hp, hi, zbs, zeE]
  rcases zft ((!(zr x).2.1) || decide ((zr x).1 < 0)) with h | h
  ·rw [ze0]
   ·simp only [h]; rfl
   ·rintro ⟨i', hi', c1, c2, _⟩
    rw [hx] at hi'; cases hi'
    simp [c1] at h; omega
  ·have h' : (zr x).2.1 = true /\ 0 <= (zr x).1 := by simpa using h
   have hne := zoc x h'.1
   have hb := hD.leads hx h'.1
   generalize hd : (zr x).1 = d at e1 hb h' hne hg
   have ht : ((p : Int) + d).toNat < code.length := by omega
   have hbt := hB _ ht
   have hbp := hB p hp
   have hbl := zjp code code.length ((p : Int) + d).toNat
   generalize hbo : bod code code.length ((p : Int) + d).toNat = bt at hbt hbl
   have hit : idx B ((p : Int) + d) = some bt := by unfold Go.Sx.idx; rw [if_pos hb.1, hbt]
   have hip : idx B (p : Int) = some (bod code code.length p) := by unfold Go.Sx.idx; rw [if_pos (by omega)]; simpa using hbp
   generalize hX0 : EnX code p d = X
   have hin : OK (loop (jn code B p (zr x)) fu 0) (fun r => (r = .inr ((p : Int), true) /\ ∃ a ∈ bt, X a) \/ (r = .inl () /\ ∀ a ∈ bt, ¬ X a)) := by
    refine OK.rounds (fun s : Int => 0 <= s /\ s <= bt.length /\ ∀ (k : Nat) (a : Int), (k : Int) < s -> bt[k]? = some a -> ¬ X a) (fun s => ((bt.length : Int) - s).toNat) ?_ fu 0 ⟨by omega, by omega, fun k a hk => by omega⟩ (by omega)
    rintro s again ⟨s0, s1, s2⟩ k2
    unfold jn
    simp only [hd, e1, hit, zbs]
    refine OK.ite (fun hc => ?_) (fun hc => ?_)
    ·have hc' : s < bt.length := by simpa using hc
     refine OK.bind (OK.get s0 hc' (fun a ha => ?_))
     obtain ⟨q, hq, hcv, rfl⟩ := zgK.1 (by rw [hbo]; exact zmg ha)
     have hq2 := zeg hq
     generalize hqi : code[q] = ia at hq2
     have hop : ia.Op = 20 := by
      unfold zx at hcv; rw [hq2] at hcv; simp at hcv; exact hcv.1.1
     have dl := hD.loop hq2 hop
     have e2 : w64 ((q : Int) - ia.D) = q - ia.D := zO (by omega) (by omega)
     have e3 : w64 (s + 1) = s + 1 := zO (by omega) (by omega)
     simp only [hip, zbs, znL, zjq hq, ze8 hq, hqi, e2]
     rcases zft (zx code p q) with cv | cv
     ·simp only [cv, zbs]
      refine OK.bind (OK.ite (fun h5 => absurd h5 (by simp)) (fun _ => OK.ret ?_))
      refine OK.ite (fun h5 => absurd h5 (by simp)) (fun _ => ?_)
      rw [e3]
      refine k2 _ ⟨by omega, by omega, fun k a hk hka => ?_⟩ (by omega)
      rcases Int.lt_or_le k s with h6 | h6
      ·exact s2 k a h6 hka
      ·have : k = s.toNat := by omega
       subst this
       rw [ha] at hka; cases hka
       rw [<- hX0]
       rintro ⟨q', ia', e4, _, _, e5, _⟩
       have : q = q' := by omega
       subst this
       rw [cv] at e5; cases e5
     ·simp only [cv, zbs]
      refine OK.bind (OK.ite (fun h5 => OK.ret ?_) (fun h5 => absurd h5 (by simp)))
      refine OK.ite (fun h5 => OK.ret ?_) (fun h5 => ?_)
      ·exact .inl ⟨rfl, _, zmg ha, by rw [<- hX0]; exact ⟨q, ia, rfl, hq, hq2, cv, by simpa using h5⟩⟩
      ·rw [e3]
       refine k2 _ ⟨by omega, by omega, fun k a hk hka => ?_⟩ (by omega)
       rcases Int.lt_or_le k s with h6 | h6
       ·exact s2 k a h6 hka
       ·have : k = s.toNat := by omega
        subst this
        rw [ha] at hka; cases hka
        rw [<- hX0]
        rintro ⟨q', ia', e4, _, e6, _, e7⟩
        have : q = q' := by omega
        subst this
        rw [hq2] at e6; cases e6
        exact e7 (by simpa using h5)
    ·have hc' : ¬ s < bt.length := by simpa using hc
     refine OK.ret (.inr ⟨rfl, fun a ha => ?_⟩)
     obtain ⟨k, hk, rfl⟩ := List.mem_iff_getElem.1 ha
     exact s2 k _ (by omega) (zeg hk)
   obtain ⟨r, hr, hcase⟩ := hin
   have hX : (∃ a ∈ bt, X a) ↔ En code p := by
    rw [<- hX0]
    constructor
    ·rintro ⟨a, ha, q, ia, rfl, hq, hq2, cv, hne2⟩
     rw [<- hbo] at ha
     obtain ⟨q', _, hcv, e⟩ := zgK.1 ha
     have : q = q' := by omega
     subst this
     have hop : ia.Op = 20 := by
      unfold zx at hcv; rw [hq2] at hcv; simp at hcv; exact hcv.1.1
     exact ⟨x, hx, h'.1, by rw [hd]; omega, q, ia, _, hq, hq2, hop, by rw [hd]; omega, hcv, cv, by omega⟩
    ·rintro ⟨i', hi', c1, c2, a, ia, t, ha, hia, hop, ht2, v1, v2, v3⟩
     rw [hx] at hi'; cases hi'
     rw [hd] at ht2
     have : ((p : Int) + d).toNat = t := by omega
     subst this
     refine ⟨a, by rw [<- hbo]; exact zgK.2 ⟨a, ha, v1, rfl⟩, a, ia, rfl, ha, hia, v2, by omega⟩
   rw [hd] at h
   simp only [h, hr, zbs]
   rcases hcase with ⟨rfl, hc⟩ | ⟨rfl, hc⟩
   ·rw [zgL (hX.1 hc)]; rfl
   ·rw [ze0 (fun h9 => by obtain ⟨a, ha, h10⟩ := hX.2 h9; exact hc a ha h10)]; rfl
 unfold qL
 rw [main]
 cases zaC (fun p => pick (En code p) ((p : Int), true)) code.length 0 <;> rfl
theorem zoe {code : List zc} (hn : code.length <= 64) (hD : zgt code) {B : List (List Int)} (hB : ∀ p, p < code.length -> B[p]? = some (bod code code.length p)) (hBl : B.length = code.length) (fu : Nat) (hf : 100 <= fu) :
  OK (xk fu code B) (fun S => mn S = mn (zgN code code.length)) := by
 unfold xk
 refine OK.bind2 (R := fun S => mn S = mn (zgN code code.length)) ?_ (fun x hx => OK.ret hx)
 refine OK.count (fun (i : Nat) (s : Int) => mn s = mn (zgN code i) /\ 0 <= s /\ s <= 65536 * i) (by simp [zgN]) ?_ (fun s h => h.1)
 intro p s again hp ⟨hs, s0, s1⟩ k
 unfold ve
 have hbp := hB p hp
 have hip : idx B (p : Int) = some (bod code code.length p) := by unfold Go.Sx.idx; rw [if_pos (by omega)]; simpa using hbp
 have hbl := zjp code code.length p
 let prodB : List Int -> Int := fun l => l.foldl (fun s a => s * ((code[a.toNat]?.map (·.Imm)).getD 0 + 1)) 1
 have hprod : ∀ k, prodB (bod code k p) = vF code p k := by
  intro k
  induction k with
  | zero => rfl
  | succ k ih =>
   rw [zfw]
   unfold vF
   cases hk : code[k]? with
   | none =>
    have : zx code p k = false := by simp [zx, hk]
    simp [this, ih]
   | some i =>
    simp only
    cases hc : zx code p k with
    | false => simp [ih]
    | true =>
     simp only [if_true]
     show (bod code k p ++ [(k : Int)]).foldl _ 1 = _
     rw [List.foldl_append]
     have ih' : (bod code k p).foldl (fun s a => s * ((code[a.toNat]?.map (·.Imm)).getD 0 + 1)) 1 = vF code p k := ih
     rw [ih']
     simp [hk]
 have himm : ∀ (j : Nat) (a : Int), (bod code code.length p)[j]? = some a -> ∃ (q : Nat) (i : zc), a = q /\ q < code.length /\ code[q]? = some i /\ 1 <= i.Imm /\ i.Imm <= 255 := by
  intro j a ha
  obtain ⟨q, hq, hcv, rfl⟩ := zgK.1 (zmg ha)
  have hq2 := zeg hq
  have := hD.loop hq2 (ziF hq2 hcv)
  exact ⟨q, _, rfl, hq, hq2, by omega, by omega⟩
 have htm := hprod code.length
 generalize bod code code.length p = bt at hip hbl himm htm
 have mono : ∀ (n i : Nat), i + n = bt.length -> 1 <= prodB (bt.take i) -> prodB (bt.take i) <= prodB bt := by
  intro n
  induction n with
  | zero => intro i hi _; rw [List.take_of_length_le (by omega)]; omega
  | succ n ih =>
   intro i hi h1
   have hlt : i < bt.length := by omega
   have hget := zeg hlt
   obtain ⟨q, im, e, _, hq, i1, i2⟩ := himm i _ hget
   have htake : prodB (bt.take (i + 1)) = prodB (bt.take i) * (im.Imm + 1) := by
    show (bt.take (i + 1)).foldl _ 1 = _
    rw [List.take_add_one, hget, List.foldl_append]
    simp [e, hq]
    rfl
   have h2 : prodB (bt.take i) * 1 <= prodB (bt.take i) * (im.Imm + 1) := Int.mul_le_mul_of_nonneg_left (by omega) (by omega)
   have h3 := ih (i + 1) (by omega) (by rw [htake]; omega)
   rw [htake] at h3
   omega
 have hl : OK (loop (xt code B p) fu (1, 0)) (fun t => mn t = mn (vF code p code.length) /\ 1 <= t /\ t <= 65536) := by
  refine OK.rounds (fun (s : Int × Int) => 0 <= s.2 /\ s.2 <= bt.length /\ s.1 = prodB (bt.take s.2.toNat) /\ 1 <= s.1 /\ s.1 <= 65536) (fun s => ((bt.length : Int) - s.2).toNat) ?_ fu _ ⟨by simp, by simp, by simp [prodB], by simp, by simp⟩ (by simp; omega)
  rintro ⟨t, j⟩ again ⟨j0, j1, ht, t1, t2⟩ k2
  simp only at j0 j1 ht t1 t2
  unfold xt
  simp only [hip, zbs]
  have stop : (¬ j < bt.length \/ ¬ t <= 256) -> mn t = mn (vF code p code.length) := by
   intro h
   rw [<- htm]
   rcases h with h | h
   ·rw [ht, List.take_of_length_le (by omega)]
   ·have h5 := mono (bt.length - j.toNat) j.toNat (by omega) (by rw [<- ht]; omega)
    rw [<- ht] at h5
    unfold mn
    split <;> split <;> omega
  refine OK.bind (OK.ite (fun hc => OK.ret ?_) (fun hc => OK.ret ?_))
  ·refine OK.ite (fun hd => ?_) (fun hd => ?_)
   ·have hj : j < bt.length := by simpa using hc
    have ht3 : t <= 256 := by simpa using hd
    refine OK.bind (OK.get j0 hj (fun a ha => ?_))
    obtain ⟨q, im, rfl, hq1, hq, i1, i2⟩ := himm _ _ ha
    refine OK.bind (OK.getN hq1 (fun y hy => ?_))
    rw [hq] at hy; cases hy
    have m1 : t * (im.Imm + 1) <= 256 * 256 := Int.mul_le_mul (by omega) (by omega) (by omega) (by omega)
    have m0 : 1 * 1 <= t * (im.Imm + 1) := Int.mul_le_mul (by omega) (by omega) (by omega) (by omega)
    have e1 : w64 (im.Imm + 1) = im.Imm + 1 := zO (by omega) (by omega)
    have e2 : w64 (t * (im.Imm + 1)) = t * (im.Imm + 1) := zO (by omega) (by omega)
    have e3 : w64 (j + 1) = j + 1 := zO (by omega) (by omega)
    rw [e1, e2, e3]
    refine k2 _ ⟨by simp only; omega, by simp only; omega, ?_, by simp only; omega, by simp only; omega⟩ (by simp only; omega)
    simp only
    have : (j + 1).toNat = j.toNat + 1 := by omega
    rw [this]
    show _ = (bt.take (j.toNat + 1)).foldl _ 1
    rw [List.take_add_one, ha, List.foldl_append, ht]
    simp [hq]
    rfl
   ·exact OK.ret ⟨stop (.inr (by simpa using hd)), t1, t2⟩
  ·refine OK.ite (fun hd => absurd hd (by simp)) (fun hd => ?_)
   exact OK.ret ⟨stop (.inl (by simpa using hc)), t1, t2⟩
 refine OK.bind2 hl ?_
 rintro t ⟨ht, t1, t2⟩
 rw [zO (by omega) (by omega)]
 refine k _ ⟨?_, by omega, by omega⟩
 have h3 := zej hD p code.length
 have h4 := ze9 hD p
 rw [ziG, <- zlB (by omega) (by omega), <- zlB (a := zgN code p) (by omega) (by omega), ht, hs]
theorem zkD (code : List zc) (fu : Nat) (hf : 100 <= fu) : ∃ r, zaL code = some r /\ jp fu code = some r /\ (r.2 = 0 -> r.1 = 0 /\ ze7 code) /\ (ze7 code -> r.2 = 0) := by
 unfold zaL jp
 by_cases h0 : code.length = 0
 ·refine ⟨(0, 10), ?_, ?_, by simp, fun h => by have := h.n1; omega⟩ <;> simp [h0]
 ·have e0 : ((code.length : Int) == 0) = false := by simp; exact fun h => h0 (by simp [h])
  by_cases h1 : 64 < code.length
  ·have e1 : decide ((code.length : Int) > 64) = true := by simp; omega
   refine ⟨(0, 11), ?_, ?_, by simp, fun h => by have := h.n64; omega⟩ <;> simp only [e0, e1] <;> rfl
  ·have e1 : decide ((code.length : Int) > 64) = false := by simp; omega
   have hn : code.length <= 64 := by omega
   simp only [e0, e1, ziD code hn, zlE code hn, zbs]
   cases hp : zaC (zac code) code.length 0 with
   | some v =>
    obtain ⟨j, _, h2, h3, _⟩ := zbd hp
    have hne : v.2 ≠ 0 := by
     unfold zac at h3
     split at h3
     ·split at h3
      ·cases h3
      ·rename_i h4; cases h3; exact h4
     ·cases h3
    refine ⟨v, ?_, ?_, fun h => absurd h hne, fun h => ?_⟩
    ·have : (v.2 != 0) = true := by simpa using hne
     simp [this]
    ·rfl
    ·rw [ziE h.fine] at hp; cases hp
   | none =>
    have hD := zlz hp
    obtain ⟨B, hB0, hBl, hB⟩ := zlF hn hD fu hf
    obtain ⟨o, o1, o2⟩ := zhx hn hD
    obtain ⟨o', o1', o2'⟩ := zjr hn hD hB hBl fu
    have := zhV.unique o1 o1'
    subst this
    simp only [zdU, hB0, o2, o2', zbs, Option.getD_none]
    cases o with
    | some l =>
     refine ⟨((l : Int), 31), by simp, by simp, by simp, fun h => absurd o1.2.1 (h.cr l o1.1)⟩
    | none =>
     simp only [zjs hn hD hB hBl fu hf, zbs]
     obtain ⟨p, p1, p2⟩ := zco (X := En code) (n := code.length) (v := fun p => ((p : Int), (31 : Int)))
     obtain ⟨p', p1', p2'⟩ := zco (X := En code) (n := code.length) (v := fun p => ((p : Int), true))
     have := zhV.unique p1 p1'
     subst this
     rw [p2, p2']
     cases p with
     | some l => exact ⟨((l : Int), 31), by simp, by simp, by simp, fun h => absurd p1.2.1 (h.en l p1.1)⟩
     | none =>
      obtain ⟨S, hS, hS2⟩ := zoe hn hD hB hBl fu hf
      simp only [zj8 hn hD, hS, zbs, Option.map_none, Option.getD_none]
      have hS3 : decide (S > 256) = decide (mn (zgN code code.length) > 256) := by
       rw [<- hS2, Bool.eq_iff_iff]; unfold mn; simp; split <;> omega
      rw [hS3]
      have hmn := zlD (zgN code code.length)
      by_cases hc : mn (zgN code code.length) > 256
      ·refine ⟨(0, 32), by simp [hc], by simp [hc], by simp, fun h => ?_⟩
       have := h.cost; omega
      ·refine ⟨(0, 0), by simp [hc], by simp [hc], fun _ => ⟨rfl, ⟨by omega, hn, hD, o1, p1, ?_⟩⟩, fun _ => rfl⟩
       unfold mn at hc
       split at hc <;> omega
end Go.Proofs.YtbmknhpfkpmigaaGreatDoor
namespace Go.Proofs.YtbmknhpfkpmigaaGreatDoor
open Go.Sx
def inS (s : zb) (n : Int) : Prop := s.Lo <= n /\ n <= s.Hi
def sem (x : za) (n : Int) : Prop := (x.Ki = 1 -> inS x.Sp n) /\ (x.Ki = 2 -> n = x.Map)
def u64 (n : Int) : Prop := 0 <= n /\ n < 18446744073709551616
theorem zdD {n : Int} (h : u64 n) : inS ⟨0, 18446744073709551615⟩ n := by
 obtain ⟨h0, h1⟩ := h
 exact ⟨h0, by show n <= 18446744073709551615; omega⟩
def ar (op x y : Int) : Int :=
 if op == 1 then qf (x + y) else if op == 2 then qf (x - y) else if op == 3 then qf (x * y)
 else if op == 4 then (if y == 0 then 0 else qf (x.tdiv y)) else if op == 5 then (if y == 0 then x else x.tmod y)
 else if op == 6 then ze2 .u64 x y else if op == 7 then bOr .u64 x y else if op == 8 then zi8 .u64 x y
 else if op == 9 then zfS .u64 x y else if op == 10 then zbx .u64 x y else 0
theorem zeH {op x y : Int} (hx : u64 x) (hy : u64 y) : zb7 op x y = some (ar op x y, decide (1 <= op) && decide (op <= 10)) := by
 obtain ⟨r, h1, _, _, h4⟩ := zh5 (op := op) hx.1 hx.2 hy.1 hy.2
 rw [h1, <- h4]
 have key : r.1 = ar op x y := by
  unfold zb7 at h1
  unfold ar
  rcases zft (op == 1) with e | e
  ·rw [if_pos e] at h1 |-; cases h1; rfl
  rw [if_neg (by simp [e])] at h1 |-
  rcases zft (op == 2) with e | e
  ·rw [if_pos e] at h1 |-; cases h1; rfl
  rw [if_neg (by simp [e])] at h1 |-
  rcases zft (op == 3) with e | e
  ·rw [if_pos e] at h1 |-; cases h1; rfl
  rw [if_neg (by simp [e])] at h1 |-
  rcases zft (op == 4) with e | e
  ·rw [if_pos e] at h1 |-
   rcases zft (y == 0) with e2 | e2
   ·rw [if_pos e2] at h1 |-; cases h1; rfl
   ·rw [if_neg (by simp [e2])] at h1 |-
    rw [zcv (by simpa using e2)] at h1
    cases h1; rfl
  rw [if_neg (by simp [e])] at h1 |-
  rcases zft (op == 5) with e | e
  ·rw [if_pos e] at h1 |-
   rcases zft (y == 0) with e2 | e2
   ·rw [if_pos e2] at h1 |-; cases h1; rfl
   ·rw [if_neg (by simp [e2])] at h1 |-
    rw [zcv (by simpa using e2)] at h1
    cases h1; rfl
  rw [if_neg (by simp [e])] at h1 |-
  rcases zft (op == 6) with e | e
  ·rw [if_pos e] at h1 |-; cases h1; rfl
  rw [if_neg (by simp [e])] at h1 |-
  rcases zft (op == 7) with e | e
  ·rw [if_pos e] at h1 |-; cases h1; rfl
  rw [if_neg (by simp [e])] at h1 |-
  rcases zft (op == 8) with e | e
  ·rw [if_pos e] at h1 |-; cases h1; rfl
  rw [if_neg (by simp [e])] at h1 |-
  rcases zft (op == 9) with e | e
  ·rw [if_pos e] at h1 |-
   rw [zbI hy.1] at h1
   cases h1; rfl
  rw [if_neg (by simp [e])] at h1 |-
  rcases zft (op == 10) with e | e
  ·rw [if_pos e] at h1 |-
   rw [zbI hy.1] at h1
   cases h1; rfl
  rw [if_neg (by simp [e])] at h1 |-
  cases h1; rfl
 rw [<- key]
theorem zpl {op x y : Int} (hx : u64 x) (hy : u64 y) : u64 (ar op x y) := by
 obtain ⟨r, h1, h2, h3, _⟩ := zh5 (op := op) hx.1 hx.2 hy.1 hy.2
 rw [zeH hx hy] at h1
 cases h1
 exact ⟨h2, h3⟩
theorem SW.in_ {s : zb} {n : Int} (h : SW s) (hn : inS s n) : u64 n := ⟨by have := h.1; have := hn.1; omega, by have := h.2.2; have := hn.2; omega⟩
section
variable {a b : zb} {x y : Int}
theorem zpm (ha : SW a) (hb : SW b) (hx : inS a x) (hy : inS b y) : OK (zcQ a b) (fun r => inS r (qf (x + y))) := by
 obtain ⟨a0, a1, a2⟩ := ha
 obtain ⟨b0, b1, b2⟩ := hb
 obtain ⟨x0, x1⟩ := hx
 obtain ⟨y0, y1⟩ := hy
 unfold zcQ zi9
 rw [if_pos ⟨by omega, by omega, by omega, by omega⟩]
 simp only [zbs, zbu]
 refine OK.ite (fun h => OK.ret (zdD (xn _))) (fun h => OK.ret ?_)
 have h1 := of_decide_eq_false h
 have h2 : a.Hi + b.Hi < 18446744073709551616 := by omega
 rw [jJ (x := x + y) (by omega) (by omega)]
 constructor
 ·show qf _ <= _
  rw [jJ (by omega) (by omega)]; omega
 ·show _ <= (a.Hi + b.Hi + 0) % 18446744073709551616
  omega
theorem zkL (ha : SW a) (hb : SW b) (hx : inS a x) (hy : inS b y) : OK (vS a b) (fun r => inS r (qf (x * y))) := by
 have ux := ha.in_ hx
 have uy := hb.in_ hy
 obtain ⟨al, ah⟩ := a
 obtain ⟨bl, bh⟩ := b
 obtain ⟨a0, a1, a2⟩ := ha
 obtain ⟨b0, b1, b2⟩ := hb
 obtain ⟨x0, x1⟩ := hx
 obtain ⟨y0, y1⟩ := hy
 simp only at a0 a1 a2 b0 b1 b2 x0 x1 y0 y1
 obtain ⟨al, rfl⟩ := zof a0
 obtain ⟨bl, rfl⟩ := zof b0
 obtain ⟨ah, rfl⟩ := zof (show 0 <= ah by omega)
 obtain ⟨bh, rfl⟩ := zof (show 0 <= bh by omega)
 obtain ⟨x, rfl⟩ := zof ux.1
 obtain ⟨y, rfl⟩ := zof uy.1
 unfold vS
 obtain ⟨hi, h1, h2⟩ := zox (x := ah) (y := bh) (by omega) (by omega)
 simp only [h1, zbs, zbu]
 refine OK.ite (fun h => OK.ret (zdD (xn _))) (fun h => OK.ret ?_)
 have h3 := of_decide_eq_false h
 have h4 : ah * bh < 18446744073709551616 := by
  have : hi = 0 := by omega
  rw [this] at h2
  exact (Nat.div_eq_zero_iff_lt (by omega)).1 h2.symm
 have h5 : al * bl <= x * y := Nat.mul_le_mul (by omega) (by omega)
 have h6 : x * y <= ah * bh := Nat.mul_le_mul (by omega) (by omega)
 simp only [<- Int.natCast_mul]
 rw [wuN h4, wuN (show x * y < _ by omega), wuN (show al * bl < _ by omega)]
 exact ⟨Int.ofNat_le.2 h5, Int.ofNat_le.2 h6⟩
theorem zkM (ha : SW a) (hb : SW b) (hx : inS a x) (hy : inS b y) : OK (vT a b) (fun r => inS r (if y == 0 then 0 else qf (x.tdiv y))) := by
 have ux := ha.in_ hx
 have uy := hb.in_ hy
 obtain ⟨al, ah⟩ := a
 obtain ⟨bl, bh⟩ := b
 obtain ⟨a0, a1, a2⟩ := ha
 obtain ⟨b0, b1, b2⟩ := hb
 obtain ⟨x0, x1⟩ := hx
 obtain ⟨y0, y1⟩ := hy
 simp only at a0 a1 a2 b0 b1 b2 x0 x1 y0 y1
 obtain ⟨al, rfl⟩ := zof a0
 obtain ⟨bl, rfl⟩ := zof b0
 obtain ⟨ah, rfl⟩ := zof (show 0 <= ah by omega)
 obtain ⟨bh, rfl⟩ := zof (show 0 <= bh by omega)
 obtain ⟨x, rfl⟩ := zof ux.1
 obtain ⟨y, rfl⟩ := zof uy.1
 obtain ⟨_, ux⟩ := ux
 unfold vT
 refine OK.ite (fun h => OK.ret ?_) (fun h => ?_)
 ·split
  ·exact ⟨by simp, by show (0 : Int) <= (ah : Int); omega⟩
  ·rw [zdG, wuN (by have := Nat.div_le_self x y; omega)]
   have := Nat.div_le_self x y
   refine ⟨?_, ?_⟩
   ·show (0 : Int) <= ((x / y : Nat) : Int); exact Int.natCast_nonneg _
   ·show ((x / y : Nat) : Int) <= (ah : Int); exact Int.ofNat_le.2 (by omega)
 ·have hb : (bl : Int) ≠ 0 := by simpa using h
  have hyz : ((y : Int) == 0) = false := by simp; omega
  rw [zcv (show (bh : Int) ≠ 0 by omega)]
  simp only [zbs]
  rw [zcv hb, hyz]
  simp only [zbs, zdG]
  have h1 : al / bh <= x / y := Nat.le_trans (Nat.div_le_div_right (by omega)) (Nat.div_le_div_left (by omega) (by omega))
  have h2 : x / y <= ah / bl := Nat.le_trans (Nat.div_le_div_right (by omega)) (Nat.div_le_div_left (by omega) (by omega))
  have h3 := Nat.div_le_self ah bl
  rw [wuN (show al / bh < _ by omega), wuN (show ah / bl < _ by omega)]
  refine OK.ret ?_
  rw [if_neg (by simp), wuN (show x / y < _ by omega)]
  exact ⟨Int.ofNat_le.2 h1, Int.ofNat_le.2 h2⟩
theorem zoq (ha : SW a) (hb : SW b) (hx : inS a x) (hy : inS b y) : OK (zbR a b) (fun r => inS r (if y == 0 then x else x.tmod y)) := by
 have ux := ha.in_ hx
 have uy := hb.in_ hy
 obtain ⟨a0, a1, a2⟩ := id ha
 obtain ⟨b0, b1, b2⟩ := id hb
 obtain ⟨x0, x1⟩ := id hx
 obtain ⟨y0, y1⟩ := id hy
 obtain ⟨x, rfl⟩ := zof ux.1
 obtain ⟨y, rfl⟩ := zof uy.1
 have e : (x : Int).tmod (y : Int) = ((x % y : Nat) : Int) := rfl
 have hm := Nat.mod_le x y
 unfold zbR
 refine OK.ite (fun h => OK.ret ?_) (fun h => ?_)
 ·split
  ·exact ⟨by show (0 : Int) <= _; omega, x1⟩
  ·rw [e]; exact ⟨by show (0 : Int) <= _; omega, by show _ <= a.Hi; omega⟩
 have hb0 : b.Lo ≠ 0 := by simpa using h
 have hyz : ((y : Int) == 0) = false := by simp; omega
 rw [hyz]
 simp only [zfe, if_false]
 refine OK.ite (fun h2 => OK.ret ?_) (fun h2 => OK.ret ?_)
 ·have h2 := of_decide_eq_true h2
  rw [e, Nat.mod_eq_of_lt (by omega)]
  exact hx
 ·rw [e, jJ (by omega) (by omega)]
  have := Nat.mod_lt x (show 0 < y by omega)
  refine ⟨by show (0 : Int) <= _; omega, ?_⟩
  show ((x % y : Nat) : Int) <= zb3 a.Hi (b.Hi - 1)
  unfold zb3
  split <;> omega
theorem zlX {n : Int} (h0 : 0 <= n) (h1 : n < 18446744073709551616) : OK (zaW n) (fun r => ∃ k : Nat, k <= 64 /\ r = ((2 ^ k - 1 : Nat) : Int) /\ n.toNat < 2 ^ k) := by
 obtain ⟨n, rfl⟩ := zof h0
 obtain ⟨k, k1, k2, k3, _⟩ := zeI (n := n) (by omega)
 unfold zaW
 simp only [k2, zbs]
 rw [zbI (by omega)]
 refine OK.ret ⟨k, k1, ?_, by simpa using k3⟩
 have e : zfS .u64 1 (k : Int) = ((2 ^ k % 18446744073709551616 : Nat) : Int) := by
  rw [zdF, show min ((k : Int)).toNat 64 = k by omega, Int.one_mul]
  simp
 show qf (zfS .u64 1 (k : Int) - 1) = _
 rw [e]
 by_cases hk : k = 64
 ·subst hk
  rw [zbN]
  decide
 ·have h2 : (2 : Nat) ^ k <= 2 ^ 63 := Nat.pow_le_pow_right (by omega) (by omega)
  have h3 : 0 < (2 : Nat) ^ k := Nat.pow_pos (by omega)
  generalize 2 ^ k = q at *
  rw [Nat.mod_eq_of_lt (by omega), jJ (by omega) (by omega)]
  omega
theorem zor (ha : SW a) (hb : SW b) (hx : inS a x) (hy : inS b y) : OK (zbo a b) (fun r => inS r (zfS .u64 x y)) := by
 have ux := ha.in_ hx
 have uy := hb.in_ hy
 obtain ⟨al, ah⟩ := a
 obtain ⟨bl, bh⟩ := b
 obtain ⟨a0, a1, a2⟩ := ha
 obtain ⟨b0, b1, b2⟩ := hb
 obtain ⟨x0, x1⟩ := hx
 obtain ⟨y0, y1⟩ := hy
 simp only at a0 a1 a2 b0 b1 b2 x0 x1 y0 y1
 obtain ⟨al, rfl⟩ := zof a0
 obtain ⟨bl, rfl⟩ := zof b0
 obtain ⟨ah, rfl⟩ := zof (show 0 <= ah by omega)
 obtain ⟨x, rfl⟩ := zof ux.1
 obtain ⟨k, k1, k2, k3, k4, k5⟩ := zeI (n := ah) (by omega)
 unfold zbo xr
 simp only [k2, zbs, zbu]
 refine OK.bind2 (R := fun o => o = false -> (bl : Int) = bh /\ (k = 0 \/ k + bl <= 64)) ?_ (fun o ho => ?_)
 ·refine OK.ite (fun _ => OK.ret (by simp)) (fun hs => OK.ite (fun h1 => ?_) (fun h1 => OK.ret (fun _ => ⟨by simpa using hs, .inl ?_⟩)))
  ·refine OK.ite (fun _ => OK.ret (by simp)) (fun h2 => OK.ret (fun h3 => ⟨by simpa using hs, .inr ?_⟩))
   have h2 := of_decide_eq_false h2
   have h3 := of_decide_eq_false h3
   rw [jJ (x := (k : Int)) (by omega) (by omega), jJ (by omega) (by omega)] at h3
   omega
  ·have := of_decide_eq_false h1
   omega
 ·refine OK.ite (fun _ => OK.ret (zdD (zjL _ _))) (fun h => ?_)
  obtain ⟨hs, ho⟩ := ho h
  have hyb : y = (bl : Int) := by omega
  subst hyb
  rw [zbI (by omega)]
  simp only [zbs]
  refine OK.ret ?_
  have e : ∀ n : Nat, zfS .u64 (n : Int) (bl : Int) = ((n * 2 ^ (min bl 64) % 18446744073709551616 : Nat) : Int) := by
   intro n
   rw [zdF, show ((bl : Int)).toNat = bl by omega]
   simp
  rw [e, e, e]
  rcases ho with hk | hk
  ·have h6 : ah = 0 := by subst hk; simp at k3; omega
   have h7 : al = 0 := by omega
   have h8 : x = 0 := by omega
   subst h6; subst h7; subst h8
   exact ⟨by simp, by simp⟩
  ·rw [show min bl 64 = bl by omega]
   have h6 : ah * 2 ^ bl < 18446744073709551616 := by
    have h7 : ah * 2 ^ bl < 2 ^ k * 2 ^ bl := Nat.mul_lt_mul_of_pos_right k3 (Nat.pow_pos (by omega))
    rw [<- Nat.pow_add] at h7
    have h8 : (2 : Nat) ^ (k + bl) <= 2 ^ 64 := Nat.pow_le_pow_right (by omega) hk
    omega
   have h9 : al * 2 ^ bl <= x * 2 ^ bl := Nat.mul_le_mul_right _ (by omega)
   have h10 : x * 2 ^ bl <= ah * 2 ^ bl := Nat.mul_le_mul_right _ (by omega)
   rw [Nat.mod_eq_of_lt h6, Nat.mod_eq_of_lt (show x * 2 ^ bl < _ by omega), Nat.mod_eq_of_lt (show al * 2 ^ bl < _ by omega)]
   exact ⟨Int.ofNat_le.2 h9, Int.ofNat_le.2 h10⟩
theorem zqa {op : Int} (ha : SW a) (hb : SW b) (hx : inS a x) (hy : inS b y) (o1 : 1 <= op) (o2 : op <= 10) : OK (zdz op a b) (fun r => inS r.1 (ar op x y)) := by
 have ux := ha.in_ hx
 have uy := hb.in_ hy
 obtain ⟨a0, a1, a2⟩ := id ha
 obtain ⟨b0, b1, b2⟩ := id hb
 obtain ⟨x0, x1⟩ := id hx
 obtain ⟨y0, y1⟩ := id hy
 unfold zdz
 rw [zeH (op := op) (x := a.Lo) (y := b.Lo) ⟨a0, by omega⟩ ⟨b0, by omega⟩]
 simp only [zbp ha, zbp hb, zbs]
 refine OK.bind2 (R := fun o => o = false) ?_ (fun o ho => ?_)
 ·refine OK.ite (fun h => ?_) (fun h => OK.ite (fun h => by cases h) (fun _ => OK.ret rfl))
  exfalso
  simp at h
  omega
 subst ho
 refine OK.ite (fun h => by cases h) (fun _ => ?_)
 unfold xr
 refine OK.bind2 (R := fun o => o = true -> a.Lo = a.Hi /\ b.Lo = b.Hi) ?_ (fun o ho => ?_)
 ·exact OK.ite (fun h1 => OK.ret (fun h2 => ⟨by simpa using h1, by simpa using h2⟩)) (fun _ => OK.ret (fun h => by cases h))
 refine OK.ite (fun h => ?_) (fun _ => ?_)
 ·obtain ⟨e1, e2⟩ := ho h
  have ex : x = a.Lo := by omega
  have ey : y = b.Lo := by omega
  subst ex; subst ey
  exact OK.ret ⟨Int.le_refl _, Int.le_refl _⟩
 have fwd : ∀ {o : Option zb} {z : Int}, OK o (fun r => inS r z) -> OK (o.bind fun r => some (r, true)) (fun r => inS r.1 z) := fun h => OK.bind2 h (fun x hx => OK.ret hx)
 refine OK.ite (fun e => ?_) (fun e1 => ?_)
 ·have e : op = 1 := by simpa using e
  subst e
  exact fwd (zpm ha hb hx hy)
 refine OK.ite (fun e => ?_) (fun e2 => ?_)
 ·have e : op = 2 := by simpa using e
  subst e
  refine OK.ite (fun _ => fwd (OK.ret (zdD (xn _)))) (fun h => OK.ret ?_)
  have h := of_decide_eq_false h
  rw [jJ (x := a.Lo - b.Hi) (by omega) (by omega), jJ (x := a.Hi - b.Lo) (by omega) (by omega), show ar 2 x y = qf (x - y) from rfl, jJ (x := x - y) (by omega) (by omega)]
  exact ⟨by show a.Lo - b.Hi <= _; omega, by show _ <= a.Hi - b.Lo; omega⟩
 refine OK.ite (fun e => ?_) (fun e3 => ?_)
 ·have e : op = 3 := by simpa using e
  subst e
  exact fwd (zkL ha hb hx hy)
 refine OK.ite (fun e => ?_) (fun e4 => ?_)
 ·have e : op = 4 := by simpa using e
  subst e
  exact fwd (zkM ha hb hx hy)
 refine OK.ite (fun e => ?_) (fun e5 => ?_)
 ·have e : op = 5 := by simpa using e
  subst e
  exact fwd (zoq ha hb hx hy)
 refine OK.ite (fun e => ?_) (fun e6 => ?_)
 ·have e : op = 6 := by simpa using e
  subst e
  refine OK.ret ⟨(zjK x y).1, ?_⟩
  rw [show ar 6 x y = ze2 .u64 x y from rfl, zfE ux.1 ux.2 uy.1 uy.2]
  have h1 : x.toNat &&& y.toNat <= x.toNat := Nat.and_le_left
  have h2 : x.toNat &&& y.toNat <= y.toNat := Nat.and_le_right
  show _ <= zb3 a.Hi b.Hi
  unfold zb3
  split <;> omega
 have hor := zjJ (x := a.Hi) (y := b.Hi) (by omega) a2 (by omega) b2
 have hor2 := zkj a.Hi b.Hi
 refine OK.ite (fun e => ?_) (fun e7 => ?_)
 ·have e : op = 7 := by simpa using e
  subst e
  refine OK.bind2 (zlX hor2.1 hor2.2) (fun r hr => OK.ret ?_)
  obtain ⟨k, _, rfl, hk⟩ := hr
  have g := zjJ ux.1 ux.2 uy.1 uy.2
  have hlt : (x.toNat ||| y.toNat) < 2 ^ k := Nat.or_lt_two_pow (by omega) (by omega)
  rw [show ar 7 x y = bOr .u64 x y from rfl]
  rw [zg1 ux.1 ux.2 uy.1 uy.2] at g |-
  refine ⟨?_, ?_⟩
  ·show zcC a.Lo b.Lo <= _
   unfold zcC
   split <;> omega
  ·show _ <= ((2 ^ k - 1 : Nat) : Int)
   omega
 refine OK.ite (fun e => ?_) (fun e8 => ?_)
 ·have e : op = 8 := by simpa using e
  subst e
  refine OK.bind2 (zlX hor2.1 hor2.2) (fun r hr => OK.ret ?_)
  obtain ⟨k, _, rfl, hk⟩ := hr
  have hlt : (x.toNat ^^^ y.toNat) < 2 ^ k := Nat.xor_lt_two_pow (by omega) (by omega)
  rw [show ar 8 x y = zi8 .u64 x y from rfl, znj ux.1 ux.2 uy.1 uy.2]
  refine ⟨Int.natCast_nonneg _, ?_⟩
  show _ <= ((2 ^ k - 1 : Nat) : Int)
  omega
 refine OK.ite (fun e => ?_) (fun e9 => ?_)
 ·have e : op = 9 := by simpa using e
  subst e
  exact fwd (zor ha hb hx hy)
 simp only [beq_eq_false_iff_ne, ne_eq] at e1 e2 e3 e4 e5 e6 e7 e8 e9
 have e : op = 10 := by omega
 subst e
 rw [zbI (show 0 <= b.Hi by omega)]
 simp only [zbs]
 rw [zbI b0]
 exact OK.ret ⟨zh4 a0 x0 y1, zh4 ux.1 x1 y0⟩
def hl (op x y : Int) : Bool := if op == 16 then x == y else if op == 17 then x != y else if op == 18 then decide (x < y) else if op == 19 then decide (x >= y) else false
theorem zgv (op x y : Int) : vZ op x y = some (hl op x y, inB op 16 19) := by
 obtain ⟨r, h1, h2⟩ := zkb op x y
 rw [h1, <- h2]
 have key : r.1 = hl op x y := by
  unfold vZ at h1
  unfold hl
  rcases zft (op == 16) with e | e
  ·rw [if_pos e] at h1 |-; cases h1; rfl
  rw [if_neg (by simp [e])] at h1 |-
  rcases zft (op == 17) with e | e
  ·rw [if_pos e] at h1 |-; cases h1; rfl
  rw [if_neg (by simp [e])] at h1 |-
  rcases zft (op == 18) with e | e
  ·rw [if_pos e] at h1 |-; cases h1; rfl
  rw [if_neg (by simp [e])] at h1 |-
  rcases zft (op == 19) with e | e
  ·rw [if_pos e] at h1 |-; cases h1; rfl
  rw [if_neg (by simp [e])] at h1 |-
  cases h1; rfl
 rw [<- key]
theorem zjD (ha : SW a) (hb : SW b) (hx : inS a x) (hx2 : inS b x) : OK (vJ [a, b]) (fun r => r.2 = true /\ inS r.1 x) := by
 refine ⟨_, zjv ha hb, ?_⟩
 obtain ⟨a0, a1, a2⟩ := ha
 obtain ⟨b0, b1, b2⟩ := hb
 obtain ⟨x0, x1⟩ := hx
 obtain ⟨y0, y1⟩ := hx2
 have h1 : zcC (zcC 0 a.Lo) b.Lo <= x := by unfold zcC; (repeat' split) <;> omega
 have h2 : x <= zb3 (zb3 18446744073709551615 a.Hi) b.Hi := by unfold zb3; (repeat' split) <;> omega
 rw [if_pos (by omega)]
 exact ⟨rfl, h1, h2⟩
theorem zlY {op : Int} (ha : SW a) (hb : SW b) (hx : inS a x) (hy : inS b y) (o1 : 16 <= op) (o2 : op <= 19) : OK (xa op a b (hl op x y)) (fun r => r.2 = true /\ inS r.1 x) := by
 have ux := ha.in_ hx
 have uy := hb.in_ hy
 obtain ⟨a0, a1, a2⟩ := id ha
 obtain ⟨b0, b1, b2⟩ := id hb
 obtain ⟨x0, x1⟩ := id hx
 obtain ⟨y0, y1⟩ := id hy
 have ho : inB op 16 19 = true := by simp [inB]; omega
 unfold xa
 rw [zgv, ho]
 simp only [zbp ha, zbp hb, zbs]
 refine OK.bind2 (R := fun o => o = false) (OK.ite (fun h => by cases h) (fun _ => OK.ite (fun h => by cases h) (fun _ => OK.ret rfl))) (fun o ho => ?_)
 subst ho
 refine OK.ite (fun h => by cases h) (fun _ => ?_)
 unfold xr
 simp only [zbs]
 refine OK.ite (fun _ => OK.ret ⟨rfl, hx⟩) (fun hs => ?_)
 have hs : b.Lo = b.Hi := by simpa using hs
 have ey : y = b.Lo := by omega
 have hlv : (op = 16 /\ hl op x y = (x == y)) \/ (op = 17 /\ hl op x y = (x != y)) \/ (op = 18 /\ hl op x y = decide (x < y)) \/ (op = 19 /\ hl op x y = decide (x >= y)) := by
  have : op = 16 \/ op = 17 \/ op = 18 \/ op = 19 := by omega
  rcases this with rfl | rfl | rfl | rfl
  ·exact .inl ⟨rfl, rfl⟩
  ·exact .inr (.inl ⟨rfl, rfl⟩)
  ·exact .inr (.inr (.inl ⟨rfl, rfl⟩))
  ·exact .inr (.inr (.inr ⟨rfl, rfl⟩))
 refine OK.bind2 (R := fun o => o = true ↔ (op = 18 /\ hl op x y = true) \/ (op = 19 /\ hl op x y = false)) ?_ (fun o ho => ?_)
 ·refine OK.ite (fun h => OK.ret ?_) (fun h => OK.ite (fun h2 => OK.ret ?_) (fun h2 => OK.ret ?_))
  ·simp at h; simp [h]
  ·have h2 : op = 19 := by simpa using h2
   subst h2; simp
  ·have h2 : op ≠ 19 := by simpa using h2
   simp only [Bool.and_eq_false_iff, beq_eq_false_iff_ne] at h
   simp [h2]
   intro e
   rcases h with h | h
   ·exact absurd e h
   ·exact h
 refine OK.ite (fun h => OK.ite (fun hz => ?_) (fun hz => ?_)) (fun h => ?_)
 ·exfalso
  have hz : b.Lo = 0 := by simpa using hz
  have hlt : x < y := by
   rcases ho.1 h with ⟨e, e2⟩ | ⟨e, e2⟩
   ·rcases hlv with ⟨e3, _⟩ | ⟨e3, _⟩ | ⟨_, e4⟩ | ⟨e3, _⟩
    ·omega
    ·omega
    ·rw [e4] at e2; exact of_decide_eq_true e2
    ·omega
   ·rcases hlv with ⟨e3, _⟩ | ⟨e3, _⟩ | ⟨e3, _⟩ | ⟨_, e4⟩
    ·omega
    ·omega
    ·omega
    ·rw [e4] at e2; have := of_decide_eq_false e2; omega
  have := ux.1
  omega
 ·have hz : b.Lo ≠ 0 := by simpa using hz
  have hlt : x < y := by
   rcases ho.1 h with ⟨e, e2⟩ | ⟨e, e2⟩
   ·rcases hlv with ⟨e3, _⟩ | ⟨e3, _⟩ | ⟨_, e4⟩ | ⟨e3, _⟩
    ·omega
    ·omega
    ·rw [e4] at e2; exact of_decide_eq_true e2
    ·omega
   ·rcases hlv with ⟨e3, _⟩ | ⟨e3, _⟩ | ⟨e3, _⟩ | ⟨_, e4⟩
    ·omega
    ·omega
    ·omega
    ·rw [e4] at e2; have := of_decide_eq_false e2; omega
  refine OK.bind2 (zjD (x := x) ha ?_ hx ?_) (fun r hr => OK.ret hr)
  ·rw [jJ (by omega) (by omega)]
   exact ⟨by simp, by simp; omega, by simp; omega⟩
  ·rw [jJ (by omega) (by omega)]
   exact ⟨ux.1, by show x <= b.Lo - 1; omega⟩
 have hn1 : ¬ ((op = 18 /\ hl op x y = true) \/ (op = 19 /\ hl op x y = false)) := fun h2 => by rw [ho.2 h2] at h; cases h
 refine OK.bind2 (R := fun o => o = true ↔ op = 18 \/ op = 19) ?_ (fun o ho2 => ?_)
 ·refine OK.ite (fun h => OK.ret ?_) (fun h => OK.ret ?_)
  ·have h : op = 18 := by simpa using h
   subst h; simp
  ·have h : op ≠ 18 := by simpa using h
   simp [h]
 refine OK.ite (fun h => ?_) (fun h => ?_)
 ·have hge : x >= y := by
   rcases ho2.1 h with e | e
   ·rcases hlv with ⟨e3, _⟩ | ⟨e3, _⟩ | ⟨_, e4⟩ | ⟨e3, _⟩
    ·omega
    ·omega
    ·have : ¬ x < y := fun hlt => hn1 (.inl ⟨e, by rw [e4]; exact decide_eq_true hlt⟩)
     omega
    ·omega
   ·rcases hlv with ⟨e3, _⟩ | ⟨e3, _⟩ | ⟨e3, _⟩ | ⟨_, e4⟩
    ·omega
    ·omega
    ·omega
    ·have : ¬ ¬ x >= y := fun hlt => hn1 (.inr ⟨e, by rw [e4]; exact decide_eq_false hlt⟩)
     omega
  refine OK.bind2 (zjD (x := x) ha ⟨b0, by simp; omega, by simp⟩ hx ⟨by show b.Lo <= x; omega, by show x <= 18446744073709551615; have := ux.2; omega⟩) (fun r hr => OK.ret hr)
 have hne : op = 16 \/ op = 17 := by
  have : ¬ (op = 18 \/ op = 19) := fun h2 => by rw [ho2.2 h2] at h; cases h
  omega
 refine OK.bind2 (R := fun o => o = true ↔ x = y) ?_ (fun o ho3 => ?_)
 ·refine OK.ite (fun h => OK.ret ?_) (fun h => OK.ite (fun h2 => OK.ret ?_) (fun h2 => OK.ret ?_))
  ·rcases hlv with ⟨e3, e4⟩ | ⟨e3, e4⟩ | ⟨e3, _⟩ | ⟨e3, _⟩
   ·rw [e4] at h |-; subst e3; simp
   ·subst e3; simp at h
   ·omega
   ·omega
  ·have h2 : op = 17 := by simpa using h2
   rcases hlv with ⟨e3, e4⟩ | ⟨e3, e4⟩ | ⟨e3, _⟩ | ⟨e3, _⟩
   ·omega
   ·rw [e4]; simp
   ·omega
   ·omega
  ·have h2 : op ≠ 17 := by simpa using h2
   rcases hlv with ⟨e3, e4⟩ | ⟨e3, e4⟩ | ⟨e3, _⟩ | ⟨e3, _⟩
   ·rw [e4] at h; subst e3
    simp at h
    simp [h]
   ·omega
   ·omega
   ·omega
 refine OK.ite (fun h => ?_) (fun h => ?_)
 ·have e := ho3.1 h
  subst e
  exact OK.bind2 (zjD ha hb hx hy) (fun r hr => OK.ret hr)
 have hxy : x ≠ y := fun e => by rw [ho3.2 e] at h; cases h
 refine OK.ite (fun h2 => ?_) (fun h2 => ?_)
 ·exfalso
  simp at h2
  omega
 refine OK.ite (fun h3 => OK.ret ⟨rfl, ?_⟩) (fun h3 => ?_)
 ·have h3 : a.Lo = b.Lo := by simpa using h3
  rw [jJ (by omega) (by omega)]
  exact ⟨by show a.Lo + 1 <= x; omega, x1⟩
 refine OK.ite (fun h4 => OK.ret ⟨rfl, ?_⟩) (fun h4 => OK.ret ⟨rfl, hx⟩)
 have h4 : a.Hi = b.Lo := by simpa using h4
 rw [jJ (by omega) (by omega)]
 exact ⟨x0, by show x <= a.Hi - 1; omega⟩
end
theorem zh2 (n : Int) : sem zax n := ⟨fun h => by simp [zax] at h, fun h => by simp [zax] at h⟩
theorem zeo {s : zb} {n : Int} (h : inS s n) : sem ⟨1, s, 0⟩ n := ⟨fun _ => h, fun h => by simp at h⟩
theorem znd {k : Nat} {a b : za} {n : Int} (ha : WT k a) (hb : WT k b) (h : sem a n \/ sem b n) : sem (zbq a b) n := by
 unfold zbq
 split
 ·exact zh2 n
 rename_i hne
 have hk : a.Ki = b.Ki /\ a.Map = b.Map := by simpa using hne
 split
 ·rename_i h1
  have h1 : a.Ki = 1 := by simpa using h1
  refine zeo ?_
  have hin : inS a.Sp n \/ inS b.Sp n := h.imp (fun h => h.1 h1) (fun h => h.1 (by omega))
  obtain ⟨a0, a1, a2⟩ := ha.span
  obtain ⟨b0, b1, b2⟩ := hb.span
  constructor
  ·show zb3 (zb3 18446744073709551615 a.Sp.Lo) b.Sp.Lo <= n
   unfold zb3
   rcases hin with ⟨i1, i2⟩ | ⟨i1, i2⟩ <;> (repeat' split) <;> omega
  ·show n <= zcC (zcC 0 a.Sp.Hi) b.Sp.Hi
   unfold zcC
   rcases hin with ⟨i1, i2⟩ | ⟨i1, i2⟩ <;> (repeat' split) <;> omega
 ·rename_i h1
  have h1 : a.Ki ≠ 1 := by simpa using h1
  rcases h with h | h
  ·exact h
  ·exact ⟨fun e => absurd e h1, fun e => by rw [hk.2]; exact h.2 (by omega)⟩
theorem zne {a b : za} {n : Int} (h : zjx a b) (ha : sem a n) : sem b n := by
 refine ⟨fun e => ?_, fun e => ?_⟩
 ·obtain ⟨h1, h2, h3, h4⟩ := h.1 e
  obtain ⟨i1, i2⟩ := ha.1 h1
  exact ⟨by omega, by omega⟩
 ·have := h.2 e
  subst this
  exact ha.2 e
theorem zjE {i : zc} {k : Nat -> za} {regs : Nat -> Int} (h : i.B = 8 \/ (0 <= i.B /\ i.B < 8)) (hk : ∀ r, r < 8 -> sem (k r) (regs r)) : sem (zfz i k) (if i.B == 8 then qf i.Imm else regs i.B.toNat) := by
 unfold zfz
 split
 ·exact zeo ⟨Int.le_refl _, Int.le_refl _⟩
 ·rename_i e
  have : i.B ≠ 8 := by simpa using e
  exact hk _ (by omega)
end Go.Proofs.YtbmknhpfkpmigaaGreatDoor

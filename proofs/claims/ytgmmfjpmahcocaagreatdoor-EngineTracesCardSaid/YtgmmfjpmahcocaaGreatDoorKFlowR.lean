import Derived.Test.YtgmmfjpmahcocaaGreatDoorKJudged
set_option linter.unusedVariables false
set_option linter.unusedSimpArgs false
namespace Go.Proofs.YtgmmfjpmahcocaaGreatDoor
open Go.Sx
theorem zl1 (n : Int) : zX n = some (zfK n) := by
 unfold zX zfK
 congr 1
 rw [Bool.eq_iff_iff]; simp; omega
theorem zjD (i : zc) : qJ i = some (zl4 i) := by
 unfold qJ zl4
 rw [zl1]
 cases zfK i.B <;> cases h : (i.Imm == 0) <;> simp [h]
theorem zdc (i : zc) : jK i = some (zO i) := by
 unfold jK zO zY jD inB
 simp only [zl1, zjD, zbs, Option.bind_fun_some, ge_iff_le, Bool.and_assoc]
 refine zbx (qU (qU rfl)) ?_
 refine zbx (qU (qU rfl)) ?_
 refine zbx (qU (qU rfl)) ?_
 refine zbx (qU (qU (qU ?_))) ?_
 ·cases h : (i.Imm == 0)
  ·simp only [zfe, if_false]
   congr 1
   rw [Bool.eq_iff_iff]; simp at h |-; omega
  ·simp at h; simp [h]
 refine zbx (qU (qU (qU (qU rfl)))) ?_
 refine zbx rfl ?_
 refine zbx (qU (qU (qU rfl))) ?_
 refine zbx (qU (qU (qU (qU (qU rfl))))) ?_
 refine zbx rfl ?_
 refine zbx (qU (qU (qU rfl))) rfl
section
variable {p : zc} {x : Bool} {o d a b m : Int}
end
theorem zea (i : zc) : xe i = some (zr i) := by
 unfold xe
 rw [zdc]
 simp only [zbs, jD]
 cases hr : zO i with
 | false => simp [zr, xw, zbf, hr]
 | true =>
  cases h15 : (i.Op == 15) with
  | true =>
   have hj : inB i.Op 15 19 = true := by simp at h15; simp [inB, h15]
   have := zcK (i := i) (by simp [xw, hr, hj])
   simp [zr, xw, hr, hj, zI (x := i.D + 1) (by omega) (by omega)]
   simpa using h15
  | false =>
   have e15 : i.Op ≠ 15 := by simpa using h15
   cases hj : inB i.Op 16 19 with
   | true =>
    have hj2 : inB i.Op 15 19 = true := by simp [inB] at hj |-; omega
    have := zcK (i := i) (by simp [xw, hr, hj2])
    have hj3 : (decide (i.Op >= 16) && decide (i.Op <= 19)) = true := hj
    simp [zr, xw, hr, hj2, hj3, zI (x := i.D + 1) (by omega) (by omega), e15]
   | false =>
    have hj2 : inB i.Op 15 19 = false := by
     cases h : inB i.Op 15 19 with
     | false => rfl
     | true =>
      simp [inB] at h hj
      omega
    have hj3 : (decide (i.Op >= 16) && decide (i.Op <= 19)) = false := hj
    cases hl : (i.Op == 20) with
    | true =>
     have := zg4 (i := i) (by simp [zbf, hr, hl])
     have e : w64 (0 - i.D) = -i.D := by rw [zI (by omega) (by omega)]; omega
     simp only [hl, hj3, e, zr, xw, zbf, hr, hj2]
     rfl
    | false =>
     simp [zr, xw, zbf, hr, hj2, hj3, hl]
theorem zkm (code : List zc) (hn : code.length <= 64) : zQ (xZ code) (fun _ => (.inl ())) code.length 0 () = some (zdx (vP (vo code) code.length 0)) := by
 refine zb4 (vo code) (N := code.length) ?_
 intro j again hj
 unfold xZ
 have hx : code[j]? = some code[j] := zeg hj
 generalize hi : code[j] = x at hx
 have hg := zcI x
 have e1 : w64 ((j : Int) + (zr x).1) = j + (zr x).1 := zI (by omega) (by omega)
 have e2 : w64 ((code.length : Int) - 1) = code.length - 1 := zI (by omega) (by omega)
 have e3 : w64 ((j : Int) + 1) = j + 1 := zI (by omega) (by omega)
 have e4 : (((j : Int) + 1) == code.length) = ((j : Int) == code.length - 1) := by rw [Bool.eq_iff_iff]; simp; omega
 have e5 : decide ((j : Int) + (zr x).1 > code.length - 1) = decide ((j : Int) + (zr x).1 >= code.length) := by rw [Bool.eq_iff_iff]; simp; omega
 simp only [zdL hj, hi, zbs, zdc, zea, e1, e2, e3, e4, e5, vo, hx, zhV]
 rcases zft (zO x) with h1 | h1
 ·rcases zft ((zr x).2.1 && (decide ((j : Int) + (zr x).1 < 0) || decide ((j : Int) + (zr x).1 >= code.length))) with h2 | h2
  ·simp only [h1, h2]; rfl
  ·rcases zft ((zr x).2.2 && ((j : Int) == code.length - 1)) with h3 | h3
   ·simp only [h1, h2, h3]; rfl
   ·simp only [h1, h2, h3]; rfl
 ·simp only [h1]; rfl
theorem zkn {code : List zc} (hn : code.length <= 64) (hD : zf8 code) (fu : Nat) (hf : 100 <= fu) : OK (vA fu code) (fun B => B.length = code.length /\ ∀ p, p < code.length -> B[p]? = some (bod code code.length p)) := by
 unfold vA
 refine OK.bind (OK.mkl (by omega) (by simp; omega) ?_)
 simp only [Int.toNat_natCast]
 refine OK.bind2 (R := fun B => B.length = code.length /\ ∀ p, p < code.length -> B[p]? = some (bod code code.length p)) ?_ (fun x hx => OK.ret hx)
 refine OK.count (fun i B => B.length = code.length /\ ∀ p, p < code.length -> B[p]? = some (bod code i p)) ⟨by simp, fun p hp => by simp [hp, bod]⟩ ?_ (fun s h => h)
 intro a B again ha ⟨hl, hB⟩ k
 unfold vN
 refine OK.bind (OK.getN ha (fun x hx => ?_))
 refine OK.ite (fun h => ?_) (fun h => ?_)
 ·have ho : x.Op ≠ 20 := by simpa using h
  refine k _ ⟨hl, fun p hp => ?_⟩
  rw [hB p hp, zfd]
  have : zw code p a = false := by simp [zw, hx, ho]
  simp [this]
 ·have ho : x.Op = 20 := by simpa using h
  have hd := hD.loop hx ho
  have e1 : w64 ((a : Int) - x.D) = a - x.D := zI (by omega) (by omega)
  rw [e1]
  refine OK.bind2 (R := fun B => B.length = code.length /\ ∀ p, p < code.length -> B[p]? = some (bod code (a + 1) p)) ?_ (fun B' h' => k B' h')
  refine OK.rounds (fun s : List (List Int) × Int => (a : Int) - x.D <= s.2 /\ s.2 <= a + 1 /\ s.1.length = code.length /\ ∀ p : Nat, p < code.length -> s.1[p]? = some (if (p : Int) < s.2 then bod code (a + 1) p else bod code a p))
   (fun s => ((a : Int) + 1 - s.2).toNat) ?_ fu _ ⟨by omega, by omega, hl, fun p hp => ?_⟩ (by omega)
  ·rintro ⟨B1, q⟩ again ⟨h1, h2, h3, h4⟩ k2
   simp only at h1 h2 h3 h4
   unfold vM
   refine OK.ite (fun hc => ?_) (fun hc => ?_)
   ·have hq : q <= a := by simpa using hc
    have hq0 : 0 <= q := by omega
    have hq1 : q < B1.length := by omega
    refine OK.bind (OK.get hq0 hq1 (fun y hy => ?_))
    have hy2 := h4 q.toNat (by omega)
    rw [hy2] at hy
    have hqq : ((q.toNat : Nat) : Int) = q := by omega
    rw [if_neg (by omega)] at hy
    cases hy
    have hbl := ziB code a q.toNat
    refine OK.bind (OK.hasRoom (by simp; omega) ?_)
    have e2 : w64 (q + 1) = q + 1 := zI (by omega) (by omega)
    rw [e2]
    refine k2 _ ⟨?_, ?_, ?_, fun p hp => ?_⟩ ?_
    ·show (a : Int) - x.D <= q + 1; omega
    ·show q + 1 <= (a : Int) + 1; omega
    ·simpa using h3
    ·simp only
     rw [zm1]
     by_cases hpq : q.toNat = p
     ·subst hpq
      rw [if_pos rfl, if_pos (by omega), if_pos (by omega), zfd]
      have : zw code q.toNat a = true := by simp [zw, hx, ho]; omega
      rw [this]; rfl
     ·rw [if_neg hpq, h4 p hp]
      by_cases hlt : (p : Int) < q
      ·rw [if_pos hlt, if_pos (by omega)]
      ·rw [if_neg hlt, if_neg (by omega)]
    ·simp only; omega
   ·have hq : ¬ q <= a := by simpa using hc
    refine OK.ret ⟨h3, fun p hp => ?_⟩
    rw [h4 p hp]
    by_cases hlt : (p : Int) < q
    ·rw [if_pos hlt]
    ·rw [if_neg hlt, zfd]
     have : zw code p a = false := by simp [zw, hx, ho]; omega
     simp [this]
  ·simp only
   rw [hB p hp]
   by_cases hlt : (p : Int) < a - x.D
   ·rw [if_pos hlt, zfd]
    have : zw code p a = false := by simp [zw, hx, ho]; omega
    simp [this]
   ·rw [if_neg hlt]
theorem zl2 (l : List Int) (m : Int) : vf l m = some (l.contains m) := by
 unfold vf
 rw [zb4 (fun i => if (l[i]? == some m) then some true else none) (N := l.length)]
 ·simp only [zbs]
  cases hf : vP (fun i => if (l[i]? == some m) then some true else none) l.length 0 with
  | some v =>
   obtain ⟨j, _, h2, h3, _⟩ := zaS hf
   split at h3
   ·rename_i h
    cases h3
    have : m ∈ l := zmg (by simpa using h)
    simp [zdx, this]
   ·cases h3
  | none =>
   have := zbk hf
   have hm : m ∉ l := by
    intro hm
    obtain ⟨j, hj, rfl⟩ := List.mem_iff_getElem.1 hm
    have := this j (by omega) (by omega)
    simp [hj] at this
   simp [zdx, hm]
 ·intro j again hj
  unfold za0
  simp only [zdL hj, zbs, zeg hj]
  rcases zft (l[j] == m) with h | h
  ·simp [h]
  ·simp [h]
open Classical in
theorem znk {code : List zc} {B : List (List Int)} (hn : code.length <= 64) (hB : ∀ p, p < code.length -> B[p]? = some (bod code code.length p)) (hBl : B.length = code.length) {l m : Nat} (hl : l < code.length) (hm : m < code.length) :
  OK (zQ (xh B l m) (fun (s : Int × Bool) => (s.1, s.2)) code.length 0 (0, true)) (fun s => (0 < s.1 ↔ ∃ p, p < code.length /\ zw code p m = true /\ zw code p l = true) /\ (s.2 = false ↔ ∃ p, p < code.length /\ zw code p m = true /\ zw code p l = false)) := by
 refine OK.count (fun (i : Nat) (s : Int × Bool) => 0 <= s.1 /\ s.1 <= (i : Int) /\ (0 < s.1 ↔ ∃ p, p < i /\ zw code p m = true /\ zw code p l = true) /\ (s.2 = false ↔ ∃ p, p < i /\ zw code p m = true /\ zw code p l = false)) ⟨by simp, by simp, by simp, by simp⟩ ?_ (fun s h => h.2.2)
 rintro i ⟨b, al⟩ again hi ⟨h0, h1, h2, h3⟩ k
 simp only at h0 h1 h2 h3
 unfold xh
 refine OK.bind (OK.getN (by omega) (fun x hx => ?_))
 rw [hB i hi] at hx
 cases hx
 simp only [zl2, ziC hm, ziC hl, zbs]
 have step : ∀ {P : Nat -> Prop}, (∃ p, p < i + 1 /\ P p) ↔ (∃ p, p < i /\ P p) \/ P i := by
  intro P
  constructor
  ·rintro ⟨p, hp, h⟩
   rcases Nat.lt_or_ge p i with h4 | h4
   ·exact .inl ⟨p, h4, h⟩
   ·have : p = i := by omega
    subst this; exact .inr h
  ·rintro (⟨p, hp, h⟩ | h)
   ·exact ⟨p, by omega, h⟩
   ·exact ⟨i, by omega, h⟩
 refine OK.ite (fun hc => ?_) (fun hc => ?_)
 ·refine OK.ite (fun hd => ?_) (fun hd => ?_)
  ·have e : w64 (b + 1) = b + 1 := zI (by omega) (by omega)
   rw [e]
   refine k _ ⟨by simp only; omega, by simp only; omega, ?_, ?_⟩
   ·simp only [step, hc, hd]; simp; omega
   ·simp only [step, h3, hc, hd]; simp
  ·refine k _ ⟨h0, by simp only; omega, ?_, ?_⟩
   ·simp only [step, h2, hc, hd]; simp
   ·simp only [step, hc, hd]; simp
 ·refine k _ ⟨h0, by simp only; omega, ?_, ?_⟩
  ·simp only [step, h2, hc]; simp
  ·simp only [step, h3, hc]; simp
theorem ziD {code : List zc} (hn : code.length <= 64) (hD : zf8 code) {B : List (List Int)} (hB : ∀ p, p < code.length -> B[p]? = some (bod code code.length p)) (hBl : B.length = code.length) (fu : Nat) :
  ∃ o, zhl (Cr code) code.length o /\ xX fu code B = some (match o with | some l => ((l : Int), true) | none => (0, false)) := by
 have main : zQ (xj code B) (fun _ => (.inl ())) code.length 0 () = some (zdx (vP (fun l => pick (Cr code l) ((l : Int), true)) code.length 0)) := by
  refine zb4 _ (N := code.length) ?_
  intro l again hl
  have hx := zeg hl
  generalize hi : code[l] = x at hx
  unfold xj
  simp only [zdL hl, hi, zbs]
  rcases zft (x.Op != 20) with h | h
  ·rw [zeE (by rintro ⟨m, _, il, im, e1, e2, _⟩; rw [hx] at e1; cases e1; simp [e2] at h)]
   simp [h]
  ·have ho : x.Op = 20 := by simpa using h
   have hr : room l 1 = some () := by unfold room; rw [if_pos (by omega)]
   have inner : zQ (xi code B l) (fun _ => (.inl ())) l 0 () = some (zdx (vP (fun m => pick (Crs code l m) ((l : Int), true)) l 0)) := by
    refine zb4 _ (N := l) ?_
    intro m again hm
    have hmc : m < code.length := by omega
    have hy := zeg hmc
    generalize hj : code[m] = y at hy
    unfold xi
    simp only [zdL hmc, hj, zbs]
    rcases zft (y.Op != 20) with h' | h'
    ·rw [zeE (by rintro ⟨il, im, _, _, e3, e4, _⟩; rw [hy] at e3; cases e3; simp [e4] at h')]
     simp [h']
    ·have ho' : y.Op = 20 := by simpa using h'
     obtain ⟨s, hs, q1, q2⟩ := znk hn hB hBl hl hmc
     have hcr := zmp hD hm hx ho hy ho'
     rw [hs]
     simp only [h', zbs]
     by_cases hc : Crs code l m
     ·rw [zgn hc]
      have c := hcr.1 hc
      have c1 := q1.2 c.1
      have c2 := q2.2 c.2
      simp [c1, c2]
     ·rw [zeE hc]
      have c : ¬ (0 < s.1 /\ s.2 = false) := fun ⟨c1, c2⟩ => hc (hcr.2 ⟨q1.1 c1, q2.1 c2⟩)
      have : (decide (s.1 > 0) && !s.2) = false := by
       cases h5 : (decide (s.1 > 0) && !s.2) with
       | false => rfl
       | true => exfalso; apply c; simpa using h5
      simp [this]
   simp only [h, hr, inner, zbs]
   obtain ⟨o, ho1, ho2⟩ := zb5 (X := Crs code l) (n := l) (v := fun _ => ((l : Int), true))
   rw [ho2]
   cases o with
   | none => rw [zeE (fun ⟨m, h1, h2⟩ => ho1 m h1 h2)]; simp [zdx]
   | some m => rw [zgn ⟨m, ho1.1, ho1.2.1⟩]; simp [zdx]
 obtain ⟨o, h1, h2⟩ := zb5 (X := Cr code) (n := code.length) (v := fun l => ((l : Int), true))
 refine ⟨o, h1, ?_⟩
 unfold xX
 rw [main, h2]
 cases o <;> rfl
theorem ziE {code : List zc} (hn : code.length <= 64) (hD : zf8 code) {B : List (List Int)} (hB : ∀ p, p < code.length -> B[p]? = some (bod code code.length p)) (hBl : B.length = code.length) (fu : Nat) (hf : 100 <= fu) :
  xY fu code B = some (match vP (fun p => pick (En code p) ((p : Int), true)) code.length 0 with | some v => v | none => (0, false)) := by
 have main : zQ (xl fu code B) (fun _ => (.inl ())) code.length 0 () = some (zdx (vP (fun p => pick (En code p) ((p : Int), true)) code.length 0)) := by
  refine zb4 _ (N := code.length) ?_
  intro p again hp
  have hx := zeg hp
  generalize hi : code[p] = x at hx
  have hg := zcI x
  have e1 : w64 ((p : Int) + (zr x).1) = p + (zr x).1 := zI (by omega) (by omega)
  unfold xl
  simp only [zdL hp, hi, zbs, zea]
  rcases zft ((!(zr x).2.1) || decide ((zr x).1 < 0)) with h | h
  ·rw [zeE]
   ·simp only [h]; rfl
   ·rintro ⟨i', hi', c1, c2, _⟩
    rw [hx] at hi'; cases hi'
    simp [c1] at h; omega
  ·have h' : (zr x).2.1 = true /\ 0 <= (zr x).1 := by simpa using h
   have hne := zmr x h'.1
   have hb := hD.leads hx h'.1
   generalize hd : (zr x).1 = d at e1 hb h' hne hg
   have ht : ((p : Int) + d).toNat < code.length := by omega
   have hbt := hB _ ht
   have hbp := hB p hp
   have hbl := ziB code code.length ((p : Int) + d).toNat
   generalize hbo : bod code code.length ((p : Int) + d).toNat = bt at hbt hbl
   have hit : idx B ((p : Int) + d) = some bt := by unfold Go.Sx.idx; rw [if_pos hb.1, hbt]
   have hip : idx B (p : Int) = some (bod code code.length p) := by unfold Go.Sx.idx; rw [if_pos (by omega)]; simpa using hbp
   generalize hX0 : EnX code p d = X
   have hin : OK (loop (xk code B p (zr x)) fu 0) (fun r => (r = .inr ((p : Int), true) /\ ∃ a ∈ bt, X a) \/ (r = .inl () /\ ∀ a ∈ bt, ¬ X a)) := by
    refine OK.rounds (fun s : Int => 0 <= s /\ s <= bt.length /\ ∀ (k : Nat) (a : Int), (k : Int) < s -> bt[k]? = some a -> ¬ X a) (fun s => ((bt.length : Int) - s).toNat) ?_ fu 0 ⟨by omega, by omega, fun k a hk => by omega⟩ (by omega)
    rintro s again ⟨s0, s1, s2⟩ k2
    unfold xk
    simp only [hd, e1, hit, zbs]
    refine OK.ite (fun hc => ?_) (fun hc => ?_)
    ·have hc' : s < bt.length := by simpa using hc
     refine OK.bind (OK.get s0 hc' (fun a ha => ?_))
     obtain ⟨q, hq, hcv, rfl⟩ := zgm.1 (by rw [hbo]; exact zmg ha)
     have hq2 := zeg hq
     generalize hqi : code[q] = ia at hq2
     have hop : ia.Op = 20 := by
      unfold zw at hcv; rw [hq2] at hcv; simp at hcv; exact hcv.1.1
     have dl := hD.loop hq2 hop
     have e2 : w64 ((q : Int) - ia.D) = q - ia.D := zI (by omega) (by omega)
     have e3 : w64 (s + 1) = s + 1 := zI (by omega) (by omega)
     simp only [hip, zbs, zl2, ziC hq, zdL hq, hqi, e2]
     rcases zft (zw code p q) with cv | cv
     ·simp only [cv, zbs]
      refine OK.bind (OK.ite (fun h5 => absurd h5 (by simp)) (fun _ => OK.ret ?_))
      refine OK.ite (fun h5 => absurd h5 (by simp)) (fun _ => ?_)
      rw [e3]
      refine k2 _ ⟨by omega, by omega, fun k a hk hka => ?_⟩ (by omega)
      rcases Int.lt_or_le k s with h6 | h6
      ·exact s2 k a h6 hka
      ·have : k = s.toNat := by omega
       subst this
       rw [ha] at hka; cases hka
       rw [<- hX0]
       rintro ⟨q', ia', e4, _, _, e5, _⟩
       have : q = q' := by omega
       subst this
       rw [cv] at e5; cases e5
     ·simp only [cv, zbs]
      refine OK.bind (OK.ite (fun h5 => OK.ret ?_) (fun h5 => absurd h5 (by simp)))
      refine OK.ite (fun h5 => OK.ret ?_) (fun h5 => ?_)
      ·exact .inl ⟨rfl, _, zmg ha, by rw [<- hX0]; exact ⟨q, ia, rfl, hq, hq2, cv, by simpa using h5⟩⟩
      ·rw [e3]
       refine k2 _ ⟨by omega, by omega, fun k a hk hka => ?_⟩ (by omega)
       rcases Int.lt_or_le k s with h6 | h6
       ·exact s2 k a h6 hka
       ·have : k = s.toNat := by omega
        subst this
        rw [ha] at hka; cases hka
        rw [<- hX0]
        rintro ⟨q', ia', e4, _, e6, _, e7⟩
        have : q = q' := by omega
        subst this
        rw [hq2] at e6; cases e6
        exact e7 (by simpa using h5)
    ·have hc' : ¬ s < bt.length := by simpa using hc
     refine OK.ret (.inr ⟨rfl, fun a ha => ?_⟩)
     obtain ⟨k, hk, rfl⟩ := List.mem_iff_getElem.1 ha
     exact s2 k _ (by omega) (zeg hk)
   obtain ⟨r, hr, hcase⟩ := hin
   have hX : (∃ a ∈ bt, X a) ↔ En code p := by
    rw [<- hX0]
    constructor
    ·rintro ⟨a, ha, q, ia, rfl, hq, hq2, cv, hne2⟩
     rw [<- hbo] at ha
     obtain ⟨q', _, hcv, e⟩ := zgm.1 ha
     have : q = q' := by omega
     subst this
     have hop : ia.Op = 20 := by
      unfold zw at hcv; rw [hq2] at hcv; simp at hcv; exact hcv.1.1
     exact ⟨x, hx, h'.1, by rw [hd]; omega, q, ia, _, hq, hq2, hop, by rw [hd]; omega, hcv, cv, by omega⟩
    ·rintro ⟨i', hi', c1, c2, a, ia, t, ha, hia, hop, ht2, v1, v2, v3⟩
     rw [hx] at hi'; cases hi'
     rw [hd] at ht2
     have : ((p : Int) + d).toNat = t := by omega
     subst this
     refine ⟨a, by rw [<- hbo]; exact zgm.2 ⟨a, ha, v1, rfl⟩, a, ia, rfl, ha, hia, v2, by omega⟩
   rw [hd] at h
   simp only [h, hr, zbs]
   rcases hcase with ⟨rfl, hc⟩ | ⟨rfl, hc⟩
   ·rw [zgn (hX.1 hc)]; rfl
   ·rw [zeE (fun h9 => by obtain ⟨a, ha, h10⟩ := hX.2 h9; exact hc a ha h10)]; rfl
 unfold xY
 rw [main]
 cases vP (fun p => pick (En code p) ((p : Int), true)) code.length 0 <;> rfl
theorem zmt {code : List zc} (hn : code.length <= 64) (hD : zf8 code) {B : List (List Int)} (hB : ∀ p, p < code.length -> B[p]? = some (bod code code.length p)) (hBl : B.length = code.length) (fu : Nat) (hf : 100 <= fu) :
  OK (zaA fu code B) (fun S => mn S = mn (zfD code code.length)) := by
 unfold zaA
 refine OK.bind2 (R := fun S => mn S = mn (zfD code code.length)) ?_ (fun x hx => OK.ret hx)
 refine OK.count (fun (i : Nat) (s : Int) => mn s = mn (zfD code i) /\ 0 <= s /\ s <= 65536 * i) (by simp [zfD]) ?_ (fun s h => h.1)
 intro p s again hp ⟨hs, s0, s1⟩ k
 unfold zaK
 have hbp := hB p hp
 have hip : idx B (p : Int) = some (bod code code.length p) := by unfold Go.Sx.idx; rw [if_pos (by omega)]; simpa using hbp
 have hbl := ziB code code.length p
 let prodB : List Int -> Int := fun l => l.foldl (fun s a => s * ((code[a.toNat]?.map (·.Imm)).getD 0 + 1)) 1
 have hprod : ∀ k, prodB (bod code k p) = xI code p k := by
  intro k
  induction k with
  | zero => rfl
  | succ k ih =>
   rw [zfd]
   unfold xI
   cases hk : code[k]? with
   | none =>
    have : zw code p k = false := by simp [zw, hk]
    simp [this, ih]
   | some i =>
    simp only
    cases hc : zw code p k with
    | false => simp [ih]
    | true =>
     simp only [if_true]
     show (bod code k p ++ [(k : Int)]).foldl _ 1 = _
     rw [List.foldl_append]
     have ih' : (bod code k p).foldl (fun s a => s * ((code[a.toNat]?.map (·.Imm)).getD 0 + 1)) 1 = xI code p k := ih
     rw [ih']
     simp [hk]
 have himm : ∀ (j : Nat) (a : Int), (bod code code.length p)[j]? = some a -> ∃ (q : Nat) (i : zc), a = q /\ q < code.length /\ code[q]? = some i /\ 1 <= i.Imm /\ i.Imm <= 255 := by
  intro j a ha
  obtain ⟨q, hq, hcv, rfl⟩ := zgm.1 (zmg ha)
  have hq2 := zeg hq
  have := hD.loop hq2 (zhY hq2 hcv)
  exact ⟨q, _, rfl, hq, hq2, by omega, by omega⟩
 have htm := hprod code.length
 generalize bod code code.length p = bt at hip hbl himm htm
 have mono : ∀ (n i : Nat), i + n = bt.length -> 1 <= prodB (bt.take i) -> prodB (bt.take i) <= prodB bt := by
  intro n
  induction n with
  | zero => intro i hi _; rw [List.take_of_length_le (by omega)]; omega
  | succ n ih =>
   intro i hi h1
   have hlt : i < bt.length := by omega
   have hget := zeg hlt
   obtain ⟨q, im, e, _, hq, i1, i2⟩ := himm i _ hget
   have htake : prodB (bt.take (i + 1)) = prodB (bt.take i) * (im.Imm + 1) := by
    show (bt.take (i + 1)).foldl _ 1 = _
    rw [List.take_add_one, hget, List.foldl_append]
    simp [e, hq]
    rfl
   have h2 : prodB (bt.take i) * 1 <= prodB (bt.take i) * (im.Imm + 1) := Int.mul_le_mul_of_nonneg_left (by omega) (by omega)
   have h3 := ih (i + 1) (by omega) (by rw [htake]; omega)
   rw [htake] at h3
   omega
 have hl : OK (loop (vn code B p) fu (1, 0)) (fun t => mn t = mn (xI code p code.length) /\ 1 <= t /\ t <= 65536) := by
  refine OK.rounds (fun (s : Int × Int) => 0 <= s.2 /\ s.2 <= bt.length /\ s.1 = prodB (bt.take s.2.toNat) /\ 1 <= s.1 /\ s.1 <= 65536) (fun s => ((bt.length : Int) - s.2).toNat) ?_ fu _ ⟨by simp, by simp, by simp [prodB], by simp, by simp⟩ (by simp; omega)
  rintro ⟨t, j⟩ again ⟨j0, j1, ht, t1, t2⟩ k2
  simp only at j0 j1 ht t1 t2
  unfold vn
  simp only [hip, zbs]
  have stop : (¬ j < bt.length \/ ¬ t <= 256) -> mn t = mn (xI code p code.length) := by
   intro h
   rw [<- htm]
   rcases h with h | h
   ·rw [ht, List.take_of_length_le (by omega)]
   ·have h5 := mono (bt.length - j.toNat) j.toNat (by omega) (by rw [<- ht]; omega)
    rw [<- ht] at h5
    unfold mn
    split <;> split <;> omega
  refine OK.bind (OK.ite (fun hc => OK.ret ?_) (fun hc => OK.ret ?_))
  ·refine OK.ite (fun hd => ?_) (fun hd => ?_)
   ·have hj : j < bt.length := by simpa using hc
    have ht3 : t <= 256 := by simpa using hd
    refine OK.bind (OK.get j0 hj (fun a ha => ?_))
    obtain ⟨q, im, rfl, hq1, hq, i1, i2⟩ := himm _ _ ha
    refine OK.bind (OK.getN hq1 (fun y hy => ?_))
    rw [hq] at hy; cases hy
    have m1 : t * (im.Imm + 1) <= 256 * 256 := Int.mul_le_mul (by omega) (by omega) (by omega) (by omega)
    have m0 : 1 * 1 <= t * (im.Imm + 1) := Int.mul_le_mul (by omega) (by omega) (by omega) (by omega)
    have e1 : w64 (im.Imm + 1) = im.Imm + 1 := zI (by omega) (by omega)
    have e2 : w64 (t * (im.Imm + 1)) = t * (im.Imm + 1) := zI (by omega) (by omega)
    have e3 : w64 (j + 1) = j + 1 := zI (by omega) (by omega)
    rw [e1, e2, e3]
    refine k2 _ ⟨by simp only; omega, by simp only; omega, ?_, by simp only; omega, by simp only; omega⟩ (by simp only; omega)
    simp only
    have : (j + 1).toNat = j.toNat + 1 := by omega
    rw [this]
    show _ = (bt.take (j.toNat + 1)).foldl _ 1
    rw [List.take_add_one, ha, List.foldl_append, ht]
    simp [hq]
    rfl
   ·exact OK.ret ⟨stop (.inr (by simpa using hd)), t1, t2⟩
  ·refine OK.ite (fun hd => absurd hd (by simp)) (fun hd => ?_)
   exact OK.ret ⟨stop (.inl (by simpa using hc)), t1, t2⟩
 refine OK.bind2 hl ?_
 rintro t ⟨ht, t1, t2⟩
 rw [zI (by omega) (by omega)]
 refine k _ ⟨?_, by omega, by omega⟩
 have h3 := zdN hD p code.length
 have h4 := zdb hD p
 rw [zhZ, <- zkj (by omega) (by omega), <- zkj (a := zfD code p) (by omega) (by omega), ht, hs]
theorem zjE (code : List zc) (fu : Nat) (hf : 100 <= fu) : ∃ r, zaQ code = some r /\ vX fu code = some r /\ (r.2 = 0 -> r.1 = 0 /\ zen code) /\ (zen code -> r.2 = 0) := by
 unfold zaQ vX
 by_cases h0 : code.length = 0
 ·refine ⟨(0, 10), ?_, ?_, by simp, fun h => by have := h.n1; omega⟩ <;> simp [h0]
 ·have e0 : ((code.length : Int) == 0) = false := by simp; exact fun h => h0 (by simp [h])
  by_cases h1 : 64 < code.length
  ·have e1 : decide ((code.length : Int) > 64) = true := by simp; omega
   refine ⟨(0, 11), ?_, ?_, by simp, fun h => by have := h.n64; omega⟩ <;> simp only [e0, e1] <;> rfl
  ·have e1 : decide ((code.length : Int) > 64) = false := by simp; omega
   have hn : code.length <= 64 := by omega
   simp only [e0, e1, zhW code hn, zkm code hn, zbs]
   cases hp : vP (vo code) code.length 0 with
   | some v =>
    obtain ⟨j, _, h2, h3, _⟩ := zaS hp
    have hne : v.2 ≠ 0 := by
     unfold vo at h3
     split at h3
     ·split at h3
      ·cases h3
      ·rename_i h4; cases h3; exact h4
     ·cases h3
    refine ⟨v, ?_, ?_, fun h => absurd h hne, fun h => ?_⟩
    ·have : (v.2 != 0) = true := by simpa using hne
     simp [this]
    ·rfl
    ·rw [zhX h.fine] at hp; cases hp
   | none =>
    have hD := zkh hp
    obtain ⟨B, hB0, hBl, hB⟩ := zkn hn hD fu hf
    obtain ⟨o, o1, o2⟩ := zg1 hn hD
    obtain ⟨o', o1', o2'⟩ := ziD hn hD hB hBl fu
    have := zhl.unique o1 o1'
    subst this
    simp only [zdx, hB0, o2, o2', zbs, Option.getD_none]
    cases o with
    | some l =>
     refine ⟨((l : Int), 31), by simp, by simp, by simp, fun h => absurd o1.2.1 (h.cr l o1.1)⟩
    | none =>
     simp only [ziE hn hD hB hBl fu hf, zbs]
     obtain ⟨p, p1, p2⟩ := zb5 (X := En code) (n := code.length) (v := fun p => ((p : Int), (31 : Int)))
     obtain ⟨p', p1', p2'⟩ := zb5 (X := En code) (n := code.length) (v := fun p => ((p : Int), true))
     have := zhl.unique p1 p1'
     subst this
     rw [p2, p2']
     cases p with
     | some l => exact ⟨((l : Int), 31), by simp, by simp, by simp, fun h => absurd p1.2.1 (h.en l p1.1)⟩
     | none =>
      obtain ⟨S, hS, hS2⟩ := zmt hn hD hB hBl fu hf
      simp only [zjg hn hD, hS, zbs, Option.map_none, Option.getD_none]
      have hS3 : decide (S > 256) = decide (mn (zfD code code.length) > 256) := by
       rw [<- hS2, Bool.eq_iff_iff]; unfold mn; simp; split <;> omega
      rw [hS3]
      have hmn := zkl (zfD code code.length)
      by_cases hc : mn (zfD code code.length) > 256
      ·refine ⟨(0, 32), by simp [hc], by simp [hc], by simp, fun h => ?_⟩
       have := h.cost; omega
      ·refine ⟨(0, 0), by simp [hc], by simp [hc], fun _ => ⟨rfl, ⟨by omega, hn, hD, o1, p1, ?_⟩⟩, fun _ => rfl⟩
       unfold mn at hc
       split at hc <;> omega
end Go.Proofs.YtgmmfjpmahcocaaGreatDoor

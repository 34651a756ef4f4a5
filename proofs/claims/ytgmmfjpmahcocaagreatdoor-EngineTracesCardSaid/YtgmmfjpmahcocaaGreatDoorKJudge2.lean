import Derived.Test.YtgmmfjpmahcocaaGreatDoorKJudge
set_option linter.unusedVariables false
set_option linter.unusedSimpArgs false
namespace Go.Proofs.YtgmmfjpmahcocaaGreatDoor
open Go.Sx
def Way (code : List zc) (p q : Nat) : Prop := ∃ i, code[p]? = some i /\ ((zr i).2.2 = true /\ q = p + 1 \/ (zr i).2.1 = true /\ 0 < (zr i).1 /\ (q : Int) = p + (zr i).1)
structure zjG (code : List zc) (p : Nat) (j j' : ze) : Prop where
 same : ∀ q : Nat, q <= p -> j'.ca[q]? = j.ca[q]? /\ j'.any[q]? = j.any[q]?
 keep : ∀ q : Nat, j.any[q]? = some true -> j'.any[q]? = some true
 new : ∀ q : Nat, j'.any[q]? = some true -> j.any[q]? = some true \/ Way code p q
theorem zjG.refl (code : List zc) (p : Nat) (j : ze) : zjG code p j j := ⟨fun _ _ => ⟨rfl, rfl⟩, fun _ h => h, fun _ h => .inl h⟩
theorem zjG.trans {code : List zc} {p : Nat} {a b c : ze} (h : zjG code p a b) (k : zjG code p b c) : zjG code p a c :=
 ⟨fun q hq => ⟨(k.same q hq).1.trans (h.same q hq).1, (k.same q hq).2.trans (h.same q hq).2⟩, fun q hq => k.keep q (h.keep q hq), fun q hq => (k.new q hq).elim (fun e => h.new q e) .inr⟩
theorem zmx {code : List zc} {p q : Nat} {j j' : ze} (hA : j.any.length = code.length) (hq : p < q) (hw : Way code p q) (h1 : j'.any = j.any.set q true) (h2 : ∀ t, t ≠ q -> j'.ca[t]? = j.ca[t]?) : zjG code p j j' := by
 refine ⟨fun t ht => ⟨h2 t (by omega), by rw [h1]; exact zbM (by omega)⟩, fun t ht => ?_, fun t ht => ?_⟩
 ·rw [h1]
  by_cases e : t = q
  ·subst e
   have := (zes.1 ht).1
   rw [List.getElem?_set]; simp [this]
  ·rw [zbM e]; exact ht
 ·by_cases e : t = q
  ·subst e; exact .inr hw
  ·rw [h1, zbM e] at ht; exact .inl ht
theorem zjl {i : zc} (h : (zr i).2.1 = true) : (0 < (zr i).1 /\ 15 <= i.Op /\ i.Op <= 19 /\ (zr i).2.2 = (i.Op != 15)) \/ ((zr i).1 < 0 /\ i.Op = 20 /\ (zr i).2.2 = true) := by
 unfold zr at h |-
 by_cases hj : xw i = true
 ·have := zcK hj
  rw [if_pos hj]
  exact .inl ⟨by simp; omega, this.2.2.1, this.2.2.2, rfl⟩
 ·rw [if_neg hj] at h |-
  by_cases hl : zbf i = true
  ·have := zg4 hl
   rw [if_pos hl]
   exact .inr ⟨by simp; omega, this.2.2.1, rfl⟩
  ·rw [if_neg hl] at h
   cases h
theorem zkt {m : zi} {j : ze} (h : JI m j) (hg : zen m.Co) {p : Nat} (hp : p < m.Co.length) {k : Nat -> za} (hk : ∀ r, r < 8 -> WT m.Ms.length (k r)) :
  OK (jB j (p : Int) k) (fun j' => JI m j' /\ zjG m.Co p j j') := by
 have hn := hg.n64
 obtain ⟨i, hi, hi2⟩ := xG hp
 have hr := hg.fine.right hi
 unfold jB
 rw [h.mod, hi2]
 simp only [zcL, zbs]
 have e1 : w64 ((p : Int) + 1) = ((p + 1 : Nat) : Int) := by rw [zI (by omega) (by omega)]; simp
 have step : ∀ {j : ze} {q : Nat} {k : Nat -> za}, JI m j -> p < q -> q < m.Co.length -> Way m.Co p q -> (∀ r, r < 8 -> WT m.Ms.length (k r)) -> OK (zD j (q : Int) k) (fun j' => JI m j' /\ zjG m.Co p j j') :=
  fun hj hq hqn hw hk => (zks hj hqn hk).mono (fun j' hj' => ⟨hj'.1, zmx hj.lenA hq hw hj'.2.1 hj'.2.2⟩)
 refine OK.ite (fun hc => OK.bind2 (OK.ite (fun hon => ?_) (fun _ => OK.ret ⟨h, zjG.refl _ _ _⟩)) (fun o ho => OK.ret ho)) (fun hc => ?_)
 ·rw [e1]
  exact OK.bind2 (step h (by omega) (hg.fine.on hi hon) ⟨i, hi, .inl ⟨hon, rfl⟩⟩ hk) (fun x hx => OK.ret hx)
 have hl : (zr i).2.1 = true /\ 0 <= (zr i).1 := by simp at hc; exact ⟨hc.1, by omega⟩
 have hd : 0 < (zr i).1 := by
  rcases zjl hl.1 with h1 | h1
  ·exact h1.1
  ·omega
 have hlead := hg.fine.leads hi hl.1
 obtain ⟨q, hq⟩ := zof hlead.1
 have eq : w64 ((p : Int) + (zr i).1) = (q : Int) := by rw [zI (by omega) (by omega), hq]
 have hq1 : (q : Int) = p + (zr i).1 := hq.symm
 have hwq : Way m.Co p q := ⟨i, hi, .inr ⟨hl.1, hd, hq1⟩⟩
 refine OK.ite (fun _ => ?_) (fun hon => ?_)
 ·rw [eq]
  exact OK.bind2 (step h (by omega) (by omega) hwq hk) (fun x hx => OK.ret hx)
 have hon : (zr i).2.2 = true := by simpa using hon
 have hops : 16 <= i.Op /\ i.Op <= 19 := by
  rcases zjl hl.1 with h1 | h1
  ·rw [h1.2.2.2] at hon
   have : i.Op ≠ 15 := by simpa using hon
   omega
  ·omega
 have hs := qP hr (.inr hops)
 have hA := zbl hr
 rw [zeF hs]
 simp only [zbs]
 refine OK.bind2 (OK.count (fun _ s => JI m s /\ zjG m.Co p j s) ⟨h, zjG.refl _ _ _⟩ (fun t s again ht hI kk => ?_) (fun s hI => hI)) (fun o ho => OK.ret ho)
 unfold zV
 refine OK.bind (OK.getN (by simpa using ht) (fun x hx => ?_))
 refine OK.bind2 (R := fun (o : Int) => ∃ q' : Nat, o = (q' : Int) /\ p < q' /\ q' < m.Co.length /\ Way m.Co p q') ?_ (fun o ho => ?_)
 ·refine OK.ite (fun _ => OK.ret ⟨p + 1, e1, by omega, hg.fine.on hi hon, i, hi, .inl ⟨hon, rfl⟩⟩) (fun _ => OK.ret ⟨q, eq, by omega, by omega, hwq⟩)
 obtain ⟨q', rfl, hq1', hq2', hw'⟩ := ho
 rw [zf0 hA.1 hA.2]
 simp only [zbs]
 refine OK.bind2 (R := fun r => SW r.1) (OK.bind2 (zgr (hk _ (by omega)).span (zcu hs hk).span) (fun r hr => OK.ret hr)) (fun r hr => ?_)
 refine OK.ite (fun _ => ?_) (fun _ => kk _ hI)
 simp only [vQ, zbs]
 exact OK.bind2 (step hI.1 hq1' hq2' hw' (zcv hk (WT.num hr))) (fun x hx => kk _ ⟨hx.1, hI.2.trans hx.2⟩)
theorem zho : ∀ k : Fin 7, ∃ l, qV 1000 ((k : Nat) : Int) = some l /\ l.length <= 3 := by
 have h : ∀ k : Fin 7, ∃ n : Fin 4, (qV 1000 ((k : Nat) : Int)).map (·.length) = some (n : Nat) := by decide +kernel
 intro k
 obtain ⟨n, hn⟩ := h k
 obtain ⟨l, h1, h2⟩ := Option.map_eq_some_iff.1 hn
 exact ⟨l, h1, by omega⟩
theorem zgu : ∀ k : Fin 7, ∃ s, xH ((k : Nat) : Int) = some (s, true) /\ 0 <= s.most /\ s.most < 18446744073709551616 := by
 intro k
 have h : ∀ k : Fin 7, ((xH ((k : Nat) : Int)).map (fun r => r.2 && decide (0 <= r.1.most) && decide (r.1.most < 18446744073709551616))) = some true := by decide +kernel
 obtain ⟨⟨s, b⟩, h1, h2⟩ := Option.map_eq_some_iff.1 (h k)
 simp at h2
 obtain ⟨⟨rfl, h3⟩, h4⟩ := h2
 exact ⟨s, h1, h3, h4⟩
theorem zh2 (k : Fin 7) {l : List za} (ha : qV 1000 ((k : Nat) : Int) = some l) (ys : List za) : OK (zaR 1000 ((k : Nat) : Int) ys) (fun _ => True) := by
 obtain ⟨s, h1, _⟩ := zgu k
 unfold zaR
 simp only [h1, ha, zbs]
 refine OK.ite (fun _ => OK.ret trivial) (fun _ => OK.ite (fun _ => OK.ret trivial) (fun hl => ?_))
 have hl : l.length = ys.length := by
  have : (l.length : Int) = ys.length := by simpa using hl
  omega
 refine OK.bind2 (OK.count (Q := fun _ => True) (fun _ _ => True) trivial (fun i s again hi _ kk => ?_) (fun _ _ => trivial)) (fun o _ => ?_)
 ·unfold vW
  refine OK.bind (OK.getN hi (fun x _ => OK.bind (OK.getN (by omega) (fun y _ => ?_))))
  refine OK.ite (fun _ => OK.ret trivial) (fun _ => OK.bind2 (R := fun _ => True) ?_ (fun o _ => OK.ite (fun _ => OK.ret trivial) (fun _ => kk _ trivial)))
  exact OK.ite (fun _ => OK.bind2 (zfg _ _) (fun x _ => OK.ret trivial)) (fun _ => OK.ret trivial)
 ·cases o <;> exact OK.ret trivial
def One (m : zi) (j : ze) (p : Nat) (r : (Nat -> za) × Int) : Prop :=
 r.2 = 0 -> (∀ q, q < 8 -> WT m.Ms.length (r.1 q)) /\ ∀ i, m.Co[p]? = some i -> i.Op = 20 -> ∀ q, q < 8 -> ∀ x h, j.ca[p]? = some x -> j.ca[((p : Int) - i.D).toNat]? = some h -> ziJ (x q) (h q)
theorem zku {m : zi} {j : ze} (h : JI m j) (hg : zen m.Co) {p : Nat} (hp : p < m.Co.length) :
  OK (jV 1000 j (p : Int)) (One m j p) := by
 have hn := hg.n64
 obtain ⟨i, hi, hi2⟩ := xG hp
 obtain ⟨k, hk1, hk2⟩ := xG (xs := j.ca) (p := p) (by rw [h.lenC]; exact hp)
 have hk := h.wt p k hk1
 have hr := hg.fine.right hi
 have hop := za4 hr
 have hA := zbl hr
 unfold jV
 rw [h.mod, hi2, hk2]
 simp only [zbs, zgt hr]
 have notLoop : ∀ {r : (Nat -> za) × Int}, i.Op ≠ 20 -> (r.2 = 0 -> ∀ q, q < 8 -> WT m.Ms.length (r.1 q)) -> One m j p r := by
  intro r hne hw h0
  refine ⟨hw h0, fun i' hi' ho => ?_⟩
  rw [hi] at hi'; cases hi'
  exact absurd ho hne
 refine OK.bind2 (R := fun t => WT m.Ms.length t) ?_ (fun s hs => ?_)
 ·refine OK.ite (fun hsrc => ?_) (fun _ => OK.ret WT.zero)
  have hb := qP hr (by simp at hsrc; omega)
  rw [zeF hb]
  exact OK.ret (zcu hb hk)
 rw [zf0 hA.1 hA.2]
 simp only [zbs, za6, vQ]
 have hD : ¬ (15 <= i.Op /\ i.Op <= 20) -> ain 8 i.D = some i.D.toNat := fun h => zf0 (zdd hr h).1 (zdd hr h).2
 have kw : ∀ {v : za} {t : Nat}, WT m.Ms.length v -> ∀ q, q < 8 -> WT m.Ms.length (zW k t v q) := fun hv => zcv hk hv
 refine OK.ite (fun e => ?_) (fun e0 => ?_)
 ·have e : i.Op = 0 := by simpa using e
  refine OK.ite (fun _ => OK.ret (notLoop (by omega) (fun h => by simp at h))) (fun _ => ?_)
  rw [hD (by omega)]
  exact OK.ret (notLoop (by omega) (fun _ => kw hs))
 refine OK.ite (fun e => ?_) (fun e11 => ?_)
 ·have e : i.Op = 11 := by simpa using e
  rw [hD (by omega)]
  simp only [zbs]
  exact OK.bind2 (zct _) (fun a _ => OK.bind2 (zhm _) (fun b _ => OK.bind2 (zf9 _) (fun c _ => OK.ret (notLoop (by omega) (fun _ => kw (WT.num SW.full))))))
 refine OK.ite (fun e => ?_) (fun e12 => ?_)
 ·have e : i.Op = 12 := by simpa using e
  exact OK.bind2 (zct _) (fun a _ => OK.bind2 (zhm _) (fun b _ => OK.bind2 (zf9 _) (fun c _ => OK.ret (notLoop (by omega) (fun _ => hk)))))
 refine OK.ite (fun e => ?_) (fun e13 => ?_)
 ·have e : i.Op = 13 := by simpa using e
  rw [hD (by omega)]
  exact OK.ret (notLoop (by omega) (fun _ => kw (WT.num SW.full)))
 refine OK.ite (fun e => ?_) (fun e14 => ?_)
 ·have e : i.Op = 14 := by simpa using e
  have him := zeP hr e
  rw [hD (by omega)]
  simp only [zbs]
  refine OK.ite (fun _ => OK.ret (notLoop (by omega) (fun h => by simp at h))) (fun hlt => OK.ret (notLoop (by omega) (fun _ => kw (.inr (.inr ⟨rfl, rfl, him.1, ?_⟩)))))
  have := of_decide_eq_false hlt
  show i.Imm < _
  omega
 refine OK.ite (fun e => ?_) (fun e15 => ?_)
 ·have e : i.Op = 15 := by simpa using e
  exact OK.ret (notLoop (by omega) (fun _ => hk))
 refine OK.bind2 (R := fun o => o = inB i.Op 16 19) ?_ (fun o ho => ?_)
 ·refine OK.ite (fun e => OK.ret ?_) (fun e => OK.ite (fun e => OK.ret ?_) (fun e2 => OK.ite (fun e => OK.ret ?_) (fun e3 => OK.ret ?_)))
  ·have e : i.Op = 16 := by simpa using e
   simp [e, inB]
  ·have e : i.Op = 17 := by simpa using e
   simp [e, inB]
  ·have e : i.Op = 18 := by simpa using e
   simp [e, inB]
  ·simp only [beq_eq_false_iff_ne, ne_eq] at e e2 e3
   rcases zft (i.Op == 19) with e4 | e4
   ·have e5 : i.Op = 19 := by simpa using e4
    simp [e5, inB]
   ·have e5 : i.Op ≠ 19 := by simpa using e4
    rw [e4, Eq.comm, inB, Bool.and_eq_false_iff]
    simp only [decide_eq_false_iff_not]
    omega
 refine OK.ite (fun e => ?_) (fun e16 => ?_)
 ·rw [ho] at e
  have e : 16 <= i.Op /\ i.Op <= 19 := by simpa [inB] using e
  exact OK.bind2 (zct _) (fun a _ => OK.ret (notLoop (by omega) (fun _ => hk)))
 refine OK.ite (fun e => ?_) (fun e20 => ?_)
 ·have e : i.Op = 20 := by simpa using e
  have hlp := hg.fine.loop hi e
  have ew : w64 ((p : Int) - i.D) = (((p : Int) - i.D).toNat : Int) := by rw [zI (by omega) (by omega)]; omega
  obtain ⟨hd, hd1, hd2⟩ := xG (xs := j.ca) (p := ((p : Int) - i.D).toNat) (by rw [h.lenC]; omega)
  refine OK.bind2 (zct _) (fun a _ => OK.ite (fun ha => OK.ret (fun h0 => absurd h0 (by simpa using ha))) (fun _ => ?_))
  refine OK.bind2 (OK.count (Q := fun o => match o with | .inl _ => ∀ q, q < 8 -> ziJ (k q) (hd q) | .inr r => r.2 ≠ 0) (fun t _ => ∀ q, q < t -> ziJ (k q) (hd q)) (fun q hq => by omega) (fun t s again ht hI kk => ?_) (fun _ hI => hI)) (fun o ho => ?_)
  ·unfold ql
   simp only [zl3 ht, ew, hd2, zbs]
   refine OK.bind2 (zkr _ _) (fun r hr => OK.ite (fun _ => OK.ret (by simp)) (fun hn => kk _ (fun q hq => ?_)))
   by_cases hqt : q < t
   ·exact hI q hqt
   ·obtain rfl : q = t := by omega
    exact hr (by simpa using hn)
  ·cases o with
   | inl _ =>
    refine OK.ret (fun _ => ⟨hk, fun i' hi' _ q hq x hx h1 h2 => ?_⟩)
    rw [hi] at hi'; cases hi'
    rw [hk1] at h1; cases h1
    rw [hd1] at h2; cases h2
    exact ho q hq
   | inr r => exact OK.ret (fun h0 => absurd h0 ho)
 refine OK.ite (fun e => ?_) (fun e21 => ?_)
 ·have e : i.Op = 21 := by simpa using e
  have him := zbL hr e
  obtain ⟨n, hn⟩ := zof him.1
  rw [hn]
  obtain ⟨l, hl, hl3⟩ := zho ⟨n, by omega⟩
  obtain ⟨sg, hs1, hs2, hs3⟩ := zgu ⟨n, by omega⟩
  have hl' : qV 1000 (n : Int) = some l := hl
  have hs1' : xH (n : Int) = some (sg, true) := hs1
  simp only [hl', zbs]
  have ec : w64 (1 + (l.length : Int)) = ((1 + l.length : Nat) : Int) := by rw [zI (by omega) (by omega)]; simp
  have ec1 : (1 : Int) = ((1 : Nat) : Int) := rfl
  have hcut : ∃ ys, cut (jY 8 k) 1 (w64 (1 + (l.length : Int))) = some ys := by
   rw [ec]
   exact ⟨_, zg3 (lo := 1) (by omega) (by rw [vU]; omega)⟩
  obtain ⟨ys, hys⟩ := hcut
  rw [hys]
  simp only [zbs]
  refine OK.bind2 (zh2 ⟨n, by omega⟩ hl ys) (fun r _ => ?_)
  unfold zaG
  simp only [hs1', zbs]
  refine OK.ret (notLoop (by omega) (fun _ => ?_))
  exact kw (WT.num ⟨by simp, by simpa using hs2, by simpa using hs3⟩)
 refine OK.ite (fun e => ?_) (fun e22 => ?_)
 ·have e : i.Op = 22 := by simpa using e
  exact OK.bind2 (zct _) (fun a _ => OK.ret (notLoop (by omega) (fun _ => hk)))
 simp only [beq_eq_false_iff_ne, ne_eq] at e0 e11 e12 e13 e14 e15 e20 e21 e22
 have e16' : ¬ (16 <= i.Op /\ i.Op <= 19) := by
  rw [ho] at e16
  intro h
  simp [inB, h] at e16
 refine OK.bind2 (zns (hk _ (by omega)).span hs.span) (fun r hr => ?_)
 rw [hD (by omega)]
 simp only [zbs]
 exact OK.bind2 (zct _) (fun a _ => OK.ret (notLoop (by omega) (fun _ => kw (WT.num hr))))
end Go.Proofs.YtgmmfjpmahcocaaGreatDoor

import Derived.Test.YtgmmfjpmahcocaaGreatDoorKSound2
import Derived.Test.YtgmmfjpmahcocaaGreatDoorKPot
set_option linter.unusedVariables false
set_option linter.unusedSimpArgs false
namespace Go.Proofs.YtgmmfjpmahcocaaGreatDoor
open Go.Sx
theorem zmk {code : List zc} (g : zen code) {p q : Nat} (h : Way code p q) (hlt : p < q) : ∀ a, zw code q a = true -> zw code p a = true \/ ∃ i, code[a]? = some i /\ (q : Int) = a - i.D := by
 intro a ha
 obtain ⟨ia, a1, a2, a3, a4, a5, a6, a7, a8⟩ := zb6 g ha
 by_cases hc : zw code p a = true
 ·exact .inl hc
 ·right
  refine ⟨ia, a1, ?_⟩
  have hc' : zw code p a = false := by simpa using hc
  obtain ⟨i, hi, hw⟩ := h
  rcases hw with ⟨h1, h2⟩ | ⟨h1, h2, h3⟩
  ·rcases Int.lt_or_le ((a : Int) - ia.D) q with h3 | h3
   ·exfalso
    have := (zZ a1 a2).2 (show (a : Int) - ia.D <= p /\ p <= a by omega)
    rw [hc'] at this; cases this
   ·omega
  ·rcases Int.lt_or_le ((a : Int) - ia.D) q with h4 | h4
   ·exfalso
    exact g.en p (zes.1 hi).1 ⟨i, hi, h1, h2, a, ia, q, a7, a1, a2, h3, ha, hc', by omega⟩
   ·omega
theorem zkd {code : List zc} (g : zen code) {back back' : Nat -> Int} (hf : Fit code back) {p q : Nat} (hp : p < code.length) (h : Way code p q) (hlt : p < q) (hb : ∀ a, a ≠ p -> back' a = back a) (hb2 : ∀ i, code[p]? = some i -> i.Op = 20 -> q = p + 1) (hb3 : ∀ i, code[p]? = some i -> i.Op ≠ 20 -> back' p = back p) :
  pot code back' q code.length + 1 <= pot code back p code.length := by
 refine zjm hp (fun t ht => zmA g hf hlt (zmk g h hlt) (fun a ha => ?_) ht)
 obtain ⟨ia, a1, a2, a3, a4, a5, a6, a7, a8⟩ := zb6 g ha
 have hfa := hf a ia a1 a2
 by_cases e : a = p
 ·subst e
  have := hb2 ia a1 a2
  omega
 ·rw [hb a e]
  exact ⟨rfl, hfa.1⟩
structure Run (m : zi) (j : ze) (M : zg) (p : Nat) : Prop where
 mod : M.mo = m
 at_ : M.at_ = p
 lt : p < m.Co.length
 known : At j p M.rg
 u : zgv M.rg
 fit : Fit m.Co M.tu
 wo : ∀ i, u64 (M.sc.Wo.wo i)
 ev : u64 M.Ev.A /\ u64 M.Ev.B
structure zhg (m : zi) (j : ze) : Prop where
 good : zen m.Co
 goodM : ziL m.Ms
 up : zh3 m m.Co.length j
 snd : Snd m m.Co.length j
theorem zda {M : zg} {i : zc} (hb : i.B = 8 \/ (0 <= i.B /\ i.B < 8)) : qc M i = some (zgw i M.rg) := by
 unfold qc zgw
 rcases zft (i.B == 8) with e | e
 ·rw [if_pos e, if_pos e]
 ·have : i.B ≠ 8 := by simpa using e
  rw [if_neg (by simp [e]), if_neg (by simp [e]), zf0 (by omega) (by omega)]; rfl
theorem zml {W : zR} (h : ∀ i, u64 (W.wo i)) (t : Int) : OK (xa W t) (fun r => u64 r.1) := by
 unfold xa
 refine OK.ite (fun _ => OK.ret ⟨by simp, by simp⟩) (fun hc => ?_)
 simp at hc
 have : ain 16 t = some t.toNat := by unfold ain; rw [if_pos ⟨hc.1, by omega⟩]
 rw [this]
 exact OK.ret (h _)
theorem zlq {W : zR} (h : ∀ i, u64 (W.wo i)) (t : Int) {v : Int} (hv : u64 v) : OK (jJ W t v) (fun r => ∀ i, u64 (r.2.wo i)) := by
 unfold jJ
 refine OK.ite (fun _ => OK.ret h) (fun hc => ?_)
 simp at hc
 have : ain 16 t = some t.toNat := by unfold ain; rw [if_pos ⟨hc.1, by omega⟩]
 rw [this]
 refine OK.ret (fun i => ?_)
 show u64 (zW W.wo _ v i)
 unfold zW
 split
 ·exact hv
 ·exact h i
theorem zmm (C : qg) (t : Int) : OK (qM C t) (fun r => u64 r.1) := by
 unfold qM
 refine OK.ite (fun _ => OK.ret ⟨by simp, by simp⟩) (fun hc => ?_)
 simp at hc
 have : ain 16 t = some t.toNat := by unfold ain; rw [if_pos ⟨hc.1, by omega⟩]
 rw [this]
 refine OK.ret ?_
 show u64 (zW C.cn _ _ _)
 unfold zW
 rw [if_pos rfl]
 exact xO _
structure Ran (m : zi) (i : zc) (p : Nat) (M : zg) (r : Int × zg) : Prop where
 mod : r.2.mo = M.mo
 st : r.2.sa = M.sa
 ev : r.2.Ev = M.Ev
 wo : ∀ i, u64 (r.2.sc.Wo.wo i)
 step : ∃ q : Nat, w64 (M.at_ + r.1) = q /\ Stp i p M.rg q r.2.rg /\ (i.Op ≠ 20 -> r.2.tu = M.tu /\ p < q) /\
  (i.Op = 20 -> (q = p + 1 /\ r.2.tu = zW M.tu p 0) \/ ((q : Int) = p - i.D /\ M.tu p < i.Imm /\ r.2.tu = zW M.tu p (M.tu p + 1)))
theorem zng {m : zi} {j : ze} (hS : zhg m j) {M : zg} {p : Nat} (h : Run m j M p) {i : zc} (hi : m.Co[p]? = some i) (h21 : i.Op ≠ 21) (h22 : i.Op ≠ 22) : OK (zT M i) (Ran m i p M) := by
 have hg := hS.good
 have hn := hg.n64
 have hr := hg.fine.right hi
 have hop := za4 hr
 have hA := zbl hr
 have hp := h.lt
 have hat := h.at_
 have one : w64 (M.at_ + 1) = ((p + 1 : Nat) : Int) := by rw [hat, zI (by omega) (by omega)]; simp
 have hA8 : ain 8 i.A = some i.A.toNat := zf0 hA.1 hA.2
 have hD : ¬ (15 <= i.Op /\ i.Op <= 20) -> ain 8 i.D = some i.D.toNat := fun h => zf0 (zdd hr h).1 (zdd hr h).2
 have plain : ∀ {R : Nat -> Int} {S : zt}, i.Op ≠ 20 -> (∀ t, u64 (S.Wo.wo t)) -> Stp i p M.rg (p + 1) R -> Ran m i p M (1, ⟨M.Ev, M.mo, S, R, M.tu, M.at_, M.sp, M.sa⟩) :=
  fun hne hw hs => ⟨rfl, rfl, rfl, hw, p + 1, one, hs, fun _ => ⟨rfl, by omega⟩, fun e => absurd e hne⟩
 unfold zT
 refine OK.ite (fun e => ?_) (fun e0 => ?_)
 ·have e : i.Op = 0 := by simpa using e
  rw [zda (qP hr (.inl (by omega))), hD (by omega)]
  exact OK.ret (plain (by omega) h.wo (.set e))
 refine OK.ite (fun e => ?_) (fun e11 => ?_)
 ·have e : i.Op = 11 := by simpa using e
  rw [zda (qP hr (.inl (by omega)))]
  simp only [zbs]
  refine OK.bind2 (zml h.wo _) (fun v hv => ?_)
  rw [hD (by omega)]
  exact OK.ret (plain (by omega) h.wo (.any v.1 (.inl e) hv))
 refine OK.ite (fun e => ?_) (fun e12 => ?_)
 ·have e : i.Op = 12 := by simpa using e
  rw [hA8, zda (qP hr (.inl (by omega)))]
  simp only [zbs]
  exact OK.bind2 (zlq h.wo _ (h.u _ (by omega))) (fun v hv => OK.ret (plain (by omega) hv (.store e)))
 refine OK.ite (fun e => ?_) (fun e13 => ?_)
 ·have e : i.Op = 13 := by simpa using e
  rw [hD (by omega)]
  simp only [zbs]
  refine OK.ite (fun _ => OK.ret ?_) (fun _ => OK.ret (plain (by omega) h.wo (.any _ (.inr e) h.ev.1)))
  have : zW (zW M.rg i.D.toNat M.Ev.A) i.D.toNat M.Ev.B = zW M.rg i.D.toNat M.Ev.B := by
   funext t
   unfold zW
   split <;> rfl
  rw [this]
  exact plain (by omega) h.wo (.any _ (.inr e) h.ev.2)
 refine OK.ite (fun e => ?_) (fun e14 => ?_)
 ·have e : i.Op = 14 := by simpa using e
  have him := zeP hr e
  rw [hD (by omega), jQ (x := i.Imm) him.1 (by omega)]
  exact OK.ret (plain (by omega) h.wo (.map e))
 refine OK.ite (fun e => ?_) (fun e15 => ?_)
 ·have e : i.Op = 15 := by simpa using e
  have hl : (zr i).2.1 = true := by rw [xx hr (by omega) (by omega)]
  have hlead := hg.fine.leads hi hl
  rw [xx hr (by omega) (by omega)] at hlead
  simp only at hlead
  have hJ := zcK (i := i) (by simp [xw, hr, inB]; omega)
  obtain ⟨q, hq⟩ := zof hlead.1
  refine OK.ret ⟨rfl, rfl, rfl, h.wo, q, ?_, .jump q e (by omega), fun _ => ⟨rfl, by omega⟩, fun e2 => by omega⟩
  show w64 (M.at_ + w64 (i.D + 1)) = _
  rw [hat, zI (x := i.D + 1) (by omega) (by omega), zI (by omega) (by omega)]
  omega
 refine OK.ite (fun e => ?_) (fun e20 => ?_)
 ·have e : i.Op = 20 := by simpa using e
  have hlp := hg.fine.loop hi e
  have hfit := h.fit p i hi e
  have ha64 : ain 64 M.at_ = some p := by rw [hat]; exact zl3 (by omega)
  rw [hA8, ha64]
  simp only [zbs]
  refine OK.bind2 (R := fun o => o = true -> M.tu p < i.Imm) (OK.ite (fun _ => OK.ret (fun h => of_decide_eq_true h)) (fun _ => OK.ret (fun h => by cases h))) (fun o ho => ?_)
  refine OK.ite (fun ht => OK.ret ?_) (fun _ => OK.ret ?_)
  ·have hlt := ho ht
   refine ⟨rfl, rfl, rfl, h.wo, ((p : Int) - i.D).toNat, ?_, .back _ e (by omega), fun hne => absurd e hne, fun _ => .inr ⟨by omega, hlt, ?_⟩⟩
   ·show w64 (M.at_ + w64 (0 - i.D)) = _
    rw [hat, zI (x := 0 - i.D) (by omega) (by omega), zI (by omega) (by omega)]
    omega
   ·show zW M.tu p (w64 (M.tu p + 1)) = _
    rw [zI (by omega) (by omega)]
  ·exact ⟨rfl, rfl, rfl, h.wo, p + 1, one, .on e, fun hne => absurd e hne, fun _ => .inl ⟨rfl, rfl⟩⟩
 simp only [beq_eq_false_iff_ne, ne_eq] at e0 e11 e12 e13 e14 e15 e20
 have hsb : i.B = 8 \/ (0 <= i.B /\ i.B < 8) := qP hr (by omega)
 have hus := zfj h.u hsb
 have hua := h.u i.A.toNat (by omega)
 rw [hA8, zda hsb]
 simp only [zbs]
 rw [zed hua hus]
 simp only [zbs]
 refine OK.ite (fun ho => ?_) (fun ho => ?_)
 ·simp at ho
  rw [hD (by omega)]
  exact OK.ret (plain (by omega) h.wo (.arith ho.1 ho.2))
 ·have h16 : 16 <= i.Op /\ i.Op <= 19 := by
   rw [Bool.and_eq_false_iff] at ho
   simp only [decide_eq_false_iff_not] at ho
   omega
  rw [zga]
  simp only [zbs]
  have hl : (zr i).2.1 = true := by rw [xx hr (by omega) (by omega)]
  have hlead := hg.fine.leads hi hl
  rw [xx hr (by omega) (by omega)] at hlead
  simp only at hlead
  have hJ := zcK (i := i) (by simp [xw, hr, inB]; omega)
  obtain ⟨q, hq⟩ := zof hlead.1
  refine OK.ite (fun ht => OK.ret ?_) (fun hf => OK.ret ?_)
  ·refine ⟨rfl, rfl, rfl, h.wo, q, ?_, .yes q h16.1 h16.2 ht (by omega), fun _ => ⟨rfl, by omega⟩, fun e2 => by omega⟩
   show w64 (M.at_ + w64 (i.D + 1)) = _
   rw [hat, zI (x := i.D + 1) (by omega) (by omega), zI (by omega) (by omega)]
   omega
  ·exact ⟨rfl, rfl, rfl, h.wo, p + 1, one, .no h16.1 h16.2 hf, fun _ => ⟨rfl, by omega⟩, fun e2 => by omega⟩
theorem zhh {code : List zc} {i : zc} {p q : Nat} {regs regs' : Nat -> Int} (hr : zO i = true) (hi : code[p]? = some i) (h : Stp i p regs q regs') (h20 : i.Op = 20 -> q = p + 1) : Way code p q := by
 have on : (zr i).2.2 = true -> Way code p (p + 1) := fun h => ⟨i, hi, .inl ⟨h, rfl⟩⟩
 have pl : ¬ (15 <= i.Op /\ i.Op <= 20) -> i.Op ≠ 22 -> (zr i).2.2 = true := fun h1 h2 => by rw [zfN hr h1]; simpa using h2
 have jm : ∀ {q : Nat}, 15 <= i.Op -> i.Op <= 19 -> (q : Int) = p + (i.D + 1) -> Way code p q := fun {q} h1 h2 h3 => by
  have := zcK (i := i) (by simp [xw, hr, inB]; omega)
  exact ⟨i, hi, .inr ⟨by rw [xx hr h1 h2], by rw [xx hr h1 h2]; show 0 < i.D + 1; omega, by rw [xx hr h1 h2]; exact h3⟩⟩
 cases h with
 | set e => exact on (pl (by omega) (by omega))
 | arith e1 e2 => exact on (pl (by omega) (by omega))
 | any v e hv => exact on (pl (by omega) (by omega))
 | store e => exact on (pl (by omega) (by omega))
 | map e => exact on (pl (by omega) (by omega))
 | jump q e1 e2 => exact jm (by omega) (by omega) e2
 | yes q e1 e2 e3 e4 => exact jm (by omega) (by omega) e4
 | no e1 e2 e3 => exact on (by rw [xx hr (by omega) (by omega)]; simp; omega)
 | back q e1 e2 => rw [h20 e1]; exact on (by rw [zcO hr e1])
 | on e => exact on (by rw [zcO hr e])
 | call v e hv => exact on (pl (by omega) (by omega))
def znh (m : zi) (j : ze) (M M' : zg) (p : Nat) : Prop := ∃ q, Run m j M' q /\ pot m.Co M'.tu q m.Co.length + 1 <= pot m.Co M.tu p m.Co.length /\
 ∃ i, m.Co[p]? = some i /\ ((zr i).2.1 = true /\ (q : Int) = p + (zr i).1 \/ (zr i).2.2 = true /\ (q : Int) = p + 1)
theorem Way.to {code : List zc} {p q : Nat} (h : Way code p q) : ∃ i, code[p]? = some i /\ ((zr i).2.1 = true /\ (q : Int) = p + (zr i).1 \/ (zr i).2.2 = true /\ (q : Int) = p + 1) := by
 obtain ⟨i, hi, h | h⟩ := h
 ·exact ⟨i, hi, .inr ⟨h.1, by omega⟩⟩
 ·exact ⟨i, hi, .inl ⟨h.1, h.2.2⟩⟩
theorem zje {m : zi} {j : ze} (hS : zhg m j) {M : zg} {p : Nat} (h : Run m j M p) {i : zc} (hi : m.Co[p]? = some i) {r : Int × zg} (hr : Ran m i p M r) {steps state : Int} :
  znh m j M ⟨r.2.Ev, r.2.mo, r.2.sc, r.2.rg, r.2.tu, w64 (M.at_ + r.1), steps, state⟩ p := by
 have hg := hS.good
 have hri := hg.fine.right hi
 obtain ⟨q, hq, hst, hne, h20⟩ := hr.step
 have hat := hS.snd.step p i _ h.lt hi h.known.1 h.known.2.choose_spec.1 M.rg q r.2.rg h.u h.known.2.choose_spec.2 hst
 have hql : q < m.Co.length := by
  have := (zes.1 hat.1).1
  rw [hS.up.ji.lenA] at this
  exact this
 have base : Fit m.Co r.2.tu -> Run m j ⟨r.2.Ev, r.2.mo, r.2.sc, r.2.rg, r.2.tu, w64 (M.at_ + r.1), steps, state⟩ q :=
  fun hf => ⟨by rw [<- h.mod]; exact hr.mod, hq, hql, hat, hst.u64s hri h.u, hf, hr.wo, by show u64 r.2.Ev.A /\ _; rw [hr.ev]; exact h.ev⟩
 by_cases e20 : i.Op = 20
 ·have hlp := hg.fine.loop hi e20
  have hfit := h.fit p i hi e20
  rcases h20 e20 with ⟨rfl, ht⟩ | ⟨hqd, hlt, ht⟩
  ·refine ⟨p + 1, base ?_, ?_, (zhh hri hi hst (fun _ => rfl)).to⟩
   ·intro a ia ha ho
    rw [ht]
    unfold zW
    split
    ·rename_i e; subst e
     rw [hi] at ha; cases ha
     exact ⟨Int.le_refl _, by omega⟩
    ·exact h.fit a ia ha ho
   ·show pot m.Co r.2.tu _ _ + 1 <= _
    refine zkd hg h.fit h.lt (zhh hri hi hst (fun _ => rfl)) (by omega) (fun a ha => ?_) (fun _ _ _ => rfl) (fun i' hi' hne => ?_)
    ·rw [ht]; unfold zW; rw [if_neg ha]
    ·rw [hi] at hi'; cases hi'; exact absurd e20 hne
  ·refine ⟨q, base ?_, ?_, i, hi, .inl (by rw [zcO hri e20]; exact ⟨rfl, by show (q : Int) = p + -i.D; omega⟩)⟩
   ·intro a ia ha ho
    rw [ht]
    unfold zW
    split
    ·rename_i e; subst e
     rw [hi] at ha; cases ha
     exact ⟨by omega, by omega⟩
    ·exact h.fit a ia ha ho
   ·show pot m.Co r.2.tu _ _ + 1 <= _
    refine zjm h.lt (fun t ht2 => zlt hg h.fit hi e20 hqd ?_ (fun b hb => ?_) hlt ht2)
    ·rw [ht]; unfold zW; rw [if_pos rfl]
    ·rw [ht]; unfold zW; rw [if_neg hb]
 ·obtain ⟨ht, hlt⟩ := hne e20
  refine ⟨q, base (by rw [ht]; exact h.fit), ?_, (zhh hri hi hst (fun e => absurd e e20)).to⟩
  show pot m.Co r.2.tu _ _ + 1 <= _
  refine zkd hg h.fit h.lt (zhh hri hi hst (fun e => absurd e e20)) hlt (fun a _ => by rw [ht]) (fun i' hi' ho => ?_) (fun _ _ _ => by rw [ht])
  rw [hi] at hi'; cases hi'; exact absurd ho e20
theorem zke : ∀ k : Fin 7, ∃ s, xH ((k : Nat) : Int) = some (s, true) /\ s.isAsked = decide ((k : Nat) <= 4) /\ 0 <= s.most /\ (((k : Nat) = 0 \/ (k : Nat) = 4 \/ (k : Nat) = 5) -> s.most = 18446744073709551615) /\ (((k : Nat) = 1 \/ (k : Nat) = 2 \/ (k : Nat) = 3) -> s.most = 1) /\ ((k : Nat) <= 4 -> 0 <= s.asks /\ s.asks < 5) := by
 intro k
 have h : ∀ k : Fin 7, ((xH ((k : Nat) : Int)).map (fun r => r.2 && (r.1.isAsked == decide ((k : Nat) <= 4)) && decide (0 <= r.1.most) && (!(decide ((k : Nat) = 0) || decide ((k : Nat) = 4) || decide ((k : Nat) = 5)) || r.1.most == 18446744073709551615) && (!(decide ((k : Nat) = 1) || decide ((k : Nat) = 2) || decide ((k : Nat) = 3)) || r.1.most == 1) && (!decide ((k : Nat) <= 4) || (decide (0 <= r.1.asks) && decide (r.1.asks < 5))))) = some true := by decide +kernel
 obtain ⟨⟨s, b⟩, h1, h2⟩ := Option.map_eq_some_iff.1 (h k)
 simp only [zae, Bool.or_eq_true, zdq, beq_iff_eq, Bool.not_eq_true', Bool.or_eq_false_iff, decide_eq_false_iff_not] at h2
 obtain ⟨⟨⟨⟨⟨rfl, h3⟩, h4⟩, h5⟩, h6⟩, h7⟩ := h2
 exact ⟨s, h1, h3, h4, fun h => h5.elim (fun h5 => by omega) id, fun h => h6.elim (fun h6 => by omega) id, fun h => h7.elim (fun h7 => by omega) id⟩
theorem zgk {m : zi} {j : ze} (hS : zhg m j) {M : zg} {p : Nat} (h : Run m j M p) {i : zc} (hi : m.Co[p]? = some i) (ho : i.Op = 21) {v : Int} (hv : ∀ s, xH i.Imm = some (s, true) -> 0 <= v /\ v <= s.most) {S : zt} (hS2 : ∀ t, u64 (S.Wo.wo t)) {steps state : Int} :
  znh m j M ⟨M.Ev, M.mo, S, zW M.rg 0 v, M.tu, w64 (M.at_ + 1), steps, state⟩ p := by
 have hn := hS.good.n64
 have hlt := h.lt
 have := zje hS h hi (r := (1, ⟨M.Ev, M.mo, S, zW M.rg 0 v, M.tu, M.at_, M.sp, M.sa⟩)) (steps := steps) (state := state)
  ⟨rfl, rfl, rfl, hS2, p + 1, by show w64 (M.at_ + 1) = _; rw [h.at_, zI (by omega) (by omega)]; simp, .call v ho hv, fun _ => ⟨rfl, by omega⟩, fun e => by omega⟩
 exact this
inductive zgl (m : zi) (j : ze) (M : zg) (p : Nat) (i : zc) (r : zA × zg) : Prop
 | ends : i.Op = 22 -> r.1.Ki = 4 -> r.2.sa = 2 -> Run m j r.2 p -> zgl m j M p i r
 | asks : i.Op = 21 -> i.Imm <= 4 -> r.1.Ki = 2 -> r.2.sa = 1 -> Run m j r.2 p -> r.2.tu = M.tu -> (r.1.It.Map ∈ m.Ms /\ 0 <= r.1.It.Op /\ r.1.It.Op < 5) -> zgl m j M p i r
 | goes : r.1.Ki = 1 \/ r.1.Ki = 3 -> r.2.sa = 0 -> znh m j M r.2 p -> zgl m j M p i r
theorem zjf {m : zi} {j : ze} (hS : zhg m j) {M : zg} {p : Nat} (h : Run m j M p) (h0 : M.sa = 0) {i : zc} (hi : m.Co[p]? = some i) : OK (qI 1000 M) (fun r => zgl m j M p i r /\ r.1.Pc = p) := by
 have hg := hS.good
 have hr := hg.fine.right hi
 have hA := zbl hr
 have hi2 : idx M.mo.Co M.at_ = some i := by
  rw [h.mod, h.at_]
  obtain ⟨x, hx1, hx2⟩ := xG h.lt
  rw [hi] at hx1; cases hx1; exact hx2
 have hrun : ∀ {steps state : Int}, Run m j ⟨M.Ev, M.mo, M.sc, M.rg, M.tu, M.at_, steps, state⟩ p := ⟨h.mod, h.at_, h.lt, h.known, h.u, h.fit, h.wo, h.ev⟩
 unfold qI
 refine OK.ite (fun e => by rw [h0] at e; cases e) (fun _ => OK.ite (fun e => by rw [h0] at e; cases e) (fun _ => ?_))
 rw [hi2]
 simp only [zbs]
 refine OK.ite (fun e => ?_) (fun e21 => ?_)
 ·have e : i.Op = 21 := by simpa using e
  have him := zbL hr e
  obtain ⟨n, hn⟩ := zof him.1
  obtain ⟨sg, s1, s2, s3, s4, s5, s6⟩ := zke ⟨n, by omega⟩
  have s1' : xH i.Imm = some (sg, true) := by rw [hn]; exact s1
  have s2' : sg.isAsked = decide (n <= 4) := s2
  refine OK.bind2 (R := fun r => zgl m j M p i r /\ r.1.Pc = p) ?_ (fun x hx => OK.ret hx)
  unfold vm ze9
  simp only [s1', zbs]
  refine OK.ite (fun ha => ?_) (fun ha => ?_)
  ·have h4 : n <= 4 := by rw [s2'] at ha; exact of_decide_eq_true ha
   obtain ⟨hany, x, hx, hsm⟩ := h.known
   have hk := hS.snd.handle p i x h.lt hi hany hx e (by omega)
   have hm := (hsm 1 (by omega)).2 hk
   have hw := hS.up.ji.wt p x hx 1 (by omega)
   have hb : 0 <= (x 1).Map /\ (x 1).Map < m.Ms.length := by
    rcases hw with hw | hw | hw
    ·rw [hw] at hk; simp [vI] at hk
    ·omega
    ·exact hw.2.2
   rw [h.mod]
   refine OK.bind (OK.get (by show 0 <= M.rg 1; omega) (by show M.rg 1 < _; omega) (fun mp hmp => ?_))
   obtain ⟨l, hl, _⟩ := zho ⟨n, by omega⟩
   have hl' : qV 1000 i.Imm = some l := by rw [hn]; exact hl
   rw [hl']
   simp only [zbs]
   refine OK.bind2 (R := fun _ => True) (OK.ite (fun _ => OK.ret trivial) (fun _ => OK.ret trivial)) (fun v _ => OK.ret ⟨.asks e (by omega) rfl rfl ?_ rfl ⟨zmg hmp, s6 h4⟩, h.at_⟩)
   have := hrun (steps := w64 (M.sp + 1)) (state := 1)
   rw [h.mod] at this
   exact this
  ·have h5 : n = 5 \/ n = 6 := by rw [s2'] at ha; have := of_decide_eq_false ha; omega
   refine OK.bind2 (R := fun o => (o.2.Ki = 1 \/ o.2.Ki = 3) /\ o.2.Pc = (p : Int) /\ o.1.sa = 0 /\ znh m j M ⟨o.1.Ev, o.1.mo, o.1.sc, o.1.rg, o.1.tu, w64 (o.1.at_ + 1), o.1.sp, o.1.sa⟩ p) ?_ (fun o ho => OK.ret ⟨.goes ho.1 ho.2.2.1 ho.2.2.2, ho.2.1⟩)
   refine OK.ite (fun e5 => ?_) (fun e5 => OK.ret ⟨.inr rfl, h.at_, h0, zgk hS h hi e (fun s hs => ?_) h.wo⟩)
   ·have e5 : n = 5 := by
     have : i.Imm = 5 := by simpa using e5
     omega
    refine OK.bind2 (zmm _ _) (fun v hv => OK.ret ⟨.inl rfl, h.at_, h0, zgk hS h hi e (S := ⟨M.sc.Wo, v.2.2⟩) (fun s hs => ?_) h.wo⟩)
    rw [s1'] at hs; cases hs
    have := s4 (.inr (.inr e5))
    exact ⟨hv.1, by have := hv.2; omega⟩
   ·rw [s1'] at hs; cases hs
    exact ⟨Int.le_refl _, s3⟩
 refine OK.ite (fun e => ?_) (fun e22 => ?_)
 ·have e : i.Op = 22 := by simpa using e
  rw [zf0 hA.1 hA.2]
  exact OK.ret ⟨.ends e rfl rfl hrun, h.at_⟩
 have e21 : i.Op ≠ 21 := by simpa using e21
 have e22 : i.Op ≠ 22 := by simpa using e22
 refine OK.bind2 (zng hS (hrun (steps := w64 (M.sp + 1)) (state := M.sa)) hi e21 e22) (fun r hr => OK.ret ⟨.goes (.inl rfl) (by show r.2.sa = 0; rw [hr.st]; exact h0) ?_, h.at_⟩)
 exact zje hS hrun hi hr
theorem zlr {h : Int} {r : zE} (hv : u64 r.Val) : OK (zbX h r) (fun v => u64 v /\ (h = 1 \/ h = 2 \/ h = 3 -> v <= 1)) := by
 unfold zbX
 refine OK.bind2 (R := fun o => o = true ↔ h = 0 \/ h = 4) ?_ (fun o ho => ?_)
 ·refine OK.ite (fun e => OK.ret ?_) (fun e => OK.ret ?_)
  ·have e : h = 0 := by simpa using e
   simp [e]
  ·have e : h ≠ 0 := by simpa using e
   simp [e]
 refine OK.ite (fun e => OK.ret ⟨hv, fun h3 => by have := ho.1 e; omega⟩) (fun _ => ?_)
 refine OK.bind2 (R := fun _ => True) (OK.ite (fun _ => OK.ret trivial) (fun _ => OK.ret trivial)) (fun o _ => ?_)
 have z : u64 0 /\ (h = 1 \/ h = 2 \/ h = 3 -> (0 : Int) <= 1) := ⟨⟨by simp, by simp⟩, fun _ => by simp⟩
 have o1 : u64 1 /\ (h = 1 \/ h = 2 \/ h = 3 -> (1 : Int) <= 1) := ⟨⟨by simp, by simp⟩, fun _ => by simp⟩
 exact OK.ite (fun _ => OK.ite (fun _ => OK.ret o1) (fun _ => OK.ret z)) (fun _ => OK.ite (fun _ => OK.ite (fun _ => OK.ret o1) (fun _ => OK.ret z)) (fun _ => OK.ret z))
theorem zkf {m : zi} {j : ze} (hS : zhg m j) {M : zg} {p : Nat} (h : Run m j M p) (h1 : M.sa = 1) {i : zc} (hi : m.Co[p]? = some i) (ho : i.Op = 21) (h4 : i.Imm <= 4) {res : zE} (hres : u64 res.Val) :
  OK (qN M res) (fun r => r.1 = 0 /\ r.2.sa = 0 /\ znh m j M r.2 p) := by
 have hr := hS.good.fine.right hi
 have him := zbL hr ho
 have hi2 : idx M.mo.Co M.at_ = some i := by
  rw [h.mod, h.at_]
  obtain ⟨x, hx1, hx2⟩ := xG h.lt
  rw [hi] at hx1; cases hx1; exact hx2
 unfold qN
 refine OK.ite (fun e => by rw [h1] at e; simp at e) (fun _ => ?_)
 rw [hi2]
 simp only [zbs]
 refine OK.bind2 (zlr hres) (fun v hv => OK.ret ⟨rfl, rfl, zgk hS h hi ho (fun s hs => ?_) h.wo⟩)
 obtain ⟨n, hn⟩ := zof him.1
 obtain ⟨sg, s1, s2, s3, s4, s5, s6⟩ := zke ⟨n, by omega⟩
 have s1' : xH i.Imm = some (sg, true) := by rw [hn]; exact s1
 rw [s1'] at hs; cases hs
 have hv1 := hv.1.1
 have hv2 := hv.1.2
 have : n = 0 \/ n = 4 \/ n = 1 \/ n = 2 \/ n = 3 := by omega
 rcases this with e | e | e | e | e
 ·have := s4 (.inl e); omega
 ·have := s4 (.inr (.inl e)); omega
 ·have := s5 (.inl e); have := hv.2 (by omega); omega
 ·have := s5 (.inr (.inl e)); have := hv.2 (by omega); omega
 ·have := s5 (.inr (.inr e)); have := hv.2 (by omega); omega
theorem zkg (m : zi) (h1 : m.Ms.length * 8 <= 140737488355328) (h2 : m.Co.length * 40 <= 140737488355328) : vz m = some m := by
 unfold vz room
 rw [if_pos (by simpa using h1)]
 simp only [zbs]
 rw [if_pos (by simpa using h2)]
 simp
theorem zmn {l : List Int} (h : l.length * 8 <= 140737488355328) : xW l = some l := by
 unfold xW room
 rw [if_pos (by simpa using h)]
 simp
theorem zmo {l : List zc} (h : l.length * 40 <= 140737488355328) : zH l = some l := by
 unfold zH room
 rw [if_pos (by simpa using h)]
 simp
theorem zhU (m : zi) : ∃ o p e, jC 1000 m = some (o, p, e) /\ ((e ≠ 0 /\ o = none) \/ (e = 0 /\ p = 0 /\ ∃ j, o = some j /\ zhg m j)) := by
 obtain ⟨⟨o, p, e⟩, h1, h2⟩ := zh4 m
 refine ⟨o, p, e, h1, ?_⟩
 by_cases he : e = 0
 ·subst he
  obtain ⟨j, hj, a, b, c, d⟩ := znD (zh8 m) h1 rfl
  exact .inr ⟨rfl, (h2.good rfl).1, j, hj, ⟨a, b, c, d⟩⟩
 ·exact .inl ⟨he, h2.bad he⟩
theorem zhi {m : zi} {o : Option ze} {p e : Int} (h : jC 1000 m = some (o, p, e)) : zbi 1000 m = some (p, e) := by
 unfold zbi
 rw [h]
 cases o <;> rfl
def ziz (m : zi) (E : xL) (C : qg) : zg := ⟨E, m, ⟨⟨fun _ => 0⟩, C⟩, fun _ => 0, fun _ => 0, 0, 0, 0⟩
theorem zn8 {m : zi} {j : ze} (hS : zhg m j) {E : xL} (hE : u64 E.A /\ u64 E.B) (C : qg) : Run m j (ziz m E C) 0 := by
 have hn1 := hS.good.n1
 refine ⟨rfl, rfl, hn1, hS.snd.zero _ (fun r _ => ⟨by simp [ziz], by simp [ziz]⟩), fun r _ => ⟨by simp [ziz], by simp [ziz]⟩, fun a i ha ho => ?_, fun t => ⟨by simp [ziz], by simp [ziz]⟩, hE⟩
 ·have := hS.good.fine.loop ha ho
  exact ⟨by simp [ziz], by simp [ziz]; omega⟩
end Go.Proofs.YtgmmfjpmahcocaaGreatDoor

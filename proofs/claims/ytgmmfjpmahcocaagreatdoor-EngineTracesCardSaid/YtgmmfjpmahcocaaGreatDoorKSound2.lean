import Derived.Test.YtgmmfjpmahcocaaGreatDoorKSound
set_option linter.unusedVariables false
set_option linter.unusedSimpArgs false
namespace Go.Proofs.YtgmmfjpmahcocaaGreatDoor
open Go.Sx
theorem zfi {regs : Nat -> Int} (h : zgv regs) {t : Nat} {v : Int} (hv : u64 v) : zgv (zW regs t v) := by
 intro r hr
 unfold zW
 split
 ·exact hv
 ·exact h r hr
theorem zfj {i : zc} {regs : Nat -> Int} (h : zgv regs) (hb : i.B = 8 \/ (0 <= i.B /\ i.B < 8)) : u64 (zgw i regs) := by
 unfold zgw
 split
 ·exact xO _
 ·rename_i e
  have : i.B ≠ 8 := by simpa using e
  exact h _ (by omega)
theorem Stp.u64s {i : zc} {p q : Nat} {regs regs' : Nat -> Int} (hr : zO i = true) (h : Stp i p regs q regs') (hu : zgv regs) : zgv regs' := by
 have hA := zbl hr
 cases h with
 | set e => exact zfi hu (zfj hu (qP hr (.inl (by omega))))
 | arith e1 e2 => exact zfi hu (znn (hu _ (by omega)) (zfj hu (qP hr (.inl (by omega)))))
 | any v e hv => exact zfi hu hv
 | store e => exact hu
 | map e =>
  have := zeP hr e
  exact zfi hu ⟨this.1, by omega⟩
 | jump q e1 e2 => exact hu
 | yes q e1 e2 e3 e4 => exact hu
 | no e1 e2 e3 => exact hu
 | back q e1 e2 => exact hu
 | on e => exact hu
 | call v e hv =>
  have him := zbL hr e
  obtain ⟨n, hn⟩ := zof him.1
  obtain ⟨sg, hs1, hs2, hs3⟩ := zgu ⟨n, by omega⟩
  have := hv sg (by rw [hn]; exact hs1)
  exact zfi hu ⟨this.1, by omega⟩
theorem zfN {i : zc} (hr : zO i = true) (h : ¬ (15 <= i.Op /\ i.Op <= 20)) : zr i = (0, false, i.Op != 22) := by
 unfold zr
 have hj : xw i = false := by
  simp only [xw, hr, inB, Bool.true_and, Bool.and_eq_false_iff, decide_eq_false_iff_not]
  omega
 have hl : zbf i = false := by
  simp only [zbf, hr, Bool.true_and, beq_eq_false_iff_ne]
  omega
 simp [hj, hl, hr]
theorem xx {i : zc} (hr : zO i = true) (h1 : 15 <= i.Op) (h2 : i.Op <= 19) : zr i = (i.D + 1, true, i.Op != 15) := by
 unfold zr
 have hj : xw i = true := by simp [xw, hr, inB, h1, h2]
 rw [if_pos hj]
theorem zcO {i : zc} (hr : zO i = true) (h : i.Op = 20) : zr i = (-i.D, true, true) := by
 unfold zr
 have hj : xw i = false := by simp [xw, inB, h]
 have hl : zbf i = true := by simp [zbf, hr, h]
 simp [hj, hl]
def At (j : ze) (q : Nat) (regs : Nat -> Int) : Prop := j.any[q]? = some true /\ ∃ x, j.ca[q]? = some x /\ zhr x regs
theorem At.grow {j j' : ze} {q : Nat} {regs : Nat -> Int} (h : At j q regs) (hu : zgv regs) (hg : zdy j j') : At j' q regs := by
 obtain ⟨h1, x, h2, h3⟩ := h
 obtain ⟨x', h4, h5⟩ := hg.grow q x h1 h2
 exact ⟨hg.keep q h1, x', h4, h5.sems hu h3⟩
theorem ziS {m : zi} {j : ze} (h : JI m j) {p : Nat} (hp : p < m.Co.length) {k : Nat -> za} (hk : ∀ r, r < 8 -> WT m.Ms.length (k r)) :
  OK (zD j (p : Int) k) (fun j' => JI m j' /\ zdy j j' /\ ∀ regs, zgv regs -> zhr k regs -> At j' p regs) :=
 (zlx h hp hk).mono (fun j' ⟨h1, _, _, h4, h5, x', h6, h7⟩ => ⟨h1, h4, fun regs hu hs => ⟨h5, x', h6, h7.sems hu hs⟩⟩)
theorem zmG {m : zi} {j : ze} (h : JI m j) (hg : zen m.Co) {p : Nat} (hp : p < m.Co.length) {i : zc} (hi : m.Co[p]? = some i) {k0 k : Nat -> za} (hk : ∀ r, r < 8 -> WT m.Ms.length (k r)) (hk0 : ∀ r, r < 8 -> WT m.Ms.length (k0 r)) (hlv : zg5 m i k0 k) :
  OK (jB j (p : Int) k) (fun j' => zdy j j' /\ ∀ regs q regs', zgv regs -> zhr k0 regs -> Stp i p regs q regs' -> (i.Op = 20 -> q = p + 1) -> At j' q regs') := by
 have hn := hg.n64
 have hr := hg.fine.right hi
 have hi2 : idx m.Co (p : Int) = some i := by
  obtain ⟨x, hx1, hx2⟩ := xG hp
  rw [hi] at hx1; cases hx1; exact hx2
 have e1 : w64 ((p : Int) + 1) = ((p + 1 : Nat) : Int) := by rw [zI (by omega) (by omega)]; simp
 unfold jB
 rw [h.mod, hi2]
 simp only [zcL, zbs]
 refine OK.ite (fun hc => OK.bind2 (R := fun j' => zdy j j' /\ ∀ regs q regs', zgv regs -> zhr k0 regs -> Stp i p regs q regs' -> (i.Op = 20 -> q = p + 1) -> At j' q regs') (OK.ite (fun hon => ?_) (fun hon => OK.ret ?_)) (fun o ho => OK.ret ho)) (fun hc => ?_)
 ·
  rw [e1]
  refine OK.bind2 (ziS h (hg.fine.on hi hon) hk) (fun j' ⟨_, h2, h3⟩ => OK.ret ⟨h2, fun regs q regs' hu hs hst hb => ?_⟩)
  have hu' := hst.u64s hr hu
  by_cases hop : 15 <= i.Op /\ i.Op <= 20
  ·have h20 : i.Op = 20 := by
    by_cases e : i.Op = 20
    ·exact e
    ·exfalso
     rw [xx hr hop.1 (by omega)] at hc
     have := za4 hr
     have hD := zcK (i := i) (by simp [xw, hr, inB]; omega)
     simp at hc
     omega
   rw [hb h20]
   refine h3 regs' hu' ?_
   rw [hlv.same hop.1 hop.2]
   cases hst with
   | on _ => exact hs
   | back q e1 e2 => exact hs
   | _ => omega
  ·have hq : q = p + 1 := by cases hst <;> first | rfl | omega
   rw [hq]
   exact h3 regs' hu' (hlv.plain p regs q regs' hop hu hs hst)
 ·
  refine ⟨zdy.refl j, fun regs q regs' hu hs hst hb => ?_⟩
  exfalso
  have hon : (zr i).2.2 = false := by simpa using hon
  by_cases hop : 15 <= i.Op /\ i.Op <= 20
  ·by_cases e : i.Op = 20
   ·rw [zcO hr e] at hon; cases hon
   ·rw [xx hr hop.1 (by omega)] at hc
    have hD := zcK (i := i) (by simp [xw, hr, inB]; omega)
    simp at hc
    omega
  ·rw [zfN hr hop] at hon
   have : i.Op = 22 := by simpa using hon
   cases hst <;> omega
 have hl1 : (zr i).2.1 = true /\ 0 <= (zr i).1 := by simp at hc; exact ⟨hc.1, by omega⟩
 have hop : 15 <= i.Op /\ i.Op <= 19 := by
  rcases zjl hl1.1 with h1 | h1
  ·exact ⟨h1.2.1, h1.2.2.1⟩
  ·omega
 have hgo := xx hr hop.1 hop.2
 have hlead := hg.fine.leads hi hl1.1
 rw [hgo] at hlead |-
 simp only at hlead |-
 obtain ⟨q1, hq1⟩ := zof hlead.1
 have eq1 : w64 ((p : Int) + (i.D + 1)) = (q1 : Int) := by rw [zI (by omega) (by omega), hq1]
 have hsame := hlv.same hop.1 (by omega)
 subst hsame
 refine OK.ite (fun hj => ?_) (fun hj => ?_)
 ·have h15 : i.Op = 15 := by simpa using hj
  rw [eq1]
  refine OK.bind2 (ziS h (by omega) hk) (fun j' ⟨_, h2, h3⟩ => OK.ret ⟨h2, fun regs q regs' hu hs hst hb => ?_⟩)
  cases hst with
  | jump q e1 e2 =>
   have : q = q1 := by omega
   rw [this]
   exact h3 _ hu hs
  | _ => omega
 have h16 : 16 <= i.Op := by
  have : i.Op ≠ 15 := by simpa using hj
  omega
 have hon : (zr i).2.2 = true := by rw [hgo]; simpa using hj
 have hs := qP hr (.inr ⟨h16, hop.2⟩)
 have hA := zbl hr
 have hnum := hlv.nums h16 hop.2
 rw [zeF hs]
 simp only [zbs]
 have hsw := zcu hs hk
 refine OK.bind2 (OK.count (fun t s => JI m s /\ zdy j s /\ (0 < t -> ∀ regs, zgv regs -> zhr k regs -> hl i.Op (regs i.A.toNat) (zgw i regs) = true -> At s q1 regs) /\ (1 < t -> ∀ regs, zgv regs -> zhr k regs -> hl i.Op (regs i.A.toNat) (zgw i regs) = false -> At s (p + 1) regs))
  ⟨h, zdy.refl j, fun h => by omega, fun h => by omega⟩ (fun t s again ht hI kk => ?_) (fun s hI => hI)) (fun j' hj' => OK.ret ⟨hj'.2.1, fun regs q regs' hu hs hst hb => ?_⟩)
 ·unfold zV
  refine OK.bind (OK.getN (by simpa using ht) (fun x hx => ?_))
  have ht2 : t = 0 /\ x = true \/ t = 1 /\ x = false := by
   have : t = 0 \/ t = 1 := by omega
   rcases this with rfl | rfl
   ·left; simp at hx; exact ⟨rfl, hx⟩
   ·right; simp at hx; exact ⟨rfl, hx⟩
  refine OK.bind2 (R := fun (o : Int) => ∃ q' : Nat, o = (q' : Int) /\ q' < m.Co.length /\ (x = true -> q' = q1) /\ (x = false -> q' = p + 1)) ?_ (fun o ho => ?_)
  ·refine OK.ite (fun hx => OK.ret ⟨p + 1, e1, hg.fine.on hi hon, fun h => by simp [h] at hx, fun _ => rfl⟩) (fun hx => OK.ret ⟨q1, eq1, by omega, fun _ => rfl, fun h => by simp [h] at hx⟩)
  obtain ⟨q', rfl, hq', hqt, hqf⟩ := ho
  rw [zf0 hA.1 hA.2]
  simp only [zbs]
  refine OK.bind2 (R := fun r => SW r.1 /\ ∀ regs, zgv regs -> zhr k regs -> hl i.Op (regs i.A.toNat) (zgw i regs) = x -> r.2 = true /\ inS r.1 (regs i.A.toNat)) ?_ (fun r hr2 => ?_)
  ·obtain ⟨r0, hr0, hr1⟩ := zgr (op := i.Op) (h := x) (hk i.A.toNat (by omega)).span hsw.span
   rw [hr0]
   refine OK.ret ⟨hr1, fun regs hu hsm hh => ?_⟩
   have hx := (hsm i.A.toNat (by omega)).1 hnum.1
   have hy := (ziP (regs := regs) hs hsm).1 hnum.2
   have := zkB (op := i.Op) (hk i.A.toNat (by omega)).span hsw.span hx hy h16 hop.2
   rw [show (if i.B == 8 then zp i.Imm else regs i.B.toNat) = zgw i regs from rfl, hh] at this
   have hfin := znD this hr0
   exact hfin
  have add : ∀ {s' : ze}, JI m s' -> zdy s s' -> ((∀ regs, zgv regs -> zhr k regs -> hl i.Op (regs i.A.toNat) (zgw i regs) = x -> At s' q' regs)) -> OK (again s') (fun s => JI m s /\ zdy j s /\ (0 < 2 -> ∀ regs, zgv regs -> zhr k regs -> hl i.Op (regs i.A.toNat) (zgw i regs) = true -> At s q1 regs) /\ (1 < 2 -> ∀ regs, zgv regs -> zhr k regs -> hl i.Op (regs i.A.toNat) (zgw i regs) = false -> At s (p + 1) regs)) := by
   intro s' hs' hgr hat
   refine kk s' ⟨hs', hI.2.1.trans hgr, fun _ regs hu hsm hh => ?_, fun h1 regs hu hsm hh => ?_⟩
   ·rcases ht2 with ⟨rfl, hxx⟩ | ⟨rfl, hxx⟩
    ·rw [<- hqt hxx]
     exact hat regs hu hsm (by rw [hh, hxx])
    ·exact (hI.2.2.1 (by omega) regs hu hsm hh).grow hu hgr
   ·rcases ht2 with ⟨rfl, hxx⟩ | ⟨rfl, hxx⟩
    ·omega
    ·rw [<- hqf hxx]
     exact hat regs hu hsm (by rw [hh, hxx])
  refine OK.ite (fun _ => ?_) (fun hf => ?_)
  ·simp only [vQ, zbs]
   refine OK.bind2 (ziS hI.1 hq' (zcv hk (WT.num hr2.1))) (fun s' ⟨a1, a2, a3⟩ => add a1 a2 (fun regs hu hsm hh => a3 regs hu (fun r hr => ?_)))
   unfold zW
   split
   ·rename_i e
    rw [e]
    exact zdQ (hr2.2 regs hu hsm hh).2
   ·exact hsm r hr
  ·refine add hI.1 (zdy.refl s) (fun regs hu hsm hh => ?_)
   have := (hr2.2 regs hu hsm hh).1
   rw [hf] at this; cases this
 ·cases hst with
  | yes q e1 e2 e3 e4 =>
   have : q = q1 := by omega
   rw [this]
   exact hj'.2.2.1 (by simp) _ hu hs e3
  | no e1 e2 e3 => exact hj'.2.2.2 (by simp) _ hu hs e3
  | _ => omega
structure Snd (m : zi) (n : Nat) (j : ze) : Prop where
 zero : ∀ regs, zgv regs -> At j 0 regs
 step : ∀ (p : Nat) (i : zc) (x : Nat -> za), p < n -> m.Co[p]? = some i -> j.any[p]? = some true -> j.ca[p]? = some x -> ∀ regs q regs', zgv regs -> zhr x regs -> Stp i p regs q regs' -> At j q regs'
 handle : ∀ (p : Nat) (i : zc) (x : Nat -> za), p < n -> m.Co[p]? = some i -> j.any[p]? = some true -> j.ca[p]? = some x -> i.Op = 21 -> i.Imm <= 4 -> (x 1).Ki = 2
theorem zly {m : zi} {j : ze} {n : Nat} (h : zh3 m n j) (h2 : Snd m n j) (hg : zen m.Co) (hn : n < m.Co.length) (again : ze -> Option (ze ⊕ ((Option ze) × Int × Int)))
  {Q : (ze ⊕ ((Option ze) × Int × Int)) -> Prop} (hk : ∀ j', zh3 m (n + 1) j' -> Snd m (n + 1) j' -> OK (again j') Q) (he : ∀ e, e ≠ 0 -> Q (.inr (none, (n : Int), e))) : OK (zL 1000 n again j) Q := by
 unfold zL
 obtain ⟨a, ha, ha2⟩ := xG (xs := j.any) (p := n) (by rw [h.ji.lenA]; exact hn)
 simp only [ha2, zbs]
 refine OK.ite (fun hf => ?_) (fun hf => ?_)
 ·have hf : a = false := by simpa using hf
  have no : ∀ {p : Nat}, p < n + 1 -> j.any[p]? = some true -> p < n := by
   intro p hp hany
   by_cases e : p = n
   ·subst e; rw [ha, hf] at hany; cases hany
   ·omega
  exact hk j ⟨h.ji, h.zero, h.clos, fun p i hp hi ho hany => h.fits p i (no hp hany) hi ho hany⟩
   ⟨h2.zero, fun p i x hp hi hany hx => h2.step p i x (no hp hany) hi hany hx, fun p i x hp hi hany hx => h2.handle p i x (no hp hany) hi hany hx⟩
 have hat : j.any[n]? = some true := by rw [ha]; simpa using hf
 refine OK.bind2 (zjn (zjk h.ji hg hn) (zlw h.ji hg hn)) (fun j1 hj1 => ?_)
 obtain ⟨⟨hj1, ha1, hc1⟩, hw1⟩ := hj1
 refine OK.bind2 (zjn (zku hj1 hg hn) (znq hj1 hg hn)) (fun r hr => ?_)
 refine OK.ite (fun e => OK.ret (he _ (by simpa using e))) (fun e => ?_)
 obtain ⟨hr1, hr2⟩ := hr
 have hr1 := hr1 (by simpa using e)
 have hr2 := hr2 (by simpa using e)
 obtain ⟨i0, hi0, _⟩ := xG hn
 obtain ⟨k0, hk0, _⟩ := xG (xs := j1.ca) (p := n) (by rw [hj1.lenC]; exact hn)
 have hlv := hr2 i0 k0 hi0 hk0
 have g1 : zdy j j1 := ⟨fun q x hq hx => by
  by_cases e : q = n
  ·subst e; exact hw1 x hx
  ·exact ⟨x, by rw [hc1 q e]; exact hx, zb7.refl x⟩, fun q hq => by rw [ha1]; exact hq⟩
 refine OK.bind2 (zjn (zkt hj1 hg hn hr1.1) (zmG hj1 hg hn hi0 hr1.1 (hj1.wt n k0 hk0) hlv)) (fun j2 hj2 => ?_)
 obtain ⟨⟨hj2, hw⟩, g2, hst2⟩ := hj2
 have hcl : zm5 m.Co j1 := by intro q a ia; rw [ha1]; exact h.clos q a ia
 have hup : zh3 m (n + 1) j2 := by
  refine ⟨hj2, hw.keep _ (by rw [ha1]; exact h.zero), hcl.ways hg (by rw [ha1]; exact hat) hw, fun p i hp hi ho hany q hq x hh hx hhd => ?_⟩
  have hlp := hg.fine.loop hi ho
  rw [(hw.same p (by omega)).1] at hx
  rw [(hw.same _ (by omega)).1] at hhd
  rw [(hw.same p (by omega)).2, ha1] at hany
  by_cases e : p = n
  ·subst e
   exact hr1.2 i hi ho q hq x hh hx hhd
  ·rw [hc1 p e] at hx
   rw [hc1 _ (by omega)] at hhd
   exact h.fits p i (by omega) hi ho hany q hq x hh hx hhd
 refine hk j2 hup ⟨fun regs hu => ((h2.zero regs hu).grow hu g1).grow hu g2, fun p i x hp hi hany hx regs q regs' hu hs hst => ?_, fun p i x hp hi hany hx ho him => ?_⟩
 ·have hr := hg.fine.right hi
  by_cases e : p = n
  ·subst e
   obtain rfl : i = i0 := by rw [hi] at hi0; exact Option.some.inj hi0
   have hx2 := hx
   rw [(hw.same p (Nat.le_refl _)).1, hk0] at hx2; cases hx2
   by_cases hb : i.Op = 20 -> q = p + 1
   ·exact hst2 regs q regs' hu hs hst hb
   ·
    have ho : i.Op = 20 := Classical.byContradiction (fun hne => hb (fun e => absurd e hne))
    have hlp := hg.fine.loop hi ho
    have hq : (q : Int) = p - i.D /\ regs' = regs := by
     cases hst with
     | back q e1 e2 => exact ⟨e2, rfl⟩
     | on e1 => exact absurd (fun _ => rfl) hb
     | _ => omega
    obtain ⟨hq, rfl⟩ := hq
    have hany2 := hup.clos p p i hany hi ho (by omega) (Nat.le_refl _)
    have hqn : ((p : Int) - i.D).toNat = q := by omega
    rw [hqn] at hany2
    obtain ⟨hd, hd1, _⟩ := xG (xs := j2.ca) (p := q) (by rw [hj2.lenC]; omega)
    exact ⟨hany2, hd, hd1, fun r hr => zlv (hup.fits p i (by omega) hi ho hany r hr _ hd hx (by rw [hqn]; exact hd1)) (hs r hr)⟩
  ·have hx2 := hx
   rw [(hw.same p (by omega)).1, hc1 p e] at hx2
   have hany2 := hany
   rw [(hw.same p (by omega)).2, ha1] at hany2
   have := h2.step p i x (by omega) hi hany2 hx2 regs q regs' hu hs hst
   exact (this.grow (hst.u64s hr hu) g1).grow (hst.u64s hr hu) g2
 ·by_cases e : p = n
  ·subst e
   obtain rfl : i = i0 := by rw [hi] at hi0; exact Option.some.inj hi0
   rw [(hw.same p (Nat.le_refl _)).1, hk0] at hx; cases hx
   exact hlv.handle ho him
  ·rw [(hw.same p (by omega)).1, hc1 p e] at hx
   rw [(hw.same p (by omega)).2, ha1] at hany
   exact h2.handle p i x (by omega) hi hany hx ho him
theorem zh8 (m : zi) : OK (jC 1000 m) (fun r => r.2.2 = 0 -> ∃ j, r.1 = some j /\ zen m.Co /\ ziL m.Ms /\ zh3 m m.Co.length j /\ Snd m m.Co.length j) := by
 unfold jC
 refine OK.bind2 (ziM _) (fun g hgm => ?_)
 refine OK.ite (fun _ => OK.ret (fun h => by simp at h)) (fun hgt => ?_)
 have hgm := hgm.1 (by simpa using hgt)
 obtain ⟨r, h1, h2, h3, h4⟩ := zgj m.Co
 simp only [h1, zbs]
 refine OK.ite (fun hr => OK.ret (fun h => absurd h (by simpa using hr))) (fun hr => ?_)
 have hg := (h3 (by simpa using hr)).2
 have hn := hg.n64
 have hn1 := hg.n1
 refine OK.bind2 (R := fun o => o = ze.mk m (List.replicate m.Co.length (fun _ => vI)) (List.replicate m.Co.length false) []) ?_ (fun o ho => ?_)
 ·refine OK.bind (OK.mkl (by omega) (by simp; omega) ?_)
  refine OK.bind (OK.mkl (by omega) (by simp; omega) (OK.ret ?_))
  simp [vI]
 subst ho
 simp only [zfJ hg, zbs]
 have e0 : idx (List.replicate m.Co.length false) 0 = some false := by
  have := zdL (xs := List.replicate m.Co.length false) (i := 0) (by simp; omega)
  simpa using this
 rw [e0]
 simp only [zbs]
 refine OK.bind2 (OK.count (Q := fun o => match o with | .inl j => zh3 m m.Co.length j /\ Snd m m.Co.length j | .inr r => r.2.2 ≠ 0) (fun i s => zh3 m i s /\ Snd m i s) ⟨?_, ⟨fun regs _ => ?_, fun p i x hp => by omega, fun p i x hp => by omega⟩⟩ (fun i s again hi hI k => zly hI.1 hI.2 hg hi again (fun j' a b => k j' ⟨a, b⟩) (fun e he => he)) (fun s hI => hI)) (fun o ho => ?_)
 ·simpa using zmy hg
 ·obtain ⟨x, hx, _⟩ := xG (xs := List.replicate m.Co.length (fun _ : Nat => vI)) (p := 0) (by simp; omega)
  refine ⟨?_, x, by simpa using hx, fun r _ => ?_⟩
  ·have : 0 < m.Co.length := by omega
   simp [this]
  ·have e : x = fun _ => vI := by
    rw [List.getElem?_replicate] at hx
    split at hx
    ·exact (Option.some.inj hx).symm
    ·cases hx
   rw [e]
   exact zhq _
 ·cases o with
  | inl j => exact OK.ret (fun _ => ⟨j, rfl, hg, hgm, ho.1, ho.2⟩)
  | inr r => exact OK.ret (fun h => absurd h ho)
end Go.Proofs.YtgmmfjpmahcocaaGreatDoor

/- Texts KSound2, KEng of this proof. -/
import Derived.Test.YtbmknhpfkpmigaaGreatDoorKArith
set_option linter.unusedVariables false
set_option linter.unusedSimpArgs false
namespace Go.Proofs.YtbmknhpfkpmigaaGreatDoor
open Go.Sx
theorem zfB {regs : Nat -> Int} (h : zgZ regs) {t : Nat} {v : Int} (hv : u64 v) : zgZ (jf regs t v) := by
 intro r hr
 unfold jf
 split
 ·exact hv
 ·exact h r hr
theorem zfC {i : zc} {regs : Nat -> Int} (h : zgZ regs) (hb : i.B = 8 \/ (0 <= i.B /\ i.B < 8)) : u64 (zg0 i regs) := by
 unfold zg0
 split
 ·exact xn _
 ·rename_i e
  have : i.B ≠ 8 := by simpa using e
  exact h _ (by omega)
theorem Stp.u64s {i : zc} {p q : Nat} {regs regs' : Nat -> Int} (hr : qe i = true) (h : Stp i p regs q regs') (hu : zgZ regs) : zgZ regs' := by
 have hA := zbH hr
 cases h with
 | set e => exact zfB hu (zfC hu (jU hr (.inl (by omega))))
 | arith e1 e2 => exact zfB hu (zpl (hu _ (by omega)) (zfC hu (jU hr (.inl (by omega)))))
 | any v e hv => exact zfB hu hv
 | store e => exact hu
 | map e =>
  have := zfa hr e
  exact zfB hu ⟨this.1, by omega⟩
 | jump q e1 e2 => exact hu
 | yes q e1 e2 e3 e4 => exact hu
 | no e1 e2 e3 => exact hu
 | back q e1 e2 => exact hu
 | on e => exact hu
 | call v e hv =>
  have him := zbX hr e
  obtain ⟨n, hn⟩ := zof him.1
  obtain ⟨sg, hs1, hs2, hs3⟩ := zgT ⟨n, by omega⟩
  have := hv sg (by rw [hn]; exact hs1)
  exact zfB hu ⟨this.1, by omega⟩
theorem zfZ {i : zc} (hr : qe i = true) (h : ¬ (15 <= i.Op /\ i.Op <= 20)) : zr i = (0, false, i.Op != 22) := by
 unfold zr
 have hj : vf i = false := by
  simp only [vf, hr, inB, Bool.true_and, Bool.and_eq_false_iff, decide_eq_false_iff_not]
  omega
 have hl : zbA i = false := by
  simp only [zbA, hr, Bool.true_and, beq_eq_false_iff_ne]
  omega
 simp [hj, hl, hr]
theorem vg {i : zc} (hr : qe i = true) (h1 : 15 <= i.Op) (h2 : i.Op <= 19) : zr i = (i.D + 1, true, i.Op != 15) := by
 unfold zr
 have hj : vf i = true := by simp [vf, hr, inB, h1, h2]
 rw [if_pos hj]
theorem zdk {i : zc} (hr : qe i = true) (h : i.Op = 20) : zr i = (-i.D, true, true) := by
 unfold zr
 have hj : vf i = false := by simp [vf, inB, h]
 have hl : zbA i = true := by simp [zbA, hr, h]
 simp [hj, hl]
def At (j : zf) (q : Nat) (regs : Nat -> Int) : Prop := j.any[q]? = some true /\ ∃ x, j.ca[q]? = some x /\ zh3 x regs
theorem At.grow {j j' : zf} {q : Nat} {regs : Nat -> Int} (h : At j q regs) (hu : zgZ regs) (hg : zdV j j') : At j' q regs := by
 obtain ⟨h1, x, h2, h3⟩ := h
 obtain ⟨x', h4, h5⟩ := hg.grow q x h1 h2
 exact ⟨hg.keep q h1, x', h4, h5.sems hu h3⟩
theorem zjH {m : zj} {j : zf} (h : JI m j) {p : Nat} (hp : p < m.Co.length) {k : Nat -> za} (hk : ∀ r, r < 8 -> WT m.Ms.length (k r)) :
  OK (zG j (p : Int) k) (fun j' => JI m j' /\ zdV j j' /\ ∀ regs, zgZ regs -> zh3 k regs -> At j' p regs) :=
 (zng h hp hk).mono (fun j' ⟨h1, _, _, h4, h5, x', h6, h7⟩ => ⟨h1, h4, fun regs hu hs => ⟨h5, x', h6, h7.sems hu hs⟩⟩)
theorem zou {m : zj} {j : zf} (h : JI m j) (hg : ze7 m.Co) {p : Nat} (hp : p < m.Co.length) {i : zc} (hi : m.Co[p]? = some i) {k0 k : Nat -> za} (hk : ∀ r, r < 8 -> WT m.Ms.length (k r)) (hk0 : ∀ r, r < 8 -> WT m.Ms.length (k0 r)) (hlv : zhC m i k0 k) :
  OK (jE j (p : Int) k) (fun j' => zdV j j' /\ ∀ regs q regs', zgZ regs -> zh3 k0 regs -> Stp i p regs q regs' -> (i.Op = 20 -> q = p + 1) -> At j' q regs') := by
 have hn := hg.n64
 have hr := hg.fine.right hi
 have hi2 : idx m.Co (p : Int) = some i := by
  obtain ⟨x, hx1, hx2⟩ := vz hp
  rw [hi] at hx1; cases hx1; exact hx2
 have e1 : w64 ((p : Int) + 1) = ((p + 1 : Nat) : Int) := by rw [zO (by omega) (by omega)]; simp
 unfold jE
 rw [h.mod, hi2]
 simp only [zdh, zbs]
 refine OK.ite (fun hc => OK.bind2 (R := fun j' => zdV j j' /\ ∀ regs q regs', zgZ regs -> zh3 k0 regs -> Stp i p regs q regs' -> (i.Op = 20 -> q = p + 1) -> At j' q regs') (OK.ite (fun hon => ?_) (fun hon => OK.ret ?_)) (fun o ho => OK.ret ho)) (fun hc => ?_)
 ·
  rw [e1]
  refine OK.bind2 (zjH h (hg.fine.on hi hon) hk) (fun j' ⟨_, h2, h3⟩ => OK.ret ⟨h2, fun regs q regs' hu hs hst hb => ?_⟩)
  have hu' := hst.u64s hr hu
  by_cases hop : 15 <= i.Op /\ i.Op <= 20
  ·have h20 : i.Op = 20 := by
    by_cases e : i.Op = 20
    ·exact e
    ·exfalso
     rw [vg hr hop.1 (by omega)] at hc
     have := zbr hr
     have hD := zdg (i := i) (by simp [vf, hr, inB]; omega)
     simp at hc
     omega
   rw [hb h20]
   refine h3 regs' hu' ?_
   rw [hlv.same hop.1 hop.2]
   cases hst with
   | on _ => exact hs
   | back q e1 e2 => exact hs
   | _ => omega
  ·have hq : q = p + 1 := by cases hst <;> first | rfl | omega
   rw [hq]
   exact h3 regs' hu' (hlv.plain p regs q regs' hop hu hs hst)
 ·
  refine ⟨zdV.refl j, fun regs q regs' hu hs hst hb => ?_⟩
  exfalso
  have hon : (zr i).2.2 = false := by simpa using hon
  by_cases hop : 15 <= i.Op /\ i.Op <= 20
  ·by_cases e : i.Op = 20
   ·rw [zdk hr e] at hon; cases hon
   ·rw [vg hr hop.1 (by omega)] at hc
    have hD := zdg (i := i) (by simp [vf, hr, inB]; omega)
    simp at hc
    omega
  ·rw [zfZ hr hop] at hon
   have : i.Op = 22 := by simpa using hon
   cases hst <;> omega
 have hl1 : (zr i).2.1 = true /\ 0 <= (zr i).1 := by simp at hc; exact ⟨hc.1, by omega⟩
 have hop : 15 <= i.Op /\ i.Op <= 19 := by
  rcases zkd hl1.1 with h1 | h1
  ·exact ⟨h1.2.1, h1.2.2.1⟩
  ·omega
 have hgo := vg hr hop.1 hop.2
 have hlead := hg.fine.leads hi hl1.1
 rw [hgo] at hlead |-
 simp only at hlead |-
 obtain ⟨q1, hq1⟩ := zof hlead.1
 have eq1 : w64 ((p : Int) + (i.D + 1)) = (q1 : Int) := by rw [zO (by omega) (by omega), hq1]
 have hsame := hlv.same hop.1 (by omega)
 subst hsame
 refine OK.ite (fun hj => ?_) (fun hj => ?_)
 ·have h15 : i.Op = 15 := by simpa using hj
  rw [eq1]
  refine OK.bind2 (zjH h (by omega) hk) (fun j' ⟨_, h2, h3⟩ => OK.ret ⟨h2, fun regs q regs' hu hs hst hb => ?_⟩)
  cases hst with
  | jump q e1 e2 =>
   have : q = q1 := by omega
   rw [this]
   exact h3 _ hu hs
  | _ => omega
 have h16 : 16 <= i.Op := by
  have : i.Op ≠ 15 := by simpa using hj
  omega
 have hon : (zr i).2.2 = true := by rw [hgo]; simpa using hj
 have hs := jU hr (.inr ⟨h16, hop.2⟩)
 have hA := zbH hr
 have hnum := hlv.nums h16 hop.2
 rw [ze1 hs]
 simp only [zbs]
 have hsw := zcZ hs hk
 refine OK.bind2 (OK.count (fun t s => JI m s /\ zdV j s /\ (0 < t -> ∀ regs, zgZ regs -> zh3 k regs -> hl i.Op (regs i.A.toNat) (zg0 i regs) = true -> At s q1 regs) /\ (1 < t -> ∀ regs, zgZ regs -> zh3 k regs -> hl i.Op (regs i.A.toNat) (zg0 i regs) = false -> At s (p + 1) regs))
  ⟨h, zdV.refl j, fun h => by omega, fun h => by omega⟩ (fun t s again ht hI kk => ?_) (fun s hI => hI)) (fun j' hj' => OK.ret ⟨hj'.2.1, fun regs q regs' hu hs hst hb => ?_⟩)
 ·unfold qC
  refine OK.bind (OK.getN (by simpa using ht) (fun x hx => ?_))
  have ht2 : t = 0 /\ x = true \/ t = 1 /\ x = false := by
   have : t = 0 \/ t = 1 := by omega
   rcases this with rfl | rfl
   ·left; simp at hx; exact ⟨rfl, hx⟩
   ·right; simp at hx; exact ⟨rfl, hx⟩
  refine OK.bind2 (R := fun (o : Int) => ∃ q' : Nat, o = (q' : Int) /\ q' < m.Co.length /\ (x = true -> q' = q1) /\ (x = false -> q' = p + 1)) ?_ (fun o ho => ?_)
  ·refine OK.ite (fun hx => OK.ret ⟨p + 1, e1, hg.fine.on hi hon, fun h => by simp [h] at hx, fun _ => rfl⟩) (fun hx => OK.ret ⟨q1, eq1, by omega, fun _ => rfl, fun h => by simp [h] at hx⟩)
  obtain ⟨q', rfl, hq', hqt, hqf⟩ := ho
  rw [zgi hA.1 hA.2]
  simp only [zbs]
  refine OK.bind2 (R := fun r => SW r.1 /\ ∀ regs, zgZ regs -> zh3 k regs -> hl i.Op (regs i.A.toNat) (zg0 i regs) = x -> r.2 = true /\ inS r.1 (regs i.A.toNat)) ?_ (fun r hr2 => ?_)
  ·obtain ⟨r0, hr0, hr1⟩ := zgQ (op := i.Op) (h := x) (hk i.A.toNat (by omega)).span hsw.span
   rw [hr0]
   refine OK.ret ⟨hr1, fun regs hu hsm hh => ?_⟩
   have hx := (hsm i.A.toNat (by omega)).1 hnum.1
   have hy := (zjE (regs := regs) hs hsm).1 hnum.2
   have := zlY (op := i.Op) (hk i.A.toNat (by omega)).span hsw.span hx hy h16 hop.2
   rw [show (if i.B == 8 then qf i.Imm else regs i.B.toNat) = zg0 i regs from rfl, hh] at this
   have hfin := zpJ this hr0
   exact hfin
  have add : ∀ {s' : zf}, JI m s' -> zdV s s' -> ((∀ regs, zgZ regs -> zh3 k regs -> hl i.Op (regs i.A.toNat) (zg0 i regs) = x -> At s' q' regs)) -> OK (again s') (fun s => JI m s /\ zdV j s /\ (0 < 2 -> ∀ regs, zgZ regs -> zh3 k regs -> hl i.Op (regs i.A.toNat) (zg0 i regs) = true -> At s q1 regs) /\ (1 < 2 -> ∀ regs, zgZ regs -> zh3 k regs -> hl i.Op (regs i.A.toNat) (zg0 i regs) = false -> At s (p + 1) regs)) := by
   intro s' hs' hgr hat
   refine kk s' ⟨hs', hI.2.1.trans hgr, fun _ regs hu hsm hh => ?_, fun h1 regs hu hsm hh => ?_⟩
   ·rcases ht2 with ⟨rfl, hxx⟩ | ⟨rfl, hxx⟩
    ·rw [<- hqt hxx]
     exact hat regs hu hsm (by rw [hh, hxx])
    ·exact (hI.2.2.1 (by omega) regs hu hsm hh).grow hu hgr
   ·rcases ht2 with ⟨rfl, hxx⟩ | ⟨rfl, hxx⟩
    ·omega
    ·rw [<- hqf hxx]
     exact hat regs hu hsm (by rw [hh, hxx])
  refine OK.ite (fun _ => ?_) (fun hf => ?_)
  ·simp only [zaD, zbs]
   refine OK.bind2 (zjH hI.1 hq' (zc0 hk (WT.num hr2.1))) (fun s' ⟨a1, a2, a3⟩ => add a1 a2 (fun regs hu hsm hh => a3 regs hu (fun r hr => ?_)))
   unfold jf
   split
   ·rename_i e
    rw [e]
    exact zeo (hr2.2 regs hu hsm hh).2
   ·exact hsm r hr
  ·refine add hI.1 (zdV.refl s) (fun regs hu hsm hh => ?_)
   have := (hr2.2 regs hu hsm hh).1
   rw [hf] at this; cases this
 ·cases hst with
  | yes q e1 e2 e3 e4 =>
   have : q = q1 := by omega
   rw [this]
   exact hj'.2.2.1 (by simp) _ hu hs e3
  | no e1 e2 e3 => exact hj'.2.2.2 (by simp) _ hu hs e3
  | _ => omega
structure Snd (m : zj) (n : Nat) (j : zf) : Prop where
 zero : ∀ regs, zgZ regs -> At j 0 regs
 step : ∀ (p : Nat) (i : zc) (x : Nat -> za), p < n -> m.Co[p]? = some i -> j.any[p]? = some true -> j.ca[p]? = some x -> ∀ regs q regs', zgZ regs -> zh3 x regs -> Stp i p regs q regs' -> At j q regs'
 handle : ∀ (p : Nat) (i : zc) (x : Nat -> za), p < n -> m.Co[p]? = some i -> j.any[p]? = some true -> j.ca[p]? = some x -> i.Op = 21 -> i.Imm <= 4 -> (x 1).Ki = 2
theorem znh {m : zj} {j : zf} {n : Nat} (h : ziK m n j) (h2 : Snd m n j) (hg : ze7 m.Co) (hn : n < m.Co.length) (again : zf -> Option (zf ⊕ ((Option zf) × Int × Int)))
  {Q : (zf ⊕ ((Option zf) × Int × Int)) -> Prop} (hk : ∀ j', ziK m (n + 1) j' -> Snd m (n + 1) j' -> OK (again j') Q) (he : ∀ e, e ≠ 0 -> Q (.inr (none, (n : Int), e))) : OK (zN 5000 n again j) Q := by
 unfold zN
 obtain ⟨a, ha, ha2⟩ := vz (xs := j.any) (p := n) (by rw [h.ji.lenA]; exact hn)
 simp only [ha2, zbs]
 refine OK.ite (fun hf => ?_) (fun hf => ?_)
 ·have hf : a = false := by simpa using hf
  have no : ∀ {p : Nat}, p < n + 1 -> j.any[p]? = some true -> p < n := by
   intro p hp hany
   by_cases e : p = n
   ·subst e; rw [ha, hf] at hany; cases hany
   ·omega
  exact hk j ⟨h.ji, h.zero, h.clos, fun p i hp hi ho hany => h.fits p i (no hp hany) hi ho hany⟩
   ⟨h2.zero, fun p i x hp hi hany hx => h2.step p i x (no hp hany) hi hany hx, fun p i x hp hi hany hx => h2.handle p i x (no hp hany) hi hany hx⟩
 have hat : j.any[n]? = some true := by rw [ha]; simpa using hf
 refine OK.bind2 (zkh (zkc h.ji hg hn) (znf h.ji hg hn)) (fun j1 hj1 => ?_)
 obtain ⟨⟨hj1, ha1, hc1⟩, hw1⟩ := hj1
 refine OK.bind2 (zkh (zlM hj1 hg hn) (zpo hj1 hg hn)) (fun r hr => ?_)
 refine OK.ite (fun e => OK.ret (he _ (by simpa using e))) (fun e => ?_)
 obtain ⟨hr1, hr2⟩ := hr
 have hr1 := hr1 (by simpa using e)
 have hr2 := hr2 (by simpa using e)
 obtain ⟨i0, hi0, _⟩ := vz hn
 obtain ⟨k0, hk0, _⟩ := vz (xs := j1.ca) (p := n) (by rw [hj1.lenC]; exact hn)
 have hlv := hr2 i0 k0 hi0 hk0
 have g1 : zdV j j1 := ⟨fun q x hq hx => by
  by_cases e : q = n
  ·subst e; exact hw1 x hx
  ·exact ⟨x, by rw [hc1 q e]; exact hx, zcu.refl x⟩, fun q hq => by rw [ha1]; exact hq⟩
 refine OK.bind2 (zkh (zlL hj1 hg hn hr1.1) (zou hj1 hg hn hi0 hr1.1 (hj1.wt n k0 hk0) hlv)) (fun j2 hj2 => ?_)
 obtain ⟨⟨hj2, hw⟩, g2, hst2⟩ := hj2
 have hcl : zoT m.Co j1 := by intro q a ia; rw [ha1]; exact h.clos q a ia
 have hup : ziK m (n + 1) j2 := by
  refine ⟨hj2, hw.keep _ (by rw [ha1]; exact h.zero), hcl.ways hg (by rw [ha1]; exact hat) hw, fun p i hp hi ho hany q hq x hh hx hhd => ?_⟩
  have hlp := hg.fine.loop hi ho
  rw [(hw.same p (by omega)).1] at hx
  rw [(hw.same _ (by omega)).1] at hhd
  rw [(hw.same p (by omega)).2, ha1] at hany
  by_cases e : p = n
  ·subst e
   exact hr1.2 i hi ho q hq x hh hx hhd
  ·rw [hc1 p e] at hx
   rw [hc1 _ (by omega)] at hhd
   exact h.fits p i (by omega) hi ho hany q hq x hh hx hhd
 refine hk j2 hup ⟨fun regs hu => ((h2.zero regs hu).grow hu g1).grow hu g2, fun p i x hp hi hany hx regs q regs' hu hs hst => ?_, fun p i x hp hi hany hx ho him => ?_⟩
 ·have hr := hg.fine.right hi
  by_cases e : p = n
  ·subst e
   obtain rfl : i = i0 := by rw [hi] at hi0; exact Option.some.inj hi0
   have hx2 := hx
   rw [(hw.same p (Nat.le_refl _)).1, hk0] at hx2; cases hx2
   by_cases hb : i.Op = 20 -> q = p + 1
   ·exact hst2 regs q regs' hu hs hst hb
   ·
    have ho : i.Op = 20 := Classical.byContradiction (fun hne => hb (fun e => absurd e hne))
    have hlp := hg.fine.loop hi ho
    have hq : (q : Int) = p - i.D /\ regs' = regs := by
     cases hst with
     | back q e1 e2 => exact ⟨e2, rfl⟩
     | on e1 => exact absurd (fun _ => rfl) hb
     | _ => omega
    obtain ⟨hq, rfl⟩ := hq
    have hany2 := hup.clos p p i hany hi ho (by omega) (Nat.le_refl _)
    have hqn : ((p : Int) - i.D).toNat = q := by omega
    rw [hqn] at hany2
    obtain ⟨hd, hd1, _⟩ := vz (xs := j2.ca) (p := q) (by rw [hj2.lenC]; omega)
    exact ⟨hany2, hd, hd1, fun r hr => zne (hup.fits p i (by omega) hi ho hany r hr _ hd hx (by rw [hqn]; exact hd1)) (hs r hr)⟩
  ·have hx2 := hx
   rw [(hw.same p (by omega)).1, hc1 p e] at hx2
   have hany2 := hany
   rw [(hw.same p (by omega)).2, ha1] at hany2
   have := h2.step p i x (by omega) hi hany2 hx2 regs q regs' hu hs hst
   exact (this.grow (hst.u64s hr hu) g1).grow (hst.u64s hr hu) g2
 ·by_cases e : p = n
  ·subst e
   obtain rfl : i = i0 := by rw [hi] at hi0; exact Option.some.inj hi0
   rw [(hw.same p (Nat.le_refl _)).1, hk0] at hx; cases hx
   exact hlv.handle ho him
  ·rw [(hw.same p (by omega)).1, hc1 p e] at hx
   rw [(hw.same p (by omega)).2, ha1] at hany
   exact h2.handle p i x (by omega) hi hany hx ho him
theorem ziR (m : zj) : OK (qJ 5000 m) (fun r => r.2.2 = 0 -> ∃ j, r.1 = some j /\ ze7 m.Co /\ zjz m.Ms /\ ziK m m.Co.length j /\ Snd m m.Co.length j) := by
 unfold qJ
 refine OK.bind2 (zjA _) (fun g hgm => ?_)
 refine OK.ite (fun _ => OK.ret (fun h => by simp at h)) (fun hgt => ?_)
 have hgm := hgm.1 (by simpa using hgt)
 obtain ⟨r, h1, h2, h3, h4⟩ := zgH m.Co
 simp only [h1, zbs]
 refine OK.ite (fun hr => OK.ret (fun h => absurd h (by simpa using hr))) (fun hr => ?_)
 have hg := (h3 (by simpa using hr)).2
 have hn := hg.n64
 have hn1 := hg.n1
 refine OK.bind2 (R := fun o => o = zf.mk m (List.replicate m.Co.length (fun _ => zax)) (List.replicate m.Co.length false) []) ?_ (fun o ho => ?_)
 ·refine OK.bind (OK.mkl (by omega) (by simp; omega) ?_)
  refine OK.bind (OK.mkl (by omega) (by simp; omega) (OK.ret ?_))
  simp [zax]
 subst ho
 simp only [zfV hg, zbs]
 have e0 : idx (List.replicate m.Co.length false) 0 = some false := by
  have := ze8 (xs := List.replicate m.Co.length false) (i := 0) (by simp; omega)
  simpa using this
 rw [e0]
 simp only [zbs]
 refine OK.bind2 (OK.count (Q := fun o => match o with | .inl j => ziK m m.Co.length j /\ Snd m m.Co.length j | .inr r => r.2.2 ≠ 0) (fun i s => ziK m i s /\ Snd m i s) ⟨?_, ⟨fun regs _ => ?_, fun p i x hp => by omega, fun p i x hp => by omega⟩⟩ (fun i s again hi hI k => znh hI.1 hI.2 hg hi again (fun j' a b => k j' ⟨a, b⟩) (fun e he => he)) (fun s hI => hI)) (fun o ho => ?_)
 ·simpa using zok hg
 ·obtain ⟨x, hx, _⟩ := vz (xs := List.replicate m.Co.length (fun _ : Nat => zax)) (p := 0) (by simp; omega)
  refine ⟨?_, x, by simpa using hx, fun r _ => ?_⟩
  ·have : 0 < m.Co.length := by omega
   simp [this]
  ·have e : x = fun _ => zax := by
    rw [List.getElem?_replicate] at hx
    split at hx
    ·exact (Option.some.inj hx).symm
    ·cases hx
   rw [e]
   exact zh2 _
 ·cases o with
  | inl j => exact OK.ret (fun _ => ⟨j, rfl, hg, hgm, ho.1, ho.2⟩)
  | inr r => exact OK.ret (fun h => absurd h ho)
end Go.Proofs.YtbmknhpfkpmigaaGreatDoor
namespace Go.Proofs.YtbmknhpfkpmigaaGreatDoor
open Go.Sx
theorem zn5 {code : List zc} (g : ze7 code) {p q : Nat} (h : Way code p q) (hlt : p < q) : ∀ a, zx code q a = true -> zx code p a = true \/ ∃ i, code[a]? = some i /\ (q : Int) = a - i.D := by
 intro a ha
 obtain ⟨ia, a1, a2, a3, a4, a5, a6, a7, a8⟩ := zct g ha
 by_cases hc : zx code p a = true
 ·exact .inl hc
 ·right
  refine ⟨ia, a1, ?_⟩
  have hc' : zx code p a = false := by simpa using hc
  obtain ⟨i, hi, hw⟩ := h
  rcases hw with ⟨h1, h2⟩ | ⟨h1, h2, h3⟩
  ·rcases Int.lt_or_le ((a : Int) - ia.D) q with h3 | h3
   ·exfalso
    have := (qA a1 a2).2 (show (a : Int) - ia.D <= p /\ p <= a by omega)
    rw [hc'] at this; cases this
   ·omega
  ·rcases Int.lt_or_le ((a : Int) - ia.D) q with h4 | h4
   ·exfalso
    exact g.en p (zes.1 hi).1 ⟨i, hi, h1, h2, a, ia, q, a7, a1, a2, h3, ha, hc', by omega⟩
   ·omega
theorem zlv {code : List zc} (g : ze7 code) {back back' : Nat -> Int} (hf : Fit code back) {p q : Nat} (hp : p < code.length) (h : Way code p q) (hlt : p < q) (hb : ∀ a, a ≠ p -> back' a = back a) (hb2 : ∀ i, code[p]? = some i -> i.Op = 20 -> q = p + 1) (hb3 : ∀ i, code[p]? = some i -> i.Op ≠ 20 -> back' p = back p) :
  pot code back' q code.length + 1 <= pot code back p code.length := by
 refine zkg hp (fun t ht => zop g hf hlt (zn5 g h hlt) (fun a ha => ?_) ht)
 obtain ⟨ia, a1, a2, a3, a4, a5, a6, a7, a8⟩ := zct g ha
 have hfa := hf a ia a1 a2
 by_cases e : a = p
 ·subst e
  have := hb2 ia a1 a2
  omega
 ·rw [hb a e]
  exact ⟨rfl, hfa.1⟩
structure Run (m : zj) (j : zf) (M : EM) (p : Nat) : Prop where
 mod : M.mo = m
 at_ : M.at_ = p
 lt : p < m.Co.length
 known : At j p M.rg
 u : zgZ M.rg
 fit : Fit m.Co M.tu
 wo : ∀ i, u64 (M.sc.Wo.wo i)
 ev : u64 M.Ev.A /\ u64 M.Ev.B
structure zhR (m : zj) (j : zf) : Prop where
 good : ze7 m.Co
 goodM : zjz m.Ms
 up : ziK m m.Co.length j
 snd : Snd m m.Co.length j
theorem zdA {M : EM} {i : zc} (hb : i.B = 8 \/ (0 <= i.B /\ i.B < 8)) : zcp M i = some (zg0 i M.rg) := by
 unfold zcp zg0
 rcases zft (i.B == 8) with e | e
 ·rw [if_pos e, if_pos e]
 ·have : i.B ≠ 8 := by simpa using e
  rw [if_neg (by simp [e]), if_neg (by simp [e]), zgi (by omega) (by omega)]; rfl
theorem zn6 {W : qb} (h : ∀ i, u64 (W.wo i)) (t : Int) : OK (qh W t) (fun r => u64 r.1) := by
 unfold qh
 refine OK.ite (fun _ => OK.ret ⟨by simp, by simp⟩) (fun hc => ?_)
 simp at hc
 have : ain 16 t = some t.toNat := by unfold ain; rw [if_pos ⟨hc.1, by omega⟩]
 rw [this]
 exact OK.ret (h _)
theorem zm8 {W : qb} (h : ∀ i, u64 (W.wo i)) (t : Int) {v : Int} (hv : u64 v) : OK (qW W t v) (fun r => ∀ i, u64 (r.2.wo i)) := by
 unfold qW
 refine OK.ite (fun _ => OK.ret h) (fun hc => ?_)
 simp at hc
 have : ain 16 t = some t.toNat := by unfold ain; rw [if_pos ⟨hc.1, by omega⟩]
 rw [this]
 refine OK.ret (fun i => ?_)
 show u64 (jf W.wo _ v i)
 unfold jf
 split
 ·exact hv
 ·exact h i
theorem zn7 (C : zY) (t : Int) : OK (zW C t) (fun r => u64 r.1) := by
 unfold zW
 refine OK.ite (fun _ => OK.ret ⟨by simp, by simp⟩) (fun hc => ?_)
 simp at hc
 have : ain 16 t = some t.toNat := by unfold ain; rw [if_pos ⟨hc.1, by omega⟩]
 rw [this]
 refine OK.ret ?_
 show u64 (jf C.cn _ _ _)
 unfold jf
 rw [if_pos rfl]
 exact xn _
structure Ran (m : zj) (i : zc) (p : Nat) (M : EM) (r : Int × EM) : Prop where
 mod : r.2.mo = M.mo
 st : r.2.sa = M.sa
 ev : r.2.Ev = M.Ev
 wo : ∀ i, u64 (r.2.sc.Wo.wo i)
 step : ∃ q : Nat, w64 (M.at_ + r.1) = q /\ Stp i p M.rg q r.2.rg /\ (i.Op ≠ 20 -> r.2.tu = M.tu /\ p < q) /\
  (i.Op = 20 -> (q = p + 1 /\ r.2.tu = jf M.tu p 0) \/ ((q : Int) = p - i.D /\ M.tu p < i.Imm /\ r.2.tu = jf M.tu p (M.tu p + 1)))
theorem zpa {m : zj} {j : zf} (hS : zhR m j) {M : EM} {p : Nat} (h : Run m j M p) {i : zc} (hi : m.Co[p]? = some i) (h21 : i.Op ≠ 21) (h22 : i.Op ≠ 22) : OK (zfA M i) (Ran m i p M) := by
 have hg := hS.good
 have hn := hg.n64
 have hr := hg.fine.right hi
 have hop := zbr hr
 have hA := zbH hr
 have hp := h.lt
 have hat := h.at_
 have one : w64 (M.at_ + 1) = ((p + 1 : Nat) : Int) := by rw [hat, zO (by omega) (by omega)]; simp
 have hA8 : ain 8 i.A = some i.A.toNat := zgi hA.1 hA.2
 have hD : ¬ (15 <= i.Op /\ i.Op <= 20) -> ain 8 i.D = some i.D.toNat := fun h => zgi (zdC hr h).1 (zdC hr h).2
 have plain : ∀ {R : Nat -> Int} {S : zk}, i.Op ≠ 20 -> (∀ t, u64 (S.Wo.wo t)) -> Stp i p M.rg (p + 1) R -> Ran m i p M (1, ⟨M.Ev, M.mo, S, R, M.tu, M.at_, M.sp, M.sa⟩) :=
  fun hne hw hs => ⟨rfl, rfl, rfl, hw, p + 1, one, hs, fun _ => ⟨rfl, by omega⟩, fun e => absurd e hne⟩
 unfold zfA
 refine OK.ite (fun e => ?_) (fun e0 => ?_)
 ·have e : i.Op = 0 := by simpa using e
  rw [zdA (jU hr (.inl (by omega))), hD (by omega)]
  exact OK.ret (plain (by omega) h.wo (.set e))
 refine OK.ite (fun e => ?_) (fun e11 => ?_)
 ·have e : i.Op = 11 := by simpa using e
  rw [zdA (jU hr (.inl (by omega)))]
  simp only [zbs]
  refine OK.bind2 (zn6 h.wo _) (fun v hv => ?_)
  rw [hD (by omega)]
  exact OK.ret (plain (by omega) h.wo (.any v.1 (.inl e) hv))
 refine OK.ite (fun e => ?_) (fun e12 => ?_)
 ·have e : i.Op = 12 := by simpa using e
  rw [hA8, zdA (jU hr (.inl (by omega)))]
  simp only [zbs]
  exact OK.bind2 (zm8 h.wo _ (h.u _ (by omega))) (fun v hv => OK.ret (plain (by omega) hv (.store e)))
 refine OK.ite (fun e => ?_) (fun e13 => ?_)
 ·have e : i.Op = 13 := by simpa using e
  rw [hD (by omega)]
  simp only [zbs]
  refine OK.ite (fun _ => OK.ret ?_) (fun _ => OK.ret (plain (by omega) h.wo (.any _ (.inr e) h.ev.1)))
  have : jf (jf M.rg i.D.toNat M.Ev.A) i.D.toNat M.Ev.B = jf M.rg i.D.toNat M.Ev.B := by
   funext t
   unfold jf
   split <;> rfl
  rw [this]
  exact plain (by omega) h.wo (.any _ (.inr e) h.ev.2)
 refine OK.ite (fun e => ?_) (fun e14 => ?_)
 ·have e : i.Op = 14 := by simpa using e
  have him := zfa hr e
  rw [hD (by omega), jJ (x := i.Imm) him.1 (by omega)]
  exact OK.ret (plain (by omega) h.wo (.map e))
 refine OK.ite (fun e => ?_) (fun e15 => ?_)
 ·have e : i.Op = 15 := by simpa using e
  have hl : (zr i).2.1 = true := by rw [vg hr (by omega) (by omega)]
  have hlead := hg.fine.leads hi hl
  rw [vg hr (by omega) (by omega)] at hlead
  simp only at hlead
  have hJ := zdg (i := i) (by simp [vf, hr, inB]; omega)
  obtain ⟨q, hq⟩ := zof hlead.1
  refine OK.ret ⟨rfl, rfl, rfl, h.wo, q, ?_, .jump q e (by omega), fun _ => ⟨rfl, by omega⟩, fun e2 => by omega⟩
  show w64 (M.at_ + w64 (i.D + 1)) = _
  rw [hat, zO (x := i.D + 1) (by omega) (by omega), zO (by omega) (by omega)]
  omega
 refine OK.ite (fun e => ?_) (fun e20 => ?_)
 ·have e : i.Op = 20 := by simpa using e
  have hlp := hg.fine.loop hi e
  have hfit := h.fit p i hi e
  have ha64 : ain 64 M.at_ = some p := by rw [hat]; exact znM (by omega)
  rw [hA8, ha64]
  simp only [zbs]
  refine OK.bind2 (R := fun o => o = true -> M.tu p < i.Imm) (OK.ite (fun _ => OK.ret (fun h => of_decide_eq_true h)) (fun _ => OK.ret (fun h => by cases h))) (fun o ho => ?_)
  refine OK.ite (fun ht => OK.ret ?_) (fun _ => OK.ret ?_)
  ·have hlt := ho ht
   refine ⟨rfl, rfl, rfl, h.wo, ((p : Int) - i.D).toNat, ?_, .back _ e (by omega), fun hne => absurd e hne, fun _ => .inr ⟨by omega, hlt, ?_⟩⟩
   ·show w64 (M.at_ + w64 (0 - i.D)) = _
    rw [hat, zO (x := 0 - i.D) (by omega) (by omega), zO (by omega) (by omega)]
    omega
   ·show jf M.tu p (w64 (M.tu p + 1)) = _
    rw [zO (by omega) (by omega)]
  ·exact ⟨rfl, rfl, rfl, h.wo, p + 1, one, .on e, fun hne => absurd e hne, fun _ => .inl ⟨rfl, rfl⟩⟩
 simp only [beq_eq_false_iff_ne, ne_eq] at e0 e11 e12 e13 e14 e15 e20
 have hsb : i.B = 8 \/ (0 <= i.B /\ i.B < 8) := jU hr (by omega)
 have hus := zfC h.u hsb
 have hua := h.u i.A.toNat (by omega)
 rw [hA8, zdA hsb]
 simp only [zbs]
 rw [zeH hua hus]
 simp only [zbs]
 refine OK.ite (fun ho => ?_) (fun ho => ?_)
 ·simp at ho
  rw [hD (by omega)]
  exact OK.ret (plain (by omega) h.wo (.arith ho.1 ho.2))
 ·have h16 : 16 <= i.Op /\ i.Op <= 19 := by
   rw [Bool.and_eq_false_iff] at ho
   simp only [decide_eq_false_iff_not] at ho
   omega
  rw [zgv]
  simp only [zbs]
  have hl : (zr i).2.1 = true := by rw [vg hr (by omega) (by omega)]
  have hlead := hg.fine.leads hi hl
  rw [vg hr (by omega) (by omega)] at hlead
  simp only at hlead
  have hJ := zdg (i := i) (by simp [vf, hr, inB]; omega)
  obtain ⟨q, hq⟩ := zof hlead.1
  refine OK.ite (fun ht => OK.ret ?_) (fun hf => OK.ret ?_)
  ·refine ⟨rfl, rfl, rfl, h.wo, q, ?_, .yes q h16.1 h16.2 ht (by omega), fun _ => ⟨rfl, by omega⟩, fun e2 => by omega⟩
   show w64 (M.at_ + w64 (i.D + 1)) = _
   rw [hat, zO (x := i.D + 1) (by omega) (by omega), zO (by omega) (by omega)]
   omega
  ·exact ⟨rfl, rfl, rfl, h.wo, p + 1, one, .no h16.1 h16.2 hf, fun _ => ⟨rfl, by omega⟩, fun e2 => by omega⟩
theorem zhS {code : List zc} {i : zc} {p q : Nat} {regs regs' : Nat -> Int} (hr : qe i = true) (hi : code[p]? = some i) (h : Stp i p regs q regs') (h20 : i.Op = 20 -> q = p + 1) : Way code p q := by
 have on : (zr i).2.2 = true -> Way code p (p + 1) := fun h => ⟨i, hi, .inl ⟨h, rfl⟩⟩
 have pl : ¬ (15 <= i.Op /\ i.Op <= 20) -> i.Op ≠ 22 -> (zr i).2.2 = true := fun h1 h2 => by rw [zfZ hr h1]; simpa using h2
 have jm : ∀ {q : Nat}, 15 <= i.Op -> i.Op <= 19 -> (q : Int) = p + (i.D + 1) -> Way code p q := fun {q} h1 h2 h3 => by
  have := zdg (i := i) (by simp [vf, hr, inB]; omega)
  exact ⟨i, hi, .inr ⟨by rw [vg hr h1 h2], by rw [vg hr h1 h2]; show 0 < i.D + 1; omega, by rw [vg hr h1 h2]; exact h3⟩⟩
 cases h with
 | set e => exact on (pl (by omega) (by omega))
 | arith e1 e2 => exact on (pl (by omega) (by omega))
 | any v e hv => exact on (pl (by omega) (by omega))
 | store e => exact on (pl (by omega) (by omega))
 | map e => exact on (pl (by omega) (by omega))
 | jump q e1 e2 => exact jm (by omega) (by omega) e2
 | yes q e1 e2 e3 e4 => exact jm (by omega) (by omega) e4
 | no e1 e2 e3 => exact on (by rw [vg hr (by omega) (by omega)]; simp; omega)
 | back q e1 e2 => rw [h20 e1]; exact on (by rw [zdk hr e1])
 | on e => exact on (by rw [zdk hr e])
 | call v e hv => exact on (pl (by omega) (by omega))
def zpb (m : zj) (j : zf) (M M' : EM) (p : Nat) : Prop := ∃ q, Run m j M' q /\ pot m.Co M'.tu q m.Co.length + 1 <= pot m.Co M.tu p m.Co.length /\
 ∃ i, m.Co[p]? = some i /\ ((zr i).2.1 = true /\ (q : Int) = p + (zr i).1 \/ (zr i).2.2 = true /\ (q : Int) = p + 1)
theorem Way.to {code : List zc} {p q : Nat} (h : Way code p q) : ∃ i, code[p]? = some i /\ ((zr i).2.1 = true /\ (q : Int) = p + (zr i).1 \/ (zr i).2.2 = true /\ (q : Int) = p + 1) := by
 obtain ⟨i, hi, h | h⟩ := h
 ·exact ⟨i, hi, .inr ⟨h.1, by omega⟩⟩
 ·exact ⟨i, hi, .inl ⟨h.1, h.2.2⟩⟩
theorem zj6 {m : zj} {j : zf} (hS : zhR m j) {M : EM} {p : Nat} (h : Run m j M p) {i : zc} (hi : m.Co[p]? = some i) {r : Int × EM} (hr : Ran m i p M r) {steps state : Int} :
  zpb m j M ⟨r.2.Ev, r.2.mo, r.2.sc, r.2.rg, r.2.tu, w64 (M.at_ + r.1), steps, state⟩ p := by
 have hg := hS.good
 have hri := hg.fine.right hi
 obtain ⟨q, hq, hst, hne, h20⟩ := hr.step
 have hat := hS.snd.step p i _ h.lt hi h.known.1 h.known.2.choose_spec.1 M.rg q r.2.rg h.u h.known.2.choose_spec.2 hst
 have hql : q < m.Co.length := by
  have := (zes.1 hat.1).1
  rw [hS.up.ji.lenA] at this
  exact this
 have base : Fit m.Co r.2.tu -> Run m j ⟨r.2.Ev, r.2.mo, r.2.sc, r.2.rg, r.2.tu, w64 (M.at_ + r.1), steps, state⟩ q :=
  fun hf => ⟨by rw [<- h.mod]; exact hr.mod, hq, hql, hat, hst.u64s hri h.u, hf, hr.wo, by show u64 r.2.Ev.A /\ _; rw [hr.ev]; exact h.ev⟩
 by_cases e20 : i.Op = 20
 ·have hlp := hg.fine.loop hi e20
  have hfit := h.fit p i hi e20
  rcases h20 e20 with ⟨rfl, ht⟩ | ⟨hqd, hlt, ht⟩
  ·refine ⟨p + 1, base ?_, ?_, (zhS hri hi hst (fun _ => rfl)).to⟩
   ·intro a ia ha ho
    rw [ht]
    unfold jf
    split
    ·rename_i e; subst e
     rw [hi] at ha; cases ha
     exact ⟨Int.le_refl _, by omega⟩
    ·exact h.fit a ia ha ho
   ·show pot m.Co r.2.tu _ _ + 1 <= _
    refine zlv hg h.fit h.lt (zhS hri hi hst (fun _ => rfl)) (by omega) (fun a ha => ?_) (fun _ _ _ => rfl) (fun i' hi' hne => ?_)
    ·rw [ht]; unfold jf; rw [if_neg ha]
    ·rw [hi] at hi'; cases hi'; exact absurd e20 hne
  ·refine ⟨q, base ?_, ?_, i, hi, .inl (by rw [zdk hri e20]; exact ⟨rfl, by show (q : Int) = p + -i.D; omega⟩)⟩
   ·intro a ia ha ho
    rw [ht]
    unfold jf
    split
    ·rename_i e; subst e
     rw [hi] at ha; cases ha
     exact ⟨by omega, by omega⟩
    ·exact h.fit a ia ha ho
   ·show pot m.Co r.2.tu _ _ + 1 <= _
    refine zkg h.lt (fun t ht2 => znc hg h.fit hi e20 hqd ?_ (fun b hb => ?_) hlt ht2)
    ·rw [ht]; unfold jf; rw [if_pos rfl]
    ·rw [ht]; unfold jf; rw [if_neg hb]
 ·obtain ⟨ht, hlt⟩ := hne e20
  refine ⟨q, base (by rw [ht]; exact h.fit), ?_, (zhS hri hi hst (fun e => absurd e e20)).to⟩
  show pot m.Co r.2.tu _ _ + 1 <= _
  refine zlv hg h.fit h.lt (zhS hri hi hst (fun e => absurd e e20)) hlt (fun a _ => by rw [ht]) (fun i' hi' ho => ?_) (fun _ _ _ => by rw [ht])
  rw [hi] at hi'; cases hi'; exact absurd ho e20
theorem zlw : ∀ k : Fin 7, ∃ s, xZ ((k : Nat) : Int) = some (s, true) /\ s.isAsked = decide ((k : Nat) <= 4) /\ 0 <= s.most /\ (((k : Nat) = 0 \/ (k : Nat) = 4 \/ (k : Nat) = 5) -> s.most = 18446744073709551615) /\ (((k : Nat) = 1 \/ (k : Nat) = 2 \/ (k : Nat) = 3) -> s.most = 1) /\ ((k : Nat) <= 4 -> 0 <= s.asks /\ s.asks < 5) := by
 intro k
 have h : ∀ k : Fin 7, ((xZ ((k : Nat) : Int)).map (fun r => r.2 && (r.1.isAsked == decide ((k : Nat) <= 4)) && decide (0 <= r.1.most) && (!(decide ((k : Nat) = 0) || decide ((k : Nat) = 4) || decide ((k : Nat) = 5)) || r.1.most == 18446744073709551615) && (!(decide ((k : Nat) = 1) || decide ((k : Nat) = 2) || decide ((k : Nat) = 3)) || r.1.most == 1) && (!decide ((k : Nat) <= 4) || (decide (0 <= r.1.asks) && decide (r.1.asks < 5))))) = some true := by decide +kernel
 obtain ⟨⟨s, b⟩, h1, h2⟩ := Option.map_eq_some_iff.1 (h k)
 simp only [zae, Bool.or_eq_true, zdq, beq_iff_eq, Bool.not_eq_true', Bool.or_eq_false_iff, decide_eq_false_iff_not] at h2
 obtain ⟨⟨⟨⟨⟨rfl, h3⟩, h4⟩, h5⟩, h6⟩, h7⟩ := h2
 exact ⟨s, h1, h3, h4, fun h => h5.elim (fun h5 => by omega) id, fun h => h6.elim (fun h6 => by omega) id, fun h => h7.elim (fun h7 => by omega) id⟩
theorem zgI {m : zj} {j : zf} (hS : zhR m j) {M : EM} {p : Nat} (h : Run m j M p) {i : zc} (hi : m.Co[p]? = some i) (ho : i.Op = 21) {v : Int} (hv : ∀ s, xZ i.Imm = some (s, true) -> 0 <= v /\ v <= s.most) {S : zk} (hS2 : ∀ t, u64 (S.Wo.wo t)) {steps state : Int} :
  zpb m j M ⟨M.Ev, M.mo, S, jf M.rg 0 v, M.tu, w64 (M.at_ + 1), steps, state⟩ p := by
 have hn := hS.good.n64
 have hlt := h.lt
 have := zj6 hS h hi (r := (1, ⟨M.Ev, M.mo, S, jf M.rg 0 v, M.tu, M.at_, M.sp, M.sa⟩)) (steps := steps) (state := state)
  ⟨rfl, rfl, rfl, hS2, p + 1, by show w64 (M.at_ + 1) = _; rw [h.at_, zO (by omega) (by omega)]; simp, .call v ho hv, fun _ => ⟨rfl, by omega⟩, fun e => by omega⟩
 exact this
inductive zgJ (m : zj) (j : zf) (M : EM) (p : Nat) (i : zc) (r : zA × EM) : Prop
 | ends : i.Op = 22 -> r.1.Ki = 4 -> r.2.sa = 2 -> Run m j r.2 p -> zgJ m j M p i r
 | asks : i.Op = 21 -> i.Imm <= 4 -> r.1.Ki = 2 -> r.2.sa = 1 -> Run m j r.2 p -> r.2.tu = M.tu -> (r.1.It.Map ∈ m.Ms /\ 0 <= r.1.It.Op /\ r.1.It.Op < 5) -> zgJ m j M p i r
 | goes : r.1.Ki = 1 \/ r.1.Ki = 3 -> r.2.sa = 0 -> zpb m j M r.2 p -> zgJ m j M p i r
theorem zj7 {m : zj} {j : zf} (hS : zhR m j) {M : EM} {p : Nat} (h : Run m j M p) (h0 : M.sa = 0) {i : zc} (hi : m.Co[p]? = some i) : OK (zel 5000 M) (fun r => zgJ m j M p i r /\ r.1.Pc = p) := by
 have hg := hS.good
 have hr := hg.fine.right hi
 have hA := zbH hr
 have hi2 : idx M.mo.Co M.at_ = some i := by
  rw [h.mod, h.at_]
  obtain ⟨x, hx1, hx2⟩ := vz h.lt
  rw [hi] at hx1; cases hx1; exact hx2
 have hrun : ∀ {steps state : Int}, Run m j ⟨M.Ev, M.mo, M.sc, M.rg, M.tu, M.at_, steps, state⟩ p := ⟨h.mod, h.at_, h.lt, h.known, h.u, h.fit, h.wo, h.ev⟩
 unfold zel
 refine OK.ite (fun e => by rw [h0] at e; cases e) (fun _ => OK.ite (fun e => by rw [h0] at e; cases e) (fun _ => ?_))
 rw [hi2]
 simp only [zbs]
 refine OK.ite (fun e => ?_) (fun e21 => ?_)
 ·have e : i.Op = 21 := by simpa using e
  have him := zbX hr e
  obtain ⟨n, hn⟩ := zof him.1
  obtain ⟨sg, s1, s2, s3, s4, s5, s6⟩ := zlw ⟨n, by omega⟩
  have s1' : xZ i.Imm = some (sg, true) := by rw [hn]; exact s1
  have s2' : sg.isAsked = decide (n <= 4) := s2
  refine OK.bind2 (R := fun r => zgJ m j M p i r /\ r.1.Pc = p) ?_ (fun x hx => OK.ret hx)
  unfold zgU zdc
  simp only [s1', zbs]
  refine OK.ite (fun ha => ?_) (fun ha => ?_)
  ·have h4 : n <= 4 := by rw [s2'] at ha; exact of_decide_eq_true ha
   obtain ⟨hany, x, hx, hsm⟩ := h.known
   have hk := hS.snd.handle p i x h.lt hi hany hx e (by omega)
   have hm := (hsm 1 (by omega)).2 hk
   have hw := hS.up.ji.wt p x hx 1 (by omega)
   have hb : 0 <= (x 1).Map /\ (x 1).Map < m.Ms.length := by
    rcases hw with hw | hw | hw
    ·rw [hw] at hk; simp [zax] at hk
    ·omega
    ·exact hw.2.2
   rw [h.mod]
   refine OK.bind (OK.get (by show 0 <= M.rg 1; omega) (by show M.rg 1 < _; omega) (fun mp hmp => ?_))
   obtain ⟨l, hl, _⟩ := zhY ⟨n, by omega⟩
   have hl' : qO 5000 i.Imm = some l := by rw [hn]; exact hl
   rw [hl']
   simp only [zbs]
   refine OK.bind2 (R := fun _ => True) (OK.ite (fun _ => OK.ret trivial) (fun _ => OK.ret trivial)) (fun v _ => OK.ret ⟨.asks e (by omega) rfl rfl ?_ rfl ⟨zmg hmp, s6 h4⟩, h.at_⟩)
   have := hrun (steps := w64 (M.sp + 1)) (state := 1)
   rw [h.mod] at this
   exact this
  ·have h5 : n = 5 \/ n = 6 := by rw [s2'] at ha; have := of_decide_eq_false ha; omega
   refine OK.bind2 (R := fun o => (o.2.Ki = 1 \/ o.2.Ki = 3) /\ o.2.Pc = (p : Int) /\ o.1.sa = 0 /\ zpb m j M ⟨o.1.Ev, o.1.mo, o.1.sc, o.1.rg, o.1.tu, w64 (o.1.at_ + 1), o.1.sp, o.1.sa⟩ p) ?_ (fun o ho => OK.ret ⟨.goes ho.1 ho.2.2.1 ho.2.2.2, ho.2.1⟩)
   refine OK.ite (fun e5 => ?_) (fun e5 => OK.ret ⟨.inr rfl, h.at_, h0, zgI hS h hi e (fun s hs => ?_) h.wo⟩)
   ·have e5 : n = 5 := by
     have : i.Imm = 5 := by simpa using e5
     omega
    refine OK.bind2 (zn7 _ _) (fun v hv => OK.ret ⟨.inl rfl, h.at_, h0, zgI hS h hi e (S := ⟨M.sc.Wo, v.2.2⟩) (fun s hs => ?_) h.wo⟩)
    rw [s1'] at hs; cases hs
    have := s4 (.inr (.inr e5))
    exact ⟨hv.1, by have := hv.2; omega⟩
   ·rw [s1'] at hs; cases hs
    exact ⟨Int.le_refl _, s3⟩
 refine OK.ite (fun e => ?_) (fun e22 => ?_)
 ·have e : i.Op = 22 := by simpa using e
  rw [zgi hA.1 hA.2]
  exact OK.ret ⟨.ends e rfl rfl hrun, h.at_⟩
 have e21 : i.Op ≠ 21 := by simpa using e21
 have e22 : i.Op ≠ 22 := by simpa using e22
 refine OK.bind2 (zpa hS (hrun (steps := w64 (M.sp + 1)) (state := M.sa)) hi e21 e22) (fun r hr => OK.ret ⟨.goes (.inl rfl) (by show r.2.sa = 0; rw [hr.st]; exact h0) ?_, h.at_⟩)
 exact zj6 hS hrun hi hr
theorem zm9 {h : Int} {r : xz} (hv : u64 r.Val) : OK (zbc h r) (fun v => u64 v /\ (h = 1 \/ h = 2 \/ h = 3 -> v <= 1)) := by
 unfold zbc
 refine OK.bind2 (R := fun o => o = true ↔ h = 0 \/ h = 4) ?_ (fun o ho => ?_)
 ·refine OK.ite (fun e => OK.ret ?_) (fun e => OK.ret ?_)
  ·have e : h = 0 := by simpa using e
   simp [e]
  ·have e : h ≠ 0 := by simpa using e
   simp [e]
 refine OK.ite (fun e => OK.ret ⟨hv, fun h3 => by have := ho.1 e; omega⟩) (fun _ => ?_)
 refine OK.bind2 (R := fun _ => True) (OK.ite (fun _ => OK.ret trivial) (fun _ => OK.ret trivial)) (fun o _ => ?_)
 have z : u64 0 /\ (h = 1 \/ h = 2 \/ h = 3 -> (0 : Int) <= 1) := ⟨⟨by simp, by simp⟩, fun _ => by simp⟩
 have o1 : u64 1 /\ (h = 1 \/ h = 2 \/ h = 3 -> (1 : Int) <= 1) := ⟨⟨by simp, by simp⟩, fun _ => by simp⟩
 exact OK.ite (fun _ => OK.ite (fun _ => OK.ret o1) (fun _ => OK.ret z)) (fun _ => OK.ite (fun _ => OK.ite (fun _ => OK.ret o1) (fun _ => OK.ret z)) (fun _ => OK.ret z))
theorem zlx {m : zj} {j : zf} (hS : zhR m j) {M : EM} {p : Nat} (h : Run m j M p) (h1 : M.sa = 1) {i : zc} (hi : m.Co[p]? = some i) (ho : i.Op = 21) (h4 : i.Imm <= 4) {res : xz} (hres : u64 res.Val) :
  OK (zcq M res) (fun r => r.1 = 0 /\ r.2.sa = 0 /\ zpb m j M r.2 p) := by
 have hr := hS.good.fine.right hi
 have him := zbX hr ho
 have hi2 : idx M.mo.Co M.at_ = some i := by
  rw [h.mod, h.at_]
  obtain ⟨x, hx1, hx2⟩ := vz h.lt
  rw [hi] at hx1; cases hx1; exact hx2
 unfold zcq
 refine OK.ite (fun e => by rw [h1] at e; simp at e) (fun _ => ?_)
 rw [hi2]
 simp only [zbs]
 refine OK.bind2 (zm9 hres) (fun v hv => OK.ret ⟨rfl, rfl, zgI hS h hi ho (fun s hs => ?_) h.wo⟩)
 obtain ⟨n, hn⟩ := zof him.1
 obtain ⟨sg, s1, s2, s3, s4, s5, s6⟩ := zlw ⟨n, by omega⟩
 have s1' : xZ i.Imm = some (sg, true) := by rw [hn]; exact s1
 rw [s1'] at hs; cases hs
 have hv1 := hv.1.1
 have hv2 := hv.1.2
 have : n = 0 \/ n = 4 \/ n = 1 \/ n = 2 \/ n = 3 := by omega
 rcases this with e | e | e | e | e
 ·have := s4 (.inl e); omega
 ·have := s4 (.inr (.inl e)); omega
 ·have := s5 (.inl e); have := hv.2 (by omega); omega
 ·have := s5 (.inr (.inl e)); have := hv.2 (by omega); omega
 ·have := s5 (.inr (.inr e)); have := hv.2 (by omega); omega
theorem zly (m : zj) (h1 : m.Ms.length * 8 <= 140737488355328) (h2 : m.Co.length * 40 <= 140737488355328) : vq m = some m := by
 unfold vq room
 rw [if_pos (by simpa using h1)]
 simp only [zbs]
 rw [if_pos (by simpa using h2)]
 simp
theorem zn8 {l : List Int} (h : l.length * 8 <= 140737488355328) : xf l = some l := by
 unfold xf room
 rw [if_pos (by simpa using h)]
 simp
theorem zn9 {l : List zc} (h : l.length * 40 <= 140737488355328) : zy l = some l := by
 unfold zy room
 rw [if_pos (by simpa using h)]
 simp
theorem ziB (m : zj) : ∃ o p e, qJ 5000 m = some (o, p, e) /\ ((e ≠ 0 /\ o = none) \/ (e = 0 /\ p = 0 /\ ∃ j, o = some j /\ zhR m j)) := by
 obtain ⟨⟨o, p, e⟩, h1, h2⟩ := ziL m
 refine ⟨o, p, e, h1, ?_⟩
 by_cases he : e = 0
 ·subst he
  obtain ⟨j, hj, a, b, c, d⟩ := zpJ (ziR m) h1 rfl
  exact .inr ⟨rfl, (h2.good rfl).1, j, hj, ⟨a, b, c, d⟩⟩
 ·exact .inl ⟨he, h2.bad he⟩
theorem zgs {m : zj} {o : Option zf} {p e : Int} (h : qJ 5000 m = some (o, p, e)) : va 5000 m = some (p, e) := by
 unfold va
 rw [h]
 cases o <;> rfl
def zlb (m : zj) (E : qw) (C : zY) : EM := ⟨E, m, ⟨⟨fun _ => 0⟩, C⟩, fun _ => 0, fun _ => 0, 0, 0, 0⟩
theorem zpc {m : zj} (h1 : m.Ms.length * 8 <= 140737488355328) (h2 : m.Co.length * 40 <= 140737488355328) {o : Option zf} {p e : Int} (h : qJ 5000 m = some (o, p, e)) (E : qw) (S : zk) :
  zke 5000 m E S = some (if e = 0 then (some (zlb m E S.Ct), 0) else (none, e)) := by
 unfold zke
 rw [zgs h]
 simp only [zbs]
 by_cases he : e = 0
 ·subst he
  rw [if_neg (by simp), if_pos rfl]
  simp only [vp, zn8 h1, zn9 h2, zbs]
  rfl
 ·rw [if_pos (by simpa using he), if_neg he]
theorem zqq {m : zj} {j : zf} (hS : zhR m j) {E : qw} (hE : u64 E.A /\ u64 E.B) (C : zY) : Run m j (zlb m E C) 0 := by
 have hn1 := hS.good.n1
 refine ⟨rfl, rfl, hn1, hS.snd.zero _ (fun r _ => ⟨by simp [zlb], by simp [zlb]⟩), fun r _ => ⟨by simp [zlb], by simp [zlb]⟩, fun a i ha ho => ?_, fun t => ⟨by simp [zlb], by simp [zlb]⟩, hE⟩
 ·have := hS.good.fine.loop ha ho
  exact ⟨by simp [zlb], by simp [zlb]; omega⟩
end Go.Proofs.YtbmknhpfkpmigaaGreatDoor

/- The judge is sound: ways; and at the end of the judge's going over a module. -/
import Derived.Test.YtkgajppghpmkbaaDoorKSound
set_option linter.unusedVariables false
set_option linter.unusedSimpArgs false
namespace Go.Proofs.YtkgajppghpmkbaaDoor
open Go.Sx

theorem aset_u64 {regs : Nat → Int} (h : U64s regs) {t : Nat} {v : Int} (hv : u64 v) : U64s (aset regs t v) := by
  intro r hr
  unfold aset
  split
  · exact hv
  · exact h r hr
theorem srcV_u64 {i : api_Inst} {regs : Nat → Int} (h : U64s regs) (hb : i.B = 8 ∨ (0 ≤ i.B ∧ i.B < 8)) : u64 (srcV i regs) := by
  unfold srcV
  split
  · exact wu64_rng _
  · rename_i e
    have : i.B ≠ 8 := by simpa using e
    exact h _ (by omega)
theorem Stp.u64s {i : api_Inst} {p q : Nat} {regs regs' : Nat → Int} (hr : rightB i = true) (h : Stp i p regs q regs') (hu : U64s regs) : U64s regs' := by
  have hA := right_A hr
  cases h with
  | set e => exact aset_u64 hu (srcV_u64 hu (right_src hr (.inl (by omega))))
  | arith e1 e2 => exact aset_u64 hu (ar_rng (hu _ (by omega)) (srcV_u64 hu (right_src hr (.inl (by omega)))))
  | any v e hv => exact aset_u64 hu hv
  | store e => exact hu
  | map e =>
    have := right_imm14 hr e
    exact aset_u64 hu ⟨this.1, by omega⟩
  | jump q e1 e2 => exact hu
  | yes q e1 e2 e3 e4 => exact hu
  | no e1 e2 e3 => exact hu
  | back q e1 e2 => exact hu
  | on e => exact hu
  | call v e hv =>
    have him := right_imm hr e
    obtain ⟨n, hn⟩ := Int.eq_ofNat_of_zero_le him.1
    obtain ⟨sg, hs1, hs2, hs3⟩ := sig_ok ⟨n, by omega⟩
    have := hv sg (by rw [hn]; exact hs1)
    exact aset_u64 hu ⟨this.1, by omega⟩
theorem goes_plain {i : api_Inst} (hr : rightB i = true) (h : ¬ (15 ≤ i.Op ∧ i.Op ≤ 20)) : goesB i = (0, false, i.Op != 22) := by
  unfold goesB
  have hj : jumpsB i = false := by
    simp only [jumpsB, hr, inB, Bool.true_and, Bool.and_eq_false_iff, decide_eq_false_iff_not]
    omega
  have hl : loopsB i = false := by
    simp only [loopsB, hr, Bool.true_and, beq_eq_false_iff_ne]
    omega
  simp [hj, hl, hr]
theorem goes_jump {i : api_Inst} (hr : rightB i = true) (h1 : 15 ≤ i.Op) (h2 : i.Op ≤ 19) : goesB i = (i.D + 1, true, i.Op != 15) := by
  unfold goesB
  have hj : jumpsB i = true := by simp [jumpsB, hr, inB, h1, h2]
  rw [if_pos hj]
theorem goes_loop {i : api_Inst} (hr : rightB i = true) (h : i.Op = 20) : goesB i = (-i.D, true, true) := by
  unfold goesB
  have hj : jumpsB i = false := by simp [jumpsB, inB, h]
  have hl : loopsB i = true := by simp [loopsB, hr, h]
  simp [hj, hl]
def At (j : judge_judge) (q : Nat) (regs : Nat → Int) : Prop := j.any[q]? = some true ∧ ∃ x, j.came[q]? = some x ∧ Sems x regs
theorem At.grow {j j' : judge_judge} {q : Nat} {regs : Nat → Int} (h : At j q regs) (hu : U64s regs) (hg : Grows j j') : At j' q regs := by
  obtain ⟨h1, x, h2, h3⟩ := h
  obtain ⟨x', h4, h5⟩ := hg.grow q x h1 h2
  exact ⟨hg.keep q h1, x', h4, h5.sems hu h3⟩
theorem come_at {m : api_Module} {j : judge_judge} (h : JI m j) {p : Nat} (hp : p < m.Code.length) {k : Nat → api_Type} (hk : ∀ r, r < 8 → WT m.Maps.length (k r)) :
    OK (judge_judge_come j (p : Int) k) (fun j' => JI m j' ∧ Grows j j' ∧ ∀ regs, U64s regs → Sems k regs → At j' p regs) :=
  (come_all h hp hk).mono (fun j' ⟨h1, _, _, h4, h5, x', h6, h7⟩ => ⟨h1, h4, fun regs hu hs => ⟨h5, x', h6, h7.sems hu hs⟩⟩)
theorem ways_in {m : api_Module} {j : judge_judge} (h : JI m j) (hg : Good m.Code) {p : Nat} (hp : p < m.Code.length) {i : api_Inst} (hi : m.Code[p]? = some i) {k0 k : Nat → api_Type} (hk : ∀ r, r < 8 → WT m.Maps.length (k r)) (hk0 : ∀ r, r < 8 → WT m.Maps.length (k0 r)) (hlv : Leaves m i k0 k) :
    OK (judge_judge_ways j (p : Int) k) (fun j' => Grows j j' ∧ ∀ regs q regs', U64s regs → Sems k0 regs → Stp i p regs q regs' → (i.Op = 20 → q = p + 1) → At j' q regs') := by
  have hn := hg.n64
  have hr := hg.fine.right hi
  have hi2 : idx m.Code (p : Int) = some i := by
    obtain ⟨x, hx1, hx2⟩ := idx_lt hp
    rw [hi] at hx1; cases hx1; exact hx2
  have e1 : w64 ((p : Int) + 1) = ((p + 1 : Nat) : Int) := by rw [w64_eq (by omega) (by omega)]; simp
  unfold judge_judge_ways
  rw [h.mod, hi2]
  simp only [opsGoes_eq, Option.bind_some]
  refine OK.ite (fun hc => OK.bind2 (R := fun j' => Grows j j' ∧ ∀ regs q regs', U64s regs → Sems k0 regs → Stp i p regs q regs' → (i.Op = 20 → q = p + 1) → At j' q regs') (OK.ite (fun hon => ?_) (fun hon => OK.ret ?_)) (fun o ho => OK.ret ho)) (fun hc => ?_)
  · -- it goes on
    rw [e1]
    refine OK.bind2 (come_at h (hg.fine.on hi hon) hk) (fun j' ⟨_, h2, h3⟩ => OK.ret ⟨h2, fun regs q regs' hu hs hst hb => ?_⟩)
    have hu' := hst.u64s hr hu
    by_cases hop : 15 ≤ i.Op ∧ i.Op ≤ 20
    · have h20 : i.Op = 20 := by
        by_cases e : i.Op = 20
        · exact e
        · exfalso
          rw [goes_jump hr hop.1 (by omega)] at hc
          have := right_op hr
          have hD := jump_D (i := i) (by simp [jumpsB, hr, inB]; omega)
          simp at hc
          omega
      rw [hb h20]
      refine h3 regs' hu' ?_
      rw [hlv.same hop.1 hop.2]
      cases hst with
      | on _ => exact hs
      | back q e1 e2 => exact hs
      | _ => omega
    · have hq : q = p + 1 := by cases hst <;> first | rfl | omega
      rw [hq]
      exact h3 regs' hu' (hlv.plain p regs q regs' hop hu hs hst)
  · -- it ends
    refine ⟨Grows.refl j, fun regs q regs' hu hs hst hb => ?_⟩
    exfalso
    have hon : (goesB i).2.2 = false := by simpa using hon
    by_cases hop : 15 ≤ i.Op ∧ i.Op ≤ 20
    · by_cases e : i.Op = 20
      · rw [goes_loop hr e] at hon; cases hon
      · rw [goes_jump hr hop.1 (by omega)] at hc
        have hD := jump_D (i := i) (by simp [jumpsB, hr, inB]; omega)
        simp at hc
        omega
    · rw [goes_plain hr hop] at hon
      have : i.Op = 22 := by simpa using hon
      cases hst <;> omega
  -- a jump
  have hl1 : (goesB i).2.1 = true ∧ 0 ≤ (goesB i).1 := by simp at hc; exact ⟨hc.1, by omega⟩
  have hop : 15 ≤ i.Op ∧ i.Op ≤ 19 := by
    rcases goes_D hl1.1 with h1 | h1
    · exact ⟨h1.2.1, h1.2.2.1⟩
    · omega
  have hgo := goes_jump hr hop.1 hop.2
  have hlead := hg.fine.leads hi hl1.1
  rw [hgo] at hlead ⊢
  simp only at hlead ⊢
  obtain ⟨q1, hq1⟩ := Int.eq_ofNat_of_zero_le hlead.1
  have eq1 : w64 ((p : Int) + (i.D + 1)) = (q1 : Int) := by rw [w64_eq (by omega) (by omega), hq1]
  have hsame := hlv.same hop.1 (by omega)
  subst hsame
  refine OK.ite (fun hj => ?_) (fun hj => ?_)
  · have h15 : i.Op = 15 := by simpa using hj
    rw [eq1]
    refine OK.bind2 (come_at h (by omega) hk) (fun j' ⟨_, h2, h3⟩ => OK.ret ⟨h2, fun regs q regs' hu hs hst hb => ?_⟩)
    cases hst with
    | jump q e1 e2 =>
      have : q = q1 := by omega
      rw [this]
      exact h3 _ hu hs
    | _ => omega
  have h16 : 16 ≤ i.Op := by
    have : i.Op ≠ 15 := by simpa using hj
    omega
  have hon : (goesB i).2.2 = true := by rw [hgo]; simpa using hj
  have hs := right_src hr (.inr ⟨h16, hop.2⟩)
  have hA := right_A hr
  have hnum := hlv.nums h16 hop.2
  rw [src_eq hs]
  simp only [Option.bind_some]
  have hsw := srcT_ok hs hk
  refine OK.bind2 (OK.count (fun t s => JI m s ∧ Grows j s ∧ (0 < t → ∀ regs, U64s regs → Sems k regs → hl i.Op (regs i.A.toNat) (srcV i regs) = true → At s q1 regs) ∧ (1 < t → ∀ regs, U64s regs → Sems k regs → hl i.Op (regs i.A.toNat) (srcV i regs) = false → At s (p + 1) regs))
    ⟨h, Grows.refl j, fun h => by omega, fun h => by omega⟩ (fun t s again ht hI kk => ?_) (fun s hI => hI)) (fun j' hj' => OK.ret ⟨hj'.2.1, fun regs q regs' hu hs hst hb => ?_⟩)
  · unfold judge_judge_ways_l1
    refine OK.bind (OK.getN (by simpa using ht) (fun x hx => ?_))
    have ht2 : t = 0 ∧ x = true ∨ t = 1 ∧ x = false := by
      have : t = 0 ∨ t = 1 := by omega
      rcases this with rfl | rfl
      · left; simp at hx; exact ⟨rfl, hx⟩
      · right; simp at hx; exact ⟨rfl, hx⟩
    refine OK.bind2 (R := fun (o : Int) => ∃ q' : Nat, o = (q' : Int) ∧ q' < m.Code.length ∧ (x = true → q' = q1) ∧ (x = false → q' = p + 1)) ?_ (fun o ho => ?_)
    · refine OK.ite (fun hx => OK.ret ⟨p + 1, e1, hg.fine.on hi hon, fun h => by simp [h] at hx, fun _ => rfl⟩) (fun hx => OK.ret ⟨q1, eq1, by omega, fun _ => rfl, fun h => by simp [h] at hx⟩)
    obtain ⟨q', rfl, hq', hqt, hqf⟩ := ho
    rw [ain8 hA.1 hA.2]
    simp only [Option.bind_some]
    refine OK.bind2 (R := fun r => SW r.1 ∧ ∀ regs, U64s regs → Sems k regs → hl i.Op (regs i.A.toNat) (srcV i regs) = x → r.2 = true ∧ inS r.1 (regs i.A.toNat)) ?_ (fun r hr2 => ?_)
    · obtain ⟨r0, hr0, hr1⟩ := refine_ok (op := i.Op) (h := x) (hk i.A.toNat (by omega)).span hsw.span
      rw [hr0]
      refine OK.ret ⟨hr1, fun regs hu hsm hh => ?_⟩
      have hx := (hsm i.A.toNat (by omega)).1 hnum.1
      have hy := (sem_src (regs := regs) hs hsm).1 hnum.2
      have := refine_in (op := i.Op) (hk i.A.toNat (by omega)).span hsw.span hx hy h16 hop.2
      rw [show (if i.B == 8 then wu64 i.Imm else regs i.B.toNat) = srcV i regs from rfl, hh] at this
      have hfin := okAt this hr0
      exact hfin
    have add : ∀ {s' : judge_judge}, JI m s' → Grows s s' → ((∀ regs, U64s regs → Sems k regs → hl i.Op (regs i.A.toNat) (srcV i regs) = x → At s' q' regs)) → OK (again s') (fun s => JI m s ∧ Grows j s ∧ (0 < 2 → ∀ regs, U64s regs → Sems k regs → hl i.Op (regs i.A.toNat) (srcV i regs) = true → At s q1 regs) ∧ (1 < 2 → ∀ regs, U64s regs → Sems k regs → hl i.Op (regs i.A.toNat) (srcV i regs) = false → At s (p + 1) regs)) := by
      intro s' hs' hgr hat
      refine kk s' ⟨hs', hI.2.1.trans hgr, fun _ regs hu hsm hh => ?_, fun h1 regs hu hsm hh => ?_⟩
      · rcases ht2 with ⟨rfl, hxx⟩ | ⟨rfl, hxx⟩
        · rw [← hqt hxx]
          exact hat regs hu hsm (by rw [hh, hxx])
        · exact (hI.2.2.1 (by omega) regs hu hsm hh).grow hu hgr
      · rcases ht2 with ⟨rfl, hxx⟩ | ⟨rfl, hxx⟩
        · omega
        · rw [← hqf hxx]
          exact hat regs hu hsm (by rw [hh, hxx])
    refine OK.ite (fun _ => ?_) (fun hf => ?_)
    · simp only [number_eq, Option.bind_some]
      refine OK.bind2 (come_at hI.1 hq' (aset_wt hk (WT.num hr2.1))) (fun s' ⟨a1, a2, a3⟩ => add a1 a2 (fun regs hu hsm hh => a3 regs hu (fun r hr => ?_)))
      unfold aset
      split
      · rename_i e
        rw [e]
        exact sem_num (hr2.2 regs hu hsm hh).2
      · exact hsm r hr
    · refine add hI.1 (Grows.refl s) (fun regs hu hsm hh => ?_)
      have := (hr2.2 regs hu hsm hh).1
      rw [hf] at this; cases this
  · cases hst with
    | yes q e1 e2 e3 e4 =>
      have : q = q1 := by omega
      rw [this]
      exact hj'.2.2.1 (by simp) _ hu hs e3
    | no e1 e2 e3 => exact hj'.2.2.2 (by simp) _ hu hs e3
    | _ => omega
structure Snd (m : api_Module) (n : Nat) (j : judge_judge) : Prop where
  zero : ∀ regs, U64s regs → At j 0 regs
  step : ∀ (p : Nat) (i : api_Inst) (x : Nat → api_Type), p < n → m.Code[p]? = some i → j.any[p]? = some true → j.came[p]? = some x → ∀ regs q regs', U64s regs → Sems x regs → Stp i p regs q regs' → At j q regs'
  handle : ∀ (p : Nat) (i : api_Inst) (x : Nat → api_Type), p < n → m.Code[p]? = some i → j.any[p]? = some true → j.came[p]? = some x → i.Op = 21 → i.Imm ≤ 4 → (x 1).Kind = 2
theorem step2_ok {m : api_Module} {j : judge_judge} {n : Nat} (h : Upto m n j) (h2 : Snd m n j) (hg : Good m.Code) (hn : n < m.Code.length) (again : judge_judge → Option (judge_judge ⊕ ((Option judge_judge) × Int × Int)))
    {Q : (judge_judge ⊕ ((Option judge_judge) × Int × Int)) → Prop} (hk : ∀ j', Upto m (n + 1) j' → Snd m (n + 1) j' → OK (again j') Q) (he : ∀ e, e ≠ 0 → Q (.inr (none, (n : Int), e))) : OK (judge_judged_l1 1000 n again j) Q := by
  unfold judge_judged_l1
  obtain ⟨a, ha, ha2⟩ := idx_lt (xs := j.any) (p := n) (by rw [h.ji.lenA]; exact hn)
  simp only [ha2, Option.bind_some]
  refine OK.ite (fun hf => ?_) (fun hf => ?_)
  · have hf : a = false := by simpa using hf
    have no : ∀ {p : Nat}, p < n + 1 → j.any[p]? = some true → p < n := by
      intro p hp hany
      by_cases e : p = n
      · subst e; rw [ha, hf] at hany; cases hany
      · omega
    exact hk j ⟨h.ji, h.zero, h.clos, fun p i hp hi ho hany => h.fits p i (no hp hany) hi ho hany⟩
      ⟨h2.zero, fun p i x hp hi hany hx => h2.step p i x (no hp hany) hi hany hx, fun p i x hp hi hany hx => h2.handle p i x (no hp hany) hi hany hx⟩
  have hat : j.any[n]? = some true := by rw [ha]; simpa using hf
  refine OK.bind2 (okBoth (widen_ok h.ji hg hn) (widen_in h.ji hg hn)) (fun j1 hj1 => ?_)
  obtain ⟨⟨hj1, ha1, hc1⟩, hw1⟩ := hj1
  refine OK.bind2 (okBoth (one_ok hj1 hg hn) (one_in hj1 hg hn)) (fun r hr => ?_)
  refine OK.ite (fun e => OK.ret (he _ (by simpa using e))) (fun e => ?_)
  obtain ⟨hr1, hr2⟩ := hr
  have hr1 := hr1 (by simpa using e)
  have hr2 := hr2 (by simpa using e)
  obtain ⟨i0, hi0, _⟩ := idx_lt hn
  obtain ⟨k0, hk0, _⟩ := idx_lt (xs := j1.came) (p := n) (by rw [hj1.lenC]; exact hn)
  have hlv := hr2 i0 k0 hi0 hk0
  have g1 : Grows j j1 := ⟨fun q x hq hx => by
    by_cases e : q = n
    · subst e; exact hw1 x hx
    · exact ⟨x, by rw [hc1 q e]; exact hx, Wider.refl x⟩, fun q hq => by rw [ha1]; exact hq⟩
  refine OK.bind2 (okBoth (ways_ok hj1 hg hn hr1.1) (ways_in hj1 hg hn hi0 hr1.1 (hj1.wt n k0 hk0) hlv)) (fun j2 hj2 => ?_)
  obtain ⟨⟨hj2, hw⟩, g2, hst2⟩ := hj2
  have hcl : Clos m.Code j1 := by intro q a ia; rw [ha1]; exact h.clos q a ia
  have hup : Upto m (n + 1) j2 := by
    refine ⟨hj2, hw.keep _ (by rw [ha1]; exact h.zero), hcl.ways hg (by rw [ha1]; exact hat) hw, fun p i hp hi ho hany q hq x hh hx hhd => ?_⟩
    have hlp := hg.fine.loop hi ho
    rw [(hw.same p (by omega)).1] at hx
    rw [(hw.same _ (by omega)).1] at hhd
    rw [(hw.same p (by omega)).2, ha1] at hany
    by_cases e : p = n
    · subst e
      exact hr1.2 i hi ho q hq x hh hx hhd
    · rw [hc1 p e] at hx
      rw [hc1 _ (by omega)] at hhd
      exact h.fits p i (by omega) hi ho hany q hq x hh hx hhd
  refine hk j2 hup ⟨fun regs hu => ((h2.zero regs hu).grow hu g1).grow hu g2, fun p i x hp hi hany hx regs q regs' hu hs hst => ?_, fun p i x hp hi hany hx ho him => ?_⟩
  · have hr := hg.fine.right hi
    by_cases e : p = n
    · subst e
      obtain rfl : i = i0 := by rw [hi] at hi0; exact Option.some.inj hi0
      have hx2 := hx
      rw [(hw.same p (Nat.le_refl _)).1, hk0] at hx2; cases hx2
      by_cases hb : i.Op = 20 → q = p + 1
      · exact hst2 regs q regs' hu hs hst hb
      · -- the loop's way back
        have ho : i.Op = 20 := Classical.byContradiction (fun hne => hb (fun e => absurd e hne))
        have hlp := hg.fine.loop hi ho
        have hq : (q : Int) = p - i.D ∧ regs' = regs := by
          cases hst with
          | back q e1 e2 => exact ⟨e2, rfl⟩
          | on e1 => exact absurd (fun _ => rfl) hb
          | _ => omega
        obtain ⟨hq, rfl⟩ := hq
        have hany2 := hup.clos p p i hany hi ho (by omega) (Nat.le_refl _)
        have hqn : ((p : Int) - i.D).toNat = q := by omega
        rw [hqn] at hany2
        obtain ⟨hd, hd1, _⟩ := idx_lt (xs := j2.came) (p := q) (by rw [hj2.lenC]; omega)
        exact ⟨hany2, hd, hd1, fun r hr => sem_fits (hup.fits p i (by omega) hi ho hany r hr _ hd hx (by rw [hqn]; exact hd1)) (hs r hr)⟩
    · have hx2 := hx
      rw [(hw.same p (by omega)).1, hc1 p e] at hx2
      have hany2 := hany
      rw [(hw.same p (by omega)).2, ha1] at hany2
      have := h2.step p i x (by omega) hi hany2 hx2 regs q regs' hu hs hst
      exact (this.grow (hst.u64s hr hu) g1).grow (hst.u64s hr hu) g2
  · by_cases e : p = n
    · subst e
      obtain rfl : i = i0 := by rw [hi] at hi0; exact Option.some.inj hi0
      rw [(hw.same p (Nat.le_refl _)).1, hk0] at hx; cases hx
      exact hlv.handle ho him
    · rw [(hw.same p (by omega)).1, hc1 p e] at hx
      rw [(hw.same p (by omega)).2, ha1] at hany
      exact h2.handle p i x (by omega) hi hany hx ho him
theorem judged_sound (m : api_Module) : OK (judge_judged 1000 m) (fun r => r.2.2 = 0 → ∃ j, r.1 = some j ∧ Good m.Code ∧ GoodM m.Maps ∧ Upto m m.Code.length j ∧ Snd m m.Code.length j) := by
  unfold judge_judged
  refine OK.bind2 (good_ok _) (fun g hgm => ?_)
  refine OK.ite (fun _ => OK.ret (fun h => by simp at h)) (fun hgt => ?_)
  have hgm := hgm.1 (by simpa using hgt)
  obtain ⟨r, h1, h2, h3, h4⟩ := check_one m.Code
  simp only [h1, Option.bind_some]
  refine OK.ite (fun hr => OK.ret (fun h => absurd h (by simpa using hr))) (fun hr => ?_)
  have hg := (h3 (by simpa using hr)).2
  have hn := hg.n64
  have hn1 := hg.n1
  refine OK.bind2 (R := fun o => o = judge_judge.mk m (List.replicate m.Code.length (fun _ => zeroT)) (List.replicate m.Code.length false) []) ?_ (fun o ho => ?_)
  · refine OK.bind (OK.mkl (by omega) (by simp; omega) ?_)
    refine OK.bind (OK.mkl (by omega) (by simp; omega) (OK.ret ?_))
    simp [zeroT]
  subst ho
  simp only [good_loops hg, Option.bind_some]
  have e0 : idx (List.replicate m.Code.length false) 0 = some false := by
    have := idxN (xs := List.replicate m.Code.length false) (i := 0) (by simp; omega)
    simpa using this
  rw [e0]
  simp only [Option.bind_some]
  refine OK.bind2 (OK.count (Q := fun o => match o with | .inl j => Upto m m.Code.length j ∧ Snd m m.Code.length j | .inr r => r.2.2 ≠ 0) (fun i s => Upto m i s ∧ Snd m i s) ⟨?_, ⟨fun regs _ => ?_, fun p i x hp => by omega, fun p i x hp => by omega⟩⟩ (fun i s again hi hI k => step2_ok hI.1 hI.2 hg hi again (fun j' a b => k j' ⟨a, b⟩) (fun e he => he)) (fun s hI => hI)) (fun o ho => ?_)
  · simpa using upto0 hg
  · obtain ⟨x, hx, _⟩ := idx_lt (xs := List.replicate m.Code.length (fun _ : Nat => zeroT)) (p := 0) (by simp; omega)
    refine ⟨?_, x, by simpa using hx, fun r _ => ?_⟩
    · have : 0 < m.Code.length := by omega
      simp [this]
    · have e : x = fun _ => zeroT := by
        rw [List.getElem?_replicate] at hx
        split at hx
        · exact (Option.some.inj hx).symm
        · cases hx
      rw [e]
      exact sem_zero _
  · cases o with
    | inl j => exact OK.ret (fun _ => ⟨j, rfl, hg, hgm, ho.1, ho.2⟩)
    | inr r => exact OK.ret (fun h => absurd h ho)
end Go.Proofs.YtkgajppghpmkbaaDoor

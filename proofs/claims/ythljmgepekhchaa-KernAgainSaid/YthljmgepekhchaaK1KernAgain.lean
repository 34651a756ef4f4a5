/- KernAgain's plain law. -/
import Derived.Test.YthljmgepekhchaaK2
import Derived.Test.YthljmgepekhchaaD1
set_option linter.unusedVariables false
namespace Go.Proofs.Ythljmgepekhchaa
open Go.Sx

theorem wish_of {w : List Bool} {n : Nat} {x : Int} {a : Nat} (h : (posn (wish w) n)[a]? = some x) : ∃ t : Nat, t < n ∧ wish w t = true ∧ x = (t : Int) := posn_at h

/-- strictly rising -/
theorem posn_lt {p : Nat → Bool} {n a b : Nat} {x y : Int} (hx : (posn p n)[a]? = some x) (hy : (posn p n)[b]? = some y) (h : a < b) : x < y := by
  obtain ⟨ha, rfl⟩ := List.getElem?_eq_some_iff.1 hx
  obtain ⟨hb, rfl⟩ := List.getElem?_eq_some_iff.1 hy
  exact List.pairwise_iff_getElem.1 (posn_sorted p n) a b ha hb h

/-- when the m-th of the ready ones was last picked, after q whole rounds and m picks more -/
def lastPick (L q m k : Int) : Int := if k < m then q * L + k + 1 else if q = 0 then 0 else (q - 1) * L + k + 1

theorem again_law (fu : Nat) (p0 : Int) (p1 : List Bool) (p2 : Int) (hf : 1000 ≤ fu) (g2 : -9223372036854775808 ≤ p2 ∧ p2 ≤ 9223372036854775807) : tappetlaw21_KernAgain fu p0 p1 p2 = some true := by
  refine OK.is ?_
  unfold tappetlaw21_KernAgain
  rw [awake_law]
  refine OK.bind (OK.ret (OK.ite_false rfl ?_))
  rcases new_law p0 with ⟨h, e⟩ | ⟨h, e⟩
  · rw [e]
    exact OK.bind (OK.ret (OK.none_ (OK.bind (OK.ret (OK.none_ (OK.ret rfl))))))
  rw [e]
  refine OK.bind (OK.ret (OK.some_ (OK.bind (OK.ret (OK.some_ ?_)))))
  have hn0 := kern0_len p0.toNat
  obtain ⟨r, hr, hset⟩ := set_law (kern0 p0.toNat) p1
  rw [hr]
  rcases hset with ⟨h1, rfl⟩ | ⟨h1, h2, h3⟩
  · refine OK.bind (OK.bind (OK.ret (OK.ite_true rfl (OK.ret (OK.ite_true rfl (OK.ret ?_))))))
    simp
    omega
  refine OK.bind (OK.bind (OK.ret (OK.ite_false (by rw [h2]; rfl) (OK.bind (OK.ret (OK.ret (OK.ite_false (by rw [h2]; rfl) ?_)))))))
  obtain ⟨e1, K⟩ := r
  have hlen : K.tasks.length = p0.toNat := by rw [h3.len, hn0]
  have ht0 : K.turns = 0 := h3.turns
  have hready := set0_ready h3 (by omega)
  have hpk : ∀ (j : Nat) (y : kern_task), K.tasks[j]? = some y → y.picked = 0 := by
    intro j y hy
    rw [h3.at_, kern0_at] at hy
    by_cases hj : j < p0.toNat
    · rw [if_pos hj] at hy
      cases hy
      rfl
    · rw [if_neg hj] at hy
      cases hy
  have hRl := posn_len (wish p1) p0.toNat
  have hmode := set0_mode h3 (by omega)
  rw [ready_law K (by omega), hready]
  refine OK.bind (OK.ret (OK.ite (fun _ => OK.ret rfl) (fun hne => ?_)))
  generalize hR : posn (wish p1) p0.toNat = R at *
  have hL : 0 < R.length := by
    have : (R.length : Int) ≠ 0 := by simpa using hne
    omega
  refine OK.bind2 (R := fun o => o = .inl ()) ?_ ?_
  · -- the rounds of fair picks
    refine OK.rounds (fun s => s.1.tasks.length = p0.toNat ∧ (∀ i, modeIs s.1 1 i = wish p1 i) ∧ s.1.turns = s.2 ∧ ∃ q m : Int, 0 ≤ q ∧ q ≤ 3 ∧ 0 ≤ m ∧ m < (R.length : Int) ∧ s.2 = q * (R.length : Int) + m ∧ (q = 3 → m = 0) ∧
      ∀ (k t : Nat) (y : kern_task), R[k]? = some (t : Int) → s.1.tasks[t]? = some y → y.picked = lastPick (R.length : Int) q m (k : Int)) (fun s => (3 * (R.length : Int) - s.2).toNat) ?_ fu _ ⟨hlen, hmode, ht0, 0, 0, by omega, by omega, by omega, by omega, by simp, by omega, fun k t y hk hy => ?_⟩ (by simp; omega)
    rotate_left
    · rw [hpk t y hy]
      unfold lastPick
      rw [if_neg (by omega), if_pos rfl]
    intro s again hs k
    obtain ⟨s1, s2, s3, q, m, q0, q3, m0, mL, hi, hq3, hpick⟩ := hs
    unfold tappetlaw21_KernAgain_l1
    rw [w64_eq (x := 3 * (R.length : Int)) (by omega) (by omega)]
    refine OK.ite (fun h => ?_) (fun h => OK.ret rfl)
    have hlt : s.2 < 3 * (R.length : Int) := by simpa using h
    have hq2 : q ≤ 2 := by
      rcases (by omega : q = 0 ∨ q = 1 ∨ q = 2 ∨ q = 3) with rfl | rfl | rfl | rfl <;> omega
    have hs0 : 0 ≤ s.2 := by
      rcases (by omega : q = 0 ∨ q = 1 ∨ q = 2) with rfl | rfl | rfl <;> omega
    have hrs : posn (modeIs s.1 1) s.1.tasks.length = R := by rw [s1, posn_congr s2, hR]
    refine OK.bind2 (fair_law s.1 (by omega) (by omega)) ?_
    rw [hrs]
    have hmn : m.toNat < R.length := by omega
    obtain ⟨tm, tm1, tm2, htm⟩ := wish_of (w := p1) (n := p0.toNat) (a := m.toNat) (x := R[m.toNat]) (by rw [hR]; exact List.getElem?_eq_getElem hmn)
    have hRm : R[m.toNat]? = some (tm : Int) := by rw [List.getElem?_eq_getElem hmn, htm]
    obtain ⟨ym, hym, hmm⟩ := modeIs_iff.1 ((s2 tm).trans tm2)
    rintro r (⟨h5, _⟩ | ⟨t, x, h5, h6, h7, rfl⟩)
    · rw [h5] at hL
      exact absurd hL (by simp)
    have htn : t < p0.toNat := by have := (List.getElem?_eq_some_iff.1 h5).1; omega
    have hw : wish p1 t = true := (s2 t).symm.trans (modeIs_iff.2 ⟨x, h5, h6⟩)
    have hmem : (t : Int) ∈ R := by rw [← hR]; exact mem_posn.2 ⟨t, htn, hw, rfl⟩
    obtain ⟨kk, hkk⟩ := List.mem_iff_getElem?.1 hmem
    have hkl := (List.getElem?_eq_some_iff.1 hkk).1
    have p1' := hpick kk t x hkk h5
    have p2' := hpick m.toNat tm ym hRm hym
    have hcmp := h7 tm ym hym hmm
    have hkm : kk = m.toNat := by
      rcases Nat.lt_trichotomy kk m.toNat with hlt' | rfl | hgt
      · exfalso
        unfold lastPick at p1' p2'
        rw [if_pos (by omega)] at p1'
        rw [if_neg (by omega)] at p2'
        rcases (by omega : q = 0 ∨ q = 1 ∨ q = 2) with rfl | rfl | rfl
        · rw [if_pos rfl] at p2'; omega
        · rw [if_neg (by omega)] at p2'; omega
        · rw [if_neg (by omega)] at p2'; omega
      · rfl
      · exfalso
        have hord : (tm : Int) < (t : Int) := by
          rw [← hR] at hRm hkk
          exact posn_lt hRm hkk hgt
        unfold lastPick at p1' p2'
        rw [if_neg (by omega)] at p1' p2'
        rcases (by omega : q = 0 ∨ q = 1 ∨ q = 2) with rfl | rfl | rfl
        · rw [if_pos rfl] at p1' p2'; omega
        · rw [if_neg (by omega)] at p1' p2'; omega
        · rw [if_neg (by omega)] at p1' p2'; omega
    subst hkm
    have htt : t = tm := by
      rw [hRm] at hkk
      have := Option.some.inj hkk
      omega
    subst htt
    have hmod : s.2.tmod (R.length : Int) = m := by
      rw [Int.tmod_eq_emod_of_nonneg hs0, hi, Int.mul_comm, Int.add_comm, Int.add_mul_emod_self_left]
      exact Int.emod_eq_of_lt m0 mL
    refine OK.bind2 (R := fun o => o = false) ?_ ?_
    · refine OK.ite_false rfl (OK.bind (OK.isNz (by omega) (OK.bind ?_)))
      rw [hmod]
      refine OK.get m0 mL (fun z hz => OK.ret ?_)
      rw [hRm] at hz
      cases hz
      simp
    rintro o rfl
    have e2 : w64 (s.2 + 1) = s.2 + 1 := w64_eq (by omega) (by omega)
    have htl : t < s.1.tasks.length := by omega
    refine OK.ite_false rfl (k _ ⟨?_, ?_, ?_, ?_⟩ ?_)
    · show (took s.1 t).tasks.length = _
      rw [took_len, s1]
    · intro i
      show modeIs (took s.1 t) 1 i = _
      rw [took_mode, s2]
    · show (took s.1 t).turns = w64 (s.2 + 1)
      rw [took_turns htl, e2, s3]
    · -- the next place
      have next : ∀ (q' m' : Int), 0 ≤ q' → q' ≤ 3 → 0 ≤ m' → m' < (R.length : Int) → s.2 + 1 = q' * (R.length : Int) + m' → (q' = 3 → m' = 0) →
          (∀ k' : Nat, k' < R.length → k' ≠ m.toNat → lastPick (R.length : Int) q' m' (k' : Int) = lastPick (R.length : Int) q m (k' : Int)) → lastPick (R.length : Int) q' m' m = s.2 + 1 →
          ∃ q m : Int, 0 ≤ q ∧ q ≤ 3 ∧ 0 ≤ m ∧ m < (R.length : Int) ∧ w64 (s.2 + 1) = q * (R.length : Int) + m ∧ (q = 3 → m = 0) ∧
            ∀ (k t' : Nat) (y : kern_task), R[k]? = some (t' : Int) → (took s.1 t).tasks[t']? = some y → y.picked = lastPick (R.length : Int) q m (k : Int) := by
        intro q' m' a1 a2 a3 a4 a5 a6 a7 a8
        refine ⟨q', m', a1, a2, a3, a4, by rw [e2, a5], a6, fun k' t' y hk' hy => ?_⟩
        have hk'l := (List.getElem?_eq_some_iff.1 hk').1
        rw [took_at htl] at hy
        cases hyt : s.1.tasks[t']? with
        | none => rw [hyt] at hy; cases hy
        | some y0 =>
          rw [hyt] at hy
          simp only [Option.map_some, Option.some.injEq] at hy
          by_cases hkm : k' = m.toNat
          · subst hkm
            rw [hRm] at hk'
            have e3 : t' = t := by have := Option.some.inj hk'; omega
            rw [if_pos e3] at hy
            rw [← hy]
            show s.1.turns + 1 = _
            have e4 : ((m.toNat : Nat) : Int) = m := by omega
            rw [e4, a8, s3]
          · have e3 : t' ≠ t := by
              rintro rfl
              rcases Nat.lt_or_ge k' m.toNat with hlt' | hge
              · have : (t' : Int) < (t' : Int) := by
                  rw [← hR] at hRm hk'
                  exact posn_lt hk' hRm hlt'
                omega
              · have : (t' : Int) < (t' : Int) := by
                  rw [← hR] at hRm hk'
                  exact posn_lt hRm hk' (by omega)
                omega
            rw [if_neg e3] at hy
            rw [← hy, a7 k' hk'l hkm]
            exact hpick k' t' y0 hk' hyt
      show ∃ q m : Int, 0 ≤ q ∧ q ≤ 3 ∧ 0 ≤ m ∧ m < (R.length : Int) ∧ w64 (s.2 + 1) = q * (R.length : Int) + m ∧ (q = 3 → m = 0) ∧
            ∀ (k t' : Nat) (y : kern_task), R[k]? = some (t' : Int) → (took s.1 t).tasks[t']? = some y → y.picked = lastPick (R.length : Int) q m (k : Int)
      by_cases hlast : m + 1 < (R.length : Int)
      · refine next q (m + 1) q0 q3 (by omega) hlast (by rw [hi]; omega) (by omega) ?_ ?_
        · intro k' hk' hne
          unfold lastPick
          by_cases hc : (k' : Int) < m
          · rw [if_pos hc, if_pos (by omega)]
          · rw [if_neg hc, if_neg (by omega)]
        · unfold lastPick
          rw [if_pos (by omega), hi]
      · have hmL : m + 1 = (R.length : Int) := by omega
        refine next (q + 1) 0 (by omega) (by omega) (by omega) (by omega) (by rw [hi, Int.add_mul]; omega) (by omega) ?_ ?_
        · intro k' hk' hne
          unfold lastPick
          rw [if_neg (by omega), if_neg (by omega), if_pos (by omega), show q + 1 - 1 = q by omega]
        · unfold lastPick
          rw [if_neg (by omega), if_neg (by omega), show q + 1 - 1 = q by omega, hi]
    · show (3 * (R.length : Int) - w64 (s.2 + 1)).toNat < (3 * (R.length : Int) - s.2).toNat
      omega
  rintro o rfl
  -- the same choice, the same task
  have hne0 : (R.length : Int) ≠ 0 := by omega
  refine OK.bind (OK.isNz hne0 ?_)
  have step : ∀ (K' : kern_Kern) (c : Int) (Q : (Int × Bool × kern_Kern) → Prop), K'.tasks.length = p0.toNat → (∀ i, modeIs K' 1 i = wish p1 i) → 0 ≤ K'.turns → K'.turns ≤ 5 →
      (∀ t : Nat, R[(c % (R.length : Int)).toNat]? = some (t : Int) → t < p0.toNat → Q ((t : Int), true, took K' t)) → OK (kern_Kern_Pick K' c) Q := by
    intro K' c Q b1 b2 b3 b4 b5
    refine (pick_law K' c (by omega) (by omega)).mono ?_
    have hrs : posn (modeIs K' 1) K'.tasks.length = R := by rw [b1, posn_congr b2, hR]
    rw [hrs]
    rintro r (⟨h5, _⟩ | ⟨a, t, h5, h6, h7, rfl⟩)
    · rw [h5] at hL
      exact absurd hL (by simp)
    · refine b5 t ?_ (by omega)
      rw [← h5]
      exact h6
  have hmodL : (p2.tmod (R.length : Int)) % (R.length : Int) = p2 % (R.length : Int) := by
    have h1 := Int.tmod_add_mul_tdiv p2 (R.length : Int)
    have h2 := Int.add_mul_emod_self_left (p2.tmod (R.length : Int)) (R.length : Int) (p2.tdiv (R.length : Int))
    rw [h1] at h2
    exact h2.symm
  have hlow : -(R.length : Int) < p2.tmod (R.length : Int) := by
    have := Int.tmod_lt_of_pos (-p2) (b := (R.length : Int)) (by omega)
    rw [Int.neg_tmod] at this
    omega
  have hhi : p2.tmod (R.length : Int) < (R.length : Int) := Int.tmod_lt_of_pos p2 (by omega)
  refine OK.bind2 (step K p2 (fun r => ∃ t : Nat, R[(p2 % (R.length : Int)).toNat]? = some (t : Int) ∧ t < p0.toNat ∧ r = ((t : Int), true, took K t)) hlen hmode (by omega) (by omega) (fun t a1 a2 => ⟨t, a1, a2, rfl⟩)) ?_
  rintro r ⟨t, a1, a2, rfl⟩
  have ta := took_turns (K := K) (t := t) (by omega)
  refine OK.bind2 (step (took K t) _ (fun r => r = ((t : Int), true, took (took K t) t)) (by rw [took_len, hlen]) (fun i => by rw [took_mode, hmode]) (by omega) (by omega) (fun t' b1 b2 => ?_)) ?_
  · rw [hmodL, a1] at b1
    have : t' = t := by have := Option.some.inj b1; omega
    rw [this]
  rintro r rfl
  have tb := took_turns (K := took K t) (t := t) (by rw [took_len]; omega)
  refine OK.bind2 (step (took (took K t) t) _ (fun r => r = ((t : Int), true, took (took (took K t) t) t)) (by rw [took_len, took_len, hlen]) (fun i => by rw [took_mode, took_mode, hmode]) (by omega) (by omega) (fun t' b1 b2 => ?_)) ?_
  · rw [w64_eq (by omega) (by omega), Int.add_emod_right, hmodL, a1] at b1
    have : t' = t := by have := Option.some.inj b1; omega
    rw [this]
  rintro r rfl
  refine OK.ret ?_
  simp

theorem kernAgain_true (p0 : Int) (p1 : List Bool) (p2 : Int) (g0 : (Lit.int .i64 p0).wf = true) (g1 : p1.length * 1 ≤ reachBytes ∧ ∀ y ∈ p1, True) (g2 : (Lit.int .i64 p2).wf = true) : ∃ fu, tappetlaw21_KernAgain fu p0 p1 p2 = some true := by
  refine ⟨1000, again_law 1000 p0 p1 p2 (by omega) ?_⟩
  have h1 : IntKind.i64.min = -9223372036854775808 := rfl
  have h2 : IntKind.i64.max = 9223372036854775807 := rfl
  simp only [Lit.wf, Bool.and_eq_true, decide_eq_true_eq] at g2
  omega
end Go.Proofs.Ythljmgepekhchaa

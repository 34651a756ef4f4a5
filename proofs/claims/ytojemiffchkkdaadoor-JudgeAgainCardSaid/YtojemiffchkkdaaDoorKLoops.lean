/- JudgeLoops' plain law. -/
import Derived.Test.YtojemiffchkkdaaDoorKJudged
set_option linter.unusedVariables false
set_option linter.unusedSimpArgs false
namespace Go.Proofs.YtojemiffchkkdaaDoor
open Go.Sx

theorem awake_true : tappetlaw09_awake 100 = some true := by decide +kernel
theorem copied_eq (m : api_Module) (h1 : m.Maps.length * 8 ≤ 140737488355328) (h2 : m.Code.length * 40 ≤ 140737488355328) : tappetlaw09_copied m = some m := by
  unfold tappetlaw09_copied room
  rw [if_pos (by simpa using h1)]
  simp only [Option.bind_some]
  rw [if_pos (by simpa using h2)]
  simp
theorem law_fits {a b : api_Type} (h : fitsB a b) (hb : b = zeroT ∨ b.Kind = 1 ∨ b.Kind = 2) : tappetlaw09_fits a b = some true := by
  refine OK.is ?_
  unfold tappetlaw09_fits
  refine OK.ite (fun _ => OK.ret rfl) (fun h0 => ?_)
  have h0 : b.Kind ≠ 0 := by simpa using h0
  have hk : b.Kind = 1 ∨ b.Kind = 2 := by
    rcases hb with rfl | hb
    · exact absurd rfl h0
    · exact hb
  refine OK.ite (fun h1 => ?_) (fun h1 => OK.ret ?_)
  · have h1 : b.Kind = 1 := by simpa using h1
    have := h.1 h1
    refine OK.bind2 (R := fun r => r = true) (OK.ite (fun _ => OK.bind2 (within_ok _ _) (fun x hx => OK.ret (hx.2 this.2))) (fun hn => ?_)) (fun x hx => OK.ret hx)
    have : a.Kind ≠ 1 := by simpa using hn
    exact absurd (h.1 h1).1 this
  · have h1 : b.Kind ≠ 1 := by simpa using h1
    have := h.2 (by omega)
    subst this
    simp
theorem type_wt {n : Nat} {x : api_Type} (h : WT n x) : x = zeroT ∨ x.Kind = 1 ∨ x.Kind = 2 := by
  rcases h with h | h | h
  · exact .inl h
  · exact .inr (.inl h.1)
  · exact .inr (.inr h.1)
theorem l2_ok {m : api_Module} {r : (List (List api_Type)) × Int} {p i : Nat} {k : List api_Type} {x : api_Type} {again : Unit → Option (Unit ⊕ Bool)} (h1 : idx r.1 (p : Int) = some k) (h2 : idx k (i : Int) = some x) (hx : WT m.Maps.length x) :
    tappetlaw09_JudgeLoops_l2 m r p i again () = again () := by
  unfold tappetlaw09_JudgeLoops_l2
  simp only [h1, h2, Option.bind_some]
  rcases hx with rfl | ⟨e1, e2, e3⟩ | ⟨e1, e2, e3, e4⟩
  · simp [zeroT]
  · simp [e1, e3, right_t e2]
  · have : ¬ x.Map < 0 := by omega
    have h5 : ¬ (m.Maps.length : Int) ≤ x.Map := by omega
    simp [e1, e2, this, h5]
theorem judgeLoops_law (m : api_Module) (h1 : m.Maps.length * 8 ≤ 140737488355328) (h2 : m.Code.length * 40 ≤ 140737488355328) : tappetlaw09_JudgeLoops 100 m = some true := by
  refine OK.is ?_
  unfold tappetlaw09_JudgeLoops
  rw [awake_true]
  simp only [Option.bind_some, copied_eq m h1 h2]
  refine OK.ite (fun h => by cases h) (fun _ => ?_)
  obtain ⟨⟨o, p, e⟩, hj, hJ⟩ := judged_ok m
  rw [Types_ok m hj hJ]
  simp only [Option.bind_some]
  refine OK.ite (fun he => ?_) (fun he => ?_)
  · have he : e ≠ 0 := by simpa using he
    rw [if_neg he]
    exact OK.ret (by simp)
  have he : e = 0 := by simpa using he
  subst he
  obtain ⟨_, hg, _, j, hj2, hu⟩ := hJ.good rfl
  simp only at hj2
  subst hj2
  simp only [if_true]
  have hlen : (typesOf j).length = m.Code.length := by rw [types_len, hu.ji.lenC]
  have hn1 := hg.n1
  have hat : ∀ {q : Nat}, q < m.Code.length → idx (typesOf j) (q : Int) = some (known j q) := fun {q} hq => by
    obtain ⟨x, hx1, hx2⟩ := idx_lt (xs := typesOf j) (p := q) (by omega)
    rw [types_at (by rw [hu.ji.lenC]; exact hq)] at hx1
    rw [hx2, ← hx1]
  have hk : ∀ {q : Nat}, q < m.Code.length → (known j q = [] ∧ j.any[q]? ≠ some true) ∨ ∃ c, j.any[q]? = some true ∧ j.came[q]? = some c ∧ known j q = arrL 8 c := by
    intro q hq
    obtain ⟨c, hc, _⟩ := idx_lt (xs := j.came) (p := q) (by rw [hu.ji.lenC]; exact hq)
    obtain ⟨a, ha, _⟩ := idx_lt (xs := j.any) (p := q) (by rw [hu.ji.lenA]; exact hq)
    cases a with
    | true => exact .inr ⟨c, ha, hc, by unfold known; rw [ha, hc]⟩
    | false => exact .inl ⟨by unfold known; rw [ha], by rw [ha]; simp⟩
  have harr : ∀ {c : Nat → api_Type} {i : Nat}, i < 8 → idx (arrL 8 c) (i : Int) = some (c i) := by
    intro c i hi
    have := idxN (xs := arrL 8 c) (i := i) (by rw [arrL_len]; exact hi)
    rw [this]
    simp [arrL]
  refine OK.bind2 (R := fun b => b = false) (OK.ite (fun h => ?_) (fun _ => ?_)) (fun b hb => ?_)
  · rw [hlen] at h; simp at h
  · have h0 := hat (q := 0) (by omega)
    rw [show ((0 : Nat) : Int) = 0 from rfl] at h0
    rw [h0]
    simp only [Option.bind_some]
    rcases hk (q := 0) (by omega) with h | ⟨c, h3, h4, h5⟩
    · exact absurd hu.zero h.2
    · rw [h5, arrL_len]; exact OK.ret (by simp)
  subst hb
  refine OK.ite (fun h => by cases h) (fun _ => ?_)
  refine OK.bind2 (OK.count (Q := fun o => o = Sum.inl ()) (fun _ _ => True) trivial (fun q s again hq _ kk => ?_) (fun _ _ => rfl)) (fun o ho => by subst ho; exact OK.ret rfl)
  have hq' : q < m.Code.length := by omega
  unfold tappetlaw09_JudgeLoops_l1
  rw [hat hq']
  simp only [Option.bind_some]
  rcases hk hq' with ⟨h3, _⟩ | ⟨c, h3, h4, h5⟩
  · rw [h3]
    exact OK.ite_true (by simp) (kk () trivial)
  have hw := hu.ji.wt q c h4
  refine OK.ite (fun h => ?_) (fun _ => OK.ite (fun h => ?_) (fun _ => ?_))
  · rw [h5, arrL_len] at h; simp at h
  · rw [h5, arrL_len] at h; simp at h
  refine OK.bind2 (OK.count (Q := fun o => o = Sum.inl ()) (fun _ _ => True) trivial (fun i s again hi _ kk => ?_) (fun _ _ => rfl)) (fun o ho => ?_)
  · have e : idx (typesOf j) (q : Int) = some (arrL 8 c) := by rw [hat hq', h5]
    rw [l2_ok e (harr hi) (hw i hi)]
    exact kk () trivial
  subst ho
  simp only
  refine OK.bind (OK.getN hq' (fun i hi => OK.ite (fun _ => kk () trivial) (fun hop => ?_)))
  have hop : i.Op = 20 := by simpa using hop
  have hlp := hg.fine.loop hi hop
  have hn := hg.n64
  have ew : w64 ((q : Int) - i.D) = (((q : Int) - i.D).toNat : Int) := by rw [w64_eq (by omega) (by omega)]; omega
  have hh : ((q : Int) - i.D).toNat < m.Code.length := by omega
  have hcl := hu.clos q q i h3 hi hop (by omega) (Nat.le_refl _)
  rw [ew, hat hh]
  simp only [Option.bind_some]
  rcases hk hh with h | ⟨d, d1, d2, d3⟩
  · exact absurd hcl h.2
  refine OK.ite (fun h => ?_) (fun _ => ?_)
  · rw [d3, arrL_len] at h; simp at h
  refine OK.bind2 (OK.count (Q := fun o => o = Sum.inl ()) (fun _ _ => True) trivial (fun t s again ht _ kk => ?_) (fun _ _ => rfl)) (fun o ho => by subst ho; exact kk () trivial)
  unfold tappetlaw09_JudgeLoops_l3
  have e : idx (typesOf j) (q : Int) = some (arrL 8 c) := by rw [hat hq', h5]
  rw [e, d3]
  simp only [Option.bind_some, harr ht]
  rw [law_fits (hu.fits q i hq' hi hop h3 t ht c d h4 d2) (type_wt (hu.ji.wt _ d d2 t ht))]
  exact kk () trivial
end Go.Proofs.YtojemiffchkkdaaDoor

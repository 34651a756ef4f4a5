/- The judge goes over a module: what is so at the end. -/
import Derived.Test.YtkgajppghpmkbaaDoorKJudge2
set_option linter.unusedVariables false
set_option linter.unusedSimpArgs false
namespace Go.Proofs.YtkgajppghpmkbaaDoor
open Go.Sx

theorem contains_eq (l : List Int) (m : Int) : slices_Contains_int_int l m = some (l.contains m) := by
  unfold slices_Contains_int_int slices_Index_int_int
  rw [search0 (fun i => if (l[i]? == some m) then some (i : Int) else none) (N := l.length)]
  · simp only [Option.bind_some]
    cases hf : findN (fun i => if (l[i]? == some m) then some (i : Int) else none) l.length 0 with
    | some v =>
      obtain ⟨j, _, h2, h3, _⟩ := findN_some hf
      split at h3
      · rename_i h
        cases h3
        have : m ∈ l := List.mem_of_getElem? (by simpa using h)
        simp [sumOf, this]
      · cases h3
    | none =>
      have := findN_none hf
      have hm : m ∉ l := by
        intro hm
        obtain ⟨j, hj, rfl⟩ := List.mem_iff_getElem.1 hm
        have := this j (by omega) (by omega)
        simp [hj] at this
      simp [sumOf, hm]
  · intro j again hj
    unfold slices_Index_int_int_l1
    simp only [idxN hj, Option.bind_some, List.getElem?_eq_getElem hj]
    rcases Bool.eq_false_or_eq_true (m == l[j]) with h | h
    · have e : m = l[j] := by simpa using h
      simp [e]
    · have e : ¬ m = l[j] := by simpa using h
      have e2 : ¬ l[j] = m := fun x => e x.symm
      simp [e, e2]
def GoodM (l : List Int) : Prop := (∀ x ∈ l, 0 ≤ x ∧ x < 4) ∧ l.Nodup ∧ l.length ≤ 4
theorem nodup_take {l : List Int} {i : Nat} (h : i < l.length) : (l.take (i + 1)).Nodup ↔ (l.take i).Nodup ∧ l[i] ∉ l.take i := by
  rw [List.take_add_one, List.getElem?_eq_getElem h]
  simp only [Option.toList_some]
  rw [List.nodup_append]
  constructor
  · rintro ⟨h1, _, h3⟩
    exact ⟨h1, fun hm => h3 _ hm _ (by simp) rfl⟩
  · rintro ⟨h1, h2⟩
    refine ⟨h1, by simp, fun a ha b hb e => ?_⟩
    simp at hb
    subst hb; subst e
    exact h2 ha
theorem good_ok (l : List Int) : OK (judge_good l) (fun r => r = true ↔ GoodM l) := by
  unfold judge_good
  refine OK.bind2 (OK.count (Q := fun o => match o with | .inl _ => (∀ x ∈ l, 0 ≤ x ∧ x < 4) ∧ l.Nodup | .inr r => r = false ∧ ¬ GoodM l) (fun i _ => (∀ x ∈ l.take i, 0 ≤ x ∧ x < 4) ∧ (l.take i).Nodup) (by simp) (fun i s again hi hI k => ?_) (fun s hI => ?_)) (fun o ho => ?_)
  · unfold judge_good_l1
    simp only [idxN hi, Option.bind_some, cut_pre (show i ≤ l.length by omega), contains_eq]
    refine OK.bind2 (R := fun o => o = true ↔ ¬ (0 ≤ l[i] ∧ l[i] < 4 ∧ l[i] ∉ l.take i)) ?_ (fun o ho => ?_)
    · refine OK.ite (fun h => OK.ret ?_) (fun h => OK.ite (fun h2 => OK.ret ?_) (fun h2 => OK.ret ?_))
      · simp at h; simp; omega
      · simp at h h2; simp; omega
      · simp at h h2
        have h3 : 0 ≤ l[i] := by omega
        have h4 : l[i] < 4 := by omega
        simp [h3, h4]
    refine OK.ite (fun h => OK.ret ⟨rfl, fun hg => ?_⟩) (fun h => k _ ?_)
    · have := (nodup_take hi).1 (hg.2.1.sublist (List.take_sublist _ _))
      have hm := hg.1 l[i] (List.getElem_mem _)
      exact (ho.1 h) ⟨hm.1, hm.2, this.2⟩
    · have hh : 0 ≤ l[i] ∧ l[i] < 4 ∧ l[i] ∉ l.take i := Classical.byContradiction (fun hc => by rw [ho.2 hc] at h; cases h)
      refine ⟨fun x hx => ?_, (nodup_take hi).2 ⟨hI.2, hh.2.2⟩⟩
      rw [List.take_add_one, List.getElem?_eq_getElem hi] at hx
      rcases List.mem_append.1 hx with hx | hx
      · exact hI.1 x hx
      · simp at hx; subst hx; exact ⟨hh.1, hh.2.1⟩
  · simpa using hI
  · cases o with
    | inl _ =>
      refine OK.ret ?_
      simp only [decide_eq_true_eq]
      exact ⟨fun h => ⟨ho.1, ho.2, by omega⟩, fun h => by have := h.2.2; omega⟩
    | inr r => exact OK.ret ⟨fun h => (by rw [ho.1] at h; cases h), fun h => absurd h ho.2⟩

def Clos (code : List api_Inst) (j : judge_judge) : Prop := ∀ (q a : Nat) (ia : api_Inst), j.any[q]? = some true → code[a]? = some ia → ia.Op = 20 → (a : Int) - ia.D < q → q ≤ a → j.any[((a : Int) - ia.D).toNat]? = some true
theorem Clos.ways {code : List api_Inst} (hg : Good code) {p : Nat} {j j' : judge_judge} (h : Clos code j) (hp : j.any[p]? = some true) (hw : Ways code p j j') : Clos code j' := by
  intro q a ia hq ha ho h1 h2
  have hlp := hg.fine.loop ha ho
  rcases hw.new q hq with h3 | ⟨i, hi, hway⟩
  · exact hw.keep _ (h q a ia h3 ha ho h1 h2)
  · -- the way comes from p
    by_cases hin : (a : Int) - ia.D ≤ p ∧ p ≤ a
    · by_cases hh : (p : Int) = a - ia.D
      · rw [← hh]
        exact hw.keep _ (by simpa using hp)
      · exact hw.keep _ (h p a ia hp ha ho (by omega) hin.2)
    · exfalso
      rcases hway with ⟨hon, rfl⟩ | ⟨hl, hd, hqd⟩
      · omega
      · refine hg.en p (List.getElem?_eq_some_iff.1 hi).1 ⟨i, hi, hl, hd, a, ia, q, (List.getElem?_eq_some_iff.1 ha).1, ha, ho, hqd, (covers_iff ha ho).2 ⟨by omega, by omega⟩, ?_, by omega⟩
        rcases Bool.eq_false_or_eq_true (covers code p a) with hc | hc
        · exact absurd ((covers_iff ha ho).1 hc) (fun hc => hin ⟨hc.1, by omega⟩)
        · exact hc
structure Upto (m : api_Module) (n : Nat) (j : judge_judge) : Prop where
  ji : JI m j
  zero : j.any[0]? = some true
  clos : Clos m.Code j
  fits : ∀ (p : Nat) (i : api_Inst), p < n → m.Code[p]? = some i → i.Op = 20 → j.any[p]? = some true → ∀ q, q < 8 → ∀ x h, j.came[p]? = some x → j.came[((p : Int) - i.D).toNat]? = some h → fitsB (x q) (h q)
theorem step_ok {m : api_Module} {j : judge_judge} {n : Nat} (h : Upto m n j) (hg : Good m.Code) (hn : n < m.Code.length) (again : judge_judge → Option (judge_judge ⊕ ((Option judge_judge) × Int × Int)))
    {Q : (judge_judge ⊕ ((Option judge_judge) × Int × Int)) → Prop} (hk : ∀ j', Upto m (n + 1) j' → OK (again j') Q) (he : ∀ e, e ≠ 0 → Q (.inr (none, (n : Int), e))) : OK (judge_judged_l1 1000 n again j) Q := by
  unfold judge_judged_l1
  obtain ⟨a, ha, ha2⟩ := idx_lt (xs := j.any) (p := n) (by rw [h.ji.lenA]; exact hn)
  simp only [ha2, Option.bind_some]
  refine OK.ite (fun hf => ?_) (fun hf => ?_)
  · have hf : a = false := by simpa using hf
    refine hk j ⟨h.ji, h.zero, h.clos, fun p i hp hi ho hany => ?_⟩
    by_cases e : p = n
    · subst e; rw [ha, hf] at hany; cases hany
    · exact h.fits p i (by omega) hi ho hany
  have hat : j.any[n]? = some true := by rw [ha]; simpa using hf
  refine OK.bind2 (widen_ok h.ji hg hn) (fun j1 ⟨hj1, ha1, hc1⟩ => ?_)
  refine OK.bind2 (one_ok hj1 hg hn) (fun r hr => ?_)
  refine OK.ite (fun e => OK.ret (he _ (by simpa using e))) (fun e => ?_)
  have hr := hr (by simpa using e)
  refine OK.bind2 (ways_ok hj1 hg hn hr.1) (fun j2 ⟨hj2, hw⟩ => hk j2 ?_)
  have hcl : Clos m.Code j1 := by intro q a ia; rw [ha1]; exact h.clos q a ia
  refine ⟨hj2, hw.keep _ (by rw [ha1]; exact h.zero), hcl.ways hg (by rw [ha1]; exact hat) hw, fun p i hp hi ho hany q hq x hh hx hhd => ?_⟩
  have hlp := hg.fine.loop hi ho
  rw [(hw.same p (by omega)).1] at hx
  rw [(hw.same _ (by omega)).1] at hhd
  rw [(hw.same p (by omega)).2, ha1] at hany
  by_cases e : p = n
  · subst e
    exact hr.2 i hi ho q hq x hh hx hhd
  · rw [hc1 p e] at hx
    rw [hc1 _ (by omega)] at hhd
    exact h.fits p i (by omega) hi ho hany q hq x hh hx hhd
structure Judged (m : api_Module) (r : (Option judge_judge) × Int × Int) : Prop where
  place : r.2.1 = 0 ∨ 0 ≤ r.2.1 ∧ r.2.1 < m.Code.length
  good : r.2.2 = 0 → r.2.1 = 0 ∧ Good m.Code ∧ GoodM m.Maps ∧ ∃ j, r.1 = some j ∧ Upto m m.Code.length j
  bad : r.2.2 ≠ 0 → r.1 = none
theorem upto0 {m : api_Module} (hg : Good m.Code) : Upto m 0 ⟨m, List.replicate m.Code.length (fun _ => zeroT), (List.replicate m.Code.length false).set 0 true, lps m.Code m.Code.length⟩ := by
  have hn := hg.n1
  refine ⟨⟨rfl, by simp, by simp, rfl, fun q x hx r _ => ?_⟩, by show (List.set _ _ _)[0]? = _; rw [List.getElem?_set, if_pos rfl, if_pos (by rw [List.length_replicate]; omega)], fun q a ia hq ha ho h1 h2 => ?_, fun p i hp => by omega⟩
  · obtain ⟨_, rfl⟩ := rep_get hx
    exact WT.zero
  · have hlp := hg.fine.loop ha ho
    simp only at hq
    by_cases e : q = 0
    · subst e; omega
    · rw [set_ne e] at hq
      obtain ⟨_, h⟩ := rep_get hq
      cases h
theorem judged_ok (m : api_Module) : OK (judge_judged 1000 m) (Judged m) := by
  unfold judge_judged
  refine OK.bind2 (good_ok _) (fun g hgm => ?_)
  refine OK.ite (fun _ => OK.ret ⟨.inl rfl, fun h => by simp at h, fun _ => rfl⟩) (fun hgt => ?_)
  have hgm := hgm.1 (by simpa using hgt)
  obtain ⟨r, h1, h2, h3, h4⟩ := check_one m.Code
  simp only [h1, Option.bind_some]
  refine OK.ite (fun hr => OK.ret ⟨h2, fun h => absurd h (by simpa using hr), fun _ => rfl⟩) (fun hr => ?_)
  have hg := (h3 (by simpa using hr)).2
  have hn := hg.n64
  have hn1 := hg.n1
  refine OK.bind2 (R := fun o => o = judge_judge.mk m (List.replicate m.Code.length (fun _ => zeroT)) (List.replicate m.Code.length false) []) ?_ (fun o ho => ?_)
  · refine OK.bind (OK.mkl (by omega) (by simp; omega) ?_)
    refine OK.bind (OK.mkl (by omega) (by simp; omega) (OK.ret ?_))
    simp [zeroT]
  subst ho
  simp only [good_loops hg, Option.bind_some]
  have e0 : idx (List.replicate m.Code.length false) 0 = some false := by
    have := idxN (xs := List.replicate m.Code.length false) (i := 0) (by simp; omega)
    simpa using this
  rw [e0]
  simp only [Option.bind_some]
  refine OK.bind2 (OK.count (Q := fun o => match o with | .inl j => Upto m m.Code.length j | .inr r => r.1 = none ∧ r.2.2 ≠ 0 ∧ 0 ≤ r.2.1 ∧ r.2.1 < m.Code.length) (fun i s => Upto m i s) ?_ (fun i s again hi hI k => step_ok hI hg hi again k (fun e he => ⟨rfl, he, by simp, by simpa using hi⟩)) (fun s hI => hI)) (fun o ho => ?_)
  · simpa using upto0 hg
  · cases o with
    | inl j => exact OK.ret ⟨.inl rfl, fun _ => ⟨rfl, hg, hgm, j, rfl, ho⟩, fun h => absurd rfl h⟩
    | inr r => exact OK.ret ⟨.inr ho.2.2, fun h => absurd h ho.2.1, fun _ => ho.1⟩
def known (j : judge_judge) (p : Nat) : List api_Type := match j.any[p]?, j.came[p]? with
  | some true, some c => arrL 8 c
  | _, _ => []
end Go.Proofs.YtkgajppghpmkbaaDoor

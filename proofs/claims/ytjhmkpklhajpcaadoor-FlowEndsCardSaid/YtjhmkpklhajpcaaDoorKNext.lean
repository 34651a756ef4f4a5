/- Next and Around: the document's; FlowNexts' plain law. -/
import Derived.Test.YtjhmkpklhajpcaaDoorKNested
set_option linter.unusedVariables false
set_option linter.unusedSimpArgs false
namespace Go.Proofs.YtjhmkpklhajpcaaDoor
open Go.Sx

theorem sorted_ext : ∀ {l m : List Int}, l.Pairwise (· < ·) → m.Pairwise (· < ·) → (∀ x, x ∈ l ↔ x ∈ m) → l = m
  | [], [], _, _, _ => rfl
  | [], y :: m, _, _, h => by have := (h y).2 (by simp); simp at this
  | x :: l, [], _, _, h => by have := (h x).1 (by simp); simp at this
  | x :: l, y :: m, hl, hm, h => by
    obtain ⟨hl1, hl2⟩ := List.pairwise_cons.1 hl
    obtain ⟨hm1, hm2⟩ := List.pairwise_cons.1 hm
    have e : x = y := by
      have h1 := (h x).1 (by simp)
      have h2 := (h y).2 (by simp)
      rcases List.mem_cons.1 h1 with h1 | h1
      · exact h1
      · rcases List.mem_cons.1 h2 with h2 | h2
        · exact h2.symm
        · have := hm1 x h1; have := hl1 y h2; omega
    subst e
    congr 1
    refine sorted_ext hl2 hm2 (fun z => ?_)
    constructor
    · intro hz
      have := (h z).1 (List.mem_cons_of_mem _ hz)
      rcases List.mem_cons.1 this with e | e
      · subst e; have := hl1 z hz; omega
      · exact e
    · intro hz
      have := (h z).2 (List.mem_cons_of_mem _ hz)
      rcases List.mem_cons.1 this with e | e
      · subst e; have := hm1 z hz; omega
      · exact e

/-- the places behind a place -/
def nx (i : api_Inst) (p : Int) : List Int :=
  if (goesB i).2.1 then
    (if (goesB i).2.2 then (if p + (goesB i).1 < p + 1 then [p + (goesB i).1, p + 1] else if p + 1 < p + (goesB i).1 then [p + 1, p + (goesB i).1] else [p + 1]) else [p + (goesB i).1])
  else (if (goesB i).2.2 then [p + 1] else [])
theorem mem_nx {i : api_Inst} {p x : Int} : x ∈ nx i p ↔ ((goesB i).2.1 = true ∧ x = p + (goesB i).1) ∨ ((goesB i).2.2 = true ∧ x = p + 1) := by
  unfold nx
  rcases Bool.eq_false_or_eq_true (goesB i).2.1 with h1 | h1 <;> rcases Bool.eq_false_or_eq_true (goesB i).2.2 with h2 | h2 <;> simp only [h1, h2]
  · simp only [if_true]
    split
    · simp
    · split
      · simp; omega
      · simp; omega
  · simp
  · simp
  · simp
theorem nx_sorted (i : api_Inst) (p : Int) : (nx i p).Pairwise (· < ·) := by
  unfold nx
  rcases Bool.eq_false_or_eq_true (goesB i).2.1 with h1 | h1 <;> rcases Bool.eq_false_or_eq_true (goesB i).2.2 with h2 | h2 <;> simp only [h1, h2]
  · simp only [if_true]
    split
    · rename_i h; simp; omega
    · split
      · rename_i h; simp; omega
      · simp
  · simp
  · simp
  · simp
theorem sort_compact (l : List Int) (h : l.length ≤ 2) : ((slices_Sort_int_int l).bind fun r => slices_Compact_int_int r) = some (match l with | [] => [] | [a] => [a] | a :: b :: _ => if a < b then [a, b] else if b < a then [b, a] else [a]) := by
  unfold slices_Sort_int_int slices_Compact_int_int
  rw [if_pos (by omega)]
  match l, h with
  | [], _ => simp [Lib.compact, Lib.compactUpTo]
  | [a], _ => simp [Lib.compact, Lib.compactUpTo, Lib.keeps]
  | [a, b], _ =>
    have hs : [a, b].mergeSort (fun x y => decide (x ≤ y)) = if a ≤ b then [a, b] else [b, a] := by
      simp [List.mergeSort, List.MergeSort.Internal.splitInTwo, List.merge]
    rw [hs]
    simp only [Option.bind_some]
    rcases Int.lt_trichotomy a b with h | h | h
    · rw [if_pos (by omega), if_pos h]
      have hne : b ≠ a := by omega
      simp [Lib.compact, Lib.compactUpTo, Lib.keeps, List.range_succ, hne]
    · subst h
      simp [Lib.compact, Lib.compactUpTo, Lib.keeps, List.range_succ]
    · rw [if_neg (by omega), if_neg (by omega), if_pos h]
      have hne : a ≠ b := by omega
      simp [Lib.compact, Lib.compactUpTo, Lib.keeps, List.range_succ, hne]

theorem next_good {code : List api_Inst} (g : Good code) {p : Nat} {i : api_Inst} (hi : code[p]? = some i) : flow_Next code (p : Int) = some (nx i p, 0) := by
  have hp := (List.getElem?_eq_some_iff.1 hi).1
  have hn := g.n64
  have hg := goes_small i
  have e1 : w64 ((p : Int) + (goesB i).1) = p + (goesB i).1 := w64_eq (by omega) (by omega)
  have e2 : w64 ((p : Int) + 1) = p + 1 := w64_eq (by omega) (by omega)
  have hidx : idx code (p : Int) = some i := by rw [idxN hp]; rw [List.getElem?_eq_getElem hp] at hi; exact hi
  have r1 : room 1 8 = some () := rfl
  have r2 : room 2 8 = some () := rfl
  unfold flow_Next
  rw [check_at g (by omega) (by omega)]
  simp only [Option.bind_some, hidx, opsGoes_eq, e1, e2]
  unfold nx
  rcases Bool.eq_false_or_eq_true (goesB i).2.1 with h1 | h1 <;> rcases Bool.eq_false_or_eq_true (goesB i).2.2 with h2 | h2
  · simp only [h1, h2, if_true, List.length_nil, List.length_singleton, Nat.zero_add, r1, Option.bind_some, List.nil_append, r2]
    have := sort_compact [(p : Int) + (goesB i).1, (p : Int) + 1] (by simp)
    have e3 : ([(p : Int) + (goesB i).1] ++ [(p : Int) + 1]) = [(p : Int) + (goesB i).1, (p : Int) + 1] := rfl
    rw [e3]
    simp only [bne_self_eq_false, Bool.false_eq_true, if_false]
    cases hs : slices_Sort_int_int [(p : Int) + (goesB i).1, (p : Int) + 1] with
    | none => rw [hs] at this; cases this
    | some r =>
      rw [hs] at this
      simp only [Option.bind_some] at this ⊢
      rw [this]
      simp only [Option.bind_some]
      congr 2
      split
      · rfl
      · split
        · rfl
        · congr 1; omega
  · simp only [h1, h2, if_true, List.length_nil, List.length_singleton, Nat.zero_add, r1, Option.bind_some, List.nil_append]
    have := sort_compact [(p : Int) + (goesB i).1] (by simp)
    simp only [bne_self_eq_false, Bool.false_eq_true, if_false, Option.bind_some]
    cases hs : slices_Sort_int_int [(p : Int) + (goesB i).1] with
    | none => rw [hs] at this; cases this
    | some r =>
      rw [hs] at this
      simp only [Option.bind_some] at this ⊢
      rw [this]
      rfl
  · simp only [h1, h2, if_true, List.length_nil, List.length_singleton, Nat.zero_add, r1, Option.bind_some, List.nil_append]
    have := sort_compact [(p : Int) + 1] (by simp)
    simp only [bne_self_eq_false, Bool.false_eq_true, if_false, Option.bind_some, List.length_nil, Nat.zero_add, r1, List.nil_append]
    cases hs : slices_Sort_int_int [(p : Int) + 1] with
    | none => rw [hs] at this; cases this
    | some r =>
      rw [hs] at this
      simp only [Option.bind_some] at this ⊢
      rw [this]
      rfl
  · have := sort_compact [] (by simp)
    simp only [h1, h2, bne_self_eq_false, Bool.false_eq_true, if_false, Option.bind_some]
    cases hs : slices_Sort_int_int [] with
    | none => rw [hs] at this; cases this
    | some r =>
      rw [hs] at this
      simp only [Option.bind_some] at this ⊢
      rw [this]
      rfl
theorem refNext_good {code : List api_Inst} (g : Good code) {p : Nat} {i : api_Inst} (hi : code[p]? = some i) : forN (tappetref07_Next_l1 (p : Int) (goesB i)) (fun s => s) code.length 0 ([] : List Int) = some (nx i p) := by
  have hp := (List.getElem?_eq_some_iff.1 hi).1
  have hn := g.n64
  have hg := goes_small i
  have e1 : w64 ((p : Int) + (goesB i).1) = p + (goesB i).1 := w64_eq (by omega) (by omega)
  have e2 : w64 ((p : Int) + 1) = p + 1 := w64_eq (by omega) (by omega)
  refine OK.is ?_
  refine OK.count (fun (k : Nat) (s : List Int) => s.Pairwise (· < ·) ∧ s.length ≤ k ∧ ∀ x, x ∈ s ↔ (x ∈ nx i p ∧ 0 ≤ x ∧ x < k)) ⟨List.Pairwise.nil, by simp, fun x => by simp⟩ ?_ ?_
  · intro k s again hk ⟨h1, h2, h3⟩ kk
    unfold tappetref07_Next_l1
    rw [e1, e2]
    have hcond : (((goesB i).2.1 && ((k : Int) == (p : Int) + (goesB i).1)) || ((goesB i).2.2 && ((k : Int) == (p : Int) + 1))) = true ↔ (k : Int) ∈ nx i p := by
      rw [mem_nx]; simp
    refine OK.ite (fun hc => ?_) (fun hc => ?_)
    · have hm := hcond.1 hc
      refine OK.bind (OK.hasRoom (by simp; omega) ?_)
      refine kk _ ⟨List.pairwise_append.2 ⟨h1, List.pairwise_singleton _ _, fun a ha b hb => ?_⟩, by simp; omega, fun x => ?_⟩
      · simp at hb; subst hb; have := (h3 a).1 ha; omega
      · rw [List.mem_append, h3]
        simp only [List.mem_singleton]
        constructor
        · rintro (⟨q1, q2, q3⟩ | rfl)
          · exact ⟨q1, q2, by omega⟩
          · exact ⟨hm, by omega, by omega⟩
        · rintro ⟨q1, q2, q3⟩
          by_cases e : x = k
          · exact .inr e
          · exact .inl ⟨q1, q2, by omega⟩
    · have hm : ¬ (k : Int) ∈ nx i p := fun h => by rw [hcond.2 h] at hc; cases hc
      refine kk _ ⟨h1, by omega, fun x => ?_⟩
      rw [h3]
      constructor
      · rintro ⟨q1, q2, q3⟩; exact ⟨q1, q2, by omega⟩
      · rintro ⟨q1, q2, q3⟩
        refine ⟨q1, q2, ?_⟩
        by_cases e : x = k
        · subst e; exact absurd q1 hm
        · omega
  · intro s ⟨h1, _, h3⟩
    refine sorted_ext h1 (nx_sorted i p) (fun x => ?_)
    rw [h3]
    refine ⟨fun h => h.1, fun h => ⟨h, ?_⟩⟩
    rcases mem_nx.1 h with ⟨q1, rfl⟩ | ⟨q1, rfl⟩
    · exact g.fine.leads hi q1
    · have := g.fine.on hi q1; omega
theorem next_both (code : List api_Inst) (p : Int) (fu : Nat) (hf : 100 ≤ fu) : ∃ l e, flow_Next code p = some (l, e) ∧ tappetref07_Next fu code p = some (l, e) ∧ l.length ≤ 2 := by
  obtain ⟨r, h1, h2, h3, h4⟩ := check_both code fu hf
  by_cases he : r.2 = 0
  · have g := (h3 he).2
    by_cases hp : 0 ≤ p ∧ p < code.length
    · obtain ⟨q, rfl⟩ := Int.eq_ofNat_of_zero_le hp.1
      have hq : q < code.length := by omega
      have hi := List.getElem?_eq_getElem hq
      refine ⟨nx code[q] q, 0, next_good g hi, ?_, ?_⟩
      · unfold tappetref07_Next
        have a : decide ((q : Int) < 0) = false := by simp
        have b : decide ((q : Int) ≥ (code.length : Int)) = false := by simp; omega
        simp only [h2, Option.bind_some, he, bne_self_eq_false, Bool.false_eq_true, if_false, a, b, Bool.or_self, idxN hq, refGoes_eq, refNext_good g hi]
      · unfold nx; (repeat' split) <;> simp
    · have hb : (decide (p < 0) || decide (p ≥ (code.length : Int))) = true := by simp; omega
      refine ⟨[], 2, ?_, ?_, by simp⟩
      · unfold flow_Next flow_check
        simp only [h1, Option.bind_some, he, hb]; rfl
      · unfold tappetref07_Next
        simp only [h2, Option.bind_some, he, hb]; rfl
  · have e : (r.2 != 0) = true := by simpa using he
    refine ⟨[], r.2, ?_, ?_, by simp⟩
    · unfold flow_Next flow_check
      have e2 : (r.2 == 0) = false := by simpa using he
      simp only [h1, Option.bind_some, e2, Bool.false_and, Bool.false_eq_true, if_false, e, if_true]
    · unfold tappetref07_Next
      simp only [h2, Option.bind_some, e, if_true]
theorem arnd_bod {code : List api_Inst} (g : Good code) (q : Nat) : arnd (lps code code.length) (q : Int) = bod code code.length q := by
  refine sorted_ext (arnd_sorted (lps_sorted code code.length).1 q) ?_ (fun x => ?_)
  · unfold bod
    rw [List.pairwise_map]
    have h : ((List.range code.length).filter (covers code q)).Pairwise (· < ·) := List.Pairwise.filter _ List.pairwise_lt_range
    exact h.imp (fun h => by omega)
  · rw [mem_arnd, mem_bod]
    constructor
    · rintro ⟨l, hl, h1, h2, h3⟩
      obtain ⟨a, i, ha, hi, ho, rfl⟩ := mem_lps.1 hl
      refine ⟨a, ha, (covers_iff hi ho).2 ?_, h3.symm⟩
      simp only [loopAt] at h1 h2
      omega
    · rintro ⟨a, ha, hc, rfl⟩
      have hi := List.getElem?_eq_getElem ha
      have ho := covers_op hi hc
      have := (covers_iff hi ho).1 hc
      exact ⟨loopAt code[a] a, mem_lps.2 ⟨a, _, ha, hi, ho, rfl⟩, by simp only [loopAt]; omega, by simp only [loopAt]; omega, rfl⟩
theorem around_both (code : List api_Inst) (p : Int) (fu : Nat) (hf : 100 ≤ fu) : ∃ l e, flow_Around code p = some (l, e) ∧ tappetref07_Around fu code p = some (l, e) ∧ l.length ≤ 64 := by
  obtain ⟨r, h1, h2, h3, h4⟩ := check_both code fu hf
  by_cases he : r.2 = 0
  · have g := (h3 he).2
    by_cases hp : 0 ≤ p ∧ p < code.length
    · obtain ⟨q, rfl⟩ := Int.eq_ofNat_of_zero_le hp.1
      have hq : q < code.length := by omega
      obtain ⟨B, hB0, hBl, hB⟩ := bodies_eq g.n64 g.fine fu hf
      have hbp := hB q hq
      have hip : idx B (q : Int) = some (bod code code.length q) := by unfold Go.Sx.idx; rw [if_pos (by omega)]; simpa using hbp
      refine ⟨bod code code.length q, 0, by rw [around_eq g hp.1 hp.2, arnd_bod g], ?_, ?_⟩
      · unfold tappetref07_Around
        have a : decide ((q : Int) < 0) = false := by simp
        have b : decide ((q : Int) ≥ (code.length : Int)) = false := by simp; omega
        simp only [h2, Option.bind_some, he, bne_self_eq_false, Bool.false_eq_true, if_false, a, b, Bool.or_self, hB0, hip]
      · have := bod_len code code.length q; have := g.n64; omega
    · have hb : (decide (p < 0) || decide (p ≥ (code.length : Int))) = true := by simp; omega
      refine ⟨[], 2, ?_, ?_, by simp⟩
      · unfold flow_Around flow_check
        simp only [h1, Option.bind_some, he, hb]; rfl
      · unfold tappetref07_Around
        simp only [h2, Option.bind_some, he, hb]; rfl
  · have e : (r.2 != 0) = true := by simpa using he
    refine ⟨[], r.2, ?_, ?_, by simp⟩
    · unfold flow_Around flow_check
      have e2 : (r.2 == 0) = false := by simpa using he
      simp only [h1, Option.bind_some, e2, Bool.false_and, Bool.false_eq_true, if_false, e, if_true]
    · unfold tappetref07_Around
      simp only [h2, Option.bind_some, e, if_true]
theorem ints_self (l : List Int) (h : l.length ≤ 9000000) : tappetlaw07_ints l l = some true := by
  unfold tappetlaw07_ints
  simp only [bne_self_eq_false, Bool.false_eq_true, if_false]
  rw [search0 (fun _ => none) (N := l.length)]
  · rw [findN_none' (fun _ _ _ => rfl)]; rfl
  · intro j again hj
    unfold tappetlaw07_ints_l1
    simp only [idxN hj, Option.bind_some, bne_self_eq_false, Bool.false_eq_true, if_false]
theorem flowNexts_law (code : List api_Inst) (at_ : Int) (h : code.length * 40 ≤ 140737488355328) : tappetlaw07_FlowNexts 100 code at_ = some true := by
  unfold tappetlaw07_FlowNexts
  simp only [awake_true, Option.bind_some, Bool.not_true, Bool.false_eq_true, if_false]
  have main : OK (loop (tappetlaw07_FlowNexts_l1 100 code at_) 100 (-2)) (fun o => o = .inl ()) := by
    refine OK.rounds (fun (s : Int) => -2 ≤ s ∧ s ≤ 68) (fun s => (68 - s).toNat) ?_ 100 _ ⟨by omega, by omega⟩ (by omega)
    intro s again ⟨s0, s1⟩ k
    unfold tappetlaw07_FlowNexts_l1
    refine OK.ite (fun hc => ?_) (fun hc => OK.ret rfl)
    have hs : s < 68 := by simpa using hc
    refine OK.bind2 (R := fun _ => True) (OK.ite (fun _ => OK.ret trivial) (fun _ => OK.ret trivial)) ?_
    intro q _
    obtain ⟨l, e, n1, n2, n3⟩ := next_both code q 100 (by omega)
    obtain ⟨l', e', a1, a2, a3⟩ := around_both code q 100 (by omega)
    simp only [copied_eq code h, Option.bind_some, n1, n2, a1, a2, ints_self l (by omega), ints_self l' (by omega), Bool.not_true, Bool.false_eq_true, if_false, bne_self_eq_false]
    refine OK.ite (fun _ => OK.ret rfl) (fun _ => ?_)
    rw [w64_eq (by omega) (by omega)]
    exact k _ ⟨by omega, by omega⟩ (by omega)
  obtain ⟨o, ho, rfl⟩ := main
  rw [ho]
  rfl
end Go.Proofs.YtjhmkpklhajpcaaDoor

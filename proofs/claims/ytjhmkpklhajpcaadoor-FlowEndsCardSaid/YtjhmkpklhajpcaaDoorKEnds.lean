/- FlowEnds' plain law: any way by Next ends within Cost steps. -/
import Derived.Test.YtjhmkpklhajpcaaDoorKPot
import Derived.Test.YtjhmkpklhajpcaaDoorKNext
set_option linter.unusedVariables false
set_option linter.unusedSimpArgs false
namespace Go.Proofs.YtjhmkpklhajpcaaDoor
open Go.Sx

theorem fwd_in {code : List api_Inst} (g : Good code) {q t : Nat} {i : api_Inst} (hi : code[q]? = some i) (hm : (t : Int) ∈ nx i q) (hlt : q < t) : ∀ a, covers code t a = true → covers code q a = true ∨ ∃ i, code[a]? = some i ∧ (t : Int) = a - i.D := by
  intro a ha
  obtain ⟨ia, a1, a2, a3, a4, a5, a6, a7, a8⟩ := cov_at g ha
  by_cases hc : covers code q a = true
  · exact .inl hc
  · right
    refine ⟨ia, a1, ?_⟩
    have hc' : covers code q a = false := by simpa using hc
    rcases mem_nx.1 hm with ⟨h1, h2⟩ | ⟨h1, h2⟩
    · rcases Int.lt_or_le ((a : Int) - ia.D) t with h3 | h3
      · exfalso
        exact g.en q (List.getElem?_eq_some_iff.1 hi).1 ⟨i, hi, h1, by omega, a, ia, t, a7, a1, a2, h2, ha, hc', by omega⟩
      · omega
    · rcases Int.lt_or_le ((a : Int) - ia.D) t with h3 | h3
      · exfalso
        have := (covers_iff a1 a2).2 (show (a : Int) - ia.D ≤ q ∧ q ≤ a by omega)
        rw [hc'] at this; cases this
      · omega
theorem nx_range {code : List api_Inst} (g : Good code) {q : Nat} {i : api_Inst} (hi : code[q]? = some i) {x : Int} (hm : x ∈ nx i q) : 0 ≤ x ∧ x < code.length := by
  rcases mem_nx.1 hm with ⟨h1, rfl⟩ | ⟨h1, rfl⟩
  · exact g.fine.leads hi h1
  · have := g.fine.on hi h1; omega
theorem goes_loop {i : api_Inst} (hr : rightB i = true) (ho : i.Op = 20) : goesB i = (-i.D, true, true) := by
  have hl : loopsB i = true := by simp [loopsB, hr, ho]
  have hj : jumpsB i = false := by simp [jumpsB, inB, ho]
  simp [goesB, hl, hj]
theorem goes_other {i : api_Inst} (ho : i.Op ≠ 20) (hl : (goesB i).2.1 = true) : 0 < (goesB i).1 := by
  unfold goesB at hl ⊢
  split
  · rename_i h; have := jump_D h; simp; omega
  · rename_i h
    rw [if_neg h] at hl
    have : loopsB i = false := by simp [loopsB, ho]
    rw [this] at hl
    simp at hl
def bk (l : List Int) (a : Nat) : Int := l.getD a 0
theorem bk_at {l : List Int} {a : Nat} (h : a < l.length) : l[a]? = some (bk l a) := by
  unfold bk; rw [List.getD_eq_getElem?_getD, List.getElem?_eq_getElem h]; rfl
theorem bk_set {l : List Int} {a b : Nat} {x : Int} (h : a < l.length) : bk (l.set a x) b = if b = a then x else bk l b := by
  unfold bk
  rw [List.getD_eq_getElem?_getD, List.getD_eq_getElem?_getD, List.getElem?_set]
  by_cases e : a = b
  · subst e; rw [if_pos rfl, if_pos h, if_pos rfl]; rfl
  · rw [if_neg e, if_neg (fun h => e h.symm)]

theorem flowEnds_law (code : List api_Inst) (turns : List Int) (h : code.length * 40 ≤ 140737488355328) : tappetlaw07_FlowEnds 1000 code turns = some true := by
  obtain ⟨r, c1, _, c3, _⟩ := check_both code 100 (by omega)
  unfold tappetlaw07_FlowEnds
  simp only [awake_true, copied_eq code h, Option.bind_some, Bool.not_true, Bool.false_eq_true, if_false]
  by_cases he : r.2 = 0
  · have g := (c3 he).2
    have hn := g.n64
    have hm : mkLen (code.length : Int) 8 = some code.length := by unfold mkLen; rw [if_pos (by simp; omega)]; simp
    simp only [good_cost g, Option.bind_some, bne_self_eq_false, Bool.false_eq_true, if_false, hm]
    have hcost := g.cost
    have hpos := sumT_nonneg g.fine code.length
    have main : OK (loop (tappetlaw07_FlowEnds_l1 code turns (sumT code code.length, 0)) 1000 (List.replicate code.length 0, 0, 0)) (fun o => o = .inr true) := by
      refine OK.rounds (fun (s : List Int × Int × Int) => s.1.length = code.length ∧ 0 ≤ s.2.1 ∧ s.2.1 < code.length ∧ 0 ≤ s.2.2 ∧ Fit code (bk s.1) ∧ s.2.2 + pot code (bk s.1) s.2.1.toNat code.length ≤ sumT code code.length)
        (fun s => (sumT code code.length - s.2.2).toNat) ?_ 1000 _ ?_ (by simp; omega)
      · rintro ⟨b, q0, n⟩ again ⟨h1, h2, h3, h4, h5, h6⟩ k
        simp only at h1 h2 h3 h4 h5 h6
        obtain ⟨q, rfl⟩ := Int.eq_ofNat_of_zero_le h2
        have hq : q < code.length := by omega
        rw [show ((q : Int)).toNat = q by omega] at h6
        have hp1 := pot_pos g h5 hq
        have hi := List.getElem?_eq_getElem hq
        generalize hci : code[q] = i at hi
        have hidx : idx code (q : Int) = some i := by rw [idxN hq, hci]
        have hr := g.fine.right hi
        have hqb : q < b.length := by omega
        have hbidx : idx b (q : Int) = some (bk b q) := by
          unfold Go.Sx.idx; rw [if_pos (by omega)]; simpa using bk_at hqb
        unfold tappetlaw07_FlowEnds_l1
        refine OK.ite (fun _ => ?_) (fun hc => absurd hc (by simp; omega))
        simp only [next_good g hi, Option.bind_some, bne_self_eq_false, Bool.false_eq_true, if_false]
        -- what the step comes to
        have go : ∀ (b' : List Int) (t : Nat), b'.length = code.length → (t : Int) ∈ nx i q → Fit code (bk b') → (∀ p, p < code.length → val code (bk b') t p code.length + (if q = p then 1 else 0) ≤ val code (bk b) q p code.length) →
            OK (again (b', (t : Int), w64 (n + 1))) (fun o => o = .inr true) := by
          intro b' t hb' ht hf' hv
          have hrng := nx_range g hi ht
          have hst := pot_step hq hv
          rw [w64_eq (by omega) (by omega)]
          exact k _ ⟨hb', by simp only; omega, by simp only; omega, by simp only; omega, hf', by simp only; rw [show ((t : Int)).toNat = t by omega]; omega⟩ (by simp only; omega)
        refine OK.ite (fun hc => OK.ret ?_) (fun hc => ?_)
        · have : n < sumT code code.length := by omega
          simp [this]
        · have hne : nx i q ≠ [] := by
            intro e; rw [e] at hc; simp at hc
          have hl0 : 0 < (nx i q).length := List.length_pos_iff.2 hne
          refine OK.bind (OK.getN hl0 (fun x0 hx0 => ?_))
          refine OK.bind2 (R := fun _ => True) ?_ ?_
          · refine OK.ite (fun hc2 => ?_) (fun _ => OK.ret trivial)
            have : n < turns.length := by simpa using hc2
            exact OK.bind (OK.get h4 this (fun _ _ => OK.ret trivial))
          · intro tt _
            refine OK.bind2 (R := fun t => t ∈ nx i q) ?_ ?_
            · refine OK.ite (fun hc2 => ?_) (fun _ => OK.ret (List.mem_of_getElem? hx0))
              have hl1 : 1 < (nx i q).length := by simp at hc2; omega
              exact OK.bind (OK.getN hl1 (fun _ hx => OK.ret (List.mem_of_getElem? hx)))
            · intro o1419 ho
              simp only [hidx, Option.bind_some]
              -- the last look: the place is among those that Next tells
              have look : ∀ (t : Int), t ∈ nx i q → OK (if (t != x0) = true then (if decide (((nx i q).length : Int) < 2) = true then some true else (idx (nx i q) 1).bind fun x => some (t != x)) else some false) (fun o => o = false) := by
                intro t ht
                refine OK.ite (fun hc2 => ?_) (fun _ => OK.ret rfl)
                have hne2 : t ≠ x0 := by simpa using hc2
                obtain ⟨j, hj, hje⟩ := List.mem_iff_getElem.1 ht
                have hle2 : (nx i q).length ≤ 2 := by unfold nx; (repeat' split) <;> simp
                have hj1 : j = 1 := by
                  rcases Nat.lt_or_ge j 1 with h7 | h7
                  · exfalso
                    have : j = 0 := by omega
                    subst this
                    rw [List.getElem?_eq_getElem hj] at hx0
                    exact hne2 (hje.symm.trans (Option.some.inj hx0))
                  · omega
                subst hj1
                refine OK.ite (fun h7 => absurd h7 (by simp; omega)) (fun _ => ?_)
                refine OK.bind (OK.getN (i := 1) hj (fun x hx => OK.ret ?_))
                rw [List.getElem?_eq_getElem hj, hje] at hx
                cases hx
                simp
              by_cases hop : i.Op = 20
              · have hgo := goes_loop hr hop
                have hd := g.fine.loop hi hop
                have hfq := h5 q i hi hop
                have e20 : (i.Op == 20) = true := by simpa using hop
                have m1 : (q : Int) + 1 ∈ nx i q := mem_nx.2 (.inr ⟨by rw [hgo], rfl⟩)
                have m2 : (q : Int) - i.D ∈ nx i q := mem_nx.2 (.inl ⟨by rw [hgo], by rw [hgo]; simp only; omega⟩)
                simp only [e20, if_true]
                have stay : OK (again (b.set q 0, (q : Int) + 1, w64 (n + 1))) (fun o => o = .inr true) := by
                  have e : (q : Int) + 1 = ((q + 1 : Nat) : Int) := by omega
                  rw [e]
                  rw [e] at m1
                  refine go (b.set q 0) (q + 1) (by simpa using h1) m1 ?_ ?_
                  · intro a ia ha hoa
                    rw [bk_set hqb]
                    have := g.fine.loop ha hoa
                    split
                    · omega
                    · exact h5 a ia ha hoa
                  · intro p hp
                    refine val_fwd g h5 (by omega) (fwd_in g hi m1 (by omega)) (fun a ha => ?_) hp
                    obtain ⟨ia, a1, a2, a3, a4, _⟩ := cov_at g ha
                    have hf2 := h5 a ia a1 a2
                    rw [bk_set hqb, if_neg (by omega)]
                    exact ⟨rfl, hf2.1⟩
                have move : bk b q < i.Imm → OK (again (b.set q (bk b q + 1), (q : Int) - i.D, w64 (n + 1))) (fun o => o = .inr true) := by
                  intro hlim
                  have e : (q : Int) - i.D = (((q : Int) - i.D).toNat : Int) := by omega
                  rw [e]
                  rw [e] at m2
                  refine go (b.set q (bk b q + 1)) _ (by simpa using h1) m2 ?_ ?_
                  · intro a ia ha hoa
                    rw [bk_set hqb]
                    have h8 := h5 a ia ha hoa
                    split
                    · rename_i e2; subst e2; rw [hi] at ha; cases ha; omega
                    · exact h8
                  · intro p hp
                    exact val_back g h5 hi hop (by omega) (by rw [bk_set hqb, if_pos rfl]) (fun c hcq => by rw [bk_set hqb, if_neg hcq]) hlim hp
                have e1 : w64 ((q : Int) + 1) = q + 1 := w64_eq (by omega) (by omega)
                have e2 : w64 ((q : Int) - i.D) = q - i.D := w64_eq (by omega) (by omega)
                have e3 : w64 (bk b q + 1) = bk b q + 1 := w64_eq (by omega) (by omega)
                have tail : ∀ (x : List Int × Int), x.2 ∈ nx i q → OK (again (x.1, x.2, w64 (n + 1))) (fun o => o = .inr true) →
                    OK ((if (x.2 != x0) = true then (if decide (((nx i q).length : Int) < 2) = true then some true else (idx (nx i q) 1).bind fun y => some (x.2 != y)) else some false).bind fun o => if o = true then some (.inr false) else again (x.1, x.2, w64 (n + 1))) (fun o => o = .inr true) := by
                  intro x hx hk
                  refine OK.bind2 (look x.2 hx) ?_
                  rintro o rfl
                  exact OK.ite (fun h9 => absurd h9 (by simp)) (fun _ => hk)
                have t1 := tail (b.set q 0, (q : Int) + 1) m1 stay
                refine OK.bind2 (R := fun x => x.2 ∈ nx i q ∧ OK (again (x.1, x.2, w64 (n + 1))) (fun o => o = .inr true)) ?_ (fun x hx => tail x hx.1 hx.2)
                simp only [hbidx, Option.bind_some, e1, e2, e3, Int.toNat_natCast]
                refine OK.bind2 (R := fun c => c = true → bk b q < i.Imm) ?_ ?_
                · refine OK.ite (fun _ => OK.ret (by simp)) (fun _ => OK.ret (by simp))
                · intro c hc2
                  refine OK.ite (fun h9 => OK.ret ⟨m2, move (hc2 h9)⟩) (fun _ => OK.ret ⟨m1, stay⟩)
              · have e20 : (i.Op == 20) = false := by simpa using hop
                simp only [e20, Bool.false_eq_true, if_false, Option.bind_some]
                have hrng := nx_range g hi ho
                have hlt : (q : Int) < o1419 := by
                  rcases mem_nx.1 ho with ⟨p1, p2⟩ | ⟨p1, p2⟩
                  · have := goes_other hop p1; omega
                  · omega
                obtain ⟨t, rfl⟩ := Int.eq_ofNat_of_zero_le hrng.1
                refine OK.bind2 (look _ ho) ?_
                rintro o rfl
                refine OK.ite (fun h9 => absurd h9 (by simp)) (fun _ => ?_)
                refine go b t h1 ho h5 (fun p hp => ?_)
                exact val_fwd g h5 (by omega) (fwd_in g hi ho (by omega)) (fun a ha => by
                  obtain ⟨ia, a1, a2, _⟩ := cov_at g ha
                  exact ⟨rfl, (h5 a ia a1 a2).1⟩) hp
      · have hb0 : bk (List.replicate code.length 0) = fun _ => 0 := by
          funext a
          unfold bk
          rw [List.getD_eq_getElem?_getD, List.getElem?_replicate]
          split <;> rfl
        refine ⟨by simp, by simp, by simp only; have := g.n1; omega, by simp, ?_, ?_⟩
        · simp only [hb0]
          intro a i ha ho
          have := g.fine.loop ha ho
          exact ⟨Int.le_refl _, by simp only; omega⟩
        · simp only [hb0]
          have := pot_start g (q := 0)
          simpa using this
    obtain ⟨o, ho, rfl⟩ := main
    rw [ho]
    rfl
  · have : flow_Cost code = some (0, r.2) := by
      unfold flow_Cost
      rw [c1]
      have : (r.2 != 0) = true := by simpa using he
      simp only [Option.bind_some, this, if_true]
    have e : (r.2 != 0) = true := by simpa using he
    simp only [this, Option.bind_some, e, if_true]
    rfl
end Go.Proofs.YtjhmkpklhajpcaaDoor

/- FlowNested's plain law. -/
import Derived.Test.YtjhmkpklhajpcaaDoorKCheck
set_option linter.unusedVariables false
set_option linter.unusedSimpArgs false
namespace Go.Proofs.YtjhmkpklhajpcaaDoor
open Go.Sx

theorem check_rest {code : List api_Inst} (h1 : 1 ≤ code.length) (hn : code.length ≤ 64) (hD : Fine code) (hc : ∀ l, l < code.length → ¬ Cr code l) (he : ∀ p, p < code.length → ¬ En code p) :
    flow_Check code = some (if sumT code code.length > 256 then (0, 32) else (0, 0)) := by
  unfold flow_Check
  have e0 : ((code.length : Int) == 0) = false := by
    have : (code.length : Int) ≠ 0 := by omega
    simpa using this
  have e1 : decide ((code.length : Int) > 64) = false := by simp; omega
  obtain ⟨o, o1, o2⟩ := flowNested hn hD
  have : o = none := by
    cases o with
    | none => rfl
    | some l => exact absurd o1.2.1 (hc l o1.1)
  subst this
  have hf : findN (fun p => pick (En code p) ((p : Int), (31 : Int))) code.length 0 = none := findN_none' (fun q _ hq => pick_f (he q (by omega)))
  simp only [e0, e1, places_eq code hn, fine_none hD, Option.bind_some, Option.getD_none, o2, hf, flowCost hn hD]
  have hmn : decide (mn (sumT code code.length) > 256) = decide (sumT code code.length > 256) := by
    rw [Bool.eq_iff_iff]; unfold mn; simp; split <;> omega
  rw [hmn]
  by_cases h : sumT code code.length > 256 <;> simp [h]

def exitI : api_Inst := ⟨22, 0, 0, 0, 0⟩
theorem exit_goes : goesB exitI = (0, false, false) := by decide +kernel
theorem exit_right : rightB exitI = true := by decide +kernel
section
variable {code : List api_Inst}
theorem app_at {p : Nat} (h : p < code.length) : (code ++ [exitI])[p]? = code[p]? := List.getElem?_append_left h
theorem app_end : (code ++ [exitI])[code.length]? = some exitI := by simp
theorem app_cases {p : Nat} {i : api_Inst} (h : (code ++ [exitI])[p]? = some i) : (p < code.length ∧ code[p]? = some i) ∨ (p = code.length ∧ i = exitI) := by
  have hl := (List.getElem?_eq_some_iff.1 h).1
  rcases Nat.lt_or_ge p code.length with h1 | h1
  · rw [app_at h1] at h; exact .inl ⟨h1, h⟩
  · have : p = code.length := by simp at hl; omega
    subst this
    rw [app_end] at h
    exact .inr ⟨rfl, (Option.some.inj h).symm⟩
theorem app_fine (hD : Fine code) : Fine (code ++ [exitI]) := by
  intro p i hi
  have hlen : (code ++ [exitI]).length = code.length + 1 := by simp
  rw [hlen]
  rcases app_cases hi with ⟨hp, hi⟩ | ⟨rfl, rfl⟩
  · have hr := hD.right hi
    unfold errAt
    rw [hr]
    simp only [Bool.not_true, Bool.false_eq_true, if_false]
    rw [if_neg, if_neg]
    · intro h
      simp at h; omega
    · intro h
      simp only [Bool.and_eq_true, Bool.or_eq_true, decide_eq_true_eq] at h
      have := hD.leads hi h.1
      omega
  · unfold errAt
    rw [exit_right, exit_goes]
    simp
theorem app_covers {p a : Nat} : covers (code ++ [exitI]) p a = covers code p a := by
  unfold covers
  rcases Nat.lt_trichotomy a code.length with h | h | h
  · rw [app_at h]
  · subst h
    rw [app_end, List.getElem?_eq_none (Nat.le_refl _)]
    simp [exitI]
  · rw [List.getElem?_eq_none (by simp; omega), List.getElem?_eq_none (by omega)]
theorem app_cr {l : Nat} (h : Cr (code ++ [exitI]) l) : l < code.length ∧ Cr code l := by
  obtain ⟨m, hm, il, im, e1, e2, e3, e4, c⟩ := h
  rcases app_cases e1 with ⟨hl, e1⟩ | ⟨_, rfl⟩
  · rcases app_cases e3 with ⟨hm2, e3⟩ | ⟨_, rfl⟩
    · exact ⟨hl, m, hm, il, im, e1, e2, e3, e4, c⟩
    · simp [exitI] at e4
  · simp [exitI] at e2
theorem app_en {p : Nat} (h : En (code ++ [exitI]) p) : p < code.length ∧ En code p := by
  obtain ⟨i, e1, g1, g2, a, ia, t, ha, e2, e3, e4, v1, v2, v3⟩ := h
  rw [app_covers] at v1 v2
  rcases app_cases e1 with ⟨hl, e1⟩ | ⟨_, rfl⟩
  · rcases app_cases e2 with ⟨ha2, e2⟩ | ⟨_, rfl⟩
    · exact ⟨hl, i, e1, g1, g2, a, ia, t, ha2, e2, e3, e4, v1, v2, v3⟩
    · simp [exitI] at e3
  · rw [exit_goes] at g1; cases g1
theorem app_times {p k : Nat} (hk : k ≤ code.length) : times (code ++ [exitI]) p k = times code p k := by
  induction k with
  | zero => rfl
  | succ k ih =>
    unfold times
    rw [app_at (by omega), app_covers, ih (by omega)]
theorem app_times1 {p : Nat} : times (code ++ [exitI]) p (code.length + 1) = times code p code.length := by
  have h : times (code ++ [exitI]) p (code.length + 1) = match (code ++ [exitI])[code.length]? with
    | some i => if covers (code ++ [exitI]) p code.length then times (code ++ [exitI]) p code.length * (i.Imm + 1) else times (code ++ [exitI]) p code.length
    | none => times (code ++ [exitI]) p code.length := rfl
  rw [h, app_end, app_covers, app_times (Nat.le_refl _)]
  have : covers code p code.length = false := by unfold covers; rw [List.getElem?_eq_none (Nat.le_refl _)]
  simp [this]
theorem times_end {k : Nat} (hk : k ≤ code.length) : times code code.length k = 1 := by
  induction k with
  | zero => rfl
  | succ k ih =>
    unfold times
    rw [ih (by omega)]
    have : covers code code.length k = false := by
      unfold covers
      split
      · simp; omega
      · rfl
    split
    · rw [this]; rfl
    · rfl
theorem app_sum : sumT (code ++ [exitI]) (code ++ [exitI]).length = sumT code code.length + 1 := by
  have hlen : (code ++ [exitI]).length = code.length + 1 := by simp
  have h : ∀ k, k ≤ code.length → sumT (code ++ [exitI]) k = sumT code k := by
    intro k
    induction k with
    | zero => intro _; rfl
    | succ k ih =>
      intro hk
      rw [sumT_succ, sumT_succ, ih (by omega), hlen, app_times1]
  rw [hlen, sumT_succ, h _ (Nat.le_refl _), hlen, app_times1, times_end (Nat.le_refl _)]
end

/-! ### Around -/
def arnd (ls : List api_Loop) (p : Int) : List Int := (ls.filter fun l => decide (p ≥ l.Head) && decide (p ≤ l.At)).map (·.At)
theorem check_at {code : List api_Inst} (g : Good code) {p : Int} (h0 : 0 ≤ p) (h1 : p < code.length) : flow_check code p = some 0 := by
  unfold flow_check
  rw [check_good g]
  have a : decide (p < 0) = false := by simp; omega
  have b : decide (p ≥ (code.length : Int)) = false := by simp; omega
  simp [a, b]
theorem around_eq {code : List api_Inst} (g : Good code) {p : Int} (h0 : 0 ≤ p) (h1 : p < code.length) : flow_Around code p = some (arnd (lps code code.length) p, 0) := by
  unfold flow_Around
  rw [check_at g h0 h1]
  simp only [Option.bind_some, loops_eq g.n64 g.fine]
  have hl := lps_len code code.length
  have hn := g.n64
  generalize lps code code.length = ls at hl
  have : forN (flow_Around_l1 p ls) (fun s => s) ls.length 0 ([] : List Int) = some (arnd ls p) := by
    refine OK.is ?_
    refine OK.count (fun (i : Nat) (s : List Int) => s = arnd (ls.take i) p ∧ s.length ≤ i) (by simp [arnd]) ?_ (fun s h => by rw [h.1]; simp)
    intro i s again hi ⟨hs, hlen⟩ k
    unfold flow_Around_l1
    refine OK.bind (OK.getN hi (fun x hx => ?_))
    have htake : ls.take (i + 1) = ls.take i ++ [x] := by rw [List.take_add_one, hx]; rfl
    simp only [flow_in, Option.bind_some]
    refine OK.ite (fun hc => ?_) (fun hc => ?_)
    · refine OK.bind (OK.hasRoom (by simp; omega) ?_)
      refine k _ ⟨?_, by simp; omega⟩
      rw [htake]
      unfold arnd at hs ⊢
      rw [List.filter_append, List.map_append, ← hs]
      simp only [List.filter_cons, List.filter_nil, hc, if_true]
      rfl
    · refine k _ ⟨?_, by omega⟩
      rw [htake]
      unfold arnd at hs ⊢
      rw [List.filter_append, List.map_append, ← hs]
      simp [List.filter_cons, hc]
  rw [this]
  rfl
theorem arnd_sorted {ls : List api_Loop} (hs : ls.Pairwise (fun a b => a.At < b.At)) (p : Int) : (arnd ls p).Pairwise (· < ·) := by
  unfold arnd
  rw [List.pairwise_map]
  exact List.Pairwise.filter _ hs
theorem mem_arnd {ls : List api_Loop} {p x : Int} : x ∈ arnd ls p ↔ ∃ l ∈ ls, l.Head ≤ p ∧ p ≤ l.At ∧ l.At = x := by
  unfold arnd
  simp only [List.mem_map, List.mem_filter, Bool.and_eq_true, decide_eq_true_eq]
  constructor
  · rintro ⟨l, ⟨h1, h2, h3⟩, h4⟩; exact ⟨l, h1, h2, h3, h4⟩
  · rintro ⟨l, h1, h2, h3, h4⟩; exact ⟨l, ⟨h1, h2, h3⟩, h4⟩

theorem flowNested_law (code : List api_Inst) (h : code.length * 40 ≤ 140737488351232) : tappetlaw07_FlowNested 100 code = some true := by
  obtain ⟨r, c1, _, c3, _⟩ := check_both code 100 (by omega)
  unfold tappetlaw07_FlowNested
  simp only [awake_true, copied_eq code (by omega), Option.bind_some, Bool.not_true, Bool.false_eq_true, if_false]
  by_cases he : r.2 = 0
  · have g := (c3 he).2
    have hn := g.n64
    simp only [good_loops g, Option.bind_some, bne_self_eq_false, Bool.false_eq_true, if_false]
    have hsort := (lps_sorted code code.length).1
    have hl := lps_len code code.length
    have main : forN (tappetlaw07_FlowNested_l1 code (lps code code.length, 0)) (fun _ => (.inl ())) (lps code code.length).length 0 () = some (.inl ()) := by
      rw [search0 (fun _ => none) (N := (lps code code.length).length)]
      · rw [findN_none' (fun _ _ _ => rfl)]; rfl
      · intro i again hi
        have hx := List.getElem?_eq_getElem hi
        generalize hxi : (lps code code.length)[i] = x at hx
        obtain ⟨q, iq, hq, hqi, hop, rfl⟩ := mem_lps.1 (List.mem_of_getElem? hx)
        have hd := g.fine.loop hqi hop
        unfold tappetlaw07_FlowNested_l1
        have a1 : (loopAt iq q).At = q := rfl
        have a2 : (loopAt iq q).Head = q - iq.D := rfl
        have d1 : decide ((loopAt iq q).Head < 0) = false := by rw [a2]; simp; omega
        have d2 : decide ((loopAt iq q).Head ≥ (loopAt iq q).At) = false := by rw [a1, a2]; simp; omega
        have d3 : decide ((loopAt iq q).At ≥ (code.length : Int)) = false := by rw [a1]; simp; omega
        simp only [idxN hi, hxi, Option.bind_some, d1, d2, d3, Bool.false_eq_true, if_false]
        have d4 : (if decide ((i : Int) > 0) = true then (idx (lps code code.length) (w64 ((i : Int) - 1))).bind fun y => some (decide (y.At ≥ (loopAt iq q).At)) else some false) = some false := by
          by_cases hi0 : (i : Int) > 0
          · have e1 : w64 ((i : Int) - 1) = ((i - 1 : Nat) : Int) := by rw [w64_eq (by omega) (by omega)]; omega
            rw [if_pos (by simpa using hi0), e1, idxN (by omega)]
            have hy := List.getElem?_eq_getElem (show i - 1 < (lps code code.length).length by omega)
            have := (sorted_lt hsort hy hx).2 (by omega)
            simp only [Option.bind_some]
            congr 1
            simp; omega
          · rw [if_neg (by simpa using hi0)]
        rw [d4]
        have hr : room i 1 = some () := by unfold room; rw [if_pos (by omega)]
        simp only [Option.bind_some, Bool.false_eq_true, if_false, hr]
        have inner : forN (tappetlaw07_FlowNested_l2 (lps code code.length, 0) (loopAt iq q)) (fun _ => (.inl ())) i 0 () = some (.inl ()) := by
          rw [search0 (fun _ => none) (N := i)]
          · rw [findN_none' (fun _ _ _ => rfl)]; rfl
          · intro k again hk
            have hkl : k < (lps code code.length).length := by omega
            have hy := List.getElem?_eq_getElem hkl
            generalize hyk : (lps code code.length)[k] = y at hy
            obtain ⟨m, im, hm, hmi, hop2, rfl⟩ := mem_lps.1 (List.mem_of_getElem? hy)
            have hlt := (sorted_lt hsort hy hx).2 hk
            unfold tappetlaw07_FlowNested_l2
            simp only [idxN hkl, hyk, Option.bind_some]
            have b1 : (loopAt im m).At = m := rfl
            have b2 : (loopAt im m).Head = m - im.D := rfl
            rw [a1, b1] at hlt
            have hno := g.cr q hq
            by_cases hc1 : (loopAt im m).At ≥ (loopAt iq q).Head
            · have e : decide ((loopAt im m).Head < (loopAt iq q).Head) = false := by
                simp only [decide_eq_false_iff_not]
                intro hc2
                rw [b1, a2] at hc1
                rw [b2, a2] at hc2
                exact hno ⟨m, by omega, iq, im, hqi, hop, hmi, hop2, by omega, by omega⟩
              simp [hc1, e]
            · simp [hc1]
        have har := around_eq g (p := (loopAt iq q).Head) (by rw [a2]; omega) (by rw [a2]; omega)
        simp only [inner, har, Option.bind_some]
        have hmem : (loopAt iq q).At ∈ arnd (lps code code.length) (loopAt iq q).Head := mem_arnd.2 ⟨_, List.mem_of_getElem? hx, Int.le_refl _, by rw [a1, a2]; omega, rfl⟩
        have hso := arnd_sorted hsort (loopAt iq q).Head
        have hlen : (arnd (lps code code.length) (loopAt iq q).Head).length ≤ 64 := by
          unfold arnd
          rw [List.length_map]
          exact Nat.le_trans (List.length_filter_le _ _) (by omega)
        generalize arnd (lps code code.length) (loopAt iq q).Head = ar at hmem hso hlen
        have h3 : OK (forN (tappetlaw07_FlowNested_l3 (loopAt iq q) (ar, 0)) (fun s => (.inl s)) ar.length 0 false) (fun o => o = .inl true) := by
          refine OK.count (fun (i : Nat) (s : Bool) => s = true ↔ ∃ k, k < i ∧ ar[k]? = some (loopAt iq q).At) (by simp) ?_ ?_
          · intro k s again hk hs kk
            unfold tappetlaw07_FlowNested_l3
            have hy := List.getElem?_eq_getElem hk
            have step : (∃ j, j < k + 1 ∧ ar[j]? = some (loopAt iq q).At) ↔ ((∃ j, j < k ∧ ar[j]? = some (loopAt iq q).At) ∨ ar[k] = (loopAt iq q).At) := by
              constructor
              · rintro ⟨j, hj, hj2⟩
                rcases Nat.lt_or_ge j k with h4 | h4
                · exact .inl ⟨j, h4, hj2⟩
                · have : j = k := by omega
                  subst this
                  rw [hy] at hj2
                  exact .inr (Option.some.inj hj2)
              · rintro (⟨j, hj, hj2⟩ | h4)
                · exact ⟨j, by omega, hj2⟩
                · exact ⟨k, by omega, by rw [hy, h4]⟩
            refine OK.bind2 (R := fun b => b = true ↔ ∃ j, j < k + 1 ∧ ar[j]? = some (loopAt iq q).At) ?_ ?_
            · rw [step, ← hs]
              refine OK.ite (fun h5 => OK.ret (by simp [h5])) (fun h5 => ?_)
              simp only [idxN hk, Option.bind_some]
              exact OK.ret (by simp [h5])
            · intro b hb
              refine OK.bind2 (R := fun c => c = false) ?_ ?_
              · refine OK.ite (fun h5 => ?_) (fun h5 => OK.ret rfl)
                have h6 : (k : Int) > 0 := by simpa using h5
                have e1 : w64 ((k : Int) - 1) = ((k - 1 : Nat) : Int) := by rw [w64_eq (by omega) (by omega)]; omega
                have hk1 : k - 1 < ar.length := by omega
                simp only [e1, idxN hk1, idxN hk, Option.bind_some]
                refine OK.ret ?_
                have := List.pairwise_iff_getElem.1 hso (k - 1) k hk1 hk (by omega)
                simp; omega
              · rintro c rfl
                refine OK.ite (fun h5 => absurd h5 (by simp)) (fun _ => ?_)
                exact kk _ hb
          · intro s hs
            have : s = true := hs.2 (by
              obtain ⟨j, hj, hj2⟩ := List.mem_iff_getElem.1 hmem
              exact ⟨j, hj, by rw [List.getElem?_eq_getElem hj, hj2]⟩)
            rw [this]
        obtain ⟨o, ho, rfl⟩ := h3
        simp only [ho, Option.bind_some]
        simp
    simp only [main, Option.bind_some]
    have hroom : room (code.length + [(api_Inst.mk 22 0 0 0 0)].length) 40 = some () := by unfold room; rw [if_pos (by simp; omega)]
    simp only [hroom, Option.bind_some]
    show ((flow_Check (code ++ [exitI])).bind _) = _
    by_cases h64 : code.length = 64
    · have hck : flow_Check (code ++ [exitI]) = some (0, 11) := by
        unfold flow_Check
        have e0 : (((code ++ [exitI]).length : Int) == 0) = false := by rw [List.length_append, h64]; rfl
        have e1 : decide (((code ++ [exitI]).length : Int) > 64) = true := by rw [List.length_append, h64]; rfl
        simp only [e0, e1]; rfl
      have e2 : ((code.length : Int) == 64) = true := by simp; omega
      simp only [hck, Option.bind_some, e2]; rfl
    · have e2 : ((code.length : Int) == 64) = false := by
        have : (code.length : Int) ≠ 64 := by omega
        simpa using this
      have hck := check_rest (code := code ++ [exitI]) (by simp) (by simp; omega) (app_fine g.fine) (fun l _ hc => by have := app_cr hc; exact g.cr l this.1 this.2) (fun p _ hc => by have := app_en hc; exact g.en p this.1 this.2)
      rw [app_sum] at hck
      simp only [hck, Option.bind_some, e2, good_cost g, Bool.false_eq_true, if_false]
      have hcost := g.cost
      by_cases h5 : sumT code code.length = 256
      · simp [h5]
      · have : ¬ (sumT code code.length + 1 > 256) := by omega
        have h6 : (sumT code code.length == 256) = false := by simpa using h5
        simp [this, h6]
  · have : flow_Loops code = some ([], r.2) := by
      unfold flow_Loops
      rw [c1]
      have : (r.2 != 0) = true := by simpa using he
      simp only [Option.bind_some, this, if_true]
    have e : (r.2 != 0) = true := by simpa using he
    simp only [this, Option.bind_some, e, if_true]
    rfl
end Go.Proofs.YtjhmkpklhajpcaaDoor

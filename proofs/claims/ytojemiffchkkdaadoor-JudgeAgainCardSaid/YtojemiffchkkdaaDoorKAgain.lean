/- JudgeAgain's plain law. -/
import Derived.Test.YtojemiffchkkdaaDoorKSim
set_option linter.unusedVariables false
set_option linter.unusedSimpArgs false
namespace Go.Proofs.YtojemiffchkkdaaDoor
open Go.Sx

/-! ### a code with more behind it -/
structure Tail (T : List api_Inst) : Prop where
  right : ∀ t ∈ T, rightB t = true
  stay : ∀ t ∈ T, (goesB t).2.1 = false
  op : ∀ t ∈ T, t.Op ≠ 20
  last : ∀ t, T[T.length - 1]? = some t → (goesB t).2.2 = false
  some_ : 0 < T.length
section
variable {code T : List api_Inst}
theorem app_cases {p : Nat} {i : api_Inst} (h : (code ++ T)[p]? = some i) : (p < code.length ∧ code[p]? = some i) ∨ (code.length ≤ p ∧ T[p - code.length]? = some i) := by
  rcases Nat.lt_or_ge p code.length with h1 | h1
  · rw [List.getElem?_append_left h1] at h; exact .inl ⟨h1, h⟩
  · rw [List.getElem?_append_right h1] at h; exact .inr ⟨h1, h⟩
theorem app_fine (hT : Tail T) (hD : Fine code) : Fine (code ++ T) := by
  intro p i hi
  have h0 := hT.some_
  have hlen : (code ++ T).length = code.length + T.length := by simp
  rw [hlen]
  rcases app_cases hi with ⟨hp, hi⟩ | ⟨hp, hi⟩
  · have hr := hD.right hi
    unfold errAt
    rw [hr]
    simp only [Bool.not_true, Bool.false_eq_true, if_false]
    rw [if_neg, if_neg]
    · intro h
      simp at h; omega
    · intro h
      simp only [Bool.and_eq_true, Bool.or_eq_true, decide_eq_true_eq] at h
      have := hD.leads hi h.1
      omega
  · have hm := List.mem_of_getElem? hi
    have hl := (List.getElem?_eq_some_iff.1 hi).1
    unfold errAt
    rw [hT.right i hm, hT.stay i hm]
    simp only [Bool.not_true, Bool.false_eq_true, if_false, Bool.false_and]
    rw [if_neg]
    intro h
    simp only [Bool.and_eq_true, beq_iff_eq] at h
    have := hT.last i (by rw [show T.length - 1 = p - code.length by omega]; exact hi)
    rw [this] at h
    cases h.1
theorem app_covers (hT : Tail T) {p a : Nat} : covers (code ++ T) p a = covers code p a := by
  unfold covers
  rcases Nat.lt_or_ge a code.length with h | h
  · rw [List.getElem?_append_left h]
  · rw [List.getElem?_append_right h, List.getElem?_eq_none h]
    cases he : T[a - code.length]? with
    | none => rfl
    | some t =>
      have := hT.op t (List.mem_of_getElem? he)
      simp [this]
theorem app_cr (hT : Tail T) {l : Nat} (h : Cr (code ++ T) l) : l < code.length ∧ Cr code l := by
  obtain ⟨m, hm, il, im, e1, e2, e3, e4, c⟩ := h
  rcases app_cases e1 with ⟨hl, e1⟩ | ⟨_, e1⟩
  · rcases app_cases e3 with ⟨hm2, e3⟩ | ⟨_, e3⟩
    · exact ⟨hl, m, hm, il, im, e1, e2, e3, e4, c⟩
    · exact absurd e4 (hT.op _ (List.mem_of_getElem? e3))
  · exact absurd e2 (hT.op _ (List.mem_of_getElem? e1))
theorem app_en (hT : Tail T) {p : Nat} (h : En (code ++ T) p) : p < code.length ∧ En code p := by
  obtain ⟨i, e1, g1, g2, a, ia, t, ha, e2, e3, e4, v1, v2, v3⟩ := h
  rw [app_covers hT] at v1 v2
  rcases app_cases e1 with ⟨hl, e1⟩ | ⟨_, e1⟩
  · rcases app_cases e2 with ⟨ha2, e2⟩ | ⟨_, e2⟩
    · exact ⟨hl, i, e1, g1, g2, a, ia, t, ha2, e2, e3, e4, v1, v2, v3⟩
    · exact absurd e3 (hT.op _ (List.mem_of_getElem? e2))
  · rw [hT.stay _ (List.mem_of_getElem? e1)] at g1; cases g1
theorem app_check (hT : Tail T) (hg : Good code) (hn : code.length + T.length ≤ 64) : flow_Check (code ++ T) = some (0, 32) ∨ Good (code ++ T) := by
  have h1 : (code ++ T).length ≤ 64 := by simpa using hn
  have h2 := hg.n1
  have hf := app_fine hT hg.fine
  have hc : ∀ l, l < (code ++ T).length → ¬ Cr (code ++ T) l := fun l _ h => hg.cr l (app_cr hT h).1 (app_cr hT h).2
  have he : ∀ p, p < (code ++ T).length → ¬ En (code ++ T) p := fun p _ h => hg.en p (app_en hT h).1 (app_en hT h).2
  have h3 : 1 ≤ (code ++ T).length := by rw [List.length_append]; omega
  have hk := check_rest h3 h1 hf hc he
  by_cases h : sumT (code ++ T) (code ++ T).length > 256
  · rw [if_pos h] at hk; exact .inl hk
  · exact .inr ⟨h3, h1, hf, hc, he, by omega⟩
end
theorem tail_ok {a : Int} (h0 : 0 ≤ a) (h1 : a < 8) : Tail [⟨1, 1, a, 7, 0⟩, ⟨22, 0, 7, 0, 0⟩] := by
  have g1 : rightB ⟨1, 1, a, 7, 0⟩ = true := by
    simp [rightB, inB, regB, srcB]; omega
  have g2 : goesB ⟨1, 1, a, 7, 0⟩ = (0, false, true) := by
    simp [goesB, jumpsB, loopsB, g1, inB]
  have g3 : rightB ⟨22, 0, 7, 0, 0⟩ = true := by decide +kernel
  have g4 : goesB ⟨22, 0, 7, 0, 0⟩ = (0, false, false) := by decide +kernel
  refine ⟨fun t ht => ?_, fun t ht => ?_, fun t ht => ?_, fun t ht => ?_, by simp⟩
  · rcases List.mem_cons.1 ht with rfl | ht
    · exact g1
    · rw [List.mem_singleton.1 ht]; exact g3
  · rcases List.mem_cons.1 ht with rfl | ht
    · rw [g2]
    · rw [List.mem_singleton.1 ht, g4]
  · rcases List.mem_cons.1 ht with rfl | ht
    · simp
    · rw [List.mem_singleton.1 ht]; simp
  · simp at ht
    rw [← ht, g4]
/-! ### more maps -/
theorem l2_eq (i : Nat) (s : List Int) : forN (tappetlaw09_JudgeAgain_l2 i s) (fun (s : Bool) => s) s.length 0 false = some (s.contains (i : Int)) := by
  refine OK.is (OK.count (fun q b => b = true ↔ (i : Int) ∈ s.take q) (by simp) (fun q b again hq hI k => ?_) (fun b hI => ?_))
  · unfold tappetlaw09_JudgeAgain_l2
    have ht : s.take (q + 1) = s.take q ++ [s[q]] := by rw [List.take_add_one, List.getElem?_eq_getElem hq]; rfl
    refine OK.ite (fun hb => k _ ?_) (fun hb => ?_)
    · rw [ht]
      exact ⟨fun _ => List.mem_append_left _ (hI.1 hb), fun _ => rfl⟩
    · rw [idxN hq]
      simp only [Option.bind_some]
      refine k _ ?_
      rw [ht, List.mem_append, List.mem_singleton]
      have hb : b ≠ true := by simp [hb]
      have hn : (i : Int) ∉ s.take q := fun h => hb (hI.2 h)
      constructor
      · intro h
        have : s[q] = (i : Int) := by simpa using h
        exact .inr this.symm
      · rintro (h | h)
        · exact absurd h hn
        · simp [h]
  · rw [List.take_of_length_le (Nat.le_refl _)] at hI
    rw [Bool.eq_iff_iff, hI]
    simp
theorem more_ok (l : List Int) (hl : GoodM l) : OK (forN tappetlaw09_JudgeAgain_l1 (fun (s : List Int) => s) 4 0 l) (fun s => GoodM s ∧ s.length = 4 ∧ l.length ≤ s.length) := by
  refine OK.count (fun n s => (∀ x ∈ s, 0 ≤ x ∧ x < 4) ∧ s.Nodup ∧ (∀ q : Nat, q < n → (q : Int) ∈ s) ∧ l.length ≤ s.length ∧ s.length ≤ 4 + n) ⟨hl.1, hl.2.1, by simp, Nat.le_refl _, by have := hl.2.2; omega⟩ (fun n s again hn hI k => ?_) (fun s hI => ?_)
  · unfold tappetlaw09_JudgeAgain_l1
    rw [l2_eq]
    simp only [Option.bind_some]
    refine OK.ite (fun hc => ?_) (fun hc => k _ ⟨hI.1, hI.2.1, fun q hq => ?_, hI.2.2.2.1, by omega⟩)
    · have hc : (n : Int) ∉ s := by simpa using hc
      refine OK.bind (OK.hasRoom (by simp; omega) (k _ ⟨fun x hx => ?_, ?_, fun q hq => ?_, ?_, ?_⟩))
      · rcases List.mem_append.1 hx with hx | hx
        · exact hI.1 x hx
        · rw [List.mem_singleton.1 hx]; omega
      · rw [List.nodup_append]
        refine ⟨hI.2.1, by simp, fun a ha b hb e => ?_⟩
        rw [List.mem_singleton.1 hb] at e
        subst e
        exact hc ha
      · by_cases e : q = n
        · subst e; simp
        · exact List.mem_append_left _ (hI.2.2.1 q (by omega))
      · rw [List.length_append]; omega
      · rw [List.length_append]
        have : [(n : Int)].length = 1 := rfl
        omega
    · by_cases e : q = n
      · subst e; simpa using hc
      · exact hI.2.2.1 q (by omega)
  · have hp : s.Perm [0, 1, 2, 3] := by
      refine (List.perm_ext_iff_of_nodup hI.2.1 (by decide)).2 (fun a => ⟨fun ha => ?_, fun ha => ?_⟩)
      · have := hI.1 a ha
        simp; omega
      · have h0 := hI.2.2.1 0 (by omega)
        have h1 := hI.2.2.1 1 (by omega)
        have h2 := hI.2.2.1 2 (by omega)
        have h3 := hI.2.2.1 3 (by omega)
        simp at ha
        rcases ha with rfl | rfl | rfl | rfl
        · exact h0
        · exact h1
        · exact h2
        · exact h3
    have hlen := hp.length_eq
    simp at hlen
    exact ⟨⟨hI.1, hI.2.1, by omega⟩, hlen, hI.2.2.2.1⟩
/-! ### the law -/
theorem typesOf_ext {m m' : api_Module} {k : Nat} {j j' : judge_judge} (h : Ext m m' (List.replicate k (fun _ => zeroT)) (List.replicate k false) j j') (hj : j.any.length = j.came.length) :
    typesOf j' = typesOf j ++ List.replicate k [] := by
  have hl : j'.came.length = j.came.length + k := by rw [h.came]; simp
  apply List.ext_getElem?
  intro q
  rcases Nat.lt_or_ge q j.came.length with hq | hq
  · rw [List.getElem?_append_left (by rw [types_len]; exact hq), types_at (by omega), types_at hq]
    unfold known
    rw [h.any, h.came, List.getElem?_append_left (by omega), List.getElem?_append_left hq]
  · rw [List.getElem?_append_right (by rw [types_len]; exact hq), types_len, List.getElem?_replicate]
    by_cases hk : q < j.came.length + k
    · rw [types_at (by omega), if_pos (by omega)]
      unfold known
      rw [h.any, List.getElem?_append_right (by omega), List.getElem?_replicate, if_pos (by omega)]
    · rw [List.getElem?_eq_none (by rw [types_len]; omega), if_neg (by omega)]
theorem type_refl (x : api_Type) : (!((x.Kind == x.Kind) && (((x.Span.Lo == x.Span.Lo) && ((x.Span.Hi == x.Span.Hi) && true)) && ((x.Map == x.Map) && true)))) = false := by simp
theorem known_len (j : judge_judge) (p : Nat) : (known j p).length ≤ 8 := by
  unfold known
  split
  · rw [arrL_len]
    exact Nat.le_refl _
  · simp
theorem tmod8 (t : Int) : 0 ≤ (w64 ((t.tmod 8) + 8)).tmod 8 ∧ (w64 ((t.tmod 8) + 8)).tmod 8 < 8 := by
  have h1 : -8 < t.tmod 8 ∧ t.tmod 8 < 8 := by
    cases t with
    | ofNat n =>
      have e : (Int.ofNat n).tmod 8 = ((n % 8 : Nat) : Int) := rfl
      rw [e]; omega
    | negSucc n =>
      have e : (Int.negSucc n).tmod 8 = -(((n + 1) % 8 : Nat) : Int) := rfl
      rw [e]; omega
  rw [w64_eq (by omega) (by omega)]
  obtain ⟨q, hq⟩ := Int.eq_ofNat_of_zero_le (show 0 ≤ t.tmod 8 + 8 by omega)
  rw [hq]
  have e : (q : Int).tmod 8 = ((q % 8 : Nat) : Int) := rfl
  rw [e]
  omega
theorem Judge_eq {m : api_Module} {o : Option judge_judge} {p e : Int} (h : judge_judged 100 m = some (o, p, e)) : judge_Judge 100 m = some (p, e) := by
  unfold judge_Judge
  rw [h]
  cases o <;> rfl
theorem judgeAgain_law (m : api_Module) (t : Int) (h1 : m.Maps.length * 8 ≤ 140737488355328) (h2 : m.Code.length * 40 ≤ 140737488355328) : tappetlaw09_JudgeAgain 100 m t = some true := by
  refine OK.is ?_
  unfold tappetlaw09_JudgeAgain
  rw [awake_true]
  simp only [Option.bind_some, copied_eq m h1 h2]
  refine OK.ite (fun h => by cases h) (fun _ => ?_)
  obtain ⟨⟨o, p, e⟩, hj, hJ⟩ := judged_ok m
  rw [Judge_eq hj]
  simp only [Option.bind_some]
  refine OK.ite (fun he => OK.ret ?_) (fun he => ?_)
  · have := hJ.place
    simp only at this
    rcases this with h | ⟨h, h'⟩
    · simp [h]
    · simp [h, h']
  have he : e = 0 := by simpa using he
  subst he
  obtain ⟨hp, hg, hgm, j, hj2, hu⟩ := hJ.good rfl
  simp only at hp hj2
  subst hp; subst hj2
  rw [Types_ok m hj hJ]
  simp only [Option.bind_some, if_true]
  have hn := hg.n64
  have hn1 := hg.n1
  have hlt : (typesOf j).length = m.Code.length := by rw [types_len, hu.ji.lenC]
  refine OK.bind2 (more_ok m.Maps hgm) (fun l hl => ?_)
  obtain ⟨j1, hj1, _⟩ := judged_more (m := m) (m' := ⟨l, m.Code⟩) (T := []) ⟨by simp, hl.2.2⟩ hg hgm hg hl.1 (by simp) hj
  rw [Judge_eq hj1]
  simp only [Option.bind_some]
  refine OK.ite (fun h => ?_) (fun _ => ?_)
  · rw [hl.2.1] at h; simp at h
  refine OK.bind2 (R := fun b => b = false → m.Code.length + 2 ≤ 64) (OK.ite (fun h => ?_) (fun _ => OK.ite (fun h => OK.ret (by simp)) (fun h => ?_))) (fun b hb => ?_)
  · simp at h
    rw [h] at hn1
    simp at hn1
  · have h := of_decide_eq_false h
    rw [w64_eq (by omega) (by omega)] at h
    refine OK.bind (OK.get ?_ ?_ (fun x _ => OK.ret (fun _ => by omega)))
    · rw [w64_eq (by omega) (by omega)]; omega
    · rw [w64_eq (by omega) (by omega)]; omega
  refine OK.ite (fun _ => OK.ret (by simp; omega)) (fun hf => ?_)
  have hlen := hb hf
  refine OK.bind (OK.hasRoom (by simp; omega) ?_)
  have ha := tmod8 t
  generalize (w64 ((t.tmod 8) + 8)).tmod 8 = a at ha ⊢
  have hT := tail_ok ha.1 ha.2
  rcases app_check hT hg hlen with hc | hg2
  · -- it costs too much
    obtain ⟨⟨o2, p2, e2⟩, hk, hK⟩ := judged_ok ⟨m.Maps, m.Code ++ [⟨1, 1, a, 7, 0⟩, ⟨22, 0, 7, 0, 0⟩]⟩
    have he2 : e2 = 32 := by
      unfold judge_judged at hk
      obtain ⟨g, hg1, hg3⟩ := good_ok m.Maps
      have : g = true := hg3.2 hgm
      subst this
      simp only [hg1, hc, Option.bind_some] at hk
      simp at hk
      exact hk.2.2.symm
    rw [Types_ok _ hk hK, he2]
    simp only [Option.bind_some]
    exact OK.ite_true (by simp) (OK.ret rfl)
  · obtain ⟨j2, hj2, hx⟩ := judged_more (m := m) (m' := ⟨m.Maps, m.Code ++ [⟨1, 1, a, 7, 0⟩, ⟨22, 0, 7, 0, 0⟩]⟩) (T := [⟨1, 1, a, 7, 0⟩, ⟨22, 0, 7, 0, 0⟩]) ⟨rfl, Nat.le_refl _⟩ hg hgm hg2 hgm hT.op hj
    rw [Types_ok _ hj2 (okAt (judged_ok _) hj2)]
    simp only [if_true, Option.bind_some]
    rw [typesOf_ext hx (by rw [hu.ji.lenA, hu.ji.lenC])]
    refine OK.ite (fun h => by cases h) (fun _ => ?_)
    have e1 : w64 (((typesOf j).length : Int) + 2) = ((m.Code.length + 2 : Nat) : Int) := by rw [hlt, w64_eq (by omega) (by omega)]; simp
    have e2 : w64 (((typesOf j).length : Int) + 1) = ((m.Code.length + 1 : Nat) : Int) := by rw [hlt, w64_eq (by omega) (by omega)]; simp
    have r2 : List.replicate [(⟨1, 1, a, 7, 0⟩ : api_Inst), ⟨22, 0, 7, 0, 0⟩].length ([] : List api_Type) = [[], []] := rfl
    rw [r2]
    have i1 : idx (typesOf j ++ [[], []]) ((typesOf j).length : Int) = some [] := by
      unfold idx
      rw [if_pos (by omega)]
      simp
    have i2 : idx (typesOf j ++ [[], []]) ((m.Code.length + 1 : Nat) : Int) = some [] := by
      unfold idx
      rw [if_pos (by omega), ← hlt]
      simp [List.getElem?_append_right]
    refine OK.bind2 (R := fun b => b = false) (OK.ite (fun h => by cases h) (fun _ => OK.ite (fun h => ?_) (fun _ => ?_))) (fun b hb => ?_)
    · rw [e1, List.length_append, hlt] at h
      simp at h
    · rw [i1]
      simp only [Option.bind_some]
      refine OK.ite (fun h => by simp at h) (fun _ => ?_)
      rw [e2, i2]
      exact OK.ret (by simp)
    subst hb
    refine OK.ite (fun h => by cases h) (fun _ => ?_)
    refine OK.bind2 (OK.count (Q := fun o => o = Sum.inl ()) (fun _ _ => True) trivial (fun q s again hq _ kk => ?_) (fun _ _ => rfl)) (fun o ho => by subst ho; exact OK.ret rfl)
    unfold tappetlaw09_JudgeAgain_l3
    obtain ⟨x, hx1, hx2⟩ := idx_lt (xs := typesOf j) (p := q) hq
    have hx3 : idx (typesOf j ++ [[], []]) (q : Int) = some x := by
      unfold idx
      rw [if_pos (by omega), Int.toNat_natCast, List.getElem?_append_left hq]
      exact hx1
    have hxl : x.length ≤ 8 := by
      rw [types_at (by rw [← types_len]; exact hq)] at hx1
      cases hx1
      exact known_len j q
    simp only [hx2, hx3, Option.bind_some]
    refine OK.ite (fun h => by simp at h) (fun _ => ?_)
    refine OK.bind2 (OK.rounds (Q := fun o => o = Sum.inl ()) (fun (s : Int) => 0 ≤ s ∧ s ≤ x.length) (fun (s : Int) => x.length - s.toNat) (fun s again hI k => ?_) 100 0 ⟨by omega, by omega⟩ (by simp; omega)) (fun o ho => by subst ho; exact kk () trivial)
    unfold tappetlaw09_JudgeAgain_l4
    simp only [hx2, hx3, Option.bind_some]
    refine OK.ite (fun h => ?_) (fun _ => OK.ret rfl)
    have h := of_decide_eq_true h
    refine OK.bind (OK.get hI.1 h (fun y hy => OK.bind (OK.get hI.1 h (fun z hz => ?_))))
    rw [hy] at hz
    cases hz
    refine OK.ite_false (type_refl y) ?_
    rw [w64_eq (by omega) (by omega)]
    exact k _ ⟨by omega, by omega⟩ (by omega)
end Go.Proofs.YtojemiffchkkdaaDoor

/- The laws KernPicks, KernAgain and KernFair hold of what their functions compute: plain laws, no program in sight. -/
import Derived.Test.YthljmgepekhchaaK1
set_option linter.unusedVariables false
namespace Go.Proofs.Ythljmgepekhchaa
open Go.Sx

theorem awake_law : tappetlaw21_awake = some true := by decide

/-- the new kernel -/
def kern0 (n : Nat) : kern_Kern := kern_Kern.mk (List.replicate n (kern_task.mk 0 0)) 0
theorem new_law (p0 : Int) : (p0 < 1 ∨ p0 > 64) ∧ kern_New p0 = some (none, 2) ∨ (1 ≤ p0 ∧ p0 ≤ 64) ∧ kern_New p0 = some (some (kern0 p0.toNat), 0) := by
  unfold kern_New
  by_cases h : p0 < 1 ∨ p0 > 64
  · exact .inl ⟨h, by rw [if_pos (by simpa using h)]⟩
  · refine .inr ⟨by omega, ?_⟩
    rw [if_neg (by simpa using h)]
    unfold mkLen
    rw [if_pos ⟨by omega, by omega⟩]
    rfl

/-- the first list says of each task whether it is ready -/
structure SetTo (K K' : kern_Kern) (w : List Bool) : Prop where
  turns : K'.turns = K.turns
  len : K'.tasks.length = K.tasks.length
  at_ : ∀ k : Nat, K'.tasks[k]? = (K.tasks[k]?).map (fun t => if t.mode_ == 2 then t else kern_task.mk (if w[k]? = some true then 1 else 0) t.picked)

theorem set_law (K : kern_Kern) (w : List Bool) : OK (kern_Kern_Set K w) (fun r =>
    (w.length ≠ K.tasks.length ∧ r = (2, K)) ∨ (w.length = K.tasks.length ∧ r.1 = 0 ∧ SetTo K r.2 w)) := by
  unfold kern_Kern_Set
  refine OK.ite (fun h => ?_) (fun h => ?_)
  · refine OK.ret (.inl ⟨?_, rfl⟩)
    simp at h
    omega
  · have hl : w.length = K.tasks.length := by simp at h; omega
    refine OK.bind2 (R := fun s => s.length = K.tasks.length ∧ ∀ k : Nat, s[k]? = (K.tasks[k]?).map (fun t => if t.mode_ == 2 then t else kern_task.mk (if w[k]? = some true then 1 else 0) t.picked)) ?_ ?_
    · refine OK.count (fun i s => s.length = K.tasks.length ∧ (∀ k : Nat, k < i → s[k]? = (K.tasks[k]?).map (fun t => if t.mode_ == 2 then t else kern_task.mk (if w[k]? = some true then 1 else 0) t.picked)) ∧ ∀ k : Nat, i ≤ k → s[k]? = K.tasks[k]?) ⟨rfl, fun k h => by omega, fun k h => rfl⟩ ?_ ?_
      · intro i s again hi hs k
        unfold kern_Kern_Set_l1
        refine OK.bind (OK.getN hi (fun b hb => ?_))
        refine OK.bind (OK.getN (by rw [hs.1]; omega) (fun t ht => ?_))
        have ht0 : K.tasks[i]? = some t := by rw [← hs.2.2 i (by omega)]; exact ht
        have upd : ∀ m : Int, (t.mode_ == 2) = false → m = (if w[i]? = some true then 1 else 0) → OK (again (s.set (Int.toNat (i : Int)) (kern_task.mk m t.picked))) (fun s => s.length = K.tasks.length ∧ ∀ k : Nat, s[k]? = (K.tasks[k]?).map (fun t => if t.mode_ == 2 then t else kern_task.mk (if w[k]? = some true then 1 else 0) t.picked)) := by
          intro m h2 hm
          have e0 : Int.toNat (i : Int) = i := by omega
          rw [e0]
          refine k _ ⟨by rw [List.length_set]; exact hs.1, fun j hj => ?_, fun j hj => ?_⟩
          · rw [get_set]
            by_cases e : i = j
            · subst e
              rw [if_pos rfl, if_pos (by rw [hs.1]; omega), ht0]
              simp only [Option.map_some, h2, hm]
              rfl
            · rw [if_neg e]
              exact hs.2.1 j (by omega)
          · rw [get_set, if_neg (by omega)]
            exact hs.2.2 j (by omega)
        refine OK.ite (fun h2 => ?_) (fun h2 => ?_)
        · refine k _ ⟨hs.1, fun j hj => ?_, fun j hj => hs.2.2 j (by omega)⟩
          by_cases e : j = i
          · subst e
            rw [ht, ht0]
            simp only [Option.map_some, h2, if_true]
          · exact hs.2.1 j (by omega)
        · refine OK.ite (fun h3 => ?_) (fun h3 => ?_)
          · exact upd 1 h2 (by rw [hb, h3, if_pos rfl])
          · exact upd 0 h2 (by rw [hb, h3, if_neg (by simp)])
      · intro s hs
        refine ⟨hs.1, fun j => ?_⟩
        by_cases hj : j < w.length
        · exact hs.2.1 j hj
        · rw [hs.2.2 j (by omega), List.getElem?_eq_none (by omega)]
          rfl
    · rintro s ⟨h1, h2⟩
      exact OK.ret (.inr ⟨hl, rfl, rfl, h1, h2⟩)

theorem kern0_len (n : Nat) : (kern0 n).tasks.length = n := by simp [kern0]
theorem kern0_at (n k : Nat) : (kern0 n).tasks[k]? = if k < n then some (kern_task.mk 0 0) else none := by
  simp [kern0, List.getElem?_replicate]

/-- who is ready by the wish -/
def wish (w : List Bool) (i : Nat) : Bool := w[i]? == some true
theorem set0_mode {n : Nat} {K : kern_Kern} {w : List Bool} (h : SetTo (kern0 n) K w) (hw : w.length = n) (i : Nat) : modeIs K 1 i = wish w i := by
  unfold modeIs wish
  rw [h.at_, kern0_at]
  by_cases hi : i < n
  · rw [if_pos hi]
    simp only [Option.map_some]
    have hi' : i < w.length := by omega
    rw [List.getElem?_eq_getElem hi']
    cases w[i] <;> rfl
  · rw [if_neg hi, List.getElem?_eq_none (by omega)]
    rfl
theorem posn_congr {p q : Nat → Bool} {n : Nat} (h : ∀ i, p i = q i) : posn p n = posn q n := by
  have : p = q := funext h
  rw [this]
theorem set0_ready {n : Nat} {K : kern_Kern} {w : List Bool} (h : SetTo (kern0 n) K w) (hw : w.length = n) : posn (modeIs K 1) K.tasks.length = posn (wish w) n := by
  rw [h.len, kern0_len]
  exact posn_congr (set0_mode h hw)

theorem posn_pre (p : Nat → Bool) (i : Nat) : ∀ d, ∃ r, posn p (i + d) = posn p i ++ r := by
  intro d
  induction d with
  | zero => exact ⟨[], by simp⟩
  | succ d ih =>
    obtain ⟨r, hr⟩ := ih
    rw [← Nat.add_assoc, posn_succ, hr]
    cases p (i + d) with
    | true => exact ⟨r ++ [((i + d : Nat) : Int)], by simp⟩
    | false => exact ⟨r, by simp⟩
theorem posn_here {p : Nat → Bool} {i n : Nat} (h : i < n) (hp : p i = true) : (posn p n)[(posn p i).length]? = some (i : Int) := by
  obtain ⟨r, hr⟩ := posn_pre p (i + 1) (n - (i + 1))
  have e : i + 1 + (n - (i + 1)) = n := by omega
  rw [e, posn_succ, if_pos hp] at hr
  rw [hr]
  simp

theorem picks_law (fu : Nat) (p0 : Int) (p1 : List Bool) (p2 : Int) (hf : 1000 ≤ fu) (hl : p1.length ≤ 140737488355328) : tappetlaw21_KernPicks fu p0 p1 p2 = some true := by
  refine OK.is ?_
  unfold tappetlaw21_KernPicks
  rw [awake_law]
  refine OK.bind (OK.ret (OK.ite_false rfl ?_))
  rcases new_law p0 with ⟨h, e⟩ | ⟨h, e⟩
  · rw [e]
    exact OK.bind (OK.ret (OK.none_ (OK.ret rfl)))
  rw [e]
  refine OK.bind (OK.ret (OK.some_ (OK.ite_false rfl ?_)))
  refine OK.bind (OK.hasRoom (by simpa using hl) ?_)
  rw [List.nil_append]
  have hn0 := kern0_len p0.toNat
  refine OK.bind2 (set_law _ _) ?_
  rintro r (⟨h1, rfl⟩ | ⟨h1, h2, h3⟩)
  · refine OK.ite_true rfl (OK.bind ?_)
    refine OK.ite_true (by simp; omega) ?_
    rw [ready_law (kern0 p0.toNat) (by omega)]
    refine OK.bind (OK.ret (OK.ret (OK.ret ?_)))
    have : posn (modeIs (kern0 p0.toNat) 1) (kern0 p0.toNat).tasks.length = [] := by
      rw [List.eq_nil_iff_forall_not_mem]
      intro x hx
      obtain ⟨i, hi, hm, rfl⟩ := mem_posn.1 hx
      obtain ⟨t, ht, hm⟩ := modeIs_iff.1 hm
      rw [kern0_at, if_pos (by omega)] at ht
      cases ht
      exact absurd hm (by decide)
    rw [this]
    rfl
  refine OK.ite_false (by rw [h2]; rfl) ?_
  obtain ⟨e1, K⟩ := r
  have hlen : K.tasks.length = p0.toNat := by rw [h3.len, hn0]
  rw [ready_law K (by omega)]
  simp only [Option.bind_some]
  have hready := set0_ready h3 (by omega)
  have hRl := posn_len (wish p1) p0.toNat
  generalize hR : posn (wish p1) p0.toNat = R at *
  rw [hready]
  refine OK.bind2 (R := fun o => o = .inl (R.length : Int)) ?_ ?_
  · refine OK.count (fun i s => s = ((posn (wish p1) i).length : Int)) rfl ?_ ?_
    · intro i s again hi hs k
      subst hs
      unfold tappetlaw21_KernPicks_l1
      refine OK.bind (OK.getN hi (fun b hb => ?_))
      have hw : wish p1 i = b := by unfold wish; rw [hb]; cases b <;> rfl
      refine OK.ite (fun h => ?_) (fun h => ?_)
      · have hh := posn_here (p := wish p1) (i := i) (n := p0.toNat) (by omega) (hw.trans h)
        rw [hR] at hh
        have hb := (List.getElem?_eq_some_iff.1 hh).1
        refine OK.bind2 (R := fun o => o = false) (OK.ite_false ?_ ?_) ?_
        · simp; omega
        · refine OK.bind (OK.getN hb (fun x hx => OK.ret ?_))
          rw [hh] at hx
          cases hx
          simp
        · rintro o rfl
          refine OK.ite_false rfl (k _ ?_)
          rw [w64_eq (by omega) (by omega), posn_succ, hw, if_pos h]
          simp
      · exact k _ (by rw [posn_succ, hw, h]; rfl)
    · rintro s rfl
      have e : p1.length = p0.toNat := by omega
      rw [e, hR]
  rintro o rfl
  refine OK.ite_false (by simp) ?_
  -- every choice picks its task
  refine OK.bind2 (R := fun o => match o with
    | .inl K' => K'.tasks.length = p0.toNat ∧ K'.turns = 2 * (R.length : Int) ∧ ∀ i, modeIs K' 1 i = wish p1 i
    | .inr _ => False) ?_ ?_
  · refine OK.rounds (fun s => 0 ≤ s.2 ∧ s.2 ≤ (R.length : Int) ∧ s.1.tasks.length = p0.toNat ∧ s.1.turns = 2 * s.2 ∧ ∀ i, modeIs s.1 1 i = wish p1 i) (fun s => ((R.length : Int) - s.2).toNat) ?_ fu _ ⟨Int.le_refl _, Int.natCast_nonneg _, hlen, h3.turns, set0_mode h3 (by omega)⟩ (by simp; omega)
    intro s again hs k
    obtain ⟨s0, s1, s2, s3, s4⟩ := hs
    unfold tappetlaw21_KernPicks_l2
    have hrs : posn (modeIs s.1 1) s.1.tasks.length = R := by rw [s2, posn_congr s4, hR]
    refine OK.ite (fun h => ?_) (fun h => ?_)
    · have hlt : s.2 < (R.length : Int) := by simpa using h
      refine OK.bind2 (pick_law s.1 s.2 (by omega) (by omega)) ?_
      rw [hrs]
      rintro r (⟨h5, _⟩ | ⟨a, t, h5, h6, h7, rfl⟩)
      · rw [h5] at hlt; simp at hlt; omega
      rw [Int.emod_eq_of_lt s0 hlt] at h5
      have htl : t < p0.toNat := by omega
      have hr2 : posn (modeIs (took s.1 t) 1) (took s.1 t).tasks.length = R := by
        rw [took_len, posn_congr (took_mode 1), hrs]
      refine OK.bind2 (pick_law (took s.1 t) (w64 (s.2 - (R.length : Int))) (by rw [took_len]; omega) (by rw [took_turns h7]; omega)) ?_
      rw [hr2]
      rintro r (⟨h8, _⟩ | ⟨a', t', h8, h9, h10, rfl⟩)
      · rw [h8] at hlt; simp at hlt; omega
      rw [w64_eq (by omega) (by omega), Int.sub_emod_right, Int.emod_eq_of_lt s0 hlt] at h8
      have ea : a' = a := by omega
      subst ea
      rw [h6] at h9
      have et : t = t' := by have := Option.some.inj h9; omega
      subst et
      refine OK.bind2 (R := fun o => o = false) ?_ ?_
      · refine OK.bind (OK.get s0 hlt (fun x hx => ?_))
        have e : s.2.toNat = a' := by omega
        rw [e, h6] at hx
        cases hx
        refine OK.ite_false (by simp) (OK.ite_false rfl (OK.ite_false (by simp) (OK.ret rfl)))
      rintro o rfl
      refine OK.ite_false rfl ?_
      have e2 : w64 (s.2 + 1) = s.2 + 1 := w64_eq (by omega) (by omega)
      refine k _ ⟨?_, ?_, ?_, ?_, ?_⟩ ?_
      · show 0 ≤ w64 (s.2 + 1); omega
      · show w64 (s.2 + 1) ≤ _; omega
      · show (took (took s.1 t) t).tasks.length = _
        rw [took_len, took_len, s2]
      · show (took (took s.1 t) t).turns = 2 * w64 (s.2 + 1)
        rw [took_turns h10, took_turns h7, e2]; omega
      · intro i
        show modeIs (took (took s.1 t) t) 1 i = _
        rw [took_mode, took_mode, s4]
      · show ((R.length : Int) - w64 (s.2 + 1)).toNat < _; omega
    · have hge : ¬ s.2 < (R.length : Int) := by simpa using h
      refine OK.ret ⟨s2, by omega, s4⟩
  rintro (K' | b) h4
  rotate_left
  · exact h4.elim
  obtain ⟨h4, h5, h6⟩ := h4
  have hr' : posn (modeIs K' 1) K'.tasks.length = R := by rw [h4, posn_congr h6, hR]
  refine OK.bind2 (pick_law K' p2 (by omega) (by omega)) ?_
  rw [hr']
  intro r hp
  have fin : ∀ (K2 : kern_Kern) (d : Int), posn (modeIs K2 1) K2.tasks.length = R → K2.tasks.length = p0.toNat → K2.turns = 2 * (R.length : Int) + d → d = (if (R.length : Int) > 0 then 1 else 0) →
      OK ((loop (tappetlaw21_KernPicks_l3 (R.length : Int)) fu (R, 0)).bind fun o838 =>
                      (room (o838.length + ([1] : List Int).length) 8).bind fun u914 =>
                      (if decide ((R.length : Int) > 0) then
                        some 1
                      else
                        some 0).bind fun o922 =>
                      ((kern_Kern_Ready K2).bind fun r949 =>
                      if ((((r949).length) : Int) == (R.length : Int)) then
                        if (((((o838 ++ [1])).length) : Int) == (w64 ((R.length : Int) + 1))) then
                          (kern_Kern_Turns K2).bind fun r959 =>
                          some (r959 == (w64 ((w64 (2 * (R.length : Int))) + o922)))
                        else
                          some false
                      else
                        some false).bind fun o947 =>
                      some o947) (fun y => y = true) := by
    intro K2 d g1 g2 g3 g4
    refine OK.bind2 (R := fun o => o.length = R.length) ?_ ?_
    · refine OK.rounds (fun s => s.1.length = R.length ∧ 0 ≤ s.2 ∧ s.2 ≤ (R.length : Int)) (fun s => ((R.length : Int) - s.2).toNat) ?_ fu _ ⟨rfl, by simp, by simp⟩ (by simp; omega)
      intro s again hs k
      unfold tappetlaw21_KernPicks_l3
      refine OK.ite (fun h => ?_) (fun h => OK.ret hs.1)
      have hlt : s.2 < (R.length : Int) := by simpa using h
      have e2 : w64 (s.2 + 1) = s.2 + 1 := w64_eq (by omega) (by omega)
      refine OK.bind (OK.get hs.2.1 (by omega) (fun x _ => ?_))
      refine k _ ⟨by rw [List.length_set]; exact hs.1, ?_, ?_⟩ ?_
      · show 0 ≤ w64 (s.2 + 1); omega
      · show w64 (s.2 + 1) ≤ _; omega
      · show ((R.length : Int) - w64 (s.2 + 1)).toNat < _; omega
    · intro o ho
      refine OK.bind (OK.hasRoom (by simp; omega) ?_)
      refine OK.bind2 (R := fun o => o = d) ?_ ?_
      · refine OK.ite (fun h => OK.ret ?_) (fun h => OK.ret ?_)
        · rw [g4, if_pos (by simpa using h)]
        · rw [g4, if_neg (by simpa using h)]
      rintro o2 rfl
      have hd : 0 ≤ o2 ∧ o2 ≤ 1 := by rw [g4]; split <;> omega
      rw [ready_law _ (by omega), g1]
      refine OK.bind (OK.bind (OK.ret (OK.ite_true (by simp) (OK.ite_true ?_ ?_))))
      · rw [w64_eq (by omega) (by omega)]
        simp [ho]
      · refine OK.bind (OK.ret (OK.ret (OK.ret ?_)))
        rw [g3, w64_eq (x := 2 * (R.length : Int)) (by omega) (by omega), w64_eq (by omega) (by omega)]
        simp
  rcases hp with ⟨h7, rfl⟩ | ⟨a, t, h7, h8, h9, rfl⟩
  · refine OK.ite_false (by rw [h7]; rfl) ?_
    exact fin K' 0 hr' h4 (by omega) (by rw [h7]; rfl)
  · have hpos : 0 < R.length := by have := (List.getElem?_eq_some_iff.1 h8).1; omega
    refine OK.ite_false ?_ ?_
    · have d1 : decide ((R.length : Int) > 0) = true := decide_eq_true (by omega)
      have d2 : ((R.length : Int) == 0) = false := beq_eq_false_iff_ne.2 (by omega)
      rw [d1, d2]
      rfl
    · refine fin (took K' t) 1 ?_ (by rw [took_len, h4]) (by rw [took_turns h9, h5]) (by rw [if_pos (by omega)])
      rw [took_len, posn_congr (took_mode 1), hr']
end Go.Proofs.Ythljmgepekhchaa

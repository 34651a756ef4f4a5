/- The registry's operations, one by one: workers, retiring, settling. -/
import Derived.Test.YtdnogiegiclcfaaGreatDoorKReg2
set_option linter.unusedVariables false
set_option linter.unusedSimpArgs false
namespace Go.Proofs.YtdnogiegiclcfaaGreatDoor
open Go.Sx
variable {H M W n : Nat} {r : registry_Registry}

theorem detach_ok (h : RegI H M W n r) (k : Int) : OK (hooks_Table_Detach r.Table [k]) (fun q => (q.1 ≠ 0 ∧ q.2 = r.Table) ∨ (q.1 = 0 ∧ ∃ l, l.length = r.Table.hooks.length ∧ q.2 = ⟨r.Table.Versions, l⟩)) := by
  unfold hooks_Table_Detach
  refine OK.bind2 (OK.count (Q := fun o => match o with | .inl _ => 0 ≤ k ∧ k < r.Table.hooks.length | .inr q => q = (2, r.Table)) (fun i _ => i = 0 ∨ 0 ≤ k ∧ k < r.Table.hooks.length) (.inl rfl) (fun i s again hi hI kk => ?_) (fun s hI => ?_)) (fun o ho => ?_)
  · have e : i = 0 := by simp at hi; omega
    subst e
    unfold hooks_Table_Detach_l1 hooks_Table_known
    simp only [idx, List.getElem?_cons_zero, Int.toNat_natCast, Option.bind_some, Int.natCast_zero, Int.le_refl, if_true, Int.toNat_zero]
    refine OK.bind2 (R := fun o => o = false → 0 ≤ k ∧ k < r.Table.hooks.length) (OK.ite (fun _ => OK.ret (fun e => by cases e)) (fun hc => ?_)) (fun o ho => OK.ite (fun _ => OK.ret rfl) (fun hf => kk _ (.inr (ho hf))))
    have : cut [k] 0 0 = some [] := rfl
    rw [this]
    simp only [Option.bind_some, contains_is]
    exact OK.ret (fun _ => by simp at hc; exact ⟨hc.1, hc.2⟩)
  · rcases hI with h0 | h0
    · simp at h0
    · exact h0
  · cases o with
    | inr q => exact OK.ret (.inl ⟨by rw [ho]; simp, by rw [ho]⟩)
    | inl u =>
      obtain ⟨x, hx, hx2⟩ := idx_get (l := r.Table.hooks) ho.1 ho.2
      refine OK.bind2 (OK.count (Q := fun o => match o with | .inl _ => True | .inr q => q = (41, r.Table)) (fun i _ => True) trivial (fun i s again hi hI kk => ?_) (fun s hI => trivial)) (fun o ho2 => ?_)
      · have e : i = 0 := by simp at hi; omega
        subst e
        unfold hooks_Table_Detach_l2 hooks_Table_taken
        simp only [idx, List.getElem?_cons_zero, Option.bind_some, Int.natCast_zero, Int.le_refl, if_true, Int.toNat_zero]
        rw [show (if 0 ≤ k then r.Table.hooks[k.toNat]? else none) = some x from by rw [if_pos ho.1, hx2]]
        simp only [Option.bind_some]
        exact OK.ite (fun _ => OK.ret rfl) (fun _ => kk _ trivial)
      · cases o with
        | inr q => exact OK.ret (.inl ⟨by rw [ho2]; simp, by rw [ho2]⟩)
        | inl u =>
          refine OK.bind2 (OK.count (Q := fun t => ∃ l, l.length = r.Table.hooks.length ∧ t = ⟨r.Table.Versions, l⟩) (fun i t => ∃ l, l.length = r.Table.hooks.length ∧ t = ⟨r.Table.Versions, l⟩) ⟨_, rfl, rfl⟩ (fun i s again hi hI kk => ?_) (fun s hI => hI)) (fun t ht => OK.ret (.inr ⟨rfl, ht⟩))
          have e : i = 0 := by simp at hi; omega
          subst e
          obtain ⟨l, hl, rfl⟩ := hI
          unfold hooks_Table_Detach_l3
          obtain ⟨y, hy, _⟩ := idx_get (l := l) ho.1 (by rw [hl]; exact ho.2)
          rw [show idx [k] ((0 : Nat) : Int) = some k from rfl]
          simp only [Option.bind_some, hy]
          exact kk _ ⟨_, by simpa using hl, rfl⟩
theorem detach_inv (h : RegI H M W n r) (hb : n + 1 ≤ 1000) {q : Int × hooks_Table} (hq : (q.1 ≠ 0 ∧ q.2 = r.Table) ∨ (q.1 = 0 ∧ ∃ l, l.length = r.Table.hooks.length ∧ q.2 = ⟨r.Table.Versions, l⟩)) : RegI H M W (n + 1) (withT r q.2) := by
  have h0 := h.last0
  have h1 := h.last
  rcases hq with ⟨_, e⟩ | ⟨_, l, hl, e⟩
  · rw [e]; exact h.mono (by omega) hb
  · rw [e]; exact withT_inv h hb (by rw [hl]; exact h.hl) h0 (by simp; omega)

def withC (r : registry_Registry) (c : epoch_Clock) : registry_Registry := ⟨r.Table, r.Refs, c, r.hooks, r.maps, r.given, r.progs, r.waiting⟩
theorem withC_inv (h : RegI H M W n r) (hb : n + 1 ≤ 1000) {c : epoch_Clock} (h1 : c.in_.length = W) (h2 : r.Clock.now ≤ c.now) (h3 : c.now ≤ r.Clock.now + 1) (h4 : ∀ e ∈ c.in_, 0 ≤ e ∧ e ≤ c.now) : RegI H M W (n + 1) (withC r c) :=
  { h.mono (n' := n + 1) (by omega) hb with wk := h1, now1 := by have := h.now1; simp [withC]; omega, now := by have := h.now; simp [withC]; omega, cin := h4, prog := fun p x hx => by have := h.prog p x hx; exact ⟨this.1, this.2.1, this.2.2.1, this.2.2.2.1, this.2.2.2.2.1, this.2.2.2.2.2.1, by simp [withC]; omega⟩ }
theorem enter_ok (h : RegI H M W n r) (k : Int) : OK (epoch_Clock_Enter r.Clock k) (fun q => (q.2.1 ≠ 0 ∧ q.1 = 0 ∧ q.2.2 = r.Clock) ∨ (q.2.1 = 0 ∧ q.1 ≠ 0 ∧ 0 ≤ k ∧ k < W ∧ r.Clock.in_[k.toNat]? = some 0 ∧ q.2.2 = ⟨r.Clock.now, r.Clock.in_.set k.toNat r.Clock.now⟩)) := by
  unfold epoch_Clock_Enter epoch_Clock_known
  simp only [Option.bind_some]
  refine OK.ite (fun _ => OK.ret (.inl ⟨by simp, rfl, rfl⟩)) (fun hc => ?_)
  simp only [Bool.not_eq_false', Bool.and_eq_true, decide_eq_true_eq] at hc
  obtain ⟨x, hx, hx2⟩ := idx_get (l := r.Clock.in_) hc.1 hc.2
  rw [hx]
  simp only [Option.bind_some]
  refine OK.ite (fun _ => OK.ret (.inl ⟨by simp, rfl, rfl⟩)) (fun h0 => OK.ret (.inr ⟨rfl, ?_, hc.1, by rw [← h.wk]; exact hc.2, ?_, rfl⟩))
  · have := h.now1; simp; omega
  · rw [hx2]; have : x = 0 := by simpa using h0
    rw [this]
theorem enter_inv (h : RegI H M W n r) (hb : n + 1 ≤ 1000) (k : Int) : RegI H M W (n + 1) (withC r ⟨r.Clock.now, r.Clock.in_.set k.toNat r.Clock.now⟩) := by
  refine withC_inv h hb (by simp [h.wk]) (Int.le_refl _) (by simp; omega) (fun e he => ?_)
  have h1 := h.now1
  rcases List.mem_or_eq_of_mem_set he with h2 | h2
  · exact h.cin e h2
  · subst h2; exact ⟨by omega, Int.le_refl _⟩
theorem leave_ok (h : RegI H M W n r) (k : Int) : OK (epoch_Clock_Leave r.Clock [k]) (fun q => (q.1 ≠ 0 ∧ q.2 = r.Clock ∧ (0 ≤ k → k < W → r.Clock.in_[k.toNat]? = some 0)) ∨ (q.1 = 0 ∧ 0 ≤ k ∧ k < W ∧ q.2 = ⟨r.Clock.now, r.Clock.in_.set k.toNat 0⟩)) := by
  have hs := h.small
  unfold epoch_Clock_Leave
  refine OK.bind2 (OK.count (Q := fun o => match o with | .inl _ => 0 ≤ k ∧ k < W | .inr q => q = (2, r.Clock) ∧ ¬ (0 ≤ k ∧ k < W)) (fun i f => (i = 0 ∧ f = fun _ => false) ∨ (i = 1 ∧ 0 ≤ k ∧ k < W)) (.inl ⟨rfl, rfl⟩) (fun i s again hi hI kk => ?_) (fun s hI => ?_)) (fun o ho => ?_)
  · have e : i = 0 := by simp at hi; omega
    subst e
    unfold epoch_Clock_Leave_l1 epoch_Clock_known
    rw [show idx [k] ((0 : Nat) : Int) = some k from rfl]
    simp only [Option.bind_some]
    by_cases hk : 0 ≤ k ∧ k < W
    · have ha : ain 4 k = some k.toNat := by unfold ain; rw [if_pos ⟨hk.1, by omega⟩]
      have e1 : (!(decide (k ≥ 0) && decide (k < (r.Clock.in_.length : Int)))) = false := by rw [h.wk]; simp; omega
      rw [e1, ha]
      simp only [Bool.false_eq_true, if_false, Option.bind_some]
      refine OK.ite (fun hc => ?_) (fun _ => kk _ (.inr ⟨rfl, hk⟩))
      rcases hI with ⟨_, rfl⟩ | h9
      · simp at hc
      · exact absurd h9.1 (by omega)
    · have e1 : (!(decide (k ≥ 0) && decide (k < (r.Clock.in_.length : Int)))) = true := by rw [h.wk]; simp; omega
      rw [e1]
      simp only [if_true, Option.bind_some]
      exact OK.ret ⟨rfl, hk⟩
  · rcases hI with ⟨h0, _⟩ | h0
    · simp at h0
    · exact h0.2
  · cases o with
    | inr q => exact OK.ret (.inl ⟨by rw [ho.1]; simp, by rw [ho.1], fun h1 h2 => absurd ⟨h1, h2⟩ ho.2⟩)
    | inl u =>
      obtain ⟨x, hx, hx2⟩ := idx_get (l := r.Clock.in_) ho.1 (by rw [h.wk]; exact ho.2)
      refine OK.bind2 (OK.count (Q := fun o => match o with | .inl _ => True | .inr q => q = (41, r.Clock) ∧ x = 0) (fun i _ => True) trivial (fun i s again hi hI kk => ?_) (fun s hI => trivial)) (fun o ho2 => ?_)
      · have e : i = 0 := by simp at hi; omega
        subst e
        unfold epoch_Clock_Leave_l2
        rw [show idx [k] ((0 : Nat) : Int) = some k from rfl]
        simp only [Option.bind_some, hx]
        exact OK.ite (fun hc => OK.ret ⟨rfl, by simpa using hc⟩) (fun _ => kk _ trivial)
      · cases o with
        | inr q => exact OK.ret (.inl ⟨by rw [ho2.1]; simp, by rw [ho2.1], fun _ _ => by rw [hx2, ho2.2]⟩)
        | inl u =>
          refine OK.bind2 (OK.count (Q := fun t => t = ⟨r.Clock.now, r.Clock.in_.set k.toNat 0⟩) (fun i t => (i = 0 ∧ t = r.Clock) ∨ (i = 1 ∧ t = ⟨r.Clock.now, r.Clock.in_.set k.toNat 0⟩)) (.inl ⟨rfl, rfl⟩) (fun i s again hi hI kk => ?_) (fun s hI => ?_)) (fun t ht => OK.ret (.inr ⟨rfl, ho.1, ho.2, ht⟩))
          · have e : i = 0 := by simp at hi; omega
            subst e
            rcases hI with ⟨_, rfl⟩ | ⟨h9, _⟩
            · unfold epoch_Clock_Leave_l3
              rw [show idx [k] ((0 : Nat) : Int) = some k from rfl]
              simp only [Option.bind_some, hx]
              exact kk _ (.inr ⟨rfl, rfl⟩)
            · omega
          · rcases hI with ⟨h9, _⟩ | ⟨_, h9⟩
            · simp at h9
            · exact h9
theorem leave_inv (h : RegI H M W n r) (hb : n + 1 ≤ 1000) (k : Int) : RegI H M W (n + 1) (withC r ⟨r.Clock.now, r.Clock.in_.set k.toNat 0⟩) := by
  refine withC_inv h hb (by simp [h.wk]) (Int.le_refl _) (by simp; omega) (fun e he => ?_)
  have h1 := h.now1
  rcases List.mem_or_eq_of_mem_set he with h2 | h2
  · exact h.cin e h2
  · subst h2; exact ⟨by omega, by simp; omega⟩
theorem advance_is (h : RegI H M W n r) : epoch_Clock_Advance r.Clock = some (r.Clock.now + 1, ⟨r.Clock.now + 1, r.Clock.in_⟩) := by
  have h1 := h.now1
  have h2 := h.now
  have h3 := h.bound
  unfold epoch_Clock_Advance
  rw [w64_lo (by omega) (by omega)]
theorem advance_inv (h : RegI H M W n r) (hb : n + 1 ≤ 1000) : RegI H M W (n + 1) (withC r ⟨r.Clock.now + 1, r.Clock.in_⟩) :=
  withC_inv h hb h.wk (by simp; omega) (Int.le_refl _) (fun e he => by have := h.cin e he; exact ⟨this.1, by simp; omega⟩)
theorem safe_is (c : epoch_Clock) (e : Int) : epoch_Clock_Safe c e = some (decide (∀ x ∈ c.in_, x = 0 ∨ e ≤ x)) := by
  unfold epoch_Clock_Safe
  refine OK.is (OK.bind2 (OK.count (Q := fun o => match o with | .inl _ => ∀ x ∈ c.in_, x = 0 ∨ e ≤ x | .inr q => q = false ∧ ¬ ∀ x ∈ c.in_, x = 0 ∨ e ≤ x) (fun i _ => ∀ x ∈ c.in_.take i, x = 0 ∨ e ≤ x) (by simp) (fun i s again hi hI k => ?_) (fun s hI => by rw [List.take_length] at hI; exact hI)) (fun o ho => ?_))
  · unfold epoch_Clock_Safe_l1
    refine OK.bind (OK.getN hi (fun x hx => OK.ite (fun hc => OK.ret ⟨rfl, fun hall => ?_⟩) (fun hc => k _ ?_)))
    · have := hall x (List.mem_of_getElem? hx)
      simp at hc
      omega
    · intro y hy
      rw [List.take_add_one, hx] at hy
      rcases List.mem_append.1 hy with hy | hy
      · exact hI y hy
      · simp at hy hc
        subst hy
        by_cases h0 : y = 0
        · exact .inl h0
        · exact .inr (by have := hc h0; omega)
  · cases o with
    | inl _ => exact OK.ret (by simp; exact ho)
    | inr q => exact OK.ret (by rw [ho.1]; simp only [false_eq_decide_iff]; exact ho.2)
end Go.Proofs.YtdnogiegiclcfaaGreatDoor

/- The registry's operations, one by one: retiring and settling. -/
import Derived.Test.YtdnogiegiclcfaaGreatDoorKReg3
set_option linter.unusedVariables false
set_option linter.unusedSimpArgs false
namespace Go.Proofs.YtdnogiegiclcfaaGreatDoor
open Go.Sx
variable {H M W n : Nat} {r : registry_Registry}

theorem where_ok (h : RegI H M W n r) (p : Int) : OK (hooks_Table_Where r.Table [p]) (fun l => l.length ≤ 4) := by
  have hs := h.small
  have hl := h.hl
  unfold hooks_Table_Where
  refine OK.bind2 (OK.count (Q := fun l => l.length ≤ 4) (fun i l => l.length ≤ i) (by simp) (fun i s again hi hI k => ?_) (fun s hI => by omega)) (fun l h => OK.ret h)
  unfold hooks_Table_Where_l1
  refine OK.bind (OK.getN hi (fun x hx => ?_))
  simp only [contains_is, Option.bind_some]
  refine OK.bind2 (R := fun _ => True) (OK.ite (fun _ => OK.ret trivial) (fun _ => OK.ret trivial)) (fun o _ => OK.ite (fun _ => ?_) (fun _ => k _ (by omega)))
  exact OK.bind (OK.hasRoom (by simp; omega) (k _ (by simp; omega)))
def retired (r : registry_Registry) (p : Int) (x : registry_program) : registry_Registry :=
  ⟨r.Table, r.Refs, ⟨r.Clock.now + 1, r.Clock.in_⟩, r.hooks, r.maps, r.given, mset r.progs p ⟨x.module, r.Clock.now + 1⟩, r.waiting ++ [p]⟩
theorem retire_ok (h : RegI H M W n r) (p : Int) : OK (registry_Registry_Retire r p) (fun q => (q.2.1 ≠ 0 ∧ q.1 = 0 ∧ q.2.2 = r) ∨ (q.2.1 = 0 ∧ q.1 = r.Clock.now + 1 ∧ ∃ x, mget r.progs p = some x ∧ x.retiring = 0 ∧ q.2.2 = retired r p x)) := by
  unfold registry_Registry_Retire
  cases hg : mget r.progs p with
  | none => exact OK.ite_true rfl (OK.ret (.inl ⟨by simp, rfl, rfl⟩))
  | some x =>
    refine OK.ite_false rfl ?_
    simp only [Option.bind_some]
    refine OK.ite (fun _ => OK.ret (.inl ⟨by simp, rfl, rfl⟩)) (fun h0 => ?_)
    refine OK.bind2 (where_ok h p) (fun l hl => OK.ite (fun _ => OK.ret (.inl ⟨by simp, rfl, rfl⟩)) (fun _ => ?_))
    rw [advance_is h]
    simp only [Option.bind_some]
    have hw := h.wlen
    have hl := h.len
    refine OK.bind (OK.hasRoom (by simp; omega) (OK.ret (.inr ⟨rfl, rfl, x, rfl, ?_, rfl⟩)))
    have := (h.prog p x hg).2.2.2.2.2.1
    simp at h0
    omega
theorem retired_inv (h : RegI H M W n r) (hb : n + 1 ≤ 1000) {p : Int} {x : registry_program} (hx : mget r.progs p = some x) (h0 : x.retiring = 0) : RegI H M W (n + 1) (retired r p x) := by
  have hn := h.now
  have hn1 := h.now1
  have hget : ∀ q, mget (retired r p x).progs q = if p = q then some ⟨x.module, r.Clock.now + 1⟩ else mget r.progs q := by
    intro q
    simp [retired, mget_mset, hx]
  refine { h.mono (n' := n + 1) (by omega) hb with now1 := by simp [retired]; omega, now := by simp [retired]; omega, cin := fun e he => ?_, keys := ?_, len := ?_, prog := ?_, held := ?_, wnd := ?_, wait := ?_ }
  · have := h.cin e he
    simp [retired]; omega
  · unfold Keys
    rw [show (retired r p x).progs.map (·.1) = r.progs.map (·.1) from mset_map _ _ _]
    exact h.keys
  · rw [show (retired r p x).progs.length = r.progs.length from mset_len _ _ _]
    exact h.len
  · intro q y hy
    rw [hget] at hy
    split at hy
    · rename_i e
      subst e
      cases hy
      have := h.prog p x hx
      exact ⟨this.1, this.2.1, this.2.2.1, this.2.2.2.1, this.2.2.2.2.1, by simp; omega, by simp [retired]⟩
    · have := h.prog q y hy
      exact ⟨this.1, this.2.1, this.2.2.1, this.2.2.2.1, this.2.2.2.2.1, this.2.2.2.2.2.1, by simp [retired]; omega⟩
  · show r.Refs.held = _
    rw [h.held]
    exact (mset_proj (fun (z : registry_program) => z.module.Maps) r.progs p ⟨x.module, r.Clock.now + 1⟩ x hx rfl).symm
  · refine List.nodup_append.2 ⟨h.wnd, by simp, fun a ha b hb e => ?_⟩
    simp at hb
    subst hb; subst e
    obtain ⟨y, hy, hy0⟩ := (h.wait a).1 ha
    rw [hx] at hy
    cases hy
    omega
  · intro q
    rw [hget]
    show q ∈ r.waiting ++ [p] ↔ _
    simp only [List.mem_append, List.mem_singleton]
    by_cases e : p = q
    · subst e
      simp
      omega
    · have e2 : ¬ q = p := fun e2 => e e2.symm
      simp only [e2, or_false, if_neg e]
      exact h.wait q

def safeP (r : registry_Registry) (p : Int) : Bool := match mget r.progs p with
  | some x => decide (∀ e ∈ r.Clock.in_, e = 0 ∨ x.retiring ≤ e)
  | none => false
def takeB (P : Int → Bool) (k : Int) : List Int → List Int
  | [] => []
  | x :: l => if 0 < k ∧ P x = true then x :: takeB P (k - 1) l else takeB P k l
theorem takeB_sub (P : Int → Bool) : ∀ (l : List Int) (k : Int), (takeB P k l).Sublist l
  | [], _ => List.Sublist.refl _
  | x :: l, k => by
    unfold takeB
    split
    · exact (takeB_sub P l _).cons_cons x
    · exact (takeB_sub P l _).cons x
theorem takeB_P (P : Int → Bool) : ∀ (l : List Int) (k : Int), ∀ x ∈ takeB P k l, P x = true
  | [], _ => fun x hx => by cases hx
  | y :: l, k => fun x hx => by
    unfold takeB at hx
    split at hx
    · rename_i hc
      rcases List.mem_cons.1 hx with rfl | hx
      · exact hc.2
      · exact takeB_P P l _ x hx
    · exact takeB_P P l _ x hx
theorem takeB_len (P : Int → Bool) : ∀ (l : List Int) (k : Int), ((takeB P k l).length : Int) ≤ if 0 < k then k else 0
  | [], k => by unfold takeB; split <;> simp; omega
  | y :: l, k => by
    unfold takeB
    split
    · rename_i hc
      have := takeB_len P l (k - 1)
      simp only [List.length_cons]
      split at this <;> split <;> omega
    · exact takeB_len P l k
theorem takeB_all (P : Int → Bool) : ∀ (l : List Int) (k : Int), (l.length : Int) ≤ k → (∀ x ∈ l, P x = true) → takeB P k l = l
  | [], _, _, _ => rfl
  | x :: l, k, h, ha => by
    unfold takeB
    simp only [List.length_cons] at h
    rw [if_pos ⟨by omega, ha x (by simp)⟩, takeB_all P l (k - 1) (by omega) (fun y hy => ha y (by simp [hy]))]
theorem takeB_snoc (P : Int → Bool) (x : Int) : ∀ (l : List Int) (k : Int), takeB P k (l ++ [x]) = takeB P k l ++ (if ((takeB P k l).length : Int) < k ∧ P x = true then [x] else [])
  | [], k => by
    by_cases h : 0 < k ∧ P x = true <;> simp [takeB, h]
  | y :: l, k => by
    simp only [List.cons_append, takeB]
    split
    · rename_i hc
      rw [takeB_snoc P x l (k - 1)]
      simp only [List.cons_append, List.length_cons]
      congr 2
      have : ((takeB P (k - 1) l).length : Int) < k - 1 ↔ (((takeB P (k - 1) l).length + 1 : Nat) : Int) < k := by omega
      simp only [this]
    · exact takeB_snoc P x l k
def goneOf (r : registry_Registry) (most : Int) : List Int := takeB (safeP r) most r.waiting
theorem settle_l1 (h : RegI H M W n r) (most : Int) : OK (forN (registry_Registry_Settle_l1 r most) (fun (s : List Int) => s) r.waiting.length 0 []) (fun l => l = goneOf r most) := by
  have hw := h.wlen
  have hl := h.len
  refine OK.count (fun i s => s = takeB (safeP r) most (r.waiting.take i) ∧ s.length ≤ i) ⟨by simp [takeB], by simp⟩ (fun i s again hi hI k => ?_) (fun s hI => ?_)
  · obtain ⟨rfl, hsl⟩ := hI
    unfold registry_Registry_Settle_l1
    refine OK.bind (OK.getN hi (fun x hx => ?_))
    obtain ⟨y, hy, _⟩ := (h.wait x).1 (List.mem_of_getElem? hx)
    have hs : safeP r x = decide (∀ e ∈ r.Clock.in_, e = 0 ∨ y.retiring ≤ e) := by unfold safeP; rw [hy]
    have e1 : takeB (safeP r) most (r.waiting.take (i + 1)) = takeB (safeP r) most (r.waiting.take i) ++ (if ((takeB (safeP r) most (r.waiting.take i)).length : Int) < most ∧ safeP r x = true then [x] else []) := by
      rw [take_snoc hx, takeB_snoc]
    simp only [hy, Option.bind_some, safe_is]
    refine OK.bind2 (R := fun o => o = decide (((takeB (safeP r) most (r.waiting.take i)).length : Int) < most ∧ safeP r x = true)) (OK.ite (fun hc => OK.ret ?_) (fun hc => OK.ret ?_)) (fun o ho => ?_)
    · rw [hs]
      have : ((takeB (safeP r) most (r.waiting.take i)).length : Int) < most := by simpa using hc
      simp [this]
    · have : ¬ ((takeB (safeP r) most (r.waiting.take i)).length : Int) < most := by simpa using hc
      simp [this]
    · subst ho
      refine OK.ite (fun hc => OK.bind (OK.hasRoom (by simp; omega) (k _ ?_))) (fun hc => k _ ?_)
      · rw [e1, if_pos (by simpa using hc)]
        exact ⟨rfl, by simp; omega⟩
      · rw [e1, if_neg (by simpa using hc)]
        exact ⟨by simp, by omega⟩
  · rw [List.take_length] at hI
    exact hI.1
theorem settled_one (l : List Int) (x : Int) : registry_Registry_Settle_1 x l = some (decide (x ∈ l)) := by
  unfold registry_Registry_Settle_1
  rw [contains_is]
  rfl
theorem del_from (g : List Int) (p0 : List Int) (hp : p0.length ≤ 16) (r11 : Nat) (hr : r11 < p0.length) (hx : ∃ x, p0[r11]? = some x ∧ x ∈ g) (hpre : ∀ j, j < r11 → ∀ x, p0[j]? = some x → x ∉ g) :
    OK (loop (slices_DeleteFunc_int_int_49_l1 g) 1000 (p0, (r11 : Int), ((r11 : Int) + 1))) (fun o => o.1.length = p0.length ∧ ∃ k : Nat, o.2 = (k : Int) ∧ k ≤ p0.length ∧ o.1.take k = p0.filter (fun x => decide (x ∉ g))) := by
  refine OK.rounds (fun s => s.1.length = p0.length ∧ ∃ k j : Nat, s.2.1 = (k : Int) ∧ s.2.2 = (j : Int) ∧ k < j ∧ j ≤ p0.length ∧ s.1.take k = (p0.take j).filter (fun x => decide (x ∉ g)) ∧ s.1.drop j = p0.drop j) (fun s => p0.length - s.2.2.toNat) ?_ 1000 _ ?_ (by simp; omega)
  · rintro ⟨s, k0, j0⟩ again ⟨h1, k, j, e1, e2, h3, h4, h5, h6⟩ kk
    simp only at e1 e2 h1 h5 h6
    subst e1; subst e2
    unfold slices_DeleteFunc_int_int_49_l1
    simp only [h1]
    by_cases hj : j < p0.length
    · refine OK.ite_true (by simp; omega) ?_
      refine OK.bind (OK.getN (by omega) (fun x hx => ?_))
      have hxp : p0[j]? = some x := by
        have e := congrArg (fun l => l[0]?) h6
        simp only [List.getElem?_drop, Nat.add_zero] at e
        rw [← e]; exact hx
      rw [settled_one]
      simp only [Option.bind_some]
      have hw : w64 ((j : Int) + 1) = ((j + 1 : Nat) : Int) := by rw [w64_lo (by omega) (by omega)]; simp
      have hwk : w64 ((k : Int) + 1) = ((k + 1 : Nat) : Int) := by rw [w64_lo (by omega) (by omega)]; simp
      have hd : s.drop (j + 1) = p0.drop (j + 1) := by
        have e := congrArg (List.drop 1) h6
        simpa [List.drop_drop] using e
      have htk : p0.take (j + 1) = p0.take j ++ [x] := take_snoc hxp
      rw [hw]
      refine OK.ite (fun hc => ?_) (fun hc => ?_)
      · have hng : x ∉ g := by simpa using hc
        refine OK.bind (OK.getN (by omega) (fun y hy => ?_))
        rw [hwk]
        refine kk _ ⟨by simpa using h1, k + 1, j + 1, rfl, rfl, by omega, by omega, ?_, ?_⟩ (by simp; omega)
        · simp only [Int.toNat_natCast]
          rw [htk, List.filter_append, ← h5]
          have : (s.set k x)[k]? = some x := by rw [List.getElem?_set, if_pos rfl, if_pos (by omega)]
          rw [List.take_add_one, this]
          simp only [Option.toList_some, List.filter_cons, hng, not_false_eq_true, decide_true, if_true, List.filter_nil]
          congr 1
          exact List.take_set_of_le (by omega)
        · simp only [Int.toNat_natCast]
          rw [List.drop_set_of_lt (by omega)]
          exact hd
      · have hg : x ∈ g := by simpa using hc
        refine kk _ ⟨h1, k, j + 1, rfl, rfl, by omega, by omega, ?_, hd⟩ (by simp; omega)
        simp only
        rw [htk, List.filter_append, ← h5]
        simp [hg]
    · refine OK.ite_false (by simp; omega) (OK.ret ⟨h1, k, rfl, by omega, ?_⟩)
      have : j = p0.length := by omega
      subst this
      rw [List.take_length] at h5
      exact h5
  · obtain ⟨x, hx, hxg⟩ := hx
    refine ⟨rfl, r11, r11 + 1, rfl, by simp, by omega, by omega, ?_, rfl⟩
    simp only
    rw [take_snoc hx, List.filter_append]
    have e1 : (p0.take r11).filter (fun x => decide (x ∉ g)) = p0.take r11 := by
      refine List.filter_eq_self.2 (fun y hy => ?_)
      obtain ⟨j, hj, e⟩ := List.mem_iff_getElem.1 hy
      rw [List.length_take] at hj
      have := hpre j (by omega) y (by rw [← e, List.getElem_take]; exact List.getElem?_eq_getElem _)
      simpa using this
    rw [e1]
    simp [hxg]
theorem delete_is (p0 g : List Int) (hp : p0.length ≤ 16) : slices_DeleteFunc_int_int_49 1000 p0 g = some (p0.filter (fun x => decide (x ∉ g))) := by
  refine OK.is ?_
  unfold slices_DeleteFunc_int_int_49
  have hix : OK (slices_IndexFunc_int_int_49 p0 g) (fun i => (i = -1 ∧ ∀ x ∈ p0, x ∉ g) ∨ ∃ j : Nat, i = (j : Int) ∧ j < p0.length ∧ (∃ x, p0[j]? = some x ∧ x ∈ g) ∧ ∀ q, q < j → ∀ x, p0[q]? = some x → x ∉ g) := by
    unfold slices_IndexFunc_int_int_49
    refine OK.bind2 (OK.count (Q := fun o => match o with | .inl _ => ∀ x ∈ p0, x ∉ g | .inr i => ∃ j : Nat, i = (j : Int) ∧ j < p0.length ∧ (∃ x, p0[j]? = some x ∧ x ∈ g) ∧ ∀ q, q < j → ∀ x, p0[q]? = some x → x ∉ g) (fun i _ => ∀ q, q < i → ∀ x, p0[q]? = some x → x ∉ g) (fun q hq => by omega) (fun i s again hi hI k => ?_) (fun s hI => ?_)) (fun o ho => ?_)
    · unfold slices_IndexFunc_int_int_49_l1
      refine OK.bind (OK.getN hi (fun x hx => ?_))
      rw [settled_one]
      simp only [Option.bind_some]
      refine OK.ite (fun hc => OK.ret ⟨i, rfl, hi, ⟨x, hx, by simpa using hc⟩, hI⟩) (fun hc => k _ (fun q hq y hy => ?_))
      by_cases e : q = i
      · subst e
        rw [hx] at hy
        cases hy
        simpa using hc
      · exact hI q (by omega) y hy
    · intro x hx
      obtain ⟨j, hj, e⟩ := List.mem_iff_getElem.1 hx
      exact hI j hj x (by rw [← e]; exact List.getElem?_eq_getElem _)
    · cases o with
      | inl _ => exact OK.ret (.inl ⟨rfl, ho⟩)
      | inr i => exact OK.ret (.inr ho)
  refine OK.bind2 hix (fun i hi => ?_)
  rcases hi with ⟨rfl, hall⟩ | ⟨j, rfl, hj, hx, hpre⟩
  · refine OK.ite_true (by simp) (OK.ret ?_)
    exact (List.filter_eq_self.2 (fun x hx => by simpa using hall x hx)).symm
  · refine OK.ite_false (by simp) ?_
    rw [w64_lo (by omega) (by omega)]
    refine OK.bind2 (del_from g p0 hp j hj hx hpre) (fun o ho => ?_)
    obtain ⟨h1, k, e, hk, h2⟩ := ho
    rw [e]
    have c1 : cut o.1 (k : Int) (o.1.length : Int) = some (o.1.drop k) := by
      unfold cut
      rw [if_pos ⟨by omega, by omega, by omega⟩]
      simp
    rw [c1]
    simp only [Option.bind_some, Int.toNat_natCast]
    have c2 : cut (o.1.take k ++ List.replicate (o.1.drop k).length 0) 0 (k : Int) = some (o.1.take k) := by
      unfold cut
      rw [if_pos ⟨by omega, by omega, by simp; omega⟩]
      simp only [Int.toNat_natCast, Int.toNat_zero, List.drop_zero]
      rw [List.take_append_of_le_length (by simp; omega), List.take_take, Nat.min_self]
    rw [c2]
    simp only [Option.bind_some]
    exact OK.ret h2
end Go.Proofs.YtdnogiegiclcfaaGreatDoor

/- Each rule answers at each entry. -/
import Derived.Test.YtpchniebplpboaaKKey
import Derived.Test.YtpchniebplpboaaKMin
import Derived.Test.YtpchniebplpboaaO1
import Derived.Test.YtpchniebplpboaaKKeys
set_option linter.unusedVariables false
set_option linter.unusedSimpArgs false
namespace Go.Proofs.Ytpchniebplpboaa
open Go.Sx

theorem index_is (xs : List Int) (x : Int) : OK (slices_Index_int_int xs x) (fun i => (0 ≤ i ∧ x ∈ xs) ∨ (i = -1 ∧ x ∉ xs)) := by
  unfold slices_Index_int_int
  refine OK.bind2 (R := fun o => match o with | .inl _ => x ∉ xs | .inr r => 0 ≤ r ∧ x ∈ xs) (OK.count (fun i _ => x ∉ xs.take i) (by simp) ?_ ?_) ?_
  · intro i s again hi h k
    unfold slices_Index_int_int_l1
    refine OK.bind (OK.getN hi (fun y hy => OK.ite (fun he => OK.ret ?_) (fun he => k _ ?_)))
    · have : x = y := by simpa using he
      subst this
      exact ⟨by omega, List.mem_of_getElem? hy⟩
    · have hne : x ≠ y := by simpa using he
      rw [List.take_add_one, hy]
      simp only [Option.toList_some, List.mem_append, List.mem_singleton, not_or]
      exact ⟨h, hne⟩
  · intro s h
    rw [List.take_length] at h
    exact h
  · rintro (u | r) h
    · exact OK.ret (.inr ⟨rfl, h⟩)
    · exact OK.ret (.inl h)
theorem contains_is (xs : List Int) (x : Int) : slices_Contains_int_int xs x = some (decide (x ∈ xs)) := by
  obtain ⟨i, h1, h2⟩ := index_is xs x
  unfold slices_Contains_int_int
  rw [h1]
  simp only [Option.bind_some, Option.some.injEq]
  rcases h2 with ⟨h, hm⟩ | ⟨rfl, hm⟩
  · simp [h, hm]
  · simp [hm]
theorem known_is (g : audit_grace) (p : Int) : audit_grace_known g p = some (decide (p ∈ g.loaded) && !decide (p ∈ g.retired)) := by
  unfold audit_grace_known
  rw [contains_is]
  simp only [Option.bind_some]
  by_cases h : p ∈ g.loaded
  · simp [h, contains_is]
  · simp [h]
theorem maps_fine {fu : Nat} (hfu : 101 < fu) : ∀ (es : List api_Entry) (n : Nat) (ms : List cmap_Map) (rs : List tappetref15_Map), n + es.length < 1000000000000 → MRs n ms rs → (∀ e ∈ es, KeyOK e) → Fine fu es (.inl ms)
  | [], _, _, _, _, _, _ => trivial
  | e :: es, n, ms, rs, hn, h, he => by
    simp only [List.length_cons] at hn
    obtain ⟨b, ms', rs', r1, _, r3⟩ := right_both hfu (by omega) h (he e List.mem_cons_self)
    exact ⟨b, .inl ms', by simp [I_audit_rule_right, r1], fun _ => maps_fine hfu es (n + 1) ms' rs' (by omega) r3 (fun x hx => he x (List.mem_cons_of_mem _ hx))⟩
theorem calls_total (c : audit_calls) (e : api_Entry) : OK (audit_calls_right c e) (fun _ => True) := by
  unfold audit_calls_right
  refine OK.ite (fun _ => ?_) (fun _ => OK.ite (fun _ => ?_) (fun _ => OK.ite (fun _ => ?_) (fun _ => OK.ite (fun _ => ?_) (fun _ => OK.ite (fun _ => ?_) (fun _ => OK.ret trivial)))))
  · refine OK.bind2 (R := fun _ => True) (OK.ite (fun _ => OK.ret trivial) (fun _ => OK.ret trivial)) (fun o _ => OK.ite (fun _ => OK.ret trivial) (fun _ => OK.ret trivial))
  · exact OK.ite (fun _ => OK.ret trivial) (fun _ => OK.ret trivial)
  · exact OK.ite (fun _ => OK.ret trivial) (fun _ => OK.ret trivial)
  · refine OK.bind2 (R := fun _ => True) ?_ (fun _ _ => OK.ret trivial)
    unfold audit_calls_apply
    refine OK.ite (fun _ => OK.ret trivial) (fun _ => ?_)
    refine OK.bind2 (R := fun o => o = false → (mget c.asks e.From).isSome = true) ?_ (fun o ho => OK.ite (fun _ => OK.ret trivial) (fun h => ?_))
    · refine OK.ite (fun _ => OK.ret (fun h => by cases h)) (fun h => ?_)
      have hs : (mget c.asks e.From).isSome = true := by simpa using h
      obtain ⟨y, hy⟩ := Option.isSome_iff_exists.1 hs
      rw [hy]
      simp only [Option.bind_some]
      exact OK.ite (fun _ => OK.ret (fun _ => rfl)) (fun _ => OK.ite (fun _ => OK.ret (fun _ => rfl)) (fun _ => OK.ite (fun _ => OK.ret (fun _ => rfl)) (fun _ => OK.ite (fun _ => OK.ret (fun _ => rfl)) (fun _ => OK.ret (fun _ => rfl)))))
    · obtain ⟨y, hy⟩ := Option.isSome_iff_exists.1 (ho h)
      rw [hy]
      exact OK.ret trivial
  · refine OK.bind2 (R := fun _ => True) ?_ (fun o _ => OK.ite (fun _ => OK.ret trivial) (fun _ => OK.ret trivial))
    refine OK.ite (fun _ => OK.ret trivial) (fun h => ?_)
    have hs : (mget c.asks e.Task).isSome = true := by simpa using h
    obtain ⟨y, hy⟩ := Option.isSome_iff_exists.1 hs
    rw [hy]
    simp only [Option.bind_some]
    exact OK.ite (fun _ => OK.ret trivial) (fun _ => OK.ite (fun _ => OK.ret trivial) (fun _ => OK.ite (fun _ => OK.ret trivial) (fun _ => OK.ite (fun _ => OK.ret trivial) (fun _ => OK.ite (fun _ => OK.ret trivial) (fun _ => OK.ret trivial)))))
theorem calls_fine (fu : Nat) : ∀ (es : List api_Entry) (c : audit_calls), Fine fu es (.inr (.inl c))
  | [], _ => trivial
  | e :: es, c => by
    obtain ⟨⟨b, c'⟩, h, _⟩ := calls_total c e
    exact ⟨b, .inr (.inl c'), by simp [I_audit_rule_right, h], fun _ => calls_fine fu es c'⟩
theorem runs_total (c : audit_runs) (e : api_Entry) : OK (audit_runs_right c e) (fun _ => True) := by
  unfold audit_runs_right
  have same : OK (audit_runs_same c e) (fun _ => True) := OK.ret trivial
  refine OK.ite (fun _ => ?_) (fun _ => OK.ite (fun _ => ?_) (fun _ => ?_))
  · refine OK.bind2 (R := fun _ => True) ?_ (fun _ _ => OK.ret trivial)
    unfold audit_runs_publish
    refine OK.bind2 (R := fun _ => True) (OK.ite (fun _ => OK.ite (fun _ => OK.ret trivial) (fun _ => OK.ret trivial)) (fun _ => OK.ret trivial)) (fun o _ => OK.ite (fun _ => OK.ret trivial) (fun _ => ?_))
    refine OK.bind2 (R := fun _ => True) (OK.ite (fun _ => OK.ret trivial) (fun _ => OK.ret trivial)) (fun o _ => ?_)
    exact OK.bind2 (R := fun _ => True) (OK.ite (fun _ => OK.ret trivial) (fun _ => OK.ret trivial)) (fun o _ => OK.ret trivial)
  · exact OK.ite (fun _ => OK.ret trivial) (fun _ => OK.ret trivial)
  · refine OK.bind2 (R := fun _ => True) (OK.ite (fun _ => OK.ret trivial) (fun _ => OK.ite (fun _ => OK.ret trivial) (fun _ => OK.ite (fun _ => OK.ret trivial) (fun _ => OK.ret trivial)))) (fun o _ => OK.ite (fun _ => ?_) (fun _ => OK.ite (fun _ => OK.ite (fun _ => OK.ret trivial) (fun _ => ?_)) (fun _ => OK.ret trivial)))
    · exact OK.bind2 same (fun _ _ => OK.ret trivial)
    · refine OK.bind2 (R := fun _ => True) (OK.bind2 same (fun _ _ => OK.ite (fun _ => OK.ret trivial) (fun _ => OK.ret trivial))) (fun o _ => OK.ite (fun _ => OK.ret trivial) (fun _ => OK.ret trivial))
theorem runs_fine (fu : Nat) : ∀ (es : List api_Entry) (c : audit_runs), Fine fu es (.inr (.inr (.inr (.inl c))))
  | [], _ => trivial
  | e :: es, c => by
    obtain ⟨⟨b, c'⟩, h, _⟩ := runs_total c e
    exact ⟨b, .inr (.inr (.inr (.inl c'))), by simp [I_audit_rule_right, h], fun _ => runs_fine fu es c'⟩
theorem grace_total (g : audit_grace) (e : api_Entry) (n : Nat) (hn : n ≤ 10000000000000) (h1 : g.loaded.length ≤ n) (h2 : g.retired.length ≤ n) : OK (audit_grace_right g e) (fun r => r.2.loaded.length ≤ n + 1 ∧ r.2.retired.length ≤ n + 1) := by
  have keep : ∀ b : Bool, ((b, g).2 : audit_grace).loaded.length ≤ n + 1 ∧ ((b, g).2 : audit_grace).retired.length ≤ n + 1 := fun b => ⟨by simp only; omega, by simp only; omega⟩
  unfold audit_grace_right
  refine OK.ite (fun _ => ?_) (fun _ => OK.ite (fun _ => ?_) (fun _ => OK.ite (fun _ => ?_) (fun _ => OK.ite (fun _ => ?_) (fun _ => ?_))))
  · rw [contains_is]
    simp only [Option.bind_some]
    refine OK.ite (fun _ => OK.ret (keep _)) (fun _ => OK.bind (OK.hasRoom (by simp; omega) (OK.ret ⟨by simp; omega, by simp only; omega⟩)))
  · rw [grace_run]
    refine OK.ite (fun _ => OK.ret (keep _)) (fun _ => ?_)
    unfold audit_grace_right_f1
    rw [known_is]
    simp only [Option.bind_some]
    refine OK.ite (fun _ => OK.ret (keep _)) (fun _ => OK.bind (OK.hasRoom (by simp; omega) (OK.ret ⟨by simp only; omega, by simp; omega⟩)))
  · refine OK.bind2 (R := fun _ => True) ?_ (fun _ _ => OK.ret (keep _))
    refine OK.ite (fun _ => OK.ret trivial) (fun _ => ?_)
    rw [known_is]; exact OK.ret trivial
  · rw [known_is]
    exact OK.ret ⟨by simp only; omega, by simp only; omega⟩
  · refine OK.bind2 (R := fun _ => True) (OK.ite (fun _ => OK.ret trivial) (fun _ => OK.ite (fun _ => OK.ret trivial) (fun _ => OK.ite (fun _ => OK.ret trivial) (fun _ => OK.ret trivial)))) (fun o _ => OK.ite (fun _ => ?_) (fun _ => OK.ite (fun _ => ?_) (fun _ => OK.ret (keep _))))
    · rw [known_is]; exact OK.ret (keep _)
    · refine OK.bind2 (R := fun _ => True) (OK.ite (fun _ => OK.ret trivial) (fun _ => by rw [known_is]; exact OK.ret trivial)) (fun _ _ => OK.ret ⟨by simp only; omega, by simp only; omega⟩)
theorem grace_fine (fu : Nat) : ∀ (es : List api_Entry) (n : Nat) (g : audit_grace), n + es.length ≤ 10000000000000 → g.loaded.length ≤ n → g.retired.length ≤ n → Fine fu es (.inr (.inr (.inr (.inr g))))
  | [], _, _, _, _, _ => trivial
  | e :: es, n, g, hn, h1, h2 => by
    simp only [List.length_cons] at hn
    obtain ⟨⟨b, g'⟩, h, k1, k2⟩ := grace_total g e n (by omega) h1 h2
    exact ⟨b, .inr (.inr (.inr (.inr g'))), by simp [I_audit_rule_right, h], fun _ => grace_fine fu es (n + 1) g' (by omega) k1 k2⟩
def Waits (n : Nat) (v : audit_events) : Prop := ∀ h l, mget v.wait h = some l → l.length ≤ n
theorem events_total (v : audit_events) (e : api_Entry) (n : Nat) (hn : n ≤ 10000000000000) (h : Waits n v) : OK (audit_events_right v e) (fun r => Waits (n + 1) r.2) := by
  have up : ∀ (v' : audit_events), v'.wait = v.wait → Waits (n + 1) v' := fun v' e' q l hl => by rw [e'] at hl; have := h q l hl; omega
  have hw : ((mget v.wait e.Hook).getD []).length ≤ n := by
    cases hm : mget v.wait e.Hook with
    | none => simp
    | some l => exact h _ _ hm
  unfold audit_events_right
  refine OK.ite (fun _ => ?_) (fun _ => ?_)
  · refine OK.ite (fun _ => OK.ret (up _ rfl)) (fun _ => OK.bind (OK.hasRoom (by simp; omega) (OK.ret ?_)))
    intro q l hl
    simp only at hl
    rw [mget_mput] at hl
    split at hl
    · cases hl; simp; omega
    · have := h q l hl; omega
  · refine OK.bind2 (R := fun _ => True) (OK.ite (fun _ => OK.ret trivial) (fun _ => OK.ret trivial)) (fun o _ => OK.ite (fun _ => ?_) (fun _ => OK.ret (up _ rfl)))
    refine OK.bind2 (R := fun o => o = false → 1 ≤ ((mget v.wait e.Hook).getD []).length) ?_ (fun o ho => OK.ite (fun _ => OK.ret (up _ rfl)) (fun hf => ?_))
    · refine OK.ite (fun _ => OK.ret (fun z => by cases z)) (fun z => ?_)
      have hz : ¬ (((mget v.wait e.Hook).getD []).length : Int) = 0 := by simpa using z
      exact OK.bind (OK.get (by omega) (by omega) (fun x _ => OK.ret (fun _ => by omega)))
    · have h1 := ho hf
      have hc : cut ((mget v.wait e.Hook).getD []) 1 (((mget v.wait e.Hook).getD []).length : Int) = some (((mget v.wait e.Hook).getD []).drop 1) := by
        unfold cut
        rw [if_pos ⟨by omega, by omega, by omega⟩, Int.toNat_natCast, List.take_length]; rfl
      rw [hc]
      simp only [Option.bind_some]
      refine OK.ret ?_
      intro q l hl
      simp only at hl
      rw [mget_mput] at hl
      split at hl
      · cases hl; simp; omega
      · have := h q l hl; omega
theorem events_fine (fu : Nat) : ∀ (es : List api_Entry) (n : Nat) (v : audit_events), n + es.length ≤ 10000000000000 → Waits n v → Fine fu es (.inr (.inr (.inl v)))
  | [], _, _, _, _ => trivial
  | e :: es, n, v, hn, h => by
    simp only [List.length_cons] at hn
    obtain ⟨⟨b, v'⟩, h', k⟩ := events_total v e n (by omega) h
    exact ⟨b, .inr (.inr (.inl v')), by simp [I_audit_rule_right, h'], fun _ => events_fine fu es (n + 1) v' (by omega) k⟩
theorem skip_right (fu : Nat) (x : I_audit_rule) (e : api_Entry) (h : e.What = 15 ∨ e.What = 14) : I_audit_rule_right fu x e = some (true, x) := by
  rcases x with x | x | x | x | x
  · simp only [I_audit_rule_right]; unfold audit_maps_right
    rcases h with h | h <;> simp [h]
  · simp only [I_audit_rule_right]; unfold audit_calls_right
    rcases h with h | h <;> simp [h]
  · simp only [I_audit_rule_right]; unfold audit_events_right
    rcases h with h | h <;> simp [h]
  · simp only [I_audit_rule_right]; unfold audit_runs_right
    rcases h with h | h <;> simp [h]
  · simp only [I_audit_rule_right]; unfold audit_grace_right
    rcases h with h | h <;> simp [h]
end Go.Proofs.Ytpchniebplpboaa

/- Only and Of: what they keep. TraceEach, TraceOnly: the plain laws. -/
import Derived.Test.YtalllncanpcmfaaDoorKBack
set_option linter.unusedVariables false
set_option linter.unusedSimpArgs false
namespace Go.Proofs.YtalllncanpcmfaaDoor
open Go.Sx

theorem index_m (l : List Int) (x : Int) : OK (slices_Index_tappet_api_Mark_tappet_api_Mark l x) (fun r => decide (r ≥ 0) = l.contains x) := by
  unfold slices_Index_tappet_api_Mark_tappet_api_Mark
  refine OK.bind2 (OK.count (Q := fun o => match o with | .inl _ => l.contains x = false | .inr r => decide (r ≥ 0) = l.contains x) (fun i _ => (l.take i).contains x = false) (by simp) (fun i s again hi hs k => ?_) (fun s hs => by rw [List.take_length] at hs; exact hs)) (fun o ho => ?_)
  · unfold slices_Index_tappet_api_Mark_tappet_api_Mark_l1
    refine OK.bind (OK.getN hi (fun y hy => ?_))
    refine OK.ite (fun e => OK.ret ?_) (fun e => k _ ?_)
    · have e : x = y := by simpa using e
      subst e
      have : l.contains x = true := by simpa using List.mem_of_getElem? hy
      show decide ((i : Int) ≥ 0) = _
      rw [this]
      simp
    · have e : ¬ x = y := by simpa using e
      rw [List.take_add_one, hy]
      simp only [Option.toList_some, List.contains_eq_mem, List.mem_append, List.mem_singleton, decide_eq_false_iff_not] at hs ⊢
      exact fun h => h.elim hs e
  · cases o with
    | inl _ => exact OK.ret (by show decide ((-1 : Int) ≥ 0) = _; rw [show l.contains x = false from ho]; rfl)
    | inr r => exact OK.ret ho
theorem index_i (l : List Int) (x : Int) : OK (slices_Index_int_int l x) (fun r => decide (r ≥ 0) = l.contains x) := by
  unfold slices_Index_int_int
  refine OK.bind2 (OK.count (Q := fun o => match o with | .inl _ => l.contains x = false | .inr r => decide (r ≥ 0) = l.contains x) (fun i _ => (l.take i).contains x = false) (by simp) (fun i s again hi hs k => ?_) (fun s hs => by rw [List.take_length] at hs; exact hs)) (fun o ho => ?_)
  · unfold slices_Index_int_int_l1
    refine OK.bind (OK.getN hi (fun y hy => ?_))
    refine OK.ite (fun e => OK.ret ?_) (fun e => k _ ?_)
    · have e : x = y := by simpa using e
      subst e
      have : l.contains x = true := by simpa using List.mem_of_getElem? hy
      show decide ((i : Int) ≥ 0) = _
      rw [this]
      simp
    · have e : ¬ x = y := by simpa using e
      rw [List.take_add_one, hy]
      simp only [Option.toList_some, List.contains_eq_mem, List.mem_append, List.mem_singleton, decide_eq_false_iff_not] at hs ⊢
      exact fun h => h.elim hs e
  · cases o with
    | inl _ => exact OK.ret (by show decide ((-1 : Int) ≥ 0) = _; rw [show l.contains x = false from ho]; rfl)
    | inr r => exact OK.ret ho
theorem only1 (x : api_Entry) (ms : List Int) : trace_Only_1 x ms = some (ms.contains x.What) := by
  refine OK.is ?_
  unfold trace_Only_1 slices_Contains_tappet_api_Mark_tappet_api_Mark
  refine OK.bind2 (R := fun b => b = ms.contains x.What) (OK.bind2 (index_m ms x.What) (fun r hr => OK.ret hr)) (fun b hb => OK.ret hb)
theorem of1 (x : api_Entry) (ts : List Int) : trace_Of_1 x ts = some (ts.contains x.Task) := by
  refine OK.is ?_
  unfold trace_Of_1 slices_Contains_int_int
  refine OK.bind2 (R := fun b => b = ts.contains x.Task) (OK.bind2 (index_i ts x.Task) (fun r hr => OK.ret hr)) (fun b hb => OK.ret hb)
theorem filt_take {α : Type} {p : α → Bool} {l : List α} {i : Nat} {x : α} (h : l[i]? = some x) : (l.take (i + 1)).filter p = (l.take i).filter p ++ (if p x then [x] else []) := by
  rw [List.take_add_one, h, List.filter_append]
  cases hp : p x <;> simp [hp]
theorem filt_len {α : Type} {p : α → Bool} {l : List α} {i : Nat} : ((l.take i).filter p).length ≤ i := Nat.le_trans (List.length_filter_le _ _) (by rw [List.length_take]; omega)
theorem only_eq {l : List api_Entry} (hl : l.length * 176 ≤ 140737488355328) (ms : List Int) : trace_Only l ms = some (l.filter fun x => ms.contains x.What) := by
  refine OK.is ?_
  unfold trace_Only trace_kept_34
  refine OK.bind2 (R := fun r => r = l.filter fun x => ms.contains x.What) ?_ (fun r hr => OK.ret hr)
  refine OK.bind2 (OK.count (fun i s => s = (l.take i).filter fun x => ms.contains x.What) rfl (fun i s again hi hs k => ?_) (fun s hs => by rw [hs, List.take_length])) (fun o ho => OK.ret ho)
  unfold trace_kept_34_l1
  refine OK.bind (OK.getN hi (fun x hx => ?_))
  rw [only1]
  simp only [Option.bind_some]
  refine OK.ite (fun e => OK.bind (OK.hasRoom ?_ (k _ ?_))) (fun e => k _ ?_)
  · have : s.length ≤ i := by rw [hs]; exact filt_len
    simp; omega
  · rw [filt_take hx, hs, if_pos e]
  · rw [filt_take hx, hs, if_neg (by rw [e]; decide), List.append_nil]
theorem of_eq {l : List api_Entry} (hl : l.length * 176 ≤ 140737488355328) (ts : List Int) : trace_Of l ts = some (l.filter fun x => ts.contains x.Task) := by
  refine OK.is ?_
  unfold trace_Of trace_kept_36
  refine OK.bind2 (R := fun r => r = l.filter fun x => ts.contains x.Task) ?_ (fun r hr => OK.ret hr)
  refine OK.bind2 (OK.count (fun i s => s = (l.take i).filter fun x => ts.contains x.Task) rfl (fun i s again hi hs k => ?_) (fun s hs => by rw [hs, List.take_length])) (fun o ho => OK.ret ho)
  unfold trace_kept_36_l1
  refine OK.bind (OK.getN hi (fun x hx => ?_))
  rw [of1]
  simp only [Option.bind_some]
  refine OK.ite (fun e => OK.bind (OK.hasRoom ?_ (k _ ?_))) (fun e => k _ ?_)
  · have : s.length ≤ i := by rw [hs]; exact filt_len
    simp; omega
  · rw [filt_take hx, hs, if_pos e]
  · rw [filt_take hx, hs, if_neg (by rw [e]; decide), List.append_nil]
theorem plain_what {x : api_Entry} (h : good x) : 1 ≤ x.What ∧ x.What ≤ 17 := by
  obtain ⟨l, h1, _, h3, _, h5⟩ := good_line h
  obtain ⟨e, b, p1, p2⟩ := parsed_total (s := l) (by omega)
  rw [h5] at p1
  cases p1
  have := p2 rfl
  exact ⟨this.2.1, this.2.2.1⟩
theorem filt_sum {α : Type} (p q : α → Bool) : ∀ l : List α, (∀ x ∈ l, p x = !q x) → (l.filter p).length + (l.filter q).length = l.length
  | [], _ => rfl
  | x :: l, h => by
    have h1 := filt_sum p q l (fun y hy => h y (List.mem_cons_of_mem _ hy))
    have h2 := h x (List.mem_cons_self ..)
    cases hq : q x <;> rw [hq] at h2 <;> simp [h2, hq] <;> omega
theorem traceEach_law (p0 : List api_Entry) (p1 : Int) (hl : p0.length ≤ 1048576) (hI : ∀ x ∈ p0, wfE x) : tappetlaw26_TraceEach 1000 p0 p1 = some true := by
  refine OK.is ?_
  unfold tappetlaw26_TraceEach
  rw [awake_fu (by omega)]
  simp only [Option.bind_some]
  refine OK.ite_false rfl ?_
  rw [Print_eq hl hI]
  simp only [Option.bind_some]
  refine OK.bind2 (OK.count (Q := fun o => match o with | .inl s => p0.all plainB = true ∧ s = catL (p0.map lineT) | .inr b => b = true) (fun i s => (p0.take i).all plainB = true ∧ s = catL ((p0.take i).map lineT) ∧ s.size ≤ i * 501) ⟨by simp, rfl, by decide⟩ (fun i s again hi hs k => ?_) (fun s hs => ?_)) (fun o ho => ?_)
  · unfold tappetlaw26_TraceEach_l1
    refine OK.bind (OK.getN hi (fun x hx => ?_))
    have hmem := List.mem_of_getElem? hx
    rw [Print_eq (l := [x]) (by simp) (fun y hy => by rw [List.mem_singleton] at hy; subst hy; exact hI _ hmem)]
    simp only [Option.bind_some, List.all_cons, List.all_nil, Bool.and_true, List.map_cons, List.map_nil]
    cases hr : plainB x with
    | false =>
      have hall : p0.all plainB = false := by
        cases ha : p0.all plainB with
        | false => rfl
        | true => have := List.all_eq_true.1 ha x hmem; rw [hr] at this; cases this
      rw [hall]
      exact OK.ite_true rfl (OK.ret (by simp [sEq]))
    | true =>
      have hz := lineT_size ⟨hI x hmem, hr⟩
      have hc : catL [lineT x] = lineT x := by rw [catL_cons, catL_nil, ByteArray.append_empty]
      simp only [if_true, hc]
      refine OK.ite_false rfl ?_
      refine OK.bind (cat_ok (by have := hs.2.2; omega) ?_)
      refine k _ ⟨?_, ?_, ?_⟩
      · rw [List.take_add_one, hx]
        simp [hs.1, hr]
      · rw [List.take_add_one, hx]
        simp only [Option.toList_some, List.map_append, List.map_cons, List.map_nil]
        rw [catL_snoc, ← hs.2.1]
      · rw [ByteArray.size_append]
        have := hs.2.2
        omega
  · have h1 := hs.1
    rw [List.take_length] at h1
    have h2 := hs.2.1
    rw [List.take_length] at h2
    exact ⟨h1, h2⟩
  · cases o with
    | inr b => exact OK.ret ho
    | inl s =>
      obtain ⟨a, b⟩ := ho
      subst b
      have hall := List.all_eq_true.1 a
      rw [a]
      simp only [if_true]
      refine OK.bind2 (OK.count (Q := fun os : List Int => ∀ m : Int, 0 ≤ m → m < 20 → (os.contains m = decide (m ≠ p1))) (fun i s => s.length ≤ i ∧ ∀ m : Int, m ∈ s ↔ 0 ≤ m ∧ m < (i : Int) ∧ m ≠ p1) ⟨Nat.le_refl _, fun m => by simp; omega⟩ (fun i s again hi hs k => ?_) (fun s hs m h0 h1 => ?_)) (fun os hos => ?_)
      · unfold tappetlaw26_TraceEach_l2
        refine OK.ite (fun e => OK.bind (OK.hasRoom (by simp; omega) (k _ ⟨by simp; omega, fun m => ?_⟩))) (fun e => k _ ⟨by omega, fun m => ?_⟩)
        · have e : (i : Int) ≠ p1 := by simpa using e
          rw [List.mem_append, hs.2 m, List.mem_singleton]
          constructor
          · rintro (h | h)
            · exact ⟨h.1, by omega, h.2.2⟩
            · subst h; exact ⟨by omega, by omega, e⟩
          · rintro ⟨h1, h2, h3⟩
            by_cases h : m = (i : Int)
            · exact .inr h
            · exact .inl ⟨h1, by omega, h3⟩
        · have e : (i : Int) = p1 := by simpa using e
          rw [hs.2 m]
          omega
      · have h := hs.2 m
        by_cases hm : m = p1
        · have : ¬ m ∈ s := fun h' => (h.1 h').2.2 hm
          simp [List.contains_eq_mem, this, hm] at this ⊢
          exact this
        · have : m ∈ s := h.2 ⟨h0, by omega, hm⟩
          simp [List.contains_eq_mem, this, hm]
      · have h176 : p0.length * 176 ≤ 140737488355328 := by omega
        rw [only_eq h176, only_eq h176]
        simp only [Option.bind_some]
        refine OK.ret ?_
        have hsum := filt_sum (fun x => [p1].contains x.What) (fun x => os.contains x.What) p0 (fun x hx => by
          obtain ⟨w0, w1⟩ := plain_what ⟨hI x hx, hall x hx⟩
          rw [hos x.What (by omega) (by omega)]
          by_cases h : x.What = p1 <;> simp [h])
        rw [w64_eq (by omega) (by omega), sEq_iff.2 rfl]
        simp only [beq_self_eq_true, Bool.and_true, Bool.true_and, beq_iff_eq]
        omega
end Go.Proofs.YtalllncanpcmfaaDoor

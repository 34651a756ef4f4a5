/- flow's and the document's Check, Loops, Cost: the same answers. -/
import Derived.Test.YtkgajppghpmkbaaDoorKOps
set_option linter.unusedVariables false
set_option linter.unusedSimpArgs false
namespace Go.Proofs.YtkgajppghpmkbaaDoor
open Go.Sx

def findN {ρ : Type} (g : Nat → Option ρ) : Nat → Nat → Option ρ
  | 0, _ => none
  | n + 1, i => match g i with
    | some v => some v
    | none => findN g n (i + 1)
def sumOf {ρ : Type} : Option ρ → Unit ⊕ ρ
  | some v => .inr v
  | none => .inl ()
theorem search {ρ : Type} {body : Nat → (Unit → Option (Unit ⊕ ρ)) → Unit → Option (Unit ⊕ ρ)} (g : Nat → Option ρ) {N : Nat}
    (hb : ∀ j again, j < N → body j again () = match g j with | some v => some (.inr v) | none => again ()) :
    ∀ (n i : Nat), i + n = N → forN body (fun _ => (.inl ())) n i () = some (sumOf (findN g n i)) := by
  intro n
  induction n with
  | zero => intro i _; rfl
  | succ n ih =>
    intro i hi
    show body i (forN body _ n (i + 1)) () = _
    rw [hb i _ (by omega)]
    unfold findN
    cases g i with
    | some v => rfl
    | none => exact ih (i + 1) (by omega)
theorem search0 {ρ : Type} {body : Nat → (Unit → Option (Unit ⊕ ρ)) → Unit → Option (Unit ⊕ ρ)} (g : Nat → Option ρ) {N : Nat}
    (hb : ∀ j again, j < N → body j again () = match g j with | some v => some (.inr v) | none => again ()) :
    forN body (fun _ => (.inl ())) N 0 () = some (sumOf (findN g N 0)) := search g hb N 0 (by omega)
theorem findN_some {ρ : Type} {g : Nat → Option ρ} {v : ρ} : ∀ {n i : Nat}, findN g n i = some v → ∃ j, i ≤ j ∧ j < i + n ∧ g j = some v ∧ ∀ q, i ≤ q → q < j → g q = none := by
  intro n
  induction n with
  | zero => intro i h; cases h
  | succ n ih =>
    intro i h
    unfold findN at h
    cases hg : g i with
    | some u =>
      rw [hg] at h
      cases h
      exact ⟨i, Nat.le_refl _, by omega, hg, fun q h1 h2 => by omega⟩
    | none =>
      rw [hg] at h
      obtain ⟨j, h1, h2, h3, h4⟩ := ih h
      refine ⟨j, by omega, by omega, h3, fun q q1 q2 => ?_⟩
      rcases Nat.eq_or_lt_of_le q1 with e | e
      · subst e; exact hg
      · exact h4 q e q2
theorem findN_none {ρ : Type} {g : Nat → Option ρ} : ∀ {n i : Nat}, findN g n i = none → ∀ q, i ≤ q → q < i + n → g q = none := by
  intro n
  induction n with
  | zero => intro i _ q h1 h2; omega
  | succ n ih =>
    intro i h q h1 h2
    unfold findN at h
    cases hg : g i with
    | some u => rw [hg] at h; cases h
    | none =>
      rw [hg] at h
      rcases Nat.eq_or_lt_of_le h1 with e | e
      · subst e; exact hg
      · exact ih h q e (by omega)
theorem findN_none' {ρ : Type} {g : Nat → Option ρ} : ∀ {n i : Nat}, (∀ q, i ≤ q → q < i + n → g q = none) → findN g n i = none := by
  intro n
  induction n with
  | zero => intro i _; rfl
  | succ n ih =>
    intro i h
    unfold findN
    rw [h i (Nat.le_refl _) (by omega)]
    exact ih (fun q h1 h2 => h q (by omega) (by omega))
theorem idxN {α : Type} {xs : List α} {i : Nat} (h : i < xs.length) : idx xs (i : Int) = some xs[i] := by
  simp [Go.Sx.idx, h]

def errAt (n : Int) (p : Int) (i : api_Inst) : Int :=
  if !rightB i then 12
  else if (goesB i).2.1 && (decide (p + (goesB i).1 < 0) || decide (p + (goesB i).1 ≥ n)) then 30
  else if (goesB i).2.2 && p == n - 1 then 36 else 0
theorem goes_small (i : api_Inst) : -63 ≤ (goesB i).1 ∧ (goesB i).1 ≤ 64 := by
  unfold goesB
  split
  · rename_i h; have := jump_D h; simp; omega
  · split
    · rename_i h; have := loop_D h; simp; omega
    · simp
def placeErr (code : List api_Inst) (p : Nat) : Option (Int × Int) := match code[p]? with
  | some i => if errAt code.length p i = 0 then none else some ((p : Int), errAt code.length p i)
  | none => none
theorem places_eq (code : List api_Inst) (hn : code.length ≤ 64) : flow_places code = some ((findN (placeErr code) code.length 0).getD (0, 0)) := by
  unfold flow_places
  rw [search0 (placeErr code) (N := code.length)]
  · simp only [Option.bind_some]
    cases findN (placeErr code) code.length 0 <;> rfl
  · intro j again hj
    unfold flow_places_l1
    have hx : code[j]? = some code[j] := List.getElem?_eq_getElem hj
    generalize hi : code[j] = x at hx
    have hg := goes_small x
    have e1 : w64 ((j : Int) + (goesB x).1) = j + (goesB x).1 := w64_eq (by omega) (by omega)
    have e2 : w64 ((code.length : Int) - 1) = code.length - 1 := w64_eq (by omega) (by omega)
    have hr : ops_Right [x] = some (rightB x) := by
      unfold ops_Right
      simp only [List.length_singleton, forN, ops_Right_l1]
      rcases Bool.eq_false_or_eq_true (rightB x) with h | h <;> simp [Go.Sx.idx, opsRight_eq, h]
    simp only [idxN hj, hi, Option.bind_some, opsGoes_eq, hr, e1, e2, placeErr, hx, errAt]
    rcases Bool.eq_false_or_eq_true (rightB x) with h1 | h1
    · rcases Bool.eq_false_or_eq_true ((goesB x).2.1 && (decide ((j : Int) + (goesB x).1 < 0) || decide ((j : Int) + (goesB x).1 ≥ code.length))) with h2 | h2
      · simp only [h1, h2]; rfl
      · rcases Bool.eq_false_or_eq_true ((goesB x).2.2 && ((j : Int) == code.length - 1)) with h3 | h3
        · simp only [h1, h2, h3]; rfl
        · simp only [h1, h2, h3]; rfl
    · simp only [h1]; rfl
def Fine (code : List api_Inst) : Prop := ∀ (p : Nat) (i : api_Inst), code[p]? = some i → errAt code.length p i = 0
theorem fine_of {code : List api_Inst} (h : findN (placeErr code) code.length 0 = none) : Fine code := by
  intro p i hi
  have hp := (List.getElem?_eq_some_iff.1 hi).1
  have := findN_none h p (by omega) (by omega)
  unfold placeErr at this
  rw [hi] at this
  simp only at this
  split at this
  · assumption
  · cases this
theorem fine_none {code : List api_Inst} (h : Fine code) : findN (placeErr code) code.length 0 = none := by
  refine findN_none' (fun q _ hq => ?_)
  have hi := List.getElem?_eq_getElem (show q < code.length by omega)
  unfold placeErr
  rw [hi]
  simp only [h q _ hi, if_true]
theorem Fine.right {code : List api_Inst} (h : Fine code) {p : Nat} {i : api_Inst} (hi : code[p]? = some i) : rightB i = true := by
  have := h p i hi
  unfold errAt at this
  rcases Bool.eq_false_or_eq_true (rightB i) with h1 | h1
  · exact h1
  · rw [h1] at this; simp at this
theorem Fine.leads {code : List api_Inst} (h : Fine code) {p : Nat} {i : api_Inst} (hi : code[p]? = some i) (hl : (goesB i).2.1 = true) : 0 ≤ (p : Int) + (goesB i).1 ∧ (p : Int) + (goesB i).1 < code.length := by
  have := h p i hi
  unfold errAt at this
  rw [h.right hi, hl] at this
  simp at this
  split at this
  · omega
  · rename_i h2; omega
theorem Fine.on {code : List api_Inst} (h : Fine code) {p : Nat} {i : api_Inst} (hi : code[p]? = some i) (hl : (goesB i).2.2 = true) : p + 1 < code.length := by
  have hp := (List.getElem?_eq_some_iff.1 hi).1
  have h1 := h p i hi
  unfold errAt at h1
  rw [h.right hi, hl] at h1
  rcases Nat.lt_or_ge (p + 1) code.length with h2 | h2
  · exact h2
  · exfalso
    have e : ((p : Int) == code.length - 1) = true := by simp; omega
    rw [e] at h1
    simp at h1
    split at h1 <;> omega
theorem Fine.loop {code : List api_Inst} (h : Fine code) {p : Nat} {i : api_Inst} (hi : code[p]? = some i) (ho : i.Op = 20) : 1 ≤ i.D ∧ i.D ≤ p ∧ 1 ≤ i.Imm ∧ i.Imm ≤ 255 ∧ p + 1 < code.length := by
  have hr := h.right hi
  have hl : loopsB i = true := by simp [loopsB, hr, ho]
  have hj : jumpsB i = false := by simp [jumpsB, inB, ho]
  have hg : goesB i = (-i.D, true, true) := by simp [goesB, hl, hj]
  have h1 := h.leads hi (by rw [hg])
  have h2 := h.on hi (by rw [hg])
  rw [hg] at h1
  have h3 := loop_D hl
  simp only at h1
  omega

def loopAt (i : api_Inst) (p : Nat) : api_Loop := ⟨(p : Int) - i.D, p, i.Imm⟩
def lps (code : List api_Inst) : Nat → List api_Loop
  | 0 => []
  | k + 1 => match code[k]? with
    | some i => if i.Op == 20 then lps code k ++ [loopAt i k] else lps code k
    | none => lps code k
theorem lps_len (code : List api_Inst) : ∀ k, (lps code k).length ≤ k
  | 0 => Nat.le_refl _
  | k + 1 => by
    have := lps_len code k
    unfold lps
    split
    · split
      · simp; omega
      · omega
    · omega
theorem mem_lps {code : List api_Inst} {l : api_Loop} : ∀ {k : Nat}, l ∈ lps code k ↔ ∃ q i, q < k ∧ code[q]? = some i ∧ i.Op = 20 ∧ l = loopAt i q
  | 0 => by simp [lps]
  | k + 1 => by
    unfold lps
    have ih := @mem_lps code l k
    constructor
    · intro h
      split at h
      · rename_i i hi
        split at h
        · rename_i ho
          rcases List.mem_append.1 h with h | h
          · obtain ⟨q, j, h1, h2⟩ := ih.1 h
            exact ⟨q, j, by omega, h2⟩
          · simp at h
            exact ⟨k, i, by omega, hi, by simpa using ho, h⟩
        · obtain ⟨q, j, h1, h2⟩ := ih.1 h
          exact ⟨q, j, by omega, h2⟩
      · obtain ⟨q, j, h1, h2⟩ := ih.1 h
        exact ⟨q, j, by omega, h2⟩
    · rintro ⟨q, j, h1, h2, h3, h4⟩
      rcases Nat.lt_or_ge q k with hq | hq
      · have := ih.2 ⟨q, j, hq, h2, h3, h4⟩
        split
        · split
          · exact List.mem_append_left _ this
          · exact this
        · exact this
      · have e : q = k := by omega
        subst e
        rw [h2]
        simp only [h3]
        rw [if_pos (by simp)]
        exact List.mem_append_right _ (by simp [h4])
theorem lps_sorted (code : List api_Inst) : ∀ k, (lps code k).Pairwise (fun a b => a.At < b.At) ∧ ∀ l ∈ lps code k, l.At < k
  | 0 => ⟨List.Pairwise.nil, by simp [lps]⟩
  | k + 1 => by
    obtain ⟨h1, h2⟩ := lps_sorted code k
    unfold lps
    split
    · split
      · refine ⟨List.pairwise_append.2 ⟨h1, List.pairwise_singleton _ _, fun a ha b hb => ?_⟩, fun l hl => ?_⟩
        · simp at hb; subst hb; exact h2 a ha
        · rcases List.mem_append.1 hl with hl | hl
          · have := h2 l hl; omega
          · simp at hl; subst hl; simp [loopAt]; omega
      · exact ⟨h1, fun l hl => by have := h2 l hl; omega⟩
    · exact ⟨h1, fun l hl => by have := h2 l hl; omega⟩
theorem loops_eq {code : List api_Inst} (hn : code.length ≤ 64) (hD : Fine code) : flow_loops code = some (lps code code.length) := by
  refine OK.is ?_
  unfold flow_loops
  refine OK.bind2 (R := fun y => y = lps code code.length) ?_ (fun x hx => OK.ret hx)
  refine OK.count (fun i s => s = lps code i) rfl ?_ (fun s h => h)
  intro i s again hi hs k
  subst hs
  unfold flow_loops_l1
  refine OK.bind (OK.getN hi (fun x hx => ?_))
  have hl := lps_len code i
  refine OK.ite (fun h => ?_) (fun h => ?_)
  · have hd := hD.loop hx (by simpa using h)
    refine OK.bind (OK.hasRoom (by simp; omega) ?_)
    refine k _ ?_
    rw [lps, hx]
    simp only [h, if_true, loopAt]
    rw [w64_eq (by omega) (by omega)]
  · refine k _ ?_
    rw [lps, hx]
    simp [h]
def covers (code : List api_Inst) (p a : Nat) : Bool := match code[a]? with
  | some i => i.Op == 20 && decide ((a : Int) - i.D ≤ p) && decide (p ≤ a)
  | none => false
open Classical in
noncomputable def pick {ρ : Type} (X : Prop) (v : ρ) : Option ρ := if X then some v else none
theorem pick_t {ρ : Type} {X : Prop} {v : ρ} (h : X) : pick X v = some v := by unfold pick; rw [if_pos h]
theorem pick_f {ρ : Type} {X : Prop} {v : ρ} (h : ¬ X) : pick X v = none := by unfold pick; rw [if_neg h]
theorem pick_some {ρ : Type} {X : Prop} {v u : ρ} (h : pick X v = some u) : X ∧ v = u := by
  unfold pick at h
  split at h
  · rename_i hx; cases h; exact ⟨hx, rfl⟩
  · cases h
theorem pick_none {ρ : Type} {X : Prop} {v : ρ} (h : pick X v = none) : ¬ X := by
  unfold pick at h
  split at h
  · cases h
  · rename_i hx; exact hx
def First (X : Nat → Prop) (n : Nat) : Option Nat → Prop
  | some l => l < n ∧ X l ∧ ∀ q, q < l → ¬ X q
  | none => ∀ q, q < n → ¬ X q
theorem first_findN {ρ : Type} {X : Nat → Prop} {n : Nat} {v : Nat → ρ} : ∃ o, First X n o ∧ findN (fun l => pick (X l) (v l)) n 0 = o.map v := by
  cases h : findN (fun l => pick (X l) (v l)) n 0 with
  | none => exact ⟨none, fun q hq => pick_none (findN_none h q (by omega) (by omega)), rfl⟩
  | some u =>
    obtain ⟨j, _, h2, h3, h4⟩ := findN_some h
    obtain ⟨hx, rfl⟩ := pick_some h3
    exact ⟨some j, ⟨by omega, hx, fun q hq => pick_none (h4 q (by omega) hq)⟩, rfl⟩

def Crs (code : List api_Inst) (l m : Nat) : Prop := ∃ il im, code[l]? = some il ∧ il.Op = 20 ∧ code[m]? = some im ∧ im.Op = 20 ∧ (l : Int) - il.D ≤ m ∧ (m : Int) - im.D < l - il.D
def Cr (code : List api_Inst) (l : Nat) : Prop := ∃ m, m < l ∧ Crs code l m

theorem covers_iff {code : List api_Inst} {p a : Nat} {i : api_Inst} (hi : code[a]? = some i) (ho : i.Op = 20) : covers code p a = true ↔ (a : Int) - i.D ≤ p ∧ p ≤ a := by
  simp [covers, hi, ho]

theorem sorted_lt {ls : List api_Loop} (hs : ls.Pairwise (fun a b => a.At < b.At)) {i j : Nat} {a b : api_Loop} (hi : ls[i]? = some a) (hj : ls[j]? = some b) : a.At < b.At ↔ i < j := by
  obtain ⟨h1, rfl⟩ := List.getElem?_eq_some_iff.1 hi
  obtain ⟨h2, rfl⟩ := List.getElem?_eq_some_iff.1 hj
  constructor
  · intro h
    rcases Nat.lt_trichotomy i j with h3 | h3 | h3
    · exact h3
    · subst h3; omega
    · have := List.pairwise_iff_getElem.1 hs j i h2 h1 h3; omega
  · intro h
    exact List.pairwise_iff_getElem.1 hs i j h1 h2 h
theorem cut_pre {α : Type} {xs : List α} {k : Nat} (hk : k ≤ xs.length) : cut xs 0 (k : Int) = some (xs.take k) := by
  unfold cut
  rw [if_pos (by omega)]
  simp
theorem nested1 {code : List api_Inst} (hn : code.length ≤ 64) (hD : Fine code) :
    ∃ o, First (Cr code) code.length o ∧ forN (flow_nested_l1 (lps code code.length)) (fun _ => (.inl ())) (lps code code.length).length 0 () = some (sumOf (o.map fun (l : Nat) => ((l : Int), (31 : Int)))) := by
  have hs := (lps_sorted code code.length).1
  have hl := lps_len code code.length
  generalize hls : lps code code.length = ls at hs hl ⊢
  have mem : ∀ {l : api_Loop}, l ∈ ls ↔ ∃ q i, q < code.length ∧ code[q]? = some i ∧ i.Op = 20 ∧ l = loopAt i q := by
    intro l; rw [← hls]; exact mem_lps
  have main : forN (flow_nested_l1 ls) (fun _ => (.inl ())) ls.length 0 () = some (sumOf (findN (fun k => match ls[k]? with | some l => pick (Cr code l.At.toNat) (l.At, (31 : Int)) | none => none) ls.length 0)) := by
    refine search0 _ (N := ls.length) ?_
    intro k again hk
    have hx := List.getElem?_eq_getElem hk
    generalize hi : ls[k] = x at hx
    obtain ⟨q, i, hq, hqi, hop, rfl⟩ := mem.1 (List.mem_of_getElem? hx)
    unfold flow_nested_l1
    have htl : (ls.take k).length = k := by rw [List.length_take]; omega
    have inner : forN (flow_nested_l2 (loopAt i q) (ls.take k)) (fun _ => (.inl ())) k 0 () = some (sumOf (findN (fun m => match ls[m]? with | some l => pick (Crs code q l.At.toNat) ((q : Int), (31 : Int)) | none => none) k 0)) := by
      refine search0 _ (N := k) ?_
      intro m again hm
      have hml : m < ls.length := by omega
      have hy := List.getElem?_eq_getElem hml
      generalize hj : ls[m] = y at hy
      have hyt : idx (ls.take k) (m : Int) = some y := by
        rw [idxN (by omega)]
        simp [List.getElem_take, hj]
      obtain ⟨q', i', hq', hqi', hop', rfl⟩ := mem.1 (List.mem_of_getElem? hy)
      unfold flow_nested_l2
      simp only [hyt, hy, Option.bind_some]
      have e : ((loopAt i' q').At).toNat = q' := by simp [loopAt]
      rw [e]
      by_cases hc : Crs code q q'
      · rw [pick_t hc]
        obtain ⟨il, im, e1, _, e3, _, c1, c2⟩ := hc
        rw [hqi] at e1; cases e1
        rw [hqi'] at e3; cases e3
        have : (decide ((loopAt i' q').At ≥ (loopAt i q).Head) && decide ((loopAt i' q').Head < (loopAt i q).Head)) = true := by
          have a1 : (loopAt i' q').At = q' := rfl
          have a2 : (loopAt i q).Head = q - i.D := rfl
          have a3 : (loopAt i' q').Head = q' - i'.D := rfl
          simp only [a1, a2, a3, Bool.and_eq_true, decide_eq_true_eq]; exact ⟨c1, c2⟩
        simp only [this]; rfl
      · rw [pick_f hc]
        have : (decide ((loopAt i' q').At ≥ (loopAt i q).Head) && decide ((loopAt i' q').Head < (loopAt i q).Head)) = false := by
          cases h : (decide ((loopAt i' q').At ≥ (loopAt i q).Head) && decide ((loopAt i' q').Head < (loopAt i q).Head)) with
          | false => rfl
          | true =>
            exfalso; apply hc
            have a1 : (loopAt i' q').At = q' := rfl
            have a2 : (loopAt i q).Head = q - i.D := rfl
            have a3 : (loopAt i' q').Head = q' - i'.D := rfl
            simp only [a1, a2, a3, Bool.and_eq_true, decide_eq_true_eq] at h
            exact ⟨i, i', hqi, hop, hqi', hop', h.1, h.2⟩
        simp only [this]; rfl
    simp only [idxN hk, hi, hx, Option.bind_some, cut_pre (Nat.le_of_lt hk), htl, inner]
    have e : ((loopAt i q).At).toNat = q := by simp [loopAt]
    rw [e]
    cases hf : findN (fun m => match ls[m]? with | some l => pick (Crs code q l.At.toNat) ((q : Int), (31 : Int)) | none => none) k 0 with
    | some v =>
      obtain ⟨m, _, h2, h3, _⟩ := findN_some hf
      have hml : m < ls.length := by omega
      have hy := List.getElem?_eq_getElem hml
      rw [hy] at h3
      obtain ⟨hcr, rfl⟩ := pick_some h3
      have hlt := (sorted_lt hs hy hx).2 (by omega)
      obtain ⟨q', i', hq', hqi', hop', e'⟩ := mem.1 (List.mem_of_getElem? hy)
      rw [e'] at hcr hlt
      rw [pick_t ⟨q', by simp [loopAt] at hlt; omega, by simpa [loopAt] using hcr⟩]
      rfl
    | none =>
      have h0 := findN_none hf
      rw [pick_f]
      · rfl
      · rintro ⟨m, hm, hcr⟩
        obtain ⟨il, im, e1, _, e3, e4, c1, c2⟩ := id hcr
        have hmem := mem.2 ⟨m, im, by omega, e3, e4, rfl⟩
        obtain ⟨j, hj, hje⟩ := List.mem_iff_getElem.1 hmem
        have hy := List.getElem?_eq_getElem hj
        rw [hje] at hy
        have hlt := (sorted_lt hs hy hx).1 (by simp [loopAt]; omega)
        have := h0 j (by omega) (by omega)
        rw [hy] at this
        exact pick_none this (by simpa [loopAt] using hcr)
  cases hf : findN (fun k => match ls[k]? with | some l => pick (Cr code l.At.toNat) (l.At, (31 : Int)) | none => none) ls.length 0 with
  | none =>
    refine ⟨none, fun q hq hc => ?_, by rw [main, hf]; rfl⟩
    obtain ⟨m, hm, il, im, e1, e2, _⟩ := id hc
    obtain ⟨j, hj, hje⟩ := List.mem_iff_getElem.1 (mem.2 ⟨q, il, hq, e1, e2, rfl⟩)
    have := findN_none hf j (by omega) (by omega)
    rw [List.getElem?_eq_getElem hj, hje] at this
    exact pick_none this (by simpa [loopAt] using hc)
  | some v =>
    obtain ⟨k, _, h2, h3, h4⟩ := findN_some hf
    have hk : k < ls.length := by omega
    have hx := List.getElem?_eq_getElem hk
    rw [hx] at h3
    obtain ⟨hc, rfl⟩ := pick_some h3
    obtain ⟨q, i, hq, hqi, hop, e⟩ := mem.1 (List.mem_of_getElem? hx)
    refine ⟨some q, ⟨hq, ?_, fun q' hq' hc' => ?_⟩, ?_⟩
    · rw [e] at hc; simpa [loopAt] using hc
    · obtain ⟨m, hm, il, im, e1, e2, _⟩ := id hc'
      obtain ⟨j, hj, hje⟩ := List.mem_iff_getElem.1 (mem.2 ⟨q', il, by omega, e1, e2, rfl⟩)
      have hy := List.getElem?_eq_getElem hj
      have hlt := (sorted_lt hs hy hx).1 (by rw [hje, e]; simp [loopAt]; omega)
      have := h4 j (by omega) hlt
      rw [hy, hje] at this
      exact pick_none this (by simpa [loopAt] using hc')
    · rw [main, hf, e]; rfl

def En (code : List api_Inst) (p : Nat) : Prop := ∃ i, code[p]? = some i ∧ (goesB i).2.1 = true ∧ 0 < (goesB i).1 ∧ ∃ a ia t, a < code.length ∧ code[a]? = some ia ∧ ia.Op = 20 ∧ (t : Nat) = (p : Int) + (goesB i).1 ∧ covers code t a = true ∧ covers code p a = false ∧ (t : Int) ≠ a - ia.D
theorem nested2 {code : List api_Inst} (hn : code.length ≤ 64) (hD : Fine code) :
    forN (flow_nested_l3 code (lps code code.length)) (fun _ => (.inl ())) code.length 0 () = some (sumOf (findN (fun p => pick (En code p) ((p : Int), (31 : Int))) code.length 0)) := by
  refine search0 _ (N := code.length) ?_
  intro p again hp
  have hx := List.getElem?_eq_getElem hp
  generalize hi : code[p] = x at hx
  have hg := goes_small x
  have e1 : w64 ((p : Int) + (goesB x).1) = p + (goesB x).1 := w64_eq (by omega) (by omega)
  have hl := lps_len code code.length
  have inner : forN (flow_nested_l4 (lps code code.length) p (goesB x)) (fun _ => (.inl ())) (lps code code.length).length 0 () =
      some (sumOf (findN (fun k => match (lps code code.length)[k]? with | some l => pick ((goesB x).2.1 = true ∧ 0 < (goesB x).1 ∧ ¬ (l.Head ≤ p ∧ (p : Int) ≤ l.At) ∧ (l.Head ≤ p + (goesB x).1 ∧ p + (goesB x).1 ≤ l.At) ∧ p + (goesB x).1 ≠ l.Head) ((p : Int), (31 : Int)) | none => none) (lps code code.length).length 0)) := by
    refine search0 _ (N := (lps code code.length).length) ?_
    intro k again hk
    have hy := List.getElem?_eq_getElem hk
    generalize hj : (lps code code.length)[k] = y at hy
    unfold flow_nested_l4
    simp only [idxN hk, hj, hy, Option.bind_some, flow_in, e1]
    by_cases hc : ((goesB x).2.1 = true ∧ 0 < (goesB x).1 ∧ ¬ (y.Head ≤ p ∧ (p : Int) ≤ y.At) ∧ (y.Head ≤ p + (goesB x).1 ∧ p + (goesB x).1 ≤ y.At) ∧ p + (goesB x).1 ≠ y.Head)
    · rw [pick_t hc]
      obtain ⟨c1, c2, c3, c4, c5⟩ := hc
      have d1 : (decide ((p : Int) ≥ y.Head) && decide ((p : Int) ≤ y.At)) = false := by
        cases h : (decide ((p : Int) ≥ y.Head) && decide ((p : Int) ≤ y.At)) with
        | false => rfl
        | true => exfalso; apply c3; simp at h; omega
      have d2 : (decide ((p : Int) + (goesB x).1 ≥ y.Head) && decide ((p : Int) + (goesB x).1 ≤ y.At)) = true := by simp; omega
      have d3 : decide ((goesB x).1 > 0) = true := by simp; omega
      have d4 : ((p : Int) + (goesB x).1 != y.Head) = true := by simp; omega
      simp only [c1, d1, d2, d3, d4]; rfl
    · rw [pick_f hc]
      rcases Bool.eq_false_or_eq_true (goesB x).2.1 with c1 | c1
      · rcases Bool.eq_false_or_eq_true (decide ((goesB x).1 > 0)) with d3 | d3
        · rcases Bool.eq_false_or_eq_true (decide ((p : Int) ≥ y.Head) && decide ((p : Int) ≤ y.At)) with d1 | d1
          · simp only [c1, d3, d1]; rfl
          · rcases Bool.eq_false_or_eq_true (decide ((p : Int) + (goesB x).1 ≥ y.Head) && decide ((p : Int) + (goesB x).1 ≤ y.At)) with d2 | d2
            · rcases Bool.eq_false_or_eq_true ((p : Int) + (goesB x).1 != y.Head) with d4 | d4
              · exfalso; apply hc
                simp at d1 d2 d3 d4
                exact ⟨c1, d3, by omega, by omega, d4⟩
              · simp only [c1, d3, d1, d2, d4]; rfl
            · simp only [c1, d3, d1, d2]; rfl
        · simp only [c1, d3]; rfl
      · simp only [c1]; rfl
  unfold flow_nested_l3
  simp only [idxN hp, hi, Option.bind_some, opsGoes_eq, inner]
  cases hf : findN (fun k => match (lps code code.length)[k]? with | some l => pick ((goesB x).2.1 = true ∧ 0 < (goesB x).1 ∧ ¬ (l.Head ≤ p ∧ (p : Int) ≤ l.At) ∧ (l.Head ≤ p + (goesB x).1 ∧ p + (goesB x).1 ≤ l.At) ∧ p + (goesB x).1 ≠ l.Head) ((p : Int), (31 : Int)) | none => none) (lps code code.length).length 0 with
  | some v =>
    obtain ⟨k, _, h2, h3, _⟩ := findN_some hf
    have hk : k < (lps code code.length).length := by omega
    have hy := List.getElem?_eq_getElem hk
    rw [hy] at h3
    obtain ⟨⟨c1, c2, c3, c4, c5⟩, rfl⟩ := pick_some h3
    obtain ⟨q, i, hq, hqi, hop, e⟩ := mem_lps.1 (List.mem_of_getElem? hy)
    rw [e] at c3 c4 c5
    simp only [loopAt] at c3 c4 c5
    have hpos : 0 ≤ (p : Int) + (goesB x).1 := by omega
    have hcv : covers code p q = false := by
      cases hcv : covers code p q with
      | false => rfl
      | true => exfalso; apply c3; have := (covers_iff hqi hop).1 hcv; omega
    have hE : En code p := ⟨x, hx, c1, c2, q, i, ((p : Int) + (goesB x).1).toNat, hq, hqi, hop, by omega, (covers_iff hqi hop).2 (by omega), hcv, by omega⟩
    rw [pick_t hE]
    rfl
  | none =>
    have h0 := findN_none hf
    rw [pick_f]
    · rfl
    · rintro ⟨i', hi', c1, c2, a, ia, t, ha, hia, hop, ht, v1, v2, v3⟩
      rw [hx] at hi'; cases hi'
      obtain ⟨j, hj, hje⟩ := List.mem_iff_getElem.1 (mem_lps.2 ⟨a, ia, ha, hia, hop, rfl⟩ : loopAt ia a ∈ lps code code.length)
      have := h0 j (by omega) (by omega)
      rw [List.getElem?_eq_getElem hj, hje] at this
      refine pick_none this ⟨c1, c2, ?_, ?_, ?_⟩
      · intro hh
        simp only [loopAt] at hh
        have := (covers_iff hia hop).2 (show (a : Int) - ia.D ≤ p ∧ p ≤ a by omega)
        rw [v2] at this; cases this
      · have := (covers_iff hia hop).1 v1
        simp only [loopAt]; omega
      · simp only [loopAt]; omega
def times (code : List api_Inst) (p : Nat) : Nat → Int
  | 0 => 1
  | k + 1 => match code[k]? with
    | some i => if covers code p k then times code p k * (i.Imm + 1) else times code p k
    | none => times code p k
def sumT (code : List api_Inst) : Nat → Int
  | 0 => 0
  | k + 1 => sumT code k + times code k code.length
theorem covers_op {code : List api_Inst} {p a : Nat} {i : api_Inst} (hi : code[a]? = some i) (h : covers code p a = true) : i.Op = 20 := by
  unfold covers at h; rw [hi] at h; simp at h; exact h.1.1
theorem times_pos {code : List api_Inst} (hD : Fine code) (p : Nat) : ∀ k, 1 ≤ times code p k
  | 0 => by simp [times]
  | k + 1 => by
    have ih := times_pos hD p k
    unfold times
    split
    · rename_i i hi
      split
      · rename_i hc
        have hd := hD.loop hi (covers_op hi hc)
        have : 1 * 1 ≤ times code p k * (i.Imm + 1) := Int.mul_le_mul ih (by omega) (by omega) (by omega)
        omega
      · exact ih
    · exact ih
theorem sumT_nonneg {code : List api_Inst} (hD : Fine code) : ∀ k : Nat, (k : Int) ≤ sumT code k
  | 0 => by simp [sumT]
  | k + 1 => by
    have := sumT_nonneg hD k
    have h2 := times_pos hD k code.length
    unfold sumT
    omega
theorem sumT_succ (code : List api_Inst) (k : Nat) : sumT code (k + 1) = sumT code k + times code k code.length := rfl
def mn (x : Int) : Int := if x ≤ 257 then x else 257
theorem mn_mul {x b : Int} (hx : 1 ≤ x) (hb : 1 ≤ b) : mn (mn x * b) = mn (x * b) := by
  unfold mn
  by_cases h : x ≤ 257
  · rw [if_pos h]
  · rw [if_neg h]
    have h1 : 257 * 1 ≤ 257 * b := Int.mul_le_mul_of_nonneg_left hb (by decide)
    have h2 : 258 * 1 ≤ x * b := Int.mul_le_mul (by omega) hb (by decide) (by omega)
    by_cases h3 : (257 : Int) * b ≤ 257
    · rw [if_pos h3, if_neg (by omega)]; omega
    · rw [if_neg h3, if_neg (by omega)]
theorem mn_add {a b : Int} (ha : 0 ≤ a) (hb : 0 ≤ b) : mn (mn a + mn b) = mn (a + b) := by
  unfold mn; (repeat' split) <;> omega
theorem imin_mn (x : Int) : imin x 257 = mn x := by unfold imin mn; split <;> split <;> omega
theorem mn_le (x : Int) : mn x ≤ 257 ∧ mn x ≤ x := by unfold mn; split <;> omega
def prodL (p : Int) : List api_Loop → Int → Int
  | [], s => s
  | l :: r, s => prodL p r (if decide (p ≥ l.Head) && decide (p ≤ l.At) then s * (l.Bound + 1) else s)
theorem prodL_append (p : Int) (l : List api_Loop) : ∀ (a : List api_Loop) (s : Int), prodL p (a ++ l) s = prodL p l (prodL p a s)
  | [], s => rfl
  | x :: r, s => by simp only [List.cons_append, prodL]; exact prodL_append p l r _
theorem prodL_times (code : List api_Inst) (p : Nat) : ∀ k, prodL p (lps code k) 1 = times code p k
  | 0 => rfl
  | k + 1 => by
    have ih := prodL_times code p k
    unfold lps times
    cases hk : code[k]? with
    | none => exact ih
    | some i =>
      simp only
      by_cases ho : i.Op = 20
      · rw [if_pos (by simp [ho]), prodL_append, ih]
        simp only [prodL, loopAt]
        have : covers code p k = (decide ((p : Int) ≥ (k : Int) - i.D) && decide ((p : Int) ≤ k)) := by
          rw [Bool.eq_iff_iff, covers_iff hk ho]; simp
        rw [this]
        rfl
      · rw [if_neg (by simp [ho])]
        have : covers code p k = false := by simp [covers, hk, ho]
        simp [this, ih]
theorem cost2 {code : List api_Inst} (hn : code.length ≤ 64) (hD : Fine code) (p : Nat) :
    forN (flow_cost_l2 (lps code code.length) p) (fun (s : Int) => s) (lps code code.length).length 0 1 = some (mn (times code p code.length)) := by
  have hbound : ∀ (k : Nat) (l : api_Loop), (lps code code.length)[k]? = some l → 1 ≤ l.Bound ∧ l.Bound ≤ 255 := by
    intro k l hl
    obtain ⟨q, i, _, h2, h3, rfl⟩ := mem_lps.1 (List.mem_of_getElem? hl)
    have := hD.loop h2 h3
    simp only [loopAt]; omega
  rw [← prodL_times code p code.length]
  generalize lps code code.length = ls at hbound
  refine OK.is ?_
  refine OK.count (fun (i : Nat) (s : Int) => s = mn (prodL p (ls.take i) 1) ∧ 1 ≤ prodL p (ls.take i) 1) ⟨by simp [prodL, mn], by simp [prodL]⟩ ?_ (fun s h => by rw [h.1]; simp)
  intro i s again hi ⟨hs, h1⟩ k
  unfold flow_cost_l2
  refine OK.bind (OK.getN hi (fun x hx => ?_))
  have hb := hbound i x hx
  have htake : ls.take (i + 1) = ls.take i ++ [x] := by
    rw [List.take_add_one, hx]; rfl
  simp only [flow_in, Option.bind_some]
  have hmn := mn_le (prodL p (ls.take i) 1)
  have hs1 : 1 ≤ s := by rw [hs]; unfold mn; split <;> omega
  refine OK.ite (fun hc => ?_) (fun hc => ?_)
  · have e1 : w64 (x.Bound + 1) = x.Bound + 1 := w64_eq (by omega) (by omega)
    have m1 : s * (x.Bound + 1) ≤ 257 * 256 := Int.mul_le_mul (by omega) (by omega) (by omega) (by omega)
    have m0 : 0 ≤ s * (x.Bound + 1) := Int.mul_nonneg (by omega) (by omega)
    have e2 : w64 (s * (x.Bound + 1)) = s * (x.Bound + 1) := w64_eq (by omega) (by omega)
    rw [e1, e2, imin_mn]
    refine k _ ⟨?_, ?_⟩
    · rw [htake, prodL_append]
      simp only [prodL, hc, if_true]
      rw [hs, mn_mul h1 (by omega)]
    · rw [htake, prodL_append]
      simp only [prodL, hc, if_true]
      have : 1 * 1 ≤ prodL p (ls.take i) 1 * (x.Bound + 1) := Int.mul_le_mul h1 (by omega) (by omega) (by omega)
      omega
  · refine k _ ⟨?_, ?_⟩
    · rw [htake, prodL_append]
      simp only [prodL, hc]
      exact hs
    · rw [htake, prodL_append]
      simp only [prodL, hc]
      exact h1
theorem flowCost {code : List api_Inst} (hn : code.length ≤ 64) (hD : Fine code) : flow_cost code = some (mn (sumT code code.length)) := by
  unfold flow_cost
  rw [loops_eq hn hD]
  simp only [Option.bind_some]
  refine OK.is ?_
  refine OK.bind2 (R := fun y => y = mn (sumT code code.length)) ?_ (fun x hx => OK.ret hx)
  refine OK.count (fun (i : Nat) (s : Int) => s = mn (sumT code i)) (by simp [sumT, mn]) ?_ (fun s h => h)
  intro i s again hi hs k
  subst hs
  unfold flow_cost_l1
  rw [cost2 hn hD i]
  simp only [Option.bind_some]
  have h1 := mn_le (times code i code.length)
  have h2 := mn_le (sumT code i)
  have h3 := times_pos hD i code.length
  have h4 := sumT_nonneg hD i
  have p1 : 1 ≤ mn (times code i code.length) := by unfold mn; split <;> omega
  have p2 : 0 ≤ mn (sumT code i) := by unfold mn; split <;> omega
  rw [w64_eq (by omega) (by omega), imin_mn]
  refine k _ ?_
  rw [sumT_succ, mn_add (by omega) (by omega)]
end Go.Proofs.YtkgajppghpmkbaaDoor

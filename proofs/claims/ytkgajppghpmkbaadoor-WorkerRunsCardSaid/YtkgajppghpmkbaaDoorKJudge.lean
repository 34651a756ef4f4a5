/- The judge: what its functions keep. -/
import Derived.Test.YtkgajppghpmkbaaDoorKSpan2
set_option linter.unusedVariables false
set_option linter.unusedSimpArgs false
namespace Go.Proofs.YtkgajppghpmkbaaDoor
open Go.Sx

def zeroT : api_Type := ⟨0, ⟨0, 0⟩, 0⟩
def WT (n : Nat) (x : api_Type) : Prop := x = zeroT ∨ (x.Kind = 1 ∧ SW x.Span ∧ x.Map = 0) ∨ (x.Kind = 2 ∧ x.Span = ⟨0, 0⟩ ∧ 0 ≤ x.Map ∧ x.Map < n)
theorem WT.span {n : Nat} {x : api_Type} (h : WT n x) : SW x.Span := by
  rcases h with rfl | h | h
  · exact SW.zero
  · exact h.2.1
  · rw [h.2.1]; exact SW.zero
theorem WT.num {n : Nat} {s : api_Span} (h : SW s) : WT n ⟨1, s, 0⟩ := .inr (.inl ⟨rfl, h, rfl⟩)
theorem WT.zero {n : Nat} : WT n zeroT := .inl rfl
theorem number_eq (s : api_Span) : judge_number s = some ⟨1, s, 0⟩ := rfl
theorem right_t {s : api_Span} (h : SW s) : span_Right s = some true := by rw [span_right, decide_eq_true h.2.1]
theorem SW.join {a b : api_Span} (ha : SW a) (hb : SW b) : SW ⟨imin (imin 18446744073709551615 a.Lo) b.Lo, imax (imax 0 a.Hi) b.Hi⟩ := by
  obtain ⟨a0, a1, a2⟩ := ha
  obtain ⟨b0, b1, b2⟩ := hb
  unfold imin imax
  refine ⟨?_, ?_, ?_⟩ <;> simp only <;> (repeat' split) <;> omega
theorem join_eq {a b : api_Span} (ha : SW a) (hb : SW b) : span_Join [a, b] = some (⟨imin (imin 18446744073709551615 a.Lo) b.Lo, imax (imax 0 a.Hi) b.Hi⟩, true) := by
  unfold span_Join
  simp [forN, span_Join_l1, idx, right_t ha, right_t hb]
def joinT (a b : api_Type) : api_Type :=
  if (a.Kind != b.Kind) || (a.Map != b.Map) then zeroT
  else if a.Kind == 1 then ⟨1, ⟨imin (imin 18446744073709551615 a.Span.Lo) b.Span.Lo, imax (imax 0 a.Span.Hi) b.Span.Hi⟩, 0⟩
  else a
theorem joined_eq {a b : api_Type} (ha : SW a.Span) (hb : SW b.Span) : judge_joined a b = some (joinT a b) := by
  unfold judge_joined joinT
  rw [join_eq ha hb]
  split
  · rfl
  · split <;> rfl
theorem WT.join {n : Nat} {a b : api_Type} (ha : WT n a) (hb : WT n b) : WT n (joinT a b) := by
  unfold joinT
  split
  · exact WT.zero
  · split
    · exact WT.num (SW.join ha.span hb.span)
    · exact ha
theorem meet_eq {a b : api_Span} (ha : SW a) (hb : SW b) : span_Meet [a, b] = some (if imax (imax 0 a.Lo) b.Lo ≤ imin (imin 18446744073709551615 a.Hi) b.Hi then (⟨imax (imax 0 a.Lo) b.Lo, imin (imin 18446744073709551615 a.Hi) b.Hi⟩, true) else (⟨0, 0⟩, false)) := by
  unfold span_Meet
  simp only [full_eq, Option.bind_some]
  by_cases h : imax (imax 0 a.Lo) b.Lo ≤ imin (imin 18446744073709551615 a.Hi) b.Hi
  · simp [forN, span_Meet_l1, idx, Int.not_lt.2 ha.2.1, Int.not_lt.2 hb.2.1, span_right, h]
  · simp [forN, span_Meet_l1, idx, Int.not_lt.2 ha.2.1, Int.not_lt.2 hb.2.1, span_right, h]
theorem meet_ok {a b : api_Span} (ha : SW a) (hb : SW b) : OK (span_Meet [a, b]) (fun r => SW r.1) := by
  refine ⟨_, meet_eq ha hb, ?_⟩
  obtain ⟨a0, a1, a2⟩ := ha
  obtain ⟨b0, b1, b2⟩ := hb
  split
  · rename_i h
    refine ⟨?_, h, ?_⟩
    · show 0 ≤ imax (imax 0 a.Lo) b.Lo
      unfold imax; (repeat' split) <;> omega
    · show imin (imin 18446744073709551615 a.Hi) b.Hi < _
      unfold imin; (repeat' split) <;> omega
  · exact SW.zero
theorem holds_ok (op a b : Int) : OK (arith_Holds op a b) (fun r => r.2 = inB op 16 19) := by
  unfold arith_Holds
  have q : ∀ k : Int, 16 ≤ k → k ≤ 19 → (op == k) = true → true = inB op 16 19 := by
    intro k h1 h2 h3
    have : op = k := by simpa using h3
    subst this; simp [inB, h1, h2]
  refine OK.ite (fun h => OK.ret (q 16 (by omega) (by omega) h)) (fun n1 => ?_)
  refine OK.ite (fun h => OK.ret (q 17 (by omega) (by omega) h)) (fun n2 => ?_)
  refine OK.ite (fun h => OK.ret (q 18 (by omega) (by omega) h)) (fun n3 => ?_)
  refine OK.ite (fun h => OK.ret (q 19 (by omega) (by omega) h)) (fun n4 => OK.ret ?_)
  simp only [beq_eq_false_iff_ne, ne_eq] at n1 n2 n3 n4
  show false = _
  rw [Eq.comm, inB, Bool.and_eq_false_iff]
  simp only [decide_eq_false_iff_not]
  omega
theorem refine_ok {op : Int} {a b : api_Span} {h : Bool} (ha : SW a) (hb : SW b) : OK (span_Refine op a b h) (fun r => SW r.1) := by
  obtain ⟨a0, a1, a2⟩ := id ha
  obtain ⟨b0, b1, b2⟩ := id hb
  unfold span_Refine
  refine OK.bind2 (holds_ok op 0 0) (fun r hr => ?_)
  simp only [right_t ha, right_t hb, Option.bind_some]
  refine OK.bind2 (R := fun _ => True) (OK.ite (fun _ => OK.ret trivial) (fun _ => OK.ite (fun _ => OK.ret trivial) (fun _ => OK.ret trivial))) (fun o _ => ?_)
  refine OK.ite (fun _ => OK.ret SW.zero) (fun _ => ?_)
  unfold span_single
  simp only [Option.bind_some]
  refine OK.ite (fun _ => OK.ret ha) (fun hs => ?_)
  have hs : b.Lo = b.Hi := by simpa using hs
  refine OK.bind2 (R := fun _ => True) (OK.ite (fun _ => OK.ret trivial) (fun _ => OK.ite (fun _ => OK.ret trivial) (fun _ => OK.ret trivial))) (fun o _ => ?_)
  refine OK.ite (fun _ => OK.ite (fun _ => OK.ret SW.zero) (fun hz => ?_)) (fun _ => ?_)
  · have hz : b.Lo ≠ 0 := by simpa using hz
    refine OK.bind2 (meet_ok ha ?_) (fun x hx => OK.ret hx)
    rw [wu64_eq (by omega) (by omega)]
    exact ⟨by simp, by simp; omega, by simp; omega⟩
  refine OK.bind2 (R := fun _ => True) (OK.ite (fun _ => OK.ret trivial) (fun _ => OK.ret trivial)) (fun o _ => ?_)
  refine OK.ite (fun _ => OK.bind2 (meet_ok ha ⟨b0, by simp; omega, by simp⟩) (fun x hx => OK.ret hx)) (fun _ => ?_)
  refine OK.bind2 (R := fun _ => True) (OK.ite (fun _ => OK.ret trivial) (fun _ => OK.ite (fun _ => OK.ret trivial) (fun _ => OK.ret trivial))) (fun o _ => ?_)
  refine OK.ite (fun _ => OK.bind2 (meet_ok ha hb) (fun x hx => OK.ret hx)) (fun _ => ?_)
  refine OK.ite (fun _ => OK.ret SW.zero) (fun hne => ?_)
  have hne : ¬ (a.Lo = b.Lo ∧ a.Hi = b.Hi) := by
    rintro ⟨e1, e2⟩
    rw [e1, e2] at hne
    simp at hne
  refine OK.ite (fun h1 => OK.ret ?_) (fun h1 => ?_)
  · have h1 : a.Lo = b.Lo := by simpa using h1
    rw [wu64_eq (by omega) (by omega)]
    exact ⟨by simp; omega, by simp; omega, by simpa using a2⟩
  refine OK.ite (fun h2 => OK.ret ?_) (fun _ => OK.ret ha)
  have h1 : a.Lo ≠ b.Lo := by simpa using h1
  have h2 : a.Hi = b.Lo := by simpa using h2
  rw [wu64_eq (by omega) (by omega)]
  exact ⟨by simpa using a0, by simp; omega, by simp; omega⟩

theorem nums_ok (l : List api_Type) : OK (judge_nums l) (fun _ => True) := by
  unfold judge_nums
  refine OK.bind2 (OK.count (Q := fun _ => True) (fun _ _ => True) trivial (fun i s again hi _ k => ?_) (fun _ _ => trivial)) (fun o _ => ?_)
  · unfold judge_nums_l1
    exact OK.bind (OK.getN hi (fun x _ => OK.ite (fun _ => OK.ret trivial) (fun _ => k _ trivial)))
  · cases o <;> exact OK.ret trivial
theorem first_ok (l : List Int) : OK (judge_first l) (fun r => r = 0 → ∀ x ∈ l, x = 0) := by
  unfold judge_first
  refine OK.bind2 (OK.count (Q := fun o => match o with | .inl _ => ∀ x ∈ l, x = 0 | .inr r => r ≠ 0) (fun i _ => ∀ q x, q < i → l[q]? = some x → x = 0) (fun q x h => by omega) (fun i s again hi hI k => ?_) (fun _ hI => ?_)) (fun o ho => ?_)
  · unfold judge_first_l1
    refine OK.bind (OK.getN hi (fun x hx => OK.ite (fun h => OK.ret (by simpa using h)) (fun h => k _ (fun q y hq hy => ?_))))
    by_cases hqi : q < i
    · exact hI q y hqi hy
    · obtain rfl : q = i := by omega
      rw [hx] at hy; cases hy
      simpa using h
  · intro x hx
    obtain ⟨q, hq⟩ := List.mem_iff_getElem?.1 hx
    exact hI q x (List.getElem?_eq_some_iff.1 hq).1 hq
  · cases o with
    | inl _ => exact OK.ret (fun _ => ho)
    | inr r => exact OK.ret (fun h => absurd h ho)
theorem within_ok (a b : api_Span) : OK (span_Within a b) (fun r => r = true ↔ a.Lo ≤ a.Hi ∧ b.Lo ≤ a.Lo ∧ a.Hi ≤ b.Hi) := by
  unfold span_Within
  rw [span_right]
  simp only [Option.bind_some]
  refine OK.bind2 (R := fun r => r = true ↔ a.Lo ≤ a.Hi ∧ b.Lo ≤ a.Lo ∧ a.Hi ≤ b.Hi) ?_ (fun x hx => OK.ret hx)
  refine OK.ite (fun h1 => OK.ite (fun h2 => OK.ret ?_) (fun h2 => OK.ret ?_)) (fun h1 => OK.ret ?_)
  · simp at h1 h2 ⊢; omega
  · simp at h1 h2 ⊢; omega
  · simp at h1 ⊢; omega
def fitsB (a b : api_Type) : Prop := (b.Kind = 1 → a.Kind = 1 ∧ a.Span.Lo ≤ a.Span.Hi ∧ b.Span.Lo ≤ a.Span.Lo ∧ a.Span.Hi ≤ b.Span.Hi) ∧ (b.Kind = 2 → a = b)
theorem type_eq {a b : api_Type} (h : ((a.Kind == b.Kind) && (((a.Span.Lo == b.Span.Lo) && ((a.Span.Hi == b.Span.Hi) && true)) && ((a.Map == b.Map) && true))) = true) : a = b := by
  obtain ⟨k, ⟨l, h1⟩, m⟩ := a
  obtain ⟨k', ⟨l', h1'⟩, m'⟩ := b
  simp at h
  obtain ⟨rfl, ⟨rfl, rfl⟩, rfl⟩ := h
  rfl
theorem fits_ok (a b : api_Type) : OK (judge_fits a b) (fun r => r = true → fitsB a b) := by
  unfold judge_fits
  refine OK.ite (fun h1 => ?_) (fun h1 => OK.ite (fun h2 => OK.ret ?_) (fun h2 => OK.ret ?_))
  · have h1 : b.Kind = 1 := by simpa using h1
    refine OK.bind2 (R := fun r => r = true → fitsB a b) ?_ (fun x hx => OK.ret hx)
    refine OK.ite (fun h2 => OK.bind2 (within_ok _ _) (fun x hx => OK.ret (fun e => ⟨fun _ => ⟨by simpa using h2, hx.1 e⟩, fun e2 => by omega⟩))) (fun _ => OK.ret (fun e => by cases e))
  · intro h
    have h1 : b.Kind ≠ 1 := by simpa using h1
    exact ⟨fun e => absurd e h1, fun _ => type_eq h⟩
  · intro _
    have h1 : b.Kind ≠ 1 := by simpa using h1
    have h2 : b.Kind ≠ 2 := by simpa using h2
    exact ⟨fun e => absurd e h1, fun e => absurd e h2⟩
theorem word_ok (t : api_Type) : OK (judge_word t) (fun _ => True) := by
  unfold judge_word
  exact OK.bind2 (within_ok _ _) (fun x _ => OK.ite (fun _ => OK.ret trivial) (fun _ => OK.ret trivial))

theorem right_D {i : api_Inst} (h : rightB i = true) (ho : ¬ (15 ≤ i.Op ∧ i.Op ≤ 20)) : 0 ≤ i.D ∧ i.D < 8 := by
  unfold rightB at h
  simp only [inB, regB] at h
  simp only [Bool.and_eq_true, Bool.or_eq_true, decide_eq_true_eq, beq_iff_eq] at h
  iterate 11 (all_goals (try split at h))
  all_goals simp only [Bool.and_eq_true, Bool.or_eq_true, decide_eq_true_eq, beq_iff_eq, Bool.false_eq_true] at h
  all_goals omega
theorem right_A {i : api_Inst} (h : rightB i = true) : 0 ≤ i.A ∧ i.A < 8 := by
  unfold rightB at h
  simp only [inB, regB] at h
  simp only [Bool.and_eq_true, Bool.or_eq_true, decide_eq_true_eq, beq_iff_eq] at h
  iterate 11 (all_goals (try split at h))
  all_goals simp only [Bool.and_eq_true, Bool.or_eq_true, decide_eq_true_eq, beq_iff_eq, Bool.false_eq_true] at h
  all_goals omega
theorem right_op {i : api_Inst} (h : rightB i = true) : 0 ≤ i.Op ∧ i.Op ≤ 22 := by
  unfold rightB at h
  simp only [inB, regB] at h
  simp only [Bool.and_eq_true, Bool.or_eq_true, decide_eq_true_eq, beq_iff_eq] at h
  iterate 11 (all_goals (try split at h))
  all_goals simp only [Bool.and_eq_true, Bool.or_eq_true, decide_eq_true_eq, beq_iff_eq, Bool.false_eq_true] at h
  all_goals omega
theorem right_src {i : api_Inst} (h : rightB i = true) (ho : i.Op ≤ 12 ∨ (16 ≤ i.Op ∧ i.Op ≤ 19)) : i.B = 8 ∨ (0 ≤ i.B ∧ i.B < 8) := by
  unfold rightB at h
  simp only [inB, regB, srcB] at h
  simp only [Bool.and_eq_true, Bool.or_eq_true, decide_eq_true_eq, beq_iff_eq] at h
  iterate 11 (all_goals (try split at h))
  all_goals simp only [Bool.and_eq_true, Bool.or_eq_true, decide_eq_true_eq, beq_iff_eq, Bool.false_eq_true] at h
  all_goals omega
theorem right_imm {i : api_Inst} (h : rightB i = true) (ho : i.Op = 21) : 0 ≤ i.Imm ∧ i.Imm ≤ 6 := by
  unfold rightB at h
  simp only [inB, regB] at h
  simp [ho] at h
  omega
theorem right_imm14 {i : api_Inst} (h : rightB i = true) (ho : i.Op = 14) : 0 ≤ i.Imm ∧ i.Imm ≤ 3 := by
  unfold rightB at h
  simp only [inB, regB] at h
  simp [ho] at h
  omega
theorem ain8 {t : Int} (h0 : 0 ≤ t) (h1 : t < 8) : ain 8 t = some t.toNat := by unfold ain; rw [if_pos ⟨h0, by omega⟩]
theorem ainN {i n : Nat} (h : i < n) : ain n (i : Int) = some i := by unfold ain; rw [if_pos ⟨by omega, by omega⟩]; simp
theorem forms_ok (op : Int) (h0 : 0 ≤ op) (h1 : op < 23) : ∃ f, ops_of op = some (f, true) ∧ ops_form_uses f 100 = some (decide (op ≤ 11) || decide (op = 13) || decide (op = 14)) ∧ ops_form_uses f 115 = some (decide (op ≤ 12) || (decide (16 ≤ op) && decide (op ≤ 19))) := by
  have h : ∀ k : Fin 23, ∃ f, ops_of ((k : Nat) : Int) = some (f, true) ∧ ops_form_uses f 100 = some (decide (((k : Nat) : Int) ≤ 11) || decide (((k : Nat) : Int) = 13) || decide (((k : Nat) : Int) = 14)) ∧ ops_form_uses f 115 = some (decide (((k : Nat) : Int) ≤ 12) || (decide (16 ≤ ((k : Nat) : Int)) && decide (((k : Nat) : Int) ≤ 19))) := by
    intro k
    have hk : ∃ f, ops_of ((k : Nat) : Int) = some (f, true) := by
      obtain ⟨f, hf, _⟩ := uses_eq ((k : Nat) : Int) (by omega) (by omega)
      exact ⟨f, hf⟩
    obtain ⟨f, hf⟩ := hk
    have key : ∀ k : Fin 23, ((ops_of ((k : Nat) : Int)).bind fun r => ops_form_uses r.1 100) = some (decide (((k : Nat) : Int) ≤ 11) || decide (((k : Nat) : Int) = 13) || decide (((k : Nat) : Int) = 14)) ∧ ((ops_of ((k : Nat) : Int)).bind fun r => ops_form_uses r.1 115) = some (decide (((k : Nat) : Int) ≤ 12) || (decide (16 ≤ ((k : Nat) : Int)) && decide (((k : Nat) : Int) ≤ 19))) := by decide +kernel
    have := key k
    rw [hf] at this
    exact ⟨f, hf, this.1, this.2⟩
  obtain ⟨n, rfl⟩ := Int.eq_ofNat_of_zero_le h0
  exact h ⟨n, by omega⟩
theorem writes_ok {i : api_Inst} (h : rightB i = true) : OK (ops_Writes i) (fun r => r.2 = true → 0 ≤ r.1 ∧ r.1 < 8) := by
  have ho := right_op h
  obtain ⟨f, h1, h2, _⟩ := forms_ok i.Op ho.1 (by omega)
  unfold ops_Writes
  simp only [opsRight_eq, h, h1, h2, Option.bind_some]
  refine OK.ite (fun e => by cases e) (fun _ => OK.ite (fun e => OK.ret (fun _ => right_D h (by simp at e; omega))) (fun _ => OK.ret (fun _ => by simp)))
theorem writes_false {i : api_Inst} (h : rightB i = false) : OK (ops_Writes i) (fun r => r.2 = true → 0 ≤ r.1 ∧ r.1 < 8) := by
  unfold ops_Writes
  simp only [opsRight_eq, h, Option.bind_some]
  exact OK.ret (by simp)
theorem source_eq {i : api_Inst} (h : rightB i = true) : ops_Source i = some (decide (i.Op ≤ 12) || (decide (16 ≤ i.Op) && decide (i.Op ≤ 19))) := by
  have ho := right_op h
  obtain ⟨f, h1, _, h2⟩ := forms_ok i.Op ho.1 (by omega)
  unfold ops_Source
  simp only [opsRight_eq, h, h1, h2, Option.bind_some]
  rfl
def srcT (i : api_Inst) (k : Nat → api_Type) : api_Type := if i.B == 8 then ⟨1, ⟨wu64 i.Imm, wu64 i.Imm⟩, 0⟩ else k i.B.toNat
theorem src_eq {i : api_Inst} {k : Nat → api_Type} (h : i.B = 8 ∨ (0 ≤ i.B ∧ i.B < 8)) : judge_source i k = some (srcT i k) := by
  unfold judge_source srcT
  rcases Bool.eq_false_or_eq_true (i.B == 8) with e | e
  · rw [if_pos e, if_pos e]; rfl
  · have : i.B ≠ 8 := by simpa using e
    rw [if_neg (by simp [e]), if_neg (by simp [e]), ain8 (by omega) (by omega)]; rfl
theorem srcT_ok {n : Nat} {i : api_Inst} {k : Nat → api_Type} (h : i.B = 8 ∨ (0 ≤ i.B ∧ i.B < 8)) (hk : ∀ r, r < 8 → WT n (k r)) : WT n (srcT i k) := by
  unfold srcT
  split
  · exact WT.num (SW.one (wu64_rng _).1 (wu64_rng _).2)
  · rename_i e
    have : i.B ≠ 8 := by simpa using e
    exact hk _ (by omega)

structure JI (m : api_Module) (j : judge_judge) : Prop where
  mod : j.Module = m
  lenC : j.came.length = m.Code.length
  lenA : j.any.length = m.Code.length
  lps : j.loops = lps m.Code m.Code.length
  wt : ∀ (q : Nat) (x : Nat → api_Type), j.came[q]? = some x → ∀ r, r < 8 → WT m.Maps.length (x r)
theorem idx_lt {α : Type} {xs : List α} {p : Nat} (h : p < xs.length) : ∃ x, xs[p]? = some x ∧ idx xs (p : Int) = some x := ⟨xs[p], List.getElem?_eq_getElem h, idxN h⟩
theorem set_ne {α : Type} {xs : List α} {p q : Nat} {v : α} (h : q ≠ p) : (xs.set p v)[q]? = xs[q]? := List.getElem?_set_ne (fun e => h e.symm)
theorem JI.put {m : api_Module} {j : judge_judge} (h : JI m j) {p : Nat} {x : Nat → api_Type} (hx : ∀ r, r < 8 → WT m.Maps.length (x r)) (A : List Bool) (hA : A.length = m.Code.length) : JI m ⟨j.Module, j.came.set p x, A, j.loops⟩ :=
  ⟨h.mod, by simpa using h.lenC, hA, h.lps, fun q y hy r hr => by
    simp only at hy
    by_cases hq : q = p
    · subst hq
      rw [List.getElem?_set] at hy
      simp at hy
      rw [← hy.2]; exact hx r hr
    · rw [set_ne hq] at hy
      exact h.wt q y hy r hr⟩
theorem aset_wt {n : Nat} {x : Nat → api_Type} (hx : ∀ r, r < 8 → WT n (x r)) {t : Nat} {v : api_Type} (hv : WT n v) : ∀ r, r < 8 → WT n (aset x t v r) := by
  intro r hr
  unfold aset
  split
  · exact hv
  · exact hx r hr
theorem come_ok {m : api_Module} {j : judge_judge} (h : JI m j) {p : Nat} (hp : p < m.Code.length) {k : Nat → api_Type} (hk : ∀ r, r < 8 → WT m.Maps.length (k r)) :
    OK (judge_judge_come j (p : Int) k) (fun j' => JI m j' ∧ j'.any = j.any.set p true ∧ ∀ q, q ≠ p → j'.came[q]? = j.came[q]?) := by
  unfold judge_judge_come
  obtain ⟨a, ha, ha2⟩ := idx_lt (xs := j.any) (p := p) (by rw [h.lenA]; exact hp)
  obtain ⟨c, hc, hc2⟩ := idx_lt (xs := j.came) (p := p) (by rw [h.lenC]; exact hp)
  simp only [ha2, hc2, Option.bind_some, Int.toNat_natCast]
  refine OK.ite (fun _ => OK.ret ⟨h.put hk _ (by simpa using h.lenA), rfl, fun q hq => set_ne hq⟩) (fun hn => ?_)
  have hat : a = true := by simpa using hn
  have hset : j.any.set p true = j.any := by
    apply List.ext_getElem?
    intro q
    by_cases hq : q = p
    · subst hq; rw [List.getElem?_set, ha, hat]; simp [h.lenA, hp]
    · exact set_ne hq
  refine OK.bind2 (OK.count (fun _ s => JI m s ∧ s.any = j.any.set p true ∧ ∀ q, q ≠ p → s.came[q]? = j.came[q]?) ⟨h, hset.symm, fun _ _ => rfl⟩ (fun i s again hi hI kk => ?_) (fun s hI => hI)) (fun o ho => OK.ret ho)
  unfold judge_judge_come_l1
  obtain ⟨c', hc', hc2'⟩ := idx_lt (xs := s.came) (p := p) (by rw [hI.1.lenC]; exact hp)
  have w1 := hI.1.wt p c' hc' i hi
  simp only [hc2', ainN hi, Option.bind_some, joined_eq w1.span (hk i hi).span, Int.toNat_natCast]
  exact kk _ ⟨hI.1.put (aset_wt (hI.1.wt p c' hc') (w1.join (hk i hi))) _ hI.1.lenA, hI.2.1, fun q hq => by rw [← hI.2.2 q hq]; exact set_ne hq⟩
theorem cut_ok {α : Type} {xs : List α} {lo hi : Nat} (h1 : lo ≤ hi) (h2 : hi ≤ xs.length) : cut xs (lo : Int) (hi : Int) = some ((xs.take hi).drop lo) := by
  unfold cut
  rw [if_pos ⟨by omega, by omega, by omega⟩]
  simp
theorem widen_ok {m : api_Module} {j : judge_judge} (h : JI m j) (hg : Good m.Code) {p : Nat} (hp : p < m.Code.length) :
    OK (judge_judge_widen j (p : Int)) (fun j' => JI m j' ∧ j'.any = j.any ∧ ∀ q, q ≠ p → j'.came[q]? = j.came[q]?) := by
  unfold judge_judge_widen
  refine OK.bind2 (OK.count (Q := fun j' => JI m j' ∧ j'.any = j.any ∧ ∀ q, q ≠ p → j'.came[q]? = j.came[q]?) (fun _ s => JI m ⟨j.Module, s, j.any, j.loops⟩ ∧ ∀ q, q ≠ p → s[q]? = j.came[q]?) ⟨⟨h.mod, h.lenC, h.lenA, h.lps, h.wt⟩, fun _ _ => rfl⟩ (fun i s again hi hI k => ?_) (fun s hI => ⟨hI.1, rfl, hI.2⟩)) (fun o ho => OK.ret ho)
  unfold judge_judge_widen_l1
  refine OK.bind (OK.getN hi (fun l hl => OK.ite (fun _ => k _ hI) (fun hh => ?_)))
  rw [h.lps] at hl
  obtain ⟨a, ia, ha, hia, hop, rfl⟩ := mem_lps.1 (List.mem_of_getElem? hl)
  have hlp := hg.fine.loop hia hop
  have hn := hg.n64
  have e1 : (loopAt ia a).Head = (((a : Int) - ia.D).toNat : Int) := by show (a : Int) - ia.D = _; omega
  have e2 : w64 ((loopAt ia a).At + 1) = ((a + 1 : Nat) : Int) := by show w64 ((a : Int) + 1) = _; rw [w64_eq (by omega) (by omega)]; simp
  rw [e1, e2, h.mod, cut_ok (by omega) (by omega)]
  simp only [Option.bind_some]
  refine OK.bind2 (OK.count (fun _ s => JI m ⟨j.Module, s, j.any, j.loops⟩ ∧ ∀ q, q ≠ p → s[q]? = j.came[q]?) hI (fun i s again hi hI k => ?_) (fun s hI => hI)) (fun o ho => k _ ho)
  unfold judge_judge_widen_l2
  refine OK.bind (OK.getN hi (fun x hx => ?_))
  have hr : OK (ops_Writes x) (fun r => r.2 = true → 0 ≤ r.1 ∧ r.1 < 8) := by
    rcases Bool.eq_false_or_eq_true (rightB x) with e | e
    · exact writes_ok e
    · exact writes_false e
  refine OK.bind2 hr (fun r hr => OK.ite (fun _ => k _ hI) (fun hw => ?_))
  have hr := hr (by simpa using hw)
  obtain ⟨c', hc', hc2'⟩ := idx_lt (xs := s) (p := p) (by rw [show s.length = m.Code.length from hI.1.lenC]; exact hp)
  simp only [hc2', ain8 hr.1 hr.2, Option.bind_some, full_eq, number_eq, Int.toNat_natCast]
  refine OK.ite (fun _ => k _ ⟨hI.1.put (aset_wt (hI.1.wt p c' hc') (WT.num SW.full)) _ hI.1.lenA, fun q hq => by rw [← hI.2 q hq]; exact set_ne hq⟩) (fun _ => k _ ⟨hI.1.put (aset_wt (hI.1.wt p c' hc') WT.zero) _ hI.1.lenA, fun q hq => by rw [← hI.2 q hq]; exact set_ne hq⟩)
end Go.Proofs.YtkgajppghpmkbaaDoor

/- Texts KJudge, KJudge2, KJudged of this proof. -/
import Derived.Test.YtgmmfjpmahcocaaGreatDoorKPot
set_option linter.unusedVariables false
set_option linter.unusedSimpArgs false
namespace Go.Proofs.YtgmmfjpmahcocaaGreatDoor
open Go.Sx
def zeroT : api_Type := ⟨0, ⟨0, 0⟩, 0⟩
def WT (n : Nat) (x : api_Type) : Prop := x = zeroT \/ (x.Kind = 1 /\ SW x.Span /\ x.Map = 0) \/ (x.Kind = 2 /\ x.Span = ⟨0, 0⟩ /\ 0 <= x.Map /\ x.Map < n)
theorem WT.span {n : Nat} {x : api_Type} (h : WT n x) : SW x.Span := by
 rcases h with rfl | h | h
 ·exact SW.zero
 ·exact h.2.1
 ·rw [h.2.1]; exact SW.zero
theorem WT.num {n : Nat} {s : api_Span} (h : SW s) : WT n ⟨1, s, 0⟩ := .inr (.inl ⟨rfl, h, rfl⟩)
theorem WT.zero {n : Nat} : WT n zeroT := .inl rfl
theorem number_eq (s : api_Span) : judge_number s = some ⟨1, s, 0⟩ := rfl
theorem single_eq (x : Int) : span_Single x = some ⟨x, x⟩ := rfl
theorem right_t {s : api_Span} (h : SW s) : span_Right s = some true := by rw [span_right, decide_eq_true h.2.1]
theorem SW.join {a b : api_Span} (ha : SW a) (hb : SW b) : SW ⟨imin (imin 18446744073709551615 a.Lo) b.Lo, imax (imax 0 a.Hi) b.Hi⟩ := by
 obtain ⟨a0, a1, a2⟩ := ha
 obtain ⟨b0, b1, b2⟩ := hb
 unfold imin imax
 refine ⟨?_, ?_, ?_⟩ <;> simp only <;> (repeat' split) <;> omega
theorem join_eq {a b : api_Span} (ha : SW a) (hb : SW b) : span_Join [a, b] = some (⟨imin (imin 18446744073709551615 a.Lo) b.Lo, imax (imax 0 a.Hi) b.Hi⟩, true) := by
 unfold span_Join
 simp [forN, span_Join_l1, idx, right_t ha, right_t hb]
def joinT (a b : api_Type) : api_Type :=
 if (a.Kind != b.Kind) || (a.Map != b.Map) then zeroT
 else if a.Kind == 1 then ⟨1, ⟨imin (imin 18446744073709551615 a.Span.Lo) b.Span.Lo, imax (imax 0 a.Span.Hi) b.Span.Hi⟩, 0⟩
 else a
theorem joined_eq {a b : api_Type} (ha : SW a.Span) (hb : SW b.Span) : judge_joined a b = some (joinT a b) := by
 unfold judge_joined joinT
 rw [join_eq ha hb]
 split
 ·rfl
 ·split <;> rfl
theorem WT.join {n : Nat} {a b : api_Type} (ha : WT n a) (hb : WT n b) : WT n (joinT a b) := by
 unfold joinT
 split
 ·exact WT.zero
 ·split
  ·exact WT.num (SW.join ha.span hb.span)
  ·exact ha
theorem meet_eq {a b : api_Span} (ha : SW a) (hb : SW b) : span_Meet [a, b] = some (if imax (imax 0 a.Lo) b.Lo <= imin (imin 18446744073709551615 a.Hi) b.Hi then (⟨imax (imax 0 a.Lo) b.Lo, imin (imin 18446744073709551615 a.Hi) b.Hi⟩, true) else (⟨0, 0⟩, false)) := by
 unfold span_Meet
 simp only [full_eq, Option.bind_some]
 by_cases h : imax (imax 0 a.Lo) b.Lo <= imin (imin 18446744073709551615 a.Hi) b.Hi
 ·simp [forN, span_Meet_l1, idx, Int.not_lt.2 ha.2.1, Int.not_lt.2 hb.2.1, span_right, h]
 ·simp [forN, span_Meet_l1, idx, Int.not_lt.2 ha.2.1, Int.not_lt.2 hb.2.1, span_right, h]
theorem meet_ok {a b : api_Span} (ha : SW a) (hb : SW b) : OK (span_Meet [a, b]) (fun r => SW r.1) := by
 refine ⟨_, meet_eq ha hb, ?_⟩
 obtain ⟨a0, a1, a2⟩ := ha
 obtain ⟨b0, b1, b2⟩ := hb
 split
 ·rename_i h
  refine ⟨?_, h, ?_⟩
  ·show 0 <= imax (imax 0 a.Lo) b.Lo
   unfold imax; (repeat' split) <;> omega
  ·show imin (imin 18446744073709551615 a.Hi) b.Hi < _
   unfold imin; (repeat' split) <;> omega
 ·exact SW.zero
theorem holds_ok (op a b : Int) : OK (arith_Holds op a b) (fun r => r.2 = inB op 16 19) := by
 unfold arith_Holds
 have q : ∀ k : Int, 16 <= k -> k <= 19 -> (op == k) = true -> true = inB op 16 19 := by
  intro k h1 h2 h3
  have : op = k := by simpa using h3
  subst this; simp [inB, h1, h2]
 refine OK.ite (fun h => OK.ret (q 16 (by omega) (by omega) h)) (fun n1 => ?_)
 refine OK.ite (fun h => OK.ret (q 17 (by omega) (by omega) h)) (fun n2 => ?_)
 refine OK.ite (fun h => OK.ret (q 18 (by omega) (by omega) h)) (fun n3 => ?_)
 refine OK.ite (fun h => OK.ret (q 19 (by omega) (by omega) h)) (fun n4 => OK.ret ?_)
 simp only [beq_eq_false_iff_ne, ne_eq] at n1 n2 n3 n4
 show false = _
 rw [Eq.comm, inB, Bool.and_eq_false_iff]
 simp only [decide_eq_false_iff_not]
 omega
theorem refine_ok {op : Int} {a b : api_Span} {h : Bool} (ha : SW a) (hb : SW b) : OK (span_Refine op a b h) (fun r => SW r.1) := by
 obtain ⟨a0, a1, a2⟩ := id ha
 obtain ⟨b0, b1, b2⟩ := id hb
 unfold span_Refine
 refine OK.bind2 (holds_ok op 0 0) (fun r hr => ?_)
 simp only [right_t ha, right_t hb, Option.bind_some]
 refine OK.bind2 (R := fun _ => True) (OK.ite (fun _ => OK.ret trivial) (fun _ => OK.ite (fun _ => OK.ret trivial) (fun _ => OK.ret trivial))) (fun o _ => ?_)
 refine OK.ite (fun _ => OK.ret SW.zero) (fun _ => ?_)
 unfold span_single
 simp only [Option.bind_some]
 refine OK.ite (fun _ => OK.ret ha) (fun hs => ?_)
 have hs : b.Lo = b.Hi := by simpa using hs
 refine OK.bind2 (R := fun _ => True) (OK.ite (fun _ => OK.ret trivial) (fun _ => OK.ite (fun _ => OK.ret trivial) (fun _ => OK.ret trivial))) (fun o _ => ?_)
 refine OK.ite (fun _ => OK.ite (fun _ => OK.ret SW.zero) (fun hz => ?_)) (fun _ => ?_)
 ·have hz : b.Lo ≠ 0 := by simpa using hz
  refine OK.bind2 (meet_ok ha ?_) (fun x hx => OK.ret hx)
  rw [wu64_eq (by omega) (by omega)]
  exact ⟨by simp, by simp; omega, by simp; omega⟩
 refine OK.bind2 (R := fun _ => True) (OK.ite (fun _ => OK.ret trivial) (fun _ => OK.ret trivial)) (fun o _ => ?_)
 refine OK.ite (fun _ => OK.bind2 (meet_ok ha ⟨b0, by simp; omega, by simp⟩) (fun x hx => OK.ret hx)) (fun _ => ?_)
 refine OK.bind2 (R := fun _ => True) (OK.ite (fun _ => OK.ret trivial) (fun _ => OK.ite (fun _ => OK.ret trivial) (fun _ => OK.ret trivial))) (fun o _ => ?_)
 refine OK.ite (fun _ => OK.bind2 (meet_ok ha hb) (fun x hx => OK.ret hx)) (fun _ => ?_)
 refine OK.ite (fun _ => OK.ret SW.zero) (fun hne => ?_)
 have hne : ¬ (a.Lo = b.Lo /\ a.Hi = b.Hi) := by
  rintro ⟨e1, e2⟩
  rw [e1, e2] at hne
  simp at hne
 refine OK.ite (fun h1 => OK.ret ?_) (fun h1 => ?_)
 ·have h1 : a.Lo = b.Lo := by simpa using h1
  rw [wu64_eq (by omega) (by omega)]
  exact ⟨by simp; omega, by simp; omega, by simpa using a2⟩
 refine OK.ite (fun h2 => OK.ret ?_) (fun _ => OK.ret ha)
 have h1 : a.Lo ≠ b.Lo := by simpa using h1
 have h2 : a.Hi = b.Lo := by simpa using h2
 rw [wu64_eq (by omega) (by omega)]
 exact ⟨by simpa using a0, by simp; omega, by simp; omega⟩
theorem nums_ok (l : List api_Type) : OK (judge_nums l) (fun _ => True) := by
 unfold judge_nums
 refine OK.bind2 (OK.count (Q := fun _ => True) (fun _ _ => True) trivial (fun i s again hi _ k => ?_) (fun _ _ => trivial)) (fun o _ => ?_)
 ·unfold judge_nums_l1
  exact OK.bind (OK.getN hi (fun x _ => OK.ite (fun _ => OK.ret trivial) (fun _ => k _ trivial)))
 ·cases o <;> exact OK.ret trivial
theorem first_ok (l : List Int) : OK (judge_first l) (fun r => r = 0 -> ∀ x ∈ l, x = 0) := by
 unfold judge_first
 refine OK.bind2 (OK.count (Q := fun o => match o with | .inl _ => ∀ x ∈ l, x = 0 | .inr r => r ≠ 0) (fun i _ => ∀ q x, q < i -> l[q]? = some x -> x = 0) (fun q x h => by omega) (fun i s again hi hI k => ?_) (fun _ hI => ?_)) (fun o ho => ?_)
 ·unfold judge_first_l1
  refine OK.bind (OK.getN hi (fun x hx => OK.ite (fun h => OK.ret (by simpa using h)) (fun h => k _ (fun q y hq hy => ?_))))
  by_cases hqi : q < i
  ·exact hI q y hqi hy
  ·obtain rfl : q = i := by omega
   rw [hx] at hy; cases hy
   simpa using h
 ·intro x hx
  obtain ⟨q, hq⟩ := List.mem_iff_getElem?.1 hx
  exact hI q x (List.getElem?_eq_some_iff.1 hq).1 hq
 ·cases o with
  | inl _ => exact OK.ret (fun _ => ho)
  | inr r => exact OK.ret (fun h => absurd h ho)
theorem within_ok (a b : api_Span) : OK (span_Within a b) (fun r => r = true ↔ a.Lo <= a.Hi /\ b.Lo <= a.Lo /\ a.Hi <= b.Hi) := by
 unfold span_Within
 rw [span_right]
 simp only [Option.bind_some]
 refine OK.bind2 (R := fun r => r = true ↔ a.Lo <= a.Hi /\ b.Lo <= a.Lo /\ a.Hi <= b.Hi) ?_ (fun x hx => OK.ret hx)
 refine OK.ite (fun h1 => OK.ite (fun h2 => OK.ret ?_) (fun h2 => OK.ret ?_)) (fun h1 => OK.ret ?_)
 ·simp at h1 h2 |-; omega
 ·simp at h1 h2 |-; omega
 ·simp at h1 |-; omega
def fitsB (a b : api_Type) : Prop := (b.Kind = 1 -> a.Kind = 1 /\ a.Span.Lo <= a.Span.Hi /\ b.Span.Lo <= a.Span.Lo /\ a.Span.Hi <= b.Span.Hi) /\ (b.Kind = 2 -> a = b)
theorem type_eq {a b : api_Type} (h : ((a.Kind == b.Kind) && (((a.Span.Lo == b.Span.Lo) && ((a.Span.Hi == b.Span.Hi) && true)) && ((a.Map == b.Map) && true))) = true) : a = b := by
 obtain ⟨k, ⟨l, h1⟩, m⟩ := a
 obtain ⟨k', ⟨l', h1'⟩, m'⟩ := b
 simp at h
 obtain ⟨rfl, ⟨rfl, rfl⟩, rfl⟩ := h
 rfl
theorem fits_ok (a b : api_Type) : OK (judge_fits a b) (fun r => r = true -> fitsB a b) := by
 unfold judge_fits
 refine OK.ite (fun h1 => ?_) (fun h1 => OK.ite (fun h2 => OK.ret ?_) (fun h2 => OK.ret ?_))
 ·have h1 : b.Kind = 1 := by simpa using h1
  refine OK.bind2 (R := fun r => r = true -> fitsB a b) ?_ (fun x hx => OK.ret hx)
  refine OK.ite (fun h2 => OK.bind2 (within_ok _ _) (fun x hx => OK.ret (fun e => ⟨fun _ => ⟨by simpa using h2, hx.1 e⟩, fun e2 => by omega⟩))) (fun _ => OK.ret (fun e => by cases e))
 ·intro h
  have h1 : b.Kind ≠ 1 := by simpa using h1
  exact ⟨fun e => absurd e h1, fun _ => type_eq h⟩
 ·intro _
  have h1 : b.Kind ≠ 1 := by simpa using h1
  have h2 : b.Kind ≠ 2 := by simpa using h2
  exact ⟨fun e => absurd e h1, fun e => absurd e h2⟩
theorem word_ok (t : api_Type) : OK (judge_word t) (fun _ => True) := by
 unfold judge_word
 exact OK.bind2 (within_ok _ _) (fun x _ => OK.ite (fun _ => OK.ret trivial) (fun _ => OK.ret trivial))
theorem right_D {i : api_Inst} (h : rightB i = true) (ho : ¬ (15 <= i.Op /\ i.Op <= 20)) : 0 <= i.D /\ i.D < 8 := by
 unfold rightB at h
 simp only [inB, regB] at h
 simp only [Bool.and_eq_true, Bool.or_eq_true, decide_eq_true_eq, beq_iff_eq] at h
 iterate 11 (all_goals (try split at h))
 all_goals simp only [Bool.and_eq_true, Bool.or_eq_true, decide_eq_true_eq, beq_iff_eq, Bool.false_eq_true] at h
 all_goals omega
theorem right_A {i : api_Inst} (h : rightB i = true) : 0 <= i.A /\ i.A < 8 := by
 unfold rightB at h
 simp only [inB, regB] at h
 simp only [Bool.and_eq_true, Bool.or_eq_true, decide_eq_true_eq, beq_iff_eq] at h
 iterate 11 (all_goals (try split at h))
 all_goals simp only [Bool.and_eq_true, Bool.or_eq_true, decide_eq_true_eq, beq_iff_eq, Bool.false_eq_true] at h
 all_goals omega
theorem right_op {i : api_Inst} (h : rightB i = true) : 0 <= i.Op /\ i.Op <= 22 := by
 unfold rightB at h
 simp only [inB, regB] at h
 simp only [Bool.and_eq_true, Bool.or_eq_true, decide_eq_true_eq, beq_iff_eq] at h
 iterate 11 (all_goals (try split at h))
 all_goals simp only [Bool.and_eq_true, Bool.or_eq_true, decide_eq_true_eq, beq_iff_eq, Bool.false_eq_true] at h
 all_goals omega
theorem right_src {i : api_Inst} (h : rightB i = true) (ho : i.Op <= 12 \/ (16 <= i.Op /\ i.Op <= 19)) : i.B = 8 \/ (0 <= i.B /\ i.B < 8) := by
 unfold rightB at h
 simp only [inB, regB, srcB] at h
 simp only [Bool.and_eq_true, Bool.or_eq_true, decide_eq_true_eq, beq_iff_eq] at h
 iterate 11 (all_goals (try split at h))
 all_goals simp only [Bool.and_eq_true, Bool.or_eq_true, decide_eq_true_eq, beq_iff_eq, Bool.false_eq_true] at h
 all_goals omega
theorem right_imm {i : api_Inst} (h : rightB i = true) (ho : i.Op = 21) : 0 <= i.Imm /\ i.Imm <= 6 := by
 unfold rightB at h
 simp only [inB, regB] at h
 simp [ho] at h
 omega
theorem right_imm14 {i : api_Inst} (h : rightB i = true) (ho : i.Op = 14) : 0 <= i.Imm /\ i.Imm <= 3 := by
 unfold rightB at h
 simp only [inB, regB] at h
 simp [ho] at h
 omega
theorem ain8 {t : Int} (h0 : 0 <= t) (h1 : t < 8) : ain 8 t = some t.toNat := by unfold ain; rw [if_pos ⟨h0, by omega⟩]
theorem ainN {i n : Nat} (h : i < n) : ain n (i : Int) = some i := by unfold ain; rw [if_pos ⟨by omega, by omega⟩]; simp
theorem forms_ok (op : Int) (h0 : 0 <= op) (h1 : op < 23) : ∃ f, ops_of op = some (f, true) /\ ops_form_uses f 100 = some (decide (op <= 11) || decide (op = 13) || decide (op = 14)) /\ ops_form_uses f 115 = some (decide (op <= 12) || (decide (16 <= op) && decide (op <= 19))) := by
 have h : ∀ k : Fin 23, ∃ f, ops_of ((k : Nat) : Int) = some (f, true) /\ ops_form_uses f 100 = some (decide (((k : Nat) : Int) <= 11) || decide (((k : Nat) : Int) = 13) || decide (((k : Nat) : Int) = 14)) /\ ops_form_uses f 115 = some (decide (((k : Nat) : Int) <= 12) || (decide (16 <= ((k : Nat) : Int)) && decide (((k : Nat) : Int) <= 19))) := by
  intro k
  have hk : ∃ f, ops_of ((k : Nat) : Int) = some (f, true) := by
   obtain ⟨f, hf, _⟩ := uses_eq ((k : Nat) : Int) (by omega) (by omega)
   exact ⟨f, hf⟩
  obtain ⟨f, hf⟩ := hk
  have key : ∀ k : Fin 23, ((ops_of ((k : Nat) : Int)).bind fun r => ops_form_uses r.1 100) = some (decide (((k : Nat) : Int) <= 11) || decide (((k : Nat) : Int) = 13) || decide (((k : Nat) : Int) = 14)) /\ ((ops_of ((k : Nat) : Int)).bind fun r => ops_form_uses r.1 115) = some (decide (((k : Nat) : Int) <= 12) || (decide (16 <= ((k : Nat) : Int)) && decide (((k : Nat) : Int) <= 19))) := by decide +kernel
  have := key k
  rw [hf] at this
  exact ⟨f, hf, this.1, this.2⟩
 obtain ⟨n, rfl⟩ := Int.eq_ofNat_of_zero_le h0
 exact h ⟨n, by omega⟩
theorem writes_ok {i : api_Inst} (h : rightB i = true) : OK (ops_Writes i) (fun r => r.2 = true -> 0 <= r.1 /\ r.1 < 8) := by
 have ho := right_op h
 obtain ⟨f, h1, h2, _⟩ := forms_ok i.Op ho.1 (by omega)
 unfold ops_Writes
 simp only [opsRight_eq, h, h1, h2, Option.bind_some]
 refine OK.ite (fun e => by cases e) (fun _ => OK.ite (fun e => OK.ret (fun _ => right_D h (by simp at e; omega))) (fun _ => OK.ret (fun _ => by simp)))
theorem writes_false {i : api_Inst} (h : rightB i = false) : OK (ops_Writes i) (fun r => r.2 = true -> 0 <= r.1 /\ r.1 < 8) := by
 unfold ops_Writes
 simp only [opsRight_eq, h, Option.bind_some]
 exact OK.ret (by simp)
theorem source_eq {i : api_Inst} (h : rightB i = true) : ops_Source i = some (decide (i.Op <= 12) || (decide (16 <= i.Op) && decide (i.Op <= 19))) := by
 have ho := right_op h
 obtain ⟨f, h1, _, h2⟩ := forms_ok i.Op ho.1 (by omega)
 unfold ops_Source
 simp only [opsRight_eq, h, h1, h2, Option.bind_some]
 rfl
def srcT (i : api_Inst) (k : Nat -> api_Type) : api_Type := if i.B == 8 then ⟨1, ⟨wu64 i.Imm, wu64 i.Imm⟩, 0⟩ else k i.B.toNat
theorem src_eq {i : api_Inst} {k : Nat -> api_Type} (h : i.B = 8 \/ (0 <= i.B /\ i.B < 8)) : judge_source i k = some (srcT i k) := by
 unfold judge_source srcT
 rcases Bool.eq_false_or_eq_true (i.B == 8) with e | e
 ·rw [if_pos e, if_pos e]; rfl
 ·have : i.B ≠ 8 := by simpa using e
  rw [if_neg (by simp [e]), if_neg (by simp [e]), ain8 (by omega) (by omega)]; rfl
theorem srcT_ok {n : Nat} {i : api_Inst} {k : Nat -> api_Type} (h : i.B = 8 \/ (0 <= i.B /\ i.B < 8)) (hk : ∀ r, r < 8 -> WT n (k r)) : WT n (srcT i k) := by
 unfold srcT
 split
 ·exact WT.num (SW.one (wu64_rng _).1 (wu64_rng _).2)
 ·rename_i e
  have : i.B ≠ 8 := by simpa using e
  exact hk _ (by omega)
structure JI (m : api_Module) (j : judge_judge) : Prop where
 mod : j.Module = m
 lenC : j.came.length = m.Code.length
 lenA : j.any.length = m.Code.length
 lps : j.loops = lps m.Code m.Code.length
 wt : ∀ (q : Nat) (x : Nat -> api_Type), j.came[q]? = some x -> ∀ r, r < 8 -> WT m.Maps.length (x r)
theorem idx_lt {α : Type} {xs : List α} {p : Nat} (h : p < xs.length) : ∃ x, xs[p]? = some x /\ idx xs (p : Int) = some x := ⟨xs[p], List.getElem?_eq_getElem h, idxN h⟩
theorem set_ne {α : Type} {xs : List α} {p q : Nat} {v : α} (h : q ≠ p) : (xs.set p v)[q]? = xs[q]? := List.getElem?_set_ne (fun e => h e.symm)
theorem JI.put {m : api_Module} {j : judge_judge} (h : JI m j) {p : Nat} {x : Nat -> api_Type} (hx : ∀ r, r < 8 -> WT m.Maps.length (x r)) (A : List Bool) (hA : A.length = m.Code.length) : JI m ⟨j.Module, j.came.set p x, A, j.loops⟩ :=
 ⟨h.mod, by simpa using h.lenC, hA, h.lps, fun q y hy r hr => by
  simp only at hy
  by_cases hq : q = p
  ·subst hq
   rw [List.getElem?_set] at hy
   simp at hy
   rw [<- hy.2]; exact hx r hr
  ·rw [set_ne hq] at hy
   exact h.wt q y hy r hr⟩
theorem aset_wt {n : Nat} {x : Nat -> api_Type} (hx : ∀ r, r < 8 -> WT n (x r)) {t : Nat} {v : api_Type} (hv : WT n v) : ∀ r, r < 8 -> WT n (aset x t v r) := by
 intro r hr
 unfold aset
 split
 ·exact hv
 ·exact hx r hr
theorem come_ok {m : api_Module} {j : judge_judge} (h : JI m j) {p : Nat} (hp : p < m.Code.length) {k : Nat -> api_Type} (hk : ∀ r, r < 8 -> WT m.Maps.length (k r)) :
  OK (judge_judge_come j (p : Int) k) (fun j' => JI m j' /\ j'.any = j.any.set p true /\ ∀ q, q ≠ p -> j'.came[q]? = j.came[q]?) := by
 unfold judge_judge_come
 obtain ⟨a, ha, ha2⟩ := idx_lt (xs := j.any) (p := p) (by rw [h.lenA]; exact hp)
 obtain ⟨c, hc, hc2⟩ := idx_lt (xs := j.came) (p := p) (by rw [h.lenC]; exact hp)
 simp only [ha2, hc2, Option.bind_some, Int.toNat_natCast]
 refine OK.ite (fun _ => OK.ret ⟨h.put hk _ (by simpa using h.lenA), rfl, fun q hq => set_ne hq⟩) (fun hn => ?_)
 have hat : a = true := by simpa using hn
 have hset : j.any.set p true = j.any := by
  apply List.ext_getElem?
  intro q
  by_cases hq : q = p
  ·subst hq; rw [List.getElem?_set, ha, hat]; simp [h.lenA, hp]
  ·exact set_ne hq
 refine OK.bind2 (OK.count (fun _ s => JI m s /\ s.any = j.any.set p true /\ ∀ q, q ≠ p -> s.came[q]? = j.came[q]?) ⟨h, hset.symm, fun _ _ => rfl⟩ (fun i s again hi hI kk => ?_) (fun s hI => hI)) (fun o ho => OK.ret ho)
 unfold judge_judge_come_l1
 obtain ⟨c', hc', hc2'⟩ := idx_lt (xs := s.came) (p := p) (by rw [hI.1.lenC]; exact hp)
 have w1 := hI.1.wt p c' hc' i hi
 simp only [hc2', ainN hi, Option.bind_some, joined_eq w1.span (hk i hi).span, Int.toNat_natCast]
 exact kk _ ⟨hI.1.put (aset_wt (hI.1.wt p c' hc') (w1.join (hk i hi))) _ hI.1.lenA, hI.2.1, fun q hq => by rw [<- hI.2.2 q hq]; exact set_ne hq⟩
theorem cut_ok {α : Type} {xs : List α} {lo hi : Nat} (h1 : lo <= hi) (h2 : hi <= xs.length) : cut xs (lo : Int) (hi : Int) = some ((xs.take hi).drop lo) := by
 unfold cut
 rw [if_pos ⟨by omega, by omega, by omega⟩]
 simp
theorem widen_ok {m : api_Module} {j : judge_judge} (h : JI m j) (hg : Good m.Code) {p : Nat} (hp : p < m.Code.length) :
  OK (judge_judge_widen j (p : Int)) (fun j' => JI m j' /\ j'.any = j.any /\ ∀ q, q ≠ p -> j'.came[q]? = j.came[q]?) := by
 unfold judge_judge_widen
 refine OK.bind2 (OK.count (Q := fun j' => JI m j' /\ j'.any = j.any /\ ∀ q, q ≠ p -> j'.came[q]? = j.came[q]?) (fun _ s => JI m ⟨j.Module, s, j.any, j.loops⟩ /\ ∀ q, q ≠ p -> s[q]? = j.came[q]?) ⟨⟨h.mod, h.lenC, h.lenA, h.lps, h.wt⟩, fun _ _ => rfl⟩ (fun i s again hi hI k => ?_) (fun s hI => ⟨hI.1, rfl, hI.2⟩)) (fun o ho => OK.ret ho)
 unfold judge_judge_widen_l1
 refine OK.bind (OK.getN hi (fun l hl => OK.ite (fun _ => k _ hI) (fun hh => ?_)))
 rw [h.lps] at hl
 obtain ⟨a, ia, ha, hia, hop, rfl⟩ := mem_lps.1 (List.mem_of_getElem? hl)
 have hlp := hg.fine.loop hia hop
 have hn := hg.n64
 have e1 : (loopAt ia a).Head = (((a : Int) - ia.D).toNat : Int) := by show (a : Int) - ia.D = _; omega
 have e2 : w64 ((loopAt ia a).At + 1) = ((a + 1 : Nat) : Int) := by show w64 ((a : Int) + 1) = _; rw [w64_eq (by omega) (by omega)]; simp
 rw [e1, e2, h.mod, cut_ok (by omega) (by omega)]
 simp only [Option.bind_some]
 refine OK.bind2 (OK.count (fun _ s => JI m ⟨j.Module, s, j.any, j.loops⟩ /\ ∀ q, q ≠ p -> s[q]? = j.came[q]?) hI (fun i s again hi hI k => ?_) (fun s hI => hI)) (fun o ho => k _ ho)
 unfold judge_judge_widen_l2
 refine OK.bind (OK.getN hi (fun x hx => ?_))
 have hr : OK (ops_Writes x) (fun r => r.2 = true -> 0 <= r.1 /\ r.1 < 8) := by
  rcases Bool.eq_false_or_eq_true (rightB x) with e | e
  ·exact writes_ok e
  ·exact writes_false e
 refine OK.bind2 hr (fun r hr => OK.ite (fun _ => k _ hI) (fun hw => ?_))
 have hr := hr (by simpa using hw)
 obtain ⟨c', hc', hc2'⟩ := idx_lt (xs := s) (p := p) (by rw [show s.length = m.Code.length from hI.1.lenC]; exact hp)
 simp only [hc2', ain8 hr.1 hr.2, Option.bind_some, full_eq, number_eq, Int.toNat_natCast]
 refine OK.ite (fun _ => k _ ⟨hI.1.put (aset_wt (hI.1.wt p c' hc') (WT.num SW.full)) _ hI.1.lenA, fun q hq => by rw [<- hI.2 q hq]; exact set_ne hq⟩) (fun _ => k _ ⟨hI.1.put (aset_wt (hI.1.wt p c' hc') WT.zero) _ hI.1.lenA, fun q hq => by rw [<- hI.2 q hq]; exact set_ne hq⟩)
end Go.Proofs.YtgmmfjpmahcocaaGreatDoor
set_option linter.unusedVariables false
set_option linter.unusedSimpArgs false
namespace Go.Proofs.YtgmmfjpmahcocaaGreatDoor
open Go.Sx
def Way (code : List api_Inst) (p q : Nat) : Prop := ∃ i, code[p]? = some i /\ ((goesB i).2.2 = true /\ q = p + 1 \/ (goesB i).2.1 = true /\ 0 < (goesB i).1 /\ (q : Int) = p + (goesB i).1)
structure Ways (code : List api_Inst) (p : Nat) (j j' : judge_judge) : Prop where
 same : ∀ q : Nat, q <= p -> j'.came[q]? = j.came[q]? /\ j'.any[q]? = j.any[q]?
 keep : ∀ q : Nat, j.any[q]? = some true -> j'.any[q]? = some true
 new : ∀ q : Nat, j'.any[q]? = some true -> j.any[q]? = some true \/ Way code p q
theorem Ways.refl (code : List api_Inst) (p : Nat) (j : judge_judge) : Ways code p j j := ⟨fun _ _ => ⟨rfl, rfl⟩, fun _ h => h, fun _ h => .inl h⟩
theorem Ways.trans {code : List api_Inst} {p : Nat} {a b c : judge_judge} (h : Ways code p a b) (k : Ways code p b c) : Ways code p a c :=
 ⟨fun q hq => ⟨(k.same q hq).1.trans (h.same q hq).1, (k.same q hq).2.trans (h.same q hq).2⟩, fun q hq => k.keep q (h.keep q hq), fun q hq => (k.new q hq).elim (fun e => h.new q e) .inr⟩
theorem ways_of {code : List api_Inst} {p q : Nat} {j j' : judge_judge} (hA : j.any.length = code.length) (hq : p < q) (hw : Way code p q) (h1 : j'.any = j.any.set q true) (h2 : ∀ t, t ≠ q -> j'.came[t]? = j.came[t]?) : Ways code p j j' := by
 refine ⟨fun t ht => ⟨h2 t (by omega), by rw [h1]; exact set_ne (by omega)⟩, fun t ht => ?_, fun t ht => ?_⟩
 ·rw [h1]
  by_cases e : t = q
  ·subst e
   have := (List.getElem?_eq_some_iff.1 ht).1
   rw [List.getElem?_set]; simp [this]
  ·rw [set_ne e]; exact ht
 ·by_cases e : t = q
  ·subst e; exact .inr hw
  ·rw [h1, set_ne e] at ht; exact .inl ht
theorem goes_D {i : api_Inst} (h : (goesB i).2.1 = true) : (0 < (goesB i).1 /\ 15 <= i.Op /\ i.Op <= 19 /\ (goesB i).2.2 = (i.Op != 15)) \/ ((goesB i).1 < 0 /\ i.Op = 20 /\ (goesB i).2.2 = true) := by
 unfold goesB at h |-
 by_cases hj : jumpsB i = true
 ·have := jump_D hj
  rw [if_pos hj]
  exact .inl ⟨by simp; omega, this.2.2.1, this.2.2.2, rfl⟩
 ·rw [if_neg hj] at h |-
  by_cases hl : loopsB i = true
  ·have := loop_D hl
   rw [if_pos hl]
   exact .inr ⟨by simp; omega, this.2.2.1, rfl⟩
  ·rw [if_neg hl] at h
   cases h
theorem ways_ok {m : api_Module} {j : judge_judge} (h : JI m j) (hg : Good m.Code) {p : Nat} (hp : p < m.Code.length) {k : Nat -> api_Type} (hk : ∀ r, r < 8 -> WT m.Maps.length (k r)) :
  OK (judge_judge_ways j (p : Int) k) (fun j' => JI m j' /\ Ways m.Code p j j') := by
 have hn := hg.n64
 obtain ⟨i, hi, hi2⟩ := idx_lt hp
 have hr := hg.fine.right hi
 unfold judge_judge_ways
 rw [h.mod, hi2]
 simp only [opsGoes_eq, Option.bind_some]
 have e1 : w64 ((p : Int) + 1) = ((p + 1 : Nat) : Int) := by rw [w64_eq (by omega) (by omega)]; simp
 have step : ∀ {j : judge_judge} {q : Nat} {k : Nat -> api_Type}, JI m j -> p < q -> q < m.Code.length -> Way m.Code p q -> (∀ r, r < 8 -> WT m.Maps.length (k r)) -> OK (judge_judge_come j (q : Int) k) (fun j' => JI m j' /\ Ways m.Code p j j') :=
  fun hj hq hqn hw hk => (come_ok hj hqn hk).mono (fun j' hj' => ⟨hj'.1, ways_of hj.lenA hq hw hj'.2.1 hj'.2.2⟩)
 refine OK.ite (fun hc => OK.bind2 (OK.ite (fun hon => ?_) (fun _ => OK.ret ⟨h, Ways.refl _ _ _⟩)) (fun o ho => OK.ret ho)) (fun hc => ?_)
 ·rw [e1]
  exact OK.bind2 (step h (by omega) (hg.fine.on hi hon) ⟨i, hi, .inl ⟨hon, rfl⟩⟩ hk) (fun x hx => OK.ret hx)
 have hl : (goesB i).2.1 = true /\ 0 <= (goesB i).1 := by simp at hc; exact ⟨hc.1, by omega⟩
 have hd : 0 < (goesB i).1 := by
  rcases goes_D hl.1 with h1 | h1
  ·exact h1.1
  ·omega
 have hlead := hg.fine.leads hi hl.1
 obtain ⟨q, hq⟩ := Int.eq_ofNat_of_zero_le hlead.1
 have eq : w64 ((p : Int) + (goesB i).1) = (q : Int) := by rw [w64_eq (by omega) (by omega), hq]
 have hq1 : (q : Int) = p + (goesB i).1 := hq.symm
 have hwq : Way m.Code p q := ⟨i, hi, .inr ⟨hl.1, hd, hq1⟩⟩
 refine OK.ite (fun _ => ?_) (fun hon => ?_)
 ·rw [eq]
  exact OK.bind2 (step h (by omega) (by omega) hwq hk) (fun x hx => OK.ret hx)
 have hon : (goesB i).2.2 = true := by simpa using hon
 have hops : 16 <= i.Op /\ i.Op <= 19 := by
  rcases goes_D hl.1 with h1 | h1
  ·rw [h1.2.2.2] at hon
   have : i.Op ≠ 15 := by simpa using hon
   omega
  ·omega
 have hs := right_src hr (.inr hops)
 have hA := right_A hr
 rw [src_eq hs]
 simp only [Option.bind_some]
 refine OK.bind2 (OK.count (fun _ s => JI m s /\ Ways m.Code p j s) ⟨h, Ways.refl _ _ _⟩ (fun t s again ht hI kk => ?_) (fun s hI => hI)) (fun o ho => OK.ret ho)
 unfold judge_judge_ways_l1
 refine OK.bind (OK.getN (by simpa using ht) (fun x hx => ?_))
 refine OK.bind2 (R := fun (o : Int) => ∃ q' : Nat, o = (q' : Int) /\ p < q' /\ q' < m.Code.length /\ Way m.Code p q') ?_ (fun o ho => ?_)
 ·refine OK.ite (fun _ => OK.ret ⟨p + 1, e1, by omega, hg.fine.on hi hon, i, hi, .inl ⟨hon, rfl⟩⟩) (fun _ => OK.ret ⟨q, eq, by omega, by omega, hwq⟩)
 obtain ⟨q', rfl, hq1', hq2', hw'⟩ := ho
 rw [ain8 hA.1 hA.2]
 simp only [Option.bind_some]
 refine OK.bind2 (R := fun r => SW r.1) (OK.bind2 (refine_ok (hk _ (by omega)).span (srcT_ok hs hk).span) (fun r hr => OK.ret hr)) (fun r hr => ?_)
 refine OK.ite (fun _ => ?_) (fun _ => kk _ hI)
 simp only [number_eq, Option.bind_some]
 exact OK.bind2 (step hI.1 hq1' hq2' hw' (aset_wt hk (WT.num hr))) (fun x hx => kk _ ⟨hx.1, hI.2.trans hx.2⟩)
theorem args_ok : ∀ k : Fin 7, ∃ l, sigs_Args 1000 ((k : Nat) : Int) = some l /\ l.length <= 3 := by
 have h : ∀ k : Fin 7, ∃ n : Fin 4, (sigs_Args 1000 ((k : Nat) : Int)).map (·.length) = some (n : Nat) := by decide +kernel
 intro k
 obtain ⟨n, hn⟩ := h k
 obtain ⟨l, h1, h2⟩ := Option.map_eq_some_iff.1 hn
 exact ⟨l, h1, by omega⟩
theorem sig_ok : ∀ k : Fin 7, ∃ s, sigs_of ((k : Nat) : Int) = some (s, true) /\ 0 <= s.most /\ s.most < 18446744073709551616 := by
 intro k
 have h : ∀ k : Fin 7, ((sigs_of ((k : Nat) : Int)).map (fun r => r.2 && decide (0 <= r.1.most) && decide (r.1.most < 18446744073709551616))) = some true := by decide +kernel
 obtain ⟨⟨s, b⟩, h1, h2⟩ := Option.map_eq_some_iff.1 (h k)
 simp at h2
 obtain ⟨⟨rfl, h3⟩, h4⟩ := h2
 exact ⟨s, h1, h3, h4⟩
theorem checkS_ok (k : Fin 7) {l : List api_Type} (ha : sigs_Args 1000 ((k : Nat) : Int) = some l) (ys : List api_Type) : OK (sigs_Check 1000 ((k : Nat) : Int) ys) (fun _ => True) := by
 obtain ⟨s, h1, _⟩ := sig_ok k
 unfold sigs_Check
 simp only [h1, ha, Option.bind_some]
 refine OK.ite (fun _ => OK.ret trivial) (fun _ => OK.ite (fun _ => OK.ret trivial) (fun hl => ?_))
 have hl : l.length = ys.length := by
  have : (l.length : Int) = ys.length := by simpa using hl
  omega
 refine OK.bind2 (OK.count (Q := fun _ => True) (fun _ _ => True) trivial (fun i s again hi _ kk => ?_) (fun _ _ => trivial)) (fun o _ => ?_)
 ·unfold sigs_Check_l1
  refine OK.bind (OK.getN hi (fun x _ => OK.bind (OK.getN (by omega) (fun y _ => ?_))))
  refine OK.ite (fun _ => OK.ret trivial) (fun _ => OK.bind2 (R := fun _ => True) ?_ (fun o _ => OK.ite (fun _ => OK.ret trivial) (fun _ => kk _ trivial)))
  exact OK.ite (fun _ => OK.bind2 (within_ok _ _) (fun x _ => OK.ret trivial)) (fun _ => OK.ret trivial)
 ·cases o <;> exact OK.ret trivial
def One (m : api_Module) (j : judge_judge) (p : Nat) (r : (Nat -> api_Type) × Int) : Prop :=
 r.2 = 0 -> (∀ q, q < 8 -> WT m.Maps.length (r.1 q)) /\ ∀ i, m.Code[p]? = some i -> i.Op = 20 -> ∀ q, q < 8 -> ∀ x h, j.came[p]? = some x -> j.came[((p : Int) - i.D).toNat]? = some h -> fitsB (x q) (h q)
theorem one_ok {m : api_Module} {j : judge_judge} (h : JI m j) (hg : Good m.Code) {p : Nat} (hp : p < m.Code.length) :
  OK (judge_judge_one 1000 j (p : Int)) (One m j p) := by
 have hn := hg.n64
 obtain ⟨i, hi, hi2⟩ := idx_lt hp
 obtain ⟨k, hk1, hk2⟩ := idx_lt (xs := j.came) (p := p) (by rw [h.lenC]; exact hp)
 have hk := h.wt p k hk1
 have hr := hg.fine.right hi
 have hop := right_op hr
 have hA := right_A hr
 unfold judge_judge_one
 rw [h.mod, hi2, hk2]
 simp only [Option.bind_some, source_eq hr]
 have notLoop : ∀ {r : (Nat -> api_Type) × Int}, i.Op ≠ 20 -> (r.2 = 0 -> ∀ q, q < 8 -> WT m.Maps.length (r.1 q)) -> One m j p r := by
  intro r hne hw h0
  refine ⟨hw h0, fun i' hi' ho => ?_⟩
  rw [hi] at hi'; cases hi'
  exact absurd ho hne
 refine OK.bind2 (R := fun t => WT m.Maps.length t) ?_ (fun s hs => ?_)
 ·refine OK.ite (fun hsrc => ?_) (fun _ => OK.ret WT.zero)
  have hb := right_src hr (by simp at hsrc; omega)
  rw [src_eq hb]
  exact OK.ret (srcT_ok hb hk)
 rw [ain8 hA.1 hA.2]
 simp only [Option.bind_some, full_eq, number_eq]
 have hD : ¬ (15 <= i.Op /\ i.Op <= 20) -> ain 8 i.D = some i.D.toNat := fun h => ain8 (right_D hr h).1 (right_D hr h).2
 have kw : ∀ {v : api_Type} {t : Nat}, WT m.Maps.length v -> ∀ q, q < 8 -> WT m.Maps.length (aset k t v q) := fun hv => aset_wt hk hv
 refine OK.ite (fun e => ?_) (fun e0 => ?_)
 ·have e : i.Op = 0 := by simpa using e
  refine OK.ite (fun _ => OK.ret (notLoop (by omega) (fun h => by simp at h))) (fun _ => ?_)
  rw [hD (by omega)]
  exact OK.ret (notLoop (by omega) (fun _ => kw hs))
 refine OK.ite (fun e => ?_) (fun e11 => ?_)
 ·have e : i.Op = 11 := by simpa using e
  rw [hD (by omega)]
  simp only [Option.bind_some]
  exact OK.bind2 (nums_ok _) (fun a _ => OK.bind2 (word_ok _) (fun b _ => OK.bind2 (first_ok _) (fun c _ => OK.ret (notLoop (by omega) (fun _ => kw (WT.num SW.full))))))
 refine OK.ite (fun e => ?_) (fun e12 => ?_)
 ·have e : i.Op = 12 := by simpa using e
  exact OK.bind2 (nums_ok _) (fun a _ => OK.bind2 (word_ok _) (fun b _ => OK.bind2 (first_ok _) (fun c _ => OK.ret (notLoop (by omega) (fun _ => hk)))))
 refine OK.ite (fun e => ?_) (fun e13 => ?_)
 ·have e : i.Op = 13 := by simpa using e
  rw [hD (by omega)]
  exact OK.ret (notLoop (by omega) (fun _ => kw (WT.num SW.full)))
 refine OK.ite (fun e => ?_) (fun e14 => ?_)
 ·have e : i.Op = 14 := by simpa using e
  have him := right_imm14 hr e
  rw [hD (by omega)]
  simp only [Option.bind_some]
  refine OK.ite (fun _ => OK.ret (notLoop (by omega) (fun h => by simp at h))) (fun hlt => OK.ret (notLoop (by omega) (fun _ => kw (.inr (.inr ⟨rfl, rfl, him.1, ?_⟩)))))
  have := of_decide_eq_false hlt
  show i.Imm < _
  omega
 refine OK.ite (fun e => ?_) (fun e15 => ?_)
 ·have e : i.Op = 15 := by simpa using e
  exact OK.ret (notLoop (by omega) (fun _ => hk))
 refine OK.bind2 (R := fun o => o = inB i.Op 16 19) ?_ (fun o ho => ?_)
 ·refine OK.ite (fun e => OK.ret ?_) (fun e => OK.ite (fun e => OK.ret ?_) (fun e2 => OK.ite (fun e => OK.ret ?_) (fun e3 => OK.ret ?_)))
  ·have e : i.Op = 16 := by simpa using e
   simp [e, inB]
  ·have e : i.Op = 17 := by simpa using e
   simp [e, inB]
  ·have e : i.Op = 18 := by simpa using e
   simp [e, inB]
  ·simp only [beq_eq_false_iff_ne, ne_eq] at e e2 e3
   rcases Bool.eq_false_or_eq_true (i.Op == 19) with e4 | e4
   ·have e5 : i.Op = 19 := by simpa using e4
    simp [e5, inB]
   ·have e5 : i.Op ≠ 19 := by simpa using e4
    rw [e4, Eq.comm, inB, Bool.and_eq_false_iff]
    simp only [decide_eq_false_iff_not]
    omega
 refine OK.ite (fun e => ?_) (fun e16 => ?_)
 ·rw [ho] at e
  have e : 16 <= i.Op /\ i.Op <= 19 := by simpa [inB] using e
  exact OK.bind2 (nums_ok _) (fun a _ => OK.ret (notLoop (by omega) (fun _ => hk)))
 refine OK.ite (fun e => ?_) (fun e20 => ?_)
 ·have e : i.Op = 20 := by simpa using e
  have hlp := hg.fine.loop hi e
  have ew : w64 ((p : Int) - i.D) = (((p : Int) - i.D).toNat : Int) := by rw [w64_eq (by omega) (by omega)]; omega
  obtain ⟨hd, hd1, hd2⟩ := idx_lt (xs := j.came) (p := ((p : Int) - i.D).toNat) (by rw [h.lenC]; omega)
  refine OK.bind2 (nums_ok _) (fun a _ => OK.ite (fun ha => OK.ret (fun h0 => absurd h0 (by simpa using ha))) (fun _ => ?_))
  refine OK.bind2 (OK.count (Q := fun o => match o with | .inl _ => ∀ q, q < 8 -> fitsB (k q) (hd q) | .inr r => r.2 ≠ 0) (fun t _ => ∀ q, q < t -> fitsB (k q) (hd q)) (fun q hq => by omega) (fun t s again ht hI kk => ?_) (fun _ hI => hI)) (fun o ho => ?_)
  ·unfold judge_judge_one_l1
   simp only [ainN ht, ew, hd2, Option.bind_some]
   refine OK.bind2 (fits_ok _ _) (fun r hr => OK.ite (fun _ => OK.ret (by simp)) (fun hn => kk _ (fun q hq => ?_)))
   by_cases hqt : q < t
   ·exact hI q hqt
   ·obtain rfl : q = t := by omega
    exact hr (by simpa using hn)
  ·cases o with
   | inl _ =>
    refine OK.ret (fun _ => ⟨hk, fun i' hi' _ q hq x hx h1 h2 => ?_⟩)
    rw [hi] at hi'; cases hi'
    rw [hk1] at h1; cases h1
    rw [hd1] at h2; cases h2
    exact ho q hq
   | inr r => exact OK.ret (fun h0 => absurd h0 ho)
 refine OK.ite (fun e => ?_) (fun e21 => ?_)
 ·have e : i.Op = 21 := by simpa using e
  have him := right_imm hr e
  obtain ⟨n, hn⟩ := Int.eq_ofNat_of_zero_le him.1
  rw [hn]
  obtain ⟨l, hl, hl3⟩ := args_ok ⟨n, by omega⟩
  obtain ⟨sg, hs1, hs2, hs3⟩ := sig_ok ⟨n, by omega⟩
  have hl' : sigs_Args 1000 (n : Int) = some l := hl
  have hs1' : sigs_of (n : Int) = some (sg, true) := hs1
  simp only [hl', Option.bind_some]
  have ec : w64 (1 + (l.length : Int)) = ((1 + l.length : Nat) : Int) := by rw [w64_eq (by omega) (by omega)]; simp
  have ec1 : (1 : Int) = ((1 : Nat) : Int) := rfl
  have hcut : ∃ ys, cut (arrL 8 k) 1 (w64 (1 + (l.length : Int))) = some ys := by
   rw [ec]
   exact ⟨_, cut_ok (lo := 1) (by omega) (by rw [arrL_len]; omega)⟩
  obtain ⟨ys, hys⟩ := hcut
  rw [hys]
  simp only [Option.bind_some]
  refine OK.bind2 (checkS_ok ⟨n, by omega⟩ hl ys) (fun r _ => ?_)
  unfold sigs_Result
  simp only [hs1', Option.bind_some]
  refine OK.ret (notLoop (by omega) (fun _ => ?_))
  exact kw (WT.num ⟨by simp, by simpa using hs2, by simpa using hs3⟩)
 refine OK.ite (fun e => ?_) (fun e22 => ?_)
 ·have e : i.Op = 22 := by simpa using e
  exact OK.bind2 (nums_ok _) (fun a _ => OK.ret (notLoop (by omega) (fun _ => hk)))
 simp only [beq_eq_false_iff_ne, ne_eq] at e0 e11 e12 e13 e14 e15 e20 e21 e22
 have e16' : ¬ (16 <= i.Op /\ i.Op <= 19) := by
  rw [ho] at e16
  intro h
  simp [inB, h] at e16
 refine OK.bind2 (do_ok (hk _ (by omega)).span hs.span) (fun r hr => ?_)
 rw [hD (by omega)]
 simp only [Option.bind_some]
 exact OK.bind2 (nums_ok _) (fun a _ => OK.ret (notLoop (by omega) (fun _ => kw (WT.num hr))))
end Go.Proofs.YtgmmfjpmahcocaaGreatDoor
set_option linter.unusedVariables false
set_option linter.unusedSimpArgs false
namespace Go.Proofs.YtgmmfjpmahcocaaGreatDoor
open Go.Sx
theorem contains_eq (l : List Int) (m : Int) : slices_Contains_int_int l m = some (l.contains m) := by
 unfold slices_Contains_int_int slices_Index_int_int
 rw [search0 (fun i => if (l[i]? == some m) then some (i : Int) else none) (N := l.length)]
 ·simp only [Option.bind_some]
  cases hf : findN (fun i => if (l[i]? == some m) then some (i : Int) else none) l.length 0 with
  | some v =>
   obtain ⟨j, _, h2, h3, _⟩ := findN_some hf
   split at h3
   ·rename_i h
    cases h3
    have : m ∈ l := List.mem_of_getElem? (by simpa using h)
    simp [sumOf, this]
   ·cases h3
  | none =>
   have := findN_none hf
   have hm : m ∉ l := by
    intro hm
    obtain ⟨j, hj, rfl⟩ := List.mem_iff_getElem.1 hm
    have := this j (by omega) (by omega)
    simp [hj] at this
   simp [sumOf, hm]
 ·intro j again hj
  unfold slices_Index_int_int_l1
  simp only [idxN hj, Option.bind_some, List.getElem?_eq_getElem hj]
  rcases Bool.eq_false_or_eq_true (m == l[j]) with h | h
  ·have e : m = l[j] := by simpa using h
   simp [e]
  ·have e : ¬ m = l[j] := by simpa using h
   have e2 : ¬ l[j] = m := fun x => e x.symm
   simp [e, e2]
def GoodM (l : List Int) : Prop := (∀ x ∈ l, 0 <= x /\ x < 4) /\ l.Nodup /\ l.length <= 4
theorem nodup_take {l : List Int} {i : Nat} (h : i < l.length) : (l.take (i + 1)).Nodup ↔ (l.take i).Nodup /\ l[i] ∉ l.take i := by
 rw [List.take_add_one, List.getElem?_eq_getElem h]
 simp only [Option.toList_some]
 rw [List.nodup_append]
 constructor
 ·rintro ⟨h1, _, h3⟩
  exact ⟨h1, fun hm => h3 _ hm _ (by simp) rfl⟩
 ·rintro ⟨h1, h2⟩
  refine ⟨h1, by simp, fun a ha b hb e => ?_⟩
  simp at hb
  subst hb; subst e
  exact h2 ha
theorem good_ok (l : List Int) : OK (judge_good l) (fun r => r = true ↔ GoodM l) := by
 unfold judge_good
 refine OK.bind2 (OK.count (Q := fun o => match o with | .inl _ => (∀ x ∈ l, 0 <= x /\ x < 4) /\ l.Nodup | .inr r => r = false /\ ¬ GoodM l) (fun i _ => (∀ x ∈ l.take i, 0 <= x /\ x < 4) /\ (l.take i).Nodup) (by simp) (fun i s again hi hI k => ?_) (fun s hI => ?_)) (fun o ho => ?_)
 ·unfold judge_good_l1
  simp only [idxN hi, Option.bind_some, cut_pre (show i <= l.length by omega), contains_eq]
  refine OK.bind2 (R := fun o => o = true ↔ ¬ (0 <= l[i] /\ l[i] < 4 /\ l[i] ∉ l.take i)) ?_ (fun o ho => ?_)
  ·refine OK.ite (fun h => OK.ret ?_) (fun h => OK.ite (fun h2 => OK.ret ?_) (fun h2 => OK.ret ?_))
   ·simp at h; simp; omega
   ·simp at h h2; simp; omega
   ·simp at h h2
    have h3 : 0 <= l[i] := by omega
    have h4 : l[i] < 4 := by omega
    simp [h3, h4]
  refine OK.ite (fun h => OK.ret ⟨rfl, fun hg => ?_⟩) (fun h => k _ ?_)
  ·have := (nodup_take hi).1 (hg.2.1.sublist (List.take_sublist _ _))
   have hm := hg.1 l[i] (List.getElem_mem _)
   exact (ho.1 h) ⟨hm.1, hm.2, this.2⟩
  ·have hh : 0 <= l[i] /\ l[i] < 4 /\ l[i] ∉ l.take i := Classical.byContradiction (fun hc => by rw [ho.2 hc] at h; cases h)
   refine ⟨fun x hx => ?_, (nodup_take hi).2 ⟨hI.2, hh.2.2⟩⟩
   rw [List.take_add_one, List.getElem?_eq_getElem hi] at hx
   rcases List.mem_append.1 hx with hx | hx
   ·exact hI.1 x hx
   ·simp at hx; subst hx; exact ⟨hh.1, hh.2.1⟩
 ·simpa using hI
 ·cases o with
  | inl _ =>
   refine OK.ret ?_
   simp only [decide_eq_true_eq]
   exact ⟨fun h => ⟨ho.1, ho.2, by omega⟩, fun h => by have := h.2.2; omega⟩
  | inr r => exact OK.ret ⟨fun h => (by rw [ho.1] at h; cases h), fun h => absurd h ho.2⟩
def Clos (code : List api_Inst) (j : judge_judge) : Prop := ∀ (q a : Nat) (ia : api_Inst), j.any[q]? = some true -> code[a]? = some ia -> ia.Op = 20 -> (a : Int) - ia.D < q -> q <= a -> j.any[((a : Int) - ia.D).toNat]? = some true
theorem Clos.ways {code : List api_Inst} (hg : Good code) {p : Nat} {j j' : judge_judge} (h : Clos code j) (hp : j.any[p]? = some true) (hw : Ways code p j j') : Clos code j' := by
 intro q a ia hq ha ho h1 h2
 have hlp := hg.fine.loop ha ho
 rcases hw.new q hq with h3 | ⟨i, hi, hway⟩
 ·exact hw.keep _ (h q a ia h3 ha ho h1 h2)
 ·
  by_cases hin : (a : Int) - ia.D <= p /\ p <= a
  ·by_cases hh : (p : Int) = a - ia.D
   ·rw [<- hh]
    exact hw.keep _ (by simpa using hp)
   ·exact hw.keep _ (h p a ia hp ha ho (by omega) hin.2)
  ·exfalso
   rcases hway with ⟨hon, rfl⟩ | ⟨hl, hd, hqd⟩
   ·omega
   ·refine hg.en p (List.getElem?_eq_some_iff.1 hi).1 ⟨i, hi, hl, hd, a, ia, q, (List.getElem?_eq_some_iff.1 ha).1, ha, ho, hqd, (covers_iff ha ho).2 ⟨by omega, by omega⟩, ?_, by omega⟩
    rcases Bool.eq_false_or_eq_true (covers code p a) with hc | hc
    ·exact absurd ((covers_iff ha ho).1 hc) (fun hc => hin ⟨hc.1, by omega⟩)
    ·exact hc
structure Upto (m : api_Module) (n : Nat) (j : judge_judge) : Prop where
 ji : JI m j
 zero : j.any[0]? = some true
 clos : Clos m.Code j
 fits : ∀ (p : Nat) (i : api_Inst), p < n -> m.Code[p]? = some i -> i.Op = 20 -> j.any[p]? = some true -> ∀ q, q < 8 -> ∀ x h, j.came[p]? = some x -> j.came[((p : Int) - i.D).toNat]? = some h -> fitsB (x q) (h q)
theorem step_ok {m : api_Module} {j : judge_judge} {n : Nat} (h : Upto m n j) (hg : Good m.Code) (hn : n < m.Code.length) (again : judge_judge -> Option (judge_judge ⊕ ((Option judge_judge) × Int × Int)))
  {Q : (judge_judge ⊕ ((Option judge_judge) × Int × Int)) -> Prop} (hk : ∀ j', Upto m (n + 1) j' -> OK (again j') Q) (he : ∀ e, e ≠ 0 -> Q (.inr (none, (n : Int), e))) : OK (judge_judged_l1 1000 n again j) Q := by
 unfold judge_judged_l1
 obtain ⟨a, ha, ha2⟩ := idx_lt (xs := j.any) (p := n) (by rw [h.ji.lenA]; exact hn)
 simp only [ha2, Option.bind_some]
 refine OK.ite (fun hf => ?_) (fun hf => ?_)
 ·have hf : a = false := by simpa using hf
  refine hk j ⟨h.ji, h.zero, h.clos, fun p i hp hi ho hany => ?_⟩
  by_cases e : p = n
  ·subst e; rw [ha, hf] at hany; cases hany
  ·exact h.fits p i (by omega) hi ho hany
 have hat : j.any[n]? = some true := by rw [ha]; simpa using hf
 refine OK.bind2 (widen_ok h.ji hg hn) (fun j1 ⟨hj1, ha1, hc1⟩ => ?_)
 refine OK.bind2 (one_ok hj1 hg hn) (fun r hr => ?_)
 refine OK.ite (fun e => OK.ret (he _ (by simpa using e))) (fun e => ?_)
 have hr := hr (by simpa using e)
 refine OK.bind2 (ways_ok hj1 hg hn hr.1) (fun j2 ⟨hj2, hw⟩ => hk j2 ?_)
 have hcl : Clos m.Code j1 := by intro q a ia; rw [ha1]; exact h.clos q a ia
 refine ⟨hj2, hw.keep _ (by rw [ha1]; exact h.zero), hcl.ways hg (by rw [ha1]; exact hat) hw, fun p i hp hi ho hany q hq x hh hx hhd => ?_⟩
 have hlp := hg.fine.loop hi ho
 rw [(hw.same p (by omega)).1] at hx
 rw [(hw.same _ (by omega)).1] at hhd
 rw [(hw.same p (by omega)).2, ha1] at hany
 by_cases e : p = n
 ·subst e
  exact hr.2 i hi ho q hq x hh hx hhd
 ·rw [hc1 p e] at hx
  rw [hc1 _ (by omega)] at hhd
  exact h.fits p i (by omega) hi ho hany q hq x hh hx hhd
structure Judged (m : api_Module) (r : (Option judge_judge) × Int × Int) : Prop where
 place : r.2.1 = 0 \/ 0 <= r.2.1 /\ r.2.1 < m.Code.length
 good : r.2.2 = 0 -> r.2.1 = 0 /\ Good m.Code /\ GoodM m.Maps /\ ∃ j, r.1 = some j /\ Upto m m.Code.length j
 bad : r.2.2 ≠ 0 -> r.1 = none
theorem upto0 {m : api_Module} (hg : Good m.Code) : Upto m 0 ⟨m, List.replicate m.Code.length (fun _ => zeroT), (List.replicate m.Code.length false).set 0 true, lps m.Code m.Code.length⟩ := by
 have hn := hg.n1
 refine ⟨⟨rfl, by simp, by simp, rfl, fun q x hx r _ => ?_⟩, by show (List.set _ _ _)[0]? = _; rw [List.getElem?_set, if_pos rfl, if_pos (by rw [List.length_replicate]; omega)], fun q a ia hq ha ho h1 h2 => ?_, fun p i hp => by omega⟩
 ·obtain ⟨_, rfl⟩ := rep_get hx
  exact WT.zero
 ·have hlp := hg.fine.loop ha ho
  simp only at hq
  by_cases e : q = 0
  ·subst e; omega
  ·rw [set_ne e] at hq
   obtain ⟨_, h⟩ := rep_get hq
   cases h
theorem judged_ok (m : api_Module) : OK (judge_judged 1000 m) (Judged m) := by
 unfold judge_judged
 refine OK.bind2 (good_ok _) (fun g hgm => ?_)
 refine OK.ite (fun _ => OK.ret ⟨.inl rfl, fun h => by simp at h, fun _ => rfl⟩) (fun hgt => ?_)
 have hgm := hgm.1 (by simpa using hgt)
 obtain ⟨r, h1, h2, h3, h4⟩ := check_one m.Code
 simp only [h1, Option.bind_some]
 refine OK.ite (fun hr => OK.ret ⟨h2, fun h => absurd h (by simpa using hr), fun _ => rfl⟩) (fun hr => ?_)
 have hg := (h3 (by simpa using hr)).2
 have hn := hg.n64
 have hn1 := hg.n1
 refine OK.bind2 (R := fun o => o = judge_judge.mk m (List.replicate m.Code.length (fun _ => zeroT)) (List.replicate m.Code.length false) []) ?_ (fun o ho => ?_)
 ·refine OK.bind (OK.mkl (by omega) (by simp; omega) ?_)
  refine OK.bind (OK.mkl (by omega) (by simp; omega) (OK.ret ?_))
  simp [zeroT]
 subst ho
 simp only [good_loops hg, Option.bind_some]
 have e0 : idx (List.replicate m.Code.length false) 0 = some false := by
  have := idxN (xs := List.replicate m.Code.length false) (i := 0) (by simp; omega)
  simpa using this
 rw [e0]
 simp only [Option.bind_some]
 refine OK.bind2 (OK.count (Q := fun o => match o with | .inl j => Upto m m.Code.length j | .inr r => r.1 = none /\ r.2.2 ≠ 0 /\ 0 <= r.2.1 /\ r.2.1 < m.Code.length) (fun i s => Upto m i s) ?_ (fun i s again hi hI k => step_ok hI hg hi again k (fun e he => ⟨rfl, he, by simp, by simpa using hi⟩)) (fun s hI => hI)) (fun o ho => ?_)
 ·simpa using upto0 hg
 ·cases o with
  | inl j => exact OK.ret ⟨.inl rfl, fun _ => ⟨rfl, hg, hgm, j, rfl, ho⟩, fun h => absurd rfl h⟩
  | inr r => exact OK.ret ⟨.inr ho.2.2, fun h => absurd h ho.2.1, fun _ => ho.1⟩
def known (j : judge_judge) (p : Nat) : List api_Type := match j.any[p]?, j.came[p]? with
 | some true, some c => arrL 8 c
 | _, _ => []
end Go.Proofs.YtgmmfjpmahcocaaGreatDoor

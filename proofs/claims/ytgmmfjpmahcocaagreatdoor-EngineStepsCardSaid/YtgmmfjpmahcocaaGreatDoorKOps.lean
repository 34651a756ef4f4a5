/- Texts KOps, KFlow, KCheck of this proof. -/
import Derived.Test.YtgmmfjpmahcocaaGreatDoorEng2
import Derived.Test.YtgmmfjpmahcocaaGreatDoorF1
set_option linter.unusedVariables false
set_option linter.unusedSimpArgs false
namespace Go.Proofs.YtgmmfjpmahcocaaGreatDoor
open Go.Sx
def regB (n : Int) : Bool := decide (0 <= n) && decide (n < 8)
def srcB (i : api_Inst) : Bool := i.B == 8 || (regB i.B && i.Imm == 0)
def inB (n lo hi : Int) : Bool := decide (lo <= n) && decide (n <= hi)
def rightB (i : api_Inst) : Bool :=
 if i.Op == 0 || i.Op == 11 then regB i.D && i.A == 0 && srcB i
 else if inB i.Op 1 10 then regB i.D && regB i.A && srcB i
 else if i.Op == 12 then i.D == 0 && regB i.A && srcB i
 else if i.Op == 13 then regB i.D && i.A == 0 && i.B == 0 && inB i.Imm 0 1
 else if i.Op == 14 then regB i.D && i.A == 0 && i.B == 0 && inB i.Imm 0 3
 else if i.Op == 15 then inB i.D 0 63 && i.A == 0 && i.B == 0 && i.Imm == 0
 else if inB i.Op 16 19 then inB i.D 0 63 && regB i.A && srcB i
 else if i.Op == 20 then inB i.D 1 63 && regB i.A && i.B == 0 && inB i.Imm 1 255
 else if i.Op == 21 then i.D == 0 && i.A == 0 && i.B == 0 && inB i.Imm 0 6
 else if i.Op == 22 then i.D == 0 && regB i.A && i.B == 0 && i.Imm == 0
 else false
def jumpsB (i : api_Inst) : Bool := rightB i && inB i.Op 15 19
def loopsB (i : api_Inst) : Bool := rightB i && i.Op == 20
def goesB (i : api_Inst) : Int × Bool × Bool :=
 if jumpsB i then (i.D + 1, true, i.Op != 15)
 else if loopsB i then (-i.D, true, true)
 else (0, false, rightB i && i.Op != 22)
theorem ops_cases (n : Int) : n < 0 \/ n >= 23 \/ n = 0 \/ n = 1 \/ n = 2 \/ n = 3 \/ n = 4 \/ n = 5 \/ n = 6 \/ n = 7 \/ n = 8 \/ n = 9 \/ n = 10 \/ n = 11 \/ n = 12 \/ n = 13 \/ n = 14 \/ n = 15 \/ n = 16 \/ n = 17 \/ n = 18 \/ n = 19 \/ n = 20 \/ n = 21 \/ n = 22 := by omega
theorem register_eq (n : Int) : ops_register n = some (regB n) := rfl
theorem within_eq (n lo hi : Int) : ops_within n lo hi = some (inB n lo hi) := rfl
theorem ite_some {α : Type} {c : Bool} {A B : Option α} {a b : α} (hA : A = some a) (hB : B = some b) : (if c then A else B) = some (if c then a else b) := by
 cases c <;> simp [hA, hB]
theorem and_some {c : Bool} {A : Option Bool} {a : Bool} (hA : A = some a) : (if c then A else some false) = some (c && a) := by
 cases c <;> simp [hA]
def fstep (p : api_Inst) (s : Bool × api_Inst) (c : Int) : Bool × api_Inst :=
 if c == 100 then (s.1 && regB p.D, ⟨s.2.Op, 0, s.2.A, s.2.B, s.2.Imm⟩)
 else if c == 97 then (s.1 && regB p.A, ⟨s.2.Op, s.2.D, 0, s.2.B, s.2.Imm⟩)
 else if c == 115 then (if p.B == 8 then (s.1, ⟨s.2.Op, s.2.D, s.2.A, 0, 0⟩) else (s.1 && regB p.B, ⟨s.2.Op, s.2.D, s.2.A, 0, s.2.Imm⟩))
 else if c == 102 then (s.1 && inB p.Imm 0 1, ⟨s.2.Op, s.2.D, s.2.A, s.2.B, 0⟩)
 else if c == 109 then (s.1 && inB p.Imm 0 3, ⟨s.2.Op, s.2.D, s.2.A, s.2.B, 0⟩)
 else if c == 104 then (s.1 && inB p.Imm 0 6, ⟨s.2.Op, s.2.D, s.2.A, s.2.B, 0⟩)
 else if c == 110 then (s.1 && inB p.Imm 1 255, ⟨s.2.Op, s.2.D, s.2.A, s.2.B, 0⟩)
 else if c == 106 then (s.1 && inB p.D 0 63, ⟨s.2.Op, 0, s.2.A, s.2.B, s.2.Imm⟩)
 else if c == 98 then (s.1 && inB p.D 1 63, ⟨s.2.Op, 0, s.2.A, s.2.B, s.2.Imm⟩)
 else s
section
variable {p : api_Inst} {x : Bool} {o d a b m : Int}
theorem fs_d : fstep p (x, ⟨o, d, a, b, m⟩) 100 = (x && regB p.D, ⟨o, 0, a, b, m⟩) := rfl
theorem fs_a : fstep p (x, ⟨o, d, a, b, m⟩) 97 = (x && regB p.A, ⟨o, d, 0, b, m⟩) := rfl
theorem fs_s : fstep p (x, ⟨o, d, a, b, m⟩) 115 = (if p.B == 8 then (x, ⟨o, d, a, 0, 0⟩) else (x && regB p.B, ⟨o, d, a, 0, m⟩)) := rfl
theorem fs_f : fstep p (x, ⟨o, d, a, b, m⟩) 102 = (x && inB p.Imm 0 1, ⟨o, d, a, b, 0⟩) := rfl
theorem fs_m : fstep p (x, ⟨o, d, a, b, m⟩) 109 = (x && inB p.Imm 0 3, ⟨o, d, a, b, 0⟩) := rfl
theorem fs_h : fstep p (x, ⟨o, d, a, b, m⟩) 104 = (x && inB p.Imm 0 6, ⟨o, d, a, b, 0⟩) := rfl
theorem fs_n : fstep p (x, ⟨o, d, a, b, m⟩) 110 = (x && inB p.Imm 1 255, ⟨o, d, a, b, 0⟩) := rfl
theorem fs_j : fstep p (x, ⟨o, d, a, b, m⟩) 106 = (x && inB p.D 0 63, ⟨o, 0, a, b, m⟩) := rfl
theorem fs_b : fstep p (x, ⟨o, d, a, b, m⟩) 98 = (x && inB p.D 1 63, ⟨o, 0, a, b, m⟩) := rfl
end
theorem ite_again {σ ρ : Type} {again : σ -> Option ρ} {c : Bool} {A B : Option ρ} {a b : σ} (hA : A = again a) (hB : B = again b) : (if c then A else B) = again (if c then a else b) := by
 cases c <;> simp [hA, hB]
theorem and_again {σ ρ : Type} {again : (Bool × σ) -> Option ρ} {x y : Bool} {z : σ} : (if x then again (y, z) else again (false, z)) = again (x && y, z) := by
 cases x <;> simp
theorem l1_step {p : api_Inst} {r : ops_form × Bool} {i : Nat} {c : Int} {again : (Bool × api_Inst) -> Option (Bool × api_Inst)} {s : Bool × api_Inst} (h : sidx r.1.fields (i : Int) = some c) :
  ops_right_l1 p r i again s = again (fstep p s c) := by
 unfold ops_right_l1 fstep
 simp only [h, Option.bind_some, register_eq, within_eq]
 refine ite_again and_again ?_
 refine ite_again and_again ?_
 refine ite_again (ite_again rfl and_again) ?_
 refine ite_again and_again ?_
 refine ite_again and_again ?_
 refine ite_again and_again ?_
 refine ite_again and_again ?_
 refine ite_again and_again ?_
 refine ite_again and_again rfl
def fin (x : Bool × api_Inst) : Bool := x.1 && ((x.2.Op == 0) && ((x.2.D == 0) && ((x.2.A == 0) && ((x.2.B == 0) && (x.2.Imm == 0)))))
theorem right_at {p : api_Inst} {f : ops_form} (ho : ops_of p.Op = some (f, true)) {x : Bool × api_Inst} (hz : f.fields.size <= 3)
  (h : forN (ops_right_l1 p (f, true)) (fun (s : Bool × api_Inst) => (s.1, s.2)) f.fields.size 0 (true, ⟨0, p.D, p.A, p.B, p.Imm⟩) = some x) : ops_right p = some (fin x) := by
 have hr : room f.fields.size 1 = some () := by unfold room; rw [if_pos (by omega)]
 unfold ops_right fin
 simp only [ho, Option.bind_some, h, hr]
 cases x.1 <;> simp
theorem run1 {p : api_Inst} {f : ops_form} {c0 : Int} (ho : ops_of p.Op = some (f, true)) (hs : f.fields.size = 1) (h0 : sidx f.fields 0 = some c0) :
  ops_right p = some (fin (fstep p (true, ⟨0, p.D, p.A, p.B, p.Imm⟩) c0)) := by
 refine right_at ho (by omega) ?_
 rw [hs]
 simp only [forN]
 rw [l1_step (i := 0) (by simpa using h0)]
theorem run2 {p : api_Inst} {f : ops_form} {c0 c1 : Int} (ho : ops_of p.Op = some (f, true)) (hs : f.fields.size = 2) (h0 : sidx f.fields 0 = some c0) (h1 : sidx f.fields 1 = some c1) :
  ops_right p = some (fin (fstep p (fstep p (true, ⟨0, p.D, p.A, p.B, p.Imm⟩) c0) c1)) := by
 refine right_at ho (by omega) ?_
 rw [hs]
 simp only [forN]
 rw [l1_step (i := 0) (by simpa using h0), l1_step (i := 0 + 1) (by simpa using h1)]
theorem run3 {p : api_Inst} {f : ops_form} {c0 c1 c2 : Int} (ho : ops_of p.Op = some (f, true)) (hs : f.fields.size = 3) (h0 : sidx f.fields 0 = some c0) (h1 : sidx f.fields 1 = some c1) (h2 : sidx f.fields 2 = some c2) :
  ops_right p = some (fin (fstep p (fstep p (fstep p (true, ⟨0, p.D, p.A, p.B, p.Imm⟩) c0) c1) c2)) := by
 refine right_at ho (by omega) ?_
 rw [hs]
 simp only [forN]
 rw [l1_step (i := 0) (by simpa using h0), l1_step (i := 0 + 1) (by simpa using h1), l1_step (i := 0 + 1 + 1) (by simpa using h2)]
theorem opsRight_eq (i : api_Inst) : ops_right i = some (rightB i) := by
 have hcase := ops_cases i.Op
 obtain ⟨op, d, a, b, m⟩ := i
 simp only at hcase
 have out : op < 0 \/ op >= 23 -> ops_right ⟨op, d, a, b, m⟩ = some (rightB ⟨op, d, a, b, m⟩) := by
  intro h
  have e : ops_of op = some (⟨ByteArray.empty, ByteArray.empty⟩, false) := by unfold ops_of; rw [if_pos (by simp; omega)]
  have k : ∀ k : Int, 0 <= k -> k <= 22 -> (op == k) = false := by intro k h1 h2; simp; omega
  have d1 : inB op 1 10 = false := by simp [inB]; omega
  have d2 : inB op 16 19 = false := by simp [inB]; omega
  have r : rightB ⟨op, d, a, b, m⟩ = false := by
   unfold rightB
   simp only [k 0 (by decide) (by decide), k 11 (by decide) (by decide), k 12 (by decide) (by decide), k 13 (by decide) (by decide), k 14 (by decide) (by decide), k 15 (by decide) (by decide), k 20 (by decide) (by decide), k 21 (by decide) (by decide), k 22 (by decide) (by decide), d1, d2]
   rfl
  unfold ops_right
  rw [r]; simp [e]
 rcases hcase with h | h | h | h | h | h | h | h | h | h | h | h | h | h | h | h | h | h | h | h | h | h | h | h | h
 ·exact out (.inl h)
 ·exact out (.inr h)
 all_goals subst h
 all_goals
  first
   | rw [run2 (c0 := 100) (c1 := 115) rfl rfl rfl rfl]
   | rw [run3 (c0 := 100) (c1 := 97) (c2 := 115) rfl rfl rfl rfl rfl]
   | rw [run2 (c0 := 97) (c1 := 115) rfl rfl rfl rfl]
   | rw [run2 (c0 := 100) (c1 := 102) rfl rfl rfl rfl]
   | rw [run2 (c0 := 100) (c1 := 109) rfl rfl rfl rfl]
   | rw [run1 (c0 := 106) rfl rfl rfl]
   | rw [run3 (c0 := 106) (c1 := 97) (c2 := 115) rfl rfl rfl rfl rfl]
   | rw [run3 (c0 := 98) (c1 := 97) (c2 := 110) rfl rfl rfl rfl rfl]
   | rw [run1 (c0 := 104) rfl rfl rfl]
   | rw [run1 (c0 := 97) rfl rfl rfl]
  congr 1
  simp only [fs_d, fs_a, fs_s, fs_f, fs_m, fs_h, fs_n, fs_j, fs_b, fin, rightB, srcB]
  cases h8 : (b == 8)
  ·simp [h8, inB]
   try (rw [Bool.eq_iff_iff]; simp; constructor <;> intro h <;> simp_all; done)
  ·simp only [beq_iff_eq] at h8
   subst h8
   simp [inB]
   try (rw [Bool.eq_iff_iff]; simp; constructor <;> intro h <;> simp_all; done)
theorem uses_eq (op : Int) (h0 : 0 <= op) (h1 : op < 23) : ∃ f, ops_of op = some (f, true) /\ ops_form_uses f 106 = some (inB op 15 19) /\ ops_form_uses f 98 = some (op == 20) := by
 have hcase := ops_cases op
 rcases hcase with h | h | h | h | h | h | h | h | h | h | h | h | h | h | h | h | h | h | h | h | h | h | h | h | h
 ·omega
 ·omega
 all_goals subst h
 all_goals exact ⟨_, rfl, rfl, rfl⟩
theorem rightB_op {i : api_Inst} (h : rightB i = true) : 0 <= i.Op /\ i.Op < 23 := by
 rcases Int.lt_or_le i.Op 0 with h0 | h0
 ·exfalso
  have k : ∀ k : Int, 0 <= k -> (i.Op == k) = false := by intro k h1; simp; omega
  unfold rightB inB at h
  simp only [k 0 (by decide), k 11 (by decide), k 12 (by decide), k 13 (by decide), k 14 (by decide), k 15 (by decide), k 20 (by decide), k 21 (by decide), k 22 (by decide)] at h
  simp at h
  repeat' (split at h)
  all_goals first
   | omega
   | cases h
 ·refine ⟨h0, ?_⟩
  rcases Int.lt_or_le i.Op 23 with h1 | h1
  ·exact h1
  ·exfalso
   have k : ∀ k : Int, k <= 22 -> (i.Op == k) = false := by intro k h1; simp; omega
   unfold rightB inB at h
   simp only [k 0 (by decide), k 11 (by decide), k 12 (by decide), k 13 (by decide), k 14 (by decide), k 15 (by decide), k 20 (by decide), k 21 (by decide), k 22 (by decide)] at h
   simp at h
   repeat' (split at h)
   all_goals first
    | omega
    | cases h
theorem jump_D {i : api_Inst} (h : jumpsB i = true) : 0 <= i.D /\ i.D <= 63 /\ 15 <= i.Op /\ i.Op <= 19 := by
 unfold jumpsB at h
 simp only [Bool.and_eq_true] at h
 obtain ⟨hr, ho⟩ := h
 have hb : 15 <= i.Op /\ i.Op <= 19 := by simpa [inB] using ho
 refine ⟨?_, ?_, hb⟩ <;>
 ·have k : ∀ k : Int, k < 15 \/ k > 19 -> (i.Op == k) = false := by intro k h1; simp; omega
  have d1 : inB i.Op 1 10 = false := by simp [inB]; omega
  unfold rightB at hr
  simp only [k 0 (by decide), k 11 (by decide), k 12 (by decide), k 13 (by decide), k 14 (by decide), k 20 (by decide), k 21 (by decide), k 22 (by decide), d1] at hr
  simp [inB] at hr
  split at hr
  ·omega
  ·omega
theorem loop_D {i : api_Inst} (h : loopsB i = true) : 1 <= i.D /\ i.D <= 63 /\ i.Op = 20 /\ 1 <= i.Imm /\ i.Imm <= 255 := by
 unfold loopsB at h
 simp only [Bool.and_eq_true, beq_iff_eq] at h
 obtain ⟨hr, ho⟩ := h
 obtain ⟨op, d, a, b, m⟩ := i
 simp only at ho
 subst ho
 simp [rightB, inB] at hr
 simp
 omega
theorem opsGoes_eq (i : api_Inst) : ops_Goes i = some (goesB i) := by
 unfold ops_Goes
 rw [opsRight_eq]
 simp only [Option.bind_some]
 cases hr : rightB i with
 | false => simp [goesB, jumpsB, loopsB, hr]
 | true =>
  obtain ⟨f, h1, h2, h3⟩ := uses_eq i.Op (rightB_op hr).1 (rightB_op hr).2
  simp only [h1, Option.bind_some, h2, h3]
  cases hj : inB i.Op 15 19 with
  | true =>
   have := jump_D (i := i) (by simp [jumpsB, hr, hj])
   simp [goesB, jumpsB, hr, hj, w64_eq (x := i.D + 1) (by omega) (by omega)]
  | false =>
   cases hl : (i.Op == 20) with
   | true =>
    have := loop_D (i := i) (by simp [loopsB, hr, hl])
    have e : w64 (0 - i.D) = -i.D := by rw [w64_eq (by omega) (by omega)]; omega
    simp only [goesB, jumpsB, loopsB, hr, hj, hl, e]
    rfl
   | false =>
    simp [goesB, jumpsB, loopsB, hr, hj, hl]
end Go.Proofs.YtgmmfjpmahcocaaGreatDoor
set_option linter.unusedVariables false
set_option linter.unusedSimpArgs false
namespace Go.Proofs.YtgmmfjpmahcocaaGreatDoor
open Go.Sx
def findN {ρ : Type} (g : Nat -> Option ρ) : Nat -> Nat -> Option ρ
 | 0, _ => none
 | n + 1, i => match g i with
  | some v => some v
  | none => findN g n (i + 1)
def sumOf {ρ : Type} : Option ρ -> Unit ⊕ ρ
 | some v => .inr v
 | none => .inl ()
theorem search {ρ : Type} {body : Nat -> (Unit -> Option (Unit ⊕ ρ)) -> Unit -> Option (Unit ⊕ ρ)} (g : Nat -> Option ρ) {N : Nat}
  (hb : ∀ j again, j < N -> body j again () = match g j with | some v => some (.inr v) | none => again ()) :
  ∀ (n i : Nat), i + n = N -> forN body (fun _ => (.inl ())) n i () = some (sumOf (findN g n i)) := by
 intro n
 induction n with
 | zero => intro i _; rfl
 | succ n ih =>
  intro i hi
  show body i (forN body _ n (i + 1)) () = _
  rw [hb i _ (by omega)]
  unfold findN
  cases g i with
  | some v => rfl
  | none => exact ih (i + 1) (by omega)
theorem search0 {ρ : Type} {body : Nat -> (Unit -> Option (Unit ⊕ ρ)) -> Unit -> Option (Unit ⊕ ρ)} (g : Nat -> Option ρ) {N : Nat}
  (hb : ∀ j again, j < N -> body j again () = match g j with | some v => some (.inr v) | none => again ()) :
  forN body (fun _ => (.inl ())) N 0 () = some (sumOf (findN g N 0)) := search g hb N 0 (by omega)
theorem findN_some {ρ : Type} {g : Nat -> Option ρ} {v : ρ} : ∀ {n i : Nat}, findN g n i = some v -> ∃ j, i <= j /\ j < i + n /\ g j = some v /\ ∀ q, i <= q -> q < j -> g q = none := by
 intro n
 induction n with
 | zero => intro i h; cases h
 | succ n ih =>
  intro i h
  unfold findN at h
  cases hg : g i with
  | some u =>
   rw [hg] at h
   cases h
   exact ⟨i, Nat.le_refl _, by omega, hg, fun q h1 h2 => by omega⟩
  | none =>
   rw [hg] at h
   obtain ⟨j, h1, h2, h3, h4⟩ := ih h
   refine ⟨j, by omega, by omega, h3, fun q q1 q2 => ?_⟩
   rcases Nat.eq_or_lt_of_le q1 with e | e
   ·subst e; exact hg
   ·exact h4 q e q2
theorem findN_none {ρ : Type} {g : Nat -> Option ρ} : ∀ {n i : Nat}, findN g n i = none -> ∀ q, i <= q -> q < i + n -> g q = none := by
 intro n
 induction n with
 | zero => intro i _ q h1 h2; omega
 | succ n ih =>
  intro i h q h1 h2
  unfold findN at h
  cases hg : g i with
  | some u => rw [hg] at h; cases h
  | none =>
   rw [hg] at h
   rcases Nat.eq_or_lt_of_le h1 with e | e
   ·subst e; exact hg
   ·exact ih h q e (by omega)
theorem findN_none' {ρ : Type} {g : Nat -> Option ρ} : ∀ {n i : Nat}, (∀ q, i <= q -> q < i + n -> g q = none) -> findN g n i = none := by
 intro n
 induction n with
 | zero => intro i _; rfl
 | succ n ih =>
  intro i h
  unfold findN
  rw [h i (Nat.le_refl _) (by omega)]
  exact ih (fun q h1 h2 => h q (by omega) (by omega))
theorem idxN {α : Type} {xs : List α} {i : Nat} (h : i < xs.length) : idx xs (i : Int) = some xs[i] := by
 simp [Go.Sx.idx, h]
def errAt (n : Int) (p : Int) (i : api_Inst) : Int :=
 if !rightB i then 12
 else if (goesB i).2.1 && (decide (p + (goesB i).1 < 0) || decide (p + (goesB i).1 >= n)) then 30
 else if (goesB i).2.2 && p == n - 1 then 36 else 0
theorem goes_small (i : api_Inst) : -63 <= (goesB i).1 /\ (goesB i).1 <= 64 := by
 unfold goesB
 split
 ·rename_i h; have := jump_D h; simp; omega
 ·split
  ·rename_i h; have := loop_D h; simp; omega
  ·simp
def placeErr (code : List api_Inst) (p : Nat) : Option (Int × Int) := match code[p]? with
 | some i => if errAt code.length p i = 0 then none else some ((p : Int), errAt code.length p i)
 | none => none
theorem places_eq (code : List api_Inst) (hn : code.length <= 64) : flow_places code = some ((findN (placeErr code) code.length 0).getD (0, 0)) := by
 unfold flow_places
 rw [search0 (placeErr code) (N := code.length)]
 ·simp only [Option.bind_some]
  cases findN (placeErr code) code.length 0 <;> rfl
 ·intro j again hj
  unfold flow_places_l1
  have hx : code[j]? = some code[j] := List.getElem?_eq_getElem hj
  generalize hi : code[j] = x at hx
  have hg := goes_small x
  have e1 : w64 ((j : Int) + (goesB x).1) = j + (goesB x).1 := w64_eq (by omega) (by omega)
  have e2 : w64 ((code.length : Int) - 1) = code.length - 1 := w64_eq (by omega) (by omega)
  have hr : ops_Right [x] = some (rightB x) := by
   unfold ops_Right
   simp only [List.length_singleton, forN, ops_Right_l1]
   rcases Bool.eq_false_or_eq_true (rightB x) with h | h <;> simp [Go.Sx.idx, opsRight_eq, h]
  simp only [idxN hj, hi, Option.bind_some, opsGoes_eq, hr, e1, e2, placeErr, hx, errAt]
  rcases Bool.eq_false_or_eq_true (rightB x) with h1 | h1
  ·rcases Bool.eq_false_or_eq_true ((goesB x).2.1 && (decide ((j : Int) + (goesB x).1 < 0) || decide ((j : Int) + (goesB x).1 >= code.length))) with h2 | h2
   ·simp only [h1, h2]; rfl
   ·rcases Bool.eq_false_or_eq_true ((goesB x).2.2 && ((j : Int) == code.length - 1)) with h3 | h3
    ·simp only [h1, h2, h3]; rfl
    ·simp only [h1, h2, h3]; rfl
  ·simp only [h1]; rfl
def Fine (code : List api_Inst) : Prop := ∀ (p : Nat) (i : api_Inst), code[p]? = some i -> errAt code.length p i = 0
theorem fine_of {code : List api_Inst} (h : findN (placeErr code) code.length 0 = none) : Fine code := by
 intro p i hi
 have hp := (List.getElem?_eq_some_iff.1 hi).1
 have := findN_none h p (by omega) (by omega)
 unfold placeErr at this
 rw [hi] at this
 simp only at this
 split at this
 ·assumption
 ·cases this
theorem fine_none {code : List api_Inst} (h : Fine code) : findN (placeErr code) code.length 0 = none := by
 refine findN_none' (fun q _ hq => ?_)
 have hi := List.getElem?_eq_getElem (show q < code.length by omega)
 unfold placeErr
 rw [hi]
 simp only [h q _ hi, if_true]
theorem Fine.right {code : List api_Inst} (h : Fine code) {p : Nat} {i : api_Inst} (hi : code[p]? = some i) : rightB i = true := by
 have := h p i hi
 unfold errAt at this
 rcases Bool.eq_false_or_eq_true (rightB i) with h1 | h1
 ·exact h1
 ·rw [h1] at this; simp at this
theorem Fine.leads {code : List api_Inst} (h : Fine code) {p : Nat} {i : api_Inst} (hi : code[p]? = some i) (hl : (goesB i).2.1 = true) : 0 <= (p : Int) + (goesB i).1 /\ (p : Int) + (goesB i).1 < code.length := by
 have := h p i hi
 unfold errAt at this
 rw [h.right hi, hl] at this
 simp at this
 split at this
 ·omega
 ·rename_i h2; omega
theorem Fine.on {code : List api_Inst} (h : Fine code) {p : Nat} {i : api_Inst} (hi : code[p]? = some i) (hl : (goesB i).2.2 = true) : p + 1 < code.length := by
 have hp := (List.getElem?_eq_some_iff.1 hi).1
 have h1 := h p i hi
 unfold errAt at h1
 rw [h.right hi, hl] at h1
 rcases Nat.lt_or_ge (p + 1) code.length with h2 | h2
 ·exact h2
 ·exfalso
  have e : ((p : Int) == code.length - 1) = true := by simp; omega
  rw [e] at h1
  simp at h1
  split at h1 <;> omega
theorem Fine.loop {code : List api_Inst} (h : Fine code) {p : Nat} {i : api_Inst} (hi : code[p]? = some i) (ho : i.Op = 20) : 1 <= i.D /\ i.D <= p /\ 1 <= i.Imm /\ i.Imm <= 255 /\ p + 1 < code.length := by
 have hr := h.right hi
 have hl : loopsB i = true := by simp [loopsB, hr, ho]
 have hj : jumpsB i = false := by simp [jumpsB, inB, ho]
 have hg : goesB i = (-i.D, true, true) := by simp [goesB, hl, hj]
 have h1 := h.leads hi (by rw [hg])
 have h2 := h.on hi (by rw [hg])
 rw [hg] at h1
 have h3 := loop_D hl
 simp only at h1
 omega
def loopAt (i : api_Inst) (p : Nat) : api_Loop := ⟨(p : Int) - i.D, p, i.Imm⟩
def lps (code : List api_Inst) : Nat -> List api_Loop
 | 0 => []
 | k + 1 => match code[k]? with
  | some i => if i.Op == 20 then lps code k ++ [loopAt i k] else lps code k
  | none => lps code k
theorem lps_len (code : List api_Inst) : ∀ k, (lps code k).length <= k
 | 0 => Nat.le_refl _
 | k + 1 => by
  have := lps_len code k
  unfold lps
  split
  ·split
   ·simp; omega
   ·omega
  ·omega
theorem mem_lps {code : List api_Inst} {l : api_Loop} : ∀ {k : Nat}, l ∈ lps code k ↔ ∃ q i, q < k /\ code[q]? = some i /\ i.Op = 20 /\ l = loopAt i q
 | 0 => by simp [lps]
 | k + 1 => by
  unfold lps
  have ih := @mem_lps code l k
  constructor
  ·intro h
   split at h
   ·rename_i i hi
    split at h
    ·rename_i ho
     rcases List.mem_append.1 h with h | h
     ·obtain ⟨q, j, h1, h2⟩ := ih.1 h
      exact ⟨q, j, by omega, h2⟩
     ·simp at h
      exact ⟨k, i, by omega, hi, by simpa using ho, h⟩
    ·obtain ⟨q, j, h1, h2⟩ := ih.1 h
     exact ⟨q, j, by omega, h2⟩
   ·obtain ⟨q, j, h1, h2⟩ := ih.1 h
    exact ⟨q, j, by omega, h2⟩
  ·rintro ⟨q, j, h1, h2, h3, h4⟩
   rcases Nat.lt_or_ge q k with hq | hq
   ·have := ih.2 ⟨q, j, hq, h2, h3, h4⟩
    split
    ·split
     ·exact List.mem_append_left _ this
     ·exact this
    ·exact this
   ·have e : q = k := by omega
    subst e
    rw [h2]
    simp only [h3]
    rw [if_pos (by simp)]
    exact List.mem_append_right _ (by simp [h4])
theorem lps_sorted (code : List api_Inst) : ∀ k, (lps code k).Pairwise (fun a b => a.At < b.At) /\ ∀ l ∈ lps code k, l.At < k
 | 0 => ⟨List.Pairwise.nil, by simp [lps]⟩
 | k + 1 => by
  obtain ⟨h1, h2⟩ := lps_sorted code k
  unfold lps
  split
  ·split
   ·refine ⟨List.pairwise_append.2 ⟨h1, List.pairwise_singleton _ _, fun a ha b hb => ?_⟩, fun l hl => ?_⟩
    ·simp at hb; subst hb; exact h2 a ha
    ·rcases List.mem_append.1 hl with hl | hl
     ·have := h2 l hl; omega
     ·simp at hl; subst hl; simp [loopAt]; omega
   ·exact ⟨h1, fun l hl => by have := h2 l hl; omega⟩
  ·exact ⟨h1, fun l hl => by have := h2 l hl; omega⟩
theorem loops_eq {code : List api_Inst} (hn : code.length <= 64) (hD : Fine code) : flow_loops code = some (lps code code.length) := by
 refine OK.is ?_
 unfold flow_loops
 refine OK.bind2 (R := fun y => y = lps code code.length) ?_ (fun x hx => OK.ret hx)
 refine OK.count (fun i s => s = lps code i) rfl ?_ (fun s h => h)
 intro i s again hi hs k
 subst hs
 unfold flow_loops_l1
 refine OK.bind (OK.getN hi (fun x hx => ?_))
 have hl := lps_len code i
 refine OK.ite (fun h => ?_) (fun h => ?_)
 ·have hd := hD.loop hx (by simpa using h)
  refine OK.bind (OK.hasRoom (by simp; omega) ?_)
  refine k _ ?_
  rw [lps, hx]
  simp only [h, if_true, loopAt]
  rw [w64_eq (by omega) (by omega)]
 ·refine k _ ?_
  rw [lps, hx]
  simp [h]
def covers (code : List api_Inst) (p a : Nat) : Bool := match code[a]? with
 | some i => i.Op == 20 && decide ((a : Int) - i.D <= p) && decide (p <= a)
 | none => false
def bod (code : List api_Inst) (k p : Nat) : List Int := ((List.range k).filter (covers code p)).map (fun (a : Nat) => (a : Int))
theorem bod_succ (code : List api_Inst) (k p : Nat) : bod code (k + 1) p = if covers code p k then bod code k p ++ [(k : Int)] else bod code k p := by
 unfold bod
 rw [List.range_succ, List.filter_append, List.map_append]
 cases h : covers code p k <;> simp [h]
theorem bod_len (code : List api_Inst) (k p : Nat) : (bod code k p).length <= k := by
 unfold bod
 rw [List.length_map]
 exact Nat.le_trans (List.length_filter_le _ _) (by simp)
theorem mem_bod {code : List api_Inst} {k p : Nat} {x : Int} : x ∈ bod code k p ↔ ∃ a : Nat, a < k /\ covers code p a = true /\ x = a := by
 unfold bod
 simp only [List.mem_map, List.mem_filter, List.mem_range]
 constructor
 ·rintro ⟨a, ⟨h1, h2⟩, rfl⟩; exact ⟨a, h1, h2, rfl⟩
 ·rintro ⟨a, h1, h2, rfl⟩; exact ⟨a, ⟨h1, h2⟩, rfl⟩
theorem has_bod {code : List api_Inst} {n p a : Nat} (ha : a < n) : (bod code n p).contains (a : Int) = covers code p a := by
 rw [Bool.eq_iff_iff, List.contains_iff_mem, mem_bod]
 constructor
 ·rintro ⟨b, _, h2, h3⟩
  have : a = b := by omega
  subst this
  exact h2
 ·intro h
  exact ⟨a, ha, h, rfl⟩
open Classical in
noncomputable def pick {ρ : Type} (X : Prop) (v : ρ) : Option ρ := if X then some v else none
theorem pick_t {ρ : Type} {X : Prop} {v : ρ} (h : X) : pick X v = some v := by unfold pick; rw [if_pos h]
theorem pick_f {ρ : Type} {X : Prop} {v : ρ} (h : ¬ X) : pick X v = none := by unfold pick; rw [if_neg h]
theorem pick_some {ρ : Type} {X : Prop} {v u : ρ} (h : pick X v = some u) : X /\ v = u := by
 unfold pick at h
 split at h
 ·rename_i hx; cases h; exact ⟨hx, rfl⟩
 ·cases h
theorem pick_none {ρ : Type} {X : Prop} {v : ρ} (h : pick X v = none) : ¬ X := by
 unfold pick at h
 split at h
 ·cases h
 ·rename_i hx; exact hx
def First (X : Nat -> Prop) (n : Nat) : Option Nat -> Prop
 | some l => l < n /\ X l /\ ∀ q, q < l -> ¬ X q
 | none => ∀ q, q < n -> ¬ X q
theorem First.unique {X : Nat -> Prop} {n : Nat} {a b : Option Nat} (ha : First X n a) (hb : First X n b) : a = b := by
 cases a with
 | none =>
  cases b with
  | none => rfl
  | some l => exact absurd hb.2.1 (ha l hb.1)
 | some k =>
  cases b with
  | none => exact absurd ha.2.1 (hb k ha.1)
  | some l =>
   rcases Nat.lt_trichotomy k l with h | h | h
   ·exact absurd ha.2.1 (hb.2.2 k h)
   ·rw [h]
   ·exact absurd hb.2.1 (ha.2.2 l h)
theorem first_findN {ρ : Type} {X : Nat -> Prop} {n : Nat} {v : Nat -> ρ} : ∃ o, First X n o /\ findN (fun l => pick (X l) (v l)) n 0 = o.map v := by
 cases h : findN (fun l => pick (X l) (v l)) n 0 with
 | none => exact ⟨none, fun q hq => pick_none (findN_none h q (by omega) (by omega)), rfl⟩
 | some u =>
  obtain ⟨j, _, h2, h3, h4⟩ := findN_some h
  obtain ⟨hx, rfl⟩ := pick_some h3
  exact ⟨some j, ⟨by omega, hx, fun q hq => pick_none (h4 q (by omega) hq)⟩, rfl⟩
def Crs (code : List api_Inst) (l m : Nat) : Prop := ∃ il im, code[l]? = some il /\ il.Op = 20 /\ code[m]? = some im /\ im.Op = 20 /\ (l : Int) - il.D <= m /\ (m : Int) - im.D < l - il.D
def Cr (code : List api_Inst) (l : Nat) : Prop := ∃ m, m < l /\ Crs code l m
theorem covers_iff {code : List api_Inst} {p a : Nat} {i : api_Inst} (hi : code[a]? = some i) (ho : i.Op = 20) : covers code p a = true ↔ (a : Int) - i.D <= p /\ p <= a := by
 simp [covers, hi, ho]
theorem crs_iff {code : List api_Inst} (hD : Fine code) {l m : Nat} (hml : m < l) {il im : api_Inst} (h1 : code[l]? = some il) (h2 : il.Op = 20) (h3 : code[m]? = some im) (h4 : im.Op = 20) :
  Crs code l m ↔ (∃ p, p < code.length /\ covers code p m = true /\ covers code p l = true) /\ (∃ p, p < code.length /\ covers code p m = true /\ covers code p l = false) := by
 have d1 := hD.loop h1 h2
 have d2 := hD.loop h3 h4
 constructor
 ·rintro ⟨il', im', e1, _, e3, _, c1, c2⟩
  rw [h1] at e1; cases e1
  rw [h3] at e3; cases e3
  refine ⟨⟨m, by omega, (covers_iff h3 h4).2 (by omega), (covers_iff h1 h2).2 (by omega)⟩, ⟨((m : Int) - im.D).toNat, by omega, (covers_iff h3 h4).2 (by omega), ?_⟩⟩
  cases hc : covers code ((m : Int) - im.D).toNat l with
  | false => rfl
  | true => have := (covers_iff h1 h2).1 hc; omega
 ·rintro ⟨⟨p, _, a1, a2⟩, ⟨q, _, b1, b2⟩⟩
  have a1 := (covers_iff h3 h4).1 a1
  have a2 := (covers_iff h1 h2).1 a2
  have b1 := (covers_iff h3 h4).1 b1
  refine ⟨il, im, h1, h2, h3, h4, by omega, ?_⟩
  rcases Int.lt_or_le ((m : Int) - im.D) (l - il.D) with h | h
  ·exact h
  ·exfalso
   have := (covers_iff h1 h2).2 (show (l : Int) - il.D <= q /\ q <= l by omega)
   rw [b2] at this
   cases this
theorem sorted_lt {ls : List api_Loop} (hs : ls.Pairwise (fun a b => a.At < b.At)) {i j : Nat} {a b : api_Loop} (hi : ls[i]? = some a) (hj : ls[j]? = some b) : a.At < b.At ↔ i < j := by
 obtain ⟨h1, rfl⟩ := List.getElem?_eq_some_iff.1 hi
 obtain ⟨h2, rfl⟩ := List.getElem?_eq_some_iff.1 hj
 constructor
 ·intro h
  rcases Nat.lt_trichotomy i j with h3 | h3 | h3
  ·exact h3
  ·subst h3; omega
  ·have := List.pairwise_iff_getElem.1 hs j i h2 h1 h3; omega
 ·intro h
  exact List.pairwise_iff_getElem.1 hs i j h1 h2 h
theorem cut_pre {α : Type} {xs : List α} {k : Nat} (hk : k <= xs.length) : cut xs 0 (k : Int) = some (xs.take k) := by
 unfold cut
 rw [if_pos (by omega)]
 simp
theorem nested1 {code : List api_Inst} (hn : code.length <= 64) (hD : Fine code) :
  ∃ o, First (Cr code) code.length o /\ forN (flow_nested_l1 (lps code code.length)) (fun _ => (.inl ())) (lps code code.length).length 0 () = some (sumOf (o.map fun (l : Nat) => ((l : Int), (31 : Int)))) := by
 have hs := (lps_sorted code code.length).1
 have hl := lps_len code code.length
 generalize hls : lps code code.length = ls at hs hl |-
 have mem : ∀ {l : api_Loop}, l ∈ ls ↔ ∃ q i, q < code.length /\ code[q]? = some i /\ i.Op = 20 /\ l = loopAt i q := by
  intro l; rw [<- hls]; exact mem_lps
 have main : forN (flow_nested_l1 ls) (fun _ => (.inl ())) ls.length 0 () = some (sumOf (findN (fun k => match ls[k]? with | some l => pick (Cr code l.At.toNat) (l.At, (31 : Int)) | none => none) ls.length 0)) := by
  refine search0 _ (N := ls.length) ?_
  intro k again hk
  have hx := List.getElem?_eq_getElem hk
  generalize hi : ls[k] = x at hx
  obtain ⟨q, i, hq, hqi, hop, rfl⟩ := mem.1 (List.mem_of_getElem? hx)
  unfold flow_nested_l1
  have htl : (ls.take k).length = k := by rw [List.length_take]; omega
  have inner : forN (flow_nested_l2 (loopAt i q) (ls.take k)) (fun _ => (.inl ())) k 0 () = some (sumOf (findN (fun m => match ls[m]? with | some l => pick (Crs code q l.At.toNat) ((q : Int), (31 : Int)) | none => none) k 0)) := by
   refine search0 _ (N := k) ?_
   intro m again hm
   have hml : m < ls.length := by omega
   have hy := List.getElem?_eq_getElem hml
   generalize hj : ls[m] = y at hy
   have hyt : idx (ls.take k) (m : Int) = some y := by
    rw [idxN (by omega)]
    simp [List.getElem_take, hj]
   obtain ⟨q', i', hq', hqi', hop', rfl⟩ := mem.1 (List.mem_of_getElem? hy)
   unfold flow_nested_l2
   simp only [hyt, hy, Option.bind_some]
   have e : ((loopAt i' q').At).toNat = q' := by simp [loopAt]
   rw [e]
   by_cases hc : Crs code q q'
   ·rw [pick_t hc]
    obtain ⟨il, im, e1, _, e3, _, c1, c2⟩ := hc
    rw [hqi] at e1; cases e1
    rw [hqi'] at e3; cases e3
    have : (decide ((loopAt i' q').At >= (loopAt i q).Head) && decide ((loopAt i' q').Head < (loopAt i q).Head)) = true := by
     have a1 : (loopAt i' q').At = q' := rfl
     have a2 : (loopAt i q).Head = q - i.D := rfl
     have a3 : (loopAt i' q').Head = q' - i'.D := rfl
     simp only [a1, a2, a3, Bool.and_eq_true, decide_eq_true_eq]; exact ⟨c1, c2⟩
    simp only [this]; rfl
   ·rw [pick_f hc]
    have : (decide ((loopAt i' q').At >= (loopAt i q).Head) && decide ((loopAt i' q').Head < (loopAt i q).Head)) = false := by
     cases h : (decide ((loopAt i' q').At >= (loopAt i q).Head) && decide ((loopAt i' q').Head < (loopAt i q).Head)) with
     | false => rfl
     | true =>
      exfalso; apply hc
      have a1 : (loopAt i' q').At = q' := rfl
      have a2 : (loopAt i q).Head = q - i.D := rfl
      have a3 : (loopAt i' q').Head = q' - i'.D := rfl
      simp only [a1, a2, a3, Bool.and_eq_true, decide_eq_true_eq] at h
      exact ⟨i, i', hqi, hop, hqi', hop', h.1, h.2⟩
    simp only [this]; rfl
  simp only [idxN hk, hi, hx, Option.bind_some, cut_pre (Nat.le_of_lt hk), htl, inner]
  have e : ((loopAt i q).At).toNat = q := by simp [loopAt]
  rw [e]
  cases hf : findN (fun m => match ls[m]? with | some l => pick (Crs code q l.At.toNat) ((q : Int), (31 : Int)) | none => none) k 0 with
  | some v =>
   obtain ⟨m, _, h2, h3, _⟩ := findN_some hf
   have hml : m < ls.length := by omega
   have hy := List.getElem?_eq_getElem hml
   rw [hy] at h3
   obtain ⟨hcr, rfl⟩ := pick_some h3
   have hlt := (sorted_lt hs hy hx).2 (by omega)
   obtain ⟨q', i', hq', hqi', hop', e'⟩ := mem.1 (List.mem_of_getElem? hy)
   rw [e'] at hcr hlt
   rw [pick_t ⟨q', by simp [loopAt] at hlt; omega, by simpa [loopAt] using hcr⟩]
   rfl
  | none =>
   have h0 := findN_none hf
   rw [pick_f]
   ·rfl
   ·rintro ⟨m, hm, hcr⟩
    obtain ⟨il, im, e1, _, e3, e4, c1, c2⟩ := id hcr
    have hmem := mem.2 ⟨m, im, by omega, e3, e4, rfl⟩
    obtain ⟨j, hj, hje⟩ := List.mem_iff_getElem.1 hmem
    have hy := List.getElem?_eq_getElem hj
    rw [hje] at hy
    have hlt := (sorted_lt hs hy hx).1 (by simp [loopAt]; omega)
    have := h0 j (by omega) (by omega)
    rw [hy] at this
    exact pick_none this (by simpa [loopAt] using hcr)
 cases hf : findN (fun k => match ls[k]? with | some l => pick (Cr code l.At.toNat) (l.At, (31 : Int)) | none => none) ls.length 0 with
 | none =>
  refine ⟨none, fun q hq hc => ?_, by rw [main, hf]; rfl⟩
  obtain ⟨m, hm, il, im, e1, e2, _⟩ := id hc
  obtain ⟨j, hj, hje⟩ := List.mem_iff_getElem.1 (mem.2 ⟨q, il, hq, e1, e2, rfl⟩)
  have := findN_none hf j (by omega) (by omega)
  rw [List.getElem?_eq_getElem hj, hje] at this
  exact pick_none this (by simpa [loopAt] using hc)
 | some v =>
  obtain ⟨k, _, h2, h3, h4⟩ := findN_some hf
  have hk : k < ls.length := by omega
  have hx := List.getElem?_eq_getElem hk
  rw [hx] at h3
  obtain ⟨hc, rfl⟩ := pick_some h3
  obtain ⟨q, i, hq, hqi, hop, e⟩ := mem.1 (List.mem_of_getElem? hx)
  refine ⟨some q, ⟨hq, ?_, fun q' hq' hc' => ?_⟩, ?_⟩
  ·rw [e] at hc; simpa [loopAt] using hc
  ·obtain ⟨m, hm, il, im, e1, e2, _⟩ := id hc'
   obtain ⟨j, hj, hje⟩ := List.mem_iff_getElem.1 (mem.2 ⟨q', il, by omega, e1, e2, rfl⟩)
   have hy := List.getElem?_eq_getElem hj
   have hlt := (sorted_lt hs hy hx).1 (by rw [hje, e]; simp [loopAt]; omega)
   have := h4 j (by omega) hlt
   rw [hy, hje] at this
   exact pick_none this (by simpa [loopAt] using hc')
  ·rw [main, hf, e]; rfl
def En (code : List api_Inst) (p : Nat) : Prop := ∃ i, code[p]? = some i /\ (goesB i).2.1 = true /\ 0 < (goesB i).1 /\ ∃ a ia t, a < code.length /\ code[a]? = some ia /\ ia.Op = 20 /\ (t : Nat) = (p : Int) + (goesB i).1 /\ covers code t a = true /\ covers code p a = false /\ (t : Int) ≠ a - ia.D
theorem goes_ne (i : api_Inst) (h : (goesB i).2.1 = true) : (goesB i).1 ≠ 0 := by
 unfold goesB at h |-
 split
 ·rename_i hj; have := jump_D hj; simp; omega
 ·split
  ·rename_i hl; have := loop_D hl; simp; omega
  ·rename_i h1 h2; simp [h1, h2] at h
theorem nested2 {code : List api_Inst} (hn : code.length <= 64) (hD : Fine code) :
  forN (flow_nested_l3 code (lps code code.length)) (fun _ => (.inl ())) code.length 0 () = some (sumOf (findN (fun p => pick (En code p) ((p : Int), (31 : Int))) code.length 0)) := by
 refine search0 _ (N := code.length) ?_
 intro p again hp
 have hx := List.getElem?_eq_getElem hp
 generalize hi : code[p] = x at hx
 have hg := goes_small x
 have e1 : w64 ((p : Int) + (goesB x).1) = p + (goesB x).1 := w64_eq (by omega) (by omega)
 have hl := lps_len code code.length
 have inner : forN (flow_nested_l4 (lps code code.length) p (goesB x)) (fun _ => (.inl ())) (lps code code.length).length 0 () =
   some (sumOf (findN (fun k => match (lps code code.length)[k]? with | some l => pick ((goesB x).2.1 = true /\ 0 < (goesB x).1 /\ ¬ (l.Head <= p /\ (p : Int) <= l.At) /\ (l.Head <= p + (goesB x).1 /\ p + (goesB x).1 <= l.At) /\ p + (goesB x).1 ≠ l.Head) ((p : Int), (31 : Int)) | none => none) (lps code code.length).length 0)) := by
  refine search0 _ (N := (lps code code.length).length) ?_
  intro k again hk
  have hy := List.getElem?_eq_getElem hk
  generalize hj : (lps code code.length)[k] = y at hy
  unfold flow_nested_l4
  simp only [idxN hk, hj, hy, Option.bind_some, flow_in, e1]
  by_cases hc : ((goesB x).2.1 = true /\ 0 < (goesB x).1 /\ ¬ (y.Head <= p /\ (p : Int) <= y.At) /\ (y.Head <= p + (goesB x).1 /\ p + (goesB x).1 <= y.At) /\ p + (goesB x).1 ≠ y.Head)
  ·rw [pick_t hc]
   obtain ⟨c1, c2, c3, c4, c5⟩ := hc
   have d1 : (decide ((p : Int) >= y.Head) && decide ((p : Int) <= y.At)) = false := by
    cases h : (decide ((p : Int) >= y.Head) && decide ((p : Int) <= y.At)) with
    | false => rfl
    | true => exfalso; apply c3; simp at h; omega
   have d2 : (decide ((p : Int) + (goesB x).1 >= y.Head) && decide ((p : Int) + (goesB x).1 <= y.At)) = true := by simp; omega
   have d3 : decide ((goesB x).1 > 0) = true := by simp; omega
   have d4 : ((p : Int) + (goesB x).1 != y.Head) = true := by simp; omega
   simp only [c1, d1, d2, d3, d4]; rfl
  ·rw [pick_f hc]
   rcases Bool.eq_false_or_eq_true (goesB x).2.1 with c1 | c1
   ·rcases Bool.eq_false_or_eq_true (decide ((goesB x).1 > 0)) with d3 | d3
    ·rcases Bool.eq_false_or_eq_true (decide ((p : Int) >= y.Head) && decide ((p : Int) <= y.At)) with d1 | d1
     ·simp only [c1, d3, d1]; rfl
     ·rcases Bool.eq_false_or_eq_true (decide ((p : Int) + (goesB x).1 >= y.Head) && decide ((p : Int) + (goesB x).1 <= y.At)) with d2 | d2
      ·rcases Bool.eq_false_or_eq_true ((p : Int) + (goesB x).1 != y.Head) with d4 | d4
       ·exfalso; apply hc
        simp at d1 d2 d3 d4
        exact ⟨c1, d3, by omega, by omega, d4⟩
       ·simp only [c1, d3, d1, d2, d4]; rfl
      ·simp only [c1, d3, d1, d2]; rfl
    ·simp only [c1, d3]; rfl
   ·simp only [c1]; rfl
 unfold flow_nested_l3
 simp only [idxN hp, hi, Option.bind_some, opsGoes_eq, inner]
 cases hf : findN (fun k => match (lps code code.length)[k]? with | some l => pick ((goesB x).2.1 = true /\ 0 < (goesB x).1 /\ ¬ (l.Head <= p /\ (p : Int) <= l.At) /\ (l.Head <= p + (goesB x).1 /\ p + (goesB x).1 <= l.At) /\ p + (goesB x).1 ≠ l.Head) ((p : Int), (31 : Int)) | none => none) (lps code code.length).length 0 with
 | some v =>
  obtain ⟨k, _, h2, h3, _⟩ := findN_some hf
  have hk : k < (lps code code.length).length := by omega
  have hy := List.getElem?_eq_getElem hk
  rw [hy] at h3
  obtain ⟨⟨c1, c2, c3, c4, c5⟩, rfl⟩ := pick_some h3
  obtain ⟨q, i, hq, hqi, hop, e⟩ := mem_lps.1 (List.mem_of_getElem? hy)
  rw [e] at c3 c4 c5
  simp only [loopAt] at c3 c4 c5
  have hpos : 0 <= (p : Int) + (goesB x).1 := by omega
  have hcv : covers code p q = false := by
   cases hcv : covers code p q with
   | false => rfl
   | true => exfalso; apply c3; have := (covers_iff hqi hop).1 hcv; omega
  have hE : En code p := ⟨x, hx, c1, c2, q, i, ((p : Int) + (goesB x).1).toNat, hq, hqi, hop, by omega, (covers_iff hqi hop).2 (by omega), hcv, by omega⟩
  rw [pick_t hE]
  rfl
 | none =>
  have h0 := findN_none hf
  rw [pick_f]
  ·rfl
  ·rintro ⟨i', hi', c1, c2, a, ia, t, ha, hia, hop, ht, v1, v2, v3⟩
   rw [hx] at hi'; cases hi'
   obtain ⟨j, hj, hje⟩ := List.mem_iff_getElem.1 (mem_lps.2 ⟨a, ia, ha, hia, hop, rfl⟩ : loopAt ia a ∈ lps code code.length)
   have := h0 j (by omega) (by omega)
   rw [List.getElem?_eq_getElem hj, hje] at this
   refine pick_none this ⟨c1, c2, ?_, ?_, ?_⟩
   ·intro hh
    simp only [loopAt] at hh
    have := (covers_iff hia hop).2 (show (a : Int) - ia.D <= p /\ p <= a by omega)
    rw [v2] at this; cases this
   ·have := (covers_iff hia hop).1 v1
    simp only [loopAt]; omega
   ·simp only [loopAt]; omega
def EnX (code : List api_Inst) (p : Nat) (d a : Int) : Prop := ∃ (q : Nat) (ia : api_Inst), a = q /\ q < code.length /\ code[q]? = some ia /\ covers code p q = false /\ (p : Int) + d ≠ q - ia.D
def times (code : List api_Inst) (p : Nat) : Nat -> Int
 | 0 => 1
 | k + 1 => match code[k]? with
  | some i => if covers code p k then times code p k * (i.Imm + 1) else times code p k
  | none => times code p k
def sumT (code : List api_Inst) : Nat -> Int
 | 0 => 0
 | k + 1 => sumT code k + times code k code.length
theorem covers_op {code : List api_Inst} {p a : Nat} {i : api_Inst} (hi : code[a]? = some i) (h : covers code p a = true) : i.Op = 20 := by
 unfold covers at h; rw [hi] at h; simp at h; exact h.1.1
theorem times_pos {code : List api_Inst} (hD : Fine code) (p : Nat) : ∀ k, 1 <= times code p k
 | 0 => by simp [times]
 | k + 1 => by
  have ih := times_pos hD p k
  unfold times
  split
  ·rename_i i hi
   split
   ·rename_i hc
    have hd := hD.loop hi (covers_op hi hc)
    have : 1 * 1 <= times code p k * (i.Imm + 1) := Int.mul_le_mul ih (by omega) (by omega) (by omega)
    omega
   ·exact ih
  ·exact ih
theorem sumT_nonneg {code : List api_Inst} (hD : Fine code) : ∀ k : Nat, (k : Int) <= sumT code k
 | 0 => by simp [sumT]
 | k + 1 => by
  have := sumT_nonneg hD k
  have h2 := times_pos hD k code.length
  unfold sumT
  omega
theorem sumT_succ (code : List api_Inst) (k : Nat) : sumT code (k + 1) = sumT code k + times code k code.length := rfl
def mn (x : Int) : Int := if x <= 257 then x else 257
theorem mn_mul {x b : Int} (hx : 1 <= x) (hb : 1 <= b) : mn (mn x * b) = mn (x * b) := by
 unfold mn
 by_cases h : x <= 257
 ·rw [if_pos h]
 ·rw [if_neg h]
  have h1 : 257 * 1 <= 257 * b := Int.mul_le_mul_of_nonneg_left hb (by decide)
  have h2 : 258 * 1 <= x * b := Int.mul_le_mul (by omega) hb (by decide) (by omega)
  by_cases h3 : (257 : Int) * b <= 257
  ·rw [if_pos h3, if_neg (by omega)]; omega
  ·rw [if_neg h3, if_neg (by omega)]
theorem mn_add {a b : Int} (ha : 0 <= a) (hb : 0 <= b) : mn (mn a + mn b) = mn (a + b) := by
 unfold mn; (repeat' split) <;> omega
theorem imin_mn (x : Int) : imin x 257 = mn x := by unfold imin mn; split <;> split <;> omega
theorem mn_le (x : Int) : mn x <= 257 /\ mn x <= x := by unfold mn; split <;> omega
def prodL (p : Int) : List api_Loop -> Int -> Int
 | [], s => s
 | l :: r, s => prodL p r (if decide (p >= l.Head) && decide (p <= l.At) then s * (l.Bound + 1) else s)
theorem prodL_append (p : Int) (l : List api_Loop) : ∀ (a : List api_Loop) (s : Int), prodL p (a ++ l) s = prodL p l (prodL p a s)
 | [], s => rfl
 | x :: r, s => by simp only [List.cons_append, prodL]; exact prodL_append p l r _
theorem prodL_times (code : List api_Inst) (p : Nat) : ∀ k, prodL p (lps code k) 1 = times code p k
 | 0 => rfl
 | k + 1 => by
  have ih := prodL_times code p k
  unfold lps times
  cases hk : code[k]? with
  | none => exact ih
  | some i =>
   simp only
   by_cases ho : i.Op = 20
   ·rw [if_pos (by simp [ho]), prodL_append, ih]
    simp only [prodL, loopAt]
    have : covers code p k = (decide ((p : Int) >= (k : Int) - i.D) && decide ((p : Int) <= k)) := by
     rw [Bool.eq_iff_iff, covers_iff hk ho]; simp
    rw [this]
    rfl
   ·rw [if_neg (by simp [ho])]
    have : covers code p k = false := by simp [covers, hk, ho]
    simp [this, ih]
theorem cost2 {code : List api_Inst} (hn : code.length <= 64) (hD : Fine code) (p : Nat) :
  forN (flow_cost_l2 (lps code code.length) p) (fun (s : Int) => s) (lps code code.length).length 0 1 = some (mn (times code p code.length)) := by
 have hbound : ∀ (k : Nat) (l : api_Loop), (lps code code.length)[k]? = some l -> 1 <= l.Bound /\ l.Bound <= 255 := by
  intro k l hl
  obtain ⟨q, i, _, h2, h3, rfl⟩ := mem_lps.1 (List.mem_of_getElem? hl)
  have := hD.loop h2 h3
  simp only [loopAt]; omega
 rw [<- prodL_times code p code.length]
 generalize lps code code.length = ls at hbound
 refine OK.is ?_
 refine OK.count (fun (i : Nat) (s : Int) => s = mn (prodL p (ls.take i) 1) /\ 1 <= prodL p (ls.take i) 1) ⟨by simp [prodL, mn], by simp [prodL]⟩ ?_ (fun s h => by rw [h.1]; simp)
 intro i s again hi ⟨hs, h1⟩ k
 unfold flow_cost_l2
 refine OK.bind (OK.getN hi (fun x hx => ?_))
 have hb := hbound i x hx
 have htake : ls.take (i + 1) = ls.take i ++ [x] := by
  rw [List.take_add_one, hx]; rfl
 simp only [flow_in, Option.bind_some]
 have hmn := mn_le (prodL p (ls.take i) 1)
 have hs1 : 1 <= s := by rw [hs]; unfold mn; split <;> omega
 refine OK.ite (fun hc => ?_) (fun hc => ?_)
 ·have e1 : w64 (x.Bound + 1) = x.Bound + 1 := w64_eq (by omega) (by omega)
  have m1 : s * (x.Bound + 1) <= 257 * 256 := Int.mul_le_mul (by omega) (by omega) (by omega) (by omega)
  have m0 : 0 <= s * (x.Bound + 1) := Int.mul_nonneg (by omega) (by omega)
  have e2 : w64 (s * (x.Bound + 1)) = s * (x.Bound + 1) := w64_eq (by omega) (by omega)
  rw [e1, e2, imin_mn]
  refine k _ ⟨?_, ?_⟩
  ·rw [htake, prodL_append]
   simp only [prodL, hc, if_true]
   rw [hs, mn_mul h1 (by omega)]
  ·rw [htake, prodL_append]
   simp only [prodL, hc, if_true]
   have : 1 * 1 <= prodL p (ls.take i) 1 * (x.Bound + 1) := Int.mul_le_mul h1 (by omega) (by omega) (by omega)
   omega
 ·refine k _ ⟨?_, ?_⟩
  ·rw [htake, prodL_append]
   simp only [prodL, hc]
   exact hs
  ·rw [htake, prodL_append]
   simp only [prodL, hc]
   exact h1
theorem flowCost {code : List api_Inst} (hn : code.length <= 64) (hD : Fine code) : flow_cost code = some (mn (sumT code code.length)) := by
 unfold flow_cost
 rw [loops_eq hn hD]
 simp only [Option.bind_some]
 refine OK.is ?_
 refine OK.bind2 (R := fun y => y = mn (sumT code code.length)) ?_ (fun x hx => OK.ret hx)
 refine OK.count (fun (i : Nat) (s : Int) => s = mn (sumT code i)) (by simp [sumT, mn]) ?_ (fun s h => h)
 intro i s again hi hs k
 subst hs
 unfold flow_cost_l1
 rw [cost2 hn hD i]
 simp only [Option.bind_some]
 have h1 := mn_le (times code i code.length)
 have h2 := mn_le (sumT code i)
 have h3 := times_pos hD i code.length
 have h4 := sumT_nonneg hD i
 have p1 : 1 <= mn (times code i code.length) := by unfold mn; split <;> omega
 have p2 : 0 <= mn (sumT code i) := by unfold mn; split <;> omega
 rw [w64_eq (by omega) (by omega), imin_mn]
 refine k _ ?_
 rw [sumT_succ, mn_add (by omega) (by omega)]
end Go.Proofs.YtgmmfjpmahcocaaGreatDoor
set_option linter.unusedVariables false
set_option linter.unusedSimpArgs false
namespace Go.Proofs.YtgmmfjpmahcocaaGreatDoor
open Go.Sx
structure Good (code : List api_Inst) : Prop where
 n1 : 1 <= code.length
 n64 : code.length <= 64
 fine : Fine code
 cr : ∀ l, l < code.length -> ¬ Cr code l
 en : ∀ p, p < code.length -> ¬ En code p
 cost : sumT code code.length <= 256
theorem flowNested {code : List api_Inst} (hn : code.length <= 64) (hD : Fine code) :
  ∃ o, First (Cr code) code.length o /\ flow_nested code = some (match o with | some l => ((l : Int), 31) | none => (findN (fun p => pick (En code p) ((p : Int), (31 : Int))) code.length 0).getD (0, 0)) := by
 obtain ⟨o, h1, h2⟩ := nested1 hn hD
 refine ⟨o, h1, ?_⟩
 unfold flow_nested
 rw [loops_eq hn hD]
 simp only [Option.bind_some, h2, nested2 hn hD]
 cases o with
 | some l => rfl
 | none => cases findN (fun p => pick (En code p) ((p : Int), (31 : Int))) code.length 0 <;> rfl
theorem check_one (code : List api_Inst) : ∃ r, flow_Check code = some r /\ (r.1 = 0 \/ 0 <= r.1 /\ r.1 < code.length) /\ (r.2 = 0 -> r.1 = 0 /\ Good code) /\ (Good code -> r.2 = 0) := by
 unfold flow_Check
 by_cases h0 : code.length = 0
 ·refine ⟨(0, 10), ?_, .inl rfl, by simp, fun h => by have := h.n1; omega⟩
  simp [h0]
 ·have e0 : ((code.length : Int) == 0) = false := by simp; exact fun h => h0 (by simp [h])
  by_cases h1 : 64 < code.length
  ·have e1 : decide ((code.length : Int) > 64) = true := by simp; omega
   refine ⟨(0, 11), ?_, .inl rfl, by simp, fun h => by have := h.n64; omega⟩
   simp only [e0, e1]; rfl
  ·have e1 : decide ((code.length : Int) > 64) = false := by simp; omega
   have hn : code.length <= 64 := by omega
   simp only [e0, e1, places_eq code hn, Option.bind_some]
   cases hp : findN (placeErr code) code.length 0 with
   | some v =>
    obtain ⟨j, _, h2, h3, _⟩ := findN_some hp
    have hne : v.2 ≠ 0 /\ v.1 = j := by
     unfold placeErr at h3
     split at h3
     ·split at h3
      ·cases h3
      ·rename_i h4; cases h3; exact ⟨h4, rfl⟩
     ·cases h3
    refine ⟨v, ?_, .inr ⟨by rw [hne.2]; omega, by rw [hne.2]; omega⟩, fun h => absurd h hne.1, fun h => ?_⟩
    ·have : (v.2 != 0) = true := by simpa using hne.1
     simp [this]
    ·rw [fine_none h.fine] at hp; cases hp
   | none =>
    have hD := fine_of hp
    obtain ⟨o, o1, o2⟩ := flowNested hn hD
    simp only [o2, Option.bind_some, Option.getD_none]
    cases o with
    | some l =>
     have := o1.1
     refine ⟨((l : Int), 31), by simp, .inr ⟨by simp, by simpa using this⟩, by simp, fun h => absurd o1.2.1 (h.cr l o1.1)⟩
    | none =>
     obtain ⟨p, p1, p2⟩ := first_findN (X := En code) (n := code.length) (v := fun p => ((p : Int), (31 : Int)))
     rw [p2]
     cases p with
     | some l =>
      have := p1.1
      exact ⟨((l : Int), 31), by simp, .inr ⟨by simp, by simpa using this⟩, by simp, fun h => absurd p1.2.1 (h.en l p1.1)⟩
     | none =>
      simp only [flowCost hn hD, Option.bind_some, Option.map_none, Option.getD_none]
      have hmn := mn_le (sumT code code.length)
      by_cases hc : mn (sumT code code.length) > 256
      ·refine ⟨(0, 32), by simp [hc], .inl rfl, by simp, fun h => ?_⟩
       have := h.cost; omega
      ·refine ⟨(0, 0), by simp [hc], .inl rfl, fun _ => ⟨rfl, ⟨by omega, hn, hD, o1, p1, ?_⟩⟩, fun _ => rfl⟩
       unfold mn at hc
       split at hc <;> omega
theorem check_good {code : List api_Inst} (h : Good code) : flow_Check code = some (0, 0) := by
 obtain ⟨r, h1, _, h2, h3⟩ := check_one code
 have := h3 h
 have h4 := (h2 this).1
 rw [h1]
 obtain ⟨a, b⟩ := r
 simp only at this h4
 subst this; subst h4; rfl
theorem good_loops {code : List api_Inst} (h : Good code) : flow_Loops code = some (lps code code.length, 0) := by
 unfold flow_Loops
 rw [check_good h]
 simp [loops_eq h.n64 h.fine]
end Go.Proofs.YtgmmfjpmahcocaaGreatDoor

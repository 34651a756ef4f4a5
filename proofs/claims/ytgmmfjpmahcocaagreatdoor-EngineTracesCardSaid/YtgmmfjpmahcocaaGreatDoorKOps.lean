import Derived.Test.YtgmmfjpmahcocaaGreatDoorPure
import Derived.Test.YtgmmfjpmahcocaaGreatDoorF1
set_option linter.unusedVariables false
set_option linter.unusedSimpArgs false
namespace Go.Proofs.YtgmmfjpmahcocaaGreatDoor
open Go.Sx
def zfK (n : Int) : Bool := decide (0 <= n) && decide (n < 8)
def zl4 (i : zc) : Bool := i.B == 8 || (zfK i.B && i.Imm == 0)
def inB (n lo hi : Int) : Bool := decide (lo <= n) && decide (n <= hi)
def zO (i : zc) : Bool :=
 if i.Op == 0 || i.Op == 11 then zfK i.D && i.A == 0 && zl4 i
 else if inB i.Op 1 10 then zfK i.D && zfK i.A && zl4 i
 else if i.Op == 12 then i.D == 0 && zfK i.A && zl4 i
 else if i.Op == 13 then zfK i.D && i.A == 0 && i.B == 0 && inB i.Imm 0 1
 else if i.Op == 14 then zfK i.D && i.A == 0 && i.B == 0 && inB i.Imm 0 3
 else if i.Op == 15 then inB i.D 0 63 && i.A == 0 && i.B == 0 && i.Imm == 0
 else if inB i.Op 16 19 then inB i.D 0 63 && zfK i.A && zl4 i
 else if i.Op == 20 then inB i.D 1 63 && zfK i.A && i.B == 0 && inB i.Imm 1 255
 else if i.Op == 21 then i.D == 0 && i.A == 0 && i.B == 0 && inB i.Imm 0 6
 else if i.Op == 22 then i.D == 0 && zfK i.A && i.B == 0 && i.Imm == 0
 else false
def xw (i : zc) : Bool := zO i && inB i.Op 15 19
def zbf (i : zc) : Bool := zO i && i.Op == 20
def zr (i : zc) : Int × Bool × Bool :=
 if xw i then (i.D + 1, true, i.Op != 15)
 else if zbf i then (-i.D, true, true)
 else (0, false, zO i && i.Op != 22)
theorem zh5 (n : Int) : n < 0 \/ n >= 23 \/ n = 0 \/ n = 1 \/ n = 2 \/ n = 3 \/ n = 4 \/ n = 5 \/ n = 6 \/ n = 7 \/ n = 8 \/ n = 9 \/ n = 10 \/ n = 11 \/ n = 12 \/ n = 13 \/ n = 14 \/ n = 15 \/ n = 16 \/ n = 17 \/ n = 18 \/ n = 19 \/ n = 20 \/ n = 21 \/ n = 22 := by omega
theorem ziN (n : Int) : zbG n = some (zfK n) := rfl
theorem zkw (n lo hi : Int) : zaP n lo hi = some (inB n lo hi) := rfl
theorem zbx {α : Type} {c : Bool} {A B : Option α} {a b : α} (hA : A = some a) (hB : B = some b) : (if c then A else B) = some (if c then a else b) := by
 cases c <;> simp [hA, hB]
theorem qU {c : Bool} {A : Option Bool} {a : Bool} (hA : A = some a) : (if c then A else some false) = some (c && a) := by
 cases c <;> simp [hA]
def zdP (p : zc) (s : Bool × zc) (c : Int) : Bool × zc :=
 if c == 100 then (s.1 && zfK p.D, ⟨s.2.Op, 0, s.2.A, s.2.B, s.2.Imm⟩)
 else if c == 97 then (s.1 && zfK p.A, ⟨s.2.Op, s.2.D, 0, s.2.B, s.2.Imm⟩)
 else if c == 115 then (if p.B == 8 then (s.1, ⟨s.2.Op, s.2.D, s.2.A, 0, 0⟩) else (s.1 && zfK p.B, ⟨s.2.Op, s.2.D, s.2.A, 0, s.2.Imm⟩))
 else if c == 102 then (s.1 && inB p.Imm 0 1, ⟨s.2.Op, s.2.D, s.2.A, s.2.B, 0⟩)
 else if c == 109 then (s.1 && inB p.Imm 0 3, ⟨s.2.Op, s.2.D, s.2.A, s.2.B, 0⟩)
 else if c == 104 then (s.1 && inB p.Imm 0 6, ⟨s.2.Op, s.2.D, s.2.A, s.2.B, 0⟩)
 else if c == 110 then (s.1 && inB p.Imm 1 255, ⟨s.2.Op, s.2.D, s.2.A, s.2.B, 0⟩)
 else if c == 106 then (s.1 && inB p.D 0 63, ⟨s.2.Op, 0, s.2.A, s.2.B, s.2.Imm⟩)
 else if c == 98 then (s.1 && inB p.D 1 63, ⟨s.2.Op, 0, s.2.A, s.2.B, s.2.Imm⟩)
 else s
section
variable {p : zc} {x : Bool} {o d a b m : Int}
theorem zn9 : zdP p (x, ⟨o, d, a, b, m⟩) 100 = (x && zfK p.D, ⟨o, 0, a, b, m⟩) := rfl
theorem zoa : zdP p (x, ⟨o, d, a, b, m⟩) 97 = (x && zfK p.A, ⟨o, d, 0, b, m⟩) := rfl
theorem zob : zdP p (x, ⟨o, d, a, b, m⟩) 115 = (if p.B == 8 then (x, ⟨o, d, a, 0, 0⟩) else (x && zfK p.B, ⟨o, d, a, 0, m⟩)) := rfl
theorem zoc : zdP p (x, ⟨o, d, a, b, m⟩) 102 = (x && inB p.Imm 0 1, ⟨o, d, a, b, 0⟩) := rfl
theorem zod : zdP p (x, ⟨o, d, a, b, m⟩) 109 = (x && inB p.Imm 0 3, ⟨o, d, a, b, 0⟩) := rfl
theorem zoe : zdP p (x, ⟨o, d, a, b, m⟩) 104 = (x && inB p.Imm 0 6, ⟨o, d, a, b, 0⟩) := rfl
theorem zog : zdP p (x, ⟨o, d, a, b, m⟩) 110 = (x && inB p.Imm 1 255, ⟨o, d, a, b, 0⟩) := rfl
theorem zoh : zdP p (x, ⟨o, d, a, b, m⟩) 106 = (x && inB p.D 0 63, ⟨o, 0, a, b, m⟩) := rfl
theorem zoi : zdP p (x, ⟨o, d, a, b, m⟩) 98 = (x && inB p.D 1 63, ⟨o, 0, a, b, m⟩) := rfl
end
theorem zaw {σ ρ : Type} {again : σ -> Option ρ} {c : Bool} {A B : Option ρ} {a b : σ} (hA : A = again a) (hB : B = again b) : (if c then A else B) = again (if c then a else b) := by
 cases c <;> simp [hA, hB]
theorem za5 {σ ρ : Type} {again : (Bool × σ) -> Option ρ} {x y : Bool} {z : σ} : (if x then again (y, z) else again (false, z)) = again (x && y, z) := by
 cases x <;> simp
theorem zfL {p : zc} {r : zS × Bool} {i : Nat} {c : Int} {again : (Bool × zc) -> Option (Bool × zc)} {s : Bool × zc} (h : zhA r.1.fields (i : Int) = some c) :
  zbH p r i again s = again (zdP p s c) := by
 unfold zbH zdP
 simp only [h, zbs, ziN, zkw]
 refine zaw za5 ?_
 refine zaw za5 ?_
 refine zaw (zaw rfl za5) ?_
 refine zaw za5 ?_
 refine zaw za5 ?_
 refine zaw za5 ?_
 refine zaw za5 ?_
 refine zaw za5 ?_
 refine zaw za5 rfl
def fin (x : Bool × zc) : Bool := x.1 && ((x.2.Op == 0) && ((x.2.D == 0) && ((x.2.A == 0) && ((x.2.B == 0) && (x.2.Imm == 0)))))
theorem zhp {p : zc} {f : zS} (ho : zbF p.Op = some (f, true)) {x : Bool × zc} (hz : f.fields.size <= 3)
  (h : zQ (zbH p (f, true)) (fun (s : Bool × zc) => (s.1, s.2)) f.fields.size 0 (true, ⟨0, p.D, p.A, p.B, p.Imm⟩) = some x) : vc p = some (fin x) := by
 have hr : room f.fields.size 1 = some () := by unfold room; rw [if_pos (by omega)]
 unfold vc fin
 simp only [ho, zbs, h, hr]
 cases x.1 <;> simp
theorem znT {p : zc} {f : zS} {c0 : Int} (ho : zbF p.Op = some (f, true)) (hs : f.fields.size = 1) (h0 : zhA f.fields 0 = some c0) :
  vc p = some (fin (zdP p (true, ⟨0, p.D, p.A, p.B, p.Imm⟩) c0)) := by
 refine zhp ho (by omega) ?_
 rw [hs]
 simp only [zQ]
 rw [zfL (i := 0) (by simpa using h0)]
theorem znC {p : zc} {f : zS} {c0 c1 : Int} (ho : zbF p.Op = some (f, true)) (hs : f.fields.size = 2) (h0 : zhA f.fields 0 = some c0) (h1 : zhA f.fields 1 = some c1) :
  vc p = some (fin (zdP p (zdP p (true, ⟨0, p.D, p.A, p.B, p.Imm⟩) c0) c1)) := by
 refine zhp ho (by omega) ?_
 rw [hs]
 simp only [zQ]
 rw [zfL (i := 0) (by simpa using h0), zfL (i := 0 + 1) (by simpa using h1)]
theorem znU {p : zc} {f : zS} {c0 c1 c2 : Int} (ho : zbF p.Op = some (f, true)) (hs : f.fields.size = 3) (h0 : zhA f.fields 0 = some c0) (h1 : zhA f.fields 1 = some c1) (h2 : zhA f.fields 2 = some c2) :
  vc p = some (fin (zdP p (zdP p (zdP p (true, ⟨0, p.D, p.A, p.B, p.Imm⟩) c0) c1) c2)) := by
 refine zhp ho (by omega) ?_
 rw [hs]
 simp only [zQ]
 rw [zfL (i := 0) (by simpa using h0), zfL (i := 0 + 1) (by simpa using h1), zfL (i := 0 + 1 + 1) (by simpa using h2)]
theorem zaL (i : zc) : vc i = some (zO i) := by
 have hcase := zh5 i.Op
 obtain ⟨op, d, a, b, m⟩ := i
 simp only at hcase
 have out : op < 0 \/ op >= 23 -> vc ⟨op, d, a, b, m⟩ = some (zO ⟨op, d, a, b, m⟩) := by
  intro h
  have e : zbF op = some (⟨ByteArray.empty, ByteArray.empty⟩, false) := by unfold zbF; rw [if_pos (by simp; omega)]
  have k : ∀ k : Int, 0 <= k -> k <= 22 -> (op == k) = false := by intro k h1 h2; simp; omega
  have d1 : inB op 1 10 = false := by simp [inB]; omega
  have d2 : inB op 16 19 = false := by simp [inB]; omega
  have r : zO ⟨op, d, a, b, m⟩ = false := by
   unfold zO
   simp only [k 0 (by decide) (by decide), k 11 (by decide) (by decide), k 12 (by decide) (by decide), k 13 (by decide) (by decide), k 14 (by decide) (by decide), k 15 (by decide) (by decide), k 20 (by decide) (by decide), k 21 (by decide) (by decide), k 22 (by decide) (by decide), d1, d2]
   rfl
  unfold vc
  rw [r]; simp [e]
 rcases hcase with h | h | h | h | h | h | h | h | h | h | h | h | h | h | h | h | h | h | h | h | h | h | h | h | h
 ·exact out (.inl h)
 ·exact out (.inr h)
 all_goals subst h
 all_goals
  first
   | rw [znC (c0 := 100) (c1 := 115) rfl rfl rfl rfl]
   | rw [znU (c0 := 100) (c1 := 97) (c2 := 115) rfl rfl rfl rfl rfl]
   | rw [znC (c0 := 97) (c1 := 115) rfl rfl rfl rfl]
   | rw [znC (c0 := 100) (c1 := 102) rfl rfl rfl rfl]
   | rw [znC (c0 := 100) (c1 := 109) rfl rfl rfl rfl]
   | rw [znT (c0 := 106) rfl rfl rfl]
   | rw [znU (c0 := 106) (c1 := 97) (c2 := 115) rfl rfl rfl rfl rfl]
   | rw [znU (c0 := 98) (c1 := 97) (c2 := 110) rfl rfl rfl rfl rfl]
   | rw [znT (c0 := 104) rfl rfl rfl]
   | rw [znT (c0 := 97) rfl rfl rfl]
  congr 1
  simp only [zn9, zoa, zob, zoc, zod, zoe, zog, zoh, zoi, fin, zO, zl4]
  cases h8 : (b == 8)
  ·simp [h8, inB]
   try (rw [Bool.eq_iff_iff]; simp; constructor <;> intro h <;> simp_all; done)
  ·simp only [beq_iff_eq] at h8
   subst h8
   simp [inB]
   try (rw [Bool.eq_iff_iff]; simp; constructor <;> intro h <;> simp_all; done)
theorem zkx (op : Int) (h0 : 0 <= op) (h1 : op < 23) : ∃ f, zbF op = some (f, true) /\ qu f 106 = some (inB op 15 19) /\ qu f 98 = some (op == 20) := by
 have hcase := zh5 op
 rcases hcase with h | h | h | h | h | h | h | h | h | h | h | h | h | h | h | h | h | h | h | h | h | h | h | h | h
 ·omega
 ·omega
 all_goals subst h
 all_goals exact ⟨_, rfl, rfl, rfl⟩
theorem zh6 {i : zc} (h : zO i = true) : 0 <= i.Op /\ i.Op < 23 := by
 rcases Int.lt_or_le i.Op 0 with h0 | h0
 ·exfalso
  have k : ∀ k : Int, 0 <= k -> (i.Op == k) = false := by intro k h1; simp; omega
  unfold zO inB at h
  simp only [k 0 (by decide), k 11 (by decide), k 12 (by decide), k 13 (by decide), k 14 (by decide), k 15 (by decide), k 20 (by decide), k 21 (by decide), k 22 (by decide)] at h
  simp at h
  repeat' (split at h)
  all_goals first
   | omega
   | cases h
 ·refine ⟨h0, ?_⟩
  rcases Int.lt_or_le i.Op 23 with h1 | h1
  ·exact h1
  ·exfalso
   have k : ∀ k : Int, k <= 22 -> (i.Op == k) = false := by intro k h1; simp; omega
   unfold zO inB at h
   simp only [k 0 (by decide), k 11 (by decide), k 12 (by decide), k 13 (by decide), k 14 (by decide), k 15 (by decide), k 20 (by decide), k 21 (by decide), k 22 (by decide)] at h
   simp at h
   repeat' (split at h)
   all_goals first
    | omega
    | cases h
theorem zcK {i : zc} (h : xw i = true) : 0 <= i.D /\ i.D <= 63 /\ 15 <= i.Op /\ i.Op <= 19 := by
 unfold xw at h
 simp only [zae] at h
 obtain ⟨hr, ho⟩ := h
 have hb : 15 <= i.Op /\ i.Op <= 19 := by simpa [inB] using ho
 refine ⟨?_, ?_, hb⟩ <;>
 ·have k : ∀ k : Int, k < 15 \/ k > 19 -> (i.Op == k) = false := by intro k h1; simp; omega
  have d1 : inB i.Op 1 10 = false := by simp [inB]; omega
  unfold zO at hr
  simp only [k 0 (by decide), k 11 (by decide), k 12 (by decide), k 13 (by decide), k 14 (by decide), k 20 (by decide), k 21 (by decide), k 22 (by decide), d1] at hr
  simp [inB] at hr
  split at hr
  ·omega
  ·omega
theorem zg4 {i : zc} (h : zbf i = true) : 1 <= i.D /\ i.D <= 63 /\ i.Op = 20 /\ 1 <= i.Imm /\ i.Imm <= 255 := by
 unfold zbf at h
 simp only [zae, beq_iff_eq] at h
 obtain ⟨hr, ho⟩ := h
 obtain ⟨op, d, a, b, m⟩ := i
 simp only at ho
 subst ho
 simp [zO, inB] at hr
 simp
 omega
theorem zcL (i : zc) : zd6 i = some (zr i) := by
 unfold zd6
 rw [zaL]
 simp only [zbs]
 cases hr : zO i with
 | false => simp [zr, xw, zbf, hr]
 | true =>
  obtain ⟨f, h1, h2, h3⟩ := zkx i.Op (zh6 hr).1 (zh6 hr).2
  simp only [h1, zbs, h2, h3]
  cases hj : inB i.Op 15 19 with
  | true =>
   have := zcK (i := i) (by simp [xw, hr, hj])
   simp [zr, xw, hr, hj, zI (x := i.D + 1) (by omega) (by omega)]
  | false =>
   cases hl : (i.Op == 20) with
   | true =>
    have := zg4 (i := i) (by simp [zbf, hr, hl])
    have e : w64 (0 - i.D) = -i.D := by rw [zI (by omega) (by omega)]; omega
    simp only [zr, xw, zbf, hr, hj, hl, e]
    rfl
   | false =>
    simp [zr, xw, zbf, hr, hj, hl]
end Go.Proofs.YtgmmfjpmahcocaaGreatDoor

/- The reference reads what is written; what it reads is right, and written so. -/
import Derived.Test.YteaedkohbgediaaDoorKRefRead
set_option linter.unusedVariables false
set_option linter.unusedSimpArgs false
namespace Go.Proofs.YteaedkohbgediaaDoor
open Go.Sx

theorem rstep_reg {ws : List ByteArray} {again : ((List Int) × (List Int) × (List Bool) × Int) → Option (((List Int) × (List Int) × (List Bool)) ⊕ (api_Inst × Bool))} {A B : List Int} {C : List Bool} {i : Nat} {n : Int} (hA : A.length = 3) (hC : C.length = 3) (hi : i < 3) (hn : 0 ≤ n ∧ n < 8) (hw : ws[i + 1]? = some (regT n)) :
    tappetref03_Read_l1 ws again (A, B, C, ((i + 1 : Nat) : Int)) = again (A.set i n, B, C.set i true, ((i + 2 : Nat) : Int)) := by
  have hl : i + 1 < ws.length := (List.getElem?_eq_some_iff.1 hw).1
  have h0 : idx ws ((i + 1 : Nat) : Int) = some (regT n) := by unfold idx; simp [hw]; omega
  have e1 : w64 (((i + 1 : Nat) : Int) - 1) = (i : Int) := by rw [w64_eq (by omega) (by omega)]; omega
  have e2 : w64 (((i + 1 : Nat) : Int) + 1) = ((i + 2 : Nat) : Int) := by rw [w64_eq (by omega) (by omega)]; omega
  have hs0 : sidx (regT n) 0 = some 114 := sidx_eq (s := regT n) (i := 0) (b := 114) rfl
  have hb : (UInt8.ofNat (48 + n.toNat)).toNat = 48 + n.toNat := by rw [UInt8.toNat_ofNat']; omega
  have hs1 : sidx (regT n) 1 = some (((UInt8.ofNat (48 + n.toNat)).toNat : Nat) : Int) := sidx_eq (s := regT n) (i := 1) rfl
  have hA2 : idx A (i : Int) = some A[i] := by unfold idx; simp [hA, hi]
  have hC2 : idx C (i : Int) = some C[i] := by unfold idx; simp [hC, hi]
  have e3 : w64 (w64 (((UInt8.ofNat (48 + n.toNat)).toNat : Nat) : Int) - 48) = n := by
    rw [hb, w64_eq (x := ((48 + n.toNat : Nat) : Int)) (by omega) (by omega), w64_eq (by omega) (by omega)]; omega
  unfold tappetref03_Read_l1
  simp only
  rw [if_pos (by simp; omega), h0]
  simp only [Option.bind_some]
  rw [show (regT n).size = 2 from rfl]
  simp only [hs0, hs1, e1, e2, hA2, hC2, e3, Option.bind_some, Int.toNat_natCast]
  rfl
theorem rstep_num {ws : List ByteArray} {again : ((List Int) × (List Int) × (List Bool) × Int) → Option (((List Int) × (List Int) × (List Bool)) ⊕ (api_Inst × Bool))} {A B : List Int} {C : List Bool} {i : Nat} {n : Int} (hB : B.length = 3) (hi : i < 3) (hn : -9223372036854775808 ≤ n ∧ n ≤ 9223372036854775807) (hw : ws[i + 1]? = some (numT n)) :
    tappetref03_Read_l1 ws again (A, B, C, ((i + 1 : Nat) : Int)) = again (A, B.set i n, C, ((i + 2 : Nat) : Int)) := by
  have hl : i + 1 < ws.length := (List.getElem?_eq_some_iff.1 hw).1
  have h0 : idx ws ((i + 1 : Nat) : Int) = some (numT n) := by unfold idx; simp [hw]; omega
  have e1 : w64 (((i + 1 : Nat) : Int) - 1) = (i : Int) := by rw [w64_eq (by omega) (by omega)]; omega
  have e2 : w64 (((i + 1 : Nat) : Int) + 1) = ((i + 2 : Nat) : Int) := by rw [w64_eq (by omega) (by omega)]; omega
  have hB2 : idx B (i : Int) = some B[i] := by unfold idx; simp [hB, hi]
  have hv := value_num hn.1 hn.2
  have hreg : (if (((numT n).size : Nat) : Int) == 2 then (sidx (numT n) 0).bind fun c686 => some (c686 == 114) else some false) = some false := by
    by_cases h2 : (numT n).size = 2
    · cases hi2 : Lib.itoa n with
      | nil => exact absurd hi2 (itoa_ne n)
      | cons c r =>
        have hc := itoa_bytes n c (by rw [hi2]; exact List.mem_cons_self ..)
        have e3 : sidx (numT n) 0 = some ((c.toNat : Int)) := sidx_eq (i := 0) (by simp [numT, hi2])
        have e4 : ((c.toNat : Int) == 114) = false := by
          unfold digit at hc
          rw [beq_eq_false_iff_ne]
          omega
        rw [h2, e3]
        simp [e4]
    · rw [if_neg (by simp; omega)]
  unfold tappetref03_Read_l1
  simp only
  rw [if_pos (by simp; omega), h0]
  simp only [Option.bind_some]
  rw [hreg]
  simp only [Option.bind_some, Bool.false_eq_true, if_false, hv, Bool.not_true, e1, hB2, Int.toNat_natCast, e2]
theorem rstep_end {ws : List ByteArray} {again : ((List Int) × (List Int) × (List Bool) × Int) → Option (((List Int) × (List Int) × (List Bool)) ⊕ (api_Inst × Bool))} {A B : List Int} {C : List Bool} {i : Int} (hi : (ws.length : Int) ≤ i) :
    tappetref03_Read_l1 ws again (A, B, C, i) = some (.inl (A, B, C)) := by
  unfold tappetref03_Read_l1
  simp only
  rw [if_neg (by simp; omega)]
/-- the words of an instruction, one by one, are put at their places -/
theorem rloop {fu : Nat} {ws : List ByteArray} : (∀ (st : (List Int) × (List Int) × (List Bool) × Int), loop (tappetref03_Read_l1 ws) (fu + 1) st = tappetref03_Read_l1 ws (loop (tappetref03_Read_l1 ws) fu) st) := fun _ => rfl
/-- the instruction out of what the words are -/
def rbuild (op : Int) (a0 a1 a2 b0 b1 b2 : Int) (t0 t1 t2 : Bool) : api_Inst :=
  if op = 0 ∨ op = 11 then (if t1 then ⟨op, a0, 0, a1, 0⟩ else ⟨op, a0, 0, 8, b1⟩)
  else if op ≤ 10 then (if t2 then ⟨op, a0, a1, a2, 0⟩ else ⟨op, a0, a1, 8, b2⟩)
  else if op = 12 then (if t1 then ⟨op, 0, a0, a1, 0⟩ else ⟨op, 0, a0, 8, b1⟩)
  else if op = 13 ∨ op = 14 then ⟨op, a0, 0, 0, b1⟩
  else if op = 15 then ⟨op, b0, 0, 0, 0⟩
  else if op ≤ 19 then (if t1 then ⟨op, b2, a0, a1, 0⟩ else ⟨op, b2, a0, 8, b1⟩)
  else if op = 20 then ⟨op, b1, a0, 0, b2⟩
  else if op = 21 then ⟨op, 0, 0, 0, b0⟩
  else ⟨op, 0, a0, 0, 0⟩
def rjudge (fu : Nat) (s : ByteArray) (y : api_Inst) : Option (api_Inst × Bool) :=
  ((tappetref02_Right y).bind fun r => if r then (tappetref03_Line fu y).bind fun l => some (sEq l s) else some false).bind fun o => some (y, o)
theorem read_of {fu : Nat} {s w : ByteArray} {r : List ByteArray} {op a0 a1 a2 b0 b1 b2 : Int} {t0 t1 t2 : Bool} (hwd : tappetref03_words fu s = some (w :: r)) (hfind : ops_Find w = some (op, true)) (hlen : r.length ≤ 3)
    (hloop : loop (tappetref03_Read_l1 (w :: r)) fu ([0, 0, 0], [0, 0, 0], [false, false, false], 1) = some (.inl ([a0, a1, a2], [b0, b1, b2], [t0, t1, t2]))) :
    tappetref03_Read fu s = rjudge fu s (rbuild op a0 a1 a2 b0 b1 b2 t0 t1 t2) := by
  unfold tappetref03_Read
  rw [hwd]
  simp only [Option.bind_some]
  rw [show idx (w :: r) 0 = some w from rfl]
  simp only [Option.bind_some]
  rw [find_eq, hfind]
  simp only [Option.bind_some]
  rw [if_neg (by simp; omega), hloop]
  simp only [Option.bind_some]
  have i0 : ∀ {α : Type} (x y z : α), idx [x, y, z] 0 = some x := fun _ _ _ => rfl
  have i1 : ∀ {α : Type} (x y z : α), idx [x, y, z] 1 = some y := fun _ _ _ => rfl
  have i2 : ∀ {α : Type} (x y z : α), idx [x, y, z] 2 = some z := fun _ _ _ => rfl
  have d1 : decide ((1 : Int) > 0) = true := rfl
  have d2 : decide ((2 : Int) > 0) = true := rfl
  have d0 : decide ((0 : Int) > 0) = false := rfl
  simp only [i0, i1, i2, Option.bind_some]
  unfold rbuild rjudge
  by_cases c1 : op = 0 ∨ op = 11
  · rw [if_pos (by simpa using c1), if_pos c1]
    simp only [i0, i1, i2, Option.bind_some, d1, if_true]
    cases t1 <;> rfl
  rw [if_neg (by simpa using c1), if_neg c1]
  by_cases c2 : op ≤ 10
  · rw [if_pos (by simpa using c2), if_pos c2]
    simp only [i0, i1, i2, Option.bind_some, d2, if_true]
    cases t2 <;> rfl
  rw [if_neg (by simpa using c2), if_neg c2]
  by_cases c3 : op = 12
  · rw [if_pos (by simpa using c3), if_pos c3]
    simp only [i0, i1, i2, Option.bind_some, d1, if_true]
    cases t1 <;> rfl
  rw [if_neg (by simpa using c3), if_neg c3]
  by_cases c4 : op = 13 ∨ op = 14
  · rw [if_pos (by simpa using c4), if_pos c4]
    rfl
  rw [if_neg (by simpa using c4), if_neg c4]
  by_cases c5 : op = 15
  · rw [if_pos (by simpa using c5), if_pos c5]
    rfl
  rw [if_neg (by simpa using c5), if_neg c5]
  by_cases c6 : op ≤ 19
  · rw [if_pos (by simpa using c6), if_pos c6]
    simp only [i0, i1, i2, Option.bind_some, d1, if_true]
    cases t1 <;> rfl
  rw [if_neg (by simpa using c6), if_neg c6]
  by_cases c7 : op = 20
  · rw [if_pos (by simpa using c7), if_pos c7]
    rfl
  rw [if_neg (by simpa using c7), if_neg c7]
  by_cases c8 : op = 21
  · rw [if_pos (by simpa using c8), if_pos c8]
    rfl
  rw [if_neg (by simpa using c8), if_neg c8]
  rfl
/-- THE REFERENCE READS WHAT IS WRITTEN -/
theorem refRead_line {fu : Nat} {x : api_Inst} (hr : rightB x = true) (hI : immOk x) {r : ByteArray} (hl : lines_line 1000 x = some r) (hf : 100 ≤ fu) : tappetref03_Read fu r = some (x, true) := by
  obtain ⟨nm, o, r', h1, h2, hz, h3, hrz, hb, hn, hw⟩ := line_bytes hr hI
  rw [hl] at h3
  cases h3
  have hop := right_op hr
  have hA := right_A hr
  have hfind : ops_Find nm = some (x.Op, true) := (order2_ok hop.1 hop.2 h1 h2).2.2
  have fA : fieldW x 97 = some (regT x.A) := (reg_is hA.1 hA.2).1
  have fI : fieldW x 110 = some (numT x.Imm) := (num_is hI.1 hI.2).2.1
  have hwd := words_eq (fu := fu) hb hn (fun w h => (hw w h).1) (by omega) (by omega)
  have hfin : rjudge fu r x = some (x, true) := by
    unfold rjudge
    rw [refRight_eq, hr]
    simp only [Option.bind_some, if_true]
    rw [refLine (by omega) hr hI, hl]
    simp only [Option.bind_some]
    rw [sEq_iff.2 rfl]
  obtain ⟨g, rfl⟩ : ∃ g, fu = g + 1 + 1 + 1 + 1 := ⟨fu - 4, by omega⟩
  have hD : ¬ (15 ≤ x.Op ∧ x.Op ≤ 20) → (0 ≤ x.D ∧ x.D < 8) ∧ fieldW x 100 = some (regT x.D) := fun h => by
    have := right_D hr h
    exact ⟨this, (reg_is this.1 this.2).1⟩
  have hJ : 15 ≤ x.Op ∧ x.Op ≤ 20 → (-9223372036854775808 ≤ x.D ∧ x.D ≤ 9223372036854775807) ∧ fieldW x 106 = some (numT x.D) := fun h => by
    have := right_j hr h
    exact ⟨⟨by omega, by omega⟩, (num_is (n := x.D) (by omega) (by omega)).1⟩
  have hS : (x.Op ≤ 12 ∨ (16 ≤ x.Op ∧ x.Op ≤ 19)) → (x.B = 8 ∧ fieldW x 115 = some (numT x.Imm)) ∨ (x.B ≠ 8 ∧ (0 ≤ x.B ∧ x.B < 8) ∧ fieldW x 115 = some (regT x.B)) := fun h => by
    have e115 : fieldW x 115 = (if ((115 : Int) == 115 && x.B != 8) = true then lines_reg x.B else strconv_FormatInt x.Imm 10) := rfl
    by_cases hB : x.B = 8
    · refine .inl ⟨hB, ?_⟩
      rw [e115, hB]
      exact (num_is hI.1 hI.2).2.1
    · have hB2 := (right_src hr h).resolve_left hB
      refine .inr ⟨hB, hB2, ?_⟩
      rw [e115, if_pos (by simp [hB])]
      exact (reg_is hB2.1 hB2.2).1
  have hu := upd_all hr
  rw [chsF_eq hop.1 hop.2] at hu
  have hlen : fws x o = (chsF x.Op).map fun c => (fieldW x c).getD ByteArray.empty := by rw [chs_fws h2, chsF_eq hop.1 hop.2]
  rw [hlen] at hwd
  by_cases c1 : x.Op = 0 ∨ x.Op = 11
  · obtain ⟨q1, q2⟩ := hD (by omega)
    rcases hS (by omega) with ⟨s0, s2⟩ | ⟨s0, s1, s2⟩
    · have hws : ((chsF x.Op).map fun c => (fieldW x c).getD ByteArray.empty) = [regT x.D, numT x.Imm] := by simp [chsF, c1, q2, s2]
      rw [hws] at hwd
      refine (read_of (a0 := x.D) (a1 := 0) (a2 := 0) (b0 := 0) (b1 := x.Imm) (b2 := 0) (t0 := true) (t1 := false) (t2 := false) hwd hfind (by simp) (by rw [show (1 : Int) = ((0 + 1 : Nat) : Int) from rfl, rloop, rstep_reg (i := 0) rfl rfl (by decide) q1 rfl, rloop, rstep_num (i := 1) rfl (by decide) hI rfl, rloop, rstep_end (by simp)]; rfl)).trans ?_
      rw [show rbuild x.Op x.D 0 0 0 x.Imm 0 true false false = x from Eq.trans (b := (chsF x.Op).foldl (upd x) ⟨x.Op, 0, 0, 0, 0⟩) (by simp [rbuild, chsF, upd, c1, s0]) hu]
      exact hfin
    · have hws : ((chsF x.Op).map fun c => (fieldW x c).getD ByteArray.empty) = [regT x.D, regT x.B] := by simp [chsF, c1, q2, s2]
      rw [hws] at hwd
      refine (read_of (a0 := x.D) (a1 := x.B) (a2 := 0) (b0 := 0) (b1 := 0) (b2 := 0) (t0 := true) (t1 := true) (t2 := false) hwd hfind (by simp) (by rw [show (1 : Int) = ((0 + 1 : Nat) : Int) from rfl, rloop, rstep_reg (i := 0) rfl rfl (by decide) q1 rfl, rloop, rstep_reg (i := 1) rfl rfl (by decide) s1 rfl, rloop, rstep_end (by simp)]; rfl)).trans ?_
      rw [show rbuild x.Op x.D x.B 0 0 0 0 true true false = x from Eq.trans (b := (chsF x.Op).foldl (upd x) ⟨x.Op, 0, 0, 0, 0⟩) (by simp [rbuild, chsF, upd, c1, s0]) hu]
      exact hfin
  by_cases c2 : x.Op ≤ 10
  · obtain ⟨q1, q2⟩ := hD (by omega)
    rcases hS (by omega) with ⟨s0, s2⟩ | ⟨s0, s1, s2⟩
    · have hws : ((chsF x.Op).map fun c => (fieldW x c).getD ByteArray.empty) = [regT x.D, regT x.A, numT x.Imm] := by simp [chsF, c1, c2, q2, fA, s2]
      rw [hws] at hwd
      refine (read_of (a0 := x.D) (a1 := x.A) (a2 := 0) (b0 := 0) (b1 := 0) (b2 := x.Imm) (t0 := true) (t1 := true) (t2 := false) hwd hfind (by simp) (by rw [show (1 : Int) = ((0 + 1 : Nat) : Int) from rfl, rloop, rstep_reg (i := 0) rfl rfl (by decide) q1 rfl, rloop, rstep_reg (i := 1) rfl rfl (by decide) hA rfl, rloop, rstep_num (i := 2) rfl (by decide) hI rfl, rloop, rstep_end (by simp)]; rfl)).trans ?_
      rw [show rbuild x.Op x.D x.A 0 0 0 x.Imm true true false = x from Eq.trans (b := (chsF x.Op).foldl (upd x) ⟨x.Op, 0, 0, 0, 0⟩) (by simp [rbuild, chsF, upd, c1, c2, s0]) hu]
      exact hfin
    · have hws : ((chsF x.Op).map fun c => (fieldW x c).getD ByteArray.empty) = [regT x.D, regT x.A, regT x.B] := by simp [chsF, c1, c2, q2, fA, s2]
      rw [hws] at hwd
      refine (read_of (a0 := x.D) (a1 := x.A) (a2 := x.B) (b0 := 0) (b1 := 0) (b2 := 0) (t0 := true) (t1 := true) (t2 := true) hwd hfind (by simp) (by rw [show (1 : Int) = ((0 + 1 : Nat) : Int) from rfl, rloop, rstep_reg (i := 0) rfl rfl (by decide) q1 rfl, rloop, rstep_reg (i := 1) rfl rfl (by decide) hA rfl, rloop, rstep_reg (i := 2) rfl rfl (by decide) s1 rfl, rloop, rstep_end (by simp)]; rfl)).trans ?_
      rw [show rbuild x.Op x.D x.A x.B 0 0 0 true true true = x from Eq.trans (b := (chsF x.Op).foldl (upd x) ⟨x.Op, 0, 0, 0, 0⟩) (by simp [rbuild, chsF, upd, c1, c2, s0]) hu]
      exact hfin
  by_cases c3 : x.Op = 12
  · rcases hS (by omega) with ⟨s0, s2⟩ | ⟨s0, s1, s2⟩
    · have hws : ((chsF x.Op).map fun c => (fieldW x c).getD ByteArray.empty) = [regT x.A, numT x.Imm] := by simp [chsF, c1, c2, c3, fA, s2]
      rw [hws] at hwd
      refine (read_of (a0 := x.A) (a1 := 0) (a2 := 0) (b0 := 0) (b1 := x.Imm) (b2 := 0) (t0 := true) (t1 := false) (t2 := false) hwd hfind (by simp) (by rw [show (1 : Int) = ((0 + 1 : Nat) : Int) from rfl, rloop, rstep_reg (i := 0) rfl rfl (by decide) hA rfl, rloop, rstep_num (i := 1) rfl (by decide) hI rfl, rloop, rstep_end (by simp)]; rfl)).trans ?_
      rw [show rbuild x.Op x.A 0 0 0 x.Imm 0 true false false = x from Eq.trans (b := (chsF x.Op).foldl (upd x) ⟨x.Op, 0, 0, 0, 0⟩) (by simp [rbuild, chsF, upd, c1, c2, c3, s0]) hu]
      exact hfin
    · have hws : ((chsF x.Op).map fun c => (fieldW x c).getD ByteArray.empty) = [regT x.A, regT x.B] := by simp [chsF, c1, c2, c3, fA, s2]
      rw [hws] at hwd
      refine (read_of (a0 := x.A) (a1 := x.B) (a2 := 0) (b0 := 0) (b1 := 0) (b2 := 0) (t0 := true) (t1 := true) (t2 := false) hwd hfind (by simp) (by rw [show (1 : Int) = ((0 + 1 : Nat) : Int) from rfl, rloop, rstep_reg (i := 0) rfl rfl (by decide) hA rfl, rloop, rstep_reg (i := 1) rfl rfl (by decide) s1 rfl, rloop, rstep_end (by simp)]; rfl)).trans ?_
      rw [show rbuild x.Op x.A x.B 0 0 0 0 true true false = x from Eq.trans (b := (chsF x.Op).foldl (upd x) ⟨x.Op, 0, 0, 0, 0⟩) (by simp [rbuild, chsF, upd, c1, c2, c3, s0]) hu]
      exact hfin
  by_cases c4 : x.Op = 13 ∨ x.Op = 14
  · obtain ⟨q1, q2⟩ := hD (by omega)
    have hws : ((chsF x.Op).map fun c => (fieldW x c).getD ByteArray.empty) = [regT x.D, numT x.Imm] := by simp [chsF, c1, c2, c3, c4, q2, fI]
    rw [hws] at hwd
    refine (read_of (a0 := x.D) (a1 := 0) (a2 := 0) (b0 := 0) (b1 := x.Imm) (b2 := 0) (t0 := true) (t1 := false) (t2 := false) hwd hfind (by simp) (by rw [show (1 : Int) = ((0 + 1 : Nat) : Int) from rfl, rloop, rstep_reg (i := 0) rfl rfl (by decide) q1 rfl, rloop, rstep_num (i := 1) rfl (by decide) hI rfl, rloop, rstep_end (by simp)]; rfl)).trans ?_
    rw [show rbuild x.Op x.D 0 0 0 x.Imm 0 true false false = x from Eq.trans (b := (chsF x.Op).foldl (upd x) ⟨x.Op, 0, 0, 0, 0⟩) (by simp [rbuild, chsF, upd, c1, c2, c3, c4]) hu]
    exact hfin
  by_cases c5 : x.Op = 15
  · obtain ⟨q1, q2⟩ := hJ (by omega)
    have hws : ((chsF x.Op).map fun c => (fieldW x c).getD ByteArray.empty) = [numT x.D] := by simp [chsF, c1, c2, c3, c4, c5, q2]
    rw [hws] at hwd
    refine (read_of (a0 := 0) (a1 := 0) (a2 := 0) (b0 := x.D) (b1 := 0) (b2 := 0) (t0 := false) (t1 := false) (t2 := false) hwd hfind (by simp) (by rw [show (1 : Int) = ((0 + 1 : Nat) : Int) from rfl, rloop, rstep_num (i := 0) rfl (by decide) q1 rfl, rloop, rstep_end (by simp)]; rfl)).trans ?_
    rw [show rbuild x.Op 0 0 0 x.D 0 0 false false false = x from Eq.trans (b := (chsF x.Op).foldl (upd x) ⟨x.Op, 0, 0, 0, 0⟩) (by simp [rbuild, chsF, upd, c1, c2, c3, c4, c5]) hu]
    exact hfin
  by_cases c6 : x.Op ≤ 19
  · obtain ⟨q1, q2⟩ := hJ (by omega)
    rcases hS (by omega) with ⟨s0, s2⟩ | ⟨s0, s1, s2⟩
    · have hws : ((chsF x.Op).map fun c => (fieldW x c).getD ByteArray.empty) = [regT x.A, numT x.Imm, numT x.D] := by simp [chsF, c1, c2, c3, c4, c5, c6, fA, s2, q2]
      rw [hws] at hwd
      refine (read_of (a0 := x.A) (a1 := 0) (a2 := 0) (b0 := 0) (b1 := x.Imm) (b2 := x.D) (t0 := true) (t1 := false) (t2 := false) hwd hfind (by simp) (by rw [show (1 : Int) = ((0 + 1 : Nat) : Int) from rfl, rloop, rstep_reg (i := 0) rfl rfl (by decide) hA rfl, rloop, rstep_num (i := 1) rfl (by decide) hI rfl, rloop, rstep_num (i := 2) rfl (by decide) q1 rfl, rloop, rstep_end (by simp)]; rfl)).trans ?_
      rw [show rbuild x.Op x.A 0 0 0 x.Imm x.D true false false = x from Eq.trans (b := (chsF x.Op).foldl (upd x) ⟨x.Op, 0, 0, 0, 0⟩) (by simp [rbuild, chsF, upd, c1, c2, c3, c4, c5, c6, s0]) hu]
      exact hfin
    · have hws : ((chsF x.Op).map fun c => (fieldW x c).getD ByteArray.empty) = [regT x.A, regT x.B, numT x.D] := by simp [chsF, c1, c2, c3, c4, c5, c6, fA, s2, q2]
      rw [hws] at hwd
      refine (read_of (a0 := x.A) (a1 := x.B) (a2 := 0) (b0 := 0) (b1 := 0) (b2 := x.D) (t0 := true) (t1 := true) (t2 := false) hwd hfind (by simp) (by rw [show (1 : Int) = ((0 + 1 : Nat) : Int) from rfl, rloop, rstep_reg (i := 0) rfl rfl (by decide) hA rfl, rloop, rstep_reg (i := 1) rfl rfl (by decide) s1 rfl, rloop, rstep_num (i := 2) rfl (by decide) q1 rfl, rloop, rstep_end (by simp)]; rfl)).trans ?_
      rw [show rbuild x.Op x.A x.B 0 0 0 x.D true true false = x from Eq.trans (b := (chsF x.Op).foldl (upd x) ⟨x.Op, 0, 0, 0, 0⟩) (by simp [rbuild, chsF, upd, c1, c2, c3, c4, c5, c6, s0]) hu]
      exact hfin
  by_cases c7 : x.Op = 20
  · obtain ⟨q1, q2⟩ := hJ (by omega)
    have hws : ((chsF x.Op).map fun c => (fieldW x c).getD ByteArray.empty) = [regT x.A, numT x.D, numT x.Imm] := by simp [chsF, c1, c2, c3, c4, c5, c6, c7, fA, q2, fI]
    rw [hws] at hwd
    refine (read_of (a0 := x.A) (a1 := 0) (a2 := 0) (b0 := 0) (b1 := x.D) (b2 := x.Imm) (t0 := true) (t1 := false) (t2 := false) hwd hfind (by simp) (by rw [show (1 : Int) = ((0 + 1 : Nat) : Int) from rfl, rloop, rstep_reg (i := 0) rfl rfl (by decide) hA rfl, rloop, rstep_num (i := 1) rfl (by decide) q1 rfl, rloop, rstep_num (i := 2) rfl (by decide) hI rfl, rloop, rstep_end (by simp)]; rfl)).trans ?_
    rw [show rbuild x.Op x.A 0 0 0 x.D x.Imm true false false = x from Eq.trans (b := (chsF x.Op).foldl (upd x) ⟨x.Op, 0, 0, 0, 0⟩) (by simp [rbuild, chsF, upd, c1, c2, c3, c4, c5, c6, c7]) hu]
    exact hfin
  by_cases c8 : x.Op = 21
  · have hws : ((chsF x.Op).map fun c => (fieldW x c).getD ByteArray.empty) = [numT x.Imm] := by simp [chsF, c1, c2, c3, c4, c5, c6, c7, c8, fI]
    rw [hws] at hwd
    refine (read_of (a0 := 0) (a1 := 0) (a2 := 0) (b0 := x.Imm) (b1 := 0) (b2 := 0) (t0 := false) (t1 := false) (t2 := false) hwd hfind (by simp) (by rw [show (1 : Int) = ((0 + 1 : Nat) : Int) from rfl, rloop, rstep_num (i := 0) rfl (by decide) hI rfl, rloop, rstep_end (by simp)]; rfl)).trans ?_
    rw [show rbuild x.Op 0 0 0 x.Imm 0 0 false false false = x from Eq.trans (b := (chsF x.Op).foldl (upd x) ⟨x.Op, 0, 0, 0, 0⟩) (by simp [rbuild, chsF, upd, c1, c2, c3, c4, c5, c6, c7, c8]) hu]
    exact hfin
  have hws : ((chsF x.Op).map fun c => (fieldW x c).getD ByteArray.empty) = [regT x.A] := by simp [chsF, c1, c2, c3, c4, c5, c6, c7, c8, fA]
  rw [hws] at hwd
  refine (read_of (a0 := x.A) (a1 := 0) (a2 := 0) (b0 := 0) (b1 := 0) (b2 := 0) (t0 := true) (t1 := false) (t2 := false) hwd hfind (by simp) (by rw [show (1 : Int) = ((0 + 1 : Nat) : Int) from rfl, rloop, rstep_reg (i := 0) rfl rfl (by decide) hA rfl, rloop, rstep_end (by simp)]; rfl)).trans ?_
  rw [show rbuild x.Op x.A 0 0 0 0 0 true false false = x from Eq.trans (b := (chsF x.Op).foldl (upd x) ⟨x.Op, 0, 0, 0, 0⟩) (by simp [rbuild, chsF, upd, c1, c2, c3, c4, c5, c6, c7, c8]) hu]
  exact hfin

/-- WHAT THE REFERENCE READS IS RIGHT, AND WRITTEN SO -/
theorem refRead_total {fu : Nat} {s : ByteArray} (hs : s.size ≤ 1099511627776) (hf : s.size + 100 ≤ fu) : ∃ i b, tappetref03_Read fu s = some (i, b) ∧ (b = true → good i ∧ lines_line 1000 i = some s) := by
  obtain ⟨w, r, hd, h1, h2⟩ := text_words s.data.toList.length s.data.toList (Nat.le_refl _)
  have hwd := words_eq (fu := fu) hd h1 h2 hs (by omega)
  obtain ⟨op, ok, hfind⟩ := find_total w
  have hws : ∀ x ∈ w :: r, x.size ≤ s.size := by
    have hl : ∀ (r : List ByteArray) (x : ByteArray), x ∈ r → x.data.toList.length ≤ (rest32 r).length := by
      intro r
      induction r with
      | nil => intro x hx; cases hx
      | cons y r ih =>
        intro x hx
        rw [rest32_cons, List.length_cons, List.length_append]
        rcases List.mem_cons.1 hx with rfl | hx
        · omega
        · have := ih x hx; omega
    intro x hx
    have e : s.size = w.data.toList.length + (rest32 r).length := by rw [Lib.size_eq, hd, List.length_append]
    have ex := Lib.size_eq x
    rcases List.mem_cons.1 hx with rfl | hx
    · omega
    · have := hl r x hx; omega
  by_cases hbad : ok = false ∨ 3 < r.length
  · refine ⟨⟨0, 0, 0, 0, 0⟩, false, ?_, fun e => by cases e⟩
    unfold tappetref03_Read
    rw [hwd]
    simp only [Option.bind_some]
    rw [show idx (w :: r) 0 = some w from rfl]
    simp only [Option.bind_some]
    rw [find_eq, hfind]
    simp only [Option.bind_some]
    rw [if_pos]
    rcases hbad with h | h
    · simp [h]
    · simp; omega
  · have hok : ok = true := by
      cases ok with
      | true => rfl
      | false => exact absurd (.inl rfl) hbad
    subst hok
    have hlen : r.length ≤ 3 := by
      rcases Nat.lt_or_ge 3 r.length with h | h
      · exact absurd (.inr h) hbad
      · exact h
    have hloop : OK (loop (tappetref03_Read_l1 (w :: r)) fu ([0, 0, 0], [0, 0, 0], [false, false, false], 1)) (fun o => match o with
        | .inl t => t.1.length = 3 ∧ (t.2.1.length = 3 ∧ ∀ v ∈ t.2.1, -9223372036854775808 ≤ v ∧ v ≤ 9223372036854775807) ∧ t.2.2.length = 3
        | .inr q => q = (⟨0, 0, 0, 0, 0⟩, false)) := by
      refine OK.rounds (fun (t : (List Int) × (List Int) × (List Bool) × Int) => t.1.length = 3 ∧ (t.2.1.length = 3 ∧ ∀ v ∈ t.2.1, -9223372036854775808 ≤ v ∧ v ≤ 9223372036854775807) ∧ t.2.2.1.length = 3 ∧ 1 ≤ t.2.2.2 ∧ t.2.2.2 ≤ 4) (fun t => (4 - t.2.2.2).toNat) (fun t again hI k => ?_) fu _ ⟨rfl, ⟨rfl, by simp⟩, rfl, by decide, by decide⟩ (by show (4 - (1 : Int)).toNat < fu; omega)
      obtain ⟨A, B, C, i⟩ := t
      obtain ⟨k1, ⟨k2, k3⟩, k4, k5, k6⟩ := hI
      simp only at k1 k2 k3 k4 k5 k6
      unfold tappetref03_Read_l1
      simp only
      refine OK.ite (fun e => ?_) (fun e => OK.ret ⟨k1, ⟨k2, k3⟩, k4⟩)
      have e : i < ((w :: r).length : Int) := by simpa using e
      have e4 : i < 4 := by rw [List.length_cons] at e; omega
      refine OK.bind2 (R := fun b => b = true → ∀ x, (w :: r)[i.toNat]? = some x → x.size = 2) ?_ (fun b hb => ?_)
      · refine OK.bind (OK.get (by omega) e (fun x hx => ?_))
        refine OK.ite (fun e2 => ?_) (fun e2 => OK.ret (fun e => by cases e))
        have e2 : x.size = 2 := by have : (x.size : Int) = 2 := by simpa using e2
                                   omega
        obtain ⟨c, hc⟩ := sidx_some (s := x) (i := 0) (by omega)
        have hc : sidx x 0 = some c := hc
        rw [hc]
        exact OK.ret (fun _ y hy => by rw [hx] at hy; cases hy; exact e2)
      have w1 : w64 (i - 1) = i - 1 := w64_eq (by omega) (by omega)
      have w2 : w64 (i + 1) = i + 1 := w64_eq (by omega) (by omega)
      refine OK.ite (fun e3 => ?_) (fun e3 => ?_)
      · refine OK.bind (OK.get (by omega) e (fun x hx => ?_))
        have hx2 := hb e3 x hx
        obtain ⟨c, hc⟩ := sidx_some (s := x) (i := 1) (by omega)
        have hc : sidx x 1 = some c := hc
        rw [hc]
        simp only [Option.bind_some]
        rw [w1]
        refine OK.bind (OK.get (by omega) (by omega) (fun y hy => ?_))
        refine OK.bind (OK.get (by omega) (by omega) (fun z hz => ?_))
        exact k _ ⟨by simpa using k1, ⟨k2, k3⟩, by simpa using k4, by show 1 ≤ w64 (i + 1); omega, by show w64 (i + 1) ≤ 4; omega⟩ (by show (4 - w64 (i + 1)).toNat < (4 - i).toNat; omega)
      · refine OK.bind (OK.get (by omega) e (fun x hx => ?_))
        obtain ⟨v, b2, hv, hv2⟩ := value_total x (by have := hws x (List.mem_of_getElem? hx); omega)
        rw [hv]
        simp only [Option.bind_some]
        refine OK.ite (fun _ => OK.ret rfl) (fun _ => ?_)
        rw [w1]
        refine OK.bind (OK.get (by omega) (by omega) (fun y hy => ?_))
        refine k _ ⟨k1, ⟨by simpa using k2, fun q hq => ?_⟩, k4, by show 1 ≤ w64 (i + 1); omega, by show w64 (i + 1) ≤ 4; omega⟩ (by show (4 - w64 (i + 1)).toNat < (4 - i).toNat; omega)
        rcases List.mem_or_eq_of_mem_set hq with h | h
        · exact k3 q h
        · rw [h]; exact hv2
    obtain ⟨o, ho, hq⟩ := hloop
    cases o with
    | inr q =>
      subst hq
      refine ⟨⟨0, 0, 0, 0, 0⟩, false, ?_, fun e => by cases e⟩
      unfold tappetref03_Read
      rw [hwd]
      simp only [Option.bind_some]
      rw [show idx (w :: r) 0 = some w from rfl]
      simp only [Option.bind_some]
      rw [find_eq, hfind]
      simp only [Option.bind_some]
      rw [if_neg (by simp; omega), ho]
      rfl
    | inl t =>
      obtain ⟨A, B, C⟩ := t
      obtain ⟨k1, ⟨k2, k3⟩, k4⟩ := hq
      simp only at k1 k2 k3 k4
      match A, B, C, k1, k2, k4 with
      | [a0, a1, a2], [b0, b1, b2], [t0, t1, t2], _, _, _ =>
        rw [read_of hwd hfind hlen ho]
        have hI : immOk (rbuild op a0 a1 a2 b0 b1 b2 t0 t1 t2) := by
          have z : -9223372036854775808 ≤ (0 : Int) ∧ (0 : Int) ≤ 9223372036854775807 := ⟨by decide, by decide⟩
          have m0 := k3 b0 (by simp)
          have m1 := k3 b1 (by simp)
          have m2 := k3 b2 (by simp)
          unfold rbuild immOk
          repeat' split
          all_goals first | exact z | exact m0 | exact m1 | exact m2
        generalize rbuild op a0 a1 a2 b0 b1 b2 t0 t1 t2 = y at hI
        unfold rjudge
        rw [refRight_eq]
        simp only [Option.bind_some]
        cases hy : rightB y with
        | false => exact ⟨y, false, rfl, fun e => by cases e⟩
        | true =>
          obtain ⟨l, hl, _⟩ := line_ok hy hI
          rw [refLine (by omega) hy hI, hl]
          simp only [if_true, Option.bind_some]
          exact ⟨y, _, rfl, fun e => ⟨⟨hy, hI⟩, hl.trans (congrArg some (sEq_iff.1 e))⟩⟩
end Go.Proofs.YteaedkohbgediaaDoor

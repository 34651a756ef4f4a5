/- What the reference of layer 3 writes: the same lines. -/
import Derived.Test.YteaedkohbgediaaDoorKTotal
import Derived.Test.YteaedkohbgediaaDoorStrB
set_option linter.unusedVariables false
set_option linter.unusedSimpArgs false
namespace Go.Proofs.YteaedkohbgediaaDoor
open Go.Sx

theorem reg_eq (n : Int) : tappetref02_reg n = some (regB n) := by
  unfold tappetref02_reg regB
  congr 1
  rw [Bool.eq_iff_iff]; simp; omega
theorem sourced_eq (i : api_Inst) : tappetref02_sourced i = some (srcB i) := by
  unfold tappetref02_sourced srcB
  rw [reg_eq]
  cases regB i.B <;> cases h : (i.Imm == 0) <;> simp [h]

theorem refRight_eq (i : api_Inst) : tappetref02_Right i = some (rightB i) := by
  unfold tappetref02_Right rightB tappetref02_Three tappetref02_Jump inB
  simp only [reg_eq, sourced_eq, Option.bind_some, Option.bind_fun_some, ge_iff_le, Bool.and_assoc]
  refine ite_some (and_some (and_some rfl)) ?_
  refine ite_some (and_some (and_some rfl)) ?_
  refine ite_some (and_some (and_some rfl)) ?_
  refine ite_some (and_some (and_some (and_some ?_))) ?_
  · cases h : (i.Imm == 0)
    · simp only [Bool.false_eq_true, if_false]
      congr 1
      rw [Bool.eq_iff_iff]; simp at h ⊢; omega
    · simp at h; simp [h]
  refine ite_some (and_some (and_some (and_some (and_some rfl)))) ?_
  refine ite_some rfl ?_
  refine ite_some (and_some (and_some (and_some rfl))) ?_
  refine ite_some (and_some (and_some (and_some (and_some (and_some rfl))))) ?_
  refine ite_some rfl ?_
  refine ite_some (and_some (and_some (and_some rfl))) rfl


/-! ### Numbers -/
theorem digit_one : ∀ k : Fin 10, scut (⟨[48, 49, 50, 51, 52, 53, 54, 55, 56, 57].toArray⟩) ((k : Nat) : Int) (wu64 (((k : Nat) : Int) + 1)) = some ⟨[UInt8.ofNat (48 + (k : Nat))].toArray⟩ := by decide +kernel
theorem wu64_mod (n : Int) : wu64 n = n % 18446744073709551616 := rfl
theorem wu64_nat {n : Int} (h0 : 0 ≤ n) (h1 : n < 18446744073709551616) : wu64 n = n := by
  rw [wu64_mod]
  omega
theorem number_step {again : (Int × ByteArray) → Option ByteArray} {u : Nat} {s : ByteArray} (hu : u < 18446744073709551616) (hs : s.size ≤ 2000) :
    tappetref03_Number_l1 again ((u : Int), s) = if u < 10 then some (⟨[UInt8.ofNat (48 + u % 10)].toArray⟩ ++ s) else again (((u / 10 : Nat) : Int), ⟨[UInt8.ofNat (48 + u % 10)].toArray⟩ ++ s) := by
  unfold tappetref03_Number_l1
  have e1 : (u : Int).tmod 10 = ((u % 10 : Nat) : Int) := rfl
  have e2 : wu64 ((u : Int).tdiv 10) = ((u / 10 : Nat) : Int) := by
    show wu64 ((u / 10 : Nat) : Int) = _
    exact wu64_nat (by omega) (by omega)
  have e3 := digit_one ⟨u % 10, by omega⟩
  simp only at e3
  simp only [e1, e2, e3, Option.bind_some]
  have e4 : catB (⟨[UInt8.ofNat (48 + u % 10)].toArray⟩) s = some (⟨[UInt8.ofNat (48 + u % 10)].toArray⟩ ++ s) := by
    unfold catB
    rw [if_pos (by rw [show (⟨[UInt8.ofNat (48 + u % 10)].toArray⟩ : ByteArray).size = 1 from rfl]; omega)]
  rw [e4]
  simp only [Option.bind_some]
  by_cases h : u < 10
  · rw [if_pos (by simp; omega), if_pos h]
  · rw [if_neg (by simp; omega), if_neg h]
theorem number_loop (u : Nat) : ∀ (k fu : Nat) (s : ByteArray), u < 10 ^ k → 0 < k → k ≤ fu → u < 18446744073709551616 → s.size + k ≤ 1000 → loop tappetref03_Number_l1 fu ((u : Int), s) = some (⟨(Lib.decDigits u).toArray⟩ ++ s) := by
  induction u using Nat.strongRecOn with
  | _ u ih =>
    intro k fu s hk h0 hf hu hs
    obtain ⟨fu, rfl⟩ : ∃ f, fu = f + 1 := ⟨fu - 1, by omega⟩
    show tappetref03_Number_l1 (loop tappetref03_Number_l1 fu) ((u : Int), s) = _
    rw [number_step hu (by omega)]
    by_cases h : u < 10
    · rw [if_pos h]
      refine congrArg some (ba_ext ?_)
      rw [Lib.decDigits, dif_pos h, show u % 10 = u by omega]
    · rw [if_neg h]
      obtain ⟨k, rfl⟩ : ∃ j, k = j + 1 := ⟨k - 1, by omega⟩
      have hk0 : 0 < k := by
        cases k with
        | zero => simp at hk; omega
        | succ n => omega
      rw [ih (u / 10) (by omega) k fu _ (by rw [Nat.pow_succ] at hk; omega) hk0 (by omega) (by omega) (by rw [ByteArray.size_append, show (⟨[UInt8.ofNat (48 + u % 10)].toArray⟩ : ByteArray).size = 1 from rfl]; omega)]
      refine congrArg some (ba_ext ?_)
      conv => rhs; rw [Lib.decDigits, dif_neg h]
      rw [← ByteArray.append_assoc]
      simp only [app_list, List.toList_toArray]
theorem number_eq {fu : Nat} (hf : 21 ≤ fu) {n : Int} (h0 : -9223372036854775808 ≤ n) (h1 : n ≤ 9223372036854775807) : tappetref03_Number fu n = some (numT n) := by
  have hp : (18446744073709551616 : Nat) ≤ 10 ^ 21 := by decide
  unfold tappetref03_Number
  by_cases h : n < 0
  · have hd : decide (n < 0) = true := by simpa using h
    have e1 : wu64 (0 - wu64 n) = ((n.natAbs : Nat) : Int) := by
      rw [wu64_mod, wu64_mod]
      omega
    simp only [hd, if_true, Option.bind_some, e1]
    rw [number_loop n.natAbs 21 fu _ (by omega) (by decide) hf (by omega) (by decide)]
    simp only [Option.bind_some]
    have hz : (⟨(Lib.decDigits n.natAbs).toArray⟩ ++ ByteArray.empty : ByteArray).size ≤ 21 := by
      rw [ByteArray.append_empty]
      have := Lib.itoa_length_le n h0 h1
      unfold Lib.itoa at this
      rw [if_pos h] at this
      have e : (⟨(Lib.decDigits n.natAbs).toArray⟩ : ByteArray).size = (Lib.decDigits n.natAbs).length := by rw [Lib.size_eq]
      simp only [List.length_cons] at this
      omega
    have e4 : catB (⟨[45].toArray⟩) (⟨(Lib.decDigits n.natAbs).toArray⟩ ++ ByteArray.empty) = some (⟨[45].toArray⟩ ++ (⟨(Lib.decDigits n.natAbs).toArray⟩ ++ ByteArray.empty)) := by
      unfold catB
      rw [if_pos (by rw [show (⟨[45].toArray⟩ : ByteArray).size = 1 from rfl]; omega)]
    rw [e4]
    simp only [Option.bind_some]
    refine congrArg some (ba_ext ?_)
    unfold numT Lib.itoa
    rw [if_pos h, ByteArray.append_empty, app_list]
    simp
  · have hd : decide (n < 0) = false := by simpa using h
    have e1 : wu64 n = ((n.toNat : Nat) : Int) := by
      rw [wu64_mod]
      omega
    simp only [hd, Bool.false_eq_true, if_false, Option.bind_some, e1]
    rw [number_loop n.toNat 21 fu _ (by omega) (by decide) hf (by omega) (by decide)]
    simp only [Option.bind_some]
    refine congrArg some (ba_ext ?_)
    unfold numT Lib.itoa
    rw [if_neg h, ByteArray.append_empty]
theorem r_eq {fu : Nat} (hf : 21 ≤ fu) {n : Int} (h0 : 0 ≤ n) (h1 : n < 8) : tappetref03_r fu n = some (regT n) := by
  unfold tappetref03_r
  rw [number_eq hf (by omega) (by omega)]
  have h := (reg_is h0 h1).1
  unfold lines_reg at h
  rw [(num_is (n := n) (by omega) (by omega)).1] at h
  exact h
theorem source_eq {fu : Nat} (hf : 21 ≤ fu) {x : api_Inst} (hI : immOk x) (hB : x.B = 8 ∨ (0 ≤ x.B ∧ x.B < 8)) : tappetref03_source fu x = fieldW x 115 := by
  unfold tappetref03_source
  show _ = (if ((115 : Int) == 115 && x.B != 8) = true then lines_reg x.B else strconv_FormatInt x.Imm 10)
  by_cases h : x.B = 8
  · rw [h, number_eq hf hI.1 hI.2, (num_is hI.1 hI.2).2.1]
    rfl
  · have hB := hB.resolve_left h
    have e : (x.B == 8) = false := by simpa using h
    rw [e, r_eq hf hB.1 hB.2, (reg_is hB.1 hB.2).1]
    simp [h]
/-! ### Lines -/
theorem name_all : ∀ k : Fin 23, tappetref02_Name ((k : Nat) : Int) = ops_Name ((k : Nat) : Int) := by decide +kernel
theorem name_eq {k : Int} (h0 : 0 ≤ k) (h1 : k ≤ 22) : tappetref02_Name k = ops_Name k := by
  obtain ⟨q, rfl⟩ := Int.eq_ofNat_of_zero_le h0
  exact name_all ⟨q, by omega⟩
theorem chs_fws {x : api_Inst} {o : ByteArray} (h : lines_order x.Op = some o) : fws x o = (chs x.Op).map fun c => (fieldW x c).getD ByteArray.empty := by
  unfold chs fws
  rw [h]
  simp
/-- a line's bytes -/
theorem line_bytes {x : api_Inst} (hr : rightB x = true) (hI : immOk x) : ∃ nm o r, ops_Name x.Op = some nm ∧ lines_order x.Op = some o ∧ nm.size ≤ 33 ∧ lines_line 1000 x = some r ∧ r.size ≤ 39 ∧ r.data.toList = nm.data.toList ++ rest32 (fws x o) ∧
    NoB 32 nm.data.toList ∧ (∀ w ∈ fws x o, NoB 32 w.data.toList ∧ w.size ≤ 21) := by
  obtain ⟨nm, o, h1, h2, h3, h4, h5, h6⟩ := order_ok hr
  have hop := right_op hr
  obtain ⟨n1, n2, n3⟩ := order2_ok hop.1 hop.2 h1 h2
  have hf : ∀ i, i < o.size → ∃ w, (fws x o)[i]? = some w ∧ fieldW x (runeAt o i) = some w ∧ NoB 32 w.data.toList ∧ w.size ≤ 21 := by
    intro i hi
    obtain ⟨w, w1, w2, w3, w4⟩ := field_is hr hI (h5 i hi).2
    exact ⟨w, by simp [fws, hi, w1], w1, w2, w3⟩
  have hfl : (fws x o).length = o.size := by simp [fws]
  have hw : loop (lines_line_l1 x o) 1000 ([nm], 0) = some ([nm] ++ fws x o) := by
    refine loop_words (fun p hp => (h5 p hp).1) (fws x o) 1000 [nm] 0 (by omega) (by omega) (by simp; omega) (fun i w hi => ?_)
    have hlt := (List.getElem?_eq_some_iff.1 hi).1
    obtain ⟨v, v1, v2, _⟩ := hf i (by omega)
    rw [hi] at v1
    cases v1
    rw [Nat.zero_add]
    exact v2
  obtain ⟨r, hl, hsz, _⟩ := line_ok hr hI
  refine ⟨nm, o, r, h1, h2, by omega, hl, hsz, ?_, n1, fun w hw => ?_⟩
  · unfold lines_line at hl
    rw [h1, h2] at hl
    simp only [Option.bind_some, hw] at hl
    unfold strings_Join at hl
    split at hl
    · simp only [Option.bind_some, Option.some.injEq] at hl
      rw [← hl, List.toList_toArray, List.singleton_append, List.map_cons, Lib.join_cons]
      rfl
    · simp at hl
  · obtain ⟨i, hi⟩ := List.mem_iff_getElem?.1 hw
    have hlt := (List.getElem?_eq_some_iff.1 hi).1
    obtain ⟨v, v1, _, v2, v3⟩ := hf i (by omega)
    rw [hi] at v1
    cases v1
    exact ⟨v2, v3⟩
theorem cat3 {a b : ByteArray} {β : Type} {f : ByteArray → Option β} {R : β → Prop} (h : a.size + b.size ≤ 9223372036854775807) (k : OK (f (a ++ b)) R) : OK ((catB a b).bind f) R := OK.bind (cat_ok h k)
def chsF (k : Int) : List Int := if k = 0 ∨ k = 11 then [100, 115] else if k ≤ 10 then [100, 97, 115] else if k = 12 then [97, 115] else if k = 13 ∨ k = 14 then [100, 110] else if k = 15 then [106] else if k ≤ 19 then [97, 115, 106] else if k = 20 then [97, 106, 110] else if k = 21 then [110] else [97]
theorem chsF_all : ∀ k : Fin 23, chs ((k : Nat) : Int) = chsF ((k : Nat) : Int) := by decide +kernel
theorem chsF_eq {k : Int} (h0 : 0 ≤ k) (h1 : k ≤ 22) : chs k = chsF k := by
  obtain ⟨q, rfl⟩ := Int.eq_ofNat_of_zero_le h0
  exact chsF_all ⟨q, by omega⟩
/-- THE REFERENCE's LINE IS THE LINE -/
theorem refLine {fu : Nat} (hf : 21 ≤ fu) {x : api_Inst} (hr : rightB x = true) (hI : immOk x) : tappetref03_Line fu x = lines_line 1000 x := by
  obtain ⟨nm, o, r, h1, h2, hz, h3, hrz, hb, hn, hw⟩ := line_bytes hr hI
  have hop := right_op hr
  have hA := right_A hr
  have rA := r_eq (fu := fu) hf hA.1 hA.2
  have sA : (regT x.A).size = 2 := rfl
  have fA : fieldW x 97 = some (regT x.A) := (reg_is hA.1 hA.2).1
  have rI := number_eq (fu := fu) hf hI.1 hI.2
  have fI : fieldW x 110 = some (numT x.Imm) := (num_is hI.1 hI.2).2.1
  have sI := (num_is hI.1 hI.2).2.2.2.2.1
  have h32 : (⟨[32].toArray⟩ : ByteArray).size = 1 := rfl
  have l32 : (⟨[32].toArray⟩ : ByteArray).data.toList = [32] := rfl
  rw [h3]
  refine OK.is ?_
  have goal : OK (tappetref03_Line fu x) (fun t => t.data.toList = nm.data.toList ++ rest32 (fws x o)) := by
    rw [chs_fws h2, chsF_eq hop.1 hop.2]
    unfold tappetref03_Line chsF
    rw [name_eq hop.1 hop.2, h1]
    simp only [Option.bind_some]
    refine cat3 (by omega) ?_
    have hD : ¬ (15 ≤ x.Op ∧ x.Op ≤ 20) → tappetref03_r fu x.D = some (regT x.D) ∧ (regT x.D).size = 2 ∧ fieldW x 100 = some (regT x.D) := fun h => by
      have := right_D hr h
      exact ⟨r_eq hf this.1 this.2, rfl, (reg_is this.1 this.2).1⟩
    have hJ : 15 ≤ x.Op ∧ x.Op ≤ 20 → tappetref03_Number fu x.D = some (numT x.D) ∧ (numT x.D).size ≤ 21 ∧ fieldW x 106 = some (numT x.D) := fun h => by
      have := right_j hr h
      obtain ⟨q1, q2, q3, q4, q5, q6⟩ := num_is (n := x.D) (by omega) (by omega)
      exact ⟨number_eq hf (by omega) (by omega), q5, q1⟩
    have hS : (x.Op ≤ 12 ∨ (16 ≤ x.Op ∧ x.Op ≤ 19)) → ∃ w, tappetref03_source fu x = some w ∧ w.size ≤ 21 ∧ fieldW x 115 = some w := fun h => by
      obtain ⟨w, w1, w2, w3, _⟩ := field_is hr hI (c := 115) (.inr (.inr (.inr (.inl ⟨rfl, h⟩))))
      exact ⟨w, by rw [source_eq hf hI (right_src hr h), w1], w3, w1⟩
    refine OK.ite (fun h => ?_) (fun h => ?_)
    · have h : x.Op = 0 ∨ x.Op = 11 := by simpa using h
      obtain ⟨d1, d2, d3⟩ := hD (by omega)
      obtain ⟨w, s1, s2, s3⟩ := hS (by omega)
      rw [if_pos h, d1]
      simp only [Option.bind_some]
      refine cat3 (by simp only [ByteArray.size_append]; omega) (cat3 (by simp only [ByteArray.size_append]; omega) ?_)
      rw [s1]
      simp only [Option.bind_some]
      refine cat3 (by simp only [ByteArray.size_append]; omega) (OK.ret ?_)
      simp [d3, s3, rest32_cons, rest32_nil]
    have h : ¬ (x.Op = 0 ∨ x.Op = 11) := by simpa using h
    rw [if_neg h]
    refine OK.ite (fun h2 => ?_) (fun h2 => ?_)
    · have h2 : x.Op ≤ 10 := by simpa using h2
      obtain ⟨d1, d2, d3⟩ := hD (by omega)
      obtain ⟨w, s1, s2, s3⟩ := hS (by omega)
      rw [if_pos h2, d1]
      simp only [Option.bind_some]
      refine cat3 (by simp only [ByteArray.size_append]; omega) (cat3 (by simp only [ByteArray.size_append]; omega) ?_)
      rw [rA]
      simp only [Option.bind_some]
      refine cat3 (by simp only [ByteArray.size_append]; omega) (cat3 (by simp only [ByteArray.size_append]; omega) ?_)
      rw [s1]
      simp only [Option.bind_some]
      refine cat3 (by simp only [ByteArray.size_append]; omega) (OK.ret ?_)
      simp [d3, fA, s3, rest32_cons, rest32_nil]
    have h2 : ¬ x.Op ≤ 10 := by simpa using h2
    rw [if_neg h2]
    refine OK.ite (fun h3 => ?_) (fun h3 => ?_)
    · have h3 : x.Op = 12 := by simpa using h3
      obtain ⟨w, s1, s2, s3⟩ := hS (by omega)
      rw [if_pos h3, rA]
      simp only [Option.bind_some]
      refine cat3 (by simp only [ByteArray.size_append]; omega) (cat3 (by simp only [ByteArray.size_append]; omega) ?_)
      rw [s1]
      simp only [Option.bind_some]
      refine cat3 (by simp only [ByteArray.size_append]; omega) (OK.ret ?_)
      simp [fA, s3, rest32_cons, rest32_nil]
    have h3 : ¬ x.Op = 12 := by simpa using h3
    rw [if_neg h3]
    refine OK.ite (fun h4 => ?_) (fun h4 => ?_)
    · have h4 : x.Op = 13 ∨ x.Op = 14 := by simpa using h4
      obtain ⟨d1, d2, d3⟩ := hD (by omega)
      rw [if_pos h4, d1]
      simp only [Option.bind_some]
      refine cat3 (by simp only [ByteArray.size_append]; omega) (cat3 (by simp only [ByteArray.size_append]; omega) ?_)
      rw [rI]
      simp only [Option.bind_some]
      refine cat3 (by simp only [ByteArray.size_append]; omega) (OK.ret ?_)
      simp [d3, fI, rest32_cons, rest32_nil]
    have h4 : ¬ (x.Op = 13 ∨ x.Op = 14) := by simpa using h4
    rw [if_neg h4]
    refine OK.ite (fun h5 => ?_) (fun h5 => ?_)
    · have h5 : x.Op = 15 := by simpa using h5
      obtain ⟨d1, d2, d3⟩ := hJ (by omega)
      rw [if_pos h5, d1]
      simp only [Option.bind_some]
      refine cat3 (by simp only [ByteArray.size_append]; omega) (OK.ret ?_)
      simp [d3, rest32_cons, rest32_nil]
    have h5 : ¬ x.Op = 15 := by simpa using h5
    rw [if_neg h5]
    refine OK.ite (fun h6 => ?_) (fun h6 => ?_)
    · have h6 : x.Op ≤ 19 := by simpa using h6
      obtain ⟨d1, d2, d3⟩ := hJ (by omega)
      obtain ⟨w, s1, s2, s3⟩ := hS (by omega)
      rw [if_pos h6, rA]
      simp only [Option.bind_some]
      refine cat3 (by simp only [ByteArray.size_append]; omega) (cat3 (by simp only [ByteArray.size_append]; omega) ?_)
      rw [s1]
      simp only [Option.bind_some]
      refine cat3 (by simp only [ByteArray.size_append]; omega) (cat3 (by simp only [ByteArray.size_append]; omega) ?_)
      rw [d1]
      simp only [Option.bind_some]
      refine cat3 (by simp only [ByteArray.size_append]; omega) (OK.ret ?_)
      simp [d3, fA, s3, rest32_cons, rest32_nil]
    have h6 : ¬ x.Op ≤ 19 := by simpa using h6
    rw [if_neg h6]
    refine OK.ite (fun h7 => ?_) (fun h7 => ?_)
    · have h7 : x.Op = 20 := by simpa using h7
      obtain ⟨d1, d2, d3⟩ := hJ (by omega)
      rw [if_pos h7, rA]
      simp only [Option.bind_some]
      refine cat3 (by simp only [ByteArray.size_append]; omega) (cat3 (by simp only [ByteArray.size_append]; omega) ?_)
      rw [d1]
      simp only [Option.bind_some]
      refine cat3 (by simp only [ByteArray.size_append]; omega) (cat3 (by simp only [ByteArray.size_append]; omega) ?_)
      rw [rI]
      simp only [Option.bind_some]
      refine cat3 (by simp only [ByteArray.size_append]; omega) (OK.ret ?_)
      simp [d3, fA, fI, rest32_cons, rest32_nil]
    have h7 : ¬ x.Op = 20 := by simpa using h7
    rw [if_neg h7]
    refine OK.ite (fun h8 => ?_) (fun h8 => ?_)
    · have h8 : x.Op = 21 := by simpa using h8
      rw [if_pos h8, rI]
      simp only [Option.bind_some]
      refine cat3 (by simp only [ByteArray.size_append]; omega) (OK.ret ?_)
      simp [fI, rest32_cons, rest32_nil]
    have h8 : ¬ x.Op = 21 := by simpa using h8
    rw [if_neg h8, rA]
    simp only [Option.bind_some]
    refine cat3 (by simp only [ByteArray.size_append]; omega) (OK.ret ?_)
    simp [fA, rest32_cons, rest32_nil]
  exact goal.mono (fun t ht => ba_ext (by rw [ht, hb]))
/-! ### Print -/
theorem text_bytes (s : ByteArray) : strOfNums (bytesOf s) = s := by
  apply ba_ext
  unfold strOfNums bytesOf
  have hf : ((fun (n : Int) => UInt8.ofNat n.toNat) ∘ fun (b : UInt8) => (b.toNat : Int)) = id := by
    funext b
    simp [Function.comp]
  rw [List.map_map, hf, List.map_id]
theorem bytes_app (a b : ByteArray) : bytesOf (a ++ b) = bytesOf a ++ bytesOf b := by
  unfold bytesOf
  rw [app_list, List.map_append]
theorem refPrint_eq {fu : Nat} (hf : 21 ≤ fu) {l : List api_Inst} (hl : l.length * 40 ≤ 140737488355328) (hI : ∀ x ∈ l, immOk x) : tappetref03_Print fu l = some (if l.all rightB then (catL (l.map lineT), 0) else (ByteArray.empty, 12)) := by
  refine OK.is ?_
  unfold tappetref03_Print
  refine OK.bind2 (OK.count (Q := fun o => match o with | .inl s => l.all rightB = true ∧ s = bytesOf (catL (l.map lineT)) | .inr r => l.all rightB = false ∧ r = (ByteArray.empty, 12))
    (fun i s => (l.take i).all rightB = true ∧ s = bytesOf (catL ((l.take i).map lineT)) ∧ (catL ((l.take i).map lineT)).size ≤ i * 40) ⟨by simp, rfl, by rw [List.take_zero]; decide⟩ (fun i s again hi hs k => ?_) (fun s hs => ?_)) (fun o ho => ?_)
  · unfold tappetref03_Print_l1
    refine OK.bind (OK.getN hi (fun x hx => ?_))
    have hmem := List.mem_of_getElem? hx
    rw [refRight_eq]
    simp only [Option.bind_some]
    refine OK.ite (fun h => OK.ret ?_) (fun h => ?_)
    · have h : rightB x = false := by simpa using h
      refine ⟨?_, rfl⟩
      cases ha : l.all rightB with
      | false => rfl
      | true =>
        have := List.all_eq_true.1 ha x hmem
        rw [h] at this; cases this
    · have h : rightB x = true := by simpa using h
      obtain ⟨r, e1, e2, e3, e4⟩ := lineT_ok h (hI x hmem)
      rw [refLine hf h (hI x hmem), e1]
      simp only [Option.bind_some]
      obtain ⟨s1, s2, s3⟩ := hs
      have hlen : s.length = (catL ((l.take i).map lineT)).size := by rw [s2, bytesOf_len]
      have h5 : (i + 1) * 40 ≤ l.length * 40 := Nat.mul_le_mul_right 40 hi
      refine OK.bind (OK.hasRoom (by omega) (OK.bind (OK.hasRoom (by rw [List.length_append, bytesOf_len]; simp; omega) ?_)))
      have hc : catL ((l.take (i + 1)).map lineT) = catL ((l.take i).map lineT) ++ (r ++ nl) := by
        rw [List.take_add_one, hx]
        simp only [Option.toList_some, List.map_append, List.map_cons, List.map_nil]
        rw [catL_snoc, e2]
      refine k _ ⟨?_, ?_, ?_⟩
      · rw [List.take_add_one, hx]
        simp [s1, h]
      · rw [hc, bytes_app, bytes_app, s2, List.append_assoc]
        rfl
      · rw [hc, ByteArray.size_append, ByteArray.size_append, show nl.size = 1 from rfl]
        omega
  · rw [List.take_length] at hs
    exact ⟨hs.1, hs.2.1⟩
  · cases o with
    | inl s => 
      obtain ⟨a, b⟩ := ho
      rw [a, b]
      exact OK.ret (by rw [text_bytes]; rfl)
    | inr r =>
      obtain ⟨a, b⟩ := ho
      rw [a, b]
      exact OK.ret rfl
theorem linesPrints_law (p0 : List api_Inst) (hl : p0.length * 40 ≤ 140737488355328) (hI : ∀ x ∈ p0, immOk x) : tappetlaw03_LinesPrints 1000 p0 = some true := by
  have sne : ∀ a : ByteArray, sNe a a = false := fun a => by unfold sNe; rw [sEq_iff.2 rfl]; rfl
  refine OK.is ?_
  unfold tappetlaw03_LinesPrints
  rw [awake_fu (by omega)]
  simp only [Option.bind_some]
  refine OK.ite_false rfl ?_
  refine OK.bind (OK.hasRoom (by simpa using hl) ?_)
  rw [List.nil_append, Print_eq hl hI, refPrint_eq (by omega) hl hI]
  simp only [Option.bind_some]
  refine OK.bind2 (R := fun o => o = false) (OK.ite_false (sne _) (OK.ite_false (by simp) ?_)) (fun o ho => ?_)
  · rw [alike_refl]
    exact OK.ret rfl
  subst ho
  refine OK.ite_false rfl ?_
  refine OK.bind2 (OK.count (Q := fun o => o = .inl ()) (fun i _ => True) trivial (fun i s again hi _ k => ?_) (fun s _ => rfl)) (fun o ho => by subst ho; exact OK.ret rfl)
  unfold tappetlaw03_LinesPrints_l1
  refine OK.bind (OK.getN hi (fun x hx => ?_))
  have hx1 : ∀ y ∈ [x], immOk y := fun y hy => by rw [List.mem_singleton] at hy; subst hy; exact hI _ (List.mem_of_getElem? hx)
  have hcut : cut p0 (i : Int) (w64 ((i : Int) + 1)) = some [x] := by
    rw [w64_eq (by omega) (by omega)]
    unfold cut
    rw [if_pos (by omega)]
    have hli : (p0.take i).length = i := by rw [List.length_take]; omega
    rw [show ((i : Int) + 1).toNat = i + 1 by omega, Int.toNat_natCast, List.take_add_one, hx]
    simp only [Option.toList_some]
    refine congrArg some ?_
    conv => lhs; rw [← hli]
    rw [show (p0.take (p0.take i).length) = p0.take i by rw [hli]]
    exact List.drop_left
  rw [Print_eq (by simp) hx1]
  simp only [Option.bind_some, hcut]
  rw [refPrint_eq (by omega) (by simp) hx1]
  simp only [Option.bind_some]
  exact OK.ite_false (by rw [sne]; simp) (k _ trivial)
end Go.Proofs.YteaedkohbgediaaDoor

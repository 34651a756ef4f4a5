/- Numbers as the references write them. -/
import Derived.Test.YtalllncanpcmfaaDoorKParsed
set_option linter.unusedVariables false
set_option linter.unusedSimpArgs false
namespace Go.Proofs.YtalllncanpcmfaaDoor
open Go.Sx
def numT (n : Int) : ByteArray := ⟨(Lib.itoa n).toArray⟩
def decT (n : Nat) : ByteArray := ⟨(Lib.decDigits n).toArray⟩
theorem digit_one : ∀ k : Fin 10, scut (⟨[48, 49, 50, 51, 52, 53, 54, 55, 56, 57].toArray⟩) ((k : Nat) : Int) (wu64 (((k : Nat) : Int) + 1)) = some ⟨[UInt8.ofNat (48 + (k : Nat))].toArray⟩ := by decide +kernel
theorem wu64_mod (n : Int) : wu64 n = n % 18446744073709551616 := rfl
theorem wu64_nat {n : Int} (h0 : 0 ≤ n) (h1 : n < 18446744073709551616) : wu64 n = n := by
  rw [wu64_mod]
  omega
theorem number_step {again : (Int × ByteArray) → Option ByteArray} {u : Nat} {s : ByteArray} (hu : u < 18446744073709551616) (hs : s.size ≤ 2000) :
    tappetref03_Number_l1 again ((u : Int), s) = if u < 10 then some (⟨[UInt8.ofNat (48 + u % 10)].toArray⟩ ++ s) else again (((u / 10 : Nat) : Int), ⟨[UInt8.ofNat (48 + u % 10)].toArray⟩ ++ s) := by
  unfold tappetref03_Number_l1
  have e1 : (u : Int).tmod 10 = ((u % 10 : Nat) : Int) := rfl
  have e2 : wu64 ((u : Int).tdiv 10) = ((u / 10 : Nat) : Int) := by
    show wu64 ((u / 10 : Nat) : Int) = _
    exact wu64_nat (by omega) (by omega)
  have e3 := digit_one ⟨u % 10, by omega⟩
  simp only at e3
  simp only [e1, e2, e3, Option.bind_some]
  have e4 : catB (⟨[UInt8.ofNat (48 + u % 10)].toArray⟩) s = some (⟨[UInt8.ofNat (48 + u % 10)].toArray⟩ ++ s) := by
    unfold catB
    rw [if_pos (by rw [show (⟨[UInt8.ofNat (48 + u % 10)].toArray⟩ : ByteArray).size = 1 from rfl]; omega)]
  rw [e4]
  simp only [Option.bind_some]
  by_cases h : u < 10
  · rw [if_pos (by simp; omega), if_pos h]
  · rw [if_neg (by simp; omega), if_neg h]
theorem number_loop (u : Nat) : ∀ (k fu : Nat) (s : ByteArray), u < 10 ^ k → 0 < k → k ≤ fu → u < 18446744073709551616 → s.size + k ≤ 1000 → loop tappetref03_Number_l1 fu ((u : Int), s) = some (⟨(Lib.decDigits u).toArray⟩ ++ s) := by
  induction u using Nat.strongRecOn with
  | _ u ih =>
    intro k fu s hk h0 hf hu hs
    obtain ⟨fu, rfl⟩ : ∃ f, fu = f + 1 := ⟨fu - 1, by omega⟩
    show tappetref03_Number_l1 (loop tappetref03_Number_l1 fu) ((u : Int), s) = _
    rw [number_step hu (by omega)]
    by_cases h : u < 10
    · rw [if_pos h]
      refine congrArg some (ba_ext ?_)
      rw [Lib.decDigits, dif_pos h, show u % 10 = u by omega]
    · rw [if_neg h]
      obtain ⟨k, rfl⟩ : ∃ j, k = j + 1 := ⟨k - 1, by omega⟩
      have hk0 : 0 < k := by
        cases k with
        | zero => simp at hk; omega
        | succ n => omega
      rw [ih (u / 10) (by omega) k fu _ (by rw [Nat.pow_succ] at hk; omega) hk0 (by omega) (by omega) (by rw [ByteArray.size_append, show (⟨[UInt8.ofNat (48 + u % 10)].toArray⟩ : ByteArray).size = 1 from rfl]; omega)]
      refine congrArg some (ba_ext ?_)
      conv => rhs; rw [Lib.decDigits, dif_neg h]
      rw [← ByteArray.append_assoc]
      simp only [app_list, List.toList_toArray]
theorem number_eq {fu : Nat} (hf : 21 ≤ fu) {n : Int} (h0 : -9223372036854775808 ≤ n) (h1 : n ≤ 9223372036854775807) : tappetref03_Number fu n = some (numT n) := by
  have hp : (18446744073709551616 : Nat) ≤ 10 ^ 21 := by decide
  unfold tappetref03_Number
  by_cases h : n < 0
  · have hd : decide (n < 0) = true := by simpa using h
    have e1 : wu64 (0 - wu64 n) = ((n.natAbs : Nat) : Int) := by
      rw [wu64_mod, wu64_mod]
      omega
    simp only [hd, if_true, Option.bind_some, e1]
    rw [number_loop n.natAbs 21 fu _ (by omega) (by decide) hf (by omega) (by decide)]
    simp only [Option.bind_some]
    have hz : (⟨(Lib.decDigits n.natAbs).toArray⟩ ++ ByteArray.empty : ByteArray).size ≤ 21 := by
      rw [ByteArray.append_empty]
      have := Lib.itoa_length_le n h0 h1
      unfold Lib.itoa at this
      rw [if_pos h] at this
      have e : (⟨(Lib.decDigits n.natAbs).toArray⟩ : ByteArray).size = (Lib.decDigits n.natAbs).length := by rw [Lib.size_eq]
      simp only [List.length_cons] at this
      omega
    have e4 : catB (⟨[45].toArray⟩) (⟨(Lib.decDigits n.natAbs).toArray⟩ ++ ByteArray.empty) = some (⟨[45].toArray⟩ ++ (⟨(Lib.decDigits n.natAbs).toArray⟩ ++ ByteArray.empty)) := by
      unfold catB
      rw [if_pos (by rw [show (⟨[45].toArray⟩ : ByteArray).size = 1 from rfl]; omega)]
    rw [e4]
    simp only [Option.bind_some]
    refine congrArg some (ba_ext ?_)
    unfold numT Lib.itoa
    rw [if_pos h, ByteArray.append_empty, app_list]
    simp
  · have hd : decide (n < 0) = false := by simpa using h
    have e1 : wu64 n = ((n.toNat : Nat) : Int) := by
      rw [wu64_mod]
      omega
    simp only [hd, Bool.false_eq_true, if_false, Option.bind_some, e1]
    rw [number_loop n.toNat 21 fu _ (by omega) (by decide) hf (by omega) (by decide)]
    simp only [Option.bind_some]
    refine congrArg some (ba_ext ?_)
    unfold numT Lib.itoa
    rw [if_neg h, ByteArray.append_empty]
/-- what the recursion writes: n's digits -/
theorem digits_eq (n : Nat) : ∀ (k fu : Nat), n < 10 ^ k → 0 < k → k ≤ 21 → k ≤ fu → n < 18446744073709551616 → tappetref26_digits fu (n : Int) = some (decT n) := by
  induction n using Nat.strongRecOn with
  | _ n ih =>
    intro k fu hk h0 h21 hf hn
    obtain ⟨fu, rfl⟩ : ∃ f, fu = f + 1 := ⟨fu - 1, by omega⟩
    rw [tappetref26_digits]
    by_cases h : n < 10
    · rw [if_pos (by simp; omega)]
      have e3 := digit_one ⟨n, h⟩
      simp only at e3
      rw [e3]
      simp only [Option.bind_some]
      refine congrArg some (ba_ext ?_)
      unfold decT
      rw [Lib.decDigits, dif_pos h]
    · rw [if_neg (by simp; omega)]
      obtain ⟨k, rfl⟩ : ∃ j, k = j + 1 := ⟨k - 1, by omega⟩
      have hk0 : 0 < k := by
        cases k with
        | zero => simp at hk; omega
        | succ n => omega
      have e2 : wu64 ((n : Int).tdiv 10) = ((n / 10 : Nat) : Int) := by
        show wu64 ((n / 10 : Nat) : Int) = _
        exact wu64_nat (by omega) (by omega)
      have e1 : (n : Int).tmod 10 = ((n % 10 : Nat) : Int) := rfl
      rw [e1, e2, ih (n / 10) (by omega) k fu (by rw [Nat.pow_succ] at hk; omega) hk0 (by omega) (by omega) (by omega), ih (n % 10) (by omega) 1 fu (by omega) (by decide) (by decide) (by omega) (by omega)]
      simp only [Option.bind_some]
      have hz : (decT (n / 10)).size ≤ 20 := by
        have := Lib.nDigits_le20 (n / 10) (by omega)
        unfold decT
        rw [Lib.size_eq]
        simp only [List.toList_toArray]
        rw [Lib.decDigits_length]; exact this
      have hz2 : (decT (n % 10)).size ≤ 20 := by
        have := Lib.nDigits_le20 (n % 10) (by omega)
        unfold decT
        rw [Lib.size_eq]
        simp only [List.toList_toArray]
        rw [Lib.decDigits_length]; exact this
      have e4 : catB (decT (n / 10)) (decT (n % 10)) = some (decT (n / 10) ++ decT (n % 10)) := by
        unfold catB
        rw [if_pos (by omega)]
      rw [e4]
      simp only [Option.bind_some]
      refine congrArg some (ba_ext ?_)
      rw [app_list]
      unfold decT
      simp only [List.toList_toArray]
      conv => rhs; rw [Lib.decDigits, dif_neg h]
      conv => lhs; arg 2; rw [Lib.decDigits, dif_pos (by omega)]
end Go.Proofs.YtalllncanpcmfaaDoor

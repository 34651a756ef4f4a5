/- The reference sets a field from a word. -/
import Derived.Test.YtalllncanpcmfaaDoorKPrint
set_option linter.unusedVariables false
set_option linter.unusedSimpArgs false
namespace Go.Proofs.YtalllncanpcmfaaDoor
open Go.Sx

theorem w64_def (x : Int) : w64 x = if 9223372036854775808 ≤ x % 18446744073709551616 then x % 18446744073709551616 - 18446744073709551616 else x % 18446744073709551616 := by
  have e1 : (2 ^ IntKind.i64.bits : Int) = 18446744073709551616 := rfl
  have e2 : (2 ^ (IntKind.i64.bits - 1) : Int) = 9223372036854775808 := rfl
  unfold w64 IntKind.wrap
  simp only [e1, e2, show IntKind.i64.signed = true from rfl, Bool.true_and, decide_eq_true_eq, ge_iff_le]
theorem wrap_range (x : Int) : i64 (w64 x) := by
  unfold i64
  rw [w64_def]
  split <;> omega
theorem w64_neg {x : Int} (h0 : 9223372036854775808 ≤ x) (h1 : x < 18446744073709551616) : w64 x = x - 18446744073709551616 := by
  rw [w64_def]
  split <;> omega
theorem wu64_range (x : Int) : u64 (wu64 x) := by
  unfold u64
  rw [wu64_mod]
  omega
theorem set_ok {fu : Nat} {e : api_Entry} {c : Int} (hc : Let20 c) {w : ByteArray} (hz : w.size ≤ 1048576) (hf : w.size + 2 ≤ fu) :
    OK (tappetref26_set fu e c w) (fun r => r.2 = true → ∃ v, r.1 = setf e c v ∧ (wide c = true → u64 v) ∧ (wide c = false → i64 v)) := by
  unfold tappetref26_set
  refine OK.bind2 (R := fun b => b = false → 2 ≤ w.size) ?_ (fun b hb => ?_)
  · refine OK.ite (fun _ => OK.ret (fun e => by cases e)) (fun e => ?_)
    have h2 : 2 ≤ w.size := by simp at e; omega
    obtain ⟨d, hd⟩ := sidx_some (s := w) (i := 0) (by omega)
    have hd : sidx w 0 = some d := hd
    rw [hd]
    exact OK.ret (fun _ => h2)
  refine OK.ite (fun _ => OK.ret (fun e => by cases e)) (fun e => ?_)
  have h2 := hb e
  obtain ⟨d, hd⟩ := sidx_some (s := w) (i := 1) (by omega)
  have hd : sidx w 1 = some d := hd
  rw [hd]
  simp only [Option.bind_some]
  refine OK.bind2 (R := fun k : Int => 1 ≤ k ∧ k ≤ 2) (OK.ite (fun _ => OK.ret ⟨by decide, by decide⟩) (fun _ => OK.ret ⟨by decide, by decide⟩)) (fun k hk => ?_)
  refine OK.bind2 (R := fun o => match o with | .inl n => u64 n | .inr r => r.2 = false) ?_ (fun o ho => ?_)
  · refine OK.rounds (fun (s : Int × Int) => u64 s.1 ∧ 1 ≤ s.2 ∧ s.2 ≤ (w.size : Int)) (fun s => w.size - s.2.toNat) (fun s again hs kk => ?_) fu (0, k) ⟨u64_0, hk.1, by show k ≤ _; omega⟩ (by show w.size - k.toNat < fu; omega)
    obtain ⟨n, i⟩ := s
    obtain ⟨s1, s2, s3⟩ := hs
    have s1 : u64 n := s1
    have s2 : 1 ≤ i := s2
    have s3 : i ≤ (w.size : Int) := s3
    unfold tappetref26_set_l1
    refine OK.ite (fun hi => ?_) (fun _ => OK.ret s1)
    have hi : i < (w.size : Int) := by simpa using hi
    obtain ⟨q, hq⟩ := sidx_some (s := w) (i := i.toNat) (by omega)
    rw [show ((i.toNat : Nat) : Int) = i by omega] at hq
    simp only
    rw [hq]
    simp only [Option.bind_some]
    refine OK.bind2 (R := fun _ => True) (OK.ite (fun _ => OK.ret trivial) (fun _ => OK.ret trivial)) (fun b _ => ?_)
    refine OK.ite (fun _ => OK.ret rfl) (fun _ => kk _ ⟨wu64_range _, ?_, ?_⟩ ?_)
    · show 1 ≤ w64 (i + 1)
      rw [w64_eq (by omega) (by omega)]; omega
    · show w64 (i + 1) ≤ _
      rw [w64_eq (by omega) (by omega)]; omega
    · show w.size - (w64 (i + 1)).toNat < w.size - i.toNat
      rw [w64_eq (by omega) (by omega)]; omega
  · cases o with
    | inr r => exact OK.ret (fun e => by rw [show r.2 = false from ho] at e; cases e)
    | inl n =>
      have ho : u64 n := ho
      simp only
      refine OK.bind2 (R := i64) (OK.ite (fun _ => OK.ret (wrap_range _)) (fun _ => OK.ret (wrap_range _))) (fun v hv => ?_)
      cases hc with
      | c_n => exact OK.ret (fun _ => ⟨n, rfl, fun _ => ho, fun e => absurd e (by decide)⟩)
      | c_k => exact OK.ret (fun _ => ⟨n, rfl, fun _ => ho, fun e => absurd e (by decide)⟩)
      | c_w => exact OK.ret (fun _ => ⟨n, rfl, fun _ => ho, fun e => absurd e (by decide)⟩)
      | c_r => exact OK.ret (fun _ => ⟨n, rfl, fun _ => ho, fun e => absurd e (by decide)⟩)
      | c_O => exact OK.ret (fun _ => ⟨n, rfl, fun _ => ho, fun e => absurd e (by decide)⟩)
      | c_V => exact OK.ret (fun _ => ⟨n, rfl, fun _ => ho, fun e => absurd e (by decide)⟩)
      | _ => exact OK.ret (fun _ => ⟨v, rfl, fun e => absurd e (by decide), fun _ => hv⟩)
theorem set_digits {e : api_Entry} {w : ByteArray} : ∀ (l : List UInt8) (pre : List UInt8) (acc fu : Nat), w.data.toList = pre ++ l → (∀ c ∈ l, digit c) → valD acc l < 18446744073709551616 → w.size ≤ 1000 → l.length < fu →
    loop (tappetref26_set_l1 e w) fu ((acc : Int), (pre.length : Int)) = some (.inl ((valD acc l : Nat) : Int))
  | [], pre, acc, fu, h, hd, hv, hz, hf => by
    obtain ⟨fu, rfl⟩ : ∃ f, fu = f + 1 := ⟨fu - 1, by omega⟩
    show tappetref26_set_l1 e w (loop (tappetref26_set_l1 e w) fu) ((acc : Int), (pre.length : Int)) = _
    have hsz : w.size = pre.length := by rw [Lib.size_eq, h]; simp
    unfold tappetref26_set_l1
    rw [if_neg (by simp; omega)]
    rfl
  | c :: l, pre, acc, fu, h, hd, hv, hz, hf => by
    obtain ⟨fu, rfl⟩ : ∃ f, fu = f + 1 := ⟨fu - 1, by omega⟩
    have ih := set_digits (e := e) l (pre ++ [c]) (acc * 10 + (c.toNat - 48)) fu (by rw [h]; simp) (fun y hy => hd y (List.mem_cons_of_mem _ hy)) (by rw [← valD_cons]; exact hv) hz (by simp at hf; omega)
    show tappetref26_set_l1 e w (loop (tappetref26_set_l1 e w) fu) ((acc : Int), (pre.length : Int)) = _
    generalize loop (tappetref26_set_l1 e w) fu = K at ih
    have hsz : w.size = pre.length + (l.length + 1) := by rw [Lib.size_eq, h]; simp
    have hdc : 48 ≤ c.toNat ∧ c.toNat ≤ 57 := hd c (List.mem_cons_self ..)
    have hb : sidx w (pre.length : Int) = some (c.toNat : Int) := sidx_eq (by rw [h]; simp)
    unfold tappetref26_set_l1
    simp only
    rw [if_pos (by simp; omega), hb]
    simp only [Option.bind_some]
    rw [if_neg (by simp; omega)]
    simp only [Option.bind_some]
    rw [if_neg (by simp; omega)]
    have e8 : IntKind.u8.wrap ((c.toNat : Int) - 48) = (((c.toNat - 48 : Nat)) : Int) := by
      have : IntKind.u8.wrap ((c.toNat : Int) - 48) = ((c.toNat : Int) - 48) % 256 := rfl
      rw [this]; omega
    have hm := valD_le l (acc * 10 + (c.toNat - 48))
    rw [← valD_cons] at hm
    have e9 : wu64 ((wu64 (10 * (acc : Int))) + (wu64 (IntKind.u8.wrap ((c.toNat : Int) - 48)))) = ((acc * 10 + (c.toNat - 48) : Nat) : Int) := by
      rw [e8]
      simp only [wu64_mod]
      omega
    rw [e9, w64_eq (by omega) (by omega), valD_cons]
    rw [List.length_append, List.length_singleton] at ih
    exact ih
theorem set_eq {fu : Nat} (hf : 100 ≤ fu) {x e : api_Entry} (h : wfE x) {c : Int} (hc : Let20 c) : tappetref26_set fu e c (fW x c) = some (setf e c (fld x c), true) := by
  have hz := fW_size h hc
  have hr := let_range hc
  have hl : (fW x c).data.toList = UInt8.ofNat c.toNat :: (if wide c then Lib.decDigits (fld x c).toNat else Lib.itoa (fld x c)) := rfl
  -- the word's number, after the sign
  have hdig : ∀ (l : List UInt8) (n : Nat) (neg : Bool), (if wide c then Lib.decDigits (fld x c).toNat else Lib.itoa (fld x c)) = (if neg then [45] else []) ++ l → (∀ c ∈ l, digit c) → l ≠ [] → valD 0 l = n → n < 18446744073709551616 →
      tappetref26_set fu e c (fW x c) = (if neg then some (w64 (wu64 (0 - (n : Int)))) else some (w64 (n : Int))).bind fun k => some (setf e c (if wide c then (n : Int) else k), true) := by
    intro l n neg hl2 hd hne hv hn
    have hll : l.length ≤ 21 := by
      have := hz.1
      rw [Lib.size_eq, hl, hl2] at this
      cases neg <;> simp at this <;> omega
    rw [hl2] at hl
    unfold tappetref26_set
    rw [if_neg (by simp; omega), head_of hc]
    simp only [Option.bind_some]
    rw [if_neg (by simp)]
    have hb : ∃ q : UInt8, sidx (fW x c) 1 = some (q.toNat : Int) ∧ ((q.toNat : Int) == 45) = neg := by
      cases neg with
      | true => exact ⟨45, sidx_eq (i := 1) (by rw [hl]; rfl), rfl⟩
      | false =>
        cases l with
        | nil => exact absurd rfl hne
        | cons a l =>
          have := hd a (List.mem_cons_self ..)
          unfold digit at this
          exact ⟨a, sidx_eq (i := 1) (by rw [hl]; rfl), by rw [beq_eq_false_iff_ne]; omega⟩
    obtain ⟨q, hq, hqn⟩ := hb
    rw [hq]
    simp only [Option.bind_some, hqn]
    have hstart : (if neg = true then some (2 : Int) else some 1) = some ((((UInt8.ofNat c.toNat :: (if neg then [45] else [])) : List UInt8).length : Nat) : Int) := by cases neg <;> rfl
    rw [hstart]
    simp only [Option.bind_some]
    have hs := set_digits (e := e) (w := fW x c) l (UInt8.ofNat c.toNat :: (if neg then [45] else [])) 0 fu (by rw [hl]; rfl) hd (by rw [hv]; exact hn) (by omega) (by omega)
    rw [hv] at hs
    rw [show (((0 : Nat) : Int)) = 0 from rfl] at hs
    rw [hs]
    simp only [Option.bind_some]
    cases neg <;> simp only [Bool.false_eq_true, if_true, if_false, Option.bind_some] <;> cases hc <;> rfl
  cases hw : wide c with
  | true =>
    rw [hw] at hdig
    have hu := fld_wide h hc hw
    obtain ⟨d1, d2, d3⟩ := dec_digits (fld x c).toNat
    rw [hdig (Lib.decDigits (fld x c).toNat) (fld x c).toNat false rfl d1 d3 d2 (by have := hu.1; have := hu.2; omega)]
    simp only [Bool.false_eq_true, if_false, Option.bind_some, if_true]
    rw [show (((fld x c).toNat : Nat) : Int) = fld x c by have := hu.1; omega]
  | false =>
    rw [hw] at hdig
    have hi := fld_int h hc hw
    have h0 := hi.1
    have h1 := hi.2
    by_cases hn : fld x c < 0
    · obtain ⟨d1, d2, d3⟩ := dec_digits (fld x c).natAbs
      rw [hdig (Lib.decDigits (fld x c).natAbs) (fld x c).natAbs true (by unfold Lib.itoa; rw [if_pos hn]; rfl) d1 d3 d2 (by omega)]
      have e2 : w64 (wu64 (0 - (((fld x c).natAbs : Nat) : Int))) = fld x c := by
        rw [wu64_mod]
        generalize fld x c = n at *
        rw [w64_def]
        split <;> omega
      simp only [Bool.false_eq_true, if_true, if_false, Option.bind_some, e2]
    · obtain ⟨d1, d2, d3⟩ := dec_digits (fld x c).toNat
      rw [hdig (Lib.decDigits (fld x c).toNat) (fld x c).toNat false (by unfold Lib.itoa; rw [if_neg hn]; rfl) d1 d3 d2 (by omega)]
      simp only [Bool.false_eq_true, if_false, Option.bind_some]
      rw [show (((fld x c).toNat : Nat) : Int) = fld x c by omega, w64_eq (by omega) (by omega)]
end Go.Proofs.YtalllncanpcmfaaDoor

/- Texts cut at one byte, and numbers read back: plain lists of bytes. -/
import Derived.Lib.SplitLaws
import Derived.Lib.Split
import Derived.Lib.IndexMore
import Derived.Lib.IndexBytes
import Derived.Lib.ItoaNum
import Derived.Lib.ParseIntB
import Derived.Lib.Join
set_option linter.unusedVariables false
set_option linter.unusedSimpArgs false
namespace Go.Proofs.YtalllncanpcmfaaDoor

/-- the byte c is nowhere -/
def NoB (c : UInt8) (l : List UInt8) : Prop := ∀ b ∈ l, b ≠ c
theorem ba_ext {a b : ByteArray} (h : a.data.toList = b.data.toList) : a = b := by
  obtain ⟨⟨a⟩⟩ := a
  obtain ⟨⟨b⟩⟩ := b
  simp only at h
  rw [h]
theorem index_one (b c : UInt8) (l : List UInt8) : Lib.index (b :: l) [c] = if c == b then 0 else if Lib.index l [c] == -1 then -1 else Lib.index l [c] + 1 := by
  rw [Lib.index]
  have : [c].isPrefixOf (b :: l) = (c == b) := by simp [List.isPrefixOf]
  rw [this]
theorem index_hit {c : UInt8} : ∀ {a : List UInt8} {r : List UInt8}, NoB c a → Lib.index (a ++ c :: r) [c] = (a.length : Int)
  | [], r, _ => by rw [List.nil_append, index_one]; simp
  | b :: l, r, h => by
    have ih := index_hit (r := r) (fun x hx => h x (List.mem_cons_of_mem _ hx) : NoB c l)
    have hb : (c == b) = false := by
      have := h b (List.mem_cons_self ..)
      simp; exact fun e => this e.symm
    rw [List.cons_append, index_one, hb, ih]
    have : (((l.length : Int)) == -1) = false := by simp
    rw [this]
    simp
theorem index_miss {c : UInt8} : ∀ {a : List UInt8}, NoB c a → Lib.index a [c] = -1
  | [], _ => rfl
  | b :: l, h => by
    have ih := index_miss (fun x hx => h x (List.mem_cons_of_mem _ hx) : NoB c l)
    have hb : (c == b) = false := by
      have := h b (List.mem_cons_self ..)
      simp; exact fun e => this e.symm
    rw [index_one, hb, ih]
    rfl
theorem byte_hit {c : UInt8} : ∀ {a : List UInt8} {r : List UInt8}, NoB c a → Lib.indexByte (a ++ c :: r) c = (a.length : Int)
  | [], r, _ => by rw [List.nil_append, Lib.indexByte]; simp
  | b :: l, r, h => by
    have ih := byte_hit (r := r) (fun x hx => h x (List.mem_cons_of_mem _ hx) : NoB c l)
    have hb : (b == c) = false := by
      have := h b (List.mem_cons_self ..)
      simpa using this
    rw [List.cons_append, Lib.indexByte, hb, ih]
    have : (((l.length : Int)) == -1) = false := by simp
    rw [this]
    simp
theorem byte_miss {c : UInt8} : ∀ {a : List UInt8}, NoB c a → Lib.indexByte a c = -1
  | [], _ => rfl
  | b :: l, h => by
    have ih := byte_miss (fun x hx => h x (List.mem_cons_of_mem _ hx) : NoB c l)
    have hb : (b == c) = false := by
      have := h b (List.mem_cons_self ..)
      simpa using this
    rw [Lib.indexByte, hb, ih]
    rfl
/-- either the byte is nowhere, or there is a first one -/
theorem first_byte (c : UInt8) : ∀ (l : List UInt8), NoB c l ∨ ∃ a r, l = a ++ c :: r ∧ NoB c a
  | [] => .inl (fun b hb => by cases hb)
  | b :: l => by
    by_cases hb : b = c
    · exact .inr ⟨[], l, by rw [hb]; rfl, fun x hx => by cases hx⟩
    · rcases first_byte c l with h | ⟨a, r, rfl, h⟩
      · exact .inl (fun x hx => (List.mem_cons.1 hx).elim (fun e => by rw [e]; exact hb) (h x))
      · exact .inr ⟨b :: a, r, rfl, fun x hx => (List.mem_cons.1 hx).elim (fun e => by rw [e]; exact hb) (h x)⟩

/-! ### Words between blanks -/
def sp : ByteArray := ⟨[32].toArray⟩
def rest32 (r : List ByteArray) : List UInt8 := Lib.joinTail [32] (r.map (·.data.toList))
theorem rest32_cons (x : ByteArray) (r : List ByteArray) : rest32 (x :: r) = 32 :: (x.data.toList ++ rest32 r) := by
  simp [rest32, Lib.joinTail]
theorem rest32_nil : rest32 [] = [] := rfl
theorem drop_mid (c : UInt8) (r : List UInt8) : ∀ a : List UInt8, (a ++ c :: r).drop (a.length + 1) = r
  | [] => rfl
  | x :: a => by rw [List.cons_append, List.length_cons, List.drop_succ_cons]; exact drop_mid c r a
theorem splitB_words : ∀ (r : List ByteArray) (w : ByteArray) (k : Nat) (s : ByteArray), s.data.toList = w.data.toList ++ rest32 r → NoB 32 w.data.toList → (∀ x ∈ r, NoB 32 x.data.toList) → r.length ≤ k → Lib.splitB sp 0 k s = w :: r
  | [], w, k, s, h, h1, _, _ => by
    rw [rest32_nil, List.append_nil] at h
    rw [Lib.splitB_miss sp 0 k s (by show Lib.index s.data.toList [32] = -1; rw [h]; exact index_miss h1)]
    rw [ba_ext h]
  | x :: r, w, k, s, h, h1, h2, hk => by
    obtain ⟨k, rfl⟩ : ∃ j, k = j + 1 := ⟨k - 1, by simp at hk; omega⟩
    rw [rest32_cons] at h
    have hi : Lib.indexB s sp = ((w.size : Nat) : Int) := by
      show Lib.index s.data.toList [32] = _
      rw [h, index_hit h1, Lib.size_eq w]
    have e1 : s.extract 0 (w.size + 0) = w := by
      apply ba_ext
      rw [Lib.extract_from_zero, h, Nat.add_zero, Lib.size_eq w, List.take_left]
    have e2 : (s.extract (w.size + sp.size) s.size).data.toList = x.data.toList ++ rest32 r := by
      rw [Lib.extract_to_end, h, show sp.size = 1 from rfl, Lib.size_eq w]
      exact drop_mid _ _ _
    rw [Lib.splitB_hit sp 0 k s w.size hi, e1, splitB_words r x k _ e2 (h2 x (List.mem_cons_self ..)) (fun y hy => h2 y (List.mem_cons_of_mem _ hy)) (by simp at hk; omega)]
theorem count_none {c : UInt8} : ∀ {l : List UInt8}, NoB c l → l.count c = 0
  | [], _ => rfl
  | b :: l, h => by
    rw [List.count_cons, count_none (fun x hx => h x (List.mem_cons_of_mem _ hx))]
    have := h b (List.mem_cons_self ..)
    simp [this]
theorem count_rest : ∀ (r : List ByteArray), (∀ x ∈ r, NoB 32 x.data.toList) → (rest32 r).count 32 = r.length
  | [], _ => rfl
  | x :: r, h => by
    rw [rest32_cons, List.count_cons, List.count_append, count_none (h x (List.mem_cons_self ..)), count_rest r (fun y hy => h y (List.mem_cons_of_mem _ hy))]
    simp
theorem split_words {r : List ByteArray} {w s : ByteArray} (h : s.data.toList = w.data.toList ++ rest32 r) (h1 : NoB 32 w.data.toList) (h2 : ∀ x ∈ r, NoB 32 x.data.toList) : Lib.splitB sp 0 (Lib.countB s sp) s = w :: r := by
  refine splitB_words r w _ s h h1 h2 (Nat.le_of_eq ?_)
  have e : Lib.countB s sp = Lib.count s.data.toList sp.data.toList := rfl
  rw [e, show sp.data.toList = [32] from rfl, Lib.count_one, h, List.count_append, count_none h1, count_rest r h2, Nat.zero_add]

/-! ### Numbers -/
def digit (c : UInt8) : Prop := 48 ≤ c.toNat ∧ c.toNat ≤ 57
def valD (acc : Nat) (l : List UInt8) : Nat := l.foldl (fun a c => a * 10 + (c.toNat - 48)) acc
theorem valD_snoc (acc : Nat) (l : List UInt8) (c : UInt8) : valD acc (l ++ [c]) = valD acc l * 10 + (c.toNat - 48) := by unfold valD; rw [List.foldl_append]; rfl
theorem valD_cons (acc : Nat) (l : List UInt8) (c : UInt8) : valD acc (c :: l) = valD (acc * 10 + (c.toNat - 48)) l := by unfold valD; rw [List.foldl_cons]
theorem valD_le (l : List UInt8) : ∀ acc : Nat, acc ≤ valD acc l := by
  induction l with
  | nil => intro acc; exact Nat.le_refl _
  | cons c l ih =>
    intro acc
    have h1 := ih (acc * 10 + (c.toNat - 48))
    rw [valD_cons]
    generalize valD (acc * 10 + (c.toNat - 48)) l = v at h1
    omega
theorem parse_digits {M : Nat} (hM : M ≤ 18446744073709551615) : ∀ (l : List UInt8) (acc : Nat), (∀ c ∈ l, digit c) → valD acc l ≤ M → Lib.parseUintM M acc l = .ok (valD acc l)
  | [], acc, _, _ => rfl
  | c :: l, acc, h, hv => by
    have hc : 48 ≤ c.toNat ∧ c.toNat ≤ 57 := h c (List.mem_cons_self ..)
    rw [valD_cons] at hv
    have := valD_le l (acc * 10 + (c.toNat - 48))
    rw [Lib.parseUintM, if_pos hc, if_neg (by omega), if_neg (by omega), valD_cons]
    exact parse_digits hM l _ (fun x hx => h x (List.mem_cons_of_mem _ hx)) hv
theorem dec_digits (u : Nat) : (∀ c ∈ Lib.decDigits u, digit c) ∧ valD 0 (Lib.decDigits u) = u ∧ Lib.decDigits u ≠ [] := by
  induction u using Nat.strongRecOn with
  | _ u ih =>
    rw [Lib.decDigits]
    have hd : ∀ k, k < 10 → (UInt8.ofNat (48 + k)).toNat = 48 + k := by
      intro k hk
      rw [UInt8.toNat_ofNat']
      omega
    split
    · rename_i h
      refine ⟨fun c hc => ?_, ?_, by simp⟩
      · rw [List.mem_singleton] at hc
        subst hc
        unfold digit
        rw [hd u h]; omega
      · show 0 * 10 + ((UInt8.ofNat (48 + u)).toNat - 48) = u
        rw [hd u h]; omega
    · rename_i h
      obtain ⟨h1, h2, h3⟩ := ih (u / 10) (by omega)
      refine ⟨fun c hc => ?_, ?_, by simp⟩
      · rcases List.mem_append.1 hc with hc | hc
        · exact h1 c hc
        · rw [List.mem_singleton] at hc
          subst hc
          unfold digit
          rw [hd _ (by omega)]; omega
      · rw [valD_snoc, h2, hd _ (by omega)]; omega
theorem parse_itoa {n : Int} (h0 : -9223372036854775808 ≤ n) (h1 : n ≤ 9223372036854775807) : Lib.parseIntB 64 (Lib.itoa n) = .ok n := by
  have hM : 2 ^ 64 - 1 = 18446744073709551615 := rfl
  have hH : 2 ^ (64 - 1) = 9223372036854775808 := rfl
  unfold Lib.itoa
  split
  · rename_i hn
    obtain ⟨d1, d2, d3⟩ := dec_digits n.natAbs
    have hu : Lib.parseUintB 64 (Lib.decDigits n.natAbs) = .ok n.natAbs := by
      unfold Lib.parseUintB
      rw [if_neg d3, hM, parse_digits (Nat.le_refl _) _ _ d1 (by rw [d2]; omega), d2]
    unfold Lib.parseIntB
    simp only [show (45 : UInt8).toNat = 45 from rfl, or_true, if_true, hu, not_true, false_and, if_false, true_and, hH]
    rw [if_neg (by omega)]
    congr 1
    omega
  · rename_i hn
    obtain ⟨d1, d2, d3⟩ := dec_digits n.toNat
    have hu : Lib.parseUintB 64 (Lib.decDigits n.toNat) = .ok n.toNat := by
      unfold Lib.parseUintB
      rw [if_neg d3, hM, parse_digits (Nat.le_refl _) _ _ d1 (by rw [d2]; omega), d2]
    cases hl : Lib.decDigits n.toNat with
    | nil => exact absurd hl d3
    | cons c r =>
      rw [hl] at d1 hu
      have hc := d1 c (List.mem_cons_self ..)
      unfold digit at hc
      unfold Lib.parseIntB
      have e1 : ¬ c.toNat = 43 := by omega
      have e2 : ¬ c.toNat = 45 := by omega
      simp only [e1, e2, or_self, if_false, hu, not_false_eq_true, true_and, false_and, hH]
      rw [if_neg (by omega)]
      congr 1
      omega
theorem itoa_bytes (n : Int) : ∀ c ∈ Lib.itoa n, c.toNat = 45 ∨ digit c := by
  intro c hc
  unfold Lib.itoa at hc
  split at hc
  · rcases List.mem_cons.1 hc with h | h
    · subst h; exact .inl rfl
    · exact .inr ((dec_digits _).1 c h)
  · exact .inr ((dec_digits _).1 c hc)
theorem itoa_ne (n : Int) : Lib.itoa n ≠ [] := by
  unfold Lib.itoa
  split
  · simp
  · exact (dec_digits _).2.2
/-- what is read is an int64 -/
theorem parse_range {l : List UInt8} {v : Int} (h : Lib.parseIntB 64 l = .ok v) : -9223372036854775808 ≤ v ∧ v ≤ 9223372036854775807 := by
  have hH : 2 ^ (64 - 1) = 9223372036854775808 := rfl
  unfold Lib.parseIntB at h
  cases l with
  | nil => cases h
  | cons c r =>
    simp only [hH] at h
    split at h
    · cases h
    · cases h
    · rename_i u _
      split at h
      · cases h
      · split at h
        · cases h
        · rename_i h1 h2
          by_cases hc : c.toNat = 45
          · simp only [hc, if_true, Lib.NumEnd.ok.injEq, true_and, Nat.not_lt] at h h2
            omega
          · simp only [hc, if_false, Lib.NumEnd.ok.injEq, not_false_eq_true, true_and, Nat.not_le] at h h1
            omega
end Go.Proofs.YtalllncanpcmfaaDoor

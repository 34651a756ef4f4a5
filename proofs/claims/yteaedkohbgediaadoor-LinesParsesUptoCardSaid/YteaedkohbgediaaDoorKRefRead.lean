/- What the reference of layer 3 reads: the same instructions. -/
import Derived.Test.YteaedkohbgediaaDoorKRef
set_option linter.unusedVariables false
set_option linter.unusedSimpArgs false
namespace Go.Proofs.YteaedkohbgediaaDoor
open Go.Sx

/-! ### Words -/
theorem text_words : ∀ (N : Nat) (l : List UInt8), l.length ≤ N → ∃ (w : ByteArray) (r : List ByteArray), l = w.data.toList ++ rest32 r ∧ NoB 32 w.data.toList ∧ (∀ x ∈ r, NoB 32 x.data.toList)
  | N, l, h => by
    rcases first_byte 32 l with hn | ⟨a, b, rfl, ha⟩
    · exact ⟨⟨l.toArray⟩, [], by simp [rest32_nil], by simpa using hn, fun x hx => by cases hx⟩
    · cases N with
      | zero => simp at h
      | succ N =>
        obtain ⟨w, r, e, h1, h2⟩ := text_words N b (by simp at h; omega)
        refine ⟨⟨a.toArray⟩, w :: r, by rw [rest32_cons, e], by simpa using ha, fun x hx => ?_⟩
        rcases List.mem_cons.1 hx with rfl | hx
        · exact h1
        · exact h2 x hx
theorem rest32_len : ∀ r : List ByteArray, r.length ≤ (rest32 r).length
  | [] => Nat.zero_le _
  | x :: r => by
    have := rest32_len r
    rw [rest32_cons, List.length_cons, List.length_cons, List.length_append]
    omega
section
variable {s : ByteArray}
theorem byte_at {pre post : List UInt8} {c : UInt8} (h : s.data.toList = pre ++ c :: post) : sidx s (pre.length : Int) = some (c.toNat : Int) := sidx_eq (by rw [h]; simp)
theorem words_scan : ∀ (b a : List UInt8) (fu : Nat) (out : List ByteArray) (pre post : List UInt8), s.data.toList = pre ++ (a ++ b ++ post) → NoB 32 b → s.size ≤ 9223372036854775800 →
    loop (tappetref03_words_l1 s) (fu + b.length) (out, (pre.length : Int), ((pre.length + a.length : Nat) : Int)) = loop (tappetref03_words_l1 s) fu (out, (pre.length : Int), ((pre.length + a.length + b.length : Nat) : Int))
  | [], a, fu, out, pre, post, _, _, _ => by simp
  | c :: b, a, fu, out, pre, post, h, hn, hz => by
    show tappetref03_words_l1 s (loop (tappetref03_words_l1 s) (fu + b.length)) (out, (pre.length : Int), ((pre.length + a.length : Nat) : Int)) = _
    have hsz : s.size = pre.length + a.length + (b.length + 1) + post.length := by rw [Lib.size_eq, h]; simp; omega
    have hb : sidx s ((pre.length + a.length : Nat) : Int) = some (c.toNat : Int) := by
      have := byte_at (s := s) (pre := pre ++ a) (c := c) (post := b ++ post) (by rw [h]; simp)
      rw [List.length_append] at this
      exact this
    have hc : ((c.toNat : Int) == 32) = false := by
      have h1 := hn c (List.mem_cons_self ..)
      rw [beq_eq_false_iff_ne]
      intro e
      apply h1
      apply UInt8.toNat_inj.1
      rw [show (32 : UInt8).toNat = 32 from rfl]
      omega
    unfold tappetref03_words_l1
    simp only
    rw [if_pos (by simp; omega), if_neg (by simp; omega), hb]
    simp only [Option.bind_some, hc, Bool.false_eq_true, if_false]
    rw [w64_eq (by omega) (by omega)]
    have := words_scan b (a ++ [c]) fu out pre post (by rw [h]; simp) (fun x hx => hn x (List.mem_cons_of_mem _ hx)) hz
    rw [List.length_append, List.length_singleton] at this
    rw [show ((pre.length + a.length : Nat) : Int) + 1 = ((pre.length + (a.length + 1) : Nat) : Int) by omega]
    unfold tappetref03_words_l1 at this
    rw [this, List.length_cons]
    congr 3
    omega
theorem part_of {pre w post : List UInt8} (h : s.data.toList = pre ++ (w ++ post)) : scut s (pre.length : Int) ((pre.length + w.length : Nat) : Int) = some ⟨w.toArray⟩ := by
  have hsz : s.size = pre.length + w.length + post.length := by rw [Lib.size_eq, h]; simp; omega
  unfold scut
  rw [if_pos (by omega)]
  refine congrArg some (ba_ext ?_)
  rw [Lib.extract_data, h, Int.toNat_natCast, Int.toNat_natCast, List.drop_left, show pre.length + w.length - pre.length = w.length by omega, List.take_left]
theorem words_loop : ∀ (r : List ByteArray) (w : ByteArray) (fu : Nat) (out : List ByteArray) (pre : List UInt8), s.data.toList = pre ++ (w.data.toList ++ rest32 r) → NoB 32 w.data.toList → (∀ x ∈ r, NoB 32 x.data.toList) → s.size ≤ 1099511627776 → out.length ≤ pre.length →
    (w.data.toList ++ rest32 r).length + 2 ≤ fu → loop (tappetref03_words_l1 s) fu (out, (pre.length : Int), (pre.length : Int)) = some (out ++ w :: r)
  | r, w, fu, out, pre, h, h1, h2, hz, ho, hf => by
    have hwz := Lib.size_eq w
    rw [List.length_append] at hf
    obtain ⟨g, rfl⟩ : ∃ g, fu = g + 1 + w.data.toList.length := ⟨fu - 1 - w.data.toList.length, by omega⟩
    have hs := words_scan (s := s) w.data.toList [] (g + 1) out pre (rest32 r) (by rw [h]; simp) h1 (by omega)
    simp only [List.length_nil, Nat.add_zero] at hs
    rw [hs]
    show tappetref03_words_l1 s (loop (tappetref03_words_l1 s) g) (out, (pre.length : Int), ((pre.length + w.data.toList.length : Nat) : Int)) = _
    have hsz : s.size = pre.length + w.data.toList.length + (rest32 r).length := by rw [Lib.size_eq, h]; simp; omega
    have hp : scut s (pre.length : Int) ((pre.length + w.data.toList.length : Nat) : Int) = some w := by
      rw [part_of h]
    have hrm : room (out.length + [w].length) 16 = some () := by
      unfold room
      rw [if_pos (by simp; omega)]
    unfold tappetref03_words_l1
    simp only
    rw [if_pos (by simp; omega)]
    cases r with
    | nil =>
      rw [rest32_nil, List.length_nil] at hsz
      rw [if_pos (by rw [hsz]; simp)]
      simp only [Option.bind_some, if_true, hp, hrm]
      rw [w64_eq (by omega) (by omega)]
      obtain ⟨g, rfl⟩ : ∃ f, g = f + 1 := ⟨g - 1, by simp [rest32_nil] at hf; omega⟩
      show tappetref03_words_l1 s (loop (tappetref03_words_l1 s) g) (out ++ [w], _, _) = _
      unfold tappetref03_words_l1
      rw [if_neg (by simp; omega)]
    | cons x r =>
      rw [rest32_cons] at h hsz
      simp only [List.length_cons] at hsz
      have hb : sidx s ((pre.length + w.data.toList.length : Nat) : Int) = some 32 := by
        have := byte_at (s := s) (pre := pre ++ w.data.toList) (c := 32) (post := x.data.toList ++ rest32 r) (by rw [h]; simp)
        rw [List.length_append] at this
        exact this
      rw [if_neg (by simp; omega), hb]
      simp only [Option.bind_some, beq_self_eq_true, if_true, hp, hrm]
      rw [w64_eq (by omega) (by omega)]
      have hxz := Lib.size_eq x
      have ih := words_loop r x g (out ++ [w]) (pre ++ w.data.toList ++ [32]) (by rw [h]; simp) (h2 x (List.mem_cons_self ..)) (fun y hy => h2 y (List.mem_cons_of_mem _ hy)) hz (by simp; omega)
        (by simp only [rest32_cons, List.length_append, List.length_cons] at hf ⊢; omega)
      rw [List.length_append, List.length_append, List.length_singleton] at ih
      rw [show ((pre.length + w.data.toList.length : Nat) : Int) + 1 = ((pre.length + w.data.toList.length + 1 : Nat) : Int) by omega]
      unfold tappetref03_words_l1 at ih
      rw [ih, List.append_assoc]
      rfl
end
/-- THE WORDS ARE THE SAME -/
theorem words_eq {s w : ByteArray} {r : List ByteArray} {fu : Nat} (h : s.data.toList = w.data.toList ++ rest32 r) (h1 : NoB 32 w.data.toList) (h2 : ∀ x ∈ r, NoB 32 x.data.toList) (hz : s.size ≤ 1099511627776) (hf : s.size + 2 ≤ fu) : tappetref03_words fu s = some (w :: r) := by
  unfold tappetref03_words
  have := words_loop (s := s) r w fu [] [] (by simpa using h) h1 h2 hz (Nat.le_refl _) (by rw [← h, ← Lib.size_eq]; exact hf)
  rw [show (([] : List UInt8).length : Int) = 0 from rfl] at this
  rw [this]
  rfl
/-! ### Names -/
def refNames : List ByteArray := tab_g0.map (·.name)
theorem names_eq : tappetref02_names = some refNames := by decide +kernel
theorem find_eq (w : ByteArray) : tappetref02_Find w = ops_Find w := by
  unfold tappetref02_Find ops_Find
  rw [names_eq]
  simp only [Option.bind_some]
  have hl : refNames.length = 23 := rfl
  rw [hl]
  have : tappetref02_Find_l1 w refNames = ops_Find_l1 w := by
    funext i again s
    unfold tappetref02_Find_l1 ops_Find_l1
    have : idx refNames (i : Int) = (idx tab_g0 (i : Int)).map (·.name) := by
      unfold idx refNames
      simp
    rw [this]
    cases idx tab_g0 (i : Int) <;> rfl
  rw [this]
/-! ### Values -/
theorem w64_def (x : Int) : w64 x = if 9223372036854775808 ≤ x % 18446744073709551616 then x % 18446744073709551616 - 18446744073709551616 else x % 18446744073709551616 := by
  have e1 : (2 ^ IntKind.i64.bits : Int) = 18446744073709551616 := rfl
  have e2 : (2 ^ (IntKind.i64.bits - 1) : Int) = 9223372036854775808 := rfl
  unfold w64 IntKind.wrap
  simp only [e1, e2, show IntKind.i64.signed = true from rfl, Bool.true_and, decide_eq_true_eq, ge_iff_le]
theorem wrap_range (x : Int) : -9223372036854775808 ≤ w64 x ∧ w64 x ≤ 9223372036854775807 := by
  rw [w64_def]
  split <;> omega
theorem w64_neg {x : Int} (h0 : 9223372036854775808 ≤ x) (h1 : x < 18446744073709551616) : w64 x = x - 18446744073709551616 := by
  rw [w64_def]
  split <;> omega
theorem value_total (w : ByteArray) (h : w.size ≤ 140737488355328) : ∃ v b, tappetref03_value w = some (v, b) ∧ -9223372036854775808 ≤ v ∧ v ≤ 9223372036854775807 := by
  have hw64 : ∀ n, -9223372036854775808 ≤ w64 n ∧ w64 n ≤ 9223372036854775807 := by
    intro n
    have := wrap_range n
    exact this
  have goal : OK (tappetref03_value w) (fun r => -9223372036854775808 ≤ r.1 ∧ r.1 ≤ 9223372036854775807) := by
    unfold tappetref03_value
    refine OK.bind2 (R := fun o => match o with | .inl t => w.size = 0 → t.2 = 0 | .inr r => -9223372036854775808 ≤ r.1 ∧ r.1 ≤ 9223372036854775807) ?_ (fun o ho => ?_)
    · refine OK.bind (OK.hasRoom (by omega) ?_)
      refine OK.count (fun i s => i = 0 → s.2 = 0) (fun _ => rfl) (fun i s again hi hs k => ?_) (fun s hs e => hs (by omega))
      unfold tappetref03_value_l1
      obtain ⟨c, hc⟩ := sidx_some (s := w) (i := i) hi
      rw [hc]
      simp only [Option.bind_some]
      refine OK.bind2 (R := fun b => True) (OK.ite (fun _ => OK.ret trivial) (fun _ => OK.ret trivial)) (fun b hb => ?_)
      refine OK.ite (fun e => k _ (fun e => by omega)) (fun e => ?_)
      refine OK.bind2 (R := fun b => True) (OK.ite (fun _ => OK.ret trivial) (fun _ => OK.ret trivial)) (fun b hb => ?_)
      refine OK.ite (fun _ => OK.ret ⟨by decide, by decide⟩) (fun _ => k _ (fun e => by omega))
    · cases o with
      | inr r => exact OK.ret ho
      | inl t =>
        simp only at ho ⊢
        refine OK.ite (fun _ => OK.ret ⟨by decide, by decide⟩) (fun e => ?_)
        have h0 : 0 < w.size := by
          rcases Nat.eq_zero_or_pos w.size with h | h
          · rw [ho h] at e; simp at e
          · exact h
        obtain ⟨c, hc⟩ := sidx_some (s := w) (i := 0) h0
        have hc : sidx w 0 = some c := hc
        rw [hc]
        simp only [Option.bind_some]
        exact OK.ite (fun _ => OK.ret (hw64 _)) (fun _ => OK.ret (hw64 _))
  obtain ⟨⟨v, b⟩, h1, h2⟩ := goal
  exact ⟨v, b, h1, h2⟩
theorem value_digits {w : ByteArray} {l : List UInt8} (neg : Bool) (hw : w.data.toList = (if neg then [45] else []) ++ l) (hd : ∀ c ∈ l, digit c) (hv : valD 0 l < 18446744073709551616) (hl : l.length ≤ 100) :
    forN (tappetref03_value_l1 w) (fun (s : Int × Int) => (.inl (s.1, s.2) : (Int × Int) ⊕ (Int × Bool))) w.size 0 (0, 0) = some (.inl ((valD 0 l : Nat), (l.length : Nat))) := by
  have hz : w.size = (if neg then 1 else 0) + l.length := by rw [Lib.size_eq, hw]; cases neg <;> simp <;> omega
  have mono : ∀ j, valD 0 (l.take j) ≤ valD 0 l := by
    intro j
    conv => rhs; rw [← List.take_append_drop j l]
    unfold valD
    rw [List.foldl_append]
    exact valD_le _ _
  refine OK.is (OK.count (fun i s => s = (((valD 0 (l.take (i - (if neg then 1 else 0))) : Nat) : Int), (((l.take (i - (if neg then 1 else 0))).length : Nat) : Int))) (by simp [valD]) (fun i s again hi hs k => ?_) (fun s hs => ?_))
  · unfold tappetref03_value_l1
    by_cases hn : neg = true ∧ i = 0
    · obtain ⟨rfl, rfl⟩ := hn
      have hb : sidx w ((0 : Nat) : Int) = some ((45 : UInt8).toNat : Int) := sidx_eq (by rw [hw]; rfl)
      rw [hb]
      simp only [Option.bind_some]
      refine OK.bind2 (R := fun b => b = true) (OK.ite_true rfl (OK.ret rfl)) (fun b hb => ?_)
      subst hb
      exact OK.ite_true rfl (k _ (by rw [hs]; simp))
    · have hm : ∃ c, l[i - (if neg then 1 else 0)]? = some c ∧ w.data.toList[i]? = some c := by
        have hlt : i - (if neg then 1 else 0) < l.length := by
          cases neg <;> simp at hz hn ⊢ <;> omega
        refine ⟨_, List.getElem?_eq_getElem hlt, ?_⟩
        rw [hw]
        cases neg with
        | false => simp
        | true =>
          have : i ≠ 0 := fun e => hn ⟨rfl, e⟩
          obtain ⟨i, rfl⟩ : ∃ j, i = j + 1 := ⟨i - 1, by omega⟩
          simp
      obtain ⟨c, c1, c2⟩ := hm
      have hdc : 48 ≤ c.toNat ∧ c.toNat ≤ 57 := hd c (List.mem_of_getElem? c1)
      rw [sidx_eq c2]
      simp only [Option.bind_some]
      refine OK.bind2 (R := fun b => b = false) (OK.ite_false (by rw [beq_eq_false_iff_ne]; omega) (OK.ret rfl)) (fun b hb => ?_)
      subst hb
      refine OK.ite_false rfl ?_
      refine OK.bind2 (R := fun b => b = false) (OK.ite_false (by simp; omega) (OK.ret (by simp; omega))) (fun b hb => ?_)
      subst hb
      refine OK.ite_false rfl (k _ ?_)
      have hj : i + 1 - (if neg then 1 else 0) = (i - (if neg then 1 else 0)) + 1 := by
        cases neg with
        | false => simp
        | true =>
          have : i ≠ 0 := fun e => hn ⟨rfl, e⟩
          simp; omega
      have ht : l.take (i + 1 - (if neg then 1 else 0)) = l.take (i - (if neg then 1 else 0)) ++ [c] := by
        rw [hj, List.take_add_one, c1]; rfl
      have hm2 := mono (i + 1 - (if neg then 1 else 0))
      rw [ht, valD_snoc] at hm2
      rw [ht, valD_snoc, hs]
      have e8 : IntKind.u8.wrap ((c.toNat : Int) - 48) = (((c.toNat - 48 : Nat)) : Int) := by
        have : IntKind.u8.wrap ((c.toNat : Int) - 48) = ((c.toNat : Int) - 48) % 256 := rfl
        rw [this]; omega
      simp only [List.length_append, List.length_singleton]
      generalize valD 0 (l.take (i - (if neg then 1 else 0))) = q at hm2 ⊢
      have hlen : (l.take (i - (if neg then 1 else 0))).length ≤ 100 := by rw [List.length_take]; omega
      rw [e8, w64_eq (by omega) (by omega)]
      simp only [wu64_mod]
      refine Prod.ext ?_ ?_
      · show _ = _
        simp only
        omega
      · show _ = _
        simp only
        omega
  · rw [hs]
    have : w.size - (if neg then 1 else 0) = l.length := by omega
    rw [this, List.take_length]
theorem value_num {n : Int} (h0 : -9223372036854775808 ≤ n) (h1 : n ≤ 9223372036854775807) : tappetref03_value (numT n) = some (n, true) := by
  have hs := (num_is h0 h1).2.2.2.2.1
  have hroom : room (numT n).size 1 = some () := by unfold room; rw [if_pos (by omega)]
  have hi : (Lib.itoa n).length ≤ 21 := Lib.itoa_length_le n h0 h1
  unfold tappetref03_value
  rw [hroom]
  simp only [Option.bind_some]
  by_cases hn : n < 0
  · obtain ⟨d1, d2, d3⟩ := dec_digits n.natAbs
    have e : Lib.itoa n = 45 :: Lib.decDigits n.natAbs := by unfold Lib.itoa; rw [if_pos hn]
    rw [e] at hi
    simp only [List.length_cons] at hi
    rw [value_digits (l := Lib.decDigits n.natAbs) true (by unfold numT; rw [e]; rfl) d1 (by rw [d2]; omega) (by omega)]
    simp only [Option.bind_some, d2]
    have hl : 0 < (Lib.decDigits n.natAbs).length := List.length_pos_iff.2 d3
    rw [if_neg (by simp; omega)]
    have hb : sidx (numT n) 0 = some 45 := by
      have := sidx_eq (s := numT n) (i := 0) (b := 45) (by unfold numT; rw [e]; rfl)
      exact this
    rw [hb]
    simp only [Option.bind_some, beq_self_eq_true, if_true]
    have e2 : w64 (wu64 (0 - ((n.natAbs : Nat) : Int))) = n := by
      rw [wu64_mod]
      by_cases hm : n = -9223372036854775808
      · subst hm; decide +kernel
      · rw [w64_neg (by omega) (by omega)]
        omega
    rw [e2]
  · obtain ⟨d1, d2, d3⟩ := dec_digits n.toNat
    have e : Lib.itoa n = Lib.decDigits n.toNat := by unfold Lib.itoa; rw [if_neg hn]
    rw [e] at hi
    rw [value_digits (l := Lib.decDigits n.toNat) false (by unfold numT; rw [e]; rfl) d1 (by rw [d2]; omega) (by omega)]
    simp only [Option.bind_some, d2]
    have hl : 0 < (Lib.decDigits n.toNat).length := List.length_pos_iff.2 d3
    rw [if_neg (by simp; omega)]
    cases hd : Lib.decDigits n.toNat with
    | nil => exact absurd hd d3
    | cons c r =>
      have hc : 48 ≤ c.toNat ∧ c.toNat ≤ 57 := d1 c (by rw [hd]; exact List.mem_cons_self ..)
      have hb : sidx (numT n) 0 = some (c.toNat : Int) := by
        have := sidx_eq (s := numT n) (i := 0) (b := c) (by unfold numT; rw [e, hd]; rfl)
        exact this
      rw [hb]
      simp only [Option.bind_some]
      rw [if_neg (by simp; omega), w64_eq (by omega) (by omega)]
      congr 2
      omega
end Go.Proofs.YteaedkohbgediaaDoor

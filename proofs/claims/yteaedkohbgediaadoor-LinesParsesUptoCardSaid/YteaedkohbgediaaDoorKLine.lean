/- A line's text: its bytes. -/
import Derived.Test.YteaedkohbgediaaDoorPure
import Derived.Test.YteaedkohbgediaaDoorF1
import Derived.Lib.ItoaLen
set_option linter.unusedVariables false
set_option linter.unusedSimpArgs false
namespace Go.Proofs.YteaedkohbgediaaDoor
open Go.Sx

theorem awake_ok : tappetlaw03_awake 1000 = some true := by decide +kernel
/-- no line feed -/
def NoNL (l : List UInt8) : Prop := ∀ b ∈ l, b ≠ 10
theorem decDigits_bytes (n : Nat) : ∀ b ∈ Lib.decDigits n, 48 ≤ b.toNat ∧ b.toNat ≤ 57 := by
  induction n using Nat.strongRecOn with
  | _ n ih =>
    rw [Lib.decDigits]
    split
    · intro b hb
      rw [List.mem_singleton] at hb
      subst hb
      rw [UInt8.toNat_ofNat']
      omega
    · rename_i h
      intro b hb
      rcases List.mem_append.1 hb with hb | hb
      · exact ih (n / 10) (by omega) b hb
      · rw [List.mem_singleton] at hb
        subst hb
        rw [UInt8.toNat_ofNat']
        omega
theorem itoa_nonl (n : Int) : NoNL (Lib.itoa n) := by
  intro b hb e
  subst e
  unfold Lib.itoa at hb
  split at hb
  · rcases List.mem_cons.1 hb with h | h
    · simp at h
    · have := decDigits_bytes _ _ h; simp at this
  · have := decDigits_bytes _ _ hb; simp at this
theorem cat_ok {a b : ByteArray} {Q : ByteArray → Prop} (h : a.size + b.size ≤ 9223372036854775807) (k : Q (a ++ b)) : OK (catB a b) Q := ⟨a ++ b, by unfold catB; rw [if_pos h], k⟩
theorem nonl_append {a b : List UInt8} (ha : NoNL a) (hb : NoNL b) : NoNL (a ++ b) := fun x hx => (List.mem_append.1 hx).elim (ha x) (hb x)
/-- a word of a line -/
structure Word (k : Nat) (w : ByteArray) : Prop where
  size : w.size ≤ k
  nonl : NoNL w.data.toList
theorem itoa_word {n : Int} (h0 : -9223372036854775808 ≤ n) (h1 : n ≤ 9223372036854775807) : OK (strconv_Itoa n) (fun r => Word 21 r ∧ r = ⟨(Lib.itoa n).toArray⟩) := by
  unfold strconv_Itoa
  rw [if_pos ⟨h0, h1⟩]
  exact ⟨_, rfl, ⟨by simpa [ByteArray.size] using Lib.itoa_length_le n h0 h1, by simpa using itoa_nonl n⟩, rfl⟩
/-- the word that a field is written as -/
def fieldW (x : api_Inst) (c : Int) : Option ByteArray :=
  if c == 100 then lines_reg x.D else if c == 97 then lines_reg x.A else if c == 106 then strconv_Itoa x.D else if (c == 115) && (x.B != 8) then lines_reg x.B else strconv_FormatInt x.Imm 10
theorem line_step {x : api_Inst} {o : ByteArray} {again : ((List ByteArray) × Nat) → Option (List ByteArray)} {ws : List ByteArray} {p : Nat} (h : p < o.size) :
    lines_line_l1 x o again (ws, p) = (fieldW x (runeAt o p)).bind fun w => (room (ws.length + 1) 16).bind fun _ => again (ws ++ [w], runeEnd o p) := by
  unfold lines_line_l1 fieldW
  simp only [h, decide_true, if_true, List.length_singleton]
  split
  · rfl
  · split
    · rfl
    · split
      · rfl
      · split <;> rfl
theorem line_end {x : api_Inst} {o : ByteArray} {again : ((List ByteArray) × Nat) → Option (List ByteArray)} {ws : List ByteArray} {p : Nat} (h : o.size ≤ p) : lines_line_l1 x o again (ws, p) = some ws := by
  unfold lines_line_l1
  rw [if_neg (by simp; omega)]
/-- fields, one after the other -/
theorem line_loop {x : api_Inst} {o : ByteArray} (k : Int → Nat) (hk : ∀ p, p < o.size → OK (fieldW x (runeAt o p)) (fun w => Word (k (runeAt o p)) w) ∧ runeEnd o p = p + 1) :
    ∀ (n fu : Nat) (ws : List ByteArray) (p : Nat), o.size = p + n → n < fu → ws.length + n ≤ 1000 →
      OK (loop (lines_line_l1 x o) fu (ws, p)) (fun r => ∃ l, r = ws ++ l ∧ l.length = n ∧ ∀ i w, l[i]? = some w → Word (k (runeAt o (p + i))) w) := by
  intro n
  induction n with
  | zero =>
    intro fu ws p hp hf hw
    obtain ⟨fu, rfl⟩ : ∃ f, fu = f + 1 := ⟨fu - 1, by omega⟩
    show OK (lines_line_l1 x o (loop (lines_line_l1 x o) fu) (ws, p)) _
    rw [line_end (by omega)]
    exact OK.ret ⟨[], by simp, rfl, fun i w h => by simp at h⟩
  | succ n ih =>
    intro fu ws p hp hf hw
    obtain ⟨fu, rfl⟩ : ∃ f, fu = f + 1 := ⟨fu - 1, by omega⟩
    show OK (lines_line_l1 x o (loop (lines_line_l1 x o) fu) (ws, p)) _
    rw [line_step (by omega)]
    obtain ⟨h1, h2⟩ := hk p (by omega)
    refine OK.bind2 h1 (fun w hw2 => OK.bind (OK.hasRoom (by omega) ?_))
    rw [h2]
    refine (ih fu (ws ++ [w]) (p + 1) (by omega) (by omega) (by simp; omega)).mono (fun r hr => ?_)
    obtain ⟨l, rfl, hl, hi⟩ := hr
    refine ⟨w :: l, by simp, by simp [hl], fun i v hv => ?_⟩
    cases i with
    | zero => simp at hv; subst hv; exact hw2
    | succ i =>
      have := hi i v (by simpa using hv)
      rw [show p + 1 + i = p + (i + 1) by omega] at this
      exact this
theorem inter_mem {α : Type} {sep : α} : ∀ {xs : List α} {l : α}, l ∈ List.intersperse sep xs → l = sep ∨ l ∈ xs
  | [], l, h => by simp [List.intersperse] at h
  | [x], l, h => by simp [List.intersperse] at h; exact .inr (by simp [h])
  | x :: y :: r, l, h => by
    rw [show List.intersperse sep (x :: y :: r) = x :: sep :: List.intersperse sep (y :: r) from rfl] at h
    rcases List.mem_cons.1 h with h | h
    · exact .inr (by simp [h])
    · rcases List.mem_cons.1 h with h | h
      · exact .inl h
      · rcases inter_mem h with h | h
        · exact .inl h
        · exact .inr (List.mem_cons_of_mem _ h)
theorem join_nonl {xs : List (List UInt8)} {sep : List UInt8} (hs : NoNL sep) (hx : ∀ w ∈ xs, NoNL w) : NoNL (Lib.join xs sep) := by
  intro b hb
  unfold Lib.join List.intercalate at hb
  obtain ⟨l, hl, hb2⟩ := List.mem_flatten.1 hb
  rcases inter_mem hl with h | h
  · rw [h] at hb2; exact hs b hb2
  · exact hx l h b hb2
theorem join_size {sep : List UInt8} : ∀ (xs : List (List UInt8)), (Lib.join xs sep).length + sep.length ≤ (xs.map (·.length)).sum + xs.length * sep.length + sep.length
  | [] => by simp [Lib.join, List.intercalate, List.intersperse]
  | [x] => by simp [Lib.join, List.intercalate, List.intersperse]
  | x :: y :: r => by
    have := join_size (sep := sep) (y :: r)
    simp only [Lib.join, List.intercalate, List.intersperse, List.flatten_cons, List.length_append, List.map_cons, List.sum_cons, List.length_cons, Nat.add_mul, Nat.one_mul] at this ⊢
    omega
end Go.Proofs.YteaedkohbgediaaDoor

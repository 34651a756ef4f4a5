/- Several rules together find the least of what each finds alone. -/
import Derived.Test.YtpchniebplpboaaKFirst
set_option linter.unusedVariables false
set_option linter.unusedSimpArgs false
namespace Go.Proofs.Ytpchniebplpboaa
open Go.Sx

def Fine (fu : Nat) : List api_Entry → I_audit_rule → Prop
  | [], _ => True
  | e :: es, x => ∃ b x', I_audit_rule_right fu x e = some (b, x') ∧ (b = true → Fine fu es x')
def wr (fu : Nat) : List api_Entry → I_audit_rule → Option Nat
  | [], _ => none
  | e :: es, x => match I_audit_rule_right fu x e with
    | some (true, x') => (wr fu es x').map (· + 1)
    | _ => some 0
def omin : Option Nat → Option Nat → Option Nat
  | none, b => b
  | some a, none => some a
  | some a, some b => some (min a b)
def wrs (fu : Nat) (es : List api_Entry) : List I_audit_rule → Option Nat
  | [] => none
  | x :: xs => omin (wr fu es x) (wrs fu es xs)
def told (i : Nat) : Option Nat → Int
  | none => -1
  | some k => (i + k : Nat)
theorem omin_map (a b : Option Nat) : omin (a.map (· + 1)) (b.map (· + 1)) = (omin a b).map (· + 1) := by
  cases a with
  | none => rfl
  | some a =>
    cases b with
    | none => rfl
    | some b => simp only [omin, Option.map_some, Option.some.injEq]; omega
theorem omin_zero (a : Option Nat) : omin (some 0) a = some 0 := by
  cases a with
  | none => rfl
  | some a => simp [omin]
theorem omin_zero' (a : Option Nat) : omin a (some 0) = some 0 := by
  cases a with
  | none => rfl
  | some a => simp [omin]
theorem omin_none (a : Option Nat) : omin a none = a := by cases a <;> rfl
theorem omin_assoc (a b c : Option Nat) : omin (omin a b) c = omin a (omin b c) := by
  cases a <;> cases b <;> cases c <;> simp [omin, Nat.min_assoc]
theorem one_told {fu : Nat} : ∀ {es : List api_Entry} {x : I_audit_rule} (i : Nat), Fine fu es x → one fu i es x = some (told i (wr fu es x))
  | [], x, i, _ => rfl
  | e :: es, x, i, ⟨b, x', h, k⟩ => by
    simp only [one, wr, h, Option.bind_some]
    cases b with
    | false => rfl
    | true =>
      simp only [if_true]
      rw [one_told (i + 1) (k rfl)]
      cases wr fu es x' with
      | none => rfl
      | some a => simp only [Option.map_some, told]; congr 2; omega
theorem wr_lt {fu : Nat} : ∀ {es : List api_Entry} {x : I_audit_rule} {k : Nat}, wr fu es x = some k → k < es.length
  | [], x, k, h => by cases h
  | e :: es, x, k, h => by
    simp only [wr] at h
    simp only [List.length_cons]
    split at h
    · rename_i x' _
      cases hw : wr fu es x' with
      | none => rw [hw] at h; cases h
      | some a =>
        rw [hw] at h
        simp only [Option.map_some, Option.some.injEq] at h
        have := wr_lt hw
        omega
    · cases h; omega
theorem pass_told {fu : Nat} (e : api_Entry) (es : List api_Entry) : ∀ (s : List I_audit_rule), (∀ x ∈ s, Fine fu (e :: es) x) →
    (pass fu e s = some none ∧ wrs fu (e :: es) s = some 0) ∨ ∃ s', pass fu e s = some (some s') ∧ (∀ x ∈ s', Fine fu es x) ∧ wrs fu (e :: es) s = (wrs fu es s').map (· + 1)
  | [], _ => .inr ⟨[], rfl, by simp, rfl⟩
  | x :: xs, hf => by
    obtain ⟨b, x', h, k⟩ := hf x List.mem_cons_self
    simp only [pass, h, Option.bind_some]
    cases b with
    | false =>
      refine .inl ⟨rfl, ?_⟩
      simp only [wrs, wr, h]
      exact omin_zero _
    | true =>
      simp only [if_true]
      rcases pass_told e es xs (fun y hy => hf y (List.mem_cons_of_mem _ hy)) with ⟨h1, h2⟩ | ⟨s', h1, h2, h3⟩
      · refine .inl ⟨by rw [h1]; rfl, ?_⟩
        simp only [wrs, h2]
        exact omin_zero' _
      · refine .inr ⟨x' :: s', by rw [h1]; rfl, fun y hy => ?_, ?_⟩
        · rcases List.mem_cons.1 hy with rfl | hy
          · exact k rfl
          · exact h2 y hy
        · simp only [wrs, h3, wr, h]
          exact omin_map _ _
theorem firstR_told {fu : Nat} : ∀ (es : List api_Entry) (i : Nat) (s : List I_audit_rule), (∀ x ∈ s, Fine fu es x) → firstR fu i es s = some (told i (wrs fu es s))
  | [], i, s, _ => by
    have : ∀ s, wrs fu [] s = none := by
      intro s
      induction s with
      | nil => rfl
      | cons x s ih => simp [wrs, wr, omin, ih]
    rw [this]; rfl
  | e :: es, i, s, hf => by
    simp only [firstR]
    rcases pass_told e es s hf with ⟨h1, h2⟩ | ⟨s', h1, h2, h3⟩
    · rw [h1, h2]; rfl
    · rw [h1, h3]
      simp only [Option.bind_some]
      rw [firstR_told es (i + 1) s' h2]
      cases wrs fu es s' with
      | none => rfl
      | some a => simp only [Option.map_some, told]; congr 2; omega
theorem wrs_lt {fu : Nat} {es : List api_Entry} : ∀ {s : List I_audit_rule} {k : Nat}, wrs fu es s = some k → k < es.length
  | [], k, h => by cases h
  | x :: xs, k, h => by
    simp only [wrs] at h
    cases hx : wr fu es x with
    | none => rw [hx] at h; exact wrs_lt h
    | some a =>
      rw [hx] at h
      have := wr_lt hx
      cases hs : wrs fu es xs with
      | none => rw [hs] at h; cases h; exact this
      | some b =>
        rw [hs] at h
        have := wrs_lt hs
        simp only [omin, Option.some.injEq] at h
        omega
theorem wrs_none {fu : Nat} : ∀ {es : List api_Entry} {s : List I_audit_rule}, (∀ x ∈ s, ∀ e ∈ es, I_audit_rule_right fu x e = some (true, x)) → (∀ x ∈ s, Fine fu es x) ∧ wrs fu es s = none := by
  intro es s h
  have hw : ∀ (es : List api_Entry) (x : I_audit_rule), (∀ e ∈ es, I_audit_rule_right fu x e = some (true, x)) → Fine fu es x ∧ wr fu es x = none := by
    intro es
    induction es with
    | nil => intro x _; exact ⟨trivial, rfl⟩
    | cons e es ih =>
      intro x hx
      obtain ⟨h1, h2⟩ := ih x (fun y hy => hx y (List.mem_cons_of_mem _ hy))
      refine ⟨⟨true, x, hx e List.mem_cons_self, fun _ => h1⟩, ?_⟩
      simp only [wr, hx e List.mem_cons_self, h2]; rfl
  refine ⟨fun x hx => (hw es x (h x hx)).1, ?_⟩
  induction s with
  | nil => rfl
  | cons x s ih =>
    simp only [wrs, (hw es x (h x List.mem_cons_self)).2]
    exact ih (fun y hy => h y (List.mem_cons_of_mem _ hy))
end Go.Proofs.Ytpchniebplpboaa

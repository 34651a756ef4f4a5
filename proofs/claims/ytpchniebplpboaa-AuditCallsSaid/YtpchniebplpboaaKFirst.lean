/- The first entry that a rule does not hold for; loops over a list. -/
import Derived.Test.YtpchniebplpboaaF1
import Derived.Test.YtpchniebplpboaaPure
set_option linter.unusedVariables false
set_option linter.unusedSimpArgs false
namespace Go.Proofs.Ytpchniebplpboaa
open Go.Sx

def each {ε σ ρ : Type} (B : Nat → ε → (σ → Option ρ) → σ → Option ρ) (out : σ → ρ) : Nat → List ε → σ → Option ρ
  | _, [], s => some (out s)
  | i, x :: xs, s => B i x (each B out (i + 1) xs) s
theorem forN_from {ε σ ρ : Type} {b : Nat → (σ → Option ρ) → σ → Option ρ} {out : σ → ρ} {l : List ε} {B : Nat → ε → (σ → Option ρ) → σ → Option ρ} (hb : ∀ i again s, b i again s = (Go.Sx.idx l (i : Int)).bind fun x => B i x again s) :
    ∀ (n i : Nat) (s : σ), i + n ≤ l.length → forN b out n i s = each B out i ((l.drop i).take n) s := by
  intro n
  induction n with
  | zero => intro i s h; simp [forN, each]
  | succ n ih =>
    intro i s h
    have hl : i < l.length := by omega
    have hd : (l.drop i).take (n + 1) = l[i] :: (l.drop (i + 1)).take n := by
      rw [List.drop_eq_getElem_cons hl, List.take_succ_cons]
    rw [hd]
    show b i (forN b out n (i + 1)) s = B i l[i] _ s
    rw [hb]
    have hi : Go.Sx.idx l (i : Int) = some l[i] := by
      unfold Go.Sx.idx
      rw [if_pos (by omega), Int.toNat_natCast, List.getElem?_eq_getElem hl]
    rw [hi]
    simp only [Option.bind_some]
    congr 1
    funext t
    exact ih (i + 1) t (by omega)
theorem forN_each {ε σ ρ : Type} {b : Nat → (σ → Option ρ) → σ → Option ρ} {out : σ → ρ} {l : List ε} {B : Nat → ε → (σ → Option ρ) → σ → Option ρ} (hb : ∀ i again s, b i again s = (Go.Sx.idx l (i : Int)).bind fun x => B i x again s) (s : σ) :
    forN b out l.length 0 s = each B out 0 l s := by
  rw [forN_from hb _ _ _ (by omega)]
  simp
theorem forN_take {ε σ ρ : Type} {b : Nat → (σ → Option ρ) → σ → Option ρ} {out : σ → ρ} {l : List ε} {B : Nat → ε → (σ → Option ρ) → σ → Option ρ} (hb : ∀ i again s, b i again s = (Go.Sx.idx l (i : Int)).bind fun x => B i x again s) (s : σ) {n : Nat} (h : n ≤ l.length) :
    forN b out n 0 s = each B out 0 (l.take n) s := by
  rw [forN_from hb _ _ _ (by omega)]
  simp

def pass (fu : Nat) (e : api_Entry) : List I_audit_rule → Option (Option (List I_audit_rule))
  | [] => some (some [])
  | x :: xs => (I_audit_rule_right fu x e).bind fun q => if q.1 then (pass fu e xs).bind fun o => some (o.map (q.2 :: ·)) else some none
def firstR (fu : Nat) : Nat → List api_Entry → List I_audit_rule → Option Int
  | _, [], _ => some (-1)
  | i, e :: es, s => (pass fu e s).bind fun o => match o with
    | none => some (i : Int)
    | some s' => firstR fu (i + 1) es s'
def one (fu : Nat) : Nat → List api_Entry → I_audit_rule → Option Int
  | _, [], _ => some (-1)
  | i, e :: es, x => (I_audit_rule_right fu x e).bind fun q => if q.1 then one fu (i + 1) es q.2 else some (i : Int)
theorem rules_go (fu i : Nat) (e : api_Entry) : ∀ (rest d : List I_audit_rule), forN (audit_first_l2 fu i e) (fun (s : List I_audit_rule) => (.inl s : List I_audit_rule ⊕ Int)) rest.length d.length (d ++ rest) =
    (pass fu e rest).bind fun o => match o with
      | none => some (.inr (i : Int))
      | some r => some (.inl (d ++ r)) := by
  intro rest
  induction rest with
  | nil => intro d; simp [forN, pass]
  | cons x rest ih =>
    intro d
    have hi : Go.Sx.idx (d ++ x :: rest) (d.length : Int) = some x := by
      unfold Go.Sx.idx
      rw [if_pos (by omega), Int.toNat_natCast, List.getElem?_append_right (by omega)]
      simp
    have hstep : ∀ again, audit_first_l2 fu i e d.length again (d ++ x :: rest) = (I_audit_rule_right fu x e).bind fun q => if q.1 then again ((d ++ [q.2]) ++ rest) else some (.inr (i : Int)) := by
      intro again
      unfold audit_first_l2
      rw [hi]
      simp only [Option.bind_some]
      congr 1
      funext q
      obtain ⟨b, x'⟩ := q
      cases b with
      | false => rfl
      | true =>
        have hs : (d ++ x :: rest).set d.length x' = (d ++ [x']) ++ rest := by
          rw [List.set_append_right _ _ (by omega)]
          simp
        simp only [Bool.not_true, Bool.false_eq_true, if_false, if_true, Int.toNat_natCast, hs]
    show audit_first_l2 fu i e d.length _ (d ++ x :: rest) = _
    rw [hstep]
    simp only [pass]
    cases hr : I_audit_rule_right fu x e with
    | none => rfl
    | some q =>
      simp only [Option.bind_some]
      obtain ⟨b, x'⟩ := q
      cases b with
      | false => rfl
      | true =>
        simp only [if_true]
        have := ih (d ++ [x'])
        rw [show (d ++ [x']).length = d.length + 1 by simp] at this
        rw [this]
        cases hp : pass fu e rest with
        | none => rfl
        | some o =>
          cases o with
          | none => rfl
          | some r => simp
theorem first_is (fu : Nat) (es : List api_Entry) (s : List I_audit_rule) : audit_first fu es s = firstR fu 0 es s := by
  unfold audit_first
  rw [forN_each (b := audit_first_l1 fu es) (fun _ _ _ => rfl)]
  suffices H : ∀ (es : List api_Entry) (i : Nat) (s : List I_audit_rule), (each (fun i x (again : List I_audit_rule → Option (List I_audit_rule ⊕ Int)) s => (forN (audit_first_l2 fu i x) (fun (s : List I_audit_rule) => (.inl s)) (s).length 0 s).bind fun o => match o with
      | .inl t => again t
      | .inr r => some (.inr r)) (fun s => .inl s) i es s).bind (fun o => match o with | .inl t => some (-1) | .inr r => some r) = firstR fu i es s from H es 0 s
  intro es
  induction es with
  | nil => intro i s; rfl
  | cons e es ih =>
    intro i s
    simp only [each, firstR]
    have hr := rules_go fu i e s []
    simp only [List.nil_append, List.length_nil] at hr
    rw [hr]
    cases hp : pass fu e s with
    | none => rfl
    | some o =>
      cases o with
      | none => rfl
      | some r => exact ih (i + 1) r
theorem first_one (fu : Nat) (es : List api_Entry) (x : I_audit_rule) : audit_first fu es [x] = one fu 0 es x := by
  rw [first_is]
  suffices H : ∀ (es : List api_Entry) (i : Nat) (x : I_audit_rule), firstR fu i es [x] = one fu i es x from H es 0 x
  intro es
  induction es with
  | nil => intro i x; rfl
  | cons e es ih =>
    intro i x
    simp only [firstR, one, pass]
    cases hr : I_audit_rule_right fu x e with
    | none => rfl
    | some q =>
      obtain ⟨b, x'⟩ := q
      cases b with
      | false => rfl
      | true => exact ih (i + 1) x'
end Go.Proofs.Ytpchniebplpboaa

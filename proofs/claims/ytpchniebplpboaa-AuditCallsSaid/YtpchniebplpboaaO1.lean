/- The order in which a map is ranged over does not matter to audit.Grace: is one of the running programs this one? -/
import Derived.Test.YtpchniebplpboaaF1
import Derived.Test.YtpchniebplpboaaPure
set_option linter.unusedSimpArgs false
namespace Go.Proofs.Ytpchniebplpboaa
open Go.Sx
set_option linter.unusedVariables false

theorem grace_run (p0 : audit_grace) (p1 : api_Entry) : ∀ (m : List (Int × Int)) (s : Unit), rangeF (audit_grace_right_b1 p0 p1) (audit_grace_right_f1 p0 p1) m s =
    if m.any (fun e => e.2 == p1.Prog) then some (false, p0) else audit_grace_right_f1 p0 p1 () := by
  intro m
  induction m with
  | nil => intro s; rfl
  | cons e m ih =>
    intro s
    have hb : audit_grace_right_b1 p0 p1 e s = if e.2 == p1.Prog then some (.inr (false, p0)) else some (.inl ()) := rfl
    show (audit_grace_right_b1 p0 p1 e s).bind _ = _
    rw [hb, List.any_cons]
    by_cases h : (e.2 == p1.Prog) = true
    · simp only [h, if_true, Option.bind_some, Bool.true_or]
    · simp only [Bool.not_eq_true] at h
      simp only [h, Bool.false_eq_true, if_false, Option.bind_some, Bool.false_or]
      exact ih ()
theorem audit_grace_right_fair1 (p0 : audit_grace) (p1 : api_Entry) : AnyOrder (audit_grace_right_b1 p0 p1) (audit_grace_right_f1 p0 p1) p0.in_ () := by
  intro q hq r h
  rw [grace_run] at h ⊢
  rw [show q.any (fun e => e.2 == p1.Prog) = p0.in_.any (fun e => e.2 == p1.Prog) from Bool.eq_iff_iff.2 (by simp only [List.any_eq_true]; exact ⟨fun ⟨x, h1, h2⟩ => ⟨x, hq.mem_iff.1 h1, h2⟩, fun ⟨x, h1, h2⟩ => ⟨x, hq.mem_iff.2 h1, h2⟩⟩)]
  exact h
end Go.Proofs.Ytpchniebplpboaa

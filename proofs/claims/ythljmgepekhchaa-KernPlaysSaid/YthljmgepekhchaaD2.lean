/- Written by a program (wip/gen): what a reading of an argument of the laws says of the cells. -/
import Derived.Test.YthljmgepekhchaaProg
import Derived.Test.YthljmgepekhchaaF2
import Derived.Test.YthljmgepekhchaaGlue
set_option linter.unusedVariables false
namespace Go.Proofs.Ythljmgepekhchaa
open Go.Sx

def G_tappetlaw21_Op (x : tappetlaw21_Op) : Prop := ((Lit.int .i64 x.Kind).wf = true) ∧ ((Lit.int .i64 x.Choice).wf = true) ∧ (x.Tasks.length * 8 ≤ reachBytes ∧ ∀ y28 ∈ x.Tasks, (Lit.int .i64 y28).wf = true) ∧ (x.Ready.length * 1 ≤ reachBytes ∧ ∀ y29 ∈ x.Ready, True)
theorem dec_tappetlaw21_Op : Dec Try.prog 31 D_tappetlaw21_Op G_tappetlaw21_Op := by
  intro H enc w base spare held fuel cs x h hw
  obtain ⟨hl, hf⟩ := Dec.parts (L := [(3, 0, 1), (3, 1, 1), (28, 2, 1), (29, 3, 1)]) (by kernel_rfl) (by simp) h hw
  have hl : cs.length = 4 := hl.trans (by kernel_rfl)
  match cs, hl with
  | [c0, c1, c2, c3], _ =>
  obtain ⟨a0, e0, g0⟩ := hf _ _ _ 0 3 0 1 rfl (Dec.int (t := 3) (k := .i64) (by kernel_rfl))
  have e0 : [c0] = (encI .i64) a0 := e0
  cases e0
  obtain ⟨a1, e1, g1⟩ := hf _ _ _ 1 3 1 1 rfl (Dec.int (t := 3) (k := .i64) (by kernel_rfl))
  have e1 : [c1] = (encI .i64) a1 := e1
  cases e1
  obtain ⟨a2, ⟨v2, e2, m2⟩, g2⟩ := hf _ _ _ 2 28 2 1 rfl (Dec.slice (t := 28) (e := 3) (sz := 1) (bytes := 8) (Dec.int (t := 3) (k := .i64) (by kernel_rfl)) (by kernel_rfl) (by kernel_rfl) (by decide) (by kernel_rfl))
  have e2 : [c2] = [v2] := e2
  cases e2
  obtain ⟨a3, ⟨v3, e3, m3⟩, g3⟩ := hf _ _ _ 3 29 3 1 rfl (Dec.slice (t := 29) (e := 4) (sz := 1) (bytes := 1) (Dec.bool (t := 4) (by kernel_rfl)) (by kernel_rfl) (by kernel_rfl) (by decide) (by kernel_rfl))
  have e3 : [c3] = [v3] := e3
  cases e3
  exact ⟨⟨a0, a1, a2, a3⟩, ⟨_, _, rfl, m2, m3⟩, g0, g1, g2, g3⟩

end Go.Proofs.Ythljmgepekhchaa

/- Written by a program (wip/gen): what a reading of an argument of the laws says of the cells. -/
import Derived.Test.YtbhbegbnmndhdaaProg
import Derived.Test.YtbhbegbnmndhdaaF1
import Derived.Test.YtbhbegbnmndhdaaGlue
set_option linter.unusedVariables false
namespace Go.Proofs.Ytbhbegbnmndhdaa
open Go.Sx

def G_tappetlaw18_Op (x : tappetlaw18_Op) : Prop := ((Lit.int .i64 x.Kind).wf = true) ∧ ((Lit.int .i64 x.Prog).wf = true) ∧ (x.Maps.length * 8 ≤ reachBytes ∧ ∀ y28 ∈ x.Maps, (Lit.int .i64 y28).wf = true)
theorem dec_tappetlaw18_Op : Dec Try.prog 30 R_t30.rd G_tappetlaw18_Op := by
  intro H enc w base spare held fuel cs x h hw
  obtain ⟨hl, hf⟩ := Dec.parts (L := [(3, 0, 1), (3, 1, 1), (28, 2, 1)]) (by kernel_rfl) (by simp) h hw
  have hl : cs.length = 3 := hl.trans (by kernel_rfl)
  match cs, hl with
  | [c0, c1, c2], _ =>
  obtain ⟨a0, e0, g0⟩ := hf _ _ _ 0 3 0 1 rfl (Dec.int (t := 3) (k := .i64) (by kernel_rfl))
  have e0 : [c0] = (encInt .i64) a0 := e0
  cases e0
  obtain ⟨a1, e1, g1⟩ := hf _ _ _ 1 3 1 1 rfl (Dec.int (t := 3) (k := .i64) (by kernel_rfl))
  have e1 : [c1] = (encInt .i64) a1 := e1
  cases e1
  obtain ⟨a2, ⟨v2, e2, m2⟩, g2⟩ := hf _ _ _ 2 28 2 1 rfl (Dec.slice (t := 28) (e := 3) (sz := 1) (bytes := 8) (Dec.int (t := 3) (k := .i64) (by kernel_rfl)) (by kernel_rfl) (by kernel_rfl) (by decide) (by kernel_rfl))
  have e2 : [c2] = [v2] := e2
  cases e2
  exact ⟨⟨a0, a1, a2⟩, ⟨[_], rfl, ⟨_, rfl, m2⟩⟩, g0, g1, g2⟩

end Go.Proofs.Ytbhbegbnmndhdaa

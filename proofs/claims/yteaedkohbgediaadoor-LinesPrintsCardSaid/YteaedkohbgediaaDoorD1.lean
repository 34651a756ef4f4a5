/- Written by a program (wip/gen): what a reading of an argument of the laws says of the cells. -/
import Derived.Test.YteaedkohbgediaaDoorProg
import Derived.Test.YteaedkohbgediaaDoorF1
import Derived.Test.YteaedkohbgediaaDoorGlue
set_option linter.unusedVariables false
namespace Go.Proofs.YteaedkohbgediaaDoor
open Go.Sx

def G_api_Inst (x : api_Inst) : Prop := ((Lit.int .i64 x.Op).wf = true) ∧ ((Lit.int .i64 x.D).wf = true) ∧ ((Lit.int .i64 x.A).wf = true) ∧ ((Lit.int .i64 x.B).wf = true) ∧ ((Lit.int .i64 x.Imm).wf = true)
theorem dec_api_Inst : Dec Tryd.prog 32 (fun _ _ a cs => cs = enc_api_Inst a) G_api_Inst := by
  intro H enc w base spare held fuel cs x h hw
  obtain ⟨hl, hf⟩ := Dec.parts (L := [(30, 0, 1), (3, 1, 1), (3, 2, 1), (3, 3, 1), (2, 4, 1)]) (by kernel_rfl) (by simp) h hw
  have hl : cs.length = 5 := hl.trans (by kernel_rfl)
  match cs, hl with
  | [c0, c1, c2, c3, c4], _ =>
  obtain ⟨a0, e0, g0⟩ := hf _ _ _ 0 30 0 1 rfl (Dec.int (t := 30) (k := .i64) (by kernel_rfl))
  have e0 : [c0] = (encInt .i64) a0 := e0
  cases e0
  obtain ⟨a1, e1, g1⟩ := hf _ _ _ 1 3 1 1 rfl (Dec.int (t := 3) (k := .i64) (by kernel_rfl))
  have e1 : [c1] = (encInt .i64) a1 := e1
  cases e1
  obtain ⟨a2, e2, g2⟩ := hf _ _ _ 2 3 2 1 rfl (Dec.int (t := 3) (k := .i64) (by kernel_rfl))
  have e2 : [c2] = (encInt .i64) a2 := e2
  cases e2
  obtain ⟨a3, e3, g3⟩ := hf _ _ _ 3 3 3 1 rfl (Dec.int (t := 3) (k := .i64) (by kernel_rfl))
  have e3 : [c3] = (encInt .i64) a3 := e3
  cases e3
  obtain ⟨a4, e4, g4⟩ := hf _ _ _ 4 2 4 1 rfl (Dec.int (t := 2) (k := .i64) (by kernel_rfl))
  have e4 : [c4] = (encInt .i64) a4 := e4
  cases e4
  exact ⟨⟨a0, a1, a2, a3, a4⟩, rfl, g0, g1, g2, g3, g4⟩

end Go.Proofs.YteaedkohbgediaaDoor

/- Written by a program (wip/gen): what a reading of an argument of the laws says of the cells. -/
import Derived.Test.YtpchniebplpboaaProg
import Derived.Test.YtpchniebplpboaaF1
import Derived.Test.YtpchniebplpboaaGlue
set_option linter.unusedVariables false
set_option linter.unusedSimpArgs false
namespace Go.Proofs.Ytpchniebplpboaa
open Go.Sx

def G_api_Item (x : api_Item) : Prop := ((Lit.int .i64 x.Map).wf = true) ∧ ((Lit.int .i64 x.Op).wf = true) ∧ ((Lit.int .u64 x.Key).wf = true) ∧ ((Lit.int .u64 x.Val).wf = true)
theorem dec_api_Item : Dec Try.prog 44 (fun _ _ a cs => cs = enc_api_Item a) G_api_Item := by
  intro H enc w base spare held fuel cs x h hw
  obtain ⟨hl, hf⟩ := Dec.parts (L := [(3, 0, 1), (41, 1, 1), (42, 2, 1), (42, 3, 1)]) (by kernel_rfl) (by simp) h hw
  have hl : cs.length = 4 := hl.trans (by kernel_rfl)
  match cs, hl with
  | [c0, c1, c2, c3], _ =>
  obtain ⟨a0, e0, g0⟩ := hf _ _ _ 0 3 0 1 rfl (Dec.int (t := 3) (k := .i64) (by kernel_rfl))
  have e0 : [c0] = (encInt .i64) a0 := e0
  cases e0
  obtain ⟨a1, e1, g1⟩ := hf _ _ _ 1 41 1 1 rfl (Dec.int (t := 41) (k := .i64) (by kernel_rfl))
  have e1 : [c1] = (encInt .i64) a1 := e1
  cases e1
  obtain ⟨a2, e2, g2⟩ := hf _ _ _ 2 42 2 1 rfl (Dec.int (t := 42) (k := .u64) (by kernel_rfl))
  have e2 : [c2] = (encInt .u64) a2 := e2
  cases e2
  obtain ⟨a3, e3, g3⟩ := hf _ _ _ 3 42 3 1 rfl (Dec.int (t := 42) (k := .u64) (by kernel_rfl))
  have e3 : [c3] = (encInt .u64) a3 := e3
  cases e3
  exact ⟨⟨a0, a1, a2, a3⟩, rfl, g0, g1, g2, g3⟩

def G_api_Res (x : api_Res) : Prop := ((Lit.int .i64 x.E).wf = true) ∧ (True) ∧ ((Lit.int .u64 x.Val).wf = true) ∧ (True) ∧ ((Lit.int .u64 x.OutKey).wf = true) ∧ ((Lit.int .u64 x.OutVal).wf = true)
theorem dec_api_Res : Dec Try.prog 46 (fun _ _ a cs => cs = enc_api_Res a) G_api_Res := by
  intro H enc w base spare held fuel cs x h hw
  obtain ⟨hl, hf⟩ := Dec.parts (L := [(27, 0, 1), (4, 1, 1), (42, 2, 1), (4, 3, 1), (42, 4, 1), (42, 5, 1)]) (by kernel_rfl) (by simp) h hw
  have hl : cs.length = 6 := hl.trans (by kernel_rfl)
  match cs, hl with
  | [c0, c1, c2, c3, c4, c5], _ =>
  obtain ⟨a0, e0, g0⟩ := hf _ _ _ 0 27 0 1 rfl (Dec.int (t := 27) (k := .i64) (by kernel_rfl))
  have e0 : [c0] = (encInt .i64) a0 := e0
  cases e0
  obtain ⟨a1, e1, g1⟩ := hf _ _ _ 1 4 1 1 rfl (Dec.bool (t := 4) (by kernel_rfl))
  have e1 : [c1] = encBool a1 := e1
  cases e1
  obtain ⟨a2, e2, g2⟩ := hf _ _ _ 2 42 2 1 rfl (Dec.int (t := 42) (k := .u64) (by kernel_rfl))
  have e2 : [c2] = (encInt .u64) a2 := e2
  cases e2
  obtain ⟨a3, e3, g3⟩ := hf _ _ _ 3 4 3 1 rfl (Dec.bool (t := 4) (by kernel_rfl))
  have e3 : [c3] = encBool a3 := e3
  cases e3
  obtain ⟨a4, e4, g4⟩ := hf _ _ _ 4 42 4 1 rfl (Dec.int (t := 42) (k := .u64) (by kernel_rfl))
  have e4 : [c4] = (encInt .u64) a4 := e4
  cases e4
  obtain ⟨a5, e5, g5⟩ := hf _ _ _ 5 42 5 1 rfl (Dec.int (t := 42) (k := .u64) (by kernel_rfl))
  have e5 : [c5] = (encInt .u64) a5 := e5
  cases e5
  exact ⟨⟨a0, a1, a2, a3, a4, a5⟩, rfl, g0, g1, g2, g3, g4, g5⟩

def G_api_Entry (x : api_Entry) : Prop := ((Lit.int .i64 x.What).wf = true) ∧ ((Lit.int .i64 x.Task).wf = true) ∧ ((Lit.int .i64 x.From).wf = true) ∧ ((Lit.int .i64 x.Cmd).wf = true) ∧ ((Lit.int .i64 x.Tag).wf = true) ∧ ((Lit.int .i64 x.Event).wf = true) ∧ ((Lit.int .i64 x.Hook).wf = true) ∧ ((Lit.int .i64 x.Prog).wf = true) ∧ ((Lit.int .i64 x.Version).wf = true) ∧ ((Lit.int .i64 x.Pc).wf = true) ∧ (G_api_Item x.Item) ∧ (G_api_Res x.Res) ∧ ((Lit.int .u64 x.Val).wf = true) ∧ ((Lit.int .i64 x.E).wf = true)
theorem dec_api_Entry : Dec Try.prog 48 (fun _ _ a cs => cs = enc_api_Entry a) G_api_Entry := by
  intro H enc w base spare held fuel cs x h hw
  obtain ⟨hl, hf⟩ := Dec.parts (L := [(40, 0, 1), (3, 1, 1), (3, 2, 1), (3, 3, 1), (3, 4, 1), (3, 5, 1), (3, 6, 1), (3, 7, 1), (3, 8, 1), (3, 9, 1), (44, 10, 4), (46, 14, 6), (42, 20, 1), (27, 21, 1)]) (by kernel_rfl) (by simp) h hw
  have hl : cs.length = 22 := hl.trans (by kernel_rfl)
  match cs, hl with
  | [c0, c1, c2, c3, c4, c5, c6, c7, c8, c9, c10, c11, c12, c13, c14, c15, c16, c17, c18, c19, c20, c21], _ =>
  obtain ⟨a0, e0, g0⟩ := hf _ _ _ 0 40 0 1 rfl (Dec.int (t := 40) (k := .i64) (by kernel_rfl))
  have e0 : [c0] = (encInt .i64) a0 := e0
  cases e0
  obtain ⟨a1, e1, g1⟩ := hf _ _ _ 1 3 1 1 rfl (Dec.int (t := 3) (k := .i64) (by kernel_rfl))
  have e1 : [c1] = (encInt .i64) a1 := e1
  cases e1
  obtain ⟨a2, e2, g2⟩ := hf _ _ _ 2 3 2 1 rfl (Dec.int (t := 3) (k := .i64) (by kernel_rfl))
  have e2 : [c2] = (encInt .i64) a2 := e2
  cases e2
  obtain ⟨a3, e3, g3⟩ := hf _ _ _ 3 3 3 1 rfl (Dec.int (t := 3) (k := .i64) (by kernel_rfl))
  have e3 : [c3] = (encInt .i64) a3 := e3
  cases e3
  obtain ⟨a4, e4, g4⟩ := hf _ _ _ 4 3 4 1 rfl (Dec.int (t := 3) (k := .i64) (by kernel_rfl))
  have e4 : [c4] = (encInt .i64) a4 := e4
  cases e4
  obtain ⟨a5, e5, g5⟩ := hf _ _ _ 5 3 5 1 rfl (Dec.int (t := 3) (k := .i64) (by kernel_rfl))
  have e5 : [c5] = (encInt .i64) a5 := e5
  cases e5
  obtain ⟨a6, e6, g6⟩ := hf _ _ _ 6 3 6 1 rfl (Dec.int (t := 3) (k := .i64) (by kernel_rfl))
  have e6 : [c6] = (encInt .i64) a6 := e6
  cases e6
  obtain ⟨a7, e7, g7⟩ := hf _ _ _ 7 3 7 1 rfl (Dec.int (t := 3) (k := .i64) (by kernel_rfl))
  have e7 : [c7] = (encInt .i64) a7 := e7
  cases e7
  obtain ⟨a8, e8, g8⟩ := hf _ _ _ 8 3 8 1 rfl (Dec.int (t := 3) (k := .i64) (by kernel_rfl))
  have e8 : [c8] = (encInt .i64) a8 := e8
  cases e8
  obtain ⟨a9, e9, g9⟩ := hf _ _ _ 9 3 9 1 rfl (Dec.int (t := 3) (k := .i64) (by kernel_rfl))
  have e9 : [c9] = (encInt .i64) a9 := e9
  cases e9
  obtain ⟨a10, e10, g10⟩ := hf _ _ _ 10 44 10 4 rfl dec_api_Item
  have e10 : [c10, c11, c12, c13] = enc_api_Item a10 := e10
  cases e10
  obtain ⟨a11, e11, g11⟩ := hf _ _ _ 11 46 14 6 rfl dec_api_Res
  have e11 : [c14, c15, c16, c17, c18, c19] = enc_api_Res a11 := e11
  cases e11
  obtain ⟨a12, e12, g12⟩ := hf _ _ _ 12 42 20 1 rfl (Dec.int (t := 42) (k := .u64) (by kernel_rfl))
  have e12 : [c20] = (encInt .u64) a12 := e12
  cases e12
  obtain ⟨a13, e13, g13⟩ := hf _ _ _ 13 27 21 1 rfl (Dec.int (t := 27) (k := .i64) (by kernel_rfl))
  have e13 : [c21] = (encInt .i64) a13 := e13
  cases e13
  exact ⟨⟨a0, a1, a2, a3, a4, a5, a6, a7, a8, a9, a10, a11, a12, a13⟩, rfl, g0, g1, g2, g3, g4, g5, g6, g7, g8, g9, g10, g11, g12, g13⟩

end Go.Proofs.Ytpchniebplpboaa

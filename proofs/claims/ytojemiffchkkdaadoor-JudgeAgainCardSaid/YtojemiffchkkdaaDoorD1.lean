/- Written by a program (wip/gen): what a reading of an argument of the laws says of the cells. -/
import Derived.Test.YtojemiffchkkdaaDoorProg
import Derived.Test.YtojemiffchkkdaaDoorF1
import Derived.Test.YtojemiffchkkdaaDoorGlue
set_option linter.unusedVariables false
namespace Go.Proofs.YtojemiffchkkdaaDoor
open Go.Sx

def R_t22 : Rp (List Int) := rowP 3 (encInt .i64) 1 (fun _ => rfl) (by decide)

def R_t23 : Rp (List api_Inst) := rowP 42 (enc_api_Inst) 5 (fun _ => rfl) (by decide)

def R_t25 : Rp api_Module := structP (fun (x : api_Module) vs => [vs.getD 0 undef, vs.getD 1 undef]) 2 (fun _ _ => rfl) (fun x => (x.Maps, x.Code)) (pairP R_t22 R_t23)

def G_api_Inst (x : api_Inst) : Prop := ((Lit.int .i64 x.Op).wf = true) ∧ ((Lit.int .i64 x.D).wf = true) ∧ ((Lit.int .i64 x.A).wf = true) ∧ ((Lit.int .i64 x.B).wf = true) ∧ ((Lit.int .i64 x.Imm).wf = true)
theorem dec_api_Inst : Dec Tryd.prog 42 (fun _ _ a cs => cs = enc_api_Inst a) G_api_Inst := by
  intro H enc w base spare held fuel cs x h hw
  obtain ⟨hl, hf⟩ := Dec.parts (L := [(40, 0, 1), (3, 1, 1), (3, 2, 1), (3, 3, 1), (2, 4, 1)]) (by kernel_rfl) (by simp) h hw
  have hl : cs.length = 5 := hl.trans (by kernel_rfl)
  match cs, hl with
  | [c0, c1, c2, c3, c4], _ =>
  obtain ⟨a0, e0, g0⟩ := hf _ _ _ 0 40 0 1 rfl (Dec.int (t := 40) (k := .i64) (by kernel_rfl))
  have e0 : [c0] = (encInt .i64) a0 := e0
  cases e0
  obtain ⟨a1, e1, g1⟩ := hf _ _ _ 1 3 1 1 rfl (Dec.int (t := 3) (k := .i64) (by kernel_rfl))
  have e1 : [c1] = (encInt .i64) a1 := e1
  cases e1
  obtain ⟨a2, e2, g2⟩ := hf _ _ _ 2 3 2 1 rfl (Dec.int (t := 3) (k := .i64) (by kernel_rfl))
  have e2 : [c2] = (encInt .i64) a2 := e2
  cases e2
  obtain ⟨a3, e3, g3⟩ := hf _ _ _ 3 3 3 1 rfl (Dec.int (t := 3) (k := .i64) (by kernel_rfl))
  have e3 : [c3] = (encInt .i64) a3 := e3
  cases e3
  obtain ⟨a4, e4, g4⟩ := hf _ _ _ 4 2 4 1 rfl (Dec.int (t := 2) (k := .i64) (by kernel_rfl))
  have e4 : [c4] = (encInt .i64) a4 := e4
  cases e4
  exact ⟨⟨a0, a1, a2, a3, a4⟩, rfl, g0, g1, g2, g3, g4⟩

def G_api_Module (x : api_Module) : Prop := (x.Maps.length * 8 ≤ reachBytes ∧ ∀ y22 ∈ x.Maps, (Lit.int .i64 y22).wf = true) ∧ (x.Code.length * 40 ≤ reachBytes ∧ ∀ y23 ∈ x.Code, G_api_Inst y23)
theorem dec_api_Module : Dec Tryd.prog 25 R_t25.rd G_api_Module := by
  intro H enc w base spare held fuel cs x h hw
  obtain ⟨hl, hf⟩ := Dec.parts (L := [(22, 0, 1), (23, 1, 1)]) (by kernel_rfl) (by simp) h hw
  have hl : cs.length = 2 := hl.trans (by kernel_rfl)
  match cs, hl with
  | [c0, c1], _ =>
  obtain ⟨a0, ⟨v0, e0, m0⟩, g0⟩ := hf _ _ _ 0 22 0 1 rfl (Dec.slice (t := 22) (e := 3) (sz := 1) (bytes := 8) (Dec.int (t := 3) (k := .i64) (by kernel_rfl)) (by kernel_rfl) (by kernel_rfl) (by decide) (by kernel_rfl))
  have e0 : [c0] = [v0] := e0
  cases e0
  obtain ⟨a1, ⟨v1, e1, m1⟩, g1⟩ := hf _ _ _ 1 23 1 1 rfl (Dec.slice (t := 23) (e := 42) (sz := 5) (bytes := 40) dec_api_Inst (by kernel_rfl) (by kernel_rfl) (by decide) (by kernel_rfl))
  have e1 : [c1] = [v1] := e1
  cases e1
  exact ⟨⟨a0, a1⟩, ⟨[_, _], rfl, ⟨[_], [_], rfl, ⟨_, rfl, m0⟩, ⟨_, rfl, m1⟩⟩⟩, g0, g1⟩

end Go.Proofs.YtojemiffchkkdaaDoor

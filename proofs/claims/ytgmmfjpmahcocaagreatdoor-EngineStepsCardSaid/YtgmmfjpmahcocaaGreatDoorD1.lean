/- Texts D1 of this proof. -/
import Derived.Test.YtgmmfjpmahcocaaGreatDoorProg
import Derived.Test.YtgmmfjpmahcocaaGreatDoorF1
import Derived.Test.YtgmmfjpmahcocaaGreatDoorGlue
set_option linter.unusedVariables false
set_option linter.unusedSimpArgs false
namespace Go.Proofs.YtgmmfjpmahcocaaGreatDoor
open Go.Sx
def R_t25 : Rp api_Module := structP (fun (x : api_Module) vs => [vs.getD 0 undef, vs.getD 1 undef]) 2 (fun _ _ => rfl) (fun x => (x.Maps, x.Code)) (pairP R_t22 R_t23)
def R_t29 : Rp (List api_Res) := rowP 45 (enc_api_Res) 6 (fun _ => rfl) (by decide)
def R_t31 : Rp tappetlaw11_Run := structP (fun (x : tappetlaw11_Run) vs => [vs.getD 0 undef, vs.getD 1 undef, .int .u64 x.E.A, .int .u64 x.E.B, vs.getD 2 undef, .int .i64 x.Odd]) 6 (fun _ _ => rfl) (fun x => (x.M.Maps, (x.M.Code, x.Res))) (pairP R_t22 (pairP R_t23 R_t29))
def G_api_Inst (x : api_Inst) : Prop := ((Lit.int .i64 x.Op).wf = true) /\ ((Lit.int .i64 x.D).wf = true) /\ ((Lit.int .i64 x.A).wf = true) /\ ((Lit.int .i64 x.B).wf = true) /\ ((Lit.int .i64 x.Imm).wf = true)
theorem dec_api_Inst : Dec Tryz.prog 43 (fun _ _ a cs => cs = enc_api_Inst a) G_api_Inst := by
 intro H enc w base spare held fuel cs x h hw
 obtain ⟨hl, hf⟩ := Dec.parts (L := [(41, 0, 1), (3, 1, 1), (3, 2, 1), (3, 3, 1), (2, 4, 1)]) (by kernel_rfl) (by simp) h hw
 have hl : cs.length = 5 := hl.trans (by kernel_rfl)
 match cs, hl with
 | [c0, c1, c2, c3, c4], _ =>
 obtain ⟨a0, e0, g0⟩ := hf _ _ _ 0 41 0 1 rfl (Dec.int (t := 41) (k := .i64) (by kernel_rfl))
 have e0 : [c0] = (encInt .i64) a0 := e0
 cases e0
 obtain ⟨a1, e1, g1⟩ := hf _ _ _ 1 3 1 1 rfl (Dec.int (t := 3) (k := .i64) (by kernel_rfl))
 have e1 : [c1] = (encInt .i64) a1 := e1
 cases e1
 obtain ⟨a2, e2, g2⟩ := hf _ _ _ 2 3 2 1 rfl (Dec.int (t := 3) (k := .i64) (by kernel_rfl))
 have e2 : [c2] = (encInt .i64) a2 := e2
 cases e2
 obtain ⟨a3, e3, g3⟩ := hf _ _ _ 3 3 3 1 rfl (Dec.int (t := 3) (k := .i64) (by kernel_rfl))
 have e3 : [c3] = (encInt .i64) a3 := e3
 cases e3
 obtain ⟨a4, e4, g4⟩ := hf _ _ _ 4 2 4 1 rfl (Dec.int (t := 2) (k := .i64) (by kernel_rfl))
 have e4 : [c4] = (encInt .i64) a4 := e4
 cases e4
 exact ⟨⟨a0, a1, a2, a3, a4⟩, rfl, g0, g1, g2, g3, g4⟩
def G_api_Module (x : api_Module) : Prop := (x.Maps.length * 8 <= reachBytes /\ ∀ y22 ∈ x.Maps, (Lit.int .i64 y22).wf = true) /\ (x.Code.length * 40 <= reachBytes /\ ∀ y23 ∈ x.Code, G_api_Inst y23)
theorem dec_api_Module : Dec Tryz.prog 25 R_t25.rd G_api_Module := by
 intro H enc w base spare held fuel cs x h hw
 obtain ⟨hl, hf⟩ := Dec.parts (L := [(22, 0, 1), (23, 1, 1)]) (by kernel_rfl) (by simp) h hw
 have hl : cs.length = 2 := hl.trans (by kernel_rfl)
 match cs, hl with
 | [c0, c1], _ =>
 obtain ⟨a0, ⟨v0, e0, m0⟩, g0⟩ := hf _ _ _ 0 22 0 1 rfl (Dec.slice (t := 22) (e := 3) (sz := 1) (bytes := 8) (Dec.int (t := 3) (k := .i64) (by kernel_rfl)) (by kernel_rfl) (by kernel_rfl) (by decide) (by kernel_rfl))
 have e0 : [c0] = [v0] := e0
 cases e0
 obtain ⟨a1, ⟨v1, e1, m1⟩, g1⟩ := hf _ _ _ 1 23 1 1 rfl (Dec.slice (t := 23) (e := 43) (sz := 5) (bytes := 40) dec_api_Inst (by kernel_rfl) (by kernel_rfl) (by decide) (by kernel_rfl))
 have e1 : [c1] = [v1] := e1
 cases e1
 exact ⟨⟨a0, a1⟩, ⟨[_, _], rfl, ⟨[_], [_], rfl, ⟨_, rfl, m0⟩, ⟨_, rfl, m1⟩⟩⟩, g0, g1⟩
def G_api_Event (x : api_Event) : Prop := ((Lit.int .u64 x.A).wf = true) /\ ((Lit.int .u64 x.B).wf = true)
theorem dec_api_Event : Dec Tryz.prog 28 (fun _ _ a cs => cs = enc_api_Event a) G_api_Event := by
 intro H enc w base spare held fuel cs x h hw
 obtain ⟨hl, hf⟩ := Dec.parts (L := [(26, 0, 1), (26, 1, 1)]) (by kernel_rfl) (by simp) h hw
 have hl : cs.length = 2 := hl.trans (by kernel_rfl)
 match cs, hl with
 | [c0, c1], _ =>
 obtain ⟨a0, e0, g0⟩ := hf _ _ _ 0 26 0 1 rfl (Dec.int (t := 26) (k := .u64) (by kernel_rfl))
 have e0 : [c0] = (encInt .u64) a0 := e0
 cases e0
 obtain ⟨a1, e1, g1⟩ := hf _ _ _ 1 26 1 1 rfl (Dec.int (t := 26) (k := .u64) (by kernel_rfl))
 have e1 : [c1] = (encInt .u64) a1 := e1
 cases e1
 exact ⟨⟨a0, a1⟩, rfl, g0, g1⟩
def G_api_Res (x : api_Res) : Prop := ((Lit.int .i64 x.E).wf = true) /\ (True) /\ ((Lit.int .u64 x.Val).wf = true) /\ (True) /\ ((Lit.int .u64 x.OutKey).wf = true) /\ ((Lit.int .u64 x.OutVal).wf = true)
theorem dec_api_Res : Dec Tryz.prog 45 (fun _ _ a cs => cs = enc_api_Res a) G_api_Res := by
 intro H enc w base spare held fuel cs x h hw
 obtain ⟨hl, hf⟩ := Dec.parts (L := [(35, 0, 1), (4, 1, 1), (26, 2, 1), (4, 3, 1), (26, 4, 1), (26, 5, 1)]) (by kernel_rfl) (by simp) h hw
 have hl : cs.length = 6 := hl.trans (by kernel_rfl)
 match cs, hl with
 | [c0, c1, c2, c3, c4, c5], _ =>
 obtain ⟨a0, e0, g0⟩ := hf _ _ _ 0 35 0 1 rfl (Dec.int (t := 35) (k := .i64) (by kernel_rfl))
 have e0 : [c0] = (encInt .i64) a0 := e0
 cases e0
 obtain ⟨a1, e1, g1⟩ := hf _ _ _ 1 4 1 1 rfl (Dec.bool (t := 4) (by kernel_rfl))
 have e1 : [c1] = encBool a1 := e1
 cases e1
 obtain ⟨a2, e2, g2⟩ := hf _ _ _ 2 26 2 1 rfl (Dec.int (t := 26) (k := .u64) (by kernel_rfl))
 have e2 : [c2] = (encInt .u64) a2 := e2
 cases e2
 obtain ⟨a3, e3, g3⟩ := hf _ _ _ 3 4 3 1 rfl (Dec.bool (t := 4) (by kernel_rfl))
 have e3 : [c3] = encBool a3 := e3
 cases e3
 obtain ⟨a4, e4, g4⟩ := hf _ _ _ 4 26 4 1 rfl (Dec.int (t := 26) (k := .u64) (by kernel_rfl))
 have e4 : [c4] = (encInt .u64) a4 := e4
 cases e4
 obtain ⟨a5, e5, g5⟩ := hf _ _ _ 5 26 5 1 rfl (Dec.int (t := 26) (k := .u64) (by kernel_rfl))
 have e5 : [c5] = (encInt .u64) a5 := e5
 cases e5
 exact ⟨⟨a0, a1, a2, a3, a4, a5⟩, rfl, g0, g1, g2, g3, g4, g5⟩
def G_tappetlaw11_Run (x : tappetlaw11_Run) : Prop := (G_api_Module x.M) /\ (G_api_Event x.E) /\ (x.Res.length * 48 <= reachBytes /\ ∀ y29 ∈ x.Res, G_api_Res y29) /\ ((Lit.int .i64 x.Odd).wf = true)
theorem dec_tappetlaw11_Run : Dec Tryz.prog 31 R_t31.rd G_tappetlaw11_Run := by
 intro H enc w base spare held fuel cs x h hw
 obtain ⟨hl, hf⟩ := Dec.parts (L := [(25, 0, 2), (28, 2, 2), (29, 4, 1), (3, 5, 1)]) (by kernel_rfl) (by simp) h hw
 have hl : cs.length = 6 := hl.trans (by kernel_rfl)
 match cs, hl with
 | [c0, c1, c2, c3, c4, c5], _ =>
 obtain ⟨a0, ⟨us0, e0, q0⟩, g0⟩ := hf _ _ _ 0 25 0 2 rfl dec_api_Module
 obtain ⟨_, _, rfl, ⟨v0_0, rfl, m0_0⟩, ⟨v0_1, rfl, m0_1⟩⟩ := q0
 have e0 : [c0, c1] = [v0_0, v0_1] := e0
 cases e0
 obtain ⟨a1, e1, g1⟩ := hf _ _ _ 1 28 2 2 rfl dec_api_Event
 have e1 : [c2, c3] = enc_api_Event a1 := e1
 cases e1
 obtain ⟨a2, ⟨v2, e2, m2⟩, g2⟩ := hf _ _ _ 2 29 4 1 rfl (Dec.slice (t := 29) (e := 45) (sz := 6) (bytes := 48) dec_api_Res (by kernel_rfl) (by kernel_rfl) (by decide) (by kernel_rfl))
 have e2 : [c4] = [v2] := e2
 cases e2
 obtain ⟨a3, e3, g3⟩ := hf _ _ _ 3 3 5 1 rfl (Dec.int (t := 3) (k := .i64) (by kernel_rfl))
 have e3 : [c5] = (encInt .i64) a3 := e3
 cases e3
 exact ⟨⟨a0, a1, a2, a3⟩, ⟨[_, _, _], rfl, ⟨[_], [_, _], rfl, ⟨_, rfl, m0_0⟩, ⟨[_], [_], rfl, ⟨_, rfl, m0_1⟩, ⟨_, rfl, m2⟩⟩⟩⟩, g0, g1, g2, g3⟩
end Go.Proofs.YtgmmfjpmahcocaaGreatDoor

/- Texts D1 of this proof. -/
import Derived.Test.YtbmknhpfkpmigaaGreatDoorProg
import Derived.Test.YtbmknhpfkpmigaaGreatDoorF1
set_option linter.unusedVariables false
set_option linter.unusedSimpArgs false
namespace Go.Proofs.YtbmknhpfkpmigaaGreatDoor
open Go.Sx
def zpM : Rp zj := jC (fun (x : zj) vs => [vs.getD 0 undef, vs.getD 1 undef]) 2 (fun _ _ => rfl) (fun x => (x.Ms, x.Co)) (xj zgf znY)
def zgC (x : qw) : Prop := ((Lit.int .u64 x.A).wf = true) /\ ((Lit.int .u64 x.B).wf = true)
theorem zhK : Dec Tryz.prog 31 (fun _ _ a cs => cs = zfn a) zgC := by
 intro H enc w base spare held fuel cs x h hw
 obtain ⟨hl, hf⟩ := Dec.parts (L := [(29, 0, 1), (29, 1, 1)]) (by kernel_rfl) (by simp) h hw
 have hl : cs.length = 2 := hl.trans (by kernel_rfl)
 match cs, hl with
 | [c0, c1], _ =>
 obtain ⟨a0, e0, g0⟩ := hf _ _ _ 0 29 0 1 rfl (Dec.int (t := 29) (k := .u64) (by kernel_rfl))
 have e0 : [c0] = (zw .u64) a0 := e0
 cases e0
 obtain ⟨a1, e1, g1⟩ := hf _ _ _ 1 29 1 1 rfl (Dec.int (t := 29) (k := .u64) (by kernel_rfl))
 have e1 : [c1] = (zw .u64) a1 := e1
 cases e1
 exact ⟨⟨a0, a1⟩, rfl, g0, g1⟩
def zf8 (x : jg) : Prop := ((Lit.int .i64 x.N).wf = true) /\ (zgC x.Ev)
theorem zhl : Dec Tryz.prog 33 (fun _ _ a cs => cs = zeX a) zf8 := by
 intro H enc w base spare held fuel cs x h hw
 obtain ⟨hl, hf⟩ := Dec.parts (L := [(3, 0, 1), (31, 1, 2)]) (by kernel_rfl) (by simp) h hw
 have hl : cs.length = 3 := hl.trans (by kernel_rfl)
 match cs, hl with
 | [c0, c1, c2], _ =>
 obtain ⟨a0, e0, g0⟩ := hf _ _ _ 0 3 0 1 rfl (Dec.int (t := 3) (k := .i64) (by kernel_rfl))
 have e0 : [c0] = (zw .i64) a0 := e0
 cases e0
 obtain ⟨a1, e1, g1⟩ := hf _ _ _ 1 31 1 2 rfl zhK
 have e1 : [c1, c2] = zfn a1 := e1
 cases e1
 exact ⟨⟨a0, a1⟩, rfl, g0, g1⟩
def zhs (x : zc) : Prop := ((Lit.int .i64 x.Op).wf = true) /\ ((Lit.int .i64 x.D).wf = true) /\ ((Lit.int .i64 x.A).wf = true) /\ ((Lit.int .i64 x.B).wf = true) /\ ((Lit.int .i64 x.Imm).wf = true)
theorem zim : Dec Tryz.prog 65 (fun _ _ a cs => cs = zo a) zhs := by
 intro H enc w base spare held fuel cs x h hw
 obtain ⟨hl, hf⟩ := Dec.parts (L := [(63, 0, 1), (3, 1, 1), (3, 2, 1), (3, 3, 1), (2, 4, 1)]) (by kernel_rfl) (by simp) h hw
 have hl : cs.length = 5 := hl.trans (by kernel_rfl)
 match cs, hl with
 | [c0, c1, c2, c3, c4], _ =>
 obtain ⟨a0, e0, g0⟩ := hf _ _ _ 0 63 0 1 rfl (Dec.int (t := 63) (k := .i64) (by kernel_rfl))
 have e0 : [c0] = (zw .i64) a0 := e0
 cases e0
 obtain ⟨a1, e1, g1⟩ := hf _ _ _ 1 3 1 1 rfl (Dec.int (t := 3) (k := .i64) (by kernel_rfl))
 have e1 : [c1] = (zw .i64) a1 := e1
 cases e1
 obtain ⟨a2, e2, g2⟩ := hf _ _ _ 2 3 2 1 rfl (Dec.int (t := 3) (k := .i64) (by kernel_rfl))
 have e2 : [c2] = (zw .i64) a2 := e2
 cases e2
 obtain ⟨a3, e3, g3⟩ := hf _ _ _ 3 3 3 1 rfl (Dec.int (t := 3) (k := .i64) (by kernel_rfl))
 have e3 : [c3] = (zw .i64) a3 := e3
 cases e3
 obtain ⟨a4, e4, g4⟩ := hf _ _ _ 4 2 4 1 rfl (Dec.int (t := 2) (k := .i64) (by kernel_rfl))
 have e4 : [c4] = (zw .i64) a4 := e4
 cases e4
 exact ⟨⟨a0, a1, a2, a3, a4⟩, rfl, g0, g1, g2, g3, g4⟩
def zf9 (x : zj) : Prop := (x.Ms.length * 8 <= reachBytes /\ ∀ y34 ∈ x.Ms, (Lit.int .i64 y34).wf = true) /\ (x.Co.length * 40 <= reachBytes /\ ∀ y35 ∈ x.Co, zhs y35)
theorem zhm : Dec Tryz.prog 37 zpM.rd zf9 := by
 intro H enc w base spare held fuel cs x h hw
 obtain ⟨hl, hf⟩ := Dec.parts (L := [(34, 0, 1), (35, 1, 1)]) (by kernel_rfl) (by simp) h hw
 have hl : cs.length = 2 := hl.trans (by kernel_rfl)
 match cs, hl with
 | [c0, c1], _ =>
 obtain ⟨a0, ⟨v0, e0, m0⟩, g0⟩ := hf _ _ _ 0 34 0 1 rfl (Dec.slice (t := 34) (e := 3) (sz := 1) (bytes := 8) (Dec.int (t := 3) (k := .i64) (by kernel_rfl)) (by kernel_rfl) (by kernel_rfl) (by decide) (by kernel_rfl))
 have e0 : [c0] = [v0] := e0
 cases e0
 obtain ⟨a1, ⟨v1, e1, m1⟩, g1⟩ := hf _ _ _ 1 35 1 1 rfl (Dec.slice (t := 35) (e := 65) (sz := 5) (bytes := 40) zim (by kernel_rfl) (by kernel_rfl) (by decide) (by kernel_rfl))
 have e1 : [c1] = [v1] := e1
 cases e1
 exact ⟨⟨a0, a1⟩, ⟨[_, _], rfl, ⟨[_], [_], rfl, ⟨_, rfl, m0⟩, ⟨_, rfl, m1⟩⟩⟩, g0, g1⟩
def zin (x : xz) : Prop := ((Lit.int .i64 x.E).wf = true) /\ (True) /\ ((Lit.int .u64 x.Val).wf = true) /\ (True) /\ ((Lit.int .u64 x.OutKey).wf = true) /\ ((Lit.int .u64 x.OutVal).wf = true)
theorem zja : Dec Tryz.prog 40 (fun _ _ a cs => cs = zgE a) zin := by
 intro H enc w base spare held fuel cs x h hw
 obtain ⟨hl, hf⟩ := Dec.parts (L := [(38, 0, 1), (4, 1, 1), (29, 2, 1), (4, 3, 1), (29, 4, 1), (29, 5, 1)]) (by kernel_rfl) (by simp) h hw
 have hl : cs.length = 6 := hl.trans (by kernel_rfl)
 match cs, hl with
 | [c0, c1, c2, c3, c4, c5], _ =>
 obtain ⟨a0, e0, g0⟩ := hf _ _ _ 0 38 0 1 rfl (Dec.int (t := 38) (k := .i64) (by kernel_rfl))
 have e0 : [c0] = (zw .i64) a0 := e0
 cases e0
 obtain ⟨a1, e1, g1⟩ := hf _ _ _ 1 4 1 1 rfl (Dec.bool (t := 4) (by kernel_rfl))
 have e1 : [c1] = zc6 a1 := e1
 cases e1
 obtain ⟨a2, e2, g2⟩ := hf _ _ _ 2 29 2 1 rfl (Dec.int (t := 29) (k := .u64) (by kernel_rfl))
 have e2 : [c2] = (zw .u64) a2 := e2
 cases e2
 obtain ⟨a3, e3, g3⟩ := hf _ _ _ 3 4 3 1 rfl (Dec.bool (t := 4) (by kernel_rfl))
 have e3 : [c3] = zc6 a3 := e3
 cases e3
 obtain ⟨a4, e4, g4⟩ := hf _ _ _ 4 29 4 1 rfl (Dec.int (t := 29) (k := .u64) (by kernel_rfl))
 have e4 : [c4] = (zw .u64) a4 := e4
 cases e4
 obtain ⟨a5, e5, g5⟩ := hf _ _ _ 5 29 5 1 rfl (Dec.int (t := 29) (k := .u64) (by kernel_rfl))
 have e5 : [c5] = (zw .u64) a5 := e5
 cases e5
 exact ⟨⟨a0, a1, a2, a3, a4, a5⟩, rfl, g0, g1, g2, g3, g4, g5⟩
def za1 (x : zR) : Prop := ((Lit.int .i64 x.Ki).wf = true) /\ ((Lit.int .i64 x.Hook).wf = true) /\ ((Lit.int .i64 x.Version).wf = true) /\ ((Lit.int .i64 x.Prog).wf = true) /\ (zf8 x.Q) /\ (zf9 x.M) /\ (zin x.Res)
theorem zcM : Dec Tryz.prog 42 zkv.rd za1 := by
 intro H enc w base spare held fuel cs x h hw
 obtain ⟨hl, hf⟩ := Dec.parts (L := [(3, 0, 1), (3, 1, 1), (3, 2, 1), (3, 3, 1), (33, 4, 3), (37, 7, 2), (40, 9, 6)]) (by kernel_rfl) (by simp) h hw
 have hl : cs.length = 15 := hl.trans (by kernel_rfl)
 match cs, hl with
 | [c0, c1, c2, c3, c4, c5, c6, c7, c8, c9, c10, c11, c12, c13, c14], _ =>
 obtain ⟨a0, e0, g0⟩ := hf _ _ _ 0 3 0 1 rfl (Dec.int (t := 3) (k := .i64) (by kernel_rfl))
 have e0 : [c0] = (zw .i64) a0 := e0
 cases e0
 obtain ⟨a1, e1, g1⟩ := hf _ _ _ 1 3 1 1 rfl (Dec.int (t := 3) (k := .i64) (by kernel_rfl))
 have e1 : [c1] = (zw .i64) a1 := e1
 cases e1
 obtain ⟨a2, e2, g2⟩ := hf _ _ _ 2 3 2 1 rfl (Dec.int (t := 3) (k := .i64) (by kernel_rfl))
 have e2 : [c2] = (zw .i64) a2 := e2
 cases e2
 obtain ⟨a3, e3, g3⟩ := hf _ _ _ 3 3 3 1 rfl (Dec.int (t := 3) (k := .i64) (by kernel_rfl))
 have e3 : [c3] = (zw .i64) a3 := e3
 cases e3
 obtain ⟨a4, e4, g4⟩ := hf _ _ _ 4 33 4 3 rfl zhl
 have e4 : [c4, c5, c6] = zeX a4 := e4
 cases e4
 obtain ⟨a5, ⟨us5, e5, q5⟩, g5⟩ := hf _ _ _ 5 37 7 2 rfl zhm
 obtain ⟨_, _, rfl, ⟨v5_0, rfl, m5_0⟩, ⟨v5_1, rfl, m5_1⟩⟩ := q5
 have e5 : [c7, c8] = [v5_0, v5_1] := e5
 cases e5
 obtain ⟨a6, e6, g6⟩ := hf _ _ _ 6 40 9 6 rfl zja
 have e6 : [c9, c10, c11, c12, c13, c14] = zgE a6 := e6
 cases e6
 exact ⟨⟨a0, a1, a2, a3, a4, a5, a6⟩, ⟨[_, _], rfl, ⟨[_], [_], rfl, ⟨_, rfl, m5_0⟩, ⟨_, rfl, m5_1⟩⟩⟩, g0, g1, g2, g3, g4, g5, g6⟩
end Go.Proofs.YtbmknhpfkpmigaaGreatDoor

/- Written by a program (wip/gen): the walks: each Go function returns what its plain function computes. -/
import Derived.Test.YtkgajppghpmkbaaDoorProg
import Derived.Test.YtkgajppghpmkbaaDoorF1
import Derived.Test.YtkgajppghpmkbaaDoorSq
import Derived.Test.YtkgajppghpmkbaaDoorPart
import Derived.Test.YtkgajppghpmkbaaDoorO1
import Derived.Test.YtkgajppghpmkbaaDoorW1p3
set_option linter.unusedSimpArgs false
namespace Go.Proofs.YtkgajppghpmkbaaDoor
open Go.Sx
set_option linter.unusedVariables false
set_option maxRecDepth 10000
set_option maxHeartbeats 4000000
theorem engine_Machine_run_ok (w : World) (v0 : Value) (S0 : List Nat) (p0 : engine_Machine) (p1 : api_Inst) (v2 : Value) (S2 : List Nat) (g0 : scratch_Scratch) (r : Int × engine_Machine × scratch_Scratch) (hF : engine_Machine_run p0 p1 g0 = some r)
    (hst : St w (fp [itI (R_t69 v2) [v0] S0 p0, itI R_t67 [v2] S2 g0]) w [itI (R_t69 v2) [v0] S0 p0, itI R_t67 [v2] S2 g0]) :
    Calls Tryd.prog 41 [v0, .agg [I p1.Op, I p1.D, I p1.A, I p1.B, I p1.Imm].toArray].toArray w (fun e w' => ∃ (s0 : List Nat) (s2 : List Nat), e = .returned (I r.1) ∧ St w (fp [itI (R_t69 v2) [v0] S0 p0, itI R_t67 [v2] S2 g0]) w' [itI (R_t69 v2) [v0] s0 r.2.1, itI R_t67 [v2] s2 r.2.2]) := by
 refine CW.start (N := 199) Tryd.func41 rfl rfl rfl ?_
 obtain ⟨b1, rfl⟩ := hst.fptr 0 rfl
 obtain ⟨b2, rfl⟩ := hst.fptr 1 rfl
 refine rg ?_
 refine OW.box hst rfl rfl rfl rfl [I p1.Op, I p1.D, I p1.A, I p1.B, I p1.Imm] rfl ?_
 intro b5 w6 hst
 refine pu 1 [] (nx (CW.seq (rg ?_)))
 refine pu 1 [(9, Pt b5)] ?_
 refine OW.ld rfl rfl rfl rfl (by kernel_rfl) (hst.blk 2 rfl rfl) (nx (CW.block (rg ?_)))
 refine pu 2 [(55, .bool (p1.Op == 0))] (nx ?_)
 refine br ((p1.Op == 0)) hF (fun hF hc7 => ?_) (fun hF hc7 => ?_)
 ·obtain ⟨v8, S9, v10, S11, hst⟩ := hst.openQ2 0 rfl rfl rfl
  have hst := hst.toRow1 3 rfl
  have hst := hst.toRow1 4 rfl
  obtain ⟨l12, a13, c14, rfl⟩ := hst.len 3 rfl
  obtain ⟨l15, a16, c17, rfl⟩ := hst.len 4 rfl
  have hst : St _ _ _ [blkI b1 129 [U p0.Event.A, U p0.Event.B, .slice a13 (p0.module.Maps).length c14, .slice a16 (p0.module.Code).length c17, Pt b2, U (p0.regs 0), U (p0.regs 1), U (p0.regs 2), U (p0.regs 3), U (p0.regs 4), U (p0.regs 5), U (p0.regs 6), U (p0.regs 7), I (p0.turns 0), I (p0.turns 1), I (p0.turns 2), I (p0.turns 3), I (p0.turns 4), I (p0.turns 5), I (p0.turns 6), I (p0.turns 7), I (p0.turns 8), I (p0.turns 9), I (p0.turns 10), I (p0.turns 11), I (p0.turns 12), I (p0.turns 13), I (p0.turns 14), I (p0.turns 15), I (p0.turns 16), I (p0.turns 17), I (p0.turns 18), I (p0.turns 19), I (p0.turns 20), I (p0.turns 21), I (p0.turns 22), I (p0.turns 23), I (p0.turns 24), I (p0.turns 25), I (p0.turns 26), I (p0.turns 27), I (p0.turns 28), I (p0.turns 29), I (p0.turns 30), I (p0.turns 31), I (p0.turns 32), I (p0.turns 33), I (p0.turns 34), I (p0.turns 35), I (p0.turns 36), I (p0.turns 37), I (p0.turns 38), I (p0.turns 39), I (p0.turns 40), I (p0.turns 41), I (p0.turns 42), I (p0.turns 43), I (p0.turns 44), I (p0.turns 45), I (p0.turns 46), I (p0.turns 47), I (p0.turns 48), I (p0.turns 49), I (p0.turns 50), I (p0.turns 51), I (p0.turns 52), I (p0.turns 53), I (p0.turns 54), I (p0.turns 55), I (p0.turns 56), I (p0.turns 57), I (p0.turns 58), I (p0.turns 59), I (p0.turns 60), I (p0.turns 61), I (p0.turns 62), I (p0.turns 63), I p0.at_, I p0.steps, I p0.state], _, _, _, _] := hst
  refine CW.plan (by kernel_rfl) ?_
  intro w27 hch28
  have hst := hst.same hch28
  refine OA.pure [0, 1] [(57, Pt b1), (58, .pointer (some ⟨b5, 1, none⟩))] (by kernel_rfl) ?_
  refine OA.ld (i := 2) rfl (by kernel_rfl) rfl rfl rfl (by kernel_rfl) (hst.blk 2 rfl rfl) ?_
  refine OA.pure [3] [(60, Pt b1)] (by kernel_rfl) ?_
  refine OA.ldN (i := 4) (cs := [I p1.Op, I p1.D, I p1.A, I p1.B, I p1.Imm]) rfl (by kernel_rfl) rfl rfl rfl (by kernel_rfl) (by kernel_rfl) (hst.blkN 2 rfl 0 5) ?_
  refine OA.pure [6, 7] [(64, .pointer (some ⟨b1, 5, none⟩))] (by kernel_rfl) ?_
  refine OA.act (i := 5) [2] (by kernel_rfl) rfl rfl (by kernel_rfl) (by kernel_rfl) ?_
  obtain ⟨r29, hr30, hF⟩ := bs hF
  refine OW.fn rfl rfl rfl rfl (by kernel_rfl) (engine_Machine_source_ok _ b1 (.slice a13 (p0.module.Maps).length c14) (.slice a16 (p0.module.Code).length c17) (Pt b2) (engine_Machine.mk p0.Event p0.module p0.regs p0.turns p0.at_ p0.steps p0.state) p1 r29 hr30 (hst.part [] rfl) (hst.rdB 0 rfl [] rfl)) ?_
  rintro e w31 ⟨rfl, hst32⟩
  refine ⟨_, rfl, ?_⟩
  have hst := hst.join (idx := []) (rest := [0, 1, 2, 3, 4]) rfl hst32
  refine OA.next ⟨(hst.blk 2 rfl rfl), trivial⟩ ?_
  obtain ⟨i33, hi34, hF⟩ := bs hF
  refine OA.val (i := 8) (v := .pointer (some ⟨b1, 5 + Int.toNat p1.D * 1, none⟩)) rfl (by kernel_rfl) rfl rfl rfl rfl (fun a w ha => aidx_run (n := 8) 22 1 rfl rfl rfl (ain_some hi34).1 (ain_some hi34).2.1 (by kernel_rfl) (by kernel_rfl) a w ha) ?_
  refine OA.act (i := 9) [] (by kernel_rfl) rfl rfl (by kernel_rfl) (by kernel_rfl) ?_
  refine OW.stA hst 0 rfl rfl rfl rfl rfl (by kernel_rfl) rfl (encInt .u64) (fun _ => rfl) 8 p0.regs 5 rfl rfl hi34 0 rfl rfl r29 rfl [U p0.Event.A, U p0.Event.B, .slice a13 (p0.module.Maps).length c14, .slice a16 (p0.module.Code).length c17, Pt b2, U ((aset p0.regs i33 r29) 0), U ((aset p0.regs i33 r29) 1), U ((aset p0.regs i33 r29) 2), U ((aset p0.regs i33 r29) 3), U ((aset p0.regs i33 r29) 4), U ((aset p0.regs i33 r29) 5), U ((aset p0.regs i33 r29) 6), U ((aset p0.regs i33 r29) 7), I (p0.turns 0), I (p0.turns 1), I (p0.turns 2), I (p0.turns 3), I (p0.turns 4), I (p0.turns 5), I (p0.turns 6), I (p0.turns 7), I (p0.turns 8), I (p0.turns 9), I (p0.turns 10), I (p0.turns 11), I (p0.turns 12), I (p0.turns 13), I (p0.turns 14), I (p0.turns 15), I (p0.turns 16), I (p0.turns 17), I (p0.turns 18), I (p0.turns 19), I (p0.turns 20), I (p0.turns 21), I (p0.turns 22), I (p0.turns 23), I (p0.turns 24), I (p0.turns 25), I (p0.turns 26), I (p0.turns 27), I (p0.turns 28), I (p0.turns 29), I (p0.turns 30), I (p0.turns 31), I (p0.turns 32), I (p0.turns 33), I (p0.turns 34), I (p0.turns 35), I (p0.turns 36), I (p0.turns 37), I (p0.turns 38), I (p0.turns 39), I (p0.turns 40), I (p0.turns 41), I (p0.turns 42), I (p0.turns 43), I (p0.turns 44), I (p0.turns 45), I (p0.turns 46), I (p0.turns 47), I (p0.turns 48), I (p0.turns 49), I (p0.turns 50), I (p0.turns 51), I (p0.turns 52), I (p0.turns 53), I (p0.turns 54), I (p0.turns 55), I (p0.turns 56), I (p0.turns 57), I (p0.turns 58), I (p0.turns 59), I (p0.turns 60), I (p0.turns 61), I (p0.turns 62), I (p0.turns 63), I p0.at_, I p0.steps, I p0.state] rfl ?_
  intro w35 hst
  refine OA.next trivial ?_
  refine OA.fin (by kernel_rfl) (by kernel_rfl) (QW.block_normal (QW.next (rg ?_)))
  refine pu 1 [(4, I 1)] (nx (CW.ret ?_))
  have hst := hst.toIt 3 rfl (fun _ => rfl) (by decide)
  have hst := hst.toIt 4 rfl (fun _ => rfl) (by decide)
  obtain ⟨S36, hst⟩ := hst.shutP2 (R_t129 (Pt b2)) rfl 0 3 4 [1, 2] rfl rfl rfl rfl (engine_Machine.mk p0.Event p0.module (aset p0.regs i33 r29) p0.turns p0.at_ p0.steps p0.state) rfl rfl
  obtain rfl := inj hF
  refine QW.ret1 rfl rfl ?_
  exact ⟨S36, S2, rfl, hst.keep [2, 0] rfl⟩
 refine rg ?_
 refine pu 2 [(66, .bool (p1.Op == 11))] (nx ?_)
 refine br ((p1.Op == 11)) hF (fun hF hc37 => ?_) (fun hF hc37 => ?_)
 ·obtain ⟨v38, S39, v40, S41, hst⟩ := hst.openQ2 0 rfl rfl rfl
  have hst := hst.toRow1 3 rfl
  have hst := hst.toRow1 4 rfl
  obtain ⟨l42, a43, c44, rfl⟩ := hst.len 3 rfl
  obtain ⟨l45, a46, c47, rfl⟩ := hst.len 4 rfl
  have hst : St _ _ _ [blkI b1 129 [U p0.Event.A, U p0.Event.B, .slice a43 (p0.module.Maps).length c44, .slice a46 (p0.module.Code).length c47, Pt b2, U (p0.regs 0), U (p0.regs 1), U (p0.regs 2), U (p0.regs 3), U (p0.regs 4), U (p0.regs 5), U (p0.regs 6), U (p0.regs 7), I (p0.turns 0), I (p0.turns 1), I (p0.turns 2), I (p0.turns 3), I (p0.turns 4), I (p0.turns 5), I (p0.turns 6), I (p0.turns 7), I (p0.turns 8), I (p0.turns 9), I (p0.turns 10), I (p0.turns 11), I (p0.turns 12), I (p0.turns 13), I (p0.turns 14), I (p0.turns 15), I (p0.turns 16), I (p0.turns 17), I (p0.turns 18), I (p0.turns 19), I (p0.turns 20), I (p0.turns 21), I (p0.turns 22), I (p0.turns 23), I (p0.turns 24), I (p0.turns 25), I (p0.turns 26), I (p0.turns 27), I (p0.turns 28), I (p0.turns 29), I (p0.turns 30), I (p0.turns 31), I (p0.turns 32), I (p0.turns 33), I (p0.turns 34), I (p0.turns 35), I (p0.turns 36), I (p0.turns 37), I (p0.turns 38), I (p0.turns 39), I (p0.turns 40), I (p0.turns 41), I (p0.turns 42), I (p0.turns 43), I (p0.turns 44), I (p0.turns 45), I (p0.turns 46), I (p0.turns 47), I (p0.turns 48), I (p0.turns 49), I (p0.turns 50), I (p0.turns 51), I (p0.turns 52), I (p0.turns 53), I (p0.turns 54), I (p0.turns 55), I (p0.turns 56), I (p0.turns 57), I (p0.turns 58), I (p0.turns 59), I (p0.turns 60), I (p0.turns 61), I (p0.turns 62), I (p0.turns 63), I p0.at_, I p0.steps, I p0.state], _, _, _, _] := hst
  refine CW.plan (by kernel_rfl) ?_
  intro w61 hch62
  have hst := hst.same hch62
  refine OA.pure [0, 1] [(69, Pt b1), (70, .pointer (some ⟨b5, 1, none⟩))] (by kernel_rfl) ?_
  refine OA.ld (i := 2) rfl (by kernel_rfl) rfl rfl rfl (by kernel_rfl) (hst.blk 2 rfl rfl) ?_
  refine OA.pure [3, 4, 5] [(74, .pointer (some ⟨b1, 4, none⟩))] (by kernel_rfl) ?_
  refine OA.ld (i := 6) rfl (by kernel_rfl) rfl rfl rfl (by kernel_rfl) (hst.blk 0 rfl rfl) ?_
  have hst := hst.openQ0 1 rfl
  refine OA.pure [7, 8, 9] [(77, Pt b2), (78, Pt b1)] (by kernel_rfl) ?_
  refine OA.ldN (i := 10) (cs := [I p1.Op, I p1.D, I p1.A, I p1.B, I p1.Imm]) rfl (by kernel_rfl) rfl rfl rfl (by kernel_rfl) (by kernel_rfl) (hst.blkN 2 rfl 0 5) ?_
  refine OA.pure [17, 18] [(86, .pointer (some ⟨b1, 5, none⟩))] (by kernel_rfl) ?_
  refine OA.act (i := 11) [6, 2] (by kernel_rfl) rfl rfl (by kernel_rfl) (by kernel_rfl) ?_
  obtain ⟨r63, hr64, hF⟩ := bs hF
  refine OW.fn rfl rfl rfl rfl (by kernel_rfl) (engine_Machine_source_ok _ b1 (.slice a43 (p0.module.Maps).length c44) (.slice a46 (p0.module.Code).length c47) (Pt b2) (engine_Machine.mk p0.Event p0.module p0.regs p0.turns p0.at_ p0.steps p0.state) p1 r63 hr64 (hst.part [] rfl) (hst.rdB 0 rfl [] rfl)) ?_
  rintro e w65 ⟨rfl, hst66⟩
  refine ⟨_, rfl, ?_⟩
  have hst := hst.join (idx := []) (rest := [0, 1, 2, 3, 4]) rfl hst66
  refine OA.next ⟨(hst.blk 0 rfl rfl), (hst.blk 2 rfl rfl), trivial⟩ ?_
  refine OA.pure [12] [(81, I (w64 r63))] (by kernel_rfl) ?_
  refine OA.act (i := 13) [2] (by kernel_rfl) rfl rfl (by kernel_rfl) (by kernel_rfl) ?_
  obtain ⟨r67, hr68, hF⟩ := bs hF
  refine OW.fn rfl rfl rfl rfl (by kernel_rfl) (scratch_Words_Load_ok _ b2 102 [] [U (g0.Counters.counts 0), U (g0.Counters.counts 1), U (g0.Counters.counts 2), U (g0.Counters.counts 3), U (g0.Counters.counts 4), U (g0.Counters.counts 5), U (g0.Counters.counts 6), U (g0.Counters.counts 7), U (g0.Counters.counts 8), U (g0.Counters.counts 9), U (g0.Counters.counts 10), U (g0.Counters.counts 11), U (g0.Counters.counts 12), U (g0.Counters.counts 13), U (g0.Counters.counts 14), U (g0.Counters.counts 15)] g0.Words (w64 r63) r67 hr68 (hst.part [1] rfl)) ?_
  rintro e w69 ⟨rfl, hst70⟩
  refine ⟨_, rfl, ?_⟩
  have hst := hst.join (idx := [1]) (rest := [0, 2, 3, 4]) rfl hst70
  have hst : St _ _ _ [blkI b2 102 [U (g0.Words.words 0), U (g0.Words.words 1), U (g0.Words.words 2), U (g0.Words.words 3), U (g0.Words.words 4), U (g0.Words.words 5), U (g0.Words.words 6), U (g0.Words.words 7), U (g0.Words.words 8), U (g0.Words.words 9), U (g0.Words.words 10), U (g0.Words.words 11), U (g0.Words.words 12), U (g0.Words.words 13), U (g0.Words.words 14), U (g0.Words.words 15), U (g0.Counters.counts 0), U (g0.Counters.counts 1), U (g0.Counters.counts 2), U (g0.Counters.counts 3), U (g0.Counters.counts 4), U (g0.Counters.counts 5), U (g0.Counters.counts 6), U (g0.Counters.counts 7), U (g0.Counters.counts 8), U (g0.Counters.counts 9), U (g0.Counters.counts 10), U (g0.Counters.counts 11), U (g0.Counters.counts 12), U (g0.Counters.counts 13), U (g0.Counters.counts 14), U (g0.Counters.counts 15)], _, _, _, _] := hst
  refine OA.next ⟨(hst.blk 2 rfl rfl), trivial⟩ ?_
  refine OA.pure [14, 15, 16] [(83, U r67.1)] (by kernel_rfl) ?_
  obtain ⟨i71, hi72, hF⟩ := bs hF
  refine OA.val (i := 19) (v := .pointer (some ⟨b1, 5 + Int.toNat p1.D * 1, none⟩)) rfl (by kernel_rfl) rfl rfl rfl rfl (fun a w ha => aidx_run (n := 8) 22 1 rfl rfl rfl (ain_some hi72).1 (ain_some hi72).2.1 (by kernel_rfl) (by kernel_rfl) a w ha) ?_
  refine OA.act (i := 20) [] (by kernel_rfl) rfl rfl (by kernel_rfl) (by kernel_rfl) ?_
  refine OW.stA hst 1 rfl rfl rfl rfl rfl (by kernel_rfl) rfl (encInt .u64) (fun _ => rfl) 8 p0.regs 5 rfl rfl hi72 0 rfl rfl r67.1 rfl [U p0.Event.A, U p0.Event.B, .slice a43 (p0.module.Maps).length c44, .slice a46 (p0.module.Code).length c47, Pt b2, U ((aset p0.regs i71 r67.1) 0), U ((aset p0.regs i71 r67.1) 1), U ((aset p0.regs i71 r67.1) 2), U ((aset p0.regs i71 r67.1) 3), U ((aset p0.regs i71 r67.1) 4), U ((aset p0.regs i71 r67.1) 5), U ((aset p0.regs i71 r67.1) 6), U ((aset p0.regs i71 r67.1) 7), I (p0.turns 0), I (p0.turns 1), I (p0.turns 2), I (p0.turns 3), I (p0.turns 4), I (p0.turns 5), I (p0.turns 6), I (p0.turns 7), I (p0.turns 8), I (p0.turns 9), I (p0.turns 10), I (p0.turns 11), I (p0.turns 12), I (p0.turns 13), I (p0.turns 14), I (p0.turns 15), I (p0.turns 16), I (p0.turns 17), I (p0.turns 18), I (p0.turns 19), I (p0.turns 20), I (p0.turns 21), I (p0.turns 22), I (p0.turns 23), I (p0.turns 24), I (p0.turns 25), I (p0.turns 26), I (p0.turns 27), I (p0.turns 28), I (p0.turns 29), I (p0.turns 30), I (p0.turns 31), I (p0.turns 32), I (p0.turns 33), I (p0.turns 34), I (p0.turns 35), I (p0.turns 36), I (p0.turns 37), I (p0.turns 38), I (p0.turns 39), I (p0.turns 40), I (p0.turns 41), I (p0.turns 42), I (p0.turns 43), I (p0.turns 44), I (p0.turns 45), I (p0.turns 46), I (p0.turns 47), I (p0.turns 48), I (p0.turns 49), I (p0.turns 50), I (p0.turns 51), I (p0.turns 52), I (p0.turns 53), I (p0.turns 54), I (p0.turns 55), I (p0.turns 56), I (p0.turns 57), I (p0.turns 58), I (p0.turns 59), I (p0.turns 60), I (p0.turns 61), I (p0.turns 62), I (p0.turns 63), I p0.at_, I p0.steps, I p0.state] rfl ?_
  intro w73 hst
  refine OA.next trivial ?_
  refine OA.fin (by kernel_rfl) (by kernel_rfl) (QW.block_normal (QW.next (rg ?_)))
  refine pu 1 [(4, I 1)] (nx (CW.ret ?_))
  have hst := hst.shutP0 (enc := enc_scratch_Scratch) (sz := 32) (he := fun _ => rfl) 0 rfl g0 rfl
  have hst := hst.toIt 3 rfl (fun _ => rfl) (by decide)
  have hst := hst.toIt 4 rfl (fun _ => rfl) (by decide)
  obtain ⟨S74, hst⟩ := hst.shutP2 (R_t129 (Pt b2)) rfl 1 3 4 [0, 2] rfl rfl rfl rfl (engine_Machine.mk p0.Event p0.module (aset p0.regs i71 r67.1) p0.turns p0.at_ p0.steps p0.state) rfl rfl
  obtain rfl := inj hF
  refine QW.ret1 rfl rfl ?_
  exact ⟨S74, ([b2]), rfl, hst.keep [2, 0] rfl⟩
 refine rg ?_
 refine pu 2 [(88, .bool (p1.Op == 12))] (nx ?_)
 refine br ((p1.Op == 12)) hF (fun hF hc75 => ?_) (fun hF hc75 => ?_)
 ·obtain ⟨v76, S77, v78, S79, hst⟩ := hst.openQ2 0 rfl rfl rfl
  have hst := hst.toRow1 3 rfl
  have hst := hst.toRow1 4 rfl
  obtain ⟨l80, a81, c82, rfl⟩ := hst.len 3 rfl
  obtain ⟨l83, a84, c85, rfl⟩ := hst.len 4 rfl
  have hst : St _ _ _ [blkI b1 129 [U p0.Event.A, U p0.Event.B, .slice a81 (p0.module.Maps).length c82, .slice a84 (p0.module.Code).length c85, Pt b2, U (p0.regs 0), U (p0.regs 1), U (p0.regs 2), U (p0.regs 3), U (p0.regs 4), U (p0.regs 5), U (p0.regs 6), U (p0.regs 7), I (p0.turns 0), I (p0.turns 1), I (p0.turns 2), I (p0.turns 3), I (p0.turns 4), I (p0.turns 5), I (p0.turns 6), I (p0.turns 7), I (p0.turns 8), I (p0.turns 9), I (p0.turns 10), I (p0.turns 11), I (p0.turns 12), I (p0.turns 13), I (p0.turns 14), I (p0.turns 15), I (p0.turns 16), I (p0.turns 17), I (p0.turns 18), I (p0.turns 19), I (p0.turns 20), I (p0.turns 21), I (p0.turns 22), I (p0.turns 23), I (p0.turns 24), I (p0.turns 25), I (p0.turns 26), I (p0.turns 27), I (p0.turns 28), I (p0.turns 29), I (p0.turns 30), I (p0.turns 31), I (p0.turns 32), I (p0.turns 33), I (p0.turns 34), I (p0.turns 35), I (p0.turns 36), I (p0.turns 37), I (p0.turns 38), I (p0.turns 39), I (p0.turns 40), I (p0.turns 41), I (p0.turns 42), I (p0.turns 43), I (p0.turns 44), I (p0.turns 45), I (p0.turns 46), I (p0.turns 47), I (p0.turns 48), I (p0.turns 49), I (p0.turns 50), I (p0.turns 51), I (p0.turns 52), I (p0.turns 53), I (p0.turns 54), I (p0.turns 55), I (p0.turns 56), I (p0.turns 57), I (p0.turns 58), I (p0.turns 59), I (p0.turns 60), I (p0.turns 61), I (p0.turns 62), I (p0.turns 63), I p0.at_, I p0.steps, I p0.state], _, _, _, _] := hst
  refine CW.plan (by kernel_rfl) ?_
  intro w98 hch99
  have hst := hst.same hch99
  refine OA.pure [0, 1, 2] [(92, .pointer (some ⟨b1, 4, none⟩))] (by kernel_rfl) ?_
  refine OA.ld (i := 3) rfl (by kernel_rfl) rfl rfl rfl (by kernel_rfl) (hst.blk 0 rfl rfl) ?_
  have hst := hst.openQ0 1 rfl
  refine OA.pure [4, 5, 6] [(95, Pt b2), (96, Pt b1)] (by kernel_rfl) ?_
  refine OA.ldN (i := 7) (cs := [I p1.Op, I p1.D, I p1.A, I p1.B, I p1.Imm]) rfl (by kernel_rfl) rfl rfl rfl (by kernel_rfl) (by kernel_rfl) (hst.blkN 2 rfl 0 5) ?_
  refine OA.pure [10, 11] [(100, Pt b1), (101, .pointer (some ⟨b5, 2, none⟩))] (by kernel_rfl) ?_
  refine OA.ld (i := 12) rfl (by kernel_rfl) rfl rfl rfl (by kernel_rfl) (hst.blk 2 rfl rfl) ?_
  refine OA.pure [13, 14] [(104, .pointer (some ⟨b1, 5, none⟩))] (by kernel_rfl) ?_
  obtain ⟨i100, hi101, hF⟩ := bs hF
  refine OA.val (i := 15) (v := .pointer (some ⟨b1, 5 + Int.toNat p1.A * 1, none⟩)) rfl (by kernel_rfl) rfl rfl rfl rfl (fun a w ha => aidx_run (n := 8) 22 1 rfl rfl rfl (ain_some hi101).1 (ain_some hi101).2.1 (by kernel_rfl) (by kernel_rfl) a w ha) ?_
  refine OA.ld (i := 16) rfl (by kernel_rfl) rfl rfl rfl (by kernel_rfl) (hst.arrB 0 rfl (encInt .u64) (fun _ => rfl) 8 p0.regs 5 rfl rfl hi101 0 _ rfl) ?_
  refine OA.act (i := 8) [16, 12, 3] (by kernel_rfl) rfl rfl (by kernel_rfl) (by kernel_rfl) ?_
  obtain ⟨r102, hr103, hF⟩ := bs hF
  refine OW.fn rfl rfl rfl rfl (by kernel_rfl) (engine_Machine_source_ok _ b1 (.slice a81 (p0.module.Maps).length c82) (.slice a84 (p0.module.Code).length c85) (Pt b2) (engine_Machine.mk p0.Event p0.module p0.regs p0.turns p0.at_ p0.steps p0.state) p1 r102 hr103 (hst.part [] rfl) (hst.rdB 0 rfl [] rfl)) ?_
  rintro e w104 ⟨rfl, hst105⟩
  refine ⟨_, rfl, ?_⟩
  have hst := hst.join (idx := []) (rest := [0, 1, 2, 3, 4]) rfl hst105
  refine OA.next ⟨(hst.arrB 0 rfl (encInt .u64) (fun _ => rfl) 8 p0.regs 5 rfl rfl hi101 0 _ rfl), (hst.blk 2 rfl rfl), (hst.blk 0 rfl rfl), trivial⟩ ?_
  refine OA.pure [9] [(99, I (w64 r102))] (by kernel_rfl) ?_
  refine OA.act (i := 17) [] (by kernel_rfl) rfl rfl (by kernel_rfl) (by kernel_rfl) ?_
  obtain ⟨r106, hr107, hF⟩ := bs hF
  refine OW.fn rfl rfl rfl rfl (by kernel_rfl) (scratch_Words_Store_ok _ b2 102 [] [U (g0.Counters.counts 0), U (g0.Counters.counts 1), U (g0.Counters.counts 2), U (g0.Counters.counts 3), U (g0.Counters.counts 4), U (g0.Counters.counts 5), U (g0.Counters.counts 6), U (g0.Counters.counts 7), U (g0.Counters.counts 8), U (g0.Counters.counts 9), U (g0.Counters.counts 10), U (g0.Counters.counts 11), U (g0.Counters.counts 12), U (g0.Counters.counts 13), U (g0.Counters.counts 14), U (g0.Counters.counts 15)] g0.Words (w64 r102) (p0.regs i100) r106 hr107 (hst.part [1] rfl)) ?_
  rintro e w108 ⟨rfl, hst109⟩
  refine ⟨_, rfl, ?_⟩
  have hst := hst.join (idx := [1]) (rest := [0, 2, 3, 4]) rfl hst109
  have hst : St _ _ _ [blkI b2 102 [U (r106.2.words 0), U (r106.2.words 1), U (r106.2.words 2), U (r106.2.words 3), U (r106.2.words 4), U (r106.2.words 5), U (r106.2.words 6), U (r106.2.words 7), U (r106.2.words 8), U (r106.2.words 9), U (r106.2.words 10), U (r106.2.words 11), U (r106.2.words 12), U (r106.2.words 13), U (r106.2.words 14), U (r106.2.words 15), U (g0.Counters.counts 0), U (g0.Counters.counts 1), U (g0.Counters.counts 2), U (g0.Counters.counts 3), U (g0.Counters.counts 4), U (g0.Counters.counts 5), U (g0.Counters.counts 6), U (g0.Counters.counts 7), U (g0.Counters.counts 8), U (g0.Counters.counts 9), U (g0.Counters.counts 10), U (g0.Counters.counts 11), U (g0.Counters.counts 12), U (g0.Counters.counts 13), U (g0.Counters.counts 14), U (g0.Counters.counts 15)], _, _, _, _] := hst
  refine OA.next trivial ?_
  refine OA.fin (by kernel_rfl) (by kernel_rfl) (QW.block_normal (QW.next (rg ?_)))
  refine pu 1 [(4, I 1)] (nx (CW.ret ?_))
  have hst := hst.shutP0 (enc := enc_scratch_Scratch) (sz := 32) (he := fun _ => rfl) 0 rfl (scratch_Scratch.mk r106.2 g0.Counters) rfl
  have hst := hst.toIt 3 rfl (fun _ => rfl) (by decide)
  have hst := hst.toIt 4 rfl (fun _ => rfl) (by decide)
  obtain ⟨S110, hst⟩ := hst.shutP2 (R_t129 (Pt b2)) rfl 1 3 4 [0, 2] rfl rfl rfl rfl (engine_Machine.mk p0.Event p0.module p0.regs p0.turns p0.at_ p0.steps p0.state) rfl rfl
  obtain rfl := inj hF
  refine QW.ret1 rfl rfl ?_
  exact ⟨S110, ([b2]), rfl, hst.keep [2, 0] rfl⟩
 refine rg ?_
 refine pu 2 [(108, .bool (p1.Op == 13))] (nx ?_)
 refine br ((p1.Op == 13)) hF (fun hF hc111 => ?_) (fun hF hc111 => ?_)
 ·refine CW.seq ?_
  obtain ⟨v112, S113, v114, S115, hst⟩ := hst.openQ2 0 rfl rfl rfl
  have hst := hst.toRow1 3 rfl
  have hst := hst.toRow1 4 rfl
  obtain ⟨l116, a117, c118, rfl⟩ := hst.len 3 rfl
  obtain ⟨l119, a120, c121, rfl⟩ := hst.len 4 rfl
  have hst : St _ _ _ [blkI b1 129 [U p0.Event.A, U p0.Event.B, .slice a117 (p0.module.Maps).length c118, .slice a120 (p0.module.Code).length c121, Pt b2, U (p0.regs 0), U (p0.regs 1), U (p0.regs 2), U (p0.regs 3), U (p0.regs 4), U (p0.regs 5), U (p0.regs 6), U (p0.regs 7), I (p0.turns 0), I (p0.turns 1), I (p0.turns 2), I (p0.turns 3), I (p0.turns 4), I (p0.turns 5), I (p0.turns 6), I (p0.turns 7), I (p0.turns 8), I (p0.turns 9), I (p0.turns 10), I (p0.turns 11), I (p0.turns 12), I (p0.turns 13), I (p0.turns 14), I (p0.turns 15), I (p0.turns 16), I (p0.turns 17), I (p0.turns 18), I (p0.turns 19), I (p0.turns 20), I (p0.turns 21), I (p0.turns 22), I (p0.turns 23), I (p0.turns 24), I (p0.turns 25), I (p0.turns 26), I (p0.turns 27), I (p0.turns 28), I (p0.turns 29), I (p0.turns 30), I (p0.turns 31), I (p0.turns 32), I (p0.turns 33), I (p0.turns 34), I (p0.turns 35), I (p0.turns 36), I (p0.turns 37), I (p0.turns 38), I (p0.turns 39), I (p0.turns 40), I (p0.turns 41), I (p0.turns 42), I (p0.turns 43), I (p0.turns 44), I (p0.turns 45), I (p0.turns 46), I (p0.turns 47), I (p0.turns 48), I (p0.turns 49), I (p0.turns 50), I (p0.turns 51), I (p0.turns 52), I (p0.turns 53), I (p0.turns 54), I (p0.turns 55), I (p0.turns 56), I (p0.turns 57), I (p0.turns 58), I (p0.turns 59), I (p0.turns 60), I (p0.turns 61), I (p0.turns 62), I (p0.turns 63), I p0.at_, I p0.steps, I p0.state], _, _, _, _] := hst
  refine CW.tail 11 (by kernel_rfl) (by kernel_rfl) ?_
  intro w127 hch128
  have hst := hst.same hch128
  refine OS.pure 2 [(110, Pt b1), (111, .pointer (some ⟨b5, 1, none⟩))] rfl (by kernel_rfl) ?_
  refine OS.ld rfl rfl rfl rfl rfl (by kernel_rfl) (hst.blk 2 rfl rfl) ?_
  refine OS.pure 4 [(116, Pt b1)] rfl (by kernel_rfl) ?_
  refine OS.ld rfl rfl rfl rfl rfl (by kernel_rfl) (hst.blk 0 rfl rfl) ?_
  refine OS.pure 2 [(119, .pointer (some ⟨b1, 5, none⟩))] rfl (by kernel_rfl) ?_
  obtain ⟨i129, hi130, hF⟩ := bs hF
  refine OS.op (v := .pointer (some ⟨b1, 5 + Int.toNat p1.D * 1, none⟩)) rfl rfl rfl rfl rfl (fun a ha => aidx_run (n := 8) 22 1 rfl rfl rfl (ain_some hi130).1 (ain_some hi130).2.1 (by kernel_rfl) (by kernel_rfl) a _ ha) ?_
  refine OS.on ?_
  refine OW.stA hst 0 rfl rfl rfl rfl rfl (by kernel_rfl) rfl (encInt .u64) (fun _ => rfl) 8 p0.regs 5 rfl rfl hi130 0 rfl rfl p0.Event.A rfl [U p0.Event.A, U p0.Event.B, .slice a117 (p0.module.Maps).length c118, .slice a120 (p0.module.Code).length c121, Pt b2, U ((aset p0.regs i129 p0.Event.A) 0), U ((aset p0.regs i129 p0.Event.A) 1), U ((aset p0.regs i129 p0.Event.A) 2), U ((aset p0.regs i129 p0.Event.A) 3), U ((aset p0.regs i129 p0.Event.A) 4), U ((aset p0.regs i129 p0.Event.A) 5), U ((aset p0.regs i129 p0.Event.A) 6), U ((aset p0.regs i129 p0.Event.A) 7), I (p0.turns 0), I (p0.turns 1), I (p0.turns 2), I (p0.turns 3), I (p0.turns 4), I (p0.turns 5), I (p0.turns 6), I (p0.turns 7), I (p0.turns 8), I (p0.turns 9), I (p0.turns 10), I (p0.turns 11), I (p0.turns 12), I (p0.turns 13), I (p0.turns 14), I (p0.turns 15), I (p0.turns 16), I (p0.turns 17), I (p0.turns 18), I (p0.turns 19), I (p0.turns 20), I (p0.turns 21), I (p0.turns 22), I (p0.turns 23), I (p0.turns 24), I (p0.turns 25), I (p0.turns 26), I (p0.turns 27), I (p0.turns 28), I (p0.turns 29), I (p0.turns 30), I (p0.turns 31), I (p0.turns 32), I (p0.turns 33), I (p0.turns 34), I (p0.turns 35), I (p0.turns 36), I (p0.turns 37), I (p0.turns 38), I (p0.turns 39), I (p0.turns 40), I (p0.turns 41), I (p0.turns 42), I (p0.turns 43), I (p0.turns 44), I (p0.turns 45), I (p0.turns 46), I (p0.turns 47), I (p0.turns 48), I (p0.turns 49), I (p0.turns 50), I (p0.turns 51), I (p0.turns 52), I (p0.turns 53), I (p0.turns 54), I (p0.turns 55), I (p0.turns 56), I (p0.turns 57), I (p0.turns 58), I (p0.turns 59), I (p0.turns 60), I (p0.turns 61), I (p0.turns 62), I (p0.turns 63), I p0.at_, I p0.steps, I p0.state] rfl ?_
  intro w131 hst
  refine nx (rg ?_)
  refine pu 1 [(121, .pointer (some ⟨b5, 4, none⟩))] ?_
  refine OW.ld rfl rfl rfl rfl (by kernel_rfl) (hst.blk 2 rfl rfl) ?_
  refine pu 1 [(123, .bool (p1.Imm == 1))] (nx ?_)
  refine br ((p1.Imm == 1)) hF (fun hF hc132 => ?_) (fun hF hc132 => ?_)
  ·refine CW.tail 11 (by kernel_rfl) (by kernel_rfl) ?_
   intro w136 hch137
   have hst := hst.same hch137
   refine OS.pure 2 [(124, Pt b1), (125, .pointer (some ⟨b5, 1, none⟩))] rfl (by kernel_rfl) ?_
   refine OS.ld rfl rfl rfl rfl rfl (by kernel_rfl) (hst.blk 2 rfl rfl) ?_
   refine OS.pure 4 [(130, .pointer (some ⟨b1, 1, none⟩))] rfl (by kernel_rfl) ?_
   refine OS.ld rfl rfl rfl rfl rfl (by kernel_rfl) (hst.blk 0 rfl rfl) ?_
   refine OS.pure 2 [(133, .pointer (some ⟨b1, 5, none⟩))] rfl (by kernel_rfl) ?_
   refine OS.op (v := .pointer (some ⟨b1, 5 + Int.toNat p1.D * 1, none⟩)) rfl rfl rfl rfl rfl (fun a ha => aidx_run (n := 8) 22 1 rfl rfl rfl (ain_some hi130).1 (ain_some hi130).2.1 (by kernel_rfl) (by kernel_rfl) a _ ha) ?_
   refine OS.on ?_
   refine OW.stA hst 0 rfl rfl rfl rfl rfl (by kernel_rfl) rfl (encInt .u64) (fun _ => rfl) 8 (aset p0.regs i129 p0.Event.A) 5 rfl rfl hi130 0 rfl rfl p0.Event.B rfl [U p0.Event.A, U p0.Event.B, .slice a117 (p0.module.Maps).length c118, .slice a120 (p0.module.Code).length c121, Pt b2, U ((aset (aset p0.regs i129 p0.Event.A) i129 p0.Event.B) 0), U ((aset (aset p0.regs i129 p0.Event.A) i129 p0.Event.B) 1), U ((aset (aset p0.regs i129 p0.Event.A) i129 p0.Event.B) 2), U ((aset (aset p0.regs i129 p0.Event.A) i129 p0.Event.B) 3), U ((aset (aset p0.regs i129 p0.Event.A) i129 p0.Event.B) 4), U ((aset (aset p0.regs i129 p0.Event.A) i129 p0.Event.B) 5), U ((aset (aset p0.regs i129 p0.Event.A) i129 p0.Event.B) 6), U ((aset (aset p0.regs i129 p0.Event.A) i129 p0.Event.B) 7), I (p0.turns 0), I (p0.turns 1), I (p0.turns 2), I (p0.turns 3), I (p0.turns 4), I (p0.turns 5), I (p0.turns 6), I (p0.turns 7), I (p0.turns 8), I (p0.turns 9), I (p0.turns 10), I (p0.turns 11), I (p0.turns 12), I (p0.turns 13), I (p0.turns 14), I (p0.turns 15), I (p0.turns 16), I (p0.turns 17), I (p0.turns 18), I (p0.turns 19), I (p0.turns 20), I (p0.turns 21), I (p0.turns 22), I (p0.turns 23), I (p0.turns 24), I (p0.turns 25), I (p0.turns 26), I (p0.turns 27), I (p0.turns 28), I (p0.turns 29), I (p0.turns 30), I (p0.turns 31), I (p0.turns 32), I (p0.turns 33), I (p0.turns 34), I (p0.turns 35), I (p0.turns 36), I (p0.turns 37), I (p0.turns 38), I (p0.turns 39), I (p0.turns 40), I (p0.turns 41), I (p0.turns 42), I (p0.turns 43), I (p0.turns 44), I (p0.turns 45), I (p0.turns 46), I (p0.turns 47), I (p0.turns 48), I (p0.turns 49), I (p0.turns 50), I (p0.turns 51), I (p0.turns 52), I (p0.turns 53), I (p0.turns 54), I (p0.turns 55), I (p0.turns 56), I (p0.turns 57), I (p0.turns 58), I (p0.turns 59), I (p0.turns 60), I (p0.turns 61), I (p0.turns 62), I (p0.turns 63), I p0.at_, I p0.steps, I p0.state] rfl ?_
   intro w138 hst
   refine OW.nil rfl (QW.block_normal (QW.next (rg ?_)))
   refine pu 1 [(4, I 1)] (nx (CW.ret ?_))
   have hst := hst.toIt 3 rfl (fun _ => rfl) (by decide)
   have hst := hst.toIt 4 rfl (fun _ => rfl) (by decide)
   obtain ⟨S139, hst⟩ := hst.shutP2 (R_t129 (Pt b2)) rfl 0 3 4 [1, 2] rfl rfl rfl rfl (engine_Machine.mk p0.Event p0.module (aset (aset p0.regs i129 p0.Event.A) i129 p0.Event.B) p0.turns p0.at_ p0.steps p0.state) rfl rfl
   obtain rfl := inj hF
   refine QW.ret1 rfl rfl ?_
   exact ⟨S139, S2, rfl, hst.keep [2, 0] rfl⟩
  refine CW.skip (QW.block_normal (QW.next (rg ?_)))
  refine pu 1 [(4, I 1)] (nx (CW.ret ?_))
  have hst := hst.toIt 3 rfl (fun _ => rfl) (by decide)
  have hst := hst.toIt 4 rfl (fun _ => rfl) (by decide)
  obtain ⟨S140, hst⟩ := hst.shutP2 (R_t129 (Pt b2)) rfl 0 3 4 [1, 2] rfl rfl rfl rfl (engine_Machine.mk p0.Event p0.module (aset p0.regs i129 p0.Event.A) p0.turns p0.at_ p0.steps p0.state) rfl rfl
  obtain rfl := inj hF
  refine QW.ret1 rfl rfl ?_
  exact ⟨S140, S2, rfl, hst.keep [2, 0] rfl⟩
 refine rg ?_
 refine pu 2 [(135, .bool (p1.Op == 14))] (nx ?_)
 refine br ((p1.Op == 14)) hF (fun hF hc141 => ?_) (fun hF hc141 => ?_)
 ·obtain ⟨v142, S143, v144, S145, hst⟩ := hst.openQ2 0 rfl rfl rfl
  have hst := hst.toRow1 3 rfl
  have hst := hst.toRow1 4 rfl
  obtain ⟨l146, a147, c148, rfl⟩ := hst.len 3 rfl
  obtain ⟨l149, a150, c151, rfl⟩ := hst.len 4 rfl
  have hst : St _ _ _ [blkI b1 129 [U p0.Event.A, U p0.Event.B, .slice a147 (p0.module.Maps).length c148, .slice a150 (p0.module.Code).length c151, Pt b2, U (p0.regs 0), U (p0.regs 1), U (p0.regs 2), U (p0.regs 3), U (p0.regs 4), U (p0.regs 5), U (p0.regs 6), U (p0.regs 7), I (p0.turns 0), I (p0.turns 1), I (p0.turns 2), I (p0.turns 3), I (p0.turns 4), I (p0.turns 5), I (p0.turns 6), I (p0.turns 7), I (p0.turns 8), I (p0.turns 9), I (p0.turns 10), I (p0.turns 11), I (p0.turns 12), I (p0.turns 13), I (p0.turns 14), I (p0.turns 15), I (p0.turns 16), I (p0.turns 17), I (p0.turns 18), I (p0.turns 19), I (p0.turns 20), I (p0.turns 21), I (p0.turns 22), I (p0.turns 23), I (p0.turns 24), I (p0.turns 25), I (p0.turns 26), I (p0.turns 27), I (p0.turns 28), I (p0.turns 29), I (p0.turns 30), I (p0.turns 31), I (p0.turns 32), I (p0.turns 33), I (p0.turns 34), I (p0.turns 35), I (p0.turns 36), I (p0.turns 37), I (p0.turns 38), I (p0.turns 39), I (p0.turns 40), I (p0.turns 41), I (p0.turns 42), I (p0.turns 43), I (p0.turns 44), I (p0.turns 45), I (p0.turns 46), I (p0.turns 47), I (p0.turns 48), I (p0.turns 49), I (p0.turns 50), I (p0.turns 51), I (p0.turns 52), I (p0.turns 53), I (p0.turns 54), I (p0.turns 55), I (p0.turns 56), I (p0.turns 57), I (p0.turns 58), I (p0.turns 59), I (p0.turns 60), I (p0.turns 61), I (p0.turns 62), I (p0.turns 63), I p0.at_, I p0.steps, I p0.state], _, _, _, _] := hst
  refine CW.tail 9 (by kernel_rfl) (by kernel_rfl) ?_
  intro w157 hch158
  have hst := hst.same hch158
  refine OS.pure 2 [(137, Pt b1), (138, .pointer (some ⟨b5, 1, none⟩))] rfl (by kernel_rfl) ?_
  refine OS.ld rfl rfl rfl rfl rfl (by kernel_rfl) (hst.blk 2 rfl rfl) ?_
  refine OS.pure 1 [(140, .pointer (some ⟨b5, 4, none⟩))] rfl (by kernel_rfl) ?_
  refine OS.ld rfl rfl rfl rfl rfl (by kernel_rfl) (hst.blk 2 rfl rfl) ?_
  refine OS.pure 3 [(142, U (wu64 p1.Imm)), (144, .pointer (some ⟨b1, 5, none⟩))] rfl (by kernel_rfl) ?_
  obtain ⟨i159, hi160, hF⟩ := bs hF
  refine OS.op (v := .pointer (some ⟨b1, 5 + Int.toNat p1.D * 1, none⟩)) rfl rfl rfl rfl rfl (fun a ha => aidx_run (n := 8) 22 1 rfl rfl rfl (ain_some hi160).1 (ain_some hi160).2.1 (by kernel_rfl) (by kernel_rfl) a _ ha) ?_
  refine OS.on ?_
  refine OW.stA hst 0 rfl rfl rfl rfl rfl (by kernel_rfl) rfl (encInt .u64) (fun _ => rfl) 8 p0.regs 5 rfl rfl hi160 0 rfl rfl (wu64 p1.Imm) rfl [U p0.Event.A, U p0.Event.B, .slice a147 (p0.module.Maps).length c148, .slice a150 (p0.module.Code).length c151, Pt b2, U ((aset p0.regs i159 (wu64 p1.Imm)) 0), U ((aset p0.regs i159 (wu64 p1.Imm)) 1), U ((aset p0.regs i159 (wu64 p1.Imm)) 2), U ((aset p0.regs i159 (wu64 p1.Imm)) 3), U ((aset p0.regs i159 (wu64 p1.Imm)) 4), U ((aset p0.regs i159 (wu64 p1.Imm)) 5), U ((aset p0.regs i159 (wu64 p1.Imm)) 6), U ((aset p0.regs i159 (wu64 p1.Imm)) 7), I (p0.turns 0), I (p0.turns 1), I (p0.turns 2), I (p0.turns 3), I (p0.turns 4), I (p0.turns 5), I (p0.turns 6), I (p0.turns 7), I (p0.turns 8), I (p0.turns 9), I (p0.turns 10), I (p0.turns 11), I (p0.turns 12), I (p0.turns 13), I (p0.turns 14), I (p0.turns 15), I (p0.turns 16), I (p0.turns 17), I (p0.turns 18), I (p0.turns 19), I (p0.turns 20), I (p0.turns 21), I (p0.turns 22), I (p0.turns 23), I (p0.turns 24), I (p0.turns 25), I (p0.turns 26), I (p0.turns 27), I (p0.turns 28), I (p0.turns 29), I (p0.turns 30), I (p0.turns 31), I (p0.turns 32), I (p0.turns 33), I (p0.turns 34), I (p0.turns 35), I (p0.turns 36), I (p0.turns 37), I (p0.turns 38), I (p0.turns 39), I (p0.turns 40), I (p0.turns 41), I (p0.turns 42), I (p0.turns 43), I (p0.turns 44), I (p0.turns 45), I (p0.turns 46), I (p0.turns 47), I (p0.turns 48), I (p0.turns 49), I (p0.turns 50), I (p0.turns 51), I (p0.turns 52), I (p0.turns 53), I (p0.turns 54), I (p0.turns 55), I (p0.turns 56), I (p0.turns 57), I (p0.turns 58), I (p0.turns 59), I (p0.turns 60), I (p0.turns 61), I (p0.turns 62), I (p0.turns 63), I p0.at_, I p0.steps, I p0.state] rfl ?_
  intro w161 hst
  refine OW.nil rfl (QW.block_normal (QW.next (rg ?_)))
  refine pu 1 [(4, I 1)] (nx (CW.ret ?_))
  have hst := hst.toIt 3 rfl (fun _ => rfl) (by decide)
  have hst := hst.toIt 4 rfl (fun _ => rfl) (by decide)
  obtain ⟨S162, hst⟩ := hst.shutP2 (R_t129 (Pt b2)) rfl 0 3 4 [1, 2] rfl rfl rfl rfl (engine_Machine.mk p0.Event p0.module (aset p0.regs i159 (wu64 p1.Imm)) p0.turns p0.at_ p0.steps p0.state) rfl rfl
  obtain rfl := inj hF
  refine QW.ret1 rfl rfl ?_
  exact ⟨S162, S2, rfl, hst.keep [2, 0] rfl⟩
 refine rg ?_
 refine pu 2 [(146, .bool (p1.Op == 15))] (nx ?_)
 refine br ((p1.Op == 15)) hF (fun hF hc163 => ?_) (fun hF hc163 => ?_)
 ·refine rg ?_
  refine pu 1 [(148, .pointer (some ⟨b5, 1, none⟩))] ?_
  refine OW.ld rfl rfl rfl rfl (by kernel_rfl) (hst.blk 2 rfl rfl) ?_
  refine pu 2 [(4, I (w64 (p1.D + 1)))] (nx (CW.ret (QW.block_ret (QW.then_ret ?_))))
  obtain rfl := inj hF
  refine QW.ret1 rfl rfl ?_
  exact ⟨S0, S2, rfl, hst.keep [0, 1] rfl⟩
 refine rg ?_
 refine pu 2 [(151, .bool (p1.Op == 20))] (nx ?_)
 refine br ((p1.Op == 20)) hF (fun hF hc164 => ?_) (fun hF hc164 => ?_)
 ·refine CW.seq (CW.seq ?_)
  obtain ⟨v165, S166, v167, S168, hst⟩ := hst.openQ2 0 rfl rfl rfl
  have hst := hst.toRow1 3 rfl
  have hst := hst.toRow1 4 rfl
  obtain ⟨l169, a170, c171, rfl⟩ := hst.len 3 rfl
  obtain ⟨l172, a173, c174, rfl⟩ := hst.len 4 rfl
  have hst : St _ _ _ [blkI b1 129 [U p0.Event.A, U p0.Event.B, .slice a170 (p0.module.Maps).length c171, .slice a173 (p0.module.Code).length c174, Pt b2, U (p0.regs 0), U (p0.regs 1), U (p0.regs 2), U (p0.regs 3), U (p0.regs 4), U (p0.regs 5), U (p0.regs 6), U (p0.regs 7), I (p0.turns 0), I (p0.turns 1), I (p0.turns 2), I (p0.turns 3), I (p0.turns 4), I (p0.turns 5), I (p0.turns 6), I (p0.turns 7), I (p0.turns 8), I (p0.turns 9), I (p0.turns 10), I (p0.turns 11), I (p0.turns 12), I (p0.turns 13), I (p0.turns 14), I (p0.turns 15), I (p0.turns 16), I (p0.turns 17), I (p0.turns 18), I (p0.turns 19), I (p0.turns 20), I (p0.turns 21), I (p0.turns 22), I (p0.turns 23), I (p0.turns 24), I (p0.turns 25), I (p0.turns 26), I (p0.turns 27), I (p0.turns 28), I (p0.turns 29), I (p0.turns 30), I (p0.turns 31), I (p0.turns 32), I (p0.turns 33), I (p0.turns 34), I (p0.turns 35), I (p0.turns 36), I (p0.turns 37), I (p0.turns 38), I (p0.turns 39), I (p0.turns 40), I (p0.turns 41), I (p0.turns 42), I (p0.turns 43), I (p0.turns 44), I (p0.turns 45), I (p0.turns 46), I (p0.turns 47), I (p0.turns 48), I (p0.turns 49), I (p0.turns 50), I (p0.turns 51), I (p0.turns 52), I (p0.turns 53), I (p0.turns 54), I (p0.turns 55), I (p0.turns 56), I (p0.turns 57), I (p0.turns 58), I (p0.turns 59), I (p0.turns 60), I (p0.turns 61), I (p0.turns 62), I (p0.turns 63), I p0.at_, I p0.steps, I p0.state], _, _, _, _] := hst
  obtain ⟨o189, ho190, hF⟩ := bs hF
  refine CW.cutK (fun a w1 => ∃ (S188 : List Nat), Rep 199 [(0, Pt b1), (3, Pt b5), (174, .bool o189)] a ∧ St w (fp [itI (R_t69 (Pt b2)) [Pt b1] S0 p0, itI R_t67 [Pt b2] S2 g0]) w1 [itI (R_t69 (Pt b2)) [Pt b1] S188 (engine_Machine.mk p0.Event p0.module p0.regs p0.turns p0.at_ p0.steps p0.state), itI R_t67 [Pt b2] S2 g0, blkI b5 76 [I p1.Op, I p1.D, I p1.A, I p1.B, I p1.Imm]]) ?_ ?_
  ·refine CW.still (by kernel_rfl) (by kernel_rfl) ?_
   intro w191 hch192
   have hst := hst.same hch192
   refine OS.pure 2 [(153, Pt b1), (154, .pointer (some ⟨b5, 2, none⟩))] rfl (by kernel_rfl) ?_
   refine OS.ld rfl rfl rfl rfl rfl (by kernel_rfl) (hst.blk 2 rfl rfl) ?_
   refine OS.pure 2 [(157, .pointer (some ⟨b1, 5, none⟩))] rfl (by kernel_rfl) ?_
   obtain ⟨i193, hi194, ho190⟩ := bs ho190
   refine OS.op (v := .pointer (some ⟨b1, 5 + Int.toNat p1.A * 1, none⟩)) rfl rfl rfl rfl rfl (fun a ha => aidx_run (n := 8) 22 1 rfl rfl rfl (ain_some hi194).1 (ain_some hi194).2.1 (by kernel_rfl) (by kernel_rfl) a _ ha) ?_
   refine OS.ld rfl rfl rfl rfl rfl (by kernel_rfl) (hst.arrB 0 rfl (encInt .u64) (fun _ => rfl) 8 p0.regs 5 rfl rfl hi194 0 _ rfl) ?_
   refine OS.pure 2 [(161, .bool ((p0.regs i193) != 0))] rfl (by kernel_rfl) ?_
   refine OS.split 161 rfl (fun hc195 => ?_) (fun hc195 => ?_)
   ·have ho190 := ite_t ho190 hc195
    refine OS.pure 4 [(162, Pt b1), (165, .pointer (some ⟨b1, 77, none⟩))] rfl (by kernel_rfl) ?_
    refine OS.ld rfl rfl rfl rfl rfl (by kernel_rfl) (hst.blk 0 rfl rfl) ?_
    refine OS.pure 2 [(168, .pointer (some ⟨b1, 13, none⟩))] rfl (by kernel_rfl) ?_
    obtain ⟨i196, hi197, ho190⟩ := bs ho190
    refine OS.op (v := .pointer (some ⟨b1, 13 + Int.toNat p0.at_ * 1, none⟩)) rfl rfl rfl rfl rfl (fun a ha => aidx_run (n := 64) 2 1 rfl rfl rfl (ain_some hi197).1 (ain_some hi197).2.1 (by kernel_rfl) (by kernel_rfl) a _ ha) ?_
    refine OS.ld rfl rfl rfl rfl rfl (by kernel_rfl) (hst.arrB 0 rfl (encInt .i64) (fun _ => rfl) 64 p0.turns 13 rfl rfl hi197 0 _ rfl) ?_
    refine OS.pure 1 [(171, .pointer (some ⟨b5, 4, none⟩))] rfl (by kernel_rfl) ?_
    refine OS.ld rfl rfl rfl rfl rfl (by kernel_rfl) (hst.blk 2 rfl rfl) ?_
    refine OS.pure 2 [(174, .bool (decide ((p0.turns i196) < p1.Imm)))] rfl (by kernel_rfl) ?_
    refine OS.fin rfl ?_
    have hst := hst.toIt 3 rfl (fun _ => rfl) (by decide)
    have hst := hst.toIt 4 rfl (fun _ => rfl) (by decide)
    obtain ⟨S198, hst⟩ := hst.shutP2 (R_t129 (Pt b2)) rfl 0 3 4 [1, 2] rfl rfl rfl rfl (engine_Machine.mk p0.Event p0.module p0.regs p0.turns p0.at_ p0.steps p0.state) rfl rfl
    obtain rfl := inj ho190
    exact QW.meet (fun a ha => ⟨S198, ha.ag, hst.keep [2, 0, 1] rfl⟩)
   have ho190 := ite_f ho190 hc195
   refine OS.pure 13 [(174, .bool false)] rfl (by kernel_rfl) ?_
   refine OS.fin rfl ?_
   have hst := hst.toIt 3 rfl (fun _ => rfl) (by decide)
   have hst := hst.toIt 4 rfl (fun _ => rfl) (by decide)
   obtain ⟨S199, hst⟩ := hst.shutP2 (R_t129 (Pt b2)) rfl 0 3 4 [1, 2] rfl rfl rfl rfl (engine_Machine.mk p0.Event p0.module p0.regs p0.turns p0.at_ p0.steps p0.state) rfl rfl
   obtain rfl := inj ho190
   exact QW.meet (fun a ha => ⟨S199, ha.ag, hst.keep [2, 0, 1] rfl⟩)
  rintro a w1 ⟨S188, ha, hst⟩
  refine CW.go ?_ ha
  refine br (o189) hF (fun hF hc200 => ?_) (fun hF hc200 => ?_)
  ·refine CW.seq ?_
   obtain ⟨v201, S202, v203, S204, hst⟩ := hst.openQ2 0 rfl rfl rfl
   have hst := hst.toRow1 3 rfl
   have hst := hst.toRow1 4 rfl
   obtain ⟨l205, a206, c207, rfl⟩ := hst.len 3 rfl
   obtain ⟨l208, a209, c210, rfl⟩ := hst.len 4 rfl
   have hst : St _ _ _ [blkI b1 129 [U (engine_Machine.mk p0.Event p0.module p0.regs p0.turns p0.at_ p0.steps p0.state).Event.A, U (engine_Machine.mk p0.Event p0.module p0.regs p0.turns p0.at_ p0.steps p0.state).Event.B, .slice a206 ((engine_Machine.mk p0.Event p0.module p0.regs p0.turns p0.at_ p0.steps p0.state).module.Maps).length c207, .slice a209 ((engine_Machine.mk p0.Event p0.module p0.regs p0.turns p0.at_ p0.steps p0.state).module.Code).length c210, Pt b2, U ((engine_Machine.mk p0.Event p0.module p0.regs p0.turns p0.at_ p0.steps p0.state).regs 0), U ((engine_Machine.mk p0.Event p0.module p0.regs p0.turns p0.at_ p0.steps p0.state).regs 1), U ((engine_Machine.mk p0.Event p0.module p0.regs p0.turns p0.at_ p0.steps p0.state).regs 2), U ((engine_Machine.mk p0.Event p0.module p0.regs p0.turns p0.at_ p0.steps p0.state).regs 3), U ((engine_Machine.mk p0.Event p0.module p0.regs p0.turns p0.at_ p0.steps p0.state).regs 4), U ((engine_Machine.mk p0.Event p0.module p0.regs p0.turns p0.at_ p0.steps p0.state).regs 5), U ((engine_Machine.mk p0.Event p0.module p0.regs p0.turns p0.at_ p0.steps p0.state).regs 6), U ((engine_Machine.mk p0.Event p0.module p0.regs p0.turns p0.at_ p0.steps p0.state).regs 7), I ((engine_Machine.mk p0.Event p0.module p0.regs p0.turns p0.at_ p0.steps p0.state).turns 0), I ((engine_Machine.mk p0.Event p0.module p0.regs p0.turns p0.at_ p0.steps p0.state).turns 1), I ((engine_Machine.mk p0.Event p0.module p0.regs p0.turns p0.at_ p0.steps p0.state).turns 2), I ((engine_Machine.mk p0.Event p0.module p0.regs p0.turns p0.at_ p0.steps p0.state).turns 3), I ((engine_Machine.mk p0.Event p0.module p0.regs p0.turns p0.at_ p0.steps p0.state).turns 4), I ((engine_Machine.mk p0.Event p0.module p0.regs p0.turns p0.at_ p0.steps p0.state).turns 5), I ((engine_Machine.mk p0.Event p0.module p0.regs p0.turns p0.at_ p0.steps p0.state).turns 6), I ((engine_Machine.mk p0.Event p0.module p0.regs p0.turns p0.at_ p0.steps p0.state).turns 7), I ((engine_Machine.mk p0.Event p0.module p0.regs p0.turns p0.at_ p0.steps p0.state).turns 8), I ((engine_Machine.mk p0.Event p0.module p0.regs p0.turns p0.at_ p0.steps p0.state).turns 9), I ((engine_Machine.mk p0.Event p0.module p0.regs p0.turns p0.at_ p0.steps p0.state).turns 10), I ((engine_Machine.mk p0.Event p0.module p0.regs p0.turns p0.at_ p0.steps p0.state).turns 11), I ((engine_Machine.mk p0.Event p0.module p0.regs p0.turns p0.at_ p0.steps p0.state).turns 12), I ((engine_Machine.mk p0.Event p0.module p0.regs p0.turns p0.at_ p0.steps p0.state).turns 13), I ((engine_Machine.mk p0.Event p0.module p0.regs p0.turns p0.at_ p0.steps p0.state).turns 14), I ((engine_Machine.mk p0.Event p0.module p0.regs p0.turns p0.at_ p0.steps p0.state).turns 15), I ((engine_Machine.mk p0.Event p0.module p0.regs p0.turns p0.at_ p0.steps p0.state).turns 16), I ((engine_Machine.mk p0.Event p0.module p0.regs p0.turns p0.at_ p0.steps p0.state).turns 17), I ((engine_Machine.mk p0.Event p0.module p0.regs p0.turns p0.at_ p0.steps p0.state).turns 18), I ((engine_Machine.mk p0.Event p0.module p0.regs p0.turns p0.at_ p0.steps p0.state).turns 19), I ((engine_Machine.mk p0.Event p0.module p0.regs p0.turns p0.at_ p0.steps p0.state).turns 20), I ((engine_Machine.mk p0.Event p0.module p0.regs p0.turns p0.at_ p0.steps p0.state).turns 21), I ((engine_Machine.mk p0.Event p0.module p0.regs p0.turns p0.at_ p0.steps p0.state).turns 22), I ((engine_Machine.mk p0.Event p0.module p0.regs p0.turns p0.at_ p0.steps p0.state).turns 23), I ((engine_Machine.mk p0.Event p0.module p0.regs p0.turns p0.at_ p0.steps p0.state).turns 24), I ((engine_Machine.mk p0.Event p0.module p0.regs p0.turns p0.at_ p0.steps p0.state).turns 25), I ((engine_Machine.mk p0.Event p0.module p0.regs p0.turns p0.at_ p0.steps p0.state).turns 26), I ((engine_Machine.mk p0.Event p0.module p0.regs p0.turns p0.at_ p0.steps p0.state).turns 27), I ((engine_Machine.mk p0.Event p0.module p0.regs p0.turns p0.at_ p0.steps p0.state).turns 28), I ((engine_Machine.mk p0.Event p0.module p0.regs p0.turns p0.at_ p0.steps p0.state).turns 29), I ((engine_Machine.mk p0.Event p0.module p0.regs p0.turns p0.at_ p0.steps p0.state).turns 30), I ((engine_Machine.mk p0.Event p0.module p0.regs p0.turns p0.at_ p0.steps p0.state).turns 31), I ((engine_Machine.mk p0.Event p0.module p0.regs p0.turns p0.at_ p0.steps p0.state).turns 32), I ((engine_Machine.mk p0.Event p0.module p0.regs p0.turns p0.at_ p0.steps p0.state).turns 33), I ((engine_Machine.mk p0.Event p0.module p0.regs p0.turns p0.at_ p0.steps p0.state).turns 34), I ((engine_Machine.mk p0.Event p0.module p0.regs p0.turns p0.at_ p0.steps p0.state).turns 35), I ((engine_Machine.mk p0.Event p0.module p0.regs p0.turns p0.at_ p0.steps p0.state).turns 36), I ((engine_Machine.mk p0.Event p0.module p0.regs p0.turns p0.at_ p0.steps p0.state).turns 37), I ((engine_Machine.mk p0.Event p0.module p0.regs p0.turns p0.at_ p0.steps p0.state).turns 38), I ((engine_Machine.mk p0.Event p0.module p0.regs p0.turns p0.at_ p0.steps p0.state).turns 39), I ((engine_Machine.mk p0.Event p0.module p0.regs p0.turns p0.at_ p0.steps p0.state).turns 40), I ((engine_Machine.mk p0.Event p0.module p0.regs p0.turns p0.at_ p0.steps p0.state).turns 41), I ((engine_Machine.mk p0.Event p0.module p0.regs p0.turns p0.at_ p0.steps p0.state).turns 42), I ((engine_Machine.mk p0.Event p0.module p0.regs p0.turns p0.at_ p0.steps p0.state).turns 43), I ((engine_Machine.mk p0.Event p0.module p0.regs p0.turns p0.at_ p0.steps p0.state).turns 44), I ((engine_Machine.mk p0.Event p0.module p0.regs p0.turns p0.at_ p0.steps p0.state).turns 45), I ((engine_Machine.mk p0.Event p0.module p0.regs p0.turns p0.at_ p0.steps p0.state).turns 46), I ((engine_Machine.mk p0.Event p0.module p0.regs p0.turns p0.at_ p0.steps p0.state).turns 47), I ((engine_Machine.mk p0.Event p0.module p0.regs p0.turns p0.at_ p0.steps p0.state).turns 48), I ((engine_Machine.mk p0.Event p0.module p0.regs p0.turns p0.at_ p0.steps p0.state).turns 49), I ((engine_Machine.mk p0.Event p0.module p0.regs p0.turns p0.at_ p0.steps p0.state).turns 50), I ((engine_Machine.mk p0.Event p0.module p0.regs p0.turns p0.at_ p0.steps p0.state).turns 51), I ((engine_Machine.mk p0.Event p0.module p0.regs p0.turns p0.at_ p0.steps p0.state).turns 52), I ((engine_Machine.mk p0.Event p0.module p0.regs p0.turns p0.at_ p0.steps p0.state).turns 53), I ((engine_Machine.mk p0.Event p0.module p0.regs p0.turns p0.at_ p0.steps p0.state).turns 54), I ((engine_Machine.mk p0.Event p0.module p0.regs p0.turns p0.at_ p0.steps p0.state).turns 55), I ((engine_Machine.mk p0.Event p0.module p0.regs p0.turns p0.at_ p0.steps p0.state).turns 56), I ((engine_Machine.mk p0.Event p0.module p0.regs p0.turns p0.at_ p0.steps p0.state).turns 57), I ((engine_Machine.mk p0.Event p0.module p0.regs p0.turns p0.at_ p0.steps p0.state).turns 58), I ((engine_Machine.mk p0.Event p0.module p0.regs p0.turns p0.at_ p0.steps p0.state).turns 59), I ((engine_Machine.mk p0.Event p0.module p0.regs p0.turns p0.at_ p0.steps p0.state).turns 60), I ((engine_Machine.mk p0.Event p0.module p0.regs p0.turns p0.at_ p0.steps p0.state).turns 61), I ((engine_Machine.mk p0.Event p0.module p0.regs p0.turns p0.at_ p0.steps p0.state).turns 62), I ((engine_Machine.mk p0.Event p0.module p0.regs p0.turns p0.at_ p0.steps p0.state).turns 63), I (engine_Machine.mk p0.Event p0.module p0.regs p0.turns p0.at_ p0.steps p0.state).at_, I (engine_Machine.mk p0.Event p0.module p0.regs p0.turns p0.at_ p0.steps p0.state).steps, I (engine_Machine.mk p0.Event p0.module p0.regs p0.turns p0.at_ p0.steps p0.state).state], _, _, _, _] := hst
   refine CW.tail 13 (by kernel_rfl) (by kernel_rfl) ?_
   intro w216 hch217
   have hst := hst.same hch217
   refine OS.pure 4 [(175, Pt b1), (178, .pointer (some ⟨b1, 77, none⟩))] rfl (by kernel_rfl) ?_
   refine OS.ld rfl rfl rfl rfl rfl (by kernel_rfl) (hst.blk 0 rfl rfl) ?_
   refine OS.pure 2 [(181, .pointer (some ⟨b1, 13, none⟩))] rfl (by kernel_rfl) ?_
   obtain ⟨i218, hi219, hF⟩ := bs hF
   refine OS.op (v := .pointer (some ⟨b1, 13 + Int.toNat (engine_Machine.mk p0.Event p0.module p0.regs p0.turns p0.at_ p0.steps p0.state).at_ * 1, none⟩)) rfl rfl rfl rfl rfl (fun a ha => aidx_run (n := 64) 2 1 rfl rfl rfl (ain_some hi219).1 (ain_some hi219).2.1 (by kernel_rfl) (by kernel_rfl) a _ ha) ?_
   refine OS.ld rfl rfl rfl rfl rfl (by kernel_rfl) (hst.arrB 0 rfl (encInt .i64) (fun _ => rfl) 64 (engine_Machine.mk p0.Event p0.module p0.regs p0.turns p0.at_ p0.steps p0.state).turns 13 rfl rfl hi219 0 _ rfl) ?_
   refine OS.pure 3 [(184, I (w64 (((engine_Machine.mk p0.Event p0.module p0.regs p0.turns p0.at_ p0.steps p0.state).turns i218) + 1))), (186, .pointer (some ⟨b1, 13, none⟩))] rfl (by kernel_rfl) ?_
   refine OS.op (v := .pointer (some ⟨b1, 13 + Int.toNat (engine_Machine.mk p0.Event p0.module p0.regs p0.turns p0.at_ p0.steps p0.state).at_ * 1, none⟩)) rfl rfl rfl rfl rfl (fun a ha => aidx_run (n := 64) 2 1 rfl rfl rfl (ain_some hi219).1 (ain_some hi219).2.1 (by kernel_rfl) (by kernel_rfl) a _ ha) ?_
   refine OS.on ?_
   refine OW.stA hst 0 rfl rfl rfl rfl rfl (by kernel_rfl) rfl (encInt .i64) (fun _ => rfl) 64 (engine_Machine.mk p0.Event p0.module p0.regs p0.turns p0.at_ p0.steps p0.state).turns 13 rfl rfl hi219 0 rfl rfl (w64 (((engine_Machine.mk p0.Event p0.module p0.regs p0.turns p0.at_ p0.steps p0.state).turns i218) + 1)) rfl [U (engine_Machine.mk p0.Event p0.module p0.regs p0.turns p0.at_ p0.steps p0.state).Event.A, U (engine_Machine.mk p0.Event p0.module p0.regs p0.turns p0.at_ p0.steps p0.state).Event.B, .slice a206 ((engine_Machine.mk p0.Event p0.module p0.regs p0.turns p0.at_ p0.steps p0.state).module.Maps).length c207, .slice a209 ((engine_Machine.mk p0.Event p0.module p0.regs p0.turns p0.at_ p0.steps p0.state).module.Code).length c210, Pt b2, U ((engine_Machine.mk p0.Event p0.module p0.regs p0.turns p0.at_ p0.steps p0.state).regs 0), U ((engine_Machine.mk p0.Event p0.module p0.regs p0.turns p0.at_ p0.steps p0.state).regs 1), U ((engine_Machine.mk p0.Event p0.module p0.regs p0.turns p0.at_ p0.steps p0.state).regs 2), U ((engine_Machine.mk p0.Event p0.module p0.regs p0.turns p0.at_ p0.steps p0.state).regs 3), U ((engine_Machine.mk p0.Event p0.module p0.regs p0.turns p0.at_ p0.steps p0.state).regs 4), U ((engine_Machine.mk p0.Event p0.module p0.regs p0.turns p0.at_ p0.steps p0.state).regs 5), U ((engine_Machine.mk p0.Event p0.module p0.regs p0.turns p0.at_ p0.steps p0.state).regs 6), U ((engine_Machine.mk p0.Event p0.module p0.regs p0.turns p0.at_ p0.steps p0.state).regs 7), I ((aset (engine_Machine.mk p0.Event p0.module p0.regs p0.turns p0.at_ p0.steps p0.state).turns i218 (w64 (((engine_Machine.mk p0.Event p0.module p0.regs p0.turns p0.at_ p0.steps p0.state).turns i218) + 1))) 0), I ((aset (engine_Machine.mk p0.Event p0.module p0.regs p0.turns p0.at_ p0.steps p0.state).turns i218 (w64 (((engine_Machine.mk p0.Event p0.module p0.regs p0.turns p0.at_ p0.steps p0.state).turns i218) + 1))) 1), I ((aset (engine_Machine.mk p0.Event p0.module p0.regs p0.turns p0.at_ p0.steps p0.state).turns i218 (w64 (((engine_Machine.mk p0.Event p0.module p0.regs p0.turns p0.at_ p0.steps p0.state).turns i218) + 1))) 2), I ((aset (engine_Machine.mk p0.Event p0.module p0.regs p0.turns p0.at_ p0.steps p0.state).turns i218 (w64 (((engine_Machine.mk p0.Event p0.module p0.regs p0.turns p0.at_ p0.steps p0.state).turns i218) + 1))) 3), I ((aset (engine_Machine.mk p0.Event p0.module p0.regs p0.turns p0.at_ p0.steps p0.state).turns i218 (w64 (((engine_Machine.mk p0.Event p0.module p0.regs p0.turns p0.at_ p0.steps p0.state).turns i218) + 1))) 4), I ((aset (engine_Machine.mk p0.Event p0.module p0.regs p0.turns p0.at_ p0.steps p0.state).turns i218 (w64 (((engine_Machine.mk p0.Event p0.module p0.regs p0.turns p0.at_ p0.steps p0.state).turns i218) + 1))) 5), I ((aset (engine_Machine.mk p0.Event p0.module p0.regs p0.turns p0.at_ p0.steps p0.state).turns i218 (w64 (((engine_Machine.mk p0.Event p0.module p0.regs p0.turns p0.at_ p0.steps p0.state).turns i218) + 1))) 6), I ((aset (engine_Machine.mk p0.Event p0.module p0.regs p0.turns p0.at_ p0.steps p0.state).turns i218 (w64 (((engine_Machine.mk p0.Event p0.module p0.regs p0.turns p0.at_ p0.steps p0.state).turns i218) + 1))) 7), I ((aset (engine_Machine.mk p0.Event p0.module p0.regs p0.turns p0.at_ p0.steps p0.state).turns i218 (w64 (((engine_Machine.mk p0.Event p0.module p0.regs p0.turns p0.at_ p0.steps p0.state).turns i218) + 1))) 8), I ((aset (engine_Machine.mk p0.Event p0.module p0.regs p0.turns p0.at_ p0.steps p0.state).turns i218 (w64 (((engine_Machine.mk p0.Event p0.module p0.regs p0.turns p0.at_ p0.steps p0.state).turns i218) + 1))) 9), I ((aset (engine_Machine.mk p0.Event p0.module p0.regs p0.turns p0.at_ p0.steps p0.state).turns i218 (w64 (((engine_Machine.mk p0.Event p0.module p0.regs p0.turns p0.at_ p0.steps p0.state).turns i218) + 1))) 10), I ((aset (engine_Machine.mk p0.Event p0.module p0.regs p0.turns p0.at_ p0.steps p0.state).turns i218 (w64 (((engine_Machine.mk p0.Event p0.module p0.regs p0.turns p0.at_ p0.steps p0.state).turns i218) + 1))) 11), I ((aset (engine_Machine.mk p0.Event p0.module p0.regs p0.turns p0.at_ p0.steps p0.state).turns i218 (w64 (((engine_Machine.mk p0.Event p0.module p0.regs p0.turns p0.at_ p0.steps p0.state).turns i218) + 1))) 12), I ((aset (engine_Machine.mk p0.Event p0.module p0.regs p0.turns p0.at_ p0.steps p0.state).turns i218 (w64 (((engine_Machine.mk p0.Event p0.module p0.regs p0.turns p0.at_ p0.steps p0.state).turns i218) + 1))) 13), I ((aset (engine_Machine.mk p0.Event p0.module p0.regs p0.turns p0.at_ p0.steps p0.state).turns i218 (w64 (((engine_Machine.mk p0.Event p0.module p0.regs p0.turns p0.at_ p0.steps p0.state).turns i218) + 1))) 14), I ((aset (engine_Machine.mk p0.Event p0.module p0.regs p0.turns p0.at_ p0.steps p0.state).turns i218 (w64 (((engine_Machine.mk p0.Event p0.module p0.regs p0.turns p0.at_ p0.steps p0.state).turns i218) + 1))) 15), I ((aset (engine_Machine.mk p0.Event p0.module p0.regs p0.turns p0.at_ p0.steps p0.state).turns i218 (w64 (((engine_Machine.mk p0.Event p0.module p0.regs p0.turns p0.at_ p0.steps p0.state).turns i218) + 1))) 16), I ((aset (engine_Machine.mk p0.Event p0.module p0.regs p0.turns p0.at_ p0.steps p0.state).turns i218 (w64 (((engine_Machine.mk p0.Event p0.module p0.regs p0.turns p0.at_ p0.steps p0.state).turns i218) + 1))) 17), I ((aset (engine_Machine.mk p0.Event p0.module p0.regs p0.turns p0.at_ p0.steps p0.state).turns i218 (w64 (((engine_Machine.mk p0.Event p0.module p0.regs p0.turns p0.at_ p0.steps p0.state).turns i218) + 1))) 18), I ((aset (engine_Machine.mk p0.Event p0.module p0.regs p0.turns p0.at_ p0.steps p0.state).turns i218 (w64 (((engine_Machine.mk p0.Event p0.module p0.regs p0.turns p0.at_ p0.steps p0.state).turns i218) + 1))) 19), I ((aset (engine_Machine.mk p0.Event p0.module p0.regs p0.turns p0.at_ p0.steps p0.state).turns i218 (w64 (((engine_Machine.mk p0.Event p0.module p0.regs p0.turns p0.at_ p0.steps p0.state).turns i218) + 1))) 20), I ((aset (engine_Machine.mk p0.Event p0.module p0.regs p0.turns p0.at_ p0.steps p0.state).turns i218 (w64 (((engine_Machine.mk p0.Event p0.module p0.regs p0.turns p0.at_ p0.steps p0.state).turns i218) + 1))) 21), I ((aset (engine_Machine.mk p0.Event p0.module p0.regs p0.turns p0.at_ p0.steps p0.state).turns i218 (w64 (((engine_Machine.mk p0.Event p0.module p0.regs p0.turns p0.at_ p0.steps p0.state).turns i218) + 1))) 22), I ((aset (engine_Machine.mk p0.Event p0.module p0.regs p0.turns p0.at_ p0.steps p0.state).turns i218 (w64 (((engine_Machine.mk p0.Event p0.module p0.regs p0.turns p0.at_ p0.steps p0.state).turns i218) + 1))) 23), I ((aset (engine_Machine.mk p0.Event p0.module p0.regs p0.turns p0.at_ p0.steps p0.state).turns i218 (w64 (((engine_Machine.mk p0.Event p0.module p0.regs p0.turns p0.at_ p0.steps p0.state).turns i218) + 1))) 24), I ((aset (engine_Machine.mk p0.Event p0.module p0.regs p0.turns p0.at_ p0.steps p0.state).turns i218 (w64 (((engine_Machine.mk p0.Event p0.module p0.regs p0.turns p0.at_ p0.steps p0.state).turns i218) + 1))) 25), I ((aset (engine_Machine.mk p0.Event p0.module p0.regs p0.turns p0.at_ p0.steps p0.state).turns i218 (w64 (((engine_Machine.mk p0.Event p0.module p0.regs p0.turns p0.at_ p0.steps p0.state).turns i218) + 1))) 26), I ((aset (engine_Machine.mk p0.Event p0.module p0.regs p0.turns p0.at_ p0.steps p0.state).turns i218 (w64 (((engine_Machine.mk p0.Event p0.module p0.regs p0.turns p0.at_ p0.steps p0.state).turns i218) + 1))) 27), I ((aset (engine_Machine.mk p0.Event p0.module p0.regs p0.turns p0.at_ p0.steps p0.state).turns i218 (w64 (((engine_Machine.mk p0.Event p0.module p0.regs p0.turns p0.at_ p0.steps p0.state).turns i218) + 1))) 28), I ((aset (engine_Machine.mk p0.Event p0.module p0.regs p0.turns p0.at_ p0.steps p0.state).turns i218 (w64 (((engine_Machine.mk p0.Event p0.module p0.regs p0.turns p0.at_ p0.steps p0.state).turns i218) + 1))) 29), I ((aset (engine_Machine.mk p0.Event p0.module p0.regs p0.turns p0.at_ p0.steps p0.state).turns i218 (w64 (((engine_Machine.mk p0.Event p0.module p0.regs p0.turns p0.at_ p0.steps p0.state).turns i218) + 1))) 30), I ((aset (engine_Machine.mk p0.Event p0.module p0.regs p0.turns p0.at_ p0.steps p0.state).turns i218 (w64 (((engine_Machine.mk p0.Event p0.module p0.regs p0.turns p0.at_ p0.steps p0.state).turns i218) + 1))) 31), I ((aset (engine_Machine.mk p0.Event p0.module p0.regs p0.turns p0.at_ p0.steps p0.state).turns i218 (w64 (((engine_Machine.mk p0.Event p0.module p0.regs p0.turns p0.at_ p0.steps p0.state).turns i218) + 1))) 32), I ((aset (engine_Machine.mk p0.Event p0.module p0.regs p0.turns p0.at_ p0.steps p0.state).turns i218 (w64 (((engine_Machine.mk p0.Event p0.module p0.regs p0.turns p0.at_ p0.steps p0.state).turns i218) + 1))) 33), I ((aset (engine_Machine.mk p0.Event p0.module p0.regs p0.turns p0.at_ p0.steps p0.state).turns i218 (w64 (((engine_Machine.mk p0.Event p0.module p0.regs p0.turns p0.at_ p0.steps p0.state).turns i218) + 1))) 34), I ((aset (engine_Machine.mk p0.Event p0.module p0.regs p0.turns p0.at_ p0.steps p0.state).turns i218 (w64 (((engine_Machine.mk p0.Event p0.module p0.regs p0.turns p0.at_ p0.steps p0.state).turns i218) + 1))) 35), I ((aset (engine_Machine.mk p0.Event p0.module p0.regs p0.turns p0.at_ p0.steps p0.state).turns i218 (w64 (((engine_Machine.mk p0.Event p0.module p0.regs p0.turns p0.at_ p0.steps p0.state).turns i218) + 1))) 36), I ((aset (engine_Machine.mk p0.Event p0.module p0.regs p0.turns p0.at_ p0.steps p0.state).turns i218 (w64 (((engine_Machine.mk p0.Event p0.module p0.regs p0.turns p0.at_ p0.steps p0.state).turns i218) + 1))) 37), I ((aset (engine_Machine.mk p0.Event p0.module p0.regs p0.turns p0.at_ p0.steps p0.state).turns i218 (w64 (((engine_Machine.mk p0.Event p0.module p0.regs p0.turns p0.at_ p0.steps p0.state).turns i218) + 1))) 38), I ((aset (engine_Machine.mk p0.Event p0.module p0.regs p0.turns p0.at_ p0.steps p0.state).turns i218 (w64 (((engine_Machine.mk p0.Event p0.module p0.regs p0.turns p0.at_ p0.steps p0.state).turns i218) + 1))) 39), I ((aset (engine_Machine.mk p0.Event p0.module p0.regs p0.turns p0.at_ p0.steps p0.state).turns i218 (w64 (((engine_Machine.mk p0.Event p0.module p0.regs p0.turns p0.at_ p0.steps p0.state).turns i218) + 1))) 40), I ((aset (engine_Machine.mk p0.Event p0.module p0.regs p0.turns p0.at_ p0.steps p0.state).turns i218 (w64 (((engine_Machine.mk p0.Event p0.module p0.regs p0.turns p0.at_ p0.steps p0.state).turns i218) + 1))) 41), I ((aset (engine_Machine.mk p0.Event p0.module p0.regs p0.turns p0.at_ p0.steps p0.state).turns i218 (w64 (((engine_Machine.mk p0.Event p0.module p0.regs p0.turns p0.at_ p0.steps p0.state).turns i218) + 1))) 42), I ((aset (engine_Machine.mk p0.Event p0.module p0.regs p0.turns p0.at_ p0.steps p0.state).turns i218 (w64 (((engine_Machine.mk p0.Event p0.module p0.regs p0.turns p0.at_ p0.steps p0.state).turns i218) + 1))) 43), I ((aset (engine_Machine.mk p0.Event p0.module p0.regs p0.turns p0.at_ p0.steps p0.state).turns i218 (w64 (((engine_Machine.mk p0.Event p0.module p0.regs p0.turns p0.at_ p0.steps p0.state).turns i218) + 1))) 44), I ((aset (engine_Machine.mk p0.Event p0.module p0.regs p0.turns p0.at_ p0.steps p0.state).turns i218 (w64 (((engine_Machine.mk p0.Event p0.module p0.regs p0.turns p0.at_ p0.steps p0.state).turns i218) + 1))) 45), I ((aset (engine_Machine.mk p0.Event p0.module p0.regs p0.turns p0.at_ p0.steps p0.state).turns i218 (w64 (((engine_Machine.mk p0.Event p0.module p0.regs p0.turns p0.at_ p0.steps p0.state).turns i218) + 1))) 46), I ((aset (engine_Machine.mk p0.Event p0.module p0.regs p0.turns p0.at_ p0.steps p0.state).turns i218 (w64 (((engine_Machine.mk p0.Event p0.module p0.regs p0.turns p0.at_ p0.steps p0.state).turns i218) + 1))) 47), I ((aset (engine_Machine.mk p0.Event p0.module p0.regs p0.turns p0.at_ p0.steps p0.state).turns i218 (w64 (((engine_Machine.mk p0.Event p0.module p0.regs p0.turns p0.at_ p0.steps p0.state).turns i218) + 1))) 48), I ((aset (engine_Machine.mk p0.Event p0.module p0.regs p0.turns p0.at_ p0.steps p0.state).turns i218 (w64 (((engine_Machine.mk p0.Event p0.module p0.regs p0.turns p0.at_ p0.steps p0.state).turns i218) + 1))) 49), I ((aset (engine_Machine.mk p0.Event p0.module p0.regs p0.turns p0.at_ p0.steps p0.state).turns i218 (w64 (((engine_Machine.mk p0.Event p0.module p0.regs p0.turns p0.at_ p0.steps p0.state).turns i218) + 1))) 50), I ((aset (engine_Machine.mk p0.Event p0.module p0.regs p0.turns p0.at_ p0.steps p0.state).turns i218 (w64 (((engine_Machine.mk p0.Event p0.module p0.regs p0.turns p0.at_ p0.steps p0.state).turns i218) + 1))) 51), I ((aset (engine_Machine.mk p0.Event p0.module p0.regs p0.turns p0.at_ p0.steps p0.state).turns i218 (w64 (((engine_Machine.mk p0.Event p0.module p0.regs p0.turns p0.at_ p0.steps p0.state).turns i218) + 1))) 52), I ((aset (engine_Machine.mk p0.Event p0.module p0.regs p0.turns p0.at_ p0.steps p0.state).turns i218 (w64 (((engine_Machine.mk p0.Event p0.module p0.regs p0.turns p0.at_ p0.steps p0.state).turns i218) + 1))) 53), I ((aset (engine_Machine.mk p0.Event p0.module p0.regs p0.turns p0.at_ p0.steps p0.state).turns i218 (w64 (((engine_Machine.mk p0.Event p0.module p0.regs p0.turns p0.at_ p0.steps p0.state).turns i218) + 1))) 54), I ((aset (engine_Machine.mk p0.Event p0.module p0.regs p0.turns p0.at_ p0.steps p0.state).turns i218 (w64 (((engine_Machine.mk p0.Event p0.module p0.regs p0.turns p0.at_ p0.steps p0.state).turns i218) + 1))) 55), I ((aset (engine_Machine.mk p0.Event p0.module p0.regs p0.turns p0.at_ p0.steps p0.state).turns i218 (w64 (((engine_Machine.mk p0.Event p0.module p0.regs p0.turns p0.at_ p0.steps p0.state).turns i218) + 1))) 56), I ((aset (engine_Machine.mk p0.Event p0.module p0.regs p0.turns p0.at_ p0.steps p0.state).turns i218 (w64 (((engine_Machine.mk p0.Event p0.module p0.regs p0.turns p0.at_ p0.steps p0.state).turns i218) + 1))) 57), I ((aset (engine_Machine.mk p0.Event p0.module p0.regs p0.turns p0.at_ p0.steps p0.state).turns i218 (w64 (((engine_Machine.mk p0.Event p0.module p0.regs p0.turns p0.at_ p0.steps p0.state).turns i218) + 1))) 58), I ((aset (engine_Machine.mk p0.Event p0.module p0.regs p0.turns p0.at_ p0.steps p0.state).turns i218 (w64 (((engine_Machine.mk p0.Event p0.module p0.regs p0.turns p0.at_ p0.steps p0.state).turns i218) + 1))) 59), I ((aset (engine_Machine.mk p0.Event p0.module p0.regs p0.turns p0.at_ p0.steps p0.state).turns i218 (w64 (((engine_Machine.mk p0.Event p0.module p0.regs p0.turns p0.at_ p0.steps p0.state).turns i218) + 1))) 60), I ((aset (engine_Machine.mk p0.Event p0.module p0.regs p0.turns p0.at_ p0.steps p0.state).turns i218 (w64 (((engine_Machine.mk p0.Event p0.module p0.regs p0.turns p0.at_ p0.steps p0.state).turns i218) + 1))) 61), I ((aset (engine_Machine.mk p0.Event p0.module p0.regs p0.turns p0.at_ p0.steps p0.state).turns i218 (w64 (((engine_Machine.mk p0.Event p0.module p0.regs p0.turns p0.at_ p0.steps p0.state).turns i218) + 1))) 62), I ((aset (engine_Machine.mk p0.Event p0.module p0.regs p0.turns p0.at_ p0.steps p0.state).turns i218 (w64 (((engine_Machine.mk p0.Event p0.module p0.regs p0.turns p0.at_ p0.steps p0.state).turns i218) + 1))) 63), I (engine_Machine.mk p0.Event p0.module p0.regs p0.turns p0.at_ p0.steps p0.state).at_, I (engine_Machine.mk p0.Event p0.module p0.regs p0.turns p0.at_ p0.steps p0.state).steps, I (engine_Machine.mk p0.Event p0.module p0.regs p0.turns p0.at_ p0.steps p0.state).state] rfl ?_
   intro w220 hst
   refine nx (rg ?_)
   refine pu 1 [(188, .pointer (some ⟨b5, 1, none⟩))] ?_
   refine OW.ld rfl rfl rfl rfl (by kernel_rfl) (hst.blk 2 rfl rfl) ?_
   refine pu 2 [(4, I (w64 (0 - p1.D)))] (nx (CW.ret (QW.then_ret (QW.block_ret (QW.then_ret ?_)))))
   have hst := hst.toIt 3 rfl (fun _ => rfl) (by decide)
   have hst := hst.toIt 4 rfl (fun _ => rfl) (by decide)
   obtain ⟨S221, hst⟩ := hst.shutP2 (R_t129 (Pt b2)) rfl 0 3 4 [1, 2] rfl rfl rfl rfl (engine_Machine.mk (engine_Machine.mk p0.Event p0.module p0.regs p0.turns p0.at_ p0.steps p0.state).Event (engine_Machine.mk p0.Event p0.module p0.regs p0.turns p0.at_ p0.steps p0.state).module (engine_Machine.mk p0.Event p0.module p0.regs p0.turns p0.at_ p0.steps p0.state).regs (aset (engine_Machine.mk p0.Event p0.module p0.regs p0.turns p0.at_ p0.steps p0.state).turns i218 (w64 (((engine_Machine.mk p0.Event p0.module p0.regs p0.turns p0.at_ p0.steps p0.state).turns i218) + 1))) (engine_Machine.mk p0.Event p0.module p0.regs p0.turns p0.at_ p0.steps p0.state).at_ (engine_Machine.mk p0.Event p0.module p0.regs p0.turns p0.at_ p0.steps p0.state).steps (engine_Machine.mk p0.Event p0.module p0.regs p0.turns p0.at_ p0.steps p0.state).state) rfl rfl
   obtain rfl := inj hF
   refine QW.ret1 rfl rfl ?_
   exact ⟨S221, S2, rfl, hst.keep [2, 0] rfl⟩
  refine CW.skip (QW.next ?_)
  obtain ⟨v222, S223, v224, S225, hst⟩ := hst.openQ2 0 rfl rfl rfl
  have hst := hst.toRow1 3 rfl
  have hst := hst.toRow1 4 rfl
  obtain ⟨l226, a227, c228, rfl⟩ := hst.len 3 rfl
  obtain ⟨l229, a230, c231, rfl⟩ := hst.len 4 rfl
  have hst : St _ _ _ [blkI b1 129 [U (engine_Machine.mk p0.Event p0.module p0.regs p0.turns p0.at_ p0.steps p0.state).Event.A, U (engine_Machine.mk p0.Event p0.module p0.regs p0.turns p0.at_ p0.steps p0.state).Event.B, .slice a227 ((engine_Machine.mk p0.Event p0.module p0.regs p0.turns p0.at_ p0.steps p0.state).module.Maps).length c228, .slice a230 ((engine_Machine.mk p0.Event p0.module p0.regs p0.turns p0.at_ p0.steps p0.state).module.Code).length c231, Pt b2, U ((engine_Machine.mk p0.Event p0.module p0.regs p0.turns p0.at_ p0.steps p0.state).regs 0), U ((engine_Machine.mk p0.Event p0.module p0.regs p0.turns p0.at_ p0.steps p0.state).regs 1), U ((engine_Machine.mk p0.Event p0.module p0.regs p0.turns p0.at_ p0.steps p0.state).regs 2), U ((engine_Machine.mk p0.Event p0.module p0.regs p0.turns p0.at_ p0.steps p0.state).regs 3), U ((engine_Machine.mk p0.Event p0.module p0.regs p0.turns p0.at_ p0.steps p0.state).regs 4), U ((engine_Machine.mk p0.Event p0.module p0.regs p0.turns p0.at_ p0.steps p0.state).regs 5), U ((engine_Machine.mk p0.Event p0.module p0.regs p0.turns p0.at_ p0.steps p0.state).regs 6), U ((engine_Machine.mk p0.Event p0.module p0.regs p0.turns p0.at_ p0.steps p0.state).regs 7), I ((engine_Machine.mk p0.Event p0.module p0.regs p0.turns p0.at_ p0.steps p0.state).turns 0), I ((engine_Machine.mk p0.Event p0.module p0.regs p0.turns p0.at_ p0.steps p0.state).turns 1), I ((engine_Machine.mk p0.Event p0.module p0.regs p0.turns p0.at_ p0.steps p0.state).turns 2), I ((engine_Machine.mk p0.Event p0.module p0.regs p0.turns p0.at_ p0.steps p0.state).turns 3), I ((engine_Machine.mk p0.Event p0.module p0.regs p0.turns p0.at_ p0.steps p0.state).turns 4), I ((engine_Machine.mk p0.Event p0.module p0.regs p0.turns p0.at_ p0.steps p0.state).turns 5), I ((engine_Machine.mk p0.Event p0.module p0.regs p0.turns p0.at_ p0.steps p0.state).turns 6), I ((engine_Machine.mk p0.Event p0.module p0.regs p0.turns p0.at_ p0.steps p0.state).turns 7), I ((engine_Machine.mk p0.Event p0.module p0.regs p0.turns p0.at_ p0.steps p0.state).turns 8), I ((engine_Machine.mk p0.Event p0.module p0.regs p0.turns p0.at_ p0.steps p0.state).turns 9), I ((engine_Machine.mk p0.Event p0.module p0.regs p0.turns p0.at_ p0.steps p0.state).turns 10), I ((engine_Machine.mk p0.Event p0.module p0.regs p0.turns p0.at_ p0.steps p0.state).turns 11), I ((engine_Machine.mk p0.Event p0.module p0.regs p0.turns p0.at_ p0.steps p0.state).turns 12), I ((engine_Machine.mk p0.Event p0.module p0.regs p0.turns p0.at_ p0.steps p0.state).turns 13), I ((engine_Machine.mk p0.Event p0.module p0.regs p0.turns p0.at_ p0.steps p0.state).turns 14), I ((engine_Machine.mk p0.Event p0.module p0.regs p0.turns p0.at_ p0.steps p0.state).turns 15), I ((engine_Machine.mk p0.Event p0.module p0.regs p0.turns p0.at_ p0.steps p0.state).turns 16), I ((engine_Machine.mk p0.Event p0.module p0.regs p0.turns p0.at_ p0.steps p0.state).turns 17), I ((engine_Machine.mk p0.Event p0.module p0.regs p0.turns p0.at_ p0.steps p0.state).turns 18), I ((engine_Machine.mk p0.Event p0.module p0.regs p0.turns p0.at_ p0.steps p0.state).turns 19), I ((engine_Machine.mk p0.Event p0.module p0.regs p0.turns p0.at_ p0.steps p0.state).turns 20), I ((engine_Machine.mk p0.Event p0.module p0.regs p0.turns p0.at_ p0.steps p0.state).turns 21), I ((engine_Machine.mk p0.Event p0.module p0.regs p0.turns p0.at_ p0.steps p0.state).turns 22), I ((engine_Machine.mk p0.Event p0.module p0.regs p0.turns p0.at_ p0.steps p0.state).turns 23), I ((engine_Machine.mk p0.Event p0.module p0.regs p0.turns p0.at_ p0.steps p0.state).turns 24), I ((engine_Machine.mk p0.Event p0.module p0.regs p0.turns p0.at_ p0.steps p0.state).turns 25), I ((engine_Machine.mk p0.Event p0.module p0.regs p0.turns p0.at_ p0.steps p0.state).turns 26), I ((engine_Machine.mk p0.Event p0.module p0.regs p0.turns p0.at_ p0.steps p0.state).turns 27), I ((engine_Machine.mk p0.Event p0.module p0.regs p0.turns p0.at_ p0.steps p0.state).turns 28), I ((engine_Machine.mk p0.Event p0.module p0.regs p0.turns p0.at_ p0.steps p0.state).turns 29), I ((engine_Machine.mk p0.Event p0.module p0.regs p0.turns p0.at_ p0.steps p0.state).turns 30), I ((engine_Machine.mk p0.Event p0.module p0.regs p0.turns p0.at_ p0.steps p0.state).turns 31), I ((engine_Machine.mk p0.Event p0.module p0.regs p0.turns p0.at_ p0.steps p0.state).turns 32), I ((engine_Machine.mk p0.Event p0.module p0.regs p0.turns p0.at_ p0.steps p0.state).turns 33), I ((engine_Machine.mk p0.Event p0.module p0.regs p0.turns p0.at_ p0.steps p0.state).turns 34), I ((engine_Machine.mk p0.Event p0.module p0.regs p0.turns p0.at_ p0.steps p0.state).turns 35), I ((engine_Machine.mk p0.Event p0.module p0.regs p0.turns p0.at_ p0.steps p0.state).turns 36), I ((engine_Machine.mk p0.Event p0.module p0.regs p0.turns p0.at_ p0.steps p0.state).turns 37), I ((engine_Machine.mk p0.Event p0.module p0.regs p0.turns p0.at_ p0.steps p0.state).turns 38), I ((engine_Machine.mk p0.Event p0.module p0.regs p0.turns p0.at_ p0.steps p0.state).turns 39), I ((engine_Machine.mk p0.Event p0.module p0.regs p0.turns p0.at_ p0.steps p0.state).turns 40), I ((engine_Machine.mk p0.Event p0.module p0.regs p0.turns p0.at_ p0.steps p0.state).turns 41), I ((engine_Machine.mk p0.Event p0.module p0.regs p0.turns p0.at_ p0.steps p0.state).turns 42), I ((engine_Machine.mk p0.Event p0.module p0.regs p0.turns p0.at_ p0.steps p0.state).turns 43), I ((engine_Machine.mk p0.Event p0.module p0.regs p0.turns p0.at_ p0.steps p0.state).turns 44), I ((engine_Machine.mk p0.Event p0.module p0.regs p0.turns p0.at_ p0.steps p0.state).turns 45), I ((engine_Machine.mk p0.Event p0.module p0.regs p0.turns p0.at_ p0.steps p0.state).turns 46), I ((engine_Machine.mk p0.Event p0.module p0.regs p0.turns p0.at_ p0.steps p0.state).turns 47), I ((engine_Machine.mk p0.Event p0.module p0.regs p0.turns p0.at_ p0.steps p0.state).turns 48), I ((engine_Machine.mk p0.Event p0.module p0.regs p0.turns p0.at_ p0.steps p0.state).turns 49), I ((engine_Machine.mk p0.Event p0.module p0.regs p0.turns p0.at_ p0.steps p0.state).turns 50), I ((engine_Machine.mk p0.Event p0.module p0.regs p0.turns p0.at_ p0.steps p0.state).turns 51), I ((engine_Machine.mk p0.Event p0.module p0.regs p0.turns p0.at_ p0.steps p0.state).turns 52), I ((engine_Machine.mk p0.Event p0.module p0.regs p0.turns p0.at_ p0.steps p0.state).turns 53), I ((engine_Machine.mk p0.Event p0.module p0.regs p0.turns p0.at_ p0.steps p0.state).turns 54), I ((engine_Machine.mk p0.Event p0.module p0.regs p0.turns p0.at_ p0.steps p0.state).turns 55), I ((engine_Machine.mk p0.Event p0.module p0.regs p0.turns p0.at_ p0.steps p0.state).turns 56), I ((engine_Machine.mk p0.Event p0.module p0.regs p0.turns p0.at_ p0.steps p0.state).turns 57), I ((engine_Machine.mk p0.Event p0.module p0.regs p0.turns p0.at_ p0.steps p0.state).turns 58), I ((engine_Machine.mk p0.Event p0.module p0.regs p0.turns p0.at_ p0.steps p0.state).turns 59), I ((engine_Machine.mk p0.Event p0.module p0.regs p0.turns p0.at_ p0.steps p0.state).turns 60), I ((engine_Machine.mk p0.Event p0.module p0.regs p0.turns p0.at_ p0.steps p0.state).turns 61), I ((engine_Machine.mk p0.Event p0.module p0.regs p0.turns p0.at_ p0.steps p0.state).turns 62), I ((engine_Machine.mk p0.Event p0.module p0.regs p0.turns p0.at_ p0.steps p0.state).turns 63), I (engine_Machine.mk p0.Event p0.module p0.regs p0.turns p0.at_ p0.steps p0.state).at_, I (engine_Machine.mk p0.Event p0.module p0.regs p0.turns p0.at_ p0.steps p0.state).steps, I (engine_Machine.mk p0.Event p0.module p0.regs p0.turns p0.at_ p0.steps p0.state).state], _, _, _, _] := hst
  refine CW.tail 8 (by kernel_rfl) (by kernel_rfl) ?_
  intro w237 hch238
  have hst := hst.same hch238
  refine OS.pure 4 [(191, Pt b1), (194, .pointer (some ⟨b1, 77, none⟩))] rfl (by kernel_rfl) ?_
  refine OS.ld rfl rfl rfl rfl rfl (by kernel_rfl) (hst.blk 0 rfl rfl) ?_
  refine OS.pure 2 [(197, .pointer (some ⟨b1, 13, none⟩))] rfl (by kernel_rfl) ?_
  obtain ⟨i239, hi240, hF⟩ := bs hF
  refine OS.op (v := .pointer (some ⟨b1, 13 + Int.toNat (engine_Machine.mk p0.Event p0.module p0.regs p0.turns p0.at_ p0.steps p0.state).at_ * 1, none⟩)) rfl rfl rfl rfl rfl (fun a ha => aidx_run (n := 64) 2 1 rfl rfl rfl (ain_some hi240).1 (ain_some hi240).2.1 (by kernel_rfl) (by kernel_rfl) a _ ha) ?_
  refine OS.on ?_
  refine OW.stA hst 0 rfl rfl rfl rfl rfl (by kernel_rfl) rfl (encInt .i64) (fun _ => rfl) 64 (engine_Machine.mk p0.Event p0.module p0.regs p0.turns p0.at_ p0.steps p0.state).turns 13 rfl rfl hi240 0 rfl rfl 0 rfl [U (engine_Machine.mk p0.Event p0.module p0.regs p0.turns p0.at_ p0.steps p0.state).Event.A, U (engine_Machine.mk p0.Event p0.module p0.regs p0.turns p0.at_ p0.steps p0.state).Event.B, .slice a227 ((engine_Machine.mk p0.Event p0.module p0.regs p0.turns p0.at_ p0.steps p0.state).module.Maps).length c228, .slice a230 ((engine_Machine.mk p0.Event p0.module p0.regs p0.turns p0.at_ p0.steps p0.state).module.Code).length c231, Pt b2, U ((engine_Machine.mk p0.Event p0.module p0.regs p0.turns p0.at_ p0.steps p0.state).regs 0), U ((engine_Machine.mk p0.Event p0.module p0.regs p0.turns p0.at_ p0.steps p0.state).regs 1), U ((engine_Machine.mk p0.Event p0.module p0.regs p0.turns p0.at_ p0.steps p0.state).regs 2), U ((engine_Machine.mk p0.Event p0.module p0.regs p0.turns p0.at_ p0.steps p0.state).regs 3), U ((engine_Machine.mk p0.Event p0.module p0.regs p0.turns p0.at_ p0.steps p0.state).regs 4), U ((engine_Machine.mk p0.Event p0.module p0.regs p0.turns p0.at_ p0.steps p0.state).regs 5), U ((engine_Machine.mk p0.Event p0.module p0.regs p0.turns p0.at_ p0.steps p0.state).regs 6), U ((engine_Machine.mk p0.Event p0.module p0.regs p0.turns p0.at_ p0.steps p0.state).regs 7), I ((aset (engine_Machine.mk p0.Event p0.module p0.regs p0.turns p0.at_ p0.steps p0.state).turns i239 0) 0), I ((aset (engine_Machine.mk p0.Event p0.module p0.regs p0.turns p0.at_ p0.steps p0.state).turns i239 0) 1), I ((aset (engine_Machine.mk p0.Event p0.module p0.regs p0.turns p0.at_ p0.steps p0.state).turns i239 0) 2), I ((aset (engine_Machine.mk p0.Event p0.module p0.regs p0.turns p0.at_ p0.steps p0.state).turns i239 0) 3), I ((aset (engine_Machine.mk p0.Event p0.module p0.regs p0.turns p0.at_ p0.steps p0.state).turns i239 0) 4), I ((aset (engine_Machine.mk p0.Event p0.module p0.regs p0.turns p0.at_ p0.steps p0.state).turns i239 0) 5), I ((aset (engine_Machine.mk p0.Event p0.module p0.regs p0.turns p0.at_ p0.steps p0.state).turns i239 0) 6), I ((aset (engine_Machine.mk p0.Event p0.module p0.regs p0.turns p0.at_ p0.steps p0.state).turns i239 0) 7), I ((aset (engine_Machine.mk p0.Event p0.module p0.regs p0.turns p0.at_ p0.steps p0.state).turns i239 0) 8), I ((aset (engine_Machine.mk p0.Event p0.module p0.regs p0.turns p0.at_ p0.steps p0.state).turns i239 0) 9), I ((aset (engine_Machine.mk p0.Event p0.module p0.regs p0.turns p0.at_ p0.steps p0.state).turns i239 0) 10), I ((aset (engine_Machine.mk p0.Event p0.module p0.regs p0.turns p0.at_ p0.steps p0.state).turns i239 0) 11), I ((aset (engine_Machine.mk p0.Event p0.module p0.regs p0.turns p0.at_ p0.steps p0.state).turns i239 0) 12), I ((aset (engine_Machine.mk p0.Event p0.module p0.regs p0.turns p0.at_ p0.steps p0.state).turns i239 0) 13), I ((aset (engine_Machine.mk p0.Event p0.module p0.regs p0.turns p0.at_ p0.steps p0.state).turns i239 0) 14), I ((aset (engine_Machine.mk p0.Event p0.module p0.regs p0.turns p0.at_ p0.steps p0.state).turns i239 0) 15), I ((aset (engine_Machine.mk p0.Event p0.module p0.regs p0.turns p0.at_ p0.steps p0.state).turns i239 0) 16), I ((aset (engine_Machine.mk p0.Event p0.module p0.regs p0.turns p0.at_ p0.steps p0.state).turns i239 0) 17), I ((aset (engine_Machine.mk p0.Event p0.module p0.regs p0.turns p0.at_ p0.steps p0.state).turns i239 0) 18), I ((aset (engine_Machine.mk p0.Event p0.module p0.regs p0.turns p0.at_ p0.steps p0.state).turns i239 0) 19), I ((aset (engine_Machine.mk p0.Event p0.module p0.regs p0.turns p0.at_ p0.steps p0.state).turns i239 0) 20), I ((aset (engine_Machine.mk p0.Event p0.module p0.regs p0.turns p0.at_ p0.steps p0.state).turns i239 0) 21), I ((aset (engine_Machine.mk p0.Event p0.module p0.regs p0.turns p0.at_ p0.steps p0.state).turns i239 0) 22), I ((aset (engine_Machine.mk p0.Event p0.module p0.regs p0.turns p0.at_ p0.steps p0.state).turns i239 0) 23), I ((aset (engine_Machine.mk p0.Event p0.module p0.regs p0.turns p0.at_ p0.steps p0.state).turns i239 0) 24), I ((aset (engine_Machine.mk p0.Event p0.module p0.regs p0.turns p0.at_ p0.steps p0.state).turns i239 0) 25), I ((aset (engine_Machine.mk p0.Event p0.module p0.regs p0.turns p0.at_ p0.steps p0.state).turns i239 0) 26), I ((aset (engine_Machine.mk p0.Event p0.module p0.regs p0.turns p0.at_ p0.steps p0.state).turns i239 0) 27), I ((aset (engine_Machine.mk p0.Event p0.module p0.regs p0.turns p0.at_ p0.steps p0.state).turns i239 0) 28), I ((aset (engine_Machine.mk p0.Event p0.module p0.regs p0.turns p0.at_ p0.steps p0.state).turns i239 0) 29), I ((aset (engine_Machine.mk p0.Event p0.module p0.regs p0.turns p0.at_ p0.steps p0.state).turns i239 0) 30), I ((aset (engine_Machine.mk p0.Event p0.module p0.regs p0.turns p0.at_ p0.steps p0.state).turns i239 0) 31), I ((aset (engine_Machine.mk p0.Event p0.module p0.regs p0.turns p0.at_ p0.steps p0.state).turns i239 0) 32), I ((aset (engine_Machine.mk p0.Event p0.module p0.regs p0.turns p0.at_ p0.steps p0.state).turns i239 0) 33), I ((aset (engine_Machine.mk p0.Event p0.module p0.regs p0.turns p0.at_ p0.steps p0.state).turns i239 0) 34), I ((aset (engine_Machine.mk p0.Event p0.module p0.regs p0.turns p0.at_ p0.steps p0.state).turns i239 0) 35), I ((aset (engine_Machine.mk p0.Event p0.module p0.regs p0.turns p0.at_ p0.steps p0.state).turns i239 0) 36), I ((aset (engine_Machine.mk p0.Event p0.module p0.regs p0.turns p0.at_ p0.steps p0.state).turns i239 0) 37), I ((aset (engine_Machine.mk p0.Event p0.module p0.regs p0.turns p0.at_ p0.steps p0.state).turns i239 0) 38), I ((aset (engine_Machine.mk p0.Event p0.module p0.regs p0.turns p0.at_ p0.steps p0.state).turns i239 0) 39), I ((aset (engine_Machine.mk p0.Event p0.module p0.regs p0.turns p0.at_ p0.steps p0.state).turns i239 0) 40), I ((aset (engine_Machine.mk p0.Event p0.module p0.regs p0.turns p0.at_ p0.steps p0.state).turns i239 0) 41), I ((aset (engine_Machine.mk p0.Event p0.module p0.regs p0.turns p0.at_ p0.steps p0.state).turns i239 0) 42), I ((aset (engine_Machine.mk p0.Event p0.module p0.regs p0.turns p0.at_ p0.steps p0.state).turns i239 0) 43), I ((aset (engine_Machine.mk p0.Event p0.module p0.regs p0.turns p0.at_ p0.steps p0.state).turns i239 0) 44), I ((aset (engine_Machine.mk p0.Event p0.module p0.regs p0.turns p0.at_ p0.steps p0.state).turns i239 0) 45), I ((aset (engine_Machine.mk p0.Event p0.module p0.regs p0.turns p0.at_ p0.steps p0.state).turns i239 0) 46), I ((aset (engine_Machine.mk p0.Event p0.module p0.regs p0.turns p0.at_ p0.steps p0.state).turns i239 0) 47), I ((aset (engine_Machine.mk p0.Event p0.module p0.regs p0.turns p0.at_ p0.steps p0.state).turns i239 0) 48), I ((aset (engine_Machine.mk p0.Event p0.module p0.regs p0.turns p0.at_ p0.steps p0.state).turns i239 0) 49), I ((aset (engine_Machine.mk p0.Event p0.module p0.regs p0.turns p0.at_ p0.steps p0.state).turns i239 0) 50), I ((aset (engine_Machine.mk p0.Event p0.module p0.regs p0.turns p0.at_ p0.steps p0.state).turns i239 0) 51), I ((aset (engine_Machine.mk p0.Event p0.module p0.regs p0.turns p0.at_ p0.steps p0.state).turns i239 0) 52), I ((aset (engine_Machine.mk p0.Event p0.module p0.regs p0.turns p0.at_ p0.steps p0.state).turns i239 0) 53), I ((aset (engine_Machine.mk p0.Event p0.module p0.regs p0.turns p0.at_ p0.steps p0.state).turns i239 0) 54), I ((aset (engine_Machine.mk p0.Event p0.module p0.regs p0.turns p0.at_ p0.steps p0.state).turns i239 0) 55), I ((aset (engine_Machine.mk p0.Event p0.module p0.regs p0.turns p0.at_ p0.steps p0.state).turns i239 0) 56), I ((aset (engine_Machine.mk p0.Event p0.module p0.regs p0.turns p0.at_ p0.steps p0.state).turns i239 0) 57), I ((aset (engine_Machine.mk p0.Event p0.module p0.regs p0.turns p0.at_ p0.steps p0.state).turns i239 0) 58), I ((aset (engine_Machine.mk p0.Event p0.module p0.regs p0.turns p0.at_ p0.steps p0.state).turns i239 0) 59), I ((aset (engine_Machine.mk p0.Event p0.module p0.regs p0.turns p0.at_ p0.steps p0.state).turns i239 0) 60), I ((aset (engine_Machine.mk p0.Event p0.module p0.regs p0.turns p0.at_ p0.steps p0.state).turns i239 0) 61), I ((aset (engine_Machine.mk p0.Event p0.module p0.regs p0.turns p0.at_ p0.steps p0.state).turns i239 0) 62), I ((aset (engine_Machine.mk p0.Event p0.module p0.regs p0.turns p0.at_ p0.steps p0.state).turns i239 0) 63), I (engine_Machine.mk p0.Event p0.module p0.regs p0.turns p0.at_ p0.steps p0.state).at_, I (engine_Machine.mk p0.Event p0.module p0.regs p0.turns p0.at_ p0.steps p0.state).steps, I (engine_Machine.mk p0.Event p0.module p0.regs p0.turns p0.at_ p0.steps p0.state).state] rfl ?_
  intro w241 hst
  refine OW.nil rfl (QW.block_normal (QW.next (rg ?_)))
  refine pu 1 [(4, I 1)] (nx (CW.ret ?_))
  have hst := hst.toIt 3 rfl (fun _ => rfl) (by decide)
  have hst := hst.toIt 4 rfl (fun _ => rfl) (by decide)
  obtain ⟨S242, hst⟩ := hst.shutP2 (R_t129 (Pt b2)) rfl 0 3 4 [1, 2] rfl rfl rfl rfl (engine_Machine.mk (engine_Machine.mk p0.Event p0.module p0.regs p0.turns p0.at_ p0.steps p0.state).Event (engine_Machine.mk p0.Event p0.module p0.regs p0.turns p0.at_ p0.steps p0.state).module (engine_Machine.mk p0.Event p0.module p0.regs p0.turns p0.at_ p0.steps p0.state).regs (aset (engine_Machine.mk p0.Event p0.module p0.regs p0.turns p0.at_ p0.steps p0.state).turns i239 0) (engine_Machine.mk p0.Event p0.module p0.regs p0.turns p0.at_ p0.steps p0.state).at_ (engine_Machine.mk p0.Event p0.module p0.regs p0.turns p0.at_ p0.steps p0.state).steps (engine_Machine.mk p0.Event p0.module p0.regs p0.turns p0.at_ p0.steps p0.state).state) rfl rfl
  obtain rfl := inj hF
  refine QW.ret1 rfl rfl ?_
  exact ⟨S242, S2, rfl, hst.keep [2, 0] rfl⟩
 refine CW.seq ?_
 obtain ⟨v243, S244, v245, S246, hst⟩ := hst.openQ2 0 rfl rfl rfl
 have hst := hst.toRow1 3 rfl
 have hst := hst.toRow1 4 rfl
 obtain ⟨l247, a248, c249, rfl⟩ := hst.len 3 rfl
 obtain ⟨l250, a251, c252, rfl⟩ := hst.len 4 rfl
 have hst : St _ _ _ [blkI b1 129 [U p0.Event.A, U p0.Event.B, .slice a248 (p0.module.Maps).length c249, .slice a251 (p0.module.Code).length c252, Pt b2, U (p0.regs 0), U (p0.regs 1), U (p0.regs 2), U (p0.regs 3), U (p0.regs 4), U (p0.regs 5), U (p0.regs 6), U (p0.regs 7), I (p0.turns 0), I (p0.turns 1), I (p0.turns 2), I (p0.turns 3), I (p0.turns 4), I (p0.turns 5), I (p0.turns 6), I (p0.turns 7), I (p0.turns 8), I (p0.turns 9), I (p0.turns 10), I (p0.turns 11), I (p0.turns 12), I (p0.turns 13), I (p0.turns 14), I (p0.turns 15), I (p0.turns 16), I (p0.turns 17), I (p0.turns 18), I (p0.turns 19), I (p0.turns 20), I (p0.turns 21), I (p0.turns 22), I (p0.turns 23), I (p0.turns 24), I (p0.turns 25), I (p0.turns 26), I (p0.turns 27), I (p0.turns 28), I (p0.turns 29), I (p0.turns 30), I (p0.turns 31), I (p0.turns 32), I (p0.turns 33), I (p0.turns 34), I (p0.turns 35), I (p0.turns 36), I (p0.turns 37), I (p0.turns 38), I (p0.turns 39), I (p0.turns 40), I (p0.turns 41), I (p0.turns 42), I (p0.turns 43), I (p0.turns 44), I (p0.turns 45), I (p0.turns 46), I (p0.turns 47), I (p0.turns 48), I (p0.turns 49), I (p0.turns 50), I (p0.turns 51), I (p0.turns 52), I (p0.turns 53), I (p0.turns 54), I (p0.turns 55), I (p0.turns 56), I (p0.turns 57), I (p0.turns 58), I (p0.turns 59), I (p0.turns 60), I (p0.turns 61), I (p0.turns 62), I (p0.turns 63), I p0.at_, I p0.steps, I p0.state], _, _, _, _] := hst
 refine CW.plan (by kernel_rfl) ?_
 intro w265 hch266
 have hst := hst.same hch266
 refine OA.pure [0] [(12, Pt b5)] (by kernel_rfl) ?_
 refine OA.ld (i := 1) rfl (by kernel_rfl) rfl rfl rfl (by kernel_rfl) (hst.blk 2 rfl rfl) ?_
 refine OA.pure [2, 3] [(14, Pt b1), (15, .pointer (some ⟨b5, 2, none⟩))] (by kernel_rfl) ?_
 refine OA.ld (i := 4) rfl (by kernel_rfl) rfl rfl rfl (by kernel_rfl) (hst.blk 2 rfl rfl) ?_
 refine OA.pure [5, 6] [(18, .pointer (some ⟨b1, 5, none⟩))] (by kernel_rfl) ?_
 obtain ⟨i267, hi268, hF⟩ := bs hF
 refine OA.val (i := 7) (v := .pointer (some ⟨b1, 5 + Int.toNat p1.A * 1, none⟩)) rfl (by kernel_rfl) rfl rfl rfl rfl (fun a w ha => aidx_run (n := 8) 22 1 rfl rfl rfl (ain_some hi268).1 (ain_some hi268).2.1 (by kernel_rfl) (by kernel_rfl) a w ha) ?_
 refine OA.ld (i := 8) rfl (by kernel_rfl) rfl rfl rfl (by kernel_rfl) (hst.arrB 0 rfl (encInt .u64) (fun _ => rfl) 8 p0.regs 5 rfl rfl hi268 0 _ rfl) ?_
 refine OA.pure [9] [(21, Pt b1)] (by kernel_rfl) ?_
 refine OA.ldN (i := 10) (cs := [I p1.Op, I p1.D, I p1.A, I p1.B, I p1.Imm]) rfl (by kernel_rfl) rfl rfl rfl (by kernel_rfl) (by kernel_rfl) (hst.blkN 2 rfl 0 5) ?_
 refine OA.act (i := 11) [8, 4, 1] (by kernel_rfl) rfl rfl (by kernel_rfl) (by kernel_rfl) ?_
 obtain ⟨r269, hr270, hF⟩ := bs hF
 refine OW.fn rfl rfl rfl rfl (by kernel_rfl) (engine_Machine_source_ok _ b1 (.slice a248 (p0.module.Maps).length c249) (.slice a251 (p0.module.Code).length c252) (Pt b2) (engine_Machine.mk p0.Event p0.module p0.regs p0.turns p0.at_ p0.steps p0.state) p1 r269 hr270 (hst.part [] rfl) (hst.rdB 0 rfl [] rfl)) ?_
 rintro e w271 ⟨rfl, hst272⟩
 refine ⟨_, rfl, ?_⟩
 have hst := hst.join (idx := []) (rest := [0, 1, 2, 3, 4]) rfl hst272
 refine OA.next ⟨(hst.arrB 0 rfl (encInt .u64) (fun _ => rfl) 8 p0.regs 5 rfl rfl hi268 0 _ rfl), (hst.blk 2 rfl rfl), (hst.blk 2 rfl rfl), trivial⟩ ?_
 refine OA.act (i := 12) [] (by kernel_rfl) rfl rfl (by kernel_rfl) (by kernel_rfl) ?_
 obtain ⟨r273, hr274, hF⟩ := bs hF
 refine OW.fn rfl rfl rfl rfl (by kernel_rfl) (arith_Do_ok _ p1.Op (p0.regs i267) r269 r273 hr274 (hst.part [] rfl)) ?_
 rintro e w275 ⟨rfl, hst276⟩
 refine ⟨_, rfl, ?_⟩
 have hst := hst.join (idx := []) (rest := [0, 1, 2, 3, 4]) rfl hst276
 refine OA.next trivial ?_
 refine OA.pure [13, 14, 15] [(25, U r273.1), (26, .bool r273.2)] (by kernel_rfl) ?_
 refine OA.act (i := 16) [] (by kernel_rfl) rfl rfl (by kernel_rfl) (by kernel_rfl) ?_
 refine pu 1 [(5, U r273.1)] (OA.next trivial ?_)
 refine OA.act (i := 17) [] (by kernel_rfl) rfl rfl (by kernel_rfl) (by kernel_rfl) ?_
 refine pu 1 [(6, .bool r273.2)] (OA.next trivial ?_)
 refine OA.fin (by kernel_rfl) (by kernel_rfl) (QW.next (rg ?_))
 refine pu 1 [(27, .bool r273.2)] (nx ?_)
 refine br (r273.2) hF (fun hF hc277 => ?_) (fun hF hc277 => ?_)
 ·refine CW.tail 7 (by kernel_rfl) (by kernel_rfl) ?_
  intro w283 hch284
  have hst := hst.same hch284
  refine OS.pure 2 [(28, Pt b1), (29, .pointer (some ⟨b5, 1, none⟩))] rfl (by kernel_rfl) ?_
  refine OS.ld rfl rfl rfl rfl rfl (by kernel_rfl) (hst.blk 2 rfl rfl) ?_
  refine OS.pure 3 [(31, U r273.1), (33, .pointer (some ⟨b1, 5, none⟩))] rfl (by kernel_rfl) ?_
  obtain ⟨i285, hi286, hF⟩ := bs hF
  refine OS.op (v := .pointer (some ⟨b1, 5 + Int.toNat p1.D * 1, none⟩)) rfl rfl rfl rfl rfl (fun a ha => aidx_run (n := 8) 22 1 rfl rfl rfl (ain_some hi286).1 (ain_some hi286).2.1 (by kernel_rfl) (by kernel_rfl) a _ ha) ?_
  refine OS.on ?_
  refine OW.stA hst 0 rfl rfl rfl rfl rfl (by kernel_rfl) rfl (encInt .u64) (fun _ => rfl) 8 p0.regs 5 rfl rfl hi286 0 rfl rfl r273.1 rfl [U p0.Event.A, U p0.Event.B, .slice a248 (p0.module.Maps).length c249, .slice a251 (p0.module.Code).length c252, Pt b2, U ((aset p0.regs i285 r273.1) 0), U ((aset p0.regs i285 r273.1) 1), U ((aset p0.regs i285 r273.1) 2), U ((aset p0.regs i285 r273.1) 3), U ((aset p0.regs i285 r273.1) 4), U ((aset p0.regs i285 r273.1) 5), U ((aset p0.regs i285 r273.1) 6), U ((aset p0.regs i285 r273.1) 7), I (p0.turns 0), I (p0.turns 1), I (p0.turns 2), I (p0.turns 3), I (p0.turns 4), I (p0.turns 5), I (p0.turns 6), I (p0.turns 7), I (p0.turns 8), I (p0.turns 9), I (p0.turns 10), I (p0.turns 11), I (p0.turns 12), I (p0.turns 13), I (p0.turns 14), I (p0.turns 15), I (p0.turns 16), I (p0.turns 17), I (p0.turns 18), I (p0.turns 19), I (p0.turns 20), I (p0.turns 21), I (p0.turns 22), I (p0.turns 23), I (p0.turns 24), I (p0.turns 25), I (p0.turns 26), I (p0.turns 27), I (p0.turns 28), I (p0.turns 29), I (p0.turns 30), I (p0.turns 31), I (p0.turns 32), I (p0.turns 33), I (p0.turns 34), I (p0.turns 35), I (p0.turns 36), I (p0.turns 37), I (p0.turns 38), I (p0.turns 39), I (p0.turns 40), I (p0.turns 41), I (p0.turns 42), I (p0.turns 43), I (p0.turns 44), I (p0.turns 45), I (p0.turns 46), I (p0.turns 47), I (p0.turns 48), I (p0.turns 49), I (p0.turns 50), I (p0.turns 51), I (p0.turns 52), I (p0.turns 53), I (p0.turns 54), I (p0.turns 55), I (p0.turns 56), I (p0.turns 57), I (p0.turns 58), I (p0.turns 59), I (p0.turns 60), I (p0.turns 61), I (p0.turns 62), I (p0.turns 63), I p0.at_, I p0.steps, I p0.state] rfl ?_
  intro w287 hst
  refine OW.nil rfl (QW.block_normal (QW.next (rg ?_)))
  refine pu 1 [(4, I 1)] (nx (CW.ret ?_))
  have hst := hst.toIt 3 rfl (fun _ => rfl) (by decide)
  have hst := hst.toIt 4 rfl (fun _ => rfl) (by decide)
  obtain ⟨S288, hst⟩ := hst.shutP2 (R_t129 (Pt b2)) rfl 0 3 4 [1, 2] rfl rfl rfl rfl (engine_Machine.mk p0.Event p0.module (aset p0.regs i285 r273.1) p0.turns p0.at_ p0.steps p0.state) rfl rfl
  obtain rfl := inj hF
  refine QW.ret1 rfl rfl ?_
  exact ⟨S288, S2, rfl, hst.keep [2, 0] rfl⟩
 refine CW.seq ?_
 refine CW.plan (by kernel_rfl) ?_
 intro w299 hch300
 have hst := hst.same hch300
 refine OA.pure [0] [(36, Pt b5)] (by kernel_rfl) ?_
 refine OA.ld (i := 1) rfl (by kernel_rfl) rfl rfl rfl (by kernel_rfl) (hst.blk 2 rfl rfl) ?_
 refine OA.pure [2, 3] [(38, Pt b1), (39, .pointer (some ⟨b5, 2, none⟩))] (by kernel_rfl) ?_
 refine OA.ld (i := 4) rfl (by kernel_rfl) rfl rfl rfl (by kernel_rfl) (hst.blk 2 rfl rfl) ?_
 refine OA.pure [5, 6] [(42, .pointer (some ⟨b1, 5, none⟩))] (by kernel_rfl) ?_
 refine OA.val (i := 7) (v := .pointer (some ⟨b1, 5 + Int.toNat p1.A * 1, none⟩)) rfl (by kernel_rfl) rfl rfl rfl rfl (fun a w ha => aidx_run (n := 8) 22 1 rfl rfl rfl (ain_some hi268).1 (ain_some hi268).2.1 (by kernel_rfl) (by kernel_rfl) a w ha) ?_
 refine OA.ld (i := 8) rfl (by kernel_rfl) rfl rfl rfl (by kernel_rfl) (hst.arrB 0 rfl (encInt .u64) (fun _ => rfl) 8 p0.regs 5 rfl rfl hi268 0 _ rfl) ?_
 refine OA.pure [9] [(45, Pt b1)] (by kernel_rfl) ?_
 refine OA.ldN (i := 10) (cs := [I p1.Op, I p1.D, I p1.A, I p1.B, I p1.Imm]) rfl (by kernel_rfl) rfl rfl rfl (by kernel_rfl) (by kernel_rfl) (hst.blkN 2 rfl 0 5) ?_
 refine OA.act (i := 11) [8, 4, 1] (by kernel_rfl) rfl rfl (by kernel_rfl) (by kernel_rfl) ?_
 obtain ⟨r301, hr302, hF⟩ := bs hF
 refine OW.fn rfl rfl rfl rfl (by kernel_rfl) (engine_Machine_source_ok _ b1 (.slice a248 (p0.module.Maps).length c249) (.slice a251 (p0.module.Code).length c252) (Pt b2) (engine_Machine.mk p0.Event p0.module p0.regs p0.turns p0.at_ p0.steps p0.state) p1 r301 hr302 (hst.part [] rfl) (hst.rdB 0 rfl [] rfl)) ?_
 rintro e w303 ⟨rfl, hst304⟩
 refine ⟨_, rfl, ?_⟩
 have hst := hst.join (idx := []) (rest := [0, 1, 2, 3, 4]) rfl hst304
 refine OA.next ⟨(hst.arrB 0 rfl (encInt .u64) (fun _ => rfl) 8 p0.regs 5 rfl rfl hi268 0 _ rfl), (hst.blk 2 rfl rfl), (hst.blk 2 rfl rfl), trivial⟩ ?_
 refine OA.act (i := 12) [] (by kernel_rfl) rfl rfl (by kernel_rfl) (by kernel_rfl) ?_
 obtain ⟨r305, hr306, hF⟩ := bs hF
 refine OW.fn rfl rfl rfl rfl (by kernel_rfl) (arith_Holds_ok _ p1.Op (p0.regs i267) r301 r305 hr306 (hst.part [] rfl)) ?_
 rintro e w307 ⟨rfl, hst308⟩
 refine ⟨_, rfl, ?_⟩
 have hst := hst.join (idx := []) (rest := [0, 1, 2, 3, 4]) rfl hst308
 refine OA.next trivial ?_
 refine OA.pure [13, 14, 15] [(49, .bool r305.1), (50, .bool r305.2)] (by kernel_rfl) ?_
 refine OA.act (i := 16) [] (by kernel_rfl) rfl rfl (by kernel_rfl) (by kernel_rfl) ?_
 refine pu 1 [(7, .bool r305.1)] (OA.next trivial ?_)
 refine OA.act (i := 17) [] (by kernel_rfl) rfl rfl (by kernel_rfl) (by kernel_rfl) ?_
 refine pu 1 [(8, .bool r305.2)] (OA.next trivial ?_)
 refine OA.fin (by kernel_rfl) (by kernel_rfl) (QW.next (rg ?_))
 refine pu 1 [(51, .bool r305.1)] (nx ?_)
 refine br (r305.1) hF (fun hF hc309 => ?_) (fun hF hc309 => ?_)
 ·refine rg ?_
  refine pu 1 [(52, .pointer (some ⟨b5, 1, none⟩))] ?_
  refine OW.ld rfl rfl rfl rfl (by kernel_rfl) (hst.blk 2 rfl rfl) ?_
  refine pu 2 [(4, I (w64 (p1.D + 1)))] (nx (CW.ret (QW.block_ret (QW.then_ret ?_))))
  have hst := hst.toIt 3 rfl (fun _ => rfl) (by decide)
  have hst := hst.toIt 4 rfl (fun _ => rfl) (by decide)
  obtain ⟨S310, hst⟩ := hst.shutP2 (R_t129 (Pt b2)) rfl 0 3 4 [1, 2] rfl rfl rfl rfl (engine_Machine.mk p0.Event p0.module p0.regs p0.turns p0.at_ p0.steps p0.state) rfl rfl
  obtain rfl := inj hF
  refine QW.ret1 rfl rfl ?_
  exact ⟨S310, S2, rfl, hst.keep [2, 0] rfl⟩
 refine CW.skip (QW.block_normal (QW.next (rg ?_)))
 refine pu 1 [(4, I 1)] (nx (CW.ret ?_))
 have hst := hst.toIt 3 rfl (fun _ => rfl) (by decide)
 have hst := hst.toIt 4 rfl (fun _ => rfl) (by decide)
 obtain ⟨S311, hst⟩ := hst.shutP2 (R_t129 (Pt b2)) rfl 0 3 4 [1, 2] rfl rfl rfl rfl (engine_Machine.mk p0.Event p0.module p0.regs p0.turns p0.at_ p0.steps p0.state) rfl rfl
 obtain rfl := inj hF
 refine QW.ret1 rfl rfl ?_
 exact ⟨S311, S2, rfl, hst.keep [2, 0] rfl⟩
theorem engine_Machine_Step_ok (w : World) (fu : Nat) (v0 : Value) (S0 : List Nat) (p0 : engine_Machine) (v1 : Value) (S1 : List Nat) (g0 : scratch_Scratch) (r : api_Act × engine_Machine × scratch_Scratch) (hF : engine_Machine_Step fu p0 g0 = some r)
    (hst : St w (fp [itI (R_t69 v1) [v0] S0 p0, itI R_t67 [v1] S1 g0]) w [itI (R_t69 v1) [v0] S0 p0, itI R_t67 [v1] S1 g0]) (hT1 : Rd w (fp [itI (R_t69 v1) [v0] S0 p0, itI R_t67 [v1] S1 g0]) (.slice (some ⟨1, 0, none⟩) 7 7) enc_sigs_sig 5 tab_g1) :
    Calls Tryd.prog 26 [v0].toArray w (fun e w' => ∃ (s0 : List Nat) (s1 : List Nat), e = .returned (.agg [I r.1.Kind, I r.1.Pc, I r.1.Item.Map, I r.1.Item.Op, U r.1.Item.Key, U r.1.Item.Val, U r.1.Val].toArray) ∧ St w (fp [itI (R_t69 v1) [v0] S0 p0, itI R_t67 [v1] S1 g0]) w' [itI (R_t69 v1) [v0] s0 r.2.1, itI R_t67 [v1] s1 r.2.2]) := by
 refine CW.start (N := 99) Tryd.func26 rfl rfl rfl ?_
 obtain ⟨b1, rfl⟩ := hst.fptr 0 rfl
 obtain ⟨b2, rfl⟩ := hst.fptr 1 rfl
 refine rg ?_
 refine OW.alloc hst rfl rfl rfl [I 0, I 0, I 0, I 0, U 0, U 0, U 0] (by kernel_rfl) ?_
 intro b5 w6 hst
 refine nx (CW.seq (CW.seq ?_))
 obtain ⟨v7, S8, v9, S10, hst⟩ := hst.openQ2 0 rfl rfl rfl
 have hst := hst.toRow1 3 rfl
 have hst := hst.toRow1 4 rfl
 obtain ⟨l11, a12, c13, rfl⟩ := hst.len 3 rfl
 obtain ⟨l14, a15, c16, rfl⟩ := hst.len 4 rfl
 have hst : St _ _ _ [blkI b1 129 [U p0.Event.A, U p0.Event.B, .slice a12 (p0.module.Maps).length c13, .slice a15 (p0.module.Code).length c16, Pt b2, U (p0.regs 0), U (p0.regs 1), U (p0.regs 2), U (p0.regs 3), U (p0.regs 4), U (p0.regs 5), U (p0.regs 6), U (p0.regs 7), I (p0.turns 0), I (p0.turns 1), I (p0.turns 2), I (p0.turns 3), I (p0.turns 4), I (p0.turns 5), I (p0.turns 6), I (p0.turns 7), I (p0.turns 8), I (p0.turns 9), I (p0.turns 10), I (p0.turns 11), I (p0.turns 12), I (p0.turns 13), I (p0.turns 14), I (p0.turns 15), I (p0.turns 16), I (p0.turns 17), I (p0.turns 18), I (p0.turns 19), I (p0.turns 20), I (p0.turns 21), I (p0.turns 22), I (p0.turns 23), I (p0.turns 24), I (p0.turns 25), I (p0.turns 26), I (p0.turns 27), I (p0.turns 28), I (p0.turns 29), I (p0.turns 30), I (p0.turns 31), I (p0.turns 32), I (p0.turns 33), I (p0.turns 34), I (p0.turns 35), I (p0.turns 36), I (p0.turns 37), I (p0.turns 38), I (p0.turns 39), I (p0.turns 40), I (p0.turns 41), I (p0.turns 42), I (p0.turns 43), I (p0.turns 44), I (p0.turns 45), I (p0.turns 46), I (p0.turns 47), I (p0.turns 48), I (p0.turns 49), I (p0.turns 50), I (p0.turns 51), I (p0.turns 52), I (p0.turns 53), I (p0.turns 54), I (p0.turns 55), I (p0.turns 56), I (p0.turns 57), I (p0.turns 58), I (p0.turns 59), I (p0.turns 60), I (p0.turns 61), I (p0.turns 62), I (p0.turns 63), I p0.at_, I p0.steps, I p0.state], _, _, _, _] := hst
 refine CW.region ?_
 refine pu 3 [(7, .pointer (some ⟨b1, 79, none⟩))] ?_
 refine OW.ld rfl rfl rfl rfl (by kernel_rfl) (hst.blk 0 rfl rfl) (nx (CW.block (rg ?_)))
 refine pu 2 [(9, .bool (p0.state == 1))] (nx ?_)
 refine br ((p0.state == 1)) hF (fun hF hc17 => ?_) (fun hF hc17 => ?_)
 ·refine rg ?_
  refine pu 3 [(13, .pointer (some ⟨b1, 77, none⟩))] ?_
  refine OW.ld rfl rfl rfl rfl (by kernel_rfl) (hst.blk 0 rfl rfl) ?_
  refine pu 1 [(15, .agg [I 5, I p0.at_, I 0, I 0, U 0, U 0, U 0].toArray)] ?_
  refine OW.stB hst 2 rfl rfl rfl rfl rfl (by kernel_rfl) rfl rfl [I 5, I p0.at_, I 0, I 0, U 0, U 0, U 0] rfl ?_
  intro w19 hst
  refine nx (CW.ret (QW.block_ret (QW.then_ret ?_)))
  have hst := hst.toIt 3 rfl (fun _ => rfl) (by decide)
  have hst := hst.toIt 4 rfl (fun _ => rfl) (by decide)
  obtain ⟨S20, hst⟩ := hst.shutP2 (R_t129 (Pt b2)) rfl 0 3 4 [1, 2] rfl rfl rfl rfl (engine_Machine.mk p0.Event p0.module p0.regs p0.turns p0.at_ p0.steps p0.state) rfl rfl
  obtain rfl := inj hF
  refine QW.ret_c rfl rfl (run_loadN (cs := [I 5, I p0.at_, I 0, I 0, U 0, U 0, U 0]) (by kernel_rfl) (by kernel_rfl) (hst.blkN 1 rfl 0 7)) ?_
  exact ⟨S20, S1, rfl, hst.keep [2, 0] rfl⟩
 refine rg ?_
 refine pu 2 [(16, .bool (p0.state == 2))] (nx ?_)
 refine br ((p0.state == 2)) hF (fun hF hc21 => ?_) (fun hF hc21 => ?_)
 ·refine CW.seq ?_
  refine CW.tail 22 (by kernel_rfl) (by kernel_rfl) ?_
  intro w34 hch35
  have hst := hst.same hch35
  refine OS.pure 3 [(20, .pointer (some ⟨b1, 77, none⟩))] rfl (by kernel_rfl) ?_
  refine OS.ld rfl rfl rfl rfl rfl (by kernel_rfl) (hst.blk 0 rfl rfl) ?_
  refine OS.pure 5 [(22, Pt b1), (26, .pointer (some ⟨b1, 3, none⟩))] rfl (by kernel_rfl) ?_
  refine OS.ld rfl rfl rfl rfl rfl (by kernel_rfl) (hst.blk 0 rfl rfl) ?_
  refine OS.pure 3 [(30, .pointer (some ⟨b1, 77, none⟩))] rfl (by kernel_rfl) ?_
  refine OS.ld rfl rfl rfl rfl rfl (by kernel_rfl) (hst.blk 0 rfl rfl) ?_
  obtain ⟨x36, hx37, hF⟩ := bs hF
  obtain ⟨g39, o40, c41, hv38⟩ := hst.rowv 4 rfl hx37
  refine OS.idx 76 5 rfl rfl rfl rfl rfl hv38 rfl (idx_some hx37).1 (idx_some hx37).2.1 (by kernel_rfl) (by kernel_rfl) ?_
  refine OS.pure 1 [(33, .pointer (some ⟨g39, o40 + Int.toNat p0.at_ * 5 + 2, none⟩))] rfl (by kernel_rfl) ?_
  refine OS.ld rfl rfl rfl rfl rfl (by kernel_rfl) (hst.rowc 4 rfl (fun _ => rfl) hx37 hv38 2 _ rfl) ?_
  refine OS.pure 2 [(36, .pointer (some ⟨b1, 5, none⟩))] rfl (by kernel_rfl) ?_
  obtain ⟨i42, hi43, hF⟩ := bs hF
  refine OS.op (v := .pointer (some ⟨b1, 5 + Int.toNat x36.A * 1, none⟩)) rfl rfl rfl rfl rfl (fun a ha => aidx_run (n := 8) 22 1 rfl rfl rfl (ain_some hi43).1 (ain_some hi43).2.1 (by kernel_rfl) (by kernel_rfl) a _ ha) ?_
  refine OS.ld rfl rfl rfl rfl rfl (by kernel_rfl) (hst.arrB 0 rfl (encInt .u64) (fun _ => rfl) 8 p0.regs 5 rfl rfl hi43 0 _ rfl) ?_
  refine OS.pure 1 [(39, .agg [I 6, I p0.at_, I 0, I 0, U 0, U 0, U (p0.regs i42)].toArray)] rfl (by kernel_rfl) ?_
  refine OS.on ?_
  refine OW.stB hst 2 rfl rfl rfl rfl rfl (by kernel_rfl) rfl rfl [I 6, I p0.at_, I 0, I 0, U 0, U 0, U (p0.regs i42)] rfl ?_
  intro w44 hst
  refine nx (CW.ret (QW.block_ret (QW.then_ret ?_)))
  have hst := hst.toIt 3 rfl (fun _ => rfl) (by decide)
  have hst := hst.toIt 4 rfl (fun _ => rfl) (by decide)
  obtain ⟨S45, hst⟩ := hst.shutP2 (R_t129 (Pt b2)) rfl 0 3 4 [1, 2] rfl rfl rfl rfl (engine_Machine.mk p0.Event p0.module p0.regs p0.turns p0.at_ p0.steps p0.state) rfl rfl
  obtain rfl := inj hF
  refine QW.ret_c rfl rfl (run_loadN (cs := [I 6, I p0.at_, I 0, I 0, U 0, U 0, U (p0.regs i42)]) (by kernel_rfl) (by kernel_rfl) (hst.blkN 1 rfl 0 7)) ?_
  exact ⟨S45, S1, rfl, hst.keep [2, 0] rfl⟩
 refine CW.skip (QW.block_normal (QW.next (rg ?_)))
 refine pu 3 [(40, Pt b1), (42, .pointer (some ⟨b1, 78, none⟩))] ?_
 refine OW.ld rfl rfl rfl rfl (by kernel_rfl) (hst.blk 0 rfl rfl) ?_
 refine pu 3 [(44, I (w64 (p0.steps + 1))), (46, .pointer (some ⟨b1, 78, none⟩))] ?_
 refine OW.stB hst 0 rfl rfl rfl rfl rfl (by kernel_rfl) rfl rfl [U p0.Event.A, U p0.Event.B, .slice a12 (p0.module.Maps).length c13, .slice a15 (p0.module.Code).length c16, Pt b2, U (p0.regs 0), U (p0.regs 1), U (p0.regs 2), U (p0.regs 3), U (p0.regs 4), U (p0.regs 5), U (p0.regs 6), U (p0.regs 7), I (p0.turns 0), I (p0.turns 1), I (p0.turns 2), I (p0.turns 3), I (p0.turns 4), I (p0.turns 5), I (p0.turns 6), I (p0.turns 7), I (p0.turns 8), I (p0.turns 9), I (p0.turns 10), I (p0.turns 11), I (p0.turns 12), I (p0.turns 13), I (p0.turns 14), I (p0.turns 15), I (p0.turns 16), I (p0.turns 17), I (p0.turns 18), I (p0.turns 19), I (p0.turns 20), I (p0.turns 21), I (p0.turns 22), I (p0.turns 23), I (p0.turns 24), I (p0.turns 25), I (p0.turns 26), I (p0.turns 27), I (p0.turns 28), I (p0.turns 29), I (p0.turns 30), I (p0.turns 31), I (p0.turns 32), I (p0.turns 33), I (p0.turns 34), I (p0.turns 35), I (p0.turns 36), I (p0.turns 37), I (p0.turns 38), I (p0.turns 39), I (p0.turns 40), I (p0.turns 41), I (p0.turns 42), I (p0.turns 43), I (p0.turns 44), I (p0.turns 45), I (p0.turns 46), I (p0.turns 47), I (p0.turns 48), I (p0.turns 49), I (p0.turns 50), I (p0.turns 51), I (p0.turns 52), I (p0.turns 53), I (p0.turns 54), I (p0.turns 55), I (p0.turns 56), I (p0.turns 57), I (p0.turns 58), I (p0.turns 59), I (p0.turns 60), I (p0.turns 61), I (p0.turns 62), I (p0.turns 63), I p0.at_, I (w64 (p0.steps + 1)), I p0.state] rfl ?_
 intro w47 hst
 refine nx (CW.seq ?_)
 refine CW.plan (by kernel_rfl) ?_
 intro w59 hch60
 have hst := hst.same hch60
 refine OA.pure [0, 1, 2, 3] [(50, .pointer (some ⟨b1, 3, none⟩))] (by kernel_rfl) ?_
 refine OA.ld (i := 4) rfl (by kernel_rfl) rfl rfl rfl (by kernel_rfl) (hst.blk 0 rfl rfl) ?_
 refine OA.pure [5, 6, 7] [(54, .pointer (some ⟨b1, 77, none⟩))] (by kernel_rfl) ?_
 refine OA.ld (i := 8) rfl (by kernel_rfl) rfl rfl rfl (by kernel_rfl) (hst.blk 0 rfl rfl) ?_
 obtain ⟨x61, hx62, hF⟩ := bs hF
 obtain ⟨g64, o65, c66, hv63⟩ := hst.rowv 4 rfl hx62
 refine OA.idx (i := 9) 76 5 rfl (by kernel_rfl) rfl rfl rfl hv63 rfl (idx_some hx62).1 (idx_some hx62).2.1 (by kernel_rfl) (by kernel_rfl) ?_
 refine OA.ldN (i := 10) (cs := enc_api_Inst x61) rfl (by kernel_rfl) rfl rfl rfl (by kernel_rfl) (by kernel_rfl) (hst.rowc 4 rfl (fun _ => rfl) hx62 hv63) ?_
 refine OA.act (i := 11) [10, 8, 4] (by kernel_rfl) rfl rfl (by kernel_rfl) (by kernel_rfl) ?_
 refine OW.alloc hst rfl rfl rfl [I 0, I 0, I 0, I 0, I 0] (by kernel_rfl) ?_
 intro b67 w68 hst
 refine OA.next ⟨(hst.rowc 4 rfl (fun _ => rfl) hx62 hv63), (hst.blk 0 rfl rfl), (hst.blk 0 rfl rfl), trivial⟩ ?_
 refine OA.act (i := 12) [] (by kernel_rfl) rfl rfl (by kernel_rfl) (by kernel_rfl) ?_
 refine OW.stB hst 5 rfl rfl rfl rfl rfl (by kernel_rfl) rfl rfl [I x61.Op, I x61.D, I x61.A, I x61.B, I x61.Imm] rfl ?_
 intro w69 hst
 refine OA.next trivial ?_
 refine OA.fin (by kernel_rfl) (by kernel_rfl) (QW.next (CW.seq (rg ?_)))
 refine pu 1 [(58, Pt b67)] ?_
 refine OW.ld rfl rfl rfl rfl (by kernel_rfl) (hst.blk 5 rfl rfl) (nx (CW.block (rg ?_)))
 refine pu 2 [(60, .bool (x61.Op == 21))] (nx ?_)
 refine br ((x61.Op == 21)) hF (fun hF hc70 => ?_) (fun hF hc70 => ?_)
 ·refine rg ?_
  refine pu 2 [(62, Pt b1), (63, .pointer (some ⟨b67, 4, none⟩))] ?_
  refine OW.ld rfl rfl rfl rfl (by kernel_rfl) (hst.blk 5 rfl rfl) ?_
  have hst := hst.toIt 3 rfl (fun _ => rfl) (by decide)
  have hst := hst.toIt 4 rfl (fun _ => rfl) (by decide)
  obtain ⟨S79, hst⟩ := hst.shutP2 (R_t129 (Pt b2)) rfl 0 3 4 [1, 2, 5] rfl rfl rfl rfl (engine_Machine.mk p0.Event p0.module p0.regs p0.turns p0.at_ (w64 (p0.steps + 1)) p0.state) rfl rfl
  obtain ⟨r80, hr81, hF⟩ := bs hF
  refine OW.fn rfl rfl rfl rfl (by kernel_rfl) (engine_Machine_call_ok _ fu (Pt b1) S79 (engine_Machine.mk p0.Event p0.module p0.regs p0.turns p0.at_ (w64 (p0.steps + 1)) p0.state) x61.Imm (Pt b2) S1 g0 r80 hr81 (hst.part [3, 0] rfl) (hT1.give hst [3, 0])) ?_
  rintro e w82 ⟨S84, S85, rfl, hst83⟩
  refine ⟨_, rfl, ?_⟩
  have hst := hst.join (idx := [3, 0]) (rest := [1, 2]) rfl hst83
  refine OW.stB hst 2 rfl rfl rfl rfl rfl (by kernel_rfl) rfl rfl [I r80.1.Kind, I r80.1.Pc, I r80.1.Item.Map, I r80.1.Item.Op, U r80.1.Item.Key, U r80.1.Item.Val, U r80.1.Val] rfl ?_
  intro w86 hst
  refine nx (CW.ret (QW.block_ret (QW.then_ret ?_)))
  obtain rfl := inj hF
  refine QW.ret_c rfl rfl (run_loadN (cs := [I r80.1.Kind, I r80.1.Pc, I r80.1.Item.Map, I r80.1.Item.Op, U r80.1.Item.Key, U r80.1.Item.Val, U r80.1.Val]) (by kernel_rfl) (by kernel_rfl) (hst.blkN 2 rfl 0 7)) ?_
  exact ⟨S84, S85, rfl, hst.keep [0, 1] rfl⟩
 refine rg ?_
 refine pu 2 [(66, .bool (x61.Op == 22))] (nx ?_)
 refine br ((x61.Op == 22)) hF (fun hF hc87 => ?_) (fun hF hc87 => ?_)
 ·refine rg ?_
  refine pu 3 [(70, .pointer (some ⟨b1, 79, none⟩))] ?_
  refine OW.stB hst 0 rfl rfl rfl rfl rfl (by kernel_rfl) rfl rfl [U p0.Event.A, U p0.Event.B, .slice a12 (p0.module.Maps).length c13, .slice a15 (p0.module.Code).length c16, Pt b2, U (p0.regs 0), U (p0.regs 1), U (p0.regs 2), U (p0.regs 3), U (p0.regs 4), U (p0.regs 5), U (p0.regs 6), U (p0.regs 7), I (p0.turns 0), I (p0.turns 1), I (p0.turns 2), I (p0.turns 3), I (p0.turns 4), I (p0.turns 5), I (p0.turns 6), I (p0.turns 7), I (p0.turns 8), I (p0.turns 9), I (p0.turns 10), I (p0.turns 11), I (p0.turns 12), I (p0.turns 13), I (p0.turns 14), I (p0.turns 15), I (p0.turns 16), I (p0.turns 17), I (p0.turns 18), I (p0.turns 19), I (p0.turns 20), I (p0.turns 21), I (p0.turns 22), I (p0.turns 23), I (p0.turns 24), I (p0.turns 25), I (p0.turns 26), I (p0.turns 27), I (p0.turns 28), I (p0.turns 29), I (p0.turns 30), I (p0.turns 31), I (p0.turns 32), I (p0.turns 33), I (p0.turns 34), I (p0.turns 35), I (p0.turns 36), I (p0.turns 37), I (p0.turns 38), I (p0.turns 39), I (p0.turns 40), I (p0.turns 41), I (p0.turns 42), I (p0.turns 43), I (p0.turns 44), I (p0.turns 45), I (p0.turns 46), I (p0.turns 47), I (p0.turns 48), I (p0.turns 49), I (p0.turns 50), I (p0.turns 51), I (p0.turns 52), I (p0.turns 53), I (p0.turns 54), I (p0.turns 55), I (p0.turns 56), I (p0.turns 57), I (p0.turns 58), I (p0.turns 59), I (p0.turns 60), I (p0.turns 61), I (p0.turns 62), I (p0.turns 63), I p0.at_, I (w64 (p0.steps + 1)), I 2] rfl ?_
  intro w89 hst
  refine nx (CW.seq ?_)
  refine CW.tail 12 (by kernel_rfl) (by kernel_rfl) ?_
  intro w95 hch96
  have hst := hst.same hch96
  refine OS.pure 3 [(73, .pointer (some ⟨b1, 77, none⟩))] rfl (by kernel_rfl) ?_
  refine OS.ld rfl rfl rfl rfl rfl (by kernel_rfl) (hst.blk 0 rfl rfl) ?_
  refine OS.pure 2 [(75, Pt b1), (76, .pointer (some ⟨b67, 2, none⟩))] rfl (by kernel_rfl) ?_
  refine OS.ld rfl rfl rfl rfl rfl (by kernel_rfl) (hst.blk 5 rfl rfl) ?_
  refine OS.pure 2 [(79, .pointer (some ⟨b1, 5, none⟩))] rfl (by kernel_rfl) ?_
  obtain ⟨i97, hi98, hF⟩ := bs hF
  refine OS.op (v := .pointer (some ⟨b1, 5 + Int.toNat x61.A * 1, none⟩)) rfl rfl rfl rfl rfl (fun a ha => aidx_run (n := 8) 22 1 rfl rfl rfl (ain_some hi98).1 (ain_some hi98).2.1 (by kernel_rfl) (by kernel_rfl) a _ ha) ?_
  refine OS.ld rfl rfl rfl rfl rfl (by kernel_rfl) (hst.arrB 0 rfl (encInt .u64) (fun _ => rfl) 8 p0.regs 5 rfl rfl hi98 0 _ rfl) ?_
  refine OS.pure 1 [(82, .agg [I 4, I p0.at_, I 0, I 0, U 0, U 0, U (p0.regs i97)].toArray)] rfl (by kernel_rfl) ?_
  refine OS.on ?_
  refine OW.stB hst 2 rfl rfl rfl rfl rfl (by kernel_rfl) rfl rfl [I 4, I p0.at_, I 0, I 0, U 0, U 0, U (p0.regs i97)] rfl ?_
  intro w99 hst
  refine nx (CW.ret (QW.block_ret (QW.then_ret ?_)))
  have hst := hst.toIt 3 rfl (fun _ => rfl) (by decide)
  have hst := hst.toIt 4 rfl (fun _ => rfl) (by decide)
  obtain ⟨S100, hst⟩ := hst.shutP2 (R_t129 (Pt b2)) rfl 0 3 4 [1, 2, 5] rfl rfl rfl rfl (engine_Machine.mk p0.Event p0.module p0.regs p0.turns p0.at_ (w64 (p0.steps + 1)) 2) rfl rfl
  obtain rfl := inj hF
  refine QW.ret_c rfl rfl (run_loadN (cs := [I 4, I p0.at_, I 0, I 0, U 0, U 0, U (p0.regs i97)]) (by kernel_rfl) (by kernel_rfl) (hst.blkN 1 rfl 0 7)) ?_
  exact ⟨S100, S1, rfl, hst.keep [3, 0] rfl⟩
 refine CW.skip (QW.block_normal (QW.next (rg ?_)))
 refine pu 3 [(85, .pointer (some ⟨b1, 77, none⟩))] ?_
 refine OW.ld rfl rfl rfl rfl (by kernel_rfl) (hst.blk 0 rfl rfl) ?_
 refine pu 1 [(87, .agg [I 1, I p0.at_, I 0, I 0, U 0, U 0, U 0].toArray)] ?_
 refine OW.alloc hst rfl rfl rfl [I 0, I 0, I 0, I 0, U 0, U 0, U 0] (by kernel_rfl) ?_
 intro b104 w105 hst
 refine OW.stB hst 6 rfl rfl rfl rfl rfl (by kernel_rfl) rfl rfl [I 1, I p0.at_, I 0, I 0, U 0, U 0, U 0] rfl ?_
 intro w106 hst
 refine nx (CW.seq ?_)
 refine CW.plan (by kernel_rfl) ?_
 intro w128 hch129
 have hst := hst.same hch129
 refine OA.pure [0, 1, 2] [(88, Pt b1), (90, .pointer (some ⟨b1, 77, none⟩))] (by kernel_rfl) ?_
 refine OA.ld (i := 3) rfl (by kernel_rfl) rfl rfl rfl (by kernel_rfl) (hst.blk 0 rfl rfl) ?_
 refine OA.pure [4] [(92, Pt b1)] (by kernel_rfl) ?_
 refine OA.ldN (i := 5) (cs := [I x61.Op, I x61.D, I x61.A, I x61.B, I x61.Imm]) rfl (by kernel_rfl) rfl rfl rfl (by kernel_rfl) (by kernel_rfl) (hst.blkN 5 rfl 0 5) ?_
 refine OA.act (i := 6) [3] (by kernel_rfl) rfl rfl (by kernel_rfl) (by kernel_rfl) ?_
 have hst := hst.toIt 3 rfl (fun _ => rfl) (by decide)
 have hst := hst.toIt 4 rfl (fun _ => rfl) (by decide)
 obtain ⟨S130, hst⟩ := hst.shutP2 (R_t129 (Pt b2)) rfl 0 3 4 [1, 2, 5, 6] rfl rfl rfl rfl (engine_Machine.mk p0.Event p0.module p0.regs p0.turns p0.at_ (w64 (p0.steps + 1)) p0.state) rfl rfl
 obtain ⟨r131, hr132, hF⟩ := bs hF
 refine OW.fn rfl rfl rfl rfl (by kernel_rfl) (engine_Machine_run_ok _ (Pt b1) S130 (engine_Machine.mk p0.Event p0.module p0.regs p0.turns p0.at_ (w64 (p0.steps + 1)) p0.state) x61 (Pt b2) S1 g0 r131 hr132 (hst.part [4, 0] rfl)) ?_
 rintro e w133 ⟨S135, S136, rfl, hst134⟩
 refine ⟨_, rfl, ?_⟩
 have hk137 := engine_Machine_run_keeps_at_ hr132
 have hst := hst.join (idx := [4, 0]) (rest := [1, 2, 3]) rfl hst134
 obtain ⟨v138, S139, v140, S141, hst⟩ := hst.openQ2 0 rfl rfl rfl
 have hst := hst.toRow1 5 rfl
 have hst := hst.toRow1 6 rfl
 obtain ⟨l142, a143, c144, rfl⟩ := hst.len 5 rfl
 obtain ⟨l145, a146, c147, rfl⟩ := hst.len 6 rfl
 have hst : St _ _ _ [blkI b1 129 [U r131.2.1.Event.A, U r131.2.1.Event.B, .slice a143 (r131.2.1.module.Maps).length c144, .slice a146 (r131.2.1.module.Code).length c147, Pt b2, U (r131.2.1.regs 0), U (r131.2.1.regs 1), U (r131.2.1.regs 2), U (r131.2.1.regs 3), U (r131.2.1.regs 4), U (r131.2.1.regs 5), U (r131.2.1.regs 6), U (r131.2.1.regs 7), I (r131.2.1.turns 0), I (r131.2.1.turns 1), I (r131.2.1.turns 2), I (r131.2.1.turns 3), I (r131.2.1.turns 4), I (r131.2.1.turns 5), I (r131.2.1.turns 6), I (r131.2.1.turns 7), I (r131.2.1.turns 8), I (r131.2.1.turns 9), I (r131.2.1.turns 10), I (r131.2.1.turns 11), I (r131.2.1.turns 12), I (r131.2.1.turns 13), I (r131.2.1.turns 14), I (r131.2.1.turns 15), I (r131.2.1.turns 16), I (r131.2.1.turns 17), I (r131.2.1.turns 18), I (r131.2.1.turns 19), I (r131.2.1.turns 20), I (r131.2.1.turns 21), I (r131.2.1.turns 22), I (r131.2.1.turns 23), I (r131.2.1.turns 24), I (r131.2.1.turns 25), I (r131.2.1.turns 26), I (r131.2.1.turns 27), I (r131.2.1.turns 28), I (r131.2.1.turns 29), I (r131.2.1.turns 30), I (r131.2.1.turns 31), I (r131.2.1.turns 32), I (r131.2.1.turns 33), I (r131.2.1.turns 34), I (r131.2.1.turns 35), I (r131.2.1.turns 36), I (r131.2.1.turns 37), I (r131.2.1.turns 38), I (r131.2.1.turns 39), I (r131.2.1.turns 40), I (r131.2.1.turns 41), I (r131.2.1.turns 42), I (r131.2.1.turns 43), I (r131.2.1.turns 44), I (r131.2.1.turns 45), I (r131.2.1.turns 46), I (r131.2.1.turns 47), I (r131.2.1.turns 48), I (r131.2.1.turns 49), I (r131.2.1.turns 50), I (r131.2.1.turns 51), I (r131.2.1.turns 52), I (r131.2.1.turns 53), I (r131.2.1.turns 54), I (r131.2.1.turns 55), I (r131.2.1.turns 56), I (r131.2.1.turns 57), I (r131.2.1.turns 58), I (r131.2.1.turns 59), I (r131.2.1.turns 60), I (r131.2.1.turns 61), I (r131.2.1.turns 62), I (r131.2.1.turns 63), I r131.2.1.at_, I r131.2.1.steps, I r131.2.1.state], _, _, _, _, _, _] := hst
 refine OA.next ⟨((hst.blk 0 rfl rfl).trans (congrArg some (congrArg (Value.int .i64) hk137))), trivial⟩ ?_
 refine OA.pure [7, 8, 9] [(95, I (w64 (p0.at_ + r131.1))), (97, .pointer (some ⟨b1, 77, none⟩))] (by kernel_rfl) ?_
 refine OA.act (i := 10) [] (by kernel_rfl) rfl rfl (by kernel_rfl) (by kernel_rfl) ?_
 refine OW.stB hst 0 rfl rfl rfl rfl rfl (by kernel_rfl) rfl rfl [U r131.2.1.Event.A, U r131.2.1.Event.B, .slice a143 (r131.2.1.module.Maps).length c144, .slice a146 (r131.2.1.module.Code).length c147, Pt b2, U (r131.2.1.regs 0), U (r131.2.1.regs 1), U (r131.2.1.regs 2), U (r131.2.1.regs 3), U (r131.2.1.regs 4), U (r131.2.1.regs 5), U (r131.2.1.regs 6), U (r131.2.1.regs 7), I (r131.2.1.turns 0), I (r131.2.1.turns 1), I (r131.2.1.turns 2), I (r131.2.1.turns 3), I (r131.2.1.turns 4), I (r131.2.1.turns 5), I (r131.2.1.turns 6), I (r131.2.1.turns 7), I (r131.2.1.turns 8), I (r131.2.1.turns 9), I (r131.2.1.turns 10), I (r131.2.1.turns 11), I (r131.2.1.turns 12), I (r131.2.1.turns 13), I (r131.2.1.turns 14), I (r131.2.1.turns 15), I (r131.2.1.turns 16), I (r131.2.1.turns 17), I (r131.2.1.turns 18), I (r131.2.1.turns 19), I (r131.2.1.turns 20), I (r131.2.1.turns 21), I (r131.2.1.turns 22), I (r131.2.1.turns 23), I (r131.2.1.turns 24), I (r131.2.1.turns 25), I (r131.2.1.turns 26), I (r131.2.1.turns 27), I (r131.2.1.turns 28), I (r131.2.1.turns 29), I (r131.2.1.turns 30), I (r131.2.1.turns 31), I (r131.2.1.turns 32), I (r131.2.1.turns 33), I (r131.2.1.turns 34), I (r131.2.1.turns 35), I (r131.2.1.turns 36), I (r131.2.1.turns 37), I (r131.2.1.turns 38), I (r131.2.1.turns 39), I (r131.2.1.turns 40), I (r131.2.1.turns 41), I (r131.2.1.turns 42), I (r131.2.1.turns 43), I (r131.2.1.turns 44), I (r131.2.1.turns 45), I (r131.2.1.turns 46), I (r131.2.1.turns 47), I (r131.2.1.turns 48), I (r131.2.1.turns 49), I (r131.2.1.turns 50), I (r131.2.1.turns 51), I (r131.2.1.turns 52), I (r131.2.1.turns 53), I (r131.2.1.turns 54), I (r131.2.1.turns 55), I (r131.2.1.turns 56), I (r131.2.1.turns 57), I (r131.2.1.turns 58), I (r131.2.1.turns 59), I (r131.2.1.turns 60), I (r131.2.1.turns 61), I (r131.2.1.turns 62), I (r131.2.1.turns 63), I (w64 (p0.at_ + r131.1)), I r131.2.1.steps, I r131.2.1.state] rfl ?_
 intro w148 hst
 refine OA.next trivial ?_
 refine OA.fin (by kernel_rfl) (by kernel_rfl) (QW.next (rg ?_))
 refine OW.ldN (cs := [I 1, I p0.at_, I 0, I 0, U 0, U 0, U 0]) rfl rfl rfl rfl (by kernel_rfl) (by kernel_rfl) (hst.blkN 4 rfl 0 7) ?_
 refine OW.stB hst 2 rfl rfl rfl rfl rfl (by kernel_rfl) rfl rfl [I 1, I p0.at_, I 0, I 0, U 0, U 0, U 0] rfl ?_
 intro w150 hst
 refine nx (CW.ret ?_)
 have hst := hst.toIt 5 rfl (fun _ => rfl) (by decide)
 have hst := hst.toIt 6 rfl (fun _ => rfl) (by decide)
 obtain ⟨S151, hst⟩ := hst.shutP2 (R_t129 (Pt b2)) rfl 0 5 6 [1, 2, 3, 4] rfl rfl rfl rfl (engine_Machine.mk r131.2.1.Event r131.2.1.module r131.2.1.regs r131.2.1.turns (w64 (p0.at_ + r131.1)) r131.2.1.steps r131.2.1.state) rfl rfl
 obtain rfl := inj hF
 refine QW.ret_c rfl rfl (run_loadN (cs := [I 1, I p0.at_, I 0, I 0, U 0, U 0, U 0]) (by kernel_rfl) (by kernel_rfl) (hst.blkN 1 rfl 0 7)) ?_
 exact ⟨S151, S136, rfl, hst.keep [4, 0] rfl⟩
theorem engine_Machine_Steps_ok (w : World) (b0 : Nat) (v0_0 : Value) (v0_1 : Value) (v0_2 : Value) (p0 : engine_Machine) (r : Int) (hF : engine_Machine_Steps p0 = some r)
    (hst : St w (fp []) w []) (h0 : RdB w (fp []) b0 [U p0.Event.A, U p0.Event.B, v0_0, v0_1, v0_2, U (p0.regs 0), U (p0.regs 1), U (p0.regs 2), U (p0.regs 3), U (p0.regs 4), U (p0.regs 5), U (p0.regs 6), U (p0.regs 7), I (p0.turns 0), I (p0.turns 1), I (p0.turns 2), I (p0.turns 3), I (p0.turns 4), I (p0.turns 5), I (p0.turns 6), I (p0.turns 7), I (p0.turns 8), I (p0.turns 9), I (p0.turns 10), I (p0.turns 11), I (p0.turns 12), I (p0.turns 13), I (p0.turns 14), I (p0.turns 15), I (p0.turns 16), I (p0.turns 17), I (p0.turns 18), I (p0.turns 19), I (p0.turns 20), I (p0.turns 21), I (p0.turns 22), I (p0.turns 23), I (p0.turns 24), I (p0.turns 25), I (p0.turns 26), I (p0.turns 27), I (p0.turns 28), I (p0.turns 29), I (p0.turns 30), I (p0.turns 31), I (p0.turns 32), I (p0.turns 33), I (p0.turns 34), I (p0.turns 35), I (p0.turns 36), I (p0.turns 37), I (p0.turns 38), I (p0.turns 39), I (p0.turns 40), I (p0.turns 41), I (p0.turns 42), I (p0.turns 43), I (p0.turns 44), I (p0.turns 45), I (p0.turns 46), I (p0.turns 47), I (p0.turns 48), I (p0.turns 49), I (p0.turns 50), I (p0.turns 51), I (p0.turns 52), I (p0.turns 53), I (p0.turns 54), I (p0.turns 55), I (p0.turns 56), I (p0.turns 57), I (p0.turns 58), I (p0.turns 59), I (p0.turns 60), I (p0.turns 61), I (p0.turns 62), I (p0.turns 63), I p0.at_, I p0.steps, I p0.state]) :
    Calls Tryd.prog 28 [Pt b0].toArray w (fun e w' => e = .returned (I r) ∧ St w (fp []) w' []) := by
 refine CW.start (N := 7) Tryd.func28 rfl rfl rfl (rg ?_)
 refine pu 1 [] (nx (rg ?_))
 refine pu 3 [(5, .pointer (some ⟨b0, 78, none⟩))] ?_
 refine OW.ld rfl rfl rfl rfl (by kernel_rfl) (h0.cell hst 78 rfl) ?_
 refine pu 1 [(2, I p0.steps)] (nx (CW.ret ?_))
 obtain rfl := inj hF
 refine QW.ret1 rfl rfl ?_
 exact ⟨rfl, hst.keep [] rfl⟩
theorem stats_known_ok (w : World) (p0 : Int) (r : Bool) (hF : stats_known p0 = some r)
    (hst : St w (fp []) w []) :
    Calls Tryd.prog 29 [I p0].toArray w (fun e w' => e = .returned (.bool r) ∧ St w (fp []) w' []) := by
 refine CW.start (N := 9) Tryd.func29 rfl rfl rfl (rg ?_)
 refine pu 1 [] (nx (CW.seq ?_))
 refine CW.cutK (fun a w1 => Rep 9 [(2, .bool (decide (p0 ≥ 0) && decide (p0 < 4)))] a ∧ St w (fp []) w1 []) ?_ ?_
 ·refine CW.region ?_
  refine pu 3 [(5, .bool (decide (p0 ≥ 0)))] ?_
  refine OW.split 5 rfl (fun hc1 => ?_) (fun hc1 => ?_)
  ·refine pu 4 [(2, .bool (decide (p0 < 4)))] (OW.nil rfl ?_)
   refine QW.say 2 (v := .bool (decide (p0 ≥ 0) && decide (p0 < 4))) rfl (by first | (rw [hc1]; done) | (rw [hc1]; rfl) | simp [hc1]) ?_
   exact QW.meet (fun a ha => ⟨ha.ag, hst.keep [] rfl⟩)
  refine pu 4 [(2, .bool false)] (OW.nil rfl ?_)
  refine QW.say 2 (v := .bool (decide (p0 ≥ 0) && decide (p0 < 4))) rfl (by first | (rw [hc1]; done) | (rw [hc1]; rfl) | simp [hc1]) ?_
  exact QW.meet (fun a ha => ⟨ha.ag, hst.keep [] rfl⟩)
 rintro a w1 ⟨ha, hst⟩
 refine CW.go ?_ ha
 refine CW.ret ?_
 obtain rfl := inj hF
 refine QW.ret1 rfl rfl ?_
 exact ⟨rfl, hst.keep [] rfl⟩
theorem stats_Add_ok (w : World) (v0 : Value) (p0 : List api_Tally) (r : api_Tally) (hF : stats_Add p0 = some r)
    (hst : St w (fp []) w []) (h0 : Rd w (fp []) v0 enc_api_Tally 5 p0) :
    Calls Tryd.prog 42 [v0].toArray w (fun e w' => e = .returned (.agg [U r.Runs, U r.Missed, U r.Steps, U r.Calls, U r.Sum].toArray) ∧ St w (fp []) w' []) := by
 refine CW.start (N := 44) Tryd.func42 rfl rfl rfl ?_
 obtain ⟨l1, a2, c3, rfl⟩ := h0.len
 refine rg ?_
 refine OW.alloc hst rfl rfl rfl [U 0, U 0, U 0, U 0, U 0] (by kernel_rfl) ?_
 intro b6 w7 hst
 refine nx (rg ?_)
 refine OW.alloc hst rfl rfl rfl [U 0, U 0, U 0, U 0, U 0] (by kernel_rfl) ?_
 intro b10 w11 hst
 refine nx (CW.seq (rg ?_))
 refine pu 3 [(6, .slice a2 (p0).length c3), (7, I ((p0).length : Int)), (8, I 0)] (nx ?_)
 obtain ⟨o107, ho108, hF⟩ := bs hF
 refine CW.cutK (fun a w1 => Rep 44 [(2, Pt b6), (3, Pt b10)] a ∧ St w (fp []) w1 [blkI b6 64 [U 0, U 0, U 0, U 0, U 0], blkI b10 64 [U o107.Runs, U o107.Missed, U o107.Steps, U o107.Calls, U o107.Sum]]) ?_ ?_
 ·refine CW.block ?_
  refine CW.loop (fun n a w1 => ∃ (i171 : Nat) (s170 : api_Tally), i171 + n = (p0).length ∧ Rep 44 [(2, Pt b6), (3, Pt b10), (6, .slice a2 (p0).length c3), (7, I ((p0).length : Int)), (8, I (i171 : Int))] a ∧ St w (fp []) w1 [blkI b6 64 [U 0, U 0, U 0, U 0, U 0], blkI b10 64 [U s170.Runs, U s170.Missed, U s170.Steps, U s170.Calls, U s170.Sum]] ∧ forN (stats_Add_l1 p0) (fun (s170 : api_Tally) => s170) n i171 s170 = some o107) (p0).length (fun a ha => ⟨0, (api_Tally.mk 0 0 0 0 0), Nat.zero_add _, ha.ag, hst.keep [0, 1] rfl, ho108⟩) ?_
  rintro n168 a w1 ⟨i171, s170, hi172, ha, hst, hl169⟩
  refine CW.go ?_ ha
  refine rg ?_
  refine pu 1 [(9, .bool (decide ((i171 : Int) < ((p0).length : Int))))] (nx (CW.seq ?_))
  rcases bft (decide ((i171 : Int) < ((p0).length : Int))) with hc173 | hc173
  ·rcases n168 with _ | n168
   ·exact (cnt0 hi172 hc173).elim
   refine CW.cond_t rfl hc173 (CW.skip (QW.next (CW.seq (CW.block (rg ?_)))))
   obtain ⟨x183, hx184, hl169⟩ := bs hl169
   obtain ⟨g186, o187, c188, hv185⟩ := h0.formv (fun _ => ⟨_, rfl⟩) hx184
   refine OW.idx 64 5 rfl rfl rfl rfl hv185 rfl (idx_some hx184).1 (idx_some hx184).2.1 (by kernel_rfl) (by kernel_rfl) ?_
   refine OW.ldN (cs := enc_api_Tally x183) rfl rfl rfl rfl (by kernel_rfl) (by kernel_rfl) (h0.cellv hst hx184 hv185) ?_
   refine OW.alloc hst rfl rfl rfl [U 0, U 0, U 0, U 0, U 0] (by kernel_rfl) ?_
   intro b189 w190 hst
   refine OW.stB hst 2 rfl rfl rfl rfl rfl (by kernel_rfl) rfl rfl [U x183.Runs, U x183.Missed, U x183.Steps, U x183.Calls, U x183.Sum] rfl ?_
   intro w191 hst
   refine nx (rg ?_)
   refine pu 1 [(12, Pt b10)] ?_
   refine OW.ld rfl rfl rfl rfl (by kernel_rfl) (hst.blk 1 rfl rfl) ?_
   refine pu 1 [(14, Pt b189)] ?_
   refine OW.ld rfl rfl rfl rfl (by kernel_rfl) (hst.blk 2 rfl rfl) ?_
   refine pu 2 [(16, U (wu64 (s170.Runs + x183.Runs))), (17, Pt b10)] ?_
   refine OW.stB hst 1 rfl rfl rfl rfl rfl (by kernel_rfl) rfl rfl [U (wu64 (s170.Runs + x183.Runs)), U s170.Missed, U s170.Steps, U s170.Calls, U s170.Sum] rfl ?_
   intro w193 hst
   refine nx (rg ?_)
   refine pu 1 [(18, .pointer (some ⟨b10, 1, none⟩))] ?_
   refine OW.ld rfl rfl rfl rfl (by kernel_rfl) (hst.blk 1 rfl rfl) ?_
   refine pu 1 [(20, .pointer (some ⟨b189, 1, none⟩))] ?_
   refine OW.ld rfl rfl rfl rfl (by kernel_rfl) (hst.blk 2 rfl rfl) ?_
   refine pu 2 [(22, U (wu64 (s170.Missed + x183.Missed))), (23, .pointer (some ⟨b10, 1, none⟩))] ?_
   refine OW.stB hst 1 rfl rfl rfl rfl rfl (by kernel_rfl) rfl rfl [U (wu64 (s170.Runs + x183.Runs)), U (wu64 (s170.Missed + x183.Missed)), U s170.Steps, U s170.Calls, U s170.Sum] rfl ?_
   intro w195 hst
   refine nx (rg ?_)
   refine pu 1 [(24, .pointer (some ⟨b10, 2, none⟩))] ?_
   refine OW.ld rfl rfl rfl rfl (by kernel_rfl) (hst.blk 1 rfl rfl) ?_
   refine pu 1 [(26, .pointer (some ⟨b189, 2, none⟩))] ?_
   refine OW.ld rfl rfl rfl rfl (by kernel_rfl) (hst.blk 2 rfl rfl) ?_
   refine pu 2 [(28, U (wu64 (s170.Steps + x183.Steps))), (29, .pointer (some ⟨b10, 2, none⟩))] ?_
   refine OW.stB hst 1 rfl rfl rfl rfl rfl (by kernel_rfl) rfl rfl [U (wu64 (s170.Runs + x183.Runs)), U (wu64 (s170.Missed + x183.Missed)), U (wu64 (s170.Steps + x183.Steps)), U s170.Calls, U s170.Sum] rfl ?_
   intro w197 hst
   refine nx (rg ?_)
   refine pu 1 [(30, .pointer (some ⟨b10, 3, none⟩))] ?_
   refine OW.ld rfl rfl rfl rfl (by kernel_rfl) (hst.blk 1 rfl rfl) ?_
   refine pu 1 [(32, .pointer (some ⟨b189, 3, none⟩))] ?_
   refine OW.ld rfl rfl rfl rfl (by kernel_rfl) (hst.blk 2 rfl rfl) ?_
   refine pu 2 [(34, U (wu64 (s170.Calls + x183.Calls))), (35, .pointer (some ⟨b10, 3, none⟩))] ?_
   refine OW.stB hst 1 rfl rfl rfl rfl rfl (by kernel_rfl) rfl rfl [U (wu64 (s170.Runs + x183.Runs)), U (wu64 (s170.Missed + x183.Missed)), U (wu64 (s170.Steps + x183.Steps)), U (wu64 (s170.Calls + x183.Calls)), U s170.Sum] rfl ?_
   intro w199 hst
   refine nx (CW.region ?_)
   refine pu 1 [(36, .pointer (some ⟨b10, 4, none⟩))] ?_
   refine OW.ld rfl rfl rfl rfl (by kernel_rfl) (hst.blk 1 rfl rfl) ?_
   refine pu 1 [(38, .pointer (some ⟨b189, 4, none⟩))] ?_
   refine OW.ld rfl rfl rfl rfl (by kernel_rfl) (hst.blk 2 rfl rfl) ?_
   refine pu 2 [(40, U (wu64 (s170.Sum + x183.Sum))), (41, .pointer (some ⟨b10, 4, none⟩))] ?_
   refine OW.stB hst 1 rfl rfl rfl rfl rfl (by kernel_rfl) rfl rfl [U (wu64 (s170.Runs + x183.Runs)), U (wu64 (s170.Missed + x183.Missed)), U (wu64 (s170.Steps + x183.Steps)), U (wu64 (s170.Calls + x183.Calls)), U (wu64 (s170.Sum + x183.Sum))] rfl ?_
   intro w201 hst
   refine OW.nil rfl (QW.block_normal (QW.next (CW.region ?_)))
   refine pu 2 [(8, I (w64 ((i171 : Int) + 1)))] (OW.nil rfl ?_)
   refine QW.say 8 rfl (congrArg (Value.int .i64) (w64_cnt hc173 l1)) ?_
   exact QW.meet (fun a ha => ⟨n168, Nat.lt_succ_self _, i171 + 1, (api_Tally.mk (wu64 (s170.Runs + x183.Runs)) (wu64 (s170.Missed + x183.Missed)) (wu64 (s170.Steps + x183.Steps)) (wu64 (s170.Calls + x183.Calls)) (wu64 (s170.Sum + x183.Sum))), cnt_next hi172, ha.ag, hst.keep [0, 1] rfl, hl169⟩)
  rcases n168 with _ | n168
  ·refine CW.cond_f rfl hc173 ?_
   refine CW.exit (QW.then_exit (QW.then_exit ?_))
   refine QW.block_here ?_
   obtain rfl := inj hl169
   exact QW.meet (fun a ha => ⟨ha.ag, hst.keep [0, 1] rfl⟩)
  exact (cnt1 hi172 hc173).elim
 rintro a w1 ⟨ha, hst⟩
 refine CW.go ?_ ha
 refine rg ?_
 refine OW.ldN (cs := [U o107.Runs, U o107.Missed, U o107.Steps, U o107.Calls, U o107.Sum]) rfl rfl rfl rfl (by kernel_rfl) (by kernel_rfl) (hst.blkN 1 rfl 0 5) ?_
 refine OW.stB hst 0 rfl rfl rfl rfl rfl (by kernel_rfl) rfl rfl [U o107.Runs, U o107.Missed, U o107.Steps, U o107.Calls, U o107.Sum] rfl ?_
 intro w203 hst
 refine nx (CW.ret ?_)
 obtain rfl := inj hF
 refine QW.ret_c rfl rfl (run_loadN (cs := [U o107.Runs, U o107.Missed, U o107.Steps, U o107.Calls, U o107.Sum]) (by kernel_rfl) (by kernel_rfl) (hst.blkN 0 rfl 0 5)) ?_
 exact ⟨rfl, hst.keep [] rfl⟩
theorem stats_Stats_Ran_ok (w : World) (v0 : Value) (S0 : List Nat) (p0 : stats_Stats) (p1 : Int) (p2 : Int) (p3 : Int) (p4 : Int) (r : Int × stats_Stats) (hF : stats_Stats_Ran p0 p1 p2 p3 p4 = some r)
    (hst : St w (fp [itI R_t68 [v0] S0 p0]) w [itI R_t68 [v0] S0 p0]) :
    Calls Tryd.prog 27 [v0, I p1, U p2, U p3, U p4].toArray w (fun e w' => ∃ (s0 : List Nat), e = .returned (I r.1) ∧ St w (fp [itI R_t68 [v0] S0 p0]) w' [itI R_t68 [v0] s0 r.2]) := by
 refine CW.start (N := 31) Tryd.func27 rfl rfl rfl ?_
 obtain ⟨b1, rfl⟩ := hst.fptr 0 rfl
 refine rg ?_
 refine pu 1 [] (nx (CW.seq (rg ?_)))
 refine pu 1 [(11, I p1)] ?_
 obtain ⟨r6, hr7, hF⟩ := bs hF
 refine OW.fn rfl rfl rfl rfl (by kernel_rfl) (stats_known_ok _ p1 r6 hr7 (hst.part [] rfl)) ?_
 rintro e w8 ⟨rfl, hst9⟩
 refine ⟨_, rfl, ?_⟩
 have hst := hst.join (idx := []) (rest := [0]) rfl hst9
 refine pu 1 [(13, .bool (!r6))] (nx ?_)
 refine br ((!r6)) hF (fun hF hc10 => ?_) (fun hF hc10 => ?_)
 ·refine rg ?_
  refine pu 1 [(10, I 2)] (nx (CW.ret (QW.then_ret ?_)))
  obtain rfl := inj hF
  refine QW.ret1 rfl rfl ?_
  exact ⟨S0, rfl, hst.keep [0] rfl⟩
 refine CW.skip (QW.next (CW.seq ?_))
 have hst := hst.openQ0 0 rfl
 refine CW.plan (by kernel_rfl) ?_
 intro w22 hch23
 have hst := hst.same hch23
 refine OA.pure [0, 1, 2, 3, 4, 5] [(14, Pt b1), (15, I p1), (17, I p1), (19, Pt b1)] (by kernel_rfl) ?_
 obtain ⟨i24, hi25, hF⟩ := bs hF
 refine OA.val (i := 6) (v := .pointer (some ⟨b1, 0 + Int.toNat p1 * 5, none⟩)) rfl (by kernel_rfl) rfl rfl rfl rfl (fun a w ha => aidx_run (n := 4) 64 5 rfl rfl rfl (ain_some hi25).1 (ain_some hi25).2.1 (by kernel_rfl) (by kernel_rfl) a w ha) ?_
 refine OA.ldN (i := 7) (cs := enc_api_Tally (p0.hooks i24)) rfl (by kernel_rfl) rfl rfl rfl (by kernel_rfl) (by kernel_rfl) (hst.arrB 0 rfl enc_api_Tally (fun _ => rfl) 4 p0.hooks 0 rfl rfl hi25) ?_
 refine OA.pure [8, 9, 10, 11, 14, 15] [(25, .agg [U 1, U 0, U p2, U p3, U p4].toArray), (29, Pt b1)] (by kernel_rfl) ?_
 refine OA.act (i := 12) [] (by kernel_rfl) rfl rfl (by kernel_rfl) (by kernel_rfl) ?_
 refine OW.row (α := api_Tally) (e := 64) (enc := enc_api_Tally) (sz := 5) hst rfl rfl rfl [(p0.hooks i24), (api_Tally.mk 1 0 p2 p3 p4)] rfl (fun _ => rfl) rfl rfl (fun _ => by kernel_rfl) ?_
 intro g26 w27 hst
 refine OA.next trivial ?_
 refine OA.act (i := 13) [] (by kernel_rfl) rfl rfl (by kernel_rfl) (by kernel_rfl) ?_
 obtain ⟨r28, hr29, hF⟩ := bs hF
 refine OW.fn rfl rfl rfl rfl (by kernel_rfl) (stats_Add_ok _ (.slice (some ⟨g26, 0, none⟩) 2 2) ([(p0.hooks i24), (api_Tally.mk 1 0 p2 p3 p4)]) r28 hr29 (hst.part [] rfl) (hst.rd 1 rfl (fun _ => rfl) [] rfl (hst.len 1 rfl).1)) ?_
 rintro e w30 ⟨rfl, hst31⟩
 refine ⟨_, rfl, ?_⟩
 have hst := hst.join (idx := []) (rest := [0, 1]) rfl hst31
 refine OA.next trivial ?_
 refine OA.val (i := 16) (v := .pointer (some ⟨b1, 0 + Int.toNat p1 * 5, none⟩)) rfl (by kernel_rfl) rfl rfl rfl rfl (fun a w ha => aidx_run (n := 4) 64 5 rfl rfl rfl (ain_some hi25).1 (ain_some hi25).2.1 (by kernel_rfl) (by kernel_rfl) a w ha) ?_
 refine OA.act (i := 17) [] (by kernel_rfl) rfl rfl (by kernel_rfl) (by kernel_rfl) ?_
 refine OW.stA hst 0 rfl rfl rfl rfl rfl (by kernel_rfl) rfl enc_api_Tally (fun _ => rfl) 4 p0.hooks 0 rfl rfl hi25 0 rfl rfl r28 rfl [U ((aset p0.hooks i24 r28) 0).Runs, U ((aset p0.hooks i24 r28) 0).Missed, U ((aset p0.hooks i24 r28) 0).Steps, U ((aset p0.hooks i24 r28) 0).Calls, U ((aset p0.hooks i24 r28) 0).Sum, U ((aset p0.hooks i24 r28) 1).Runs, U ((aset p0.hooks i24 r28) 1).Missed, U ((aset p0.hooks i24 r28) 1).Steps, U ((aset p0.hooks i24 r28) 1).Calls, U ((aset p0.hooks i24 r28) 1).Sum, U ((aset p0.hooks i24 r28) 2).Runs, U ((aset p0.hooks i24 r28) 2).Missed, U ((aset p0.hooks i24 r28) 2).Steps, U ((aset p0.hooks i24 r28) 2).Calls, U ((aset p0.hooks i24 r28) 2).Sum, U ((aset p0.hooks i24 r28) 3).Runs, U ((aset p0.hooks i24 r28) 3).Missed, U ((aset p0.hooks i24 r28) 3).Steps, U ((aset p0.hooks i24 r28) 3).Calls, U ((aset p0.hooks i24 r28) 3).Sum] rfl ?_
 intro w33 hst
 refine OA.next trivial ?_
 refine OA.fin (by kernel_rfl) (by kernel_rfl) (QW.next (rg ?_))
 refine pu 1 [(10, I 0)] (nx (CW.ret ?_))
 have hst := hst.shutP0 (enc := enc_stats_Stats) (sz := 20) (he := fun _ => rfl) 0 rfl (stats_Stats.mk (aset p0.hooks i24 r28)) rfl
 obtain rfl := inj hF
 refine QW.ret1 rfl rfl ?_
 exact ⟨([b1]), rfl, hst.keep [0] rfl⟩
theorem worker_Worker_rest_ok (w : World) (v0 : Value) (S0 : List Nat) (p0 : worker_Worker) (r : worker_Worker) (hF : worker_Worker_rest p0 = some r)
    (hst : St w (fp [itI R_t33 [v0] S0 p0]) w [itI R_t33 [v0] S0 p0]) :
    Calls Tryd.prog 24 [v0].toArray w (fun e w' => ∃ (s0 : List Nat), e = .returned (.tuple #[]) ∧ St w (fp [itI R_t33 [v0] S0 p0]) w' [itI R_t33 [v0] s0 r]) := by
 refine CW.start (N := 9) Tryd.func24 rfl rfl rfl ?_
 obtain ⟨b1, rfl⟩ := hst.fptr 0 rfl
 obtain ⟨v2, S3, v4, S5, v6, S7, hst⟩ := hst.openD3 0 rfl rfl rfl rfl
 obtain ⟨b8, rfl⟩ := hst.fptr 1 rfl
 obtain ⟨b9, rfl⟩ := hst.fptr 2 rfl
 have hst : St _ _ _ [blkI b1 73 [Pt b8, Pt b9, I p0.mode_, I p0.job.hook, I p0.job.event.N, U p0.job.event.Event.A, U p0.job.event.Event.B, I p0.job.version, I p0.job.prog, U p0.job.calls, v6], _, _, _] := hst
 refine CW.region ?_
 refine pu 5 [(3, Pt b1), (4, .agg [I 0, I 0, U 0, U 0, I 0, I 0, U 0, .pointer none].toArray), (6, .pointer (some ⟨b1, 2, none⟩))] ?_
 refine OW.stB hst 0 rfl rfl rfl rfl rfl (by kernel_rfl) rfl rfl [Pt b8, Pt b9, I 0, I p0.job.hook, I p0.job.event.N, U p0.job.event.Event.A, U p0.job.event.Event.B, I p0.job.version, I p0.job.prog, U p0.job.calls, v6] rfl ?_
 intro w12 hst
 refine pu 2 [(8, .pointer (some ⟨b1, 3, none⟩))] ?_
 refine OW.stB hst 0 rfl rfl rfl rfl rfl (by kernel_rfl) rfl rfl [Pt b8, Pt b9, I 0, I 0, I 0, U 0, U 0, I 0, I 0, U 0, .pointer none] rfl ?_
 intro w13 hst
 refine OW.nil rfl ?_
 have hst := hst.optNil 129 (R_t129 (Pt b8))
 obtain ⟨S14, hst⟩ := hst.shutD3 R_t73 rfl 0 1 2 4 [3] rfl rfl rfl rfl rfl (worker_Worker.mk p0.Scratch p0.Stats 0 (worker_job.mk 0 (api_Queued.mk 0 (api_Event.mk 0 0)) 0 0 0 none)) rfl rfl
 obtain rfl := inj hF
 refine QW.end0 rfl ?_
 exact ⟨S14, rfl, hst.keep [1] rfl⟩
theorem worker_Worker_Step_ok (w : World) (fu : Nat) (v0 : Value) (S0 : List Nat) (p0 : worker_Worker) (r : api_Act × Bool × worker_Worker) (hF : worker_Worker_Step fu p0 = some r)
    (hst : St w (fp [itI R_t33 [v0] S0 p0]) w [itI R_t33 [v0] S0 p0]) (hT1 : Rd w (fp [itI R_t33 [v0] S0 p0]) (.slice (some ⟨1, 0, none⟩) 7 7) enc_sigs_sig 5 tab_g1) :
    Calls Tryd.prog 16 [v0].toArray w (fun e w' => ∃ (s0 : List Nat), e = .returned (.tuple #[.agg [I r.1.Kind, I r.1.Pc, I r.1.Item.Map, I r.1.Item.Op, U r.1.Item.Key, U r.1.Item.Val, U r.1.Val].toArray, .bool r.2.1]) ∧ St w (fp [itI R_t33 [v0] S0 p0]) w' [itI R_t33 [v0] s0 r.2.2]) := by
 refine CW.start (N := 62) Tryd.func16 rfl rfl rfl ?_
 obtain ⟨b1, rfl⟩ := hst.fptr 0 rfl
 refine rg ?_
 refine OW.alloc hst rfl rfl rfl [I 0, I 0, I 0, I 0, U 0, U 0, U 0] (by kernel_rfl) ?_
 intro b4 w5 hst
 refine pu 1 [] (nx (CW.seq (CW.seq ?_)))
 obtain ⟨v6, S7, v8, S9, v10, S11, hst⟩ := hst.openD3 0 rfl rfl rfl rfl
 obtain ⟨b12, rfl⟩ := hst.fptr 2 rfl
 obtain ⟨b13, rfl⟩ := hst.fptr 3 rfl
 have hst : St _ _ _ [blkI b1 73 [Pt b12, Pt b13, I p0.mode_, I p0.job.hook, I p0.job.event.N, U p0.job.event.Event.A, U p0.job.event.Event.B, I p0.job.version, I p0.job.prog, U p0.job.calls, v10], _, _, _, _] := hst
 refine CW.region ?_
 refine pu 3 [(7, .pointer (some ⟨b1, 2, none⟩))] ?_
 refine OW.ld rfl rfl rfl rfl (by kernel_rfl) (hst.blk 0 rfl rfl) ?_
 refine pu 1 [(9, .bool (p0.mode_ != 2))] (nx ?_)
 refine br ((p0.mode_ != 2)) hF (fun hF hc14 => ?_) (fun hF hc14 => ?_)
 ·refine rg ?_
  refine pu 1 [(10, .agg [I 0, I 0, I 0, I 0, U 0, U 0, U 0].toArray)] ?_
  refine OW.stB hst 1 rfl rfl rfl rfl rfl (by kernel_rfl) rfl rfl [I 0, I 0, I 0, I 0, U 0, U 0, U 0] rfl ?_
  intro w16 hst
  refine pu 1 [(3, .bool false)] (nx (CW.ret (QW.then_ret ?_)))
  obtain ⟨S17, hst⟩ := hst.shutD3 R_t73 rfl 0 2 3 4 [1] rfl rfl rfl rfl rfl p0 rfl rfl
  obtain rfl := inj hF
  refine QW.ret_ct rfl rfl (run_loadN (cs := [I 0, I 0, I 0, I 0, U 0, U 0, U 0]) (by kernel_rfl) (by kernel_rfl) (hst.blkN 0 rfl 0 7)) rfl ?_
  exact ⟨S17, rfl, hst.keep [1] rfl⟩
 refine CW.skip (QW.next (rg ?_))
 refine pu 4 [(14, .pointer (some ⟨b1, 10, none⟩))] ?_
 refine OW.ld rfl rfl rfl rfl (by kernel_rfl) (hst.blk 0 rfl rfl) ?_
 obtain ⟨y30, hy31, hF⟩ := bs hF
 have hst := hst.optSome 4 rfl hy31
 obtain ⟨b32, rfl⟩ := hst.fptr 4 rfl
 obtain ⟨r33, hr34, hF⟩ := bs hF
 refine OW.fn rfl rfl rfl rfl (by kernel_rfl) (engine_Machine_Step_ok _ fu (Pt b32) S11 y30 (Pt b12) S7 p0.Scratch r33 hr34 (hst.part [4, 2] rfl) (hT1.give hst [4, 2])) ?_
 rintro e w35 ⟨S37, S38, rfl, hst36⟩
 refine ⟨_, rfl, ?_⟩
 have hst := hst.join (idx := [4, 2]) (rest := [0, 1, 3]) rfl hst36
 refine OW.alloc hst rfl rfl rfl [I 0, I 0, I 0, I 0, U 0, U 0, U 0] (by kernel_rfl) ?_
 intro b39 w40 hst
 refine OW.stB hst 5 rfl rfl rfl rfl rfl (by kernel_rfl) rfl rfl [I r33.1.Kind, I r33.1.Pc, I r33.1.Item.Map, I r33.1.Item.Op, U r33.1.Item.Key, U r33.1.Item.Val, U r33.1.Val] rfl ?_
 intro w41 hst
 refine nx (CW.seq (rg ?_))
 refine pu 1 [(17, Pt b39)] ?_
 refine OW.ld rfl rfl rfl rfl (by kernel_rfl) (hst.blk 5 rfl rfl) (nx (CW.block (rg ?_)))
 refine pu 2 [(19, .bool (r33.1.Kind == 2))] (nx ?_)
 refine br ((r33.1.Kind == 2)) hF (fun hF hc42 => ?_) (fun hF hc42 => ?_)
 ·refine rg ?_
  refine pu 4 [(21, Pt b1), (24, .pointer (some ⟨b1, 9, none⟩))] ?_
  refine OW.ld rfl rfl rfl rfl (by kernel_rfl) (hst.blk 2 rfl rfl) ?_
  refine pu 4 [(26, U (wu64 (p0.job.calls + 1))), (29, .pointer (some ⟨b1, 9, none⟩))] ?_
  refine OW.stB hst 2 rfl rfl rfl rfl rfl (by kernel_rfl) rfl rfl [Pt b12, Pt b13, I p0.mode_, I p0.job.hook, I p0.job.event.N, U p0.job.event.Event.A, U p0.job.event.Event.B, I p0.job.version, I p0.job.prog, U (wu64 (p0.job.calls + 1)), Pt b32] rfl ?_
  intro w44 hst
  refine nx (CW.region ?_)
  refine pu 3 [(32, .pointer (some ⟨b1, 2, none⟩))] ?_
  refine OW.stB hst 2 rfl rfl rfl rfl rfl (by kernel_rfl) rfl rfl [Pt b12, Pt b13, I 3, I p0.job.hook, I p0.job.event.N, U p0.job.event.Event.A, U p0.job.event.Event.B, I p0.job.version, I p0.job.prog, U (wu64 (p0.job.calls + 1)), Pt b32] rfl ?_
  intro w46 hst
  refine OW.nil rfl (QW.block_normal (QW.next (rg ?_)))
  refine OW.ldN (cs := [I r33.1.Kind, I r33.1.Pc, I r33.1.Item.Map, I r33.1.Item.Op, U r33.1.Item.Key, U r33.1.Item.Val, U r33.1.Val]) rfl rfl rfl rfl (by kernel_rfl) (by kernel_rfl) (hst.blkN 5 rfl 0 7) ?_
  refine OW.stB hst 3 rfl rfl rfl rfl rfl (by kernel_rfl) rfl rfl [I r33.1.Kind, I r33.1.Pc, I r33.1.Item.Map, I r33.1.Item.Op, U r33.1.Item.Key, U r33.1.Item.Val, U r33.1.Val] rfl ?_
  intro w48 hst
  refine pu 1 [(3, .bool true)] (nx (CW.ret ?_))
  have hst := hst.toOpt 0 rfl
  obtain ⟨S49, hst⟩ := hst.shutD3 R_t73 rfl 2 1 4 0 [3, 5] rfl rfl rfl rfl rfl (worker_Worker.mk r33.2.2 p0.Stats 3 (worker_job.mk p0.job.hook p0.job.event p0.job.version p0.job.prog (wu64 (p0.job.calls + 1)) (some r33.2.1))) rfl rfl
  obtain rfl := inj hF
  refine QW.ret_ct rfl rfl (run_loadN (cs := [I r33.1.Kind, I r33.1.Pc, I r33.1.Item.Map, I r33.1.Item.Op, U r33.1.Item.Key, U r33.1.Item.Val, U r33.1.Val]) (by kernel_rfl) (by kernel_rfl) (hst.blkN 0 rfl 0 7)) rfl ?_
  exact ⟨S49, rfl, hst.keep [2] rfl⟩
 refine rg ?_
 refine pu 2 [(33, .bool (r33.1.Kind == 4))] (nx ?_)
 refine br ((r33.1.Kind == 4)) hF (fun hF hc50 => ?_) (fun hF hc50 => ?_)
 ·refine CW.seq ?_
  refine CW.plan (by kernel_rfl) ?_
  intro w72 hch73
  have hst := hst.same hch73
  refine OA.pure [0, 1, 2] [(37, .pointer (some ⟨b1, 1, none⟩))] (by kernel_rfl) ?_
  refine OA.ld (i := 3) rfl (by kernel_rfl) rfl rfl rfl (by kernel_rfl) (hst.blk 2 rfl rfl) ?_
  refine OA.pure [4, 5, 6, 7] [(42, .pointer (some ⟨b1, 3, none⟩))] (by kernel_rfl) ?_
  refine OA.ld (i := 8) rfl (by kernel_rfl) rfl rfl rfl (by kernel_rfl) (hst.blk 2 rfl rfl) ?_
  refine OA.pure [9, 10, 11, 12] [(47, .pointer (some ⟨b1, 10, none⟩))] (by kernel_rfl) ?_
  refine OA.ld (i := 13) rfl (by kernel_rfl) rfl rfl rfl (by kernel_rfl) (hst.blk 2 rfl rfl) ?_
  refine OA.pure [16, 17, 18, 19] [(54, .pointer (some ⟨b1, 9, none⟩))] (by kernel_rfl) ?_
  refine OA.ld (i := 20) rfl (by kernel_rfl) rfl rfl rfl (by kernel_rfl) (hst.blk 2 rfl rfl) ?_
  refine OA.pure [21] [(56, .pointer (some ⟨b39, 6, none⟩))] (by kernel_rfl) ?_
  refine OA.ld (i := 22) rfl (by kernel_rfl) rfl rfl rfl (by kernel_rfl) (hst.blk 5 rfl rfl) ?_
  refine OA.act (i := 14) [22, 20, 8, 3] (by kernel_rfl) rfl rfl (by kernel_rfl) (by kernel_rfl) ?_
  obtain ⟨v74, S75, v76, S77, hst⟩ := hst.openQ2 0 rfl rfl rfl
  have hst := hst.toRow1 6 rfl
  have hst := hst.toRow1 7 rfl
  obtain ⟨l78, a79, c80, rfl⟩ := hst.len 6 rfl
  obtain ⟨l81, a82, c83, rfl⟩ := hst.len 7 rfl
  have hst : St _ _ _ [blkI b32 129 [U r33.2.1.Event.A, U r33.2.1.Event.B, .slice a79 (r33.2.1.module.Maps).length c80, .slice a82 (r33.2.1.module.Code).length c83, Pt b12, U (r33.2.1.regs 0), U (r33.2.1.regs 1), U (r33.2.1.regs 2), U (r33.2.1.regs 3), U (r33.2.1.regs 4), U (r33.2.1.regs 5), U (r33.2.1.regs 6), U (r33.2.1.regs 7), I (r33.2.1.turns 0), I (r33.2.1.turns 1), I (r33.2.1.turns 2), I (r33.2.1.turns 3), I (r33.2.1.turns 4), I (r33.2.1.turns 5), I (r33.2.1.turns 6), I (r33.2.1.turns 7), I (r33.2.1.turns 8), I (r33.2.1.turns 9), I (r33.2.1.turns 10), I (r33.2.1.turns 11), I (r33.2.1.turns 12), I (r33.2.1.turns 13), I (r33.2.1.turns 14), I (r33.2.1.turns 15), I (r33.2.1.turns 16), I (r33.2.1.turns 17), I (r33.2.1.turns 18), I (r33.2.1.turns 19), I (r33.2.1.turns 20), I (r33.2.1.turns 21), I (r33.2.1.turns 22), I (r33.2.1.turns 23), I (r33.2.1.turns 24), I (r33.2.1.turns 25), I (r33.2.1.turns 26), I (r33.2.1.turns 27), I (r33.2.1.turns 28), I (r33.2.1.turns 29), I (r33.2.1.turns 30), I (r33.2.1.turns 31), I (r33.2.1.turns 32), I (r33.2.1.turns 33), I (r33.2.1.turns 34), I (r33.2.1.turns 35), I (r33.2.1.turns 36), I (r33.2.1.turns 37), I (r33.2.1.turns 38), I (r33.2.1.turns 39), I (r33.2.1.turns 40), I (r33.2.1.turns 41), I (r33.2.1.turns 42), I (r33.2.1.turns 43), I (r33.2.1.turns 44), I (r33.2.1.turns 45), I (r33.2.1.turns 46), I (r33.2.1.turns 47), I (r33.2.1.turns 48), I (r33.2.1.turns 49), I (r33.2.1.turns 50), I (r33.2.1.turns 51), I (r33.2.1.turns 52), I (r33.2.1.turns 53), I (r33.2.1.turns 54), I (r33.2.1.turns 55), I (r33.2.1.turns 56), I (r33.2.1.turns 57), I (r33.2.1.turns 58), I (r33.2.1.turns 59), I (r33.2.1.turns 60), I (r33.2.1.turns 61), I (r33.2.1.turns 62), I (r33.2.1.turns 63), I r33.2.1.at_, I r33.2.1.steps, I r33.2.1.state], _, _, _, _, _, _, _] := hst
  obtain ⟨r84, hr85, hF⟩ := bs hF
  refine OW.fn rfl rfl rfl rfl (by kernel_rfl) (engine_Machine_Steps_ok _ b32 (.slice a79 (r33.2.1.module.Maps).length c80) (.slice a82 (r33.2.1.module.Code).length c83) (Pt b12) (engine_Machine.mk r33.2.1.Event r33.2.1.module r33.2.1.regs r33.2.1.turns r33.2.1.at_ r33.2.1.steps r33.2.1.state) r84 hr85 (hst.part [] rfl) (hst.rdB 0 rfl [] rfl)) ?_
  rintro e w86 ⟨rfl, hst87⟩
  refine ⟨_, rfl, ?_⟩
  have hst := hst.join (idx := []) (rest := [0, 1, 2, 3, 4, 5, 6, 7]) rfl hst87
  refine OA.next ⟨(hst.blk 5 rfl rfl), (hst.blk 2 rfl rfl), (hst.blk 2 rfl rfl), (hst.blk 2 rfl rfl), trivial⟩ ?_
  refine OA.pure [15] [(50, U (wu64 r84))] (by kernel_rfl) ?_
  refine OA.act (i := 23) [] (by kernel_rfl) rfl rfl (by kernel_rfl) (by kernel_rfl) ?_
  obtain ⟨r88, hr89, hF⟩ := bs hF
  refine OW.fn rfl rfl rfl rfl (by kernel_rfl) (stats_Stats_Ran_ok _ (Pt b13) S9 p0.Stats p0.job.hook (wu64 r84) p0.job.calls r33.1.Val r88 hr89 (hst.part [4] rfl)) ?_
  rintro e w90 ⟨S92, rfl, hst91⟩
  refine ⟨_, rfl, ?_⟩
  have hst := hst.join (idx := [4]) (rest := [0, 1, 2, 3, 5, 6, 7]) rfl hst91
  refine OA.next trivial ?_
  refine OA.fin (by kernel_rfl) (by kernel_rfl) (QW.next (CW.region ?_))
  refine pu 1 [(59, Pt b1)] ?_
  have hst := hst.toIt 6 rfl (fun _ => rfl) (by decide)
  have hst := hst.toIt 7 rfl (fun _ => rfl) (by decide)
  obtain ⟨S100, hst⟩ := hst.shutP2 (R_t129 (Pt b12)) rfl 1 6 7 [0, 2, 3, 4, 5] rfl rfl rfl rfl (engine_Machine.mk r33.2.1.Event r33.2.1.module r33.2.1.regs r33.2.1.turns r33.2.1.at_ r33.2.1.steps r33.2.1.state) rfl rfl
  have hst := hst.toOpt 5 rfl
  obtain ⟨S101, hst⟩ := hst.shutD3 R_t73 rfl 2 1 0 5 [3, 4] rfl rfl rfl rfl rfl (worker_Worker.mk r33.2.2 r88.2 p0.mode_ (worker_job.mk p0.job.hook p0.job.event p0.job.version p0.job.prog p0.job.calls (some (engine_Machine.mk r33.2.1.Event r33.2.1.module r33.2.1.regs r33.2.1.turns r33.2.1.at_ r33.2.1.steps r33.2.1.state)))) rfl rfl
  obtain ⟨r102, hr103, hF⟩ := bs hF
  refine OW.fn rfl rfl rfl rfl (by kernel_rfl) (worker_Worker_rest_ok _ (Pt b1) S101 (worker_Worker.mk r33.2.2 r88.2 p0.mode_ (worker_job.mk p0.job.hook p0.job.event p0.job.version p0.job.prog p0.job.calls (some (engine_Machine.mk r33.2.1.Event r33.2.1.module r33.2.1.regs r33.2.1.turns r33.2.1.at_ r33.2.1.steps r33.2.1.state)))) r102 hr103 (hst.part [2] rfl)) ?_
  rintro e w104 ⟨S106, rfl, hst105⟩
  refine ⟨_, rfl, ?_⟩
  have hst := hst.join (idx := [2]) (rest := [0, 1]) rfl hst105
  refine OW.nil rfl (QW.block_normal (QW.next (rg ?_)))
  refine OW.ldN (cs := [I r33.1.Kind, I r33.1.Pc, I r33.1.Item.Map, I r33.1.Item.Op, U r33.1.Item.Key, U r33.1.Item.Val, U r33.1.Val]) rfl rfl rfl rfl (by kernel_rfl) (by kernel_rfl) (hst.blkN 2 rfl 0 7) ?_
  refine OW.stB hst 1 rfl rfl rfl rfl rfl (by kernel_rfl) rfl rfl [I r33.1.Kind, I r33.1.Pc, I r33.1.Item.Map, I r33.1.Item.Op, U r33.1.Item.Key, U r33.1.Item.Val, U r33.1.Val] rfl ?_
  intro w108 hst
  refine pu 1 [(3, .bool true)] (nx (CW.ret ?_))
  obtain rfl := inj hF
  refine QW.ret_ct rfl rfl (run_loadN (cs := [I r33.1.Kind, I r33.1.Pc, I r33.1.Item.Map, I r33.1.Item.Op, U r33.1.Item.Key, U r33.1.Item.Val, U r33.1.Val]) (by kernel_rfl) (by kernel_rfl) (hst.blkN 1 rfl 0 7)) rfl ?_
  exact ⟨S106, rfl, hst.keep [0] rfl⟩
 refine CW.skip (QW.block_normal (QW.next (rg ?_)))
 refine OW.ldN (cs := [I r33.1.Kind, I r33.1.Pc, I r33.1.Item.Map, I r33.1.Item.Op, U r33.1.Item.Key, U r33.1.Item.Val, U r33.1.Val]) rfl rfl rfl rfl (by kernel_rfl) (by kernel_rfl) (hst.blkN 5 rfl 0 7) ?_
 refine OW.stB hst 3 rfl rfl rfl rfl rfl (by kernel_rfl) rfl rfl [I r33.1.Kind, I r33.1.Pc, I r33.1.Item.Map, I r33.1.Item.Op, U r33.1.Item.Key, U r33.1.Item.Val, U r33.1.Val] rfl ?_
 intro w110 hst
 refine pu 1 [(3, .bool true)] (nx (CW.ret ?_))
 have hst := hst.toOpt 0 rfl
 obtain ⟨S111, hst⟩ := hst.shutD3 R_t73 rfl 2 1 4 0 [3, 5] rfl rfl rfl rfl rfl (worker_Worker.mk r33.2.2 p0.Stats p0.mode_ (worker_job.mk p0.job.hook p0.job.event p0.job.version p0.job.prog p0.job.calls (some r33.2.1))) rfl rfl
 obtain rfl := inj hF
 refine QW.ret_ct rfl rfl (run_loadN (cs := [I r33.1.Kind, I r33.1.Pc, I r33.1.Item.Map, I r33.1.Item.Op, U r33.1.Item.Key, U r33.1.Item.Val, U r33.1.Val]) (by kernel_rfl) (by kernel_rfl) (hst.blkN 0 rfl 0 7)) rfl ?_
 exact ⟨S111, rfl, hst.keep [2] rfl⟩
theorem stats_Stats_Of_ok (w : World) (v0 : Value) (S0 : List Nat) (p0 : stats_Stats) (p1 : Int) (r : api_Tally × Int) (hF : stats_Stats_Of p0 p1 = some r)
    (hst : St w (fp [itI R_t68 [v0] S0 p0]) w [itI R_t68 [v0] S0 p0]) :
    Calls Tryd.prog 17 [v0, I p1].toArray w (fun e w' => ∃ (s0 : List Nat), e = .returned (.tuple #[.agg [U r.1.Runs, U r.1.Missed, U r.1.Steps, U r.1.Calls, U r.1.Sum].toArray, I r.2]) ∧ St w (fp [itI R_t68 [v0] S0 p0]) w' [itI R_t68 [v0] s0 p0]) := by
 refine CW.start (N := 16) Tryd.func17 rfl rfl rfl ?_
 obtain ⟨b1, rfl⟩ := hst.fptr 0 rfl
 refine rg ?_
 refine OW.alloc hst rfl rfl rfl [U 0, U 0, U 0, U 0, U 0] (by kernel_rfl) ?_
 intro b4 w5 hst
 refine pu 1 [] (nx (CW.seq (rg ?_)))
 refine pu 1 [(6, I p1)] ?_
 obtain ⟨r10, hr11, hF⟩ := bs hF
 refine OW.fn rfl rfl rfl rfl (by kernel_rfl) (stats_known_ok _ p1 r10 hr11 (hst.part [] rfl)) ?_
 rintro e w12 ⟨rfl, hst13⟩
 refine ⟨_, rfl, ?_⟩
 have hst := hst.join (idx := []) (rest := [0, 1]) rfl hst13
 refine pu 1 [(8, .bool (!r10))] (nx ?_)
 refine br ((!r10)) hF (fun hF hc14 => ?_) (fun hF hc14 => ?_)
 ·refine rg ?_
  refine pu 1 [(9, .agg [U 0, U 0, U 0, U 0, U 0].toArray)] ?_
  refine OW.stB hst 1 rfl rfl rfl rfl rfl (by kernel_rfl) rfl rfl [U 0, U 0, U 0, U 0, U 0] rfl ?_
  intro w16 hst
  refine pu 1 [(5, I 2)] (nx (CW.ret (QW.then_ret ?_)))
  obtain rfl := inj hF
  refine QW.ret_ct rfl rfl (run_loadN (cs := [U 0, U 0, U 0, U 0, U 0]) (by kernel_rfl) (by kernel_rfl) (hst.blkN 1 rfl 0 5)) rfl ?_
  exact ⟨S0, rfl, hst.keep [0] rfl⟩
 refine CW.skip (QW.next (CW.seq ?_))
 have hst := hst.openQ0 0 rfl
 refine CW.region ?_
 refine pu 4 [(11, I p1), (13, Pt b1)] ?_
 obtain ⟨i20, hi21, hF⟩ := bs hF
 refine OW.op (v := .pointer (some ⟨b1, 0 + Int.toNat p1 * 5, none⟩)) rfl rfl rfl rfl (fun a ha => aidx_run (n := 4) 64 5 rfl rfl rfl (ain_some hi21).1 (ain_some hi21).2.1 (by kernel_rfl) (by kernel_rfl) a _ ha) ?_
 refine OW.ldN (cs := enc_api_Tally (p0.hooks i20)) rfl rfl rfl rfl (by kernel_rfl) (by kernel_rfl) (hst.arrB 0 rfl enc_api_Tally (fun _ => rfl) 4 p0.hooks 0 rfl rfl hi21) ?_
 refine OW.stB hst 1 rfl rfl rfl rfl rfl (by kernel_rfl) rfl rfl [U (p0.hooks i20).Runs, U (p0.hooks i20).Missed, U (p0.hooks i20).Steps, U (p0.hooks i20).Calls, U (p0.hooks i20).Sum] rfl ?_
 intro w22 hst
 refine pu 1 [(5, I 0)] (nx (CW.ret ?_))
 have hst := hst.shutP0 (enc := enc_stats_Stats) (sz := 20) (he := fun _ => rfl) 0 rfl p0 rfl
 obtain rfl := inj hF
 refine QW.ret_ct rfl rfl (run_loadN (cs := [U (p0.hooks i20).Runs, U (p0.hooks i20).Missed, U (p0.hooks i20).Steps, U (p0.hooks i20).Calls, U (p0.hooks i20).Sum]) (by kernel_rfl) (by kernel_rfl) (hst.blkN 1 rfl 0 5)) rfl ?_
 exact ⟨([b1]), rfl, hst.keep [0] rfl⟩
theorem tappetlaw23_awake_ok (w : World) (fu : Nat)  (r : Bool) (hF : tappetlaw23_awake fu = some r)
    (hst : St w (fp []) w []) (hT0 : Rd w (fp []) (.slice (some ⟨0, 0, none⟩) 23 23) enc_ops_form 2 tab_g0) (hT1 : Rd w (fp []) (.slice (some ⟨1, 0, none⟩) 7 7) enc_sigs_sig 5 tab_g1) :
    Calls Tryd.prog 5 [].toArray w (fun e w' => e = .returned (.bool r) ∧ St w (fp []) w' []) := by
 refine CW.start (N := 68) Tryd.func5 rfl rfl rfl (rg ?_)
 refine pu 1 [] (nx (rg ?_))
 obtain ⟨r8, hr9, hF⟩ := bs hF
 refine OW.fn rfl rfl rfl rfl (by kernel_rfl) (worker_New_ok _ r8 hr9 (hst.part [] rfl)) ?_
 rintro e w10 ⟨v12, S13, rfl, hst11⟩
 refine ⟨_, rfl, ?_⟩
 have hst := hst.join (idx := []) (rest := []) rfl hst11
 obtain ⟨b14, rfl⟩ := hst.fptr 0 rfl
 refine pu 1 [(1, Pt b14)] (nx (CW.seq (CW.seq ?_)))
 obtain ⟨o32, ho33, hF⟩ := bs hF
 refine CW.cutK (fun a w1 => ∃ (S31 : List Nat), Rep 68 [(1, Pt b14), (20, .bool o32.2)] a ∧ St w (fp []) w1 [itI R_t33 [Pt b14] S31 o32.1]) ?_ ?_
 ·refine CW.region ?_
  refine pu 6 [(9, .bool false), (10, Pt b14), (12, .agg [I 4, U 5, U 0].toArray)] ?_
  obtain ⟨r34, hr35, ho33⟩ := bs ho33
  refine OW.fn rfl rfl rfl rfl (by kernel_rfl) (worker_Worker_Take_ok _ (Pt b14) S13 r8 1 (api_Queued.mk 4 (api_Event.mk 5 0)) r34 hr35 (hst.part [0] rfl)) ?_
  rintro e w36 ⟨S38, rfl, hst37⟩
  refine ⟨_, rfl, ?_⟩
  have hst := hst.join (idx := [0]) (rest := []) rfl hst37
  refine pu 3 [(16, .bool (r34.1 != 0))] ?_
  refine OW.split 16 rfl (fun hc39 => ?_) (fun hc39 => ?_)
  ·have ho33 := ite_t ho33 hc39
   refine pu 4 [(20, .bool true)] (OW.nil rfl ?_)
   obtain rfl := inj ho33
   exact QW.meet (fun a ha => ⟨S38, ha.ag, hst.keep [0] rfl⟩)
  have ho33 := ite_f ho33 hc39
  refine pu 1 [(17, Pt b14)] ?_
  obtain ⟨r40, hr41, ho33⟩ := bs ho33
  refine OW.fn rfl rfl rfl rfl (by kernel_rfl) (worker_Worker_Mode_ok _ (Pt b14) S38 r34.2 r40 hr41 (hst.part [0] rfl)) ?_
  rintro e w42 ⟨S44, rfl, hst43⟩
  refine ⟨_, rfl, ?_⟩
  have hst := hst.join (idx := [0]) (rest := []) rfl hst43
  refine pu 2 [(20, .bool (r40 != 1))] (OW.nil rfl ?_)
  obtain rfl := inj ho33
  exact QW.meet (fun a ha => ⟨S44, ha.ag, hst.keep [0] rfl⟩)
 rintro a w1 ⟨S31, ha, hst⟩
 refine CW.go ?_ ha
 refine br (o32.2) hF (fun hF hc45 => ?_) (fun hF hc45 => ?_)
 ·refine rg ?_
  refine pu 1 [(0, .bool false)] (nx (CW.ret (QW.then_ret ?_)))
  obtain rfl := inj hF
  refine QW.ret1 rfl rfl ?_
  exact ⟨rfl, hst.keep [] rfl⟩
 refine CW.skip (QW.next (CW.seq (rg ?_)))
 refine pu 3 [(21, Pt b14), (22, .agg [I 13, I 0, I 0, I 0, I 0].toArray), (23, .agg [I 22, I 0, I 0, I 0, I 0].toArray)] ?_
 refine OW.row (α := api_Inst) (e := 76) (enc := enc_api_Inst) (sz := 5) hst rfl rfl rfl [(api_Inst.mk 13 0 0 0 0), (api_Inst.mk 22 0 0 0 0)] rfl (fun _ => rfl) rfl rfl (fun _ => by kernel_rfl) ?_
 intro g53 w54 hst
 refine pu 1 [(25, .agg [.slice none 0 0, .slice (some ⟨g53, 0, none⟩) 2 2].toArray)] ?_
 obtain ⟨r55, hr56, hF⟩ := bs hF
 refine OW.fn rfl rfl rfl rfl (by kernel_rfl) (worker_Worker_Enter_ok _ fu (Pt b14) S31 o32.1 3 7 (.slice none 0 0) (.slice (some ⟨g53, 0, none⟩) 2 2) (api_Module.mk ([] : List Int) ([(api_Inst.mk 13 0 0 0 0), (api_Inst.mk 22 0 0 0 0)])) r55 hr56 (hst.part [0] rfl) (Rd.nil _ _ _ _ _) (hst.rd 1 rfl (fun _ => rfl) [0] rfl (hst.len 1 rfl).1) (hT0.give hst [0]) (hT1.give hst [0])) ?_
 rintro e w57 ⟨S59, rfl, hst58⟩
 refine ⟨_, rfl, ?_⟩
 have hst := hst.join (idx := [0]) (rest := [1]) rfl hst58
 refine pu 1 [(27, .bool (r55.1 != 0))] (nx ?_)
 refine br ((r55.1 != 0)) hF (fun hF hc60 => ?_) (fun hF hc60 => ?_)
 ·refine rg ?_
  refine pu 1 [(0, .bool false)] (nx (CW.ret (QW.then_ret ?_)))
  obtain rfl := inj hF
  refine QW.ret1 rfl rfl ?_
  exact ⟨rfl, hst.keep [] rfl⟩
 refine CW.skip (QW.next (rg ?_))
 refine pu 1 [(28, Pt b14)] ?_
 obtain ⟨r66, hr67, hF⟩ := bs hF
 refine OW.fn rfl rfl rfl rfl (by kernel_rfl) (worker_Worker_Step_ok _ fu (Pt b14) S59 r55.2 r66 hr67 (hst.part [0] rfl) (hT1.give hst [0])) ?_
 rintro e w68 ⟨S70, rfl, hst69⟩
 refine ⟨_, rfl, ?_⟩
 have hst := hst.join (idx := [0]) (rest := [1]) rfl hst69
 refine nx (rg ?_)
 refine pu 1 [(31, Pt b14)] ?_
 obtain ⟨r79, hr80, hF⟩ := bs hF
 refine OW.fn rfl rfl rfl rfl (by kernel_rfl) (worker_Worker_Step_ok _ fu (Pt b14) S70 r66.2.2 r79 hr80 (hst.part [0] rfl) (hT1.give hst [0])) ?_
 rintro e w81 ⟨S83, rfl, hst82⟩
 refine ⟨_, rfl, ?_⟩
 have hst := hst.join (idx := [0]) (rest := [1]) rfl hst82
 refine pu 3 [(33, .agg [I r79.1.Kind, I r79.1.Pc, I r79.1.Item.Map, I r79.1.Item.Op, U r79.1.Item.Key, U r79.1.Item.Val, U r79.1.Val].toArray), (34, .bool r79.2.1)] ?_
 refine OW.alloc hst rfl rfl rfl [I 0, I 0, I 0, I 0, U 0, U 0, U 0] (by kernel_rfl) ?_
 intro b84 w85 hst
 refine OW.stB hst 2 rfl rfl rfl rfl rfl (by kernel_rfl) rfl rfl [I r79.1.Kind, I r79.1.Pc, I r79.1.Item.Map, I r79.1.Item.Op, U r79.1.Item.Key, U r79.1.Item.Val, U r79.1.Val] rfl ?_
 intro w86 hst
 refine pu 1 [(3, .bool r79.2.1)] (nx (CW.seq ?_))
 obtain ⟨v87, S88, v89, S90, v91, S92, hst⟩ := hst.openD3 0 rfl rfl rfl rfl
 obtain ⟨b93, rfl⟩ := hst.fptr 3 rfl
 obtain ⟨b94, rfl⟩ := hst.fptr 4 rfl
 have hst : St _ _ _ [blkI b14 73 [Pt b93, Pt b94, I r79.2.2.mode_, I r79.2.2.job.hook, I r79.2.2.job.event.N, U r79.2.2.job.event.Event.A, U r79.2.2.job.event.Event.B, I r79.2.2.job.version, I r79.2.2.job.prog, U r79.2.2.job.calls, v91], _, _, _, _, _] := hst
 refine CW.region ?_
 refine pu 3 [(38, .pointer (some ⟨b14, 1, none⟩))] ?_
 refine OW.ld rfl rfl rfl rfl (by kernel_rfl) (hst.blk 0 rfl rfl) ?_
 obtain ⟨r103, hr104, hF⟩ := bs hF
 refine OW.fn rfl rfl rfl rfl (by kernel_rfl) (stats_Stats_Of_ok _ (Pt b94) S90 r79.2.2.Stats 1 r103 hr104 (hst.part [4] rfl)) ?_
 rintro e w105 ⟨S107, rfl, hst106⟩
 refine ⟨_, rfl, ?_⟩
 have hst := hst.join (idx := [4]) (rest := [0, 1, 2, 3, 5]) rfl hst106
 refine pu 3 [(41, .agg [U r103.1.Runs, U r103.1.Missed, U r103.1.Steps, U r103.1.Calls, U r103.1.Sum].toArray), (42, I r103.2)] ?_
 refine OW.alloc hst rfl rfl rfl [U 0, U 0, U 0, U 0, U 0] (by kernel_rfl) ?_
 intro b108 w109 hst
 refine OW.stB hst 6 rfl rfl rfl rfl rfl (by kernel_rfl) rfl rfl [U r103.1.Runs, U r103.1.Missed, U r103.1.Steps, U r103.1.Calls, U r103.1.Sum] rfl ?_
 intro w110 hst
 refine pu 1 [(5, I r103.2)] (nx (CW.seq ?_))
 obtain ⟨o124, ho125, hF⟩ := bs hF
 refine CW.cutK (fun a w1 => Rep 68 [(0, .bool o124)] a ∧ St w (fp []) w1 []) ?_ ?_
 ·refine CW.region ?_
  refine pu 2 [(44, .bool r79.2.1)] ?_
  refine OW.split 44 rfl (fun hc126 => ?_) (fun hc126 => ?_)
  ·have ho125 := ite_t ho125 hc126
   refine pu 1 [(45, .pointer (some ⟨b84, 6, none⟩))] ?_
   refine OW.ld rfl rfl rfl rfl (by kernel_rfl) (hst.blk 3 rfl rfl) ?_
   refine pu 3 [(49, .bool (r79.1.Val == 5))] ?_
   refine OW.split 49 rfl (fun hc127 => ?_) (fun hc127 => ?_)
   ·have ho125 := ite_t ho125 hc127
    refine pu 1 [(50, Pt b14)] ?_
    obtain ⟨S128, hst⟩ := hst.shutD3 R_t73 rfl 1 4 0 5 [2, 3, 6] rfl rfl rfl rfl rfl r79.2.2 rfl rfl
    obtain ⟨r129, hr130, ho125⟩ := bs ho125
    refine OW.fn rfl rfl rfl rfl (by kernel_rfl) (worker_Worker_Mode_ok _ (Pt b14) S128 r79.2.2 r129 hr130 (hst.part [3] rfl)) ?_
    rintro e w131 ⟨S133, rfl, hst132⟩
    refine ⟨_, rfl, ?_⟩
    have hst := hst.join (idx := [3]) (rest := [0, 1, 2]) rfl hst132
    refine pu 3 [(54, .bool (r129 == 0))] ?_
    refine OW.split 54 rfl (fun hc134 => ?_) (fun hc134 => ?_)
    ·have ho125 := ite_t ho125 hc134
     refine pu 4 [(58, .bool (r103.2 == 0))] ?_
     refine OW.split 58 rfl (fun hc135 => ?_) (fun hc135 => ?_)
     ·have ho125 := ite_t ho125 hc135
      refine pu 1 [(59, Pt b108)] ?_
      refine OW.ld rfl rfl rfl rfl (by kernel_rfl) (hst.blk 3 rfl rfl) ?_
      refine pu 3 [(63, .bool (r103.1.Runs == 1))] ?_
      refine OW.split 63 rfl (fun hc136 => ?_) (fun hc136 => ?_)
      ·have ho125 := ite_t ho125 hc136
       refine pu 1 [(64, .pointer (some ⟨b108, 4, none⟩))] ?_
       refine OW.ld rfl rfl rfl rfl (by kernel_rfl) (hst.blk 3 rfl rfl) ?_
       refine pu 3 [(0, .bool (r103.1.Sum == 5))] (OW.nil rfl ?_)
       obtain rfl := inj ho125
       exact QW.meet (fun a ha => ⟨ha.ag, hst.keep [] rfl⟩)
      have ho125 := ite_f ho125 hc136
      refine pu 5 [(0, .bool false)] (OW.nil rfl ?_)
      obtain rfl := inj ho125
      exact QW.meet (fun a ha => ⟨ha.ag, hst.keep [] rfl⟩)
     have ho125 := ite_f ho125 hc135
     refine pu 10 [(0, .bool false)] (OW.nil rfl ?_)
     obtain rfl := inj ho125
     exact QW.meet (fun a ha => ⟨ha.ag, hst.keep [] rfl⟩)
    have ho125 := ite_f ho125 hc134
    refine pu 14 [(0, .bool false)] (OW.nil rfl ?_)
    obtain rfl := inj ho125
    exact QW.meet (fun a ha => ⟨ha.ag, hst.keep [] rfl⟩)
   have ho125 := ite_f ho125 hc127
   refine pu 19 [(0, .bool false)] (OW.nil rfl ?_)
   obtain ⟨S137, hst⟩ := hst.shutD3 R_t73 rfl 1 4 0 5 [2, 3, 6] rfl rfl rfl rfl rfl r79.2.2 rfl rfl
   obtain rfl := inj ho125
   exact QW.meet (fun a ha => ⟨ha.ag, hst.keep [] rfl⟩)
  have ho125 := ite_f ho125 hc126
  refine pu 24 [(0, .bool false)] (OW.nil rfl ?_)
  obtain ⟨S138, hst⟩ := hst.shutD3 R_t73 rfl 1 4 0 5 [2, 3, 6] rfl rfl rfl rfl rfl r79.2.2 rfl rfl
  obtain rfl := inj ho125
  exact QW.meet (fun a ha => ⟨ha.ag, hst.keep [] rfl⟩)
 rintro a w1 ⟨ha, hst⟩
 refine CW.go ?_ ha
 refine CW.ret ?_
 obtain rfl := inj hF
 refine QW.ret1 rfl rfl ?_
 exact ⟨rfl, hst.keep [] rfl⟩
theorem worker_Worker_Runs_ok (w : World) (v0 : Value) (S0 : List Nat) (p0 : worker_Worker) (r : Int × Int) (hF : worker_Worker_Runs p0 = some r)
    (hst : St w (fp [itI R_t33 [v0] S0 p0]) w [itI R_t33 [v0] S0 p0]) :
    Calls Tryd.prog 9 [v0].toArray w (fun e w' => ∃ (s0 : List Nat), e = .returned (.tuple #[I r.1, I r.2]) ∧ St w (fp [itI R_t33 [v0] S0 p0]) w' [itI R_t33 [v0] s0 p0]) := by
 refine CW.start (N := 14) Tryd.func9 rfl rfl rfl ?_
 obtain ⟨b1, rfl⟩ := hst.fptr 0 rfl
 refine rg ?_
 refine pu 2 [] (nx (CW.seq ?_))
 obtain ⟨v2, S3, v4, S5, v6, S7, hst⟩ := hst.openD3 0 rfl rfl rfl rfl
 obtain ⟨b8, rfl⟩ := hst.fptr 1 rfl
 obtain ⟨b9, rfl⟩ := hst.fptr 2 rfl
 have hst : St _ _ _ [blkI b1 73 [Pt b8, Pt b9, I p0.mode_, I p0.job.hook, I p0.job.event.N, U p0.job.event.Event.A, U p0.job.event.Event.B, I p0.job.version, I p0.job.prog, U p0.job.calls, v6], _, _, _] := hst
 refine CW.still (by kernel_rfl) (by kernel_rfl) ?_
 intro w12 hch13
 have hst := hst.same hch13
 refine OS.pure 4 [(7, .pointer (some ⟨b1, 7, none⟩))] rfl (by kernel_rfl) ?_
 refine OS.ld rfl rfl rfl rfl rfl (by kernel_rfl) (hst.blk 0 rfl rfl) ?_
 refine OS.pure 4 [(12, .pointer (some ⟨b1, 8, none⟩))] rfl (by kernel_rfl) ?_
 refine OS.ld rfl rfl rfl rfl rfl (by kernel_rfl) (hst.blk 0 rfl rfl) ?_
 refine OS.pure 2 [(2, I p0.job.version), (3, I p0.job.prog)] rfl (by kernel_rfl) ?_
 refine OS.fin rfl (QW.next (CW.ret ?_))
 obtain ⟨S14, hst⟩ := hst.shutD3 R_t73 rfl 0 1 2 3 [] rfl rfl rfl rfl rfl p0 rfl rfl
 obtain rfl := inj hF
 refine QW.ret2 rfl rfl rfl ?_
 exact ⟨S14, rfl, hst.keep [0] rfl⟩
theorem tappetlaw23_copied_ok (w : World) (v0_0 : Value) (v0_1 : Value) (p0 : api_Module) (r : api_Module) (hF : tappetlaw23_copied p0 = some r)
    (hst : St w (fp []) w []) (h0_0 : Rd w (fp []) v0_0 (encInt .i64) 1 p0.Maps) (h0_1 : Rd w (fp []) v0_1 enc_api_Inst 5 p0.Code) :
    Calls Tryd.prog 12 [.agg [v0_0, v0_1].toArray].toArray w (fun e w' => ∃ (x0_0 : Value) (x0_1 : Value), e = .returned (.agg [x0_0, x0_1].toArray) ∧ St w (fp []) w' [rowI x0_0 3 (encInt .i64) 1 r.Maps, rowI x0_1 76 enc_api_Inst 5 r.Code]) := by
 refine CW.start (N := 12) Tryd.func12 rfl rfl rfl ?_
 obtain ⟨l1, a2, c3, rfl⟩ := h0_0.len
 obtain ⟨l4, a5, c6, rfl⟩ := h0_1.len
 refine rg ?_
 refine OW.box hst rfl rfl rfl rfl [.slice a2 (p0.Maps).length c3, .slice a5 (p0.Code).length c6] rfl ?_
 intro b11 w12 hst
 refine OW.alloc hst rfl rfl rfl [.slice none 0 0, .slice none 0 0] (by kernel_rfl) ?_
 intro b13 w14 hst
 refine nx (CW.seq ?_)
 obtain ⟨o72, ho73, hF⟩ := bs hF
 refine CW.cutK (fun a w1 => ∃ (v70 : Value) (v71 : Value), Rep 12 [(2, Pt b13)] a ∧ St w (fp []) w1 [blkI b13 28 [v70, v71], rowI v70 3 (encInt .i64) 1 (([] : List Int) ++ p0.Maps), rowI v71 76 enc_api_Inst 5 (([] : List api_Inst) ++ p0.Code)]) ?_ ?_
 ·refine CW.plan (by kernel_rfl) ?_
  intro w74 hch75
  have hst := hst.same hch75
  refine OA.pure [1] [(4, Pt b11)] (by kernel_rfl) ?_
  refine OA.ld (i := 2) rfl (by kernel_rfl) rfl rfl rfl (by kernel_rfl) (hst.blk 0 rfl rfl) ?_
  refine OA.pure [5] [(8, .pointer (some ⟨b11, 1, none⟩))] (by kernel_rfl) ?_
  refine OA.ld (i := 6) rfl (by kernel_rfl) rfl rfl rfl (by kernel_rfl) (hst.blk 0 rfl rfl) ?_
  refine OA.acts [0, 4] 0 (by kernel_rfl) (by kernel_rfl) (by kernel_rfl) (alts_cons ?_ (alts_cons ?_ alts_nil))
  ·refine Alt.of (i := 0) [6, 2] rfl rfl (by kernel_rfl) (by kernel_rfl) ?_
   refine OW.row (α := Int) (e := 3) (enc := encInt .i64) (sz := 1) hst rfl rfl rfl [] rfl (fun _ => rfl) rfl rfl (fun _ => by kernel_rfl) ?_
   intro g76 w77 hst
   refine OA.next ⟨(hst.blk 0 rfl rfl), (hst.blk 0 rfl rfl), trivial⟩ ?_
   refine OA.acts [3, 4] 3 (by kernel_rfl) (by kernel_rfl) (by kernel_rfl) (alts_cons ?_ (alts_cons ?_ alts_nil))
   ·refine Alt.of (i := 3) [6] rfl rfl (by kernel_rfl) (by kernel_rfl) ?_
    obtain ⟨u78, hr79, ho73⟩ := bs ho73
    refine OW.app hst 2 rfl (fun _ => rfl) (fun _ => rfl) rfl rfl rfl rfl rfl rfl (by kernel_rfl) el3 (h0_0.on hst) (room_le hr79) ?_
    intro v80 w81 hst
    obtain ⟨l82, a83, c84, rfl⟩ := hst.len 2 rfl
    refine OA.next ⟨(hst.blk 0 rfl rfl), trivial⟩ ?_
    refine OA.act (i := 4) [6] (by kernel_rfl) rfl rfl (by kernel_rfl) (by kernel_rfl) ?_
    refine OW.row (α := api_Inst) (e := 76) (enc := enc_api_Inst) (sz := 5) hst rfl rfl rfl [] rfl (fun _ => rfl) rfl rfl (fun _ => by kernel_rfl) ?_
    intro g85 w86 hst
    refine OA.next ⟨(hst.blk 0 rfl rfl), trivial⟩ ?_
    refine OA.act (i := 7) [] (by kernel_rfl) rfl rfl (by kernel_rfl) (by kernel_rfl) ?_
    obtain ⟨u87, hr88, ho73⟩ := bs ho73
    refine OW.app hst 3 rfl (fun _ => rfl) (fun _ => rfl) rfl rfl rfl rfl rfl rfl (by kernel_rfl) el76 (h0_1.on hst) (room_le hr88) ?_
    intro v89 w90 hst
    obtain ⟨l91, a92, c93, rfl⟩ := hst.len 3 rfl
    refine OA.next trivial ?_
    refine OA.pure [8] [(11, .agg [.slice a83 ((([] : List Int) ++ p0.Maps)).length c84, .slice a92 ((([] : List api_Inst) ++ p0.Code)).length c93].toArray)] (by kernel_rfl) ?_
    refine OA.act (i := 9) [] (by kernel_rfl) rfl rfl (by kernel_rfl) (by kernel_rfl) ?_
    refine OW.stB hst 1 rfl rfl rfl rfl rfl (by kernel_rfl) rfl rfl [.slice a83 ((([] : List Int) ++ p0.Maps)).length c84, .slice a92 ((([] : List api_Inst) ++ p0.Code)).length c93] rfl ?_
    intro w94 hst
    refine OA.next trivial ?_
    refine OA.fin (by kernel_rfl) (by kernel_rfl) ?_
    obtain rfl := inj ho73
    exact QW.meet (fun a ha => ⟨(.slice a83 ((([] : List Int) ++ p0.Maps)).length c84), (.slice a92 ((([] : List api_Inst) ++ p0.Code)).length c93), ha.ag, hst.keep [1, 2, 3] rfl⟩)
   obtain ⟨u78, hr79, ho73⟩ := bs ho73
   obtain ⟨u87, hr88, ho73⟩ := bs ho73
   refine Alt.of (i := 4) [6, 2] rfl rfl (by kernel_rfl) (by kernel_rfl) ?_
   refine OW.row (α := api_Inst) (e := 76) (enc := enc_api_Inst) (sz := 5) hst rfl rfl rfl [] rfl (fun _ => rfl) rfl rfl (fun _ => by kernel_rfl) ?_
   intro g95 w96 hst
   refine OA.next ⟨(hst.blk 0 rfl rfl), (hst.blk 0 rfl rfl), trivial⟩ ?_
   refine OA.act (i := 3) [6] (by kernel_rfl) rfl rfl (by kernel_rfl) (by kernel_rfl) ?_
   refine OW.app hst 2 rfl (fun _ => rfl) (fun _ => rfl) rfl rfl rfl rfl rfl rfl (by kernel_rfl) el3 (h0_0.on hst) (room_le hr79) ?_
   intro v97 w98 hst
   obtain ⟨l99, a100, c101, rfl⟩ := hst.len 2 rfl
   refine OA.next ⟨(hst.blk 0 rfl rfl), trivial⟩ ?_
   refine OA.act (i := 7) [] (by kernel_rfl) rfl rfl (by kernel_rfl) (by kernel_rfl) ?_
   refine OW.app hst 3 rfl (fun _ => rfl) (fun _ => rfl) rfl rfl rfl rfl rfl rfl (by kernel_rfl) el76 (h0_1.on hst) (room_le hr88) ?_
   intro v102 w103 hst
   obtain ⟨l104, a105, c106, rfl⟩ := hst.len 3 rfl
   refine OA.next trivial ?_
   refine OA.pure [8] [(11, .agg [.slice a100 ((([] : List Int) ++ p0.Maps)).length c101, .slice a105 ((([] : List api_Inst) ++ p0.Code)).length c106].toArray)] (by kernel_rfl) ?_
   refine OA.act (i := 9) [] (by kernel_rfl) rfl rfl (by kernel_rfl) (by kernel_rfl) ?_
   refine OW.stB hst 1 rfl rfl rfl rfl rfl (by kernel_rfl) rfl rfl [.slice a100 ((([] : List Int) ++ p0.Maps)).length c101, .slice a105 ((([] : List api_Inst) ++ p0.Code)).length c106] rfl ?_
   intro w107 hst
   refine OA.next trivial ?_
   refine OA.fin (by kernel_rfl) (by kernel_rfl) ?_
   obtain rfl := inj ho73
   exact QW.meet (fun a ha => ⟨(.slice a100 ((([] : List Int) ++ p0.Maps)).length c101), (.slice a105 ((([] : List api_Inst) ++ p0.Code)).length c106), ha.ag, hst.keep [1, 2, 3] rfl⟩)
  refine Alt.of (i := 4) [6, 2] rfl rfl (by kernel_rfl) (by kernel_rfl) ?_
  refine OW.row (α := api_Inst) (e := 76) (enc := enc_api_Inst) (sz := 5) hst rfl rfl rfl [] rfl (fun _ => rfl) rfl rfl (fun _ => by kernel_rfl) ?_
  intro g108 w109 hst
  refine OA.next ⟨(hst.blk 0 rfl rfl), (hst.blk 0 rfl rfl), trivial⟩ ?_
  refine OA.act (i := 0) [6, 2] (by kernel_rfl) rfl rfl (by kernel_rfl) (by kernel_rfl) ?_
  refine OW.row (α := Int) (e := 3) (enc := encInt .i64) (sz := 1) hst rfl rfl rfl [] rfl (fun _ => rfl) rfl rfl (fun _ => by kernel_rfl) ?_
  intro g110 w111 hst
  refine OA.next ⟨(hst.blk 0 rfl rfl), (hst.blk 0 rfl rfl), trivial⟩ ?_
  refine OA.act (i := 3) [6] (by kernel_rfl) rfl rfl (by kernel_rfl) (by kernel_rfl) ?_
  obtain ⟨u112, hr113, ho73⟩ := bs ho73
  refine OW.app hst 3 rfl (fun _ => rfl) (fun _ => rfl) rfl rfl rfl rfl rfl rfl (by kernel_rfl) el3 (h0_0.on hst) (room_le hr113) ?_
  intro v114 w115 hst
  obtain ⟨l116, a117, c118, rfl⟩ := hst.len 3 rfl
  refine OA.next ⟨(hst.blk 0 rfl rfl), trivial⟩ ?_
  refine OA.act (i := 7) [] (by kernel_rfl) rfl rfl (by kernel_rfl) (by kernel_rfl) ?_
  obtain ⟨u119, hr120, ho73⟩ := bs ho73
  refine OW.app hst 2 rfl (fun _ => rfl) (fun _ => rfl) rfl rfl rfl rfl rfl rfl (by kernel_rfl) el76 (h0_1.on hst) (room_le hr120) ?_
  intro v121 w122 hst
  obtain ⟨l123, a124, c125, rfl⟩ := hst.len 2 rfl
  refine OA.next trivial ?_
  refine OA.pure [8] [(11, .agg [.slice a117 ((([] : List Int) ++ p0.Maps)).length c118, .slice a124 ((([] : List api_Inst) ++ p0.Code)).length c125].toArray)] (by kernel_rfl) ?_
  refine OA.act (i := 9) [] (by kernel_rfl) rfl rfl (by kernel_rfl) (by kernel_rfl) ?_
  refine OW.stB hst 1 rfl rfl rfl rfl rfl (by kernel_rfl) rfl rfl [.slice a117 ((([] : List Int) ++ p0.Maps)).length c118, .slice a124 ((([] : List api_Inst) ++ p0.Code)).length c125] rfl ?_
  intro w126 hst
  refine OA.next trivial ?_
  refine OA.fin (by kernel_rfl) (by kernel_rfl) ?_
  obtain rfl := inj ho73
  exact QW.meet (fun a ha => ⟨(.slice a117 ((([] : List Int) ++ p0.Maps)).length c118), (.slice a124 ((([] : List api_Inst) ++ p0.Code)).length c125), ha.ag, hst.keep [1, 3, 2] rfl⟩)
 rintro a w1 ⟨v70, v71, ha, hst⟩
 refine CW.go ?_ ha
 obtain ⟨l127, a128, c129, rfl⟩ := hst.len 1 rfl
 obtain ⟨l130, a131, c132, rfl⟩ := hst.len 2 rfl
 refine CW.ret ?_
 obtain rfl := inj hF
 refine QW.ret_c rfl rfl (run_loadN (cs := [.slice a128 ((([] : List Int) ++ p0.Maps)).length c129, .slice a131 ((([] : List api_Inst) ++ p0.Code)).length c132]) (by kernel_rfl) (by kernel_rfl) (hst.blkN 0 rfl 0 2)) ?_
 exact ⟨(.slice a128 ((([] : List Int) ++ p0.Maps)).length c129), (.slice a131 ((([] : List api_Inst) ++ p0.Code)).length c132), rfl, hst.keep [1, 2] rfl⟩
theorem stats_Stats_Missed_ok (w : World) (v0 : Value) (S0 : List Nat) (p0 : stats_Stats) (v1 : Value) (p1 : List Int) (r : Int × stats_Stats) (hF : stats_Stats_Missed p0 p1 = some r)
    (hst : St w (fp [itI R_t68 [v0] S0 p0]) w [itI R_t68 [v0] S0 p0]) (h1 : Rd w (fp [itI R_t68 [v0] S0 p0]) v1 (encInt .i64) 1 p1) :
    Calls Tryd.prog 23 [v0, v1].toArray w (fun e w' => ∃ (s0 : List Nat), e = .returned (I r.1) ∧ St w (fp [itI R_t68 [v0] S0 p0]) w' [itI R_t68 [v0] s0 r.2]) := by
 refine CW.start (N := 38) Tryd.func23 rfl rfl rfl ?_
 obtain ⟨l1, a2, c3, rfl⟩ := h1.len
 obtain ⟨b4, rfl⟩ := hst.fptr 0 rfl
 refine rg ?_
 refine pu 1 [] (nx (CW.seq (rg ?_)))
 refine pu 3 [(9, .slice a2 (p1).length c3), (10, I ((p1).length : Int)), (11, I 0)] (nx ?_)
 obtain ⟨o77, ho78, hF⟩ := bs hF
 refine CW.cutK (fun a w1 => ∃ (t79 : Unit), o77 = .inl t79 ∧ Rep 38 [(0, Pt b4), (1, .slice a2 (p1).length c3)] a ∧ St w (fp [itI R_t68 [Pt b4] S0 p0]) w1 [itI R_t68 [Pt b4] S0 p0]) ?_ ?_
 ·refine CW.block ?_
  refine CW.loop (fun n a w1 => ∃ (i128 : Nat) (s127 : Unit), i128 + n = (p1).length ∧ Rep 38 [(0, Pt b4), (1, .slice a2 (p1).length c3), (9, .slice a2 (p1).length c3), (10, I ((p1).length : Int)), (11, I (i128 : Int))] a ∧ St w (fp [itI R_t68 [Pt b4] S0 p0]) w1 [itI R_t68 [Pt b4] S0 p0] ∧ forN (stats_Stats_Missed_l1 p0 p1) (fun (s127 : Unit) => (.inl ())) n i128 s127 = some o77) (p1).length (fun a ha => ⟨0, (), Nat.zero_add _, ha.ag, hst.keep [0] rfl, ho78⟩) ?_
  rintro n125 a w1 ⟨i128, s127, hi129, ha, hst, hl126⟩
  refine CW.go ?_ ha
  refine rg ?_
  refine pu 1 [(12, .bool (decide ((i128 : Int) < ((p1).length : Int))))] (nx (CW.seq ?_))
  rcases bft (decide ((i128 : Int) < ((p1).length : Int))) with hc130 | hc130
  ·rcases n125 with _ | n125
   ·exact (cnt0 hi129 hc130).elim
   refine CW.cond_t rfl hc130 (CW.skip (QW.next (CW.seq (CW.block (rg ?_)))))
   obtain ⟨x137, hx138, hl126⟩ := bs hl126
   obtain ⟨g140, o141, c142, hv139⟩ := h1.formv (fun _ => ⟨_, rfl⟩) hx138
   refine OW.idx 3 1 rfl rfl rfl rfl hv139 rfl (idx_some hx138).1 (idx_some hx138).2.1 (by kernel_rfl) (by kernel_rfl) ?_
   refine OW.ld rfl rfl rfl rfl (by kernel_rfl) (h1.cellv hst hx138 hv139 0 _ rfl) ?_
   refine pu 1 [(6, I x137)] (nx (rg ?_))
   refine pu 1 [(15, I x137)] ?_
   obtain ⟨r147, hr148, hl126⟩ := bs hl126
   refine OW.fn rfl rfl rfl rfl (by kernel_rfl) (stats_known_ok _ x137 r147 hr148 (hst.part [] rfl)) ?_
   rintro e w149 ⟨rfl, hst150⟩
   refine ⟨_, rfl, ?_⟩
   have hst := hst.join (idx := []) (rest := [0]) rfl hst150
   refine pu 1 [(17, .bool (!r147))] (nx ?_)
   refine br ((!r147)) hl126 (fun hl126 hc151 => ?_) (fun hl126 hc151 => ?_)
   ·refine rg ?_
    refine pu 1 [(4, I 2)] (nx (CW.ret (QW.block_ret (QW.then_ret (QW.then_ret (QW.block_ret (QW.then_ret ?_)))))))
    obtain rfl := inj hl126
    obtain rfl := inj hF
    refine QW.ret1 rfl rfl ?_
    exact ⟨S0, rfl, hst.keep [0] rfl⟩
   refine CW.skip (QW.block_normal (QW.next (CW.region ?_)))
   refine pu 2 [(11, I (w64 ((i128 : Int) + 1)))] (OW.nil rfl ?_)
   refine QW.say 11 rfl (congrArg (Value.int .i64) (w64_cnt hc130 l1)) ?_
   exact QW.meet (fun a ha => ⟨n125, Nat.lt_succ_self _, i128 + 1, (), cnt_next hi129, ha.ag, hst.keep [0] rfl, hl126⟩)
  rcases n125 with _ | n125
  ·refine CW.cond_f rfl hc130 ?_
   refine CW.exit (QW.then_exit (QW.then_exit ?_))
   refine QW.block_here ?_
   obtain rfl := inj hl126
   exact QW.meet (fun a ha => ⟨(), rfl, ha.ag, hst.keep [0] rfl⟩)
  exact (cnt1 hi129 hc130).elim
 rintro a w1 ⟨t79, rfl, ha, hst⟩
 refine CW.go ?_ ha
 refine CW.seq (rg ?_)
 refine pu 3 [(19, .slice a2 (p1).length c3), (20, I ((p1).length : Int)), (21, I 0)] (nx ?_)
 obtain ⟨o231, ho232, hF⟩ := bs hF
 refine CW.cutK (fun a w1 => ∃ (S230 : List Nat), Rep 38 [] a ∧ St w (fp [itI R_t68 [Pt b4] S0 p0]) w1 [itI R_t68 [Pt b4] S230 o231]) ?_ ?_
 ·refine CW.block ?_
  refine CW.loop (fun n a w1 => ∃ (i286 : Nat) (s284 : stats_Stats) (S285 : List Nat), i286 + n = (p1).length ∧ Rep 38 [(0, Pt b4), (19, .slice a2 (p1).length c3), (20, I ((p1).length : Int)), (21, I (i286 : Int))] a ∧ St w (fp [itI R_t68 [Pt b4] S0 p0]) w1 [itI R_t68 [Pt b4] S285 s284] ∧ forN (stats_Stats_Missed_l2 p1) (fun (s284 : stats_Stats) => s284) n i286 s284 = some o231) (p1).length (fun a ha => ⟨0, p0, S0, Nat.zero_add _, ha.ag, hst.keep [0] rfl, ho232⟩) ?_
  rintro n282 a w1 ⟨i286, s284, S285, hi287, ha, hst, hl283⟩
  refine CW.go ?_ ha
  refine rg ?_
  refine pu 1 [(22, .bool (decide ((i286 : Int) < ((p1).length : Int))))] (nx (CW.seq ?_))
  rcases bft (decide ((i286 : Int) < ((p1).length : Int))) with hc288 | hc288
  ·rcases n282 with _ | n282
   ·exact (cnt0 hi287 hc288).elim
   refine CW.cond_t rfl hc288 (CW.skip (QW.next (CW.seq (CW.block (rg ?_)))))
   obtain ⟨x295, hx296, hl283⟩ := bs hl283
   obtain ⟨g298, o299, c300, hv297⟩ := h1.formv (fun _ => ⟨_, rfl⟩) hx296
   refine OW.idx 3 1 rfl rfl rfl rfl hv297 rfl (idx_some hx296).1 (idx_some hx296).2.1 (by kernel_rfl) (by kernel_rfl) ?_
   refine OW.ld rfl rfl rfl rfl (by kernel_rfl) (h1.cellv hst hx296 hv297 0 _ rfl) ?_
   refine pu 1 [(8, I x295)] (nx ?_)
   have hst := hst.openQ0 0 rfl
   refine CW.tail 12 (by kernel_rfl) (by kernel_rfl) ?_
   intro w306 hch307
   have hst := hst.same hch307
   refine OS.pure 4 [(25, Pt b4), (26, I x295), (28, Pt b4)] rfl (by kernel_rfl) ?_
   obtain ⟨i308, hi309, hl283⟩ := bs hl283
   refine OS.op (v := .pointer (some ⟨b4, 0 + Int.toNat x295 * 5, none⟩)) rfl rfl rfl rfl rfl (fun a ha => aidx_run (n := 4) 64 5 rfl rfl rfl (ain_some hi309).1 (ain_some hi309).2.1 (by kernel_rfl) (by kernel_rfl) a _ ha) ?_
   refine OS.pure 1 [(30, .pointer (some ⟨b4, 0 + Int.toNat x295 * 5 + 1, none⟩))] rfl (by kernel_rfl) ?_
   refine OS.ld rfl rfl rfl rfl rfl (by kernel_rfl) (hst.arrB 0 rfl enc_api_Tally (fun _ => rfl) 4 s284.hooks 0 rfl rfl hi309 1 _ rfl) ?_
   refine OS.pure 3 [(32, U (wu64 ((s284.hooks i308).Missed + 1))), (34, Pt b4)] rfl (by kernel_rfl) ?_
   refine OS.op (v := .pointer (some ⟨b4, 0 + Int.toNat x295 * 5, none⟩)) rfl rfl rfl rfl rfl (fun a ha => aidx_run (n := 4) 64 5 rfl rfl rfl (ain_some hi309).1 (ain_some hi309).2.1 (by kernel_rfl) (by kernel_rfl) a _ ha) ?_
   refine OS.pure 1 [(36, .pointer (some ⟨b4, 0 + Int.toNat x295 * 5 + 1, none⟩))] rfl (by kernel_rfl) ?_
   refine OS.on ?_
   refine OW.stA hst 0 rfl rfl rfl rfl rfl (by kernel_rfl) rfl enc_api_Tally (fun _ => rfl) 4 s284.hooks 0 rfl rfl hi309 1 rfl rfl (api_Tally.mk (s284.hooks i308).Runs (wu64 ((s284.hooks i308).Missed + 1)) (s284.hooks i308).Steps (s284.hooks i308).Calls (s284.hooks i308).Sum) rfl [U ((aset s284.hooks i308 (api_Tally.mk (s284.hooks i308).Runs (wu64 ((s284.hooks i308).Missed + 1)) (s284.hooks i308).Steps (s284.hooks i308).Calls (s284.hooks i308).Sum)) 0).Runs, U ((aset s284.hooks i308 (api_Tally.mk (s284.hooks i308).Runs (wu64 ((s284.hooks i308).Missed + 1)) (s284.hooks i308).Steps (s284.hooks i308).Calls (s284.hooks i308).Sum)) 0).Missed, U ((aset s284.hooks i308 (api_Tally.mk (s284.hooks i308).Runs (wu64 ((s284.hooks i308).Missed + 1)) (s284.hooks i308).Steps (s284.hooks i308).Calls (s284.hooks i308).Sum)) 0).Steps, U ((aset s284.hooks i308 (api_Tally.mk (s284.hooks i308).Runs (wu64 ((s284.hooks i308).Missed + 1)) (s284.hooks i308).Steps (s284.hooks i308).Calls (s284.hooks i308).Sum)) 0).Calls, U ((aset s284.hooks i308 (api_Tally.mk (s284.hooks i308).Runs (wu64 ((s284.hooks i308).Missed + 1)) (s284.hooks i308).Steps (s284.hooks i308).Calls (s284.hooks i308).Sum)) 0).Sum, U ((aset s284.hooks i308 (api_Tally.mk (s284.hooks i308).Runs (wu64 ((s284.hooks i308).Missed + 1)) (s284.hooks i308).Steps (s284.hooks i308).Calls (s284.hooks i308).Sum)) 1).Runs, U ((aset s284.hooks i308 (api_Tally.mk (s284.hooks i308).Runs (wu64 ((s284.hooks i308).Missed + 1)) (s284.hooks i308).Steps (s284.hooks i308).Calls (s284.hooks i308).Sum)) 1).Missed, U ((aset s284.hooks i308 (api_Tally.mk (s284.hooks i308).Runs (wu64 ((s284.hooks i308).Missed + 1)) (s284.hooks i308).Steps (s284.hooks i308).Calls (s284.hooks i308).Sum)) 1).Steps, U ((aset s284.hooks i308 (api_Tally.mk (s284.hooks i308).Runs (wu64 ((s284.hooks i308).Missed + 1)) (s284.hooks i308).Steps (s284.hooks i308).Calls (s284.hooks i308).Sum)) 1).Calls, U ((aset s284.hooks i308 (api_Tally.mk (s284.hooks i308).Runs (wu64 ((s284.hooks i308).Missed + 1)) (s284.hooks i308).Steps (s284.hooks i308).Calls (s284.hooks i308).Sum)) 1).Sum, U ((aset s284.hooks i308 (api_Tally.mk (s284.hooks i308).Runs (wu64 ((s284.hooks i308).Missed + 1)) (s284.hooks i308).Steps (s284.hooks i308).Calls (s284.hooks i308).Sum)) 2).Runs, U ((aset s284.hooks i308 (api_Tally.mk (s284.hooks i308).Runs (wu64 ((s284.hooks i308).Missed + 1)) (s284.hooks i308).Steps (s284.hooks i308).Calls (s284.hooks i308).Sum)) 2).Missed, U ((aset s284.hooks i308 (api_Tally.mk (s284.hooks i308).Runs (wu64 ((s284.hooks i308).Missed + 1)) (s284.hooks i308).Steps (s284.hooks i308).Calls (s284.hooks i308).Sum)) 2).Steps, U ((aset s284.hooks i308 (api_Tally.mk (s284.hooks i308).Runs (wu64 ((s284.hooks i308).Missed + 1)) (s284.hooks i308).Steps (s284.hooks i308).Calls (s284.hooks i308).Sum)) 2).Calls, U ((aset s284.hooks i308 (api_Tally.mk (s284.hooks i308).Runs (wu64 ((s284.hooks i308).Missed + 1)) (s284.hooks i308).Steps (s284.hooks i308).Calls (s284.hooks i308).Sum)) 2).Sum, U ((aset s284.hooks i308 (api_Tally.mk (s284.hooks i308).Runs (wu64 ((s284.hooks i308).Missed + 1)) (s284.hooks i308).Steps (s284.hooks i308).Calls (s284.hooks i308).Sum)) 3).Runs, U ((aset s284.hooks i308 (api_Tally.mk (s284.hooks i308).Runs (wu64 ((s284.hooks i308).Missed + 1)) (s284.hooks i308).Steps (s284.hooks i308).Calls (s284.hooks i308).Sum)) 3).Missed, U ((aset s284.hooks i308 (api_Tally.mk (s284.hooks i308).Runs (wu64 ((s284.hooks i308).Missed + 1)) (s284.hooks i308).Steps (s284.hooks i308).Calls (s284.hooks i308).Sum)) 3).Steps, U ((aset s284.hooks i308 (api_Tally.mk (s284.hooks i308).Runs (wu64 ((s284.hooks i308).Missed + 1)) (s284.hooks i308).Steps (s284.hooks i308).Calls (s284.hooks i308).Sum)) 3).Calls, U ((aset s284.hooks i308 (api_Tally.mk (s284.hooks i308).Runs (wu64 ((s284.hooks i308).Missed + 1)) (s284.hooks i308).Steps (s284.hooks i308).Calls (s284.hooks i308).Sum)) 3).Sum] rfl ?_
   intro w310 hst
   refine OW.nil rfl (QW.block_normal (QW.next (CW.region ?_)))
   refine pu 2 [(21, I (w64 ((i286 : Int) + 1)))] (OW.nil rfl ?_)
   have hst := hst.shutP0 (enc := enc_stats_Stats) (sz := 20) (he := fun _ => rfl) 0 rfl (stats_Stats.mk (aset s284.hooks i308 (api_Tally.mk (s284.hooks i308).Runs (wu64 ((s284.hooks i308).Missed + 1)) (s284.hooks i308).Steps (s284.hooks i308).Calls (s284.hooks i308).Sum))) rfl
   refine QW.say 21 rfl (congrArg (Value.int .i64) (w64_cnt hc288 l1)) ?_
   exact QW.meet (fun a ha => ⟨n282, Nat.lt_succ_self _, i286 + 1, (stats_Stats.mk (aset s284.hooks i308 (api_Tally.mk (s284.hooks i308).Runs (wu64 ((s284.hooks i308).Missed + 1)) (s284.hooks i308).Steps (s284.hooks i308).Calls (s284.hooks i308).Sum))), ([b4]), cnt_next hi287, ha.ag, hst.keep [0] rfl, hl283⟩)
  rcases n282 with _ | n282
  ·refine CW.cond_f rfl hc288 ?_
   refine CW.exit (QW.then_exit (QW.then_exit ?_))
   refine QW.block_here ?_
   obtain rfl := inj hl283
   exact QW.meet (fun a ha => ⟨S285, ha.ag, hst.keep [0] rfl⟩)
  exact (cnt1 hi287 hc288).elim
 rintro a w1 ⟨S230, ha, hst⟩
 refine CW.go ?_ ha
 refine rg ?_
 refine pu 1 [(4, I 0)] (nx (CW.ret ?_))
 obtain rfl := inj hF
 refine QW.ret1 rfl rfl ?_
 exact ⟨S230, rfl, hst.keep [0] rfl⟩
theorem worker_Worker_Skip_ok (w : World) (v0 : Value) (S0 : List Nat) (p0 : worker_Worker) (r : Int × worker_Worker) (hF : worker_Worker_Skip p0 = some r)
    (hst : St w (fp [itI R_t33 [v0] S0 p0]) w [itI R_t33 [v0] S0 p0]) :
    Calls Tryd.prog 14 [v0].toArray w (fun e w' => ∃ (s0 : List Nat), e = .returned (I r.1) ∧ St w (fp [itI R_t33 [v0] S0 p0]) w' [itI R_t33 [v0] s0 r.2]) := by
 refine CW.start (N := 21) Tryd.func14 rfl rfl rfl ?_
 obtain ⟨b1, rfl⟩ := hst.fptr 0 rfl
 refine rg ?_
 refine pu 1 [] (nx (CW.seq (CW.seq ?_)))
 obtain ⟨v2, S3, v4, S5, v6, S7, hst⟩ := hst.openD3 0 rfl rfl rfl rfl
 obtain ⟨b8, rfl⟩ := hst.fptr 1 rfl
 obtain ⟨b9, rfl⟩ := hst.fptr 2 rfl
 have hst : St _ _ _ [blkI b1 73 [Pt b8, Pt b9, I p0.mode_, I p0.job.hook, I p0.job.event.N, U p0.job.event.Event.A, U p0.job.event.Event.B, I p0.job.version, I p0.job.prog, U p0.job.calls, v6], _, _, _] := hst
 refine CW.region ?_
 refine pu 3 [(5, .pointer (some ⟨b1, 2, none⟩))] ?_
 refine OW.ld rfl rfl rfl rfl (by kernel_rfl) (hst.blk 0 rfl rfl) ?_
 refine pu 1 [(7, .bool (p0.mode_ != 1))] (nx ?_)
 refine br ((p0.mode_ != 1)) hF (fun hF hc10 => ?_) (fun hF hc10 => ?_)
 ·refine rg ?_
  refine pu 1 [(2, I 41)] (nx (CW.ret (QW.then_ret ?_)))
  obtain ⟨S11, hst⟩ := hst.shutD3 R_t73 rfl 0 1 2 3 [] rfl rfl rfl rfl rfl p0 rfl rfl
  obtain rfl := inj hF
  refine QW.ret1 rfl rfl ?_
  exact ⟨S11, rfl, hst.keep [0] rfl⟩
 refine CW.skip (QW.next (CW.seq ?_))
 refine CW.plan (by kernel_rfl) ?_
 intro w21 hch22
 have hst := hst.same hch22
 refine OA.pure [0, 1, 2] [(10, .pointer (some ⟨b1, 1, none⟩))] (by kernel_rfl) ?_
 refine OA.ld (i := 3) rfl (by kernel_rfl) rfl rfl rfl (by kernel_rfl) (hst.blk 0 rfl rfl) ?_
 refine OA.pure [4, 5, 6, 7] [(15, .pointer (some ⟨b1, 3, none⟩))] (by kernel_rfl) ?_
 refine OA.ld (i := 8) rfl (by kernel_rfl) rfl rfl rfl (by kernel_rfl) (hst.blk 0 rfl rfl) ?_
 refine OA.act (i := 9) [3] (by kernel_rfl) rfl rfl (by kernel_rfl) (by kernel_rfl) ?_
 refine OW.row (α := Int) (e := 3) (enc := encInt .i64) (sz := 1) hst rfl rfl rfl [p0.job.hook] rfl (fun _ => rfl) rfl rfl (fun _ => by kernel_rfl) ?_
 intro g23 w24 hst
 refine OA.next ⟨(hst.blk 0 rfl rfl), trivial⟩ ?_
 refine OA.act (i := 10) [] (by kernel_rfl) rfl rfl (by kernel_rfl) (by kernel_rfl) ?_
 obtain ⟨r25, hr26, hF⟩ := bs hF
 refine OW.fn rfl rfl rfl rfl (by kernel_rfl) (stats_Stats_Missed_ok _ (Pt b9) S5 p0.Stats (.slice (some ⟨g23, 0, none⟩) 1 1) ([p0.job.hook]) r25 hr26 (hst.part [2] rfl) (hst.rd 4 rfl (fun _ => rfl) [2] rfl (hst.len 4 rfl).1)) ?_
 rintro e w27 ⟨S29, rfl, hst28⟩
 refine ⟨_, rfl, ?_⟩
 have hst := hst.join (idx := [2]) (rest := [0, 1, 3, 4]) rfl hst28
 refine OA.next trivial ?_
 refine OA.fin (by kernel_rfl) (by kernel_rfl) (QW.next (rg ?_))
 refine pu 1 [(19, Pt b1)] ?_
 obtain ⟨S36, hst⟩ := hst.shutD3 R_t73 rfl 1 2 0 3 [4] rfl rfl rfl rfl rfl (worker_Worker.mk p0.Scratch r25.2 p0.mode_ p0.job) rfl rfl
 obtain ⟨r37, hr38, hF⟩ := bs hF
 refine OW.fn rfl rfl rfl rfl (by kernel_rfl) (worker_Worker_rest_ok _ (Pt b1) S36 (worker_Worker.mk p0.Scratch r25.2 p0.mode_ p0.job) r37 hr38 (hst.part [1] rfl)) ?_
 rintro e w39 ⟨S41, rfl, hst40⟩
 refine ⟨_, rfl, ?_⟩
 have hst := hst.join (idx := [1]) (rest := [0]) rfl hst40
 refine nx (rg ?_)
 refine pu 1 [(2, I 0)] (nx (CW.ret ?_))
 obtain rfl := inj hF
 refine QW.ret1 rfl rfl ?_
 exact ⟨S41, rfl, hst.keep [0] rfl⟩
theorem sigs_Value_ok (w : World) (p0 : Int) (p1 : api_Res) (r : Int) (hF : sigs_Value p0 p1 = some r)
    (hst : St w (fp []) w []) :
    Calls Tryd.prog 39 [I p0, .agg [I p1.E, .bool p1.Found, U p1.Val, .bool p1.Out, U p1.OutKey, U p1.OutVal].toArray].toArray w (fun e w' => e = .returned (U r) ∧ St w (fp []) w' []) := by
 refine CW.start (N := 23) Tryd.func39 rfl rfl rfl (rg ?_)
 refine OW.box hst rfl rfl rfl rfl [I p1.E, .bool p1.Found, U p1.Val, .bool p1.Out, U p1.OutKey, U p1.OutVal] rfl ?_
 intro b3 w4 hst
 refine pu 1 [] (nx (rg ?_))
 refine pu 1 [(5, .bool false)] (nx (CW.seq (rg ?_)))
 refine pu 1 [(6, I p0)] (nx (CW.block (CW.seq (rg ?_))))
 refine pu 2 [(7, .bool (p0 == 0))] (nx ?_)
 obtain ⟨o6, ho7, hF⟩ := bs hF
 refine CW.cutK (fun a w1 => Rep 23 [(3, Pt b3), (5, .bool false), (6, I p0), (7, .bool o6)] a ∧ St w (fp []) w1 [blkI b3 52 [I p1.E, .bool p1.Found, U p1.Val, .bool p1.Out, U p1.OutKey, U p1.OutVal]]) ?_ ?_
 ·refine br ((p0 == 0)) ho7 (fun ho7 hc8 => ?_) (fun ho7 hc8 => ?_)
  ·refine CW.skip ?_
   obtain rfl := inj ho7
   exact QW.meet (fun a ha => ⟨ha.ag, hst.keep [0] rfl⟩)
  refine CW.region ?_
  refine pu 2 [(7, .bool (p0 == 4))] (OW.nil rfl ?_)
  obtain rfl := inj ho7
  exact QW.meet (fun a ha => ⟨ha.ag, hst.keep [0] rfl⟩)
 rintro a w1 ⟨ha, hst⟩
 refine CW.go ?_ ha
 refine br (o6) hF (fun hF hc9 => ?_) (fun hF hc9 => ?_)
 ·refine rg ?_
  refine pu 1 [(10, .pointer (some ⟨b3, 2, none⟩))] ?_
  refine OW.ld rfl rfl rfl rfl (by kernel_rfl) (hst.blk 0 rfl rfl) ?_
  refine pu 1 [(4, U p1.Val)] (nx (CW.ret (QW.block_ret (QW.then_ret ?_))))
  obtain rfl := inj hF
  refine QW.ret1 rfl rfl ?_
  exact ⟨rfl, hst.keep [] rfl⟩
 refine CW.seq (rg ?_)
 refine pu 2 [(12, .bool (p0 == 1))] (nx ?_)
 obtain ⟨o11, ho12, hF⟩ := bs hF
 refine CW.cutK (fun a w1 => Rep 23 [(3, Pt b3), (5, .bool false), (6, I p0), (12, .bool o11)] a ∧ St w (fp []) w1 [blkI b3 52 [I p1.E, .bool p1.Found, U p1.Val, .bool p1.Out, U p1.OutKey, U p1.OutVal]]) ?_ ?_
 ·refine br ((p0 == 1)) ho12 (fun ho12 hc13 => ?_) (fun ho12 hc13 => ?_)
  ·refine CW.skip ?_
   obtain rfl := inj ho12
   exact QW.meet (fun a ha => ⟨ha.ag, hst.keep [0] rfl⟩)
  refine CW.region ?_
  refine pu 2 [(12, .bool (p0 == 3))] (OW.nil rfl ?_)
  obtain rfl := inj ho12
  exact QW.meet (fun a ha => ⟨ha.ag, hst.keep [0] rfl⟩)
 rintro a w1 ⟨ha, hst⟩
 refine CW.go ?_ ha
 refine br (o11) hF (fun hF hc14 => ?_) (fun hF hc14 => ?_)
 ·refine CW.region ?_
  refine pu 1 [(15, .pointer (some ⟨b3, 1, none⟩))] ?_
  refine OW.ld rfl rfl rfl rfl (by kernel_rfl) (hst.blk 0 rfl rfl) ?_
  refine pu 1 [(5, .bool p1.Found)] (OW.nil rfl (QW.block_normal (QW.next (CW.seq (rg ?_)))))
  refine pu 1 [(22, .bool p1.Found)] (nx ?_)
  refine br (p1.Found) hF (fun hF hc15 => ?_) (fun hF hc15 => ?_)
  ·refine rg ?_
   refine pu 1 [(4, U 1)] (nx (CW.ret (QW.then_ret ?_)))
   obtain rfl := inj hF
   refine QW.ret1 rfl rfl ?_
   exact ⟨rfl, hst.keep [] rfl⟩
  refine CW.skip (QW.next (rg ?_))
  refine pu 1 [(4, U 0)] (nx (CW.ret ?_))
  obtain rfl := inj hF
  refine QW.ret1 rfl rfl ?_
  exact ⟨rfl, hst.keep [] rfl⟩
 refine rg ?_
 refine pu 2 [(17, .bool (p0 == 2))] (nx ?_)
 refine br ((p0 == 2)) hF (fun hF hc16 => ?_) (fun hF hc16 => ?_)
 ·refine CW.region ?_
  refine pu 1 [(19, Pt b3)] ?_
  refine OW.ld rfl rfl rfl rfl (by kernel_rfl) (hst.blk 0 rfl rfl) ?_
  refine pu 2 [(5, .bool (p1.E == 0))] (OW.nil rfl (QW.block_normal (QW.next (CW.seq (rg ?_)))))
  refine pu 1 [(22, .bool (p1.E == 0))] (nx ?_)
  refine br ((p1.E == 0)) hF (fun hF hc17 => ?_) (fun hF hc17 => ?_)
  ·refine rg ?_
   refine pu 1 [(4, U 1)] (nx (CW.ret (QW.then_ret ?_)))
   obtain rfl := inj hF
   refine QW.ret1 rfl rfl ?_
   exact ⟨rfl, hst.keep [] rfl⟩
  refine CW.skip (QW.next (rg ?_))
  refine pu 1 [(4, U 0)] (nx (CW.ret ?_))
  obtain rfl := inj hF
  refine QW.ret1 rfl rfl ?_
  exact ⟨rfl, hst.keep [] rfl⟩
 refine CW.skip (QW.block_normal (QW.next (CW.seq (rg ?_))))
 refine pu 1 [(22, .bool false)] (nx (CW.cond_f rfl rfl (CW.skip (QW.next (rg ?_)))))
 refine pu 1 [(4, U 0)] (nx (CW.ret ?_))
 obtain rfl := inj hF
 refine QW.ret1 rfl rfl ?_
 exact ⟨rfl, hst.keep [] rfl⟩
theorem engine_Machine_Answer_ok (w : World) (v0 : Value) (S0 : List Nat) (p0 : engine_Machine) (p1 : api_Res) (v2 : Value) (S2 : List Nat) (g0 : scratch_Scratch) (r : Int × engine_Machine) (hF : engine_Machine_Answer p0 p1 g0 = some r)
    (hst : St w (fp [itI (R_t69 v2) [v0] S0 p0, itI R_t67 [v2] S2 g0]) w [itI (R_t69 v2) [v0] S0 p0, itI R_t67 [v2] S2 g0]) :
    Calls Tryd.prog 25 [v0, .agg [I p1.E, .bool p1.Found, U p1.Val, .bool p1.Out, U p1.OutKey, U p1.OutVal].toArray].toArray w (fun e w' => ∃ (s0 : List Nat) (s2 : List Nat), e = .returned (I r.1) ∧ St w (fp [itI (R_t69 v2) [v0] S0 p0, itI R_t67 [v2] S2 g0]) w' [itI (R_t69 v2) [v0] s0 r.2, itI R_t67 [v2] s2 g0]) := by
 refine CW.start (N := 38) Tryd.func25 rfl rfl rfl ?_
 obtain ⟨b1, rfl⟩ := hst.fptr 0 rfl
 obtain ⟨b2, rfl⟩ := hst.fptr 1 rfl
 refine rg ?_
 refine OW.box hst rfl rfl rfl rfl [I p1.E, .bool p1.Found, U p1.Val, .bool p1.Out, U p1.OutKey, U p1.OutVal] rfl ?_
 intro b5 w6 hst
 refine pu 1 [] (nx (CW.seq (CW.seq ?_)))
 obtain ⟨v7, S8, v9, S10, hst⟩ := hst.openQ2 0 rfl rfl rfl
 have hst := hst.toRow1 3 rfl
 have hst := hst.toRow1 4 rfl
 obtain ⟨l11, a12, c13, rfl⟩ := hst.len 3 rfl
 obtain ⟨l14, a15, c16, rfl⟩ := hst.len 4 rfl
 have hst : St _ _ _ [blkI b1 129 [U p0.Event.A, U p0.Event.B, .slice a12 (p0.module.Maps).length c13, .slice a15 (p0.module.Code).length c16, Pt b2, U (p0.regs 0), U (p0.regs 1), U (p0.regs 2), U (p0.regs 3), U (p0.regs 4), U (p0.regs 5), U (p0.regs 6), U (p0.regs 7), I (p0.turns 0), I (p0.turns 1), I (p0.turns 2), I (p0.turns 3), I (p0.turns 4), I (p0.turns 5), I (p0.turns 6), I (p0.turns 7), I (p0.turns 8), I (p0.turns 9), I (p0.turns 10), I (p0.turns 11), I (p0.turns 12), I (p0.turns 13), I (p0.turns 14), I (p0.turns 15), I (p0.turns 16), I (p0.turns 17), I (p0.turns 18), I (p0.turns 19), I (p0.turns 20), I (p0.turns 21), I (p0.turns 22), I (p0.turns 23), I (p0.turns 24), I (p0.turns 25), I (p0.turns 26), I (p0.turns 27), I (p0.turns 28), I (p0.turns 29), I (p0.turns 30), I (p0.turns 31), I (p0.turns 32), I (p0.turns 33), I (p0.turns 34), I (p0.turns 35), I (p0.turns 36), I (p0.turns 37), I (p0.turns 38), I (p0.turns 39), I (p0.turns 40), I (p0.turns 41), I (p0.turns 42), I (p0.turns 43), I (p0.turns 44), I (p0.turns 45), I (p0.turns 46), I (p0.turns 47), I (p0.turns 48), I (p0.turns 49), I (p0.turns 50), I (p0.turns 51), I (p0.turns 52), I (p0.turns 53), I (p0.turns 54), I (p0.turns 55), I (p0.turns 56), I (p0.turns 57), I (p0.turns 58), I (p0.turns 59), I (p0.turns 60), I (p0.turns 61), I (p0.turns 62), I (p0.turns 63), I p0.at_, I p0.steps, I p0.state], _, _, _, _] := hst
 refine CW.region ?_
 refine pu 3 [(7, .pointer (some ⟨b1, 79, none⟩))] ?_
 refine OW.ld rfl rfl rfl rfl (by kernel_rfl) (hst.blk 0 rfl rfl) ?_
 refine pu 1 [(9, .bool (p0.state != 1))] (nx ?_)
 refine br ((p0.state != 1)) hF (fun hF hc17 => ?_) (fun hF hc17 => ?_)
 ·refine rg ?_
  refine pu 1 [(4, I 2)] (nx (CW.ret (QW.then_ret ?_)))
  have hst := hst.toIt 3 rfl (fun _ => rfl) (by decide)
  have hst := hst.toIt 4 rfl (fun _ => rfl) (by decide)
  obtain ⟨S18, hst⟩ := hst.shutP2 (R_t129 (Pt b2)) rfl 0 3 4 [1, 2] rfl rfl rfl rfl (engine_Machine.mk p0.Event p0.module p0.regs p0.turns p0.at_ p0.steps p0.state) rfl rfl
  obtain rfl := inj hF
  refine QW.ret1 rfl rfl ?_
  exact ⟨S18, S2, rfl, hst.keep [2, 0] rfl⟩
 refine CW.skip (QW.next (CW.seq ?_))
 refine CW.plan (by kernel_rfl) ?_
 intro w33 hch34
 have hst := hst.same hch34
 refine OA.pure [0, 1, 2, 3, 4] [(10, Pt b1), (14, .pointer (some ⟨b1, 3, none⟩))] (by kernel_rfl) ?_
 refine OA.ld (i := 5) rfl (by kernel_rfl) rfl rfl rfl (by kernel_rfl) (hst.blk 0 rfl rfl) ?_
 refine OA.pure [6, 7, 8] [(18, .pointer (some ⟨b1, 77, none⟩))] (by kernel_rfl) ?_
 refine OA.ld (i := 9) rfl (by kernel_rfl) rfl rfl rfl (by kernel_rfl) (hst.blk 0 rfl rfl) ?_
 obtain ⟨x35, hx36, hF⟩ := bs hF
 obtain ⟨g38, o39, c40, hv37⟩ := hst.rowv 4 rfl hx36
 refine OA.idx (i := 10) 76 5 rfl (by kernel_rfl) rfl rfl rfl hv37 rfl (idx_some hx36).1 (idx_some hx36).2.1 (by kernel_rfl) (by kernel_rfl) ?_
 refine OA.pure [11] [(21, .pointer (some ⟨g38, o39 + Int.toNat p0.at_ * 5 + 4, none⟩))] (by kernel_rfl) ?_
 refine OA.ld (i := 12) rfl (by kernel_rfl) rfl rfl rfl (by kernel_rfl) (hst.rowc 4 rfl (fun _ => rfl) hx36 hv37 4 _ rfl) ?_
 refine OA.ldN (i := 13) (cs := [I p1.E, .bool p1.Found, U p1.Val, .bool p1.Out, U p1.OutKey, U p1.OutVal]) rfl (by kernel_rfl) rfl rfl rfl (by kernel_rfl) (by kernel_rfl) (hst.blkN 2 rfl 0 6) ?_
 refine OA.pure [15, 16] [(26, .pointer (some ⟨b1, 5, none⟩))] (by kernel_rfl) ?_
 refine OA.act (i := 14) [] (by kernel_rfl) rfl rfl (by kernel_rfl) (by kernel_rfl) ?_
 obtain ⟨r41, hr42, hF⟩ := bs hF
 refine OW.fn rfl rfl rfl rfl (by kernel_rfl) (sigs_Value_ok _ x35.Imm p1 r41 hr42 (hst.part [] rfl)) ?_
 rintro e w43 ⟨rfl, hst44⟩
 refine ⟨_, rfl, ?_⟩
 have hst := hst.join (idx := []) (rest := [0, 1, 2, 3, 4]) rfl hst44
 refine OA.next trivial ?_
 refine OA.val (i := 17) (v := .pointer (some ⟨b1, 5, none⟩)) rfl (by kernel_rfl) rfl rfl rfl rfl (fun a w ha => aidx_run (n := 8) (q := 0) 22 1 rfl rfl rfl (by decide) (by decide) (by kernel_rfl) (by kernel_rfl) a w ha) ?_
 refine OA.act (i := 18) [] (by kernel_rfl) rfl rfl (by kernel_rfl) (by kernel_rfl) ?_
 refine OW.stB hst 0 rfl rfl rfl rfl rfl (by kernel_rfl) rfl rfl [U p0.Event.A, U p0.Event.B, .slice a12 (p0.module.Maps).length c13, .slice a15 (p0.module.Code).length c16, Pt b2, U r41, U (p0.regs 1), U (p0.regs 2), U (p0.regs 3), U (p0.regs 4), U (p0.regs 5), U (p0.regs 6), U (p0.regs 7), I (p0.turns 0), I (p0.turns 1), I (p0.turns 2), I (p0.turns 3), I (p0.turns 4), I (p0.turns 5), I (p0.turns 6), I (p0.turns 7), I (p0.turns 8), I (p0.turns 9), I (p0.turns 10), I (p0.turns 11), I (p0.turns 12), I (p0.turns 13), I (p0.turns 14), I (p0.turns 15), I (p0.turns 16), I (p0.turns 17), I (p0.turns 18), I (p0.turns 19), I (p0.turns 20), I (p0.turns 21), I (p0.turns 22), I (p0.turns 23), I (p0.turns 24), I (p0.turns 25), I (p0.turns 26), I (p0.turns 27), I (p0.turns 28), I (p0.turns 29), I (p0.turns 30), I (p0.turns 31), I (p0.turns 32), I (p0.turns 33), I (p0.turns 34), I (p0.turns 35), I (p0.turns 36), I (p0.turns 37), I (p0.turns 38), I (p0.turns 39), I (p0.turns 40), I (p0.turns 41), I (p0.turns 42), I (p0.turns 43), I (p0.turns 44), I (p0.turns 45), I (p0.turns 46), I (p0.turns 47), I (p0.turns 48), I (p0.turns 49), I (p0.turns 50), I (p0.turns 51), I (p0.turns 52), I (p0.turns 53), I (p0.turns 54), I (p0.turns 55), I (p0.turns 56), I (p0.turns 57), I (p0.turns 58), I (p0.turns 59), I (p0.turns 60), I (p0.turns 61), I (p0.turns 62), I (p0.turns 63), I p0.at_, I p0.steps, I p0.state] rfl ?_
 intro w45 hst
 refine OA.next trivial ?_
 refine OA.fin (by kernel_rfl) (by kernel_rfl) (QW.next (rg ?_))
 refine pu 3 [(28, Pt b1), (30, .pointer (some ⟨b1, 77, none⟩))] ?_
 refine OW.ld rfl rfl rfl rfl (by kernel_rfl) (hst.blk 0 rfl rfl) ?_
 refine pu 3 [(32, I (w64 (p0.at_ + 1))), (34, .pointer (some ⟨b1, 77, none⟩))] ?_
 refine OW.stB hst 0 rfl rfl rfl rfl rfl (by kernel_rfl) rfl rfl [U p0.Event.A, U p0.Event.B, .slice a12 (p0.module.Maps).length c13, .slice a15 (p0.module.Code).length c16, Pt b2, U r41, U (p0.regs 1), U (p0.regs 2), U (p0.regs 3), U (p0.regs 4), U (p0.regs 5), U (p0.regs 6), U (p0.regs 7), I (p0.turns 0), I (p0.turns 1), I (p0.turns 2), I (p0.turns 3), I (p0.turns 4), I (p0.turns 5), I (p0.turns 6), I (p0.turns 7), I (p0.turns 8), I (p0.turns 9), I (p0.turns 10), I (p0.turns 11), I (p0.turns 12), I (p0.turns 13), I (p0.turns 14), I (p0.turns 15), I (p0.turns 16), I (p0.turns 17), I (p0.turns 18), I (p0.turns 19), I (p0.turns 20), I (p0.turns 21), I (p0.turns 22), I (p0.turns 23), I (p0.turns 24), I (p0.turns 25), I (p0.turns 26), I (p0.turns 27), I (p0.turns 28), I (p0.turns 29), I (p0.turns 30), I (p0.turns 31), I (p0.turns 32), I (p0.turns 33), I (p0.turns 34), I (p0.turns 35), I (p0.turns 36), I (p0.turns 37), I (p0.turns 38), I (p0.turns 39), I (p0.turns 40), I (p0.turns 41), I (p0.turns 42), I (p0.turns 43), I (p0.turns 44), I (p0.turns 45), I (p0.turns 46), I (p0.turns 47), I (p0.turns 48), I (p0.turns 49), I (p0.turns 50), I (p0.turns 51), I (p0.turns 52), I (p0.turns 53), I (p0.turns 54), I (p0.turns 55), I (p0.turns 56), I (p0.turns 57), I (p0.turns 58), I (p0.turns 59), I (p0.turns 60), I (p0.turns 61), I (p0.turns 62), I (p0.turns 63), I (w64 (p0.at_ + 1)), I p0.steps, I p0.state] rfl ?_
 intro w47 hst
 refine nx (rg ?_)
 refine pu 3 [(37, .pointer (some ⟨b1, 79, none⟩))] ?_
 refine OW.stB hst 0 rfl rfl rfl rfl rfl (by kernel_rfl) rfl rfl [U p0.Event.A, U p0.Event.B, .slice a12 (p0.module.Maps).length c13, .slice a15 (p0.module.Code).length c16, Pt b2, U r41, U (p0.regs 1), U (p0.regs 2), U (p0.regs 3), U (p0.regs 4), U (p0.regs 5), U (p0.regs 6), U (p0.regs 7), I (p0.turns 0), I (p0.turns 1), I (p0.turns 2), I (p0.turns 3), I (p0.turns 4), I (p0.turns 5), I (p0.turns 6), I (p0.turns 7), I (p0.turns 8), I (p0.turns 9), I (p0.turns 10), I (p0.turns 11), I (p0.turns 12), I (p0.turns 13), I (p0.turns 14), I (p0.turns 15), I (p0.turns 16), I (p0.turns 17), I (p0.turns 18), I (p0.turns 19), I (p0.turns 20), I (p0.turns 21), I (p0.turns 22), I (p0.turns 23), I (p0.turns 24), I (p0.turns 25), I (p0.turns 26), I (p0.turns 27), I (p0.turns 28), I (p0.turns 29), I (p0.turns 30), I (p0.turns 31), I (p0.turns 32), I (p0.turns 33), I (p0.turns 34), I (p0.turns 35), I (p0.turns 36), I (p0.turns 37), I (p0.turns 38), I (p0.turns 39), I (p0.turns 40), I (p0.turns 41), I (p0.turns 42), I (p0.turns 43), I (p0.turns 44), I (p0.turns 45), I (p0.turns 46), I (p0.turns 47), I (p0.turns 48), I (p0.turns 49), I (p0.turns 50), I (p0.turns 51), I (p0.turns 52), I (p0.turns 53), I (p0.turns 54), I (p0.turns 55), I (p0.turns 56), I (p0.turns 57), I (p0.turns 58), I (p0.turns 59), I (p0.turns 60), I (p0.turns 61), I (p0.turns 62), I (p0.turns 63), I (w64 (p0.at_ + 1)), I p0.steps, I 0] rfl ?_
 intro w49 hst
 refine nx (rg ?_)
 refine pu 1 [(4, I 0)] (nx (CW.ret ?_))
 have hst := hst.toIt 3 rfl (fun _ => rfl) (by decide)
 have hst := hst.toIt 4 rfl (fun _ => rfl) (by decide)
 obtain ⟨S50, hst⟩ := hst.shutP2 (R_t129 (Pt b2)) rfl 0 3 4 [1, 2] rfl rfl rfl rfl (engine_Machine.mk p0.Event p0.module (aset p0.regs 0 r41) p0.turns (w64 (p0.at_ + 1)) p0.steps 0) rfl rfl
 obtain rfl := inj hF
 refine QW.ret1 rfl rfl ?_
 exact ⟨S50, S2, rfl, hst.keep [2, 0] rfl⟩
theorem worker_Worker_Answer_ok (w : World) (v0 : Value) (S0 : List Nat) (p0 : worker_Worker) (p1 : api_Res) (r : Int × worker_Worker) (hF : worker_Worker_Answer p0 p1 = some r)
    (hst : St w (fp [itI R_t33 [v0] S0 p0]) w [itI R_t33 [v0] S0 p0]) :
    Calls Tryd.prog 15 [v0, .agg [I p1.E, .bool p1.Found, U p1.Val, .bool p1.Out, U p1.OutKey, U p1.OutVal].toArray].toArray w (fun e w' => ∃ (s0 : List Nat), e = .returned (I r.1) ∧ St w (fp [itI R_t33 [v0] S0 p0]) w' [itI R_t33 [v0] s0 r.2]) := by
 refine CW.start (N := 20) Tryd.func15 rfl rfl rfl ?_
 obtain ⟨b1, rfl⟩ := hst.fptr 0 rfl
 refine rg ?_
 refine OW.box hst rfl rfl rfl rfl [I p1.E, .bool p1.Found, U p1.Val, .bool p1.Out, U p1.OutKey, U p1.OutVal] rfl ?_
 intro b4 w5 hst
 refine pu 1 [] (nx (CW.seq (CW.seq ?_)))
 obtain ⟨v6, S7, v8, S9, v10, S11, hst⟩ := hst.openD3 0 rfl rfl rfl rfl
 obtain ⟨b12, rfl⟩ := hst.fptr 2 rfl
 obtain ⟨b13, rfl⟩ := hst.fptr 3 rfl
 have hst : St _ _ _ [blkI b1 73 [Pt b12, Pt b13, I p0.mode_, I p0.job.hook, I p0.job.event.N, U p0.job.event.Event.A, U p0.job.event.Event.B, I p0.job.version, I p0.job.prog, U p0.job.calls, v10], _, _, _, _] := hst
 refine CW.region ?_
 refine pu 3 [(7, .pointer (some ⟨b1, 2, none⟩))] ?_
 refine OW.ld rfl rfl rfl rfl (by kernel_rfl) (hst.blk 0 rfl rfl) ?_
 refine pu 1 [(9, .bool (p0.mode_ != 3))] (nx ?_)
 refine br ((p0.mode_ != 3)) hF (fun hF hc14 => ?_) (fun hF hc14 => ?_)
 ·refine rg ?_
  refine pu 1 [(4, I 41)] (nx (CW.ret (QW.then_ret ?_)))
  obtain ⟨S15, hst⟩ := hst.shutD3 R_t73 rfl 0 2 3 4 [1] rfl rfl rfl rfl rfl p0 rfl rfl
  obtain rfl := inj hF
  refine QW.ret1 rfl rfl ?_
  exact ⟨S15, rfl, hst.keep [1] rfl⟩
 refine CW.skip (QW.next (rg ?_))
 refine pu 3 [(12, .pointer (some ⟨b1, 2, none⟩))] ?_
 refine OW.stB hst 0 rfl rfl rfl rfl rfl (by kernel_rfl) rfl rfl [Pt b12, Pt b13, I 2, I p0.job.hook, I p0.job.event.N, U p0.job.event.Event.A, U p0.job.event.Event.B, I p0.job.version, I p0.job.prog, U p0.job.calls, v10] rfl ?_
 intro w17 hst
 refine nx (CW.seq ?_)
 refine CW.tail 6 (by kernel_rfl) (by kernel_rfl) ?_
 intro w29 hch30
 have hst := hst.same hch30
 refine OS.pure 4 [(16, .pointer (some ⟨b1, 10, none⟩))] rfl (by kernel_rfl) ?_
 refine OS.ld rfl rfl rfl rfl rfl (by kernel_rfl) (hst.blk 0 rfl rfl) ?_
 refine OS.ldN (cs := [I p1.E, .bool p1.Found, U p1.Val, .bool p1.Out, U p1.OutKey, U p1.OutVal]) rfl rfl rfl rfl rfl (by kernel_rfl) (by kernel_rfl) (hst.blkN 1 rfl 0 6) ?_
 refine OS.on ?_
 obtain ⟨y31, hy32, hF⟩ := bs hF
 have hst := hst.optSome 4 rfl hy32
 obtain ⟨b33, rfl⟩ := hst.fptr 4 rfl
 obtain ⟨r34, hr35, hF⟩ := bs hF
 refine OW.fn rfl rfl rfl rfl (by kernel_rfl) (engine_Machine_Answer_ok _ (Pt b33) S11 y31 p1 (Pt b12) S7 p0.Scratch r34 hr35 (hst.part [4, 2] rfl)) ?_
 rintro e w36 ⟨S38, S39, rfl, hst37⟩
 refine ⟨_, rfl, ?_⟩
 have hst := hst.join (idx := [4, 2]) (rest := [0, 1, 3]) rfl hst37
 refine pu 1 [(4, I r34.1)] (nx (CW.ret ?_))
 have hst := hst.toOpt 0 rfl
 obtain ⟨S40, hst⟩ := hst.shutD3 R_t73 rfl 2 1 4 0 [3] rfl rfl rfl rfl rfl (worker_Worker.mk p0.Scratch p0.Stats 2 (worker_job.mk p0.job.hook p0.job.event p0.job.version p0.job.prog p0.job.calls (some r34.2))) rfl rfl
 obtain rfl := inj hF
 refine QW.ret1 rfl rfl ?_
 exact ⟨S40, rfl, hst.keep [1] rfl⟩
end Go.Proofs.YtkgajppghpmkbaaDoor

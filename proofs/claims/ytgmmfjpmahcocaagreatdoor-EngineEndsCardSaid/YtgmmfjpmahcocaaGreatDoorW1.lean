/- Written by a program (wip/gen): the walks: each Go function returns what its plain function computes. -/
import Derived.Test.YtgmmfjpmahcocaaGreatDoorProg
import Derived.Test.YtgmmfjpmahcocaaGreatDoorF1
import Derived.Test.YtgmmfjpmahcocaaGreatDoorOpen
import Derived.Test.YtgmmfjpmahcocaaGreatDoorPart
import Derived.Test.YtgmmfjpmahcocaaGreatDoorExt
import Derived.Test.YtgmmfjpmahcocaaGreatDoorSh
import Derived.Test.YtgmmfjpmahcocaaGreatDoorO1
import Derived.Test.YtgmmfjpmahcocaaGreatDoorW1p3
namespace Go.Proofs.YtgmmfjpmahcocaaGreatDoor
open Go.Sx
set_option linter.unusedVariables false
set_option maxRecDepth 10000
set_option maxHeartbeats 4000000
theorem engine_Machine_Answer_ok (w : World) (v0 : Value) (S0 : List Nat) (p0 : engine_Machine) (p1 : api_Res) (r : Int × engine_Machine) (hF : engine_Machine_Answer p0 p1 = some r)
    (hst : St w (fp [itI R_t49 [v0] S0 p0]) w [itI R_t49 [v0] S0 p0]) :
    Calls Tryz.prog 18 [v0, .agg [.int .i64 p1.E, .bool p1.Found, .int .u64 p1.Val, .bool p1.Out, .int .u64 p1.OutKey, .int .u64 p1.OutVal].toArray].toArray w (fun e w' => ∃ (s0 : List Nat), e = .returned (.int .i64 r.1) ∧ St w (fp [itI R_t49 [v0] S0 p0]) w' [itI R_t49 [v0] s0 r.2]) := by
 refine CW.start (N := 38) Tryz.func18 rfl rfl rfl ?_
 obtain ⟨b1, rfl⟩ := hst.fptr 0 rfl
 refine CW.seq (CW.region ?_)
 refine OW.box hst rfl rfl rfl rfl [.int .i64 p1.E, .bool p1.Found, .int .u64 p1.Val, .bool p1.Out, .int .u64 p1.OutKey, .int .u64 p1.OutVal] rfl ?_
 intro b4 w5 hst
 refine OW.pure 1 [] (by kernel_rfl) (OW.nil rfl (QW.next (CW.seq (CW.seq ?_))))
 obtain ⟨v6, S7, v8, S9, v10, S11, hst⟩ := hst.openQ3 0 rfl rfl rfl rfl
 have hst := hst.toRow1 2 rfl
 have hst := hst.toRow1 3 rfl
 obtain ⟨l12, a13, c14, rfl⟩ := hst.len 2 rfl
 obtain ⟨l15, a16, c17, rfl⟩ := hst.len 3 rfl
 obtain ⟨b18, rfl⟩ := hst.fptr 4 rfl
 have hst : St _ _ _ [blkI b1 96 [.int .u64 p0.Event.A, .int .u64 p0.Event.B, .slice a13 (p0.module.Maps).length c14, .slice a16 (p0.module.Code).length c17, .pointer (some ⟨b18, 0, none⟩), .int .u64 (p0.regs 0), .int .u64 (p0.regs 1), .int .u64 (p0.regs 2), .int .u64 (p0.regs 3), .int .u64 (p0.regs 4), .int .u64 (p0.regs 5), .int .u64 (p0.regs 6), .int .u64 (p0.regs 7), .int .i64 (p0.turns 0), .int .i64 (p0.turns 1), .int .i64 (p0.turns 2), .int .i64 (p0.turns 3), .int .i64 (p0.turns 4), .int .i64 (p0.turns 5), .int .i64 (p0.turns 6), .int .i64 (p0.turns 7), .int .i64 (p0.turns 8), .int .i64 (p0.turns 9), .int .i64 (p0.turns 10), .int .i64 (p0.turns 11), .int .i64 (p0.turns 12), .int .i64 (p0.turns 13), .int .i64 (p0.turns 14), .int .i64 (p0.turns 15), .int .i64 (p0.turns 16), .int .i64 (p0.turns 17), .int .i64 (p0.turns 18), .int .i64 (p0.turns 19), .int .i64 (p0.turns 20), .int .i64 (p0.turns 21), .int .i64 (p0.turns 22), .int .i64 (p0.turns 23), .int .i64 (p0.turns 24), .int .i64 (p0.turns 25), .int .i64 (p0.turns 26), .int .i64 (p0.turns 27), .int .i64 (p0.turns 28), .int .i64 (p0.turns 29), .int .i64 (p0.turns 30), .int .i64 (p0.turns 31), .int .i64 (p0.turns 32), .int .i64 (p0.turns 33), .int .i64 (p0.turns 34), .int .i64 (p0.turns 35), .int .i64 (p0.turns 36), .int .i64 (p0.turns 37), .int .i64 (p0.turns 38), .int .i64 (p0.turns 39), .int .i64 (p0.turns 40), .int .i64 (p0.turns 41), .int .i64 (p0.turns 42), .int .i64 (p0.turns 43), .int .i64 (p0.turns 44), .int .i64 (p0.turns 45), .int .i64 (p0.turns 46), .int .i64 (p0.turns 47), .int .i64 (p0.turns 48), .int .i64 (p0.turns 49), .int .i64 (p0.turns 50), .int .i64 (p0.turns 51), .int .i64 (p0.turns 52), .int .i64 (p0.turns 53), .int .i64 (p0.turns 54), .int .i64 (p0.turns 55), .int .i64 (p0.turns 56), .int .i64 (p0.turns 57), .int .i64 (p0.turns 58), .int .i64 (p0.turns 59), .int .i64 (p0.turns 60), .int .i64 (p0.turns 61), .int .i64 (p0.turns 62), .int .i64 (p0.turns 63), .int .i64 p0.at_, .int .i64 p0.steps, .int .i64 p0.state], _, _, _, _] := hst
 refine CW.region ?_
 refine OW.pure 3 [(7, .pointer (some ⟨b1, 79, none⟩))] (by kernel_rfl) ?_
 refine OW.ld rfl rfl rfl rfl (by kernel_rfl) (hst.blk 0 rfl rfl) ?_
 refine OW.pure 1 [(9, .bool (p0.state != 1))] (by kernel_rfl) (OW.nil rfl (QW.next ?_))
 rcases Bool.eq_false_or_eq_true ((p0.state != 1)) with hc19 | hc19
 ·have hF := ite_t hF hc19
  refine CW.cond_t rfl hc19 (CW.seq (CW.region ?_))
  refine OW.pure 1 [(4, .int .i64 2)] (by kernel_rfl) (OW.nil rfl (QW.next (CW.ret (QW.then_ret ?_))))
  have hst := hst.toIt 2 rfl (fun _ => rfl) (by decide)
  have hst := hst.toIt 3 rfl (fun _ => rfl) (by decide)
  obtain ⟨S20, hst⟩ := hst.shutP3 R_t96 rfl 0 2 3 4 [1] rfl rfl rfl rfl rfl p0 rfl rfl
  obtain rfl := Option.some.inj hF
  refine QW.ret1 rfl rfl ?_
  exact ⟨S20, rfl, hst.keep [1] rfl⟩
 have hF := ite_f hF hc19
 refine CW.cond_f rfl hc19 (CW.skip (QW.next (CW.seq ?_)))
 refine CW.plan (by kernel_rfl) ?_
 intro w34 hch35
 have hst := hst.same hch35
 refine OA.pure [0, 1, 2, 3, 4] [(10, .pointer (some ⟨b1, 0, none⟩)), (14, .pointer (some ⟨b1, 3, none⟩))] (by kernel_rfl) ?_
 refine OA.ld (i := 5) rfl (by kernel_rfl) rfl rfl rfl (by kernel_rfl) (hst.blk 0 rfl rfl) ?_
 refine OA.pure [6, 7, 8] [(18, .pointer (some ⟨b1, 77, none⟩))] (by kernel_rfl) ?_
 refine OA.ld (i := 9) rfl (by kernel_rfl) rfl rfl rfl (by kernel_rfl) (hst.blk 0 rfl rfl) ?_
 obtain ⟨x36, hx37, hF⟩ := bind_some' hF
 obtain ⟨g39, o40, c41, hv38⟩ := hst.rowv 3 rfl hx37
 refine OA.idx (i := 10) 43 5 rfl (by kernel_rfl) rfl rfl rfl hv38 rfl (idx_some hx37).1 (idx_some hx37).2.1 (by kernel_rfl) (by kernel_rfl) ?_
 refine OA.pure [11] [(21, .pointer (some ⟨g39, o40 + Int.toNat p0.at_ * 5 + 4, none⟩))] (by kernel_rfl) ?_
 refine OA.ld (i := 12) rfl (by kernel_rfl) rfl rfl rfl (by kernel_rfl) (hst.rowc 3 rfl (fun _ => rfl) hx37 hv38 4 _ rfl) ?_
 refine OA.ldN (i := 13) (cs := [.int .i64 p1.E, .bool p1.Found, .int .u64 p1.Val, .bool p1.Out, .int .u64 p1.OutKey, .int .u64 p1.OutVal]) rfl (by kernel_rfl) rfl rfl rfl (by kernel_rfl) (by kernel_rfl) (hst.blkN 1 rfl 0 6) ?_
 refine OA.pure [15, 16] [(26, .pointer (some ⟨b1, 5, none⟩))] (by kernel_rfl) ?_
 refine OA.act (i := 14) [] (by kernel_rfl) rfl rfl (by kernel_rfl) (by kernel_rfl) ?_
 obtain ⟨r42, hr43, hF⟩ := bind_some' hF
 refine OW.fn rfl rfl rfl rfl (by kernel_rfl) (sigs_Value_ok _ x36.Imm p1 r42 hr43 (hst.part [] rfl)) ?_
 rintro e w44 ⟨rfl, hst45⟩
 refine ⟨_, rfl, ?_⟩
 have hst := hst.join (idx := []) (rest := [0, 1, 2, 3, 4]) rfl hst45
 refine OA.next trivial ?_
 refine OA.val (i := 17) (v := .pointer (some ⟨b1, 5, none⟩)) rfl (by kernel_rfl) rfl rfl rfl rfl (fun a w ha => aidx_run (n := 8) (q := 0) 26 1 rfl rfl rfl (by decide) (by decide) (by kernel_rfl) (by kernel_rfl) a w ha) ?_
 refine OA.act (i := 18) [] (by kernel_rfl) rfl rfl (by kernel_rfl) (by kernel_rfl) ?_
 refine OW.stB hst 0 rfl rfl rfl rfl rfl (by kernel_rfl) rfl rfl [.int .u64 p0.Event.A, .int .u64 p0.Event.B, .slice a13 (p0.module.Maps).length c14, .slice a16 (p0.module.Code).length c17, .pointer (some ⟨b18, 0, none⟩), .int .u64 r42, .int .u64 (p0.regs 1), .int .u64 (p0.regs 2), .int .u64 (p0.regs 3), .int .u64 (p0.regs 4), .int .u64 (p0.regs 5), .int .u64 (p0.regs 6), .int .u64 (p0.regs 7), .int .i64 (p0.turns 0), .int .i64 (p0.turns 1), .int .i64 (p0.turns 2), .int .i64 (p0.turns 3), .int .i64 (p0.turns 4), .int .i64 (p0.turns 5), .int .i64 (p0.turns 6), .int .i64 (p0.turns 7), .int .i64 (p0.turns 8), .int .i64 (p0.turns 9), .int .i64 (p0.turns 10), .int .i64 (p0.turns 11), .int .i64 (p0.turns 12), .int .i64 (p0.turns 13), .int .i64 (p0.turns 14), .int .i64 (p0.turns 15), .int .i64 (p0.turns 16), .int .i64 (p0.turns 17), .int .i64 (p0.turns 18), .int .i64 (p0.turns 19), .int .i64 (p0.turns 20), .int .i64 (p0.turns 21), .int .i64 (p0.turns 22), .int .i64 (p0.turns 23), .int .i64 (p0.turns 24), .int .i64 (p0.turns 25), .int .i64 (p0.turns 26), .int .i64 (p0.turns 27), .int .i64 (p0.turns 28), .int .i64 (p0.turns 29), .int .i64 (p0.turns 30), .int .i64 (p0.turns 31), .int .i64 (p0.turns 32), .int .i64 (p0.turns 33), .int .i64 (p0.turns 34), .int .i64 (p0.turns 35), .int .i64 (p0.turns 36), .int .i64 (p0.turns 37), .int .i64 (p0.turns 38), .int .i64 (p0.turns 39), .int .i64 (p0.turns 40), .int .i64 (p0.turns 41), .int .i64 (p0.turns 42), .int .i64 (p0.turns 43), .int .i64 (p0.turns 44), .int .i64 (p0.turns 45), .int .i64 (p0.turns 46), .int .i64 (p0.turns 47), .int .i64 (p0.turns 48), .int .i64 (p0.turns 49), .int .i64 (p0.turns 50), .int .i64 (p0.turns 51), .int .i64 (p0.turns 52), .int .i64 (p0.turns 53), .int .i64 (p0.turns 54), .int .i64 (p0.turns 55), .int .i64 (p0.turns 56), .int .i64 (p0.turns 57), .int .i64 (p0.turns 58), .int .i64 (p0.turns 59), .int .i64 (p0.turns 60), .int .i64 (p0.turns 61), .int .i64 (p0.turns 62), .int .i64 (p0.turns 63), .int .i64 p0.at_, .int .i64 p0.steps, .int .i64 p0.state] rfl ?_
 intro w46 hst
 refine OA.next trivial ?_
 refine OA.fin (by kernel_rfl) (by kernel_rfl) (QW.next (CW.seq (CW.region ?_)))
 refine OW.pure 3 [(28, .pointer (some ⟨b1, 0, none⟩)), (30, .pointer (some ⟨b1, 77, none⟩))] (by kernel_rfl) ?_
 refine OW.ld rfl rfl rfl rfl (by kernel_rfl) (hst.blk 0 rfl rfl) ?_
 refine OW.pure 3 [(32, .int .i64 (w64 (p0.at_ + 1))), (34, .pointer (some ⟨b1, 77, none⟩))] (by kernel_rfl) ?_
 refine OW.stB hst 0 rfl rfl rfl rfl rfl (by kernel_rfl) rfl rfl [.int .u64 p0.Event.A, .int .u64 p0.Event.B, .slice a13 (p0.module.Maps).length c14, .slice a16 (p0.module.Code).length c17, .pointer (some ⟨b18, 0, none⟩), .int .u64 r42, .int .u64 (p0.regs 1), .int .u64 (p0.regs 2), .int .u64 (p0.regs 3), .int .u64 (p0.regs 4), .int .u64 (p0.regs 5), .int .u64 (p0.regs 6), .int .u64 (p0.regs 7), .int .i64 (p0.turns 0), .int .i64 (p0.turns 1), .int .i64 (p0.turns 2), .int .i64 (p0.turns 3), .int .i64 (p0.turns 4), .int .i64 (p0.turns 5), .int .i64 (p0.turns 6), .int .i64 (p0.turns 7), .int .i64 (p0.turns 8), .int .i64 (p0.turns 9), .int .i64 (p0.turns 10), .int .i64 (p0.turns 11), .int .i64 (p0.turns 12), .int .i64 (p0.turns 13), .int .i64 (p0.turns 14), .int .i64 (p0.turns 15), .int .i64 (p0.turns 16), .int .i64 (p0.turns 17), .int .i64 (p0.turns 18), .int .i64 (p0.turns 19), .int .i64 (p0.turns 20), .int .i64 (p0.turns 21), .int .i64 (p0.turns 22), .int .i64 (p0.turns 23), .int .i64 (p0.turns 24), .int .i64 (p0.turns 25), .int .i64 (p0.turns 26), .int .i64 (p0.turns 27), .int .i64 (p0.turns 28), .int .i64 (p0.turns 29), .int .i64 (p0.turns 30), .int .i64 (p0.turns 31), .int .i64 (p0.turns 32), .int .i64 (p0.turns 33), .int .i64 (p0.turns 34), .int .i64 (p0.turns 35), .int .i64 (p0.turns 36), .int .i64 (p0.turns 37), .int .i64 (p0.turns 38), .int .i64 (p0.turns 39), .int .i64 (p0.turns 40), .int .i64 (p0.turns 41), .int .i64 (p0.turns 42), .int .i64 (p0.turns 43), .int .i64 (p0.turns 44), .int .i64 (p0.turns 45), .int .i64 (p0.turns 46), .int .i64 (p0.turns 47), .int .i64 (p0.turns 48), .int .i64 (p0.turns 49), .int .i64 (p0.turns 50), .int .i64 (p0.turns 51), .int .i64 (p0.turns 52), .int .i64 (p0.turns 53), .int .i64 (p0.turns 54), .int .i64 (p0.turns 55), .int .i64 (p0.turns 56), .int .i64 (p0.turns 57), .int .i64 (p0.turns 58), .int .i64 (p0.turns 59), .int .i64 (p0.turns 60), .int .i64 (p0.turns 61), .int .i64 (p0.turns 62), .int .i64 (p0.turns 63), .int .i64 (w64 (p0.at_ + 1)), .int .i64 p0.steps, .int .i64 p0.state] rfl ?_
 intro w48 hst
 refine OW.nil rfl (QW.next (CW.seq (CW.region ?_)))
 refine OW.pure 3 [(37, .pointer (some ⟨b1, 79, none⟩))] (by kernel_rfl) ?_
 refine OW.stB hst 0 rfl rfl rfl rfl rfl (by kernel_rfl) rfl rfl [.int .u64 p0.Event.A, .int .u64 p0.Event.B, .slice a13 (p0.module.Maps).length c14, .slice a16 (p0.module.Code).length c17, .pointer (some ⟨b18, 0, none⟩), .int .u64 r42, .int .u64 (p0.regs 1), .int .u64 (p0.regs 2), .int .u64 (p0.regs 3), .int .u64 (p0.regs 4), .int .u64 (p0.regs 5), .int .u64 (p0.regs 6), .int .u64 (p0.regs 7), .int .i64 (p0.turns 0), .int .i64 (p0.turns 1), .int .i64 (p0.turns 2), .int .i64 (p0.turns 3), .int .i64 (p0.turns 4), .int .i64 (p0.turns 5), .int .i64 (p0.turns 6), .int .i64 (p0.turns 7), .int .i64 (p0.turns 8), .int .i64 (p0.turns 9), .int .i64 (p0.turns 10), .int .i64 (p0.turns 11), .int .i64 (p0.turns 12), .int .i64 (p0.turns 13), .int .i64 (p0.turns 14), .int .i64 (p0.turns 15), .int .i64 (p0.turns 16), .int .i64 (p0.turns 17), .int .i64 (p0.turns 18), .int .i64 (p0.turns 19), .int .i64 (p0.turns 20), .int .i64 (p0.turns 21), .int .i64 (p0.turns 22), .int .i64 (p0.turns 23), .int .i64 (p0.turns 24), .int .i64 (p0.turns 25), .int .i64 (p0.turns 26), .int .i64 (p0.turns 27), .int .i64 (p0.turns 28), .int .i64 (p0.turns 29), .int .i64 (p0.turns 30), .int .i64 (p0.turns 31), .int .i64 (p0.turns 32), .int .i64 (p0.turns 33), .int .i64 (p0.turns 34), .int .i64 (p0.turns 35), .int .i64 (p0.turns 36), .int .i64 (p0.turns 37), .int .i64 (p0.turns 38), .int .i64 (p0.turns 39), .int .i64 (p0.turns 40), .int .i64 (p0.turns 41), .int .i64 (p0.turns 42), .int .i64 (p0.turns 43), .int .i64 (p0.turns 44), .int .i64 (p0.turns 45), .int .i64 (p0.turns 46), .int .i64 (p0.turns 47), .int .i64 (p0.turns 48), .int .i64 (p0.turns 49), .int .i64 (p0.turns 50), .int .i64 (p0.turns 51), .int .i64 (p0.turns 52), .int .i64 (p0.turns 53), .int .i64 (p0.turns 54), .int .i64 (p0.turns 55), .int .i64 (p0.turns 56), .int .i64 (p0.turns 57), .int .i64 (p0.turns 58), .int .i64 (p0.turns 59), .int .i64 (p0.turns 60), .int .i64 (p0.turns 61), .int .i64 (p0.turns 62), .int .i64 (p0.turns 63), .int .i64 (w64 (p0.at_ + 1)), .int .i64 p0.steps, .int .i64 0] rfl ?_
 intro w50 hst
 refine OW.nil rfl (QW.next (CW.seq (CW.region ?_)))
 refine OW.pure 1 [(4, .int .i64 0)] (by kernel_rfl) (OW.nil rfl (QW.next (CW.ret ?_)))
 have hst := hst.toIt 2 rfl (fun _ => rfl) (by decide)
 have hst := hst.toIt 3 rfl (fun _ => rfl) (by decide)
 obtain ⟨S51, hst⟩ := hst.shutP3 R_t96 rfl 0 2 3 4 [1] rfl rfl rfl rfl rfl (engine_Machine.mk p0.Event p0.module p0.scratch (aset p0.regs 0 r42) p0.turns (w64 (p0.at_ + 1)) p0.steps 0) rfl rfl
 obtain rfl := Option.some.inj hF
 refine QW.ret1 rfl rfl ?_
 exact ⟨S51, rfl, hst.keep [1] rfl⟩
theorem engine_Trace_ok (w : World) (fu : Nat) (v0_0 : Value) (v0_1 : Value) (p0 : api_Module) (p1 : api_Event) (v2 : Value) (p2 : List api_Res) (r : (List api_Act) × Int) (hF : engine_Trace fu p0 p1 p2 = some r)
    (hst : St w (fp []) w []) (h0_0 : Rd w (fp []) v0_0 (encInt .i64) 1 p0.Maps) (h0_1 : Rd w (fp []) v0_1 enc_api_Inst 5 p0.Code) (h2 : Rd w (fp []) v2 enc_api_Res 6 p2) (hT0 : Rd w (fp []) (.slice (some ⟨0, 0, none⟩) 23 23) enc_ops_form 2 tab_g0) (hT1 : Rd w (fp []) (.slice (some ⟨1, 0, none⟩) 7 7) enc_sigs_sig 5 tab_g1) :
    Calls Tryz.prog 8 [.agg [v0_0, v0_1].toArray, .agg [.int .u64 p1.A, .int .u64 p1.B].toArray, v2].toArray w (fun e w' => ∃ (x0 : Value), e = .returned (.tuple #[x0, .int .i64 r.2]) ∧ St w (fp []) w' [rowI x0 80 enc_api_Act 7 r.1]) := by
 refine CW.start (N := 52) Tryz.func8 rfl rfl rfl ?_
 obtain ⟨l1, a2, c3, rfl⟩ := h0_0.len
 obtain ⟨l4, a5, c6, rfl⟩ := h0_1.len
 obtain ⟨l7, a8, c9, rfl⟩ := h2.len
 refine CW.seq (CW.region ?_)
 refine OW.box hst rfl rfl rfl rfl [.slice a2 (p0.Maps).length c3, .slice a5 (p0.Code).length c6] rfl ?_
 intro b14 w15 hst
 refine OW.box hst rfl rfl rfl rfl [.int .u64 p1.A, .int .u64 p1.B] rfl ?_
 intro b16 w17 hst
 refine OW.pure 2 [] (by kernel_rfl) (OW.nil rfl (QW.next (CW.seq ?_)))
 refine CW.plan (by kernel_rfl) ?_
 intro w37 hch38
 have hst := hst.same hch38
 refine OA.ldN (i := 0) (cs := [.slice a2 (p0.Maps).length c3, .slice a5 (p0.Code).length c6]) rfl (by kernel_rfl) rfl rfl rfl (by kernel_rfl) (by kernel_rfl) (hst.blkN 0 rfl 0 2) ?_
 refine OA.ldN (i := 1) (cs := [.int .u64 p1.A, .int .u64 p1.B]) rfl (by kernel_rfl) rfl rfl rfl (by kernel_rfl) (by kernel_rfl) (hst.blkN 1 rfl 0 2) ?_
 refine OA.act (i := 2) [1, 0] (by kernel_rfl) rfl rfl (by kernel_rfl) (by kernel_rfl) ?_
 obtain ⟨r39, hr40, hF⟩ := bind_some' hF
 refine OW.fn rfl rfl rfl rfl (by kernel_rfl) (scratch_New_ok _ r39 hr40 (hst.part [] rfl)) ?_
 rintro e w41 ⟨v43, S44, rfl, hst42⟩
 refine ⟨_, rfl, ?_⟩
 have hst := hst.join (idx := []) (rest := [0, 1]) rfl hst42
 obtain ⟨b45, rfl⟩ := hst.fptr 0 rfl
 refine OA.next ⟨(hst.blkN 2 rfl 0 2), (hst.blkN 1 rfl 0 2), trivial⟩ ?_
 refine OA.act (i := 3) [] (by kernel_rfl) rfl rfl (by kernel_rfl) (by kernel_rfl) ?_
 obtain ⟨r46, hr47, hF⟩ := bind_some' hF
 refine OW.fn rfl rfl rfl rfl (by kernel_rfl) (engine_New_ok _ fu (.slice a2 (p0.Maps).length c3) (.slice a5 (p0.Code).length c6) p0 p1 (.pointer (some ⟨b45, 0, none⟩)) S44 r39 r46 hr47 (hst.part [0] rfl) (h0_0.give hst [0]) (h0_1.give hst [0]) (hT0.give hst [0]) (hT1.give hst [0])) ?_
 rintro e w48 (⟨k50, v52, S53, he51, rfl, hst49⟩ | ⟨he54, rfl, hst49⟩)
 ·have hF := ocase_some hF he51
  refine ⟨_, rfl, ?_⟩
  have hst := hst.join (idx := [0]) (rest := [1, 2]) rfl hst49
  obtain ⟨b55, rfl⟩ := hst.fptr 0 rfl
  refine OA.next trivial ?_
  refine OA.pure [4, 5, 6] [(17, .pointer (some ⟨b55, 0, none⟩)), (18, .int .i64 r46.2)] (by kernel_rfl) ?_
  refine OA.act (i := 7) [] (by kernel_rfl) rfl rfl (by kernel_rfl) (by kernel_rfl) ?_
  refine OW.pure 1 [(8, .pointer (some ⟨b55, 0, none⟩))] (by kernel_rfl) (OA.next trivial ?_)
  refine OA.act (i := 8) [] (by kernel_rfl) rfl rfl (by kernel_rfl) (by kernel_rfl) ?_
  refine OW.pure 1 [(9, .int .i64 r46.2)] (by kernel_rfl) (OA.next trivial ?_)
  refine OA.fin (by kernel_rfl) (by kernel_rfl) (QW.next (CW.seq (CW.seq (CW.region ?_))))
  refine OW.pure 2 [(20, .bool (r46.2 != 0))] (by kernel_rfl) (OW.nil rfl (QW.next ?_))
  rcases Bool.eq_false_or_eq_true ((r46.2 != 0)) with hc56 | hc56
  ·have hF := ite_t hF hc56
   refine CW.cond_t rfl hc56 (CW.seq (CW.region ?_))
   refine OW.pure 3 [(6, .slice none 0 0), (7, .int .i64 r46.2)] (by kernel_rfl) (OW.nil rfl (QW.next (CW.ret (QW.then_ret ?_))))
   have hst := hst.nilRow api_Act 80 enc_api_Act 7
   obtain rfl := Option.some.inj hF
   refine QW.ret2 rfl rfl rfl ?_
   exact ⟨(.slice none 0 0), rfl, hst.keep [3] rfl⟩
  have hF := ite_f hF hc56
  refine CW.cond_f rfl hc56 (CW.skip (QW.next (CW.seq (CW.region ?_))))
  refine OW.pure 1 [(10, .slice none 0 0)] (by kernel_rfl) (OW.nil rfl (QW.next (CW.block ?_)))
  have hst := hst.nilRow api_Act 80 enc_api_Act 7
  refine CW.loop (fun n a w1 => ∃ (s214 : (List api_Res) × engine_Machine × (List api_Act)) (v215 : Value) (S217 : List Nat) (v218 : Value), Rep 52 [(2, v215), (8, .pointer (some ⟨b55, 0, none⟩)), (10, v218)] a ∧ St w (fp []) w1 [itI R_t49 [.pointer (some ⟨b55, 0, none⟩)] S217 s214.2.1, rowI v218 80 enc_api_Act 7 s214.2.2] ∧ Rd w (fp []) v215 enc_api_Res 6 s214.1 ∧ loop (engine_Trace_l1 fu) n s214 = some r) fu (fun a ha => ⟨(p2, k50, ([] : List api_Act)), (.slice a8 (p2).length c9), S53, (.slice none 0 0), ha.agrees (by kernel_rfl), hst.keep [0, 3] rfl, h2, hF⟩) ?_
  rintro n212 a w1 ⟨s214, v215, S217, v218, ha, hst, hrd216, hl213⟩
  rcases n212 with _ | n212
  ·exact (loop_zero hl213).elim
  refine CW.go ?_ ha
  obtain ⟨l219, a220, c221, rfl⟩ := hrd216.len
  obtain ⟨l222, a223, c224, rfl⟩ := hst.len 1 rfl
  refine CW.block (CW.seq (CW.region ?_))
  refine OW.pure 1 [(22, .pointer (some ⟨b55, 0, none⟩))] (by kernel_rfl) ?_
  obtain ⟨r233, hr234, hl213⟩ := bind_some' hl213
  refine OW.fn rfl rfl rfl rfl (by kernel_rfl) (engine_Machine_Step_ok _ fu (.pointer (some ⟨b55, 0, none⟩)) S217 s214.2.1 r233 hr234 (hst.part [0] rfl) (hT1.give hst [0])) ?_
  rintro e w235 ⟨S237, rfl, hst236⟩
  refine ⟨_, rfl, ?_⟩
  have hst := hst.join (idx := [0]) (rest := [1]) rfl hst236
  refine OW.alloc hst rfl rfl rfl [.int .i64 0, .int .i64 0, .int .i64 0, .int .i64 0, .int .u64 0, .int .u64 0, .int .u64 0] (by kernel_rfl) ?_
  intro b238 w239 hst
  refine OW.stB hst 2 rfl rfl rfl rfl rfl (by kernel_rfl) rfl rfl [.int .i64 r233.1.Kind, .int .i64 r233.1.Pc, .int .i64 r233.1.Item.Map, .int .i64 r233.1.Item.Op, .int .u64 r233.1.Item.Key, .int .u64 r233.1.Item.Val, .int .u64 r233.1.Val] rfl ?_
  intro w240 hst
  refine OW.nil rfl (QW.next (CW.seq (CW.region ?_)))
  refine OW.pure 1 [(24, .slice a223 (s214.2.2).length c224)] (by kernel_rfl) ?_
  refine OW.ldN (cs := [.int .i64 r233.1.Kind, .int .i64 r233.1.Pc, .int .i64 r233.1.Item.Map, .int .i64 r233.1.Item.Op, .int .u64 r233.1.Item.Key, .int .u64 r233.1.Item.Val, .int .u64 r233.1.Val]) rfl rfl rfl rfl (by kernel_rfl) (by kernel_rfl) (hst.blkN 2 rfl 0 7) ?_
  refine OW.row (α := api_Act) (e := 80) (enc := enc_api_Act) (sz := 7) hst rfl rfl rfl [r233.1] rfl (fun _ => rfl) rfl rfl (fun _ => by kernel_rfl) ?_
  intro g250 w251 hst
  obtain ⟨u252, hr253, hl213⟩ := bind_some' hl213
  refine OW.app hst 1 rfl (fun _ => rfl) (fun _ => rfl) rfl rfl rfl rfl rfl rfl (by kernel_rfl) el80 (hst.rd 3 rfl (fun _ => rfl) [] rfl (hst.len 3 rfl).1) (room_le hr253) ?_
  intro v254 w255 hst
  obtain ⟨l256, a257, c258, rfl⟩ := hst.len 1 rfl
  refine OW.pure 1 [(10, .slice a257 ((s214.2.2 ++ [r233.1])).length c258)] (by kernel_rfl) (OW.nil rfl (QW.next (CW.block (CW.seq (CW.seq (CW.region ?_))))))
  refine OW.pure 1 [(29, .pointer (some ⟨b238, 0, none⟩))] (by kernel_rfl) ?_
  refine OW.ld rfl rfl rfl rfl (by kernel_rfl) (hst.blk 2 rfl rfl) ?_
  refine OW.pure 2 [(28, .bool (r233.1.Kind == 4))] (by kernel_rfl) (OW.nil rfl (QW.next ?_))
  obtain ⟨o261, ho262, hl213⟩ := bind_some' hl213
  refine CW.cutK (fun a w1 => Rep 52 [(2, .slice a220 (s214.1).length c221), (8, .pointer (some ⟨b55, 0, none⟩)), (10, .slice a257 ((s214.2.2 ++ [r233.1])).length c258), (11, .pointer (some ⟨b238, 0, none⟩)), (28, .bool o261)] a ∧ St w (fp []) w1 [itI R_t49 [.pointer (some ⟨b55, 0, none⟩)] S237 r233.2, rowI (.slice a257 ((s214.2.2 ++ [r233.1])).length c258) 80 enc_api_Act 7 (s214.2.2 ++ [r233.1]), blkI b238 80 [.int .i64 r233.1.Kind, .int .i64 r233.1.Pc, .int .i64 r233.1.Item.Map, .int .i64 r233.1.Item.Op, .int .u64 r233.1.Item.Key, .int .u64 r233.1.Item.Val, .int .u64 r233.1.Val]]) ?_ ?_
  ·rcases Bool.eq_false_or_eq_true ((r233.1.Kind == 4)) with hc263 | hc263
   ·have ho262 := ite_t ho262 hc263
    refine CW.cond_t rfl hc263 (CW.skip ?_)
    obtain rfl := Option.some.inj ho262
    exact QW.meet (fun a ha => ⟨ha.agrees (by kernel_rfl), hst.keep [0, 1, 2] rfl⟩)
   have ho262 := ite_f ho262 hc263
   refine CW.cond_f rfl hc263 (CW.region ?_)
   refine OW.pure 1 [(32, .pointer (some ⟨b238, 0, none⟩))] (by kernel_rfl) ?_
   refine OW.ld rfl rfl rfl rfl (by kernel_rfl) (hst.blk 2 rfl rfl) ?_
   refine OW.pure 2 [(35, .bool (r233.1.Kind == 2))] (by kernel_rfl) ?_
   refine OW.split 35 rfl (fun hc264 => ?_) (fun hc264 => ?_)
   ·have ho262 := ite_t ho262 hc264
    refine OW.pure 5 [(28, .bool (((s214.1).length : Int) == 0))] (by kernel_rfl) (OW.nil rfl ?_)
    obtain rfl := Option.some.inj ho262
    exact QW.meet (fun a ha => ⟨ha.agrees (by kernel_rfl), hst.keep [0, 1, 2] rfl⟩)
   have ho262 := ite_f ho262 hc264
   refine OW.pure 5 [(28, .bool false)] (by kernel_rfl) (OW.nil rfl ?_)
   obtain rfl := Option.some.inj ho262
   exact QW.meet (fun a ha => ⟨ha.agrees (by kernel_rfl), hst.keep [0, 1, 2] rfl⟩)
  rintro a w1 ⟨ha, hst⟩
  refine CW.go ?_ ha
  rcases Bool.eq_false_or_eq_true (o261) with hc265 | hc265
  ·have hl213 := ite_t hl213 hc265
   refine CW.cond_t rfl hc265 (CW.seq (CW.region ?_))
   refine OW.pure 3 [(6, .slice a257 ((s214.2.2 ++ [r233.1])).length c258), (7, .int .i64 0)] (by kernel_rfl) (OW.nil rfl (QW.next (CW.ret (QW.block_ret (QW.block_ret (QW.then_ret (QW.block_ret ?_)))))))
   obtain rfl := Option.some.inj hl213
   refine QW.ret2 rfl rfl rfl ?_
   exact ⟨(.slice a257 ((s214.2.2 ++ [r233.1])).length c258), rfl, hst.keep [1] rfl⟩
  have hl213 := ite_f hl213 hc265
  refine CW.cond_f rfl hc265 (CW.seq (CW.region ?_))
  refine OW.pure 1 [(42, .pointer (some ⟨b238, 0, none⟩))] (by kernel_rfl) ?_
  refine OW.ld rfl rfl rfl rfl (by kernel_rfl) (hst.blk 2 rfl rfl) ?_
  refine OW.pure 2 [(41, .bool (r233.1.Kind == 2))] (by kernel_rfl) (OW.nil rfl (QW.next ?_))
  rcases Bool.eq_false_or_eq_true ((r233.1.Kind == 2)) with hc266 | hc266
  ·have hl213 := ite_t hl213 hc266
   refine CW.cond_t rfl hc266 (CW.seq (CW.region ?_))
   refine OW.pure 2 [(45, .pointer (some ⟨b55, 0, none⟩)), (46, .slice a220 (s214.1).length c221)] (by kernel_rfl) ?_
   obtain ⟨x278, hx279, hl213⟩ := bind_some' hl213
   obtain ⟨g281, o282, c283, hv280⟩ := hrd216.formv (fun _ => ⟨_, rfl⟩) hx279
   refine OW.idx 45 6 rfl rfl rfl rfl hv280 rfl (idx_some hx279).1 (idx_some hx279).2.1 (by kernel_rfl) (by kernel_rfl) ?_
   refine OW.ldN (cs := enc_api_Res x278) rfl rfl rfl rfl (by kernel_rfl) (by kernel_rfl) (hrd216.cellv hst hx279 hv280) ?_
   obtain ⟨r284, hr285, hl213⟩ := bind_some' hl213
   refine OW.fn rfl rfl rfl rfl (by kernel_rfl) (engine_Machine_Answer_ok _ (.pointer (some ⟨b55, 0, none⟩)) S237 r233.2 x278 r284 hr285 (hst.part [0] rfl)) ?_
   rintro e w286 ⟨S288, rfl, hst287⟩
   refine ⟨_, rfl, ?_⟩
   have hst := hst.join (idx := [0]) (rest := [1, 2]) rfl hst287
   refine OW.nil rfl (QW.next (CW.region ?_))
   refine OW.pure 1 [(50, .slice a220 (s214.1).length c221)] (by kernel_rfl) ?_
   obtain ⟨ys292, hcut293, hl213⟩ := bind_some' hl213
   refine OW.op (v := .slice (shd a220 c221 (Int.toNat 1) 6) (ys292).length (c221 - Int.toNat 1)) rfl rfl rfl rfl (fun a ha => suf_run (e := 45) 6 rfl rfl rfl rfl hcut293 (by kernel_rfl) (by kernel_rfl) a _ ha) ?_
   have hp294 := hrd216.part hcut293
   refine OW.pure 1 [(2, .slice (shd a220 c221 (Int.toNat 1) 6) (ys292).length (c221 - Int.toNat 1))] (by kernel_rfl) (OW.nil rfl (QW.block_normal (QW.block_normal ?_)))
   exact QW.meet (fun a ha => ⟨n212, Nat.lt_succ_self _, (ys292, r284.2, (s214.2.2 ++ [r233.1])), (.slice (shd a220 c221 (Int.toNat 1) 6) (ys292).length (c221 - Int.toNat 1)), S288, (.slice a257 ((s214.2.2 ++ [r233.1])).length c258), ha.agrees (by kernel_rfl), hst.keep [0, 1] rfl, hp294, hl213⟩)
  have hl213 := ite_f hl213 hc266
  refine CW.cond_f rfl hc266 (CW.skip (QW.block_normal (QW.block_normal ?_)))
  exact QW.meet (fun a ha => ⟨n212, Nat.lt_succ_self _, (s214.1, r233.2, (s214.2.2 ++ [r233.1])), (.slice a220 (s214.1).length c221), S237, (.slice a257 ((s214.2.2 ++ [r233.1])).length c258), ha.agrees (by kernel_rfl), hst.keep [0, 1] rfl, hrd216, hl213⟩)
 have hF := ocase_none hF he54
 refine ⟨_, rfl, ?_⟩
 have hst := hst.join (idx := [0]) (rest := [1, 2]) rfl hst49
 refine OA.next trivial ?_
 refine OA.pure [4, 5, 6] [(17, .pointer none), (18, .int .i64 r46.2)] (by kernel_rfl) ?_
 refine OA.act (i := 7) [] (by kernel_rfl) rfl rfl (by kernel_rfl) (by kernel_rfl) ?_
 refine OW.pure 1 [(8, .pointer none)] (by kernel_rfl) (OA.next trivial ?_)
 refine OA.act (i := 8) [] (by kernel_rfl) rfl rfl (by kernel_rfl) (by kernel_rfl) ?_
 refine OW.pure 1 [(9, .int .i64 r46.2)] (by kernel_rfl) (OA.next trivial ?_)
 refine OA.fin (by kernel_rfl) (by kernel_rfl) (QW.next (CW.seq (CW.seq (CW.region ?_))))
 refine OW.pure 2 [(20, .bool (r46.2 != 0))] (by kernel_rfl) (OW.nil rfl (QW.next ?_))
 rcases Bool.eq_false_or_eq_true ((r46.2 != 0)) with hc303 | hc303
 ·have hF := ite_t hF hc303
  refine CW.cond_t rfl hc303 (CW.seq (CW.region ?_))
  refine OW.pure 3 [(6, .slice none 0 0), (7, .int .i64 r46.2)] (by kernel_rfl) (OW.nil rfl (QW.next (CW.ret (QW.then_ret ?_))))
  have hst := hst.nilRow api_Act 80 enc_api_Act 7
  obtain rfl := Option.some.inj hF
  refine QW.ret2 rfl rfl rfl ?_
  exact ⟨(.slice none 0 0), rfl, hst.keep [2] rfl⟩
 have hF := ite_f hF hc303
 refine CW.cond_f rfl hc303 (CW.skip (QW.next (CW.seq (CW.region ?_))))
 refine OW.pure 1 [(10, .slice none 0 0)] (by kernel_rfl) (OW.nil rfl (QW.next (CW.block ?_)))
 refine CW.loop (fun n a w1 => ∃ (s307 : Unit), Rep 52 [(2, .slice a8 (p2).length c9), (8, .pointer none), (10, .slice none 0 0)] a ∧ St w (fp []) w1 [] ∧ loop engine_Trace_l2 n s307 = some r) fu (fun a ha => ⟨(), ha.agrees (by kernel_rfl), hst.keep [] rfl, hF⟩) ?_
 rintro n305 a w1 ⟨s307, ha, hst, hl306⟩
 rcases n305 with _ | n305
 ·exact (loop_zero hl306).elim
 refine CW.go ?_ ha
 refine CW.block (CW.seq (CW.region ?_))
 refine OW.pure 1 [(22, .pointer none)] (by kernel_rfl) ?_
 cases hl306
theorem tappetlaw11_awake_ok (w : World) (fu : Nat)  (r : Bool) (hF : tappetlaw11_awake fu = some r)
    (hst : St w (fp []) w []) (hT0 : Rd w (fp []) (.slice (some ⟨0, 0, none⟩) 23 23) enc_ops_form 2 tab_g0) (hT1 : Rd w (fp []) (.slice (some ⟨1, 0, none⟩) 7 7) enc_sigs_sig 5 tab_g1) :
    Calls Tryz.prog 6 [].toArray w (fun e w' => e = .returned (.bool r) ∧ St w (fp []) w' []) := by
 refine CW.start (N := 33) Tryz.func6 rfl rfl rfl (CW.seq (CW.region ?_))
 refine OW.pure 1 [] (by kernel_rfl) (OW.nil rfl (QW.next (CW.seq (CW.region ?_))))
 obtain ⟨r41, hr42, hF⟩ := bind_some' hF
 refine OW.fn rfl rfl rfl rfl (by kernel_rfl) (tappetlaw11_asks_ok _ r41 hr42 (hst.part [] rfl)) ?_
 rintro e w43 ⟨v45, v46, rfl, hst44⟩
 refine ⟨_, rfl, ?_⟩
 have hst := hst.join (idx := []) (rest := []) rfl hst44
 obtain ⟨l65, a66, c67, rfl⟩ := hst.len 0 rfl
 obtain ⟨l68, a69, c70, rfl⟩ := hst.len 1 rfl
 refine OW.pure 2 [(5, .agg [.int .u64 20, .int .u64 3].toArray), (6, .agg [.int .i64 0, .bool true, .int .u64 9, .bool false, .int .u64 0, .int .u64 0].toArray)] (by kernel_rfl) ?_
 refine OW.row (α := api_Res) (e := 45) (enc := enc_api_Res) (sz := 6) hst rfl rfl rfl [(api_Res.mk 0 true 9 false 0 0)] rfl (fun _ => rfl) rfl rfl (fun _ => by kernel_rfl) ?_
 intro g71 w72 hst
 obtain ⟨r73, hr74, hF⟩ := bind_some' hF
 refine OW.fn rfl rfl rfl rfl (by kernel_rfl) (engine_Trace_ok _ fu (.slice a66 (r41.Maps).length c67) (.slice a69 (r41.Code).length c70) r41 (api_Event.mk 20 3) (.slice (some ⟨g71, 0, none⟩) 1 1) ([(api_Res.mk 0 true 9 false 0 0)]) r73 hr74 (hst.part [] rfl) (hst.rd 0 rfl (fun _ => rfl) [] rfl (hst.len 0 rfl).1) (hst.rd 1 rfl (fun _ => rfl) [] rfl (hst.len 1 rfl).1) (hst.rd 2 rfl (fun _ => rfl) [] rfl (hst.len 2 rfl).1) (hT0.give hst []) (hT1.give hst [])) ?_
 rintro e w75 ⟨v77, rfl, hst76⟩
 refine ⟨_, rfl, ?_⟩
 have hst := hst.join (idx := []) (rest := [0, 1, 2]) rfl hst76
 obtain ⟨l78, a79, c80, rfl⟩ := hst.len 0 rfl
 refine OW.pure 5 [(1, .slice a79 (r73.1).length c80), (2, .int .i64 r73.2)] (by kernel_rfl) (OW.nil rfl (QW.next (CW.seq ?_)))
 obtain ⟨o96, ho97, hF⟩ := bind_some' hF
 refine CW.cutK (fun a w1 => Rep 33 [(0, .bool o96)] a ∧ St w (fp []) w1 []) ?_ ?_
 ·refine CW.region ?_
  refine OW.pure 3 [(13, .bool (r73.2 == 0))] (by kernel_rfl) ?_
  refine OW.split 13 rfl (fun hc98 => ?_) (fun hc98 => ?_)
  ·have ho97 := ite_t ho97 hc98
   refine OW.pure 5 [(18, .bool (((r73.1).length : Int) == 4))] (by kernel_rfl) ?_
   refine OW.split 18 rfl (fun hc99 => ?_) (fun hc99 => ?_)
   ·have ho97 := ite_t ho97 hc99
    refine OW.pure 1 [(19, .slice a79 (r73.1).length c80)] (by kernel_rfl) ?_
    obtain ⟨x100, hx101, ho97⟩ := bind_some' ho97
    obtain ⟨g103, o104, c105, hv102⟩ := hst.rowv 0 rfl hx101
    refine OW.idx 80 7 rfl rfl rfl rfl hv102 rfl (idx_some hx101).1 (idx_some hx101).2.1 (by kernel_rfl) (by kernel_rfl) ?_
    refine OW.ldN (cs := enc_api_Act x100) rfl rfl rfl rfl (by kernel_rfl) (by kernel_rfl) (hst.rowc 0 rfl (fun _ => rfl) hx101 hv102) ?_
    refine OW.pure 2 [(23, .agg [.int .i64 2, .int .i64 2, .int .i64 2, .int .i64 0, .int .u64 20, .int .u64 0, .int .u64 0].toArray)] (by kernel_rfl) ?_
    refine OW.op (v := .bool ((x100.Kind == 2) && ((x100.Pc == 2) && (((x100.Item.Map == 2) && ((x100.Item.Op == 0) && ((x100.Item.Key == 20) && ((x100.Item.Val == 0) && true)))) && ((x100.Val == 0) && true))))) rfl rfl rfl rfl (fun a ha => seq_run rfl rfl rfl (by kernel_rfl) (by kernel_rfl) a _ ha) ?_
    refine OW.pure 2 [(26, .bool ((x100.Kind == 2) && ((x100.Pc == 2) && (((x100.Item.Map == 2) && ((x100.Item.Op == 0) && ((x100.Item.Key == 20) && ((x100.Item.Val == 0) && true)))) && ((x100.Val == 0) && true)))))] (by kernel_rfl) ?_
    refine OW.split 26 rfl (fun hc106 => ?_) (fun hc106 => ?_)
    ·have ho97 := ite_t ho97 hc106
     refine OW.pure 1 [(27, .slice a79 (r73.1).length c80)] (by kernel_rfl) ?_
     obtain ⟨x107, hx108, ho97⟩ := bind_some' ho97
     obtain ⟨g110, o111, c112, hv109⟩ := hst.rowv 0 rfl hx108
     refine OW.idx 80 7 rfl rfl rfl rfl hv109 rfl (idx_some hx108).1 (idx_some hx108).2.1 (by kernel_rfl) (by kernel_rfl) ?_
     refine OW.ldN (cs := enc_api_Act x107) rfl rfl rfl rfl (by kernel_rfl) (by kernel_rfl) (hst.rowc 0 rfl (fun _ => rfl) hx108 hv109) ?_
     refine OW.pure 1 [(30, .agg [.int .i64 4, .int .i64 3, .int .i64 0, .int .i64 0, .int .u64 0, .int .u64 0, .int .u64 9].toArray)] (by kernel_rfl) ?_
     refine OW.op (v := .bool ((x107.Kind == 4) && ((x107.Pc == 3) && (((x107.Item.Map == 0) && ((x107.Item.Op == 0) && ((x107.Item.Key == 0) && ((x107.Item.Val == 0) && true)))) && ((x107.Val == 9) && true))))) rfl rfl rfl rfl (fun a ha => seq_run rfl rfl rfl (by kernel_rfl) (by kernel_rfl) a _ ha) ?_
     refine OW.pure 2 [(0, .bool ((x107.Kind == 4) && ((x107.Pc == 3) && (((x107.Item.Map == 0) && ((x107.Item.Op == 0) && ((x107.Item.Key == 0) && ((x107.Item.Val == 0) && true)))) && ((x107.Val == 9) && true)))))] (by kernel_rfl) (OW.nil rfl ?_)
     obtain rfl := Option.some.inj ho97
     exact QW.meet (fun a ha => ⟨ha.agrees (by kernel_rfl), hst.keep [] rfl⟩)
    have ho97 := ite_f ho97 hc106
    refine OW.pure 7 [(0, .bool false)] (by kernel_rfl) (OW.nil rfl ?_)
    obtain rfl := Option.some.inj ho97
    exact QW.meet (fun a ha => ⟨ha.agrees (by kernel_rfl), hst.keep [] rfl⟩)
   have ho97 := ite_f ho97 hc99
   refine OW.pure 15 [(0, .bool false)] (by kernel_rfl) (OW.nil rfl ?_)
   obtain rfl := Option.some.inj ho97
   exact QW.meet (fun a ha => ⟨ha.agrees (by kernel_rfl), hst.keep [] rfl⟩)
  have ho97 := ite_f ho97 hc98
  refine OW.pure 20 [(0, .bool false)] (by kernel_rfl) (OW.nil rfl ?_)
  obtain rfl := Option.some.inj ho97
  exact QW.meet (fun a ha => ⟨ha.agrees (by kernel_rfl), hst.keep [] rfl⟩)
 rintro a w1 ⟨ha, hst⟩
 refine CW.go ?_ ha
 refine CW.ret ?_
 obtain rfl := Option.some.inj hF
 refine QW.ret1 rfl rfl ?_
 exact ⟨rfl, hst.keep [] rfl⟩
theorem tappetlaw11_copied_ok (w : World) (v0_0 : Value) (v0_1 : Value) (p0 : api_Module) (r : api_Module) (hF : tappetlaw11_copied p0 = some r)
    (hst : St w (fp []) w []) (h0_0 : Rd w (fp []) v0_0 (encInt .i64) 1 p0.Maps) (h0_1 : Rd w (fp []) v0_1 enc_api_Inst 5 p0.Code) :
    Calls Tryz.prog 7 [.agg [v0_0, v0_1].toArray].toArray w (fun e w' => ∃ (x0_0 : Value) (x0_1 : Value), e = .returned (.agg [x0_0, x0_1].toArray) ∧ St w (fp []) w' [rowI x0_0 3 (encInt .i64) 1 r.Maps, rowI x0_1 43 enc_api_Inst 5 r.Code]) := by
 refine CW.start (N := 12) Tryz.func7 rfl rfl rfl ?_
 obtain ⟨l1, a2, c3, rfl⟩ := h0_0.len
 obtain ⟨l4, a5, c6, rfl⟩ := h0_1.len
 refine CW.seq (CW.region ?_)
 refine OW.box hst rfl rfl rfl rfl [.slice a2 (p0.Maps).length c3, .slice a5 (p0.Code).length c6] rfl ?_
 intro b11 w12 hst
 refine OW.alloc hst rfl rfl rfl [.slice none 0 0, .slice none 0 0] (by kernel_rfl) ?_
 intro b13 w14 hst
 refine OW.nil rfl (QW.next (CW.seq ?_))
 obtain ⟨o72, ho73, hF⟩ := bind_some' hF
 refine CW.cutK (fun a w1 => ∃ (v70 : Value) (v71 : Value), Rep 12 [(2, .pointer (some ⟨b13, 0, none⟩))] a ∧ St w (fp []) w1 [blkI b13 25 [v70, v71], rowI v70 3 (encInt .i64) 1 (([] : List Int) ++ p0.Maps), rowI v71 43 enc_api_Inst 5 (([] : List api_Inst) ++ p0.Code)]) ?_ ?_
 ·refine CW.plan (by kernel_rfl) ?_
  intro w74 hch75
  have hst := hst.same hch75
  refine OA.pure [1] [(4, .pointer (some ⟨b11, 0, none⟩))] (by kernel_rfl) ?_
  refine OA.ld (i := 2) rfl (by kernel_rfl) rfl rfl rfl (by kernel_rfl) (hst.blk 0 rfl rfl) ?_
  refine OA.pure [5] [(8, .pointer (some ⟨b11, 1, none⟩))] (by kernel_rfl) ?_
  refine OA.ld (i := 6) rfl (by kernel_rfl) rfl rfl rfl (by kernel_rfl) (hst.blk 0 rfl rfl) ?_
  refine OA.acts [0, 4] 0 (by kernel_rfl) (by kernel_rfl) (by kernel_rfl) (alts_cons ?_ (alts_cons ?_ alts_nil))
  ·refine Alt.of (i := 0) [6, 2] rfl rfl (by kernel_rfl) (by kernel_rfl) ?_
   refine OW.row (α := Int) (e := 3) (enc := encInt .i64) (sz := 1) hst rfl rfl rfl [] rfl (fun _ => rfl) rfl rfl (fun _ => by kernel_rfl) ?_
   intro g76 w77 hst
   refine OA.next ⟨(hst.blk 0 rfl rfl), (hst.blk 0 rfl rfl), trivial⟩ ?_
   refine OA.acts [3, 4] 3 (by kernel_rfl) (by kernel_rfl) (by kernel_rfl) (alts_cons ?_ (alts_cons ?_ alts_nil))
   ·refine Alt.of (i := 3) [6] rfl rfl (by kernel_rfl) (by kernel_rfl) ?_
    obtain ⟨u78, hr79, ho73⟩ := bind_some' ho73
    refine OW.app hst 2 rfl (fun _ => rfl) (fun _ => rfl) rfl rfl rfl rfl rfl rfl (by kernel_rfl) el3 (h0_0.on hst) (room_le hr79) ?_
    intro v80 w81 hst
    obtain ⟨l82, a83, c84, rfl⟩ := hst.len 2 rfl
    refine OA.next ⟨(hst.blk 0 rfl rfl), trivial⟩ ?_
    refine OA.act (i := 4) [6] (by kernel_rfl) rfl rfl (by kernel_rfl) (by kernel_rfl) ?_
    refine OW.row (α := api_Inst) (e := 43) (enc := enc_api_Inst) (sz := 5) hst rfl rfl rfl [] rfl (fun _ => rfl) rfl rfl (fun _ => by kernel_rfl) ?_
    intro g85 w86 hst
    refine OA.next ⟨(hst.blk 0 rfl rfl), trivial⟩ ?_
    refine OA.act (i := 7) [] (by kernel_rfl) rfl rfl (by kernel_rfl) (by kernel_rfl) ?_
    obtain ⟨u87, hr88, ho73⟩ := bind_some' ho73
    refine OW.app hst 3 rfl (fun _ => rfl) (fun _ => rfl) rfl rfl rfl rfl rfl rfl (by kernel_rfl) el43 (h0_1.on hst) (room_le hr88) ?_
    intro v89 w90 hst
    obtain ⟨l91, a92, c93, rfl⟩ := hst.len 3 rfl
    refine OA.next trivial ?_
    refine OA.pure [8] [(11, .agg [.slice a83 ((([] : List Int) ++ p0.Maps)).length c84, .slice a92 ((([] : List api_Inst) ++ p0.Code)).length c93].toArray)] (by kernel_rfl) ?_
    refine OA.act (i := 9) [] (by kernel_rfl) rfl rfl (by kernel_rfl) (by kernel_rfl) ?_
    refine OW.stB hst 1 rfl rfl rfl rfl rfl (by kernel_rfl) rfl rfl [.slice a83 ((([] : List Int) ++ p0.Maps)).length c84, .slice a92 ((([] : List api_Inst) ++ p0.Code)).length c93] rfl ?_
    intro w94 hst
    refine OA.next trivial ?_
    refine OA.fin (by kernel_rfl) (by kernel_rfl) ?_
    obtain rfl := Option.some.inj ho73
    exact QW.meet (fun a ha => ⟨(.slice a83 ((([] : List Int) ++ p0.Maps)).length c84), (.slice a92 ((([] : List api_Inst) ++ p0.Code)).length c93), ha.agrees (by kernel_rfl), hst.keep [1, 2, 3] rfl⟩)
   obtain ⟨u78, hr79, ho73⟩ := bind_some' ho73
   obtain ⟨u87, hr88, ho73⟩ := bind_some' ho73
   refine Alt.of (i := 4) [6, 2] rfl rfl (by kernel_rfl) (by kernel_rfl) ?_
   refine OW.row (α := api_Inst) (e := 43) (enc := enc_api_Inst) (sz := 5) hst rfl rfl rfl [] rfl (fun _ => rfl) rfl rfl (fun _ => by kernel_rfl) ?_
   intro g95 w96 hst
   refine OA.next ⟨(hst.blk 0 rfl rfl), (hst.blk 0 rfl rfl), trivial⟩ ?_
   refine OA.act (i := 3) [6] (by kernel_rfl) rfl rfl (by kernel_rfl) (by kernel_rfl) ?_
   refine OW.app hst 2 rfl (fun _ => rfl) (fun _ => rfl) rfl rfl rfl rfl rfl rfl (by kernel_rfl) el3 (h0_0.on hst) (room_le hr79) ?_
   intro v97 w98 hst
   obtain ⟨l99, a100, c101, rfl⟩ := hst.len 2 rfl
   refine OA.next ⟨(hst.blk 0 rfl rfl), trivial⟩ ?_
   refine OA.act (i := 7) [] (by kernel_rfl) rfl rfl (by kernel_rfl) (by kernel_rfl) ?_
   refine OW.app hst 3 rfl (fun _ => rfl) (fun _ => rfl) rfl rfl rfl rfl rfl rfl (by kernel_rfl) el43 (h0_1.on hst) (room_le hr88) ?_
   intro v102 w103 hst
   obtain ⟨l104, a105, c106, rfl⟩ := hst.len 3 rfl
   refine OA.next trivial ?_
   refine OA.pure [8] [(11, .agg [.slice a100 ((([] : List Int) ++ p0.Maps)).length c101, .slice a105 ((([] : List api_Inst) ++ p0.Code)).length c106].toArray)] (by kernel_rfl) ?_
   refine OA.act (i := 9) [] (by kernel_rfl) rfl rfl (by kernel_rfl) (by kernel_rfl) ?_
   refine OW.stB hst 1 rfl rfl rfl rfl rfl (by kernel_rfl) rfl rfl [.slice a100 ((([] : List Int) ++ p0.Maps)).length c101, .slice a105 ((([] : List api_Inst) ++ p0.Code)).length c106] rfl ?_
   intro w107 hst
   refine OA.next trivial ?_
   refine OA.fin (by kernel_rfl) (by kernel_rfl) ?_
   obtain rfl := Option.some.inj ho73
   exact QW.meet (fun a ha => ⟨(.slice a100 ((([] : List Int) ++ p0.Maps)).length c101), (.slice a105 ((([] : List api_Inst) ++ p0.Code)).length c106), ha.agrees (by kernel_rfl), hst.keep [1, 2, 3] rfl⟩)
  refine Alt.of (i := 4) [6, 2] rfl rfl (by kernel_rfl) (by kernel_rfl) ?_
  refine OW.row (α := api_Inst) (e := 43) (enc := enc_api_Inst) (sz := 5) hst rfl rfl rfl [] rfl (fun _ => rfl) rfl rfl (fun _ => by kernel_rfl) ?_
  intro g108 w109 hst
  refine OA.next ⟨(hst.blk 0 rfl rfl), (hst.blk 0 rfl rfl), trivial⟩ ?_
  refine OA.act (i := 0) [6, 2] (by kernel_rfl) rfl rfl (by kernel_rfl) (by kernel_rfl) ?_
  refine OW.row (α := Int) (e := 3) (enc := encInt .i64) (sz := 1) hst rfl rfl rfl [] rfl (fun _ => rfl) rfl rfl (fun _ => by kernel_rfl) ?_
  intro g110 w111 hst
  refine OA.next ⟨(hst.blk 0 rfl rfl), (hst.blk 0 rfl rfl), trivial⟩ ?_
  refine OA.act (i := 3) [6] (by kernel_rfl) rfl rfl (by kernel_rfl) (by kernel_rfl) ?_
  obtain ⟨u112, hr113, ho73⟩ := bind_some' ho73
  refine OW.app hst 3 rfl (fun _ => rfl) (fun _ => rfl) rfl rfl rfl rfl rfl rfl (by kernel_rfl) el3 (h0_0.on hst) (room_le hr113) ?_
  intro v114 w115 hst
  obtain ⟨l116, a117, c118, rfl⟩ := hst.len 3 rfl
  refine OA.next ⟨(hst.blk 0 rfl rfl), trivial⟩ ?_
  refine OA.act (i := 7) [] (by kernel_rfl) rfl rfl (by kernel_rfl) (by kernel_rfl) ?_
  obtain ⟨u119, hr120, ho73⟩ := bind_some' ho73
  refine OW.app hst 2 rfl (fun _ => rfl) (fun _ => rfl) rfl rfl rfl rfl rfl rfl (by kernel_rfl) el43 (h0_1.on hst) (room_le hr120) ?_
  intro v121 w122 hst
  obtain ⟨l123, a124, c125, rfl⟩ := hst.len 2 rfl
  refine OA.next trivial ?_
  refine OA.pure [8] [(11, .agg [.slice a117 ((([] : List Int) ++ p0.Maps)).length c118, .slice a124 ((([] : List api_Inst) ++ p0.Code)).length c125].toArray)] (by kernel_rfl) ?_
  refine OA.act (i := 9) [] (by kernel_rfl) rfl rfl (by kernel_rfl) (by kernel_rfl) ?_
  refine OW.stB hst 1 rfl rfl rfl rfl rfl (by kernel_rfl) rfl rfl [.slice a117 ((([] : List Int) ++ p0.Maps)).length c118, .slice a124 ((([] : List api_Inst) ++ p0.Code)).length c125] rfl ?_
  intro w126 hst
  refine OA.next trivial ?_
  refine OA.fin (by kernel_rfl) (by kernel_rfl) ?_
  obtain rfl := Option.some.inj ho73
  exact QW.meet (fun a ha => ⟨(.slice a117 ((([] : List Int) ++ p0.Maps)).length c118), (.slice a124 ((([] : List api_Inst) ++ p0.Code)).length c125), ha.agrees (by kernel_rfl), hst.keep [1, 3, 2] rfl⟩)
 rintro a w1 ⟨v70, v71, ha, hst⟩
 refine CW.go ?_ ha
 obtain ⟨l127, a128, c129, rfl⟩ := hst.len 1 rfl
 obtain ⟨l130, a131, c132, rfl⟩ := hst.len 2 rfl
 refine CW.ret ?_
 obtain rfl := Option.some.inj hF
 refine QW.ret_c rfl rfl (run_loadN (cs := [.slice a128 ((([] : List Int) ++ p0.Maps)).length c129, .slice a131 ((([] : List api_Inst) ++ p0.Code)).length c132]) (by kernel_rfl) (by kernel_rfl) (hst.blkN 0 rfl 0 2)) ?_
 exact ⟨(.slice a128 ((([] : List Int) ++ p0.Maps)).length c129), (.slice a131 ((([] : List api_Inst) ++ p0.Code)).length c132), rfl, hst.keep [1, 2] rfl⟩
theorem flow_Cost_ok (w : World) (v0 : Value) (p0 : List api_Inst) (r : Int × Int) (hF : flow_Cost p0 = some r)
    (hst : St w (fp []) w []) (h0 : Rd w (fp []) v0 enc_api_Inst 5 p0) (hT0 : Rd w (fp []) (.slice (some ⟨0, 0, none⟩) 23 23) enc_ops_form 2 tab_g0) :
    Calls Tryz.prog 24 [v0].toArray w (fun e w' => e = .returned (.tuple #[.int .i64 r.1, .int .i64 r.2]) ∧ St w (fp []) w' []) := by
 refine CW.start (N := 16) Tryz.func24 rfl rfl rfl ?_
 obtain ⟨l1, a2, c3, rfl⟩ := h0.len
 refine CW.seq (CW.region ?_)
 refine OW.pure 2 [] (by kernel_rfl) (OW.nil rfl (QW.next (CW.seq (CW.seq (CW.region ?_)))))
 refine OW.pure 1 [(7, .slice a2 (p0).length c3)] (by kernel_rfl) ?_
 obtain ⟨r8, hr9, hF⟩ := bind_some' hF
 refine OW.fn rfl rfl rfl rfl (by kernel_rfl) (flow_Check_ok _ (.slice a2 (p0).length c3) p0 r8 hr9 (hst.part [] rfl) (h0.give hst []) (hT0.give hst [])) ?_
 rintro e w10 ⟨rfl, hst11⟩
 refine ⟨_, rfl, ?_⟩
 have hst := hst.join (idx := []) (rest := []) rfl hst11
 refine OW.pure 5 [(5, .int .i64 r8.2)] (by kernel_rfl) (OW.nil rfl (QW.next (CW.seq (CW.region ?_))))
 refine OW.pure 2 [(12, .bool (r8.2 != 0))] (by kernel_rfl) (OW.nil rfl (QW.next ?_))
 rcases Bool.eq_false_or_eq_true ((r8.2 != 0)) with hc12 | hc12
 ·have hF := ite_t hF hc12
  refine CW.cond_t rfl hc12 (CW.seq (CW.region ?_))
  refine OW.pure 3 [(2, .int .i64 0), (3, .int .i64 r8.2)] (by kernel_rfl) (OW.nil rfl (QW.next (CW.ret (QW.then_ret ?_))))
  obtain rfl := Option.some.inj hF
  refine QW.ret2 rfl rfl rfl ?_
  exact ⟨rfl, hst.keep [] rfl⟩
 have hF := ite_f hF hc12
 refine CW.cond_f rfl hc12 (CW.skip (QW.next (CW.seq (CW.region ?_))))
 refine OW.pure 1 [(14, .slice a2 (p0).length c3)] (by kernel_rfl) ?_
 obtain ⟨r17, hr18, hF⟩ := bind_some' hF
 refine OW.fn rfl rfl rfl rfl (by kernel_rfl) (flow_cost_ok _ (.slice a2 (p0).length c3) p0 r17 hr18 (hst.part [] rfl) (h0.give hst [])) ?_
 rintro e w19 ⟨rfl, hst20⟩
 refine ⟨_, rfl, ?_⟩
 have hst := hst.join (idx := []) (rest := []) rfl hst20
 refine OW.pure 2 [(2, .int .i64 r17), (3, .int .i64 0)] (by kernel_rfl) (OW.nil rfl (QW.next (CW.ret ?_)))
 obtain rfl := Option.some.inj hF
 refine QW.ret2 rfl rfl rfl ?_
 exact ⟨rfl, hst.keep [] rfl⟩
theorem flow_check_ok (w : World) (v0 : Value) (p0 : List api_Inst) (p1 : Int) (r : Int) (hF : flow_check p0 p1 = some r)
    (hst : St w (fp []) w []) (h0 : Rd w (fp []) v0 enc_api_Inst 5 p0) (hT0 : Rd w (fp []) (.slice (some ⟨0, 0, none⟩) 23 23) enc_ops_form 2 tab_g0) :
    Calls Tryz.prog 49 [v0, .int .i64 p1].toArray w (fun e w' => e = .returned (.int .i64 r) ∧ St w (fp []) w' []) := by
 refine CW.start (N := 25) Tryz.func49 rfl rfl rfl ?_
 obtain ⟨l1, a2, c3, rfl⟩ := h0.len
 refine CW.seq (CW.region ?_)
 refine OW.pure 1 [] (by kernel_rfl) (OW.nil rfl (QW.next (CW.seq (CW.region ?_))))
 refine OW.pure 1 [(8, .slice a2 (p0).length c3)] (by kernel_rfl) ?_
 obtain ⟨r8, hr9, hF⟩ := bind_some' hF
 refine OW.fn rfl rfl rfl rfl (by kernel_rfl) (flow_Check_ok _ (.slice a2 (p0).length c3) p0 r8 hr9 (hst.part [] rfl) (h0.give hst []) (hT0.give hst [])) ?_
 rintro e w10 ⟨rfl, hst11⟩
 refine ⟨_, rfl, ?_⟩
 have hst := hst.join (idx := []) (rest := []) rfl hst11
 refine OW.pure 5 [(6, .int .i64 r8.2)] (by kernel_rfl) (OW.nil rfl (QW.next (CW.seq (CW.seq ?_))))
 refine CW.cutK (fun a w1 => Rep 25 [(6, .int .i64 r8.2), (23, .bool ((r8.2 == 0) && (decide (p1 < 0) || decide (p1 ≥ ((p0).length : Int)))))] a ∧ St w (fp []) w1 []) ?_ ?_
 ·refine CW.region ?_
  refine OW.pure 3 [(14, .bool (r8.2 == 0))] (by kernel_rfl) ?_
  refine OW.split 14 rfl (fun hc12 => ?_) (fun hc12 => ?_)
  ·refine OW.pure 3 [(17, .bool (decide (p1 < 0)))] (by kernel_rfl) ?_
   refine OW.split 17 rfl (fun hc13 => ?_) (fun hc13 => ?_)
   ·refine OW.pure 6 [(23, .bool true)] (by kernel_rfl) (OW.nil rfl ?_)
    refine QW.say 23 (v := .bool ((r8.2 == 0) && (decide (p1 < 0) || decide (p1 ≥ ((p0).length : Int))))) rfl (by first | (rw [hc12, hc13]; done) | (rw [hc12, hc13]; rfl) | simp [hc12, hc13]) ?_
    exact QW.meet (fun a ha => ⟨ha.agrees (by kernel_rfl), hst.keep [] rfl⟩)
   refine OW.pure 6 [(23, .bool (decide (p1 ≥ ((p0).length : Int))))] (by kernel_rfl) (OW.nil rfl ?_)
   refine QW.say 23 (v := .bool ((r8.2 == 0) && (decide (p1 < 0) || decide (p1 ≥ ((p0).length : Int))))) rfl (by first | (rw [hc12, hc13]; done) | (rw [hc12, hc13]; rfl) | simp [hc12, hc13]) ?_
   exact QW.meet (fun a ha => ⟨ha.agrees (by kernel_rfl), hst.keep [] rfl⟩)
  refine OW.pure 9 [(23, .bool false)] (by kernel_rfl) (OW.nil rfl ?_)
  refine QW.say 23 (v := .bool ((r8.2 == 0) && (decide (p1 < 0) || decide (p1 ≥ ((p0).length : Int))))) rfl (by first | (rw [hc12]; done) | (rw [hc12]; rfl) | simp [hc12]) ?_
  exact QW.meet (fun a ha => ⟨ha.agrees (by kernel_rfl), hst.keep [] rfl⟩)
 rintro a w1 ⟨ha, hst⟩
 refine CW.go ?_ ha
 rcases Bool.eq_false_or_eq_true (((r8.2 == 0) && (decide (p1 < 0) || decide (p1 ≥ ((p0).length : Int))))) with hc14 | hc14
 ·have hF := ite_t hF hc14
  refine CW.cond_t rfl hc14 (CW.seq (CW.region ?_))
  refine OW.pure 1 [(4, .int .i64 2)] (by kernel_rfl) (OW.nil rfl (QW.next (CW.ret (QW.then_ret ?_))))
  obtain rfl := Option.some.inj hF
  refine QW.ret1 rfl rfl ?_
  exact ⟨rfl, hst.keep [] rfl⟩
 have hF := ite_f hF hc14
 refine CW.cond_f rfl hc14 (CW.skip (QW.next (CW.seq (CW.region ?_))))
 refine OW.pure 2 [(4, .int .i64 r8.2)] (by kernel_rfl) (OW.nil rfl (QW.next (CW.ret ?_)))
 obtain rfl := Option.some.inj hF
 refine QW.ret1 rfl rfl ?_
 exact ⟨rfl, hst.keep [] rfl⟩
theorem slices_Sort_int_int_ok (w : World) (v0 : Value) (p0 : List Int) (r : List Int) (hF : slices_Sort_int_int p0 = some r) (hst : St w (fp [rowI v0 3 (encInt .i64) 1 p0]) w [rowI v0 3 (encInt .i64) 1 p0]) :
    Calls Tryz.prog 51 [v0].toArray w (fun e w' => e = .returned (.tuple #[]) ∧ St w (fp [rowI v0 3 (encInt .i64) 1 p0]) w' [rowI v0 3 (encInt .i64) 1 r]) :=
  sort_int_ok Tryz.slices_Sort_int Tryz.slices_Sort_int_none hF hst
theorem slices_Compact_int_int_ok (w : World) (v0 : Value) (p0 : List Int) (r : List Int) (hF : slices_Compact_int_int p0 = some r) (hst : St w (fp [rowI v0 3 (encInt .i64) 1 p0]) w [rowI v0 3 (encInt .i64) 1 p0]) :
    Calls Tryz.prog 52 [v0].toArray w (fun e w' => ∃ x0 : Value, e = .returned x0 ∧ St w (fp [rowI v0 3 (encInt .i64) 1 p0]) w' [rowI x0 3 (encInt .i64) 1 r]) :=
  compact_int_ok Tryz.slices_Compact_int Tryz.slices_Compact_int_empty hF hst
theorem flow_Next_ok (w : World) (v0 : Value) (p0 : List api_Inst) (p1 : Int) (r : (List Int) × Int) (hF : flow_Next p0 p1 = some r)
    (hst : St w (fp []) w []) (h0 : Rd w (fp []) v0 enc_api_Inst 5 p0) (hT0 : Rd w (fp []) (.slice (some ⟨0, 0, none⟩) 23 23) enc_ops_form 2 tab_g0) :
    Calls Tryz.prog 25 [v0, .int .i64 p1].toArray w (fun e w' => ∃ (x0 : Value), e = .returned (.tuple #[x0, .int .i64 r.2]) ∧ St w (fp []) w' [rowI x0 3 (encInt .i64) 1 r.1]) := by
 refine CW.start (N := 43) Tryz.func25 rfl rfl rfl ?_
 obtain ⟨l1, a2, c3, rfl⟩ := h0.len
 refine CW.seq (CW.region ?_)
 refine OW.pure 2 [] (by kernel_rfl) (OW.nil rfl (QW.next (CW.seq (CW.seq (CW.region ?_)))))
 refine OW.pure 2 [(11, .slice a2 (p0).length c3), (12, .int .i64 p1)] (by kernel_rfl) ?_
 obtain ⟨r8, hr9, hF⟩ := bind_some' hF
 refine OW.fn rfl rfl rfl rfl (by kernel_rfl) (flow_check_ok _ (.slice a2 (p0).length c3) p0 p1 r8 hr9 (hst.part [] rfl) (h0.give hst []) (hT0.give hst [])) ?_
 rintro e w10 ⟨rfl, hst11⟩
 refine ⟨_, rfl, ?_⟩
 have hst := hst.join (idx := []) (rest := []) rfl hst11
 refine OW.pure 1 [(6, .int .i64 r8)] (by kernel_rfl) (OW.nil rfl (QW.next (CW.seq (CW.region ?_))))
 refine OW.pure 2 [(15, .bool (r8 != 0))] (by kernel_rfl) (OW.nil rfl (QW.next ?_))
 rcases Bool.eq_false_or_eq_true ((r8 != 0)) with hc12 | hc12
 ·have hF := ite_t hF hc12
  refine CW.cond_t rfl hc12 (CW.seq (CW.region ?_))
  refine OW.pure 3 [(4, .slice none 0 0), (5, .int .i64 r8)] (by kernel_rfl) (OW.nil rfl (QW.next (CW.ret (QW.then_ret ?_))))
  have hst := hst.nilRow Int 3 (encInt .i64) 1
  obtain rfl := Option.some.inj hF
  refine QW.ret2 rfl rfl rfl ?_
  exact ⟨(.slice none 0 0), rfl, hst.keep [0] rfl⟩
 have hF := ite_f hF hc12
 refine CW.cond_f rfl hc12 (CW.skip (QW.next (CW.seq (CW.region ?_))))
 refine OW.pure 2 [(18, .slice a2 (p0).length c3), (19, .int .i64 p1)] (by kernel_rfl) ?_
 obtain ⟨x23, hx24, hF⟩ := bind_some' hF
 obtain ⟨g26, o27, c28, hv25⟩ := h0.formv (fun _ => ⟨_, rfl⟩) hx24
 refine OW.idx 43 5 rfl rfl rfl rfl hv25 rfl (idx_some hx24).1 (idx_some hx24).2.1 (by kernel_rfl) (by kernel_rfl) ?_
 refine OW.ldN (cs := enc_api_Inst x23) rfl rfl rfl rfl (by kernel_rfl) (by kernel_rfl) (h0.cellv hst hx24 hv25) ?_
 obtain ⟨r29, hr30, hF⟩ := bind_some' hF
 refine OW.fn rfl rfl rfl rfl (by kernel_rfl) (ops_Goes_ok _ x23 r29 hr30 (hst.part [] rfl) (hT0.give hst [])) ?_
 rintro e w31 ⟨rfl, hst32⟩
 refine ⟨_, rfl, ?_⟩
 have hst := hst.join (idx := []) (rest := []) rfl hst32
 refine OW.pure 7 [(7, .int .i64 r29.1), (8, .bool r29.2.1), (9, .bool r29.2.2)] (by kernel_rfl) (OW.nil rfl (QW.next (CW.seq (CW.region ?_))))
 refine OW.pure 1 [(10, .slice none 0 0)] (by kernel_rfl) (OW.nil rfl (QW.next (CW.seq (CW.seq (CW.region ?_)))))
 refine OW.pure 1 [(26, .bool r29.2.1)] (by kernel_rfl) (OW.nil rfl (QW.next ?_))
 obtain ⟨o53, ho54, hF⟩ := bind_some' hF
 refine CW.cutK (fun a w1 => ∃ (v52 : Value), Rep 43 [(1, .int .i64 p1), (9, .bool r29.2.2), (10, v52)] a ∧ St w (fp []) w1 [rowI v52 3 (encInt .i64) 1 o53]) ?_ ?_
 ·rcases Bool.eq_false_or_eq_true (r29.2.1) with hc55 | hc55
  ·have ho54 := ite_t ho54 hc55
   refine CW.cond_t rfl hc55 (CW.region ?_)
   refine OW.pure 4 [(27, .slice none 0 0), (30, .int .i64 (w64 (p1 + r29.1)))] (by kernel_rfl) ?_
   refine OW.row (α := Int) (e := 3) (enc := encInt .i64) (sz := 1) hst rfl rfl rfl [w64 (p1 + r29.1)] rfl (fun _ => rfl) rfl rfl (fun _ => by kernel_rfl) ?_
   intro g65 w66 hst
   have hst := hst.nilRow Int 3 (encInt .i64) 1
   obtain ⟨u67, hr68, ho54⟩ := bind_some' ho54
   refine OW.app hst 1 rfl (fun _ => rfl) (fun _ => rfl) rfl rfl rfl rfl rfl rfl (by kernel_rfl) el3 (hst.rd 0 rfl (fun _ => rfl) [] rfl (hst.len 0 rfl).1) (room_le hr68) ?_
   intro v69 w70 hst
   obtain ⟨l71, a72, c73, rfl⟩ := hst.len 1 rfl
   refine OW.pure 1 [(10, .slice a72 ((([] : List Int) ++ [w64 (p1 + r29.1)])).length c73)] (by kernel_rfl) (OW.nil rfl ?_)
   obtain rfl := Option.some.inj ho54
   exact QW.meet (fun a ha => ⟨(.slice a72 ((([] : List Int) ++ [w64 (p1 + r29.1)])).length c73), ha.agrees (by kernel_rfl), hst.keep [1] rfl⟩)
  have ho54 := ite_f ho54 hc55
  refine CW.cond_f rfl hc55 (CW.skip ?_)
  have hst := hst.nilRow Int 3 (encInt .i64) 1
  obtain rfl := Option.some.inj ho54
  exact QW.meet (fun a ha => ⟨(.slice none 0 0), ha.agrees (by kernel_rfl), hst.keep [0] rfl⟩)
 rintro a w1 ⟨v52, ha, hst⟩
 refine CW.go ?_ ha
 obtain ⟨l75, a76, c77, rfl⟩ := hst.len 0 rfl
 refine CW.seq (CW.seq (CW.region ?_))
 refine OW.pure 1 [(33, .bool r29.2.2)] (by kernel_rfl) (OW.nil rfl (QW.next ?_))
 obtain ⟨o98, ho99, hF⟩ := bind_some' hF
 refine CW.cutK (fun a w1 => ∃ (v97 : Value), Rep 43 [(10, v97)] a ∧ St w (fp []) w1 [rowI v97 3 (encInt .i64) 1 o98]) ?_ ?_
 ·rcases Bool.eq_false_or_eq_true (r29.2.2) with hc100 | hc100
  ·have ho99 := ite_t ho99 hc100
   refine CW.cond_t rfl hc100 (CW.region ?_)
   refine OW.pure 3 [(34, .slice a76 (o53).length c77), (36, .int .i64 (w64 (p1 + 1)))] (by kernel_rfl) ?_
   refine OW.row (α := Int) (e := 3) (enc := encInt .i64) (sz := 1) hst rfl rfl rfl [w64 (p1 + 1)] rfl (fun _ => rfl) rfl rfl (fun _ => by kernel_rfl) ?_
   intro g110 w111 hst
   obtain ⟨u112, hr113, ho99⟩ := bind_some' ho99
   refine OW.app hst 0 rfl (fun _ => rfl) (fun _ => rfl) rfl rfl rfl rfl rfl rfl (by kernel_rfl) el3 (hst.rd 1 rfl (fun _ => rfl) [] rfl (hst.len 1 rfl).1) (room_le hr113) ?_
   intro v114 w115 hst
   obtain ⟨l116, a117, c118, rfl⟩ := hst.len 0 rfl
   refine OW.pure 1 [(10, .slice a117 ((o53 ++ [w64 (p1 + 1)])).length c118)] (by kernel_rfl) (OW.nil rfl ?_)
   obtain rfl := Option.some.inj ho99
   exact QW.meet (fun a ha => ⟨(.slice a117 ((o53 ++ [w64 (p1 + 1)])).length c118), ha.agrees (by kernel_rfl), hst.keep [0] rfl⟩)
  have ho99 := ite_f ho99 hc100
  refine CW.cond_f rfl hc100 (CW.skip ?_)
  obtain rfl := Option.some.inj ho99
  exact QW.meet (fun a ha => ⟨(.slice a76 (o53).length c77), ha.agrees (by kernel_rfl), hst.keep [0] rfl⟩)
 rintro a w1 ⟨v97, ha, hst⟩
 refine CW.go ?_ ha
 obtain ⟨l121, a122, c123, rfl⟩ := hst.len 0 rfl
 refine CW.seq (CW.region ?_)
 refine OW.pure 1 [(39, .slice a122 (o98).length c123)] (by kernel_rfl) ?_
 obtain ⟨r128, hr129, hF⟩ := bind_some' hF
 refine OW.fn rfl rfl rfl rfl (by kernel_rfl) (slices_Sort_int_int_ok _ (.slice a122 (o98).length c123) o98 r128 hr129 (hst.part [0] rfl)) ?_
 rintro e w130 ⟨rfl, hst131⟩
 refine ⟨_, rfl, ?_⟩
 have hst := hst.join (idx := [0]) (rest := []) rfl hst131
 refine OW.nil rfl (QW.next (CW.seq (CW.region ?_)))
 refine OW.pure 1 [(41, .slice a122 (o98).length c123)] (by kernel_rfl) ?_
 obtain ⟨r140, hr141, hF⟩ := bind_some' hF
 refine OW.fn rfl rfl rfl rfl (by kernel_rfl) (slices_Compact_int_int_ok _ (.slice a122 (o98).length c123) r128 r140 hr141 (hst.part [0] rfl)) ?_
 rintro e w142 ⟨v144, rfl, hst143⟩
 refine ⟨_, rfl, ?_⟩
 have hst := hst.join (idx := [0]) (rest := []) rfl hst143
 obtain ⟨l145, a146, c147, rfl⟩ := hst.len 0 rfl
 refine OW.pure 2 [(4, .slice a146 (r140).length c147), (5, .int .i64 0)] (by kernel_rfl) (OW.nil rfl (QW.next (CW.ret ?_)))
 obtain rfl := Option.some.inj hF
 refine QW.ret2 rfl rfl rfl ?_
 exact ⟨(.slice a146 (r140).length c147), rfl, hst.keep [0] rfl⟩
theorem tappetlaw11_EngineEnds_ok (w : World) (fu : Nat) (v0_0 : Value) (v0_1 : Value) (v0_2 : Value) (p0 : tappetlaw11_Run) (r : Bool) (hF : tappetlaw11_EngineEnds fu p0 = some r)
    (hst : St w (fp []) w []) (h0_0 : Rd w (fp []) v0_0 (encInt .i64) 1 p0.M.Maps) (h0_1 : Rd w (fp []) v0_1 enc_api_Inst 5 p0.M.Code) (h0_2 : Rd w (fp []) v0_2 enc_api_Res 6 p0.Res) (hT0 : Rd w (fp []) (.slice (some ⟨0, 0, none⟩) 23 23) enc_ops_form 2 tab_g0) (hT1 : Rd w (fp []) (.slice (some ⟨1, 0, none⟩) 7 7) enc_sigs_sig 5 tab_g1) :
    Calls Tryz.prog 5 [.agg [v0_0, v0_1, .int .u64 p0.E.A, .int .u64 p0.E.B, v0_2, .int .i64 p0.Odd].toArray].toArray w (fun e w' => e = .returned (.bool r) ∧ St w (fp []) w' []) := by
 refine CW.start (N := 219) Tryz.func5 rfl rfl rfl ?_
 obtain ⟨l1, a2, c3, rfl⟩ := h0_0.len
 obtain ⟨l4, a5, c6, rfl⟩ := h0_1.len
 obtain ⟨l7, a8, c9, rfl⟩ := h0_2.len
 refine CW.seq (CW.region ?_)
 refine OW.box hst rfl rfl rfl rfl [.slice a2 (p0.M.Maps).length c3, .slice a5 (p0.M.Code).length c6, .int .u64 p0.E.A, .int .u64 p0.E.B, .slice a8 (p0.Res).length c9, .int .i64 p0.Odd] rfl ?_
 intro b12 w13 hst
 refine OW.pure 1 [] (by kernel_rfl) (OW.nil rfl (QW.next (CW.seq (CW.seq (CW.region ?_)))))
 obtain ⟨r18, hr19, hF⟩ := bind_some' hF
 refine OW.fn rfl rfl rfl rfl (by kernel_rfl) (tappetlaw11_awake_ok _ fu r18 hr19 (hst.part [] rfl) (hT0.give hst []) (hT1.give hst [])) ?_
 rintro e w20 ⟨rfl, hst21⟩
 refine ⟨_, rfl, ?_⟩
 have hst := hst.join (idx := []) (rest := [0]) rfl hst21
 refine OW.pure 1 [(20, .bool (!r18))] (by kernel_rfl) (OW.nil rfl (QW.next ?_))
 rcases Bool.eq_false_or_eq_true ((!r18)) with hc22 | hc22
 ·have hF := ite_t hF hc22
  refine CW.cond_t rfl hc22 (CW.seq (CW.region ?_))
  refine OW.pure 1 [(2, .bool false)] (by kernel_rfl) (OW.nil rfl (QW.next (CW.ret (QW.then_ret ?_))))
  obtain rfl := Option.some.inj hF
  refine QW.ret1 rfl rfl ?_
  exact ⟨rfl, hst.keep [] rfl⟩
 have hF := ite_f hF hc22
 refine CW.cond_f rfl hc22 (CW.skip (QW.next (CW.seq (CW.region ?_))))
 refine OW.pure 1 [(22, .pointer (some ⟨b12, 0, none⟩))] (by kernel_rfl) ?_
 refine OW.ldN (cs := [.slice a2 (p0.M.Maps).length c3, .slice a5 (p0.M.Code).length c6]) rfl rfl rfl rfl (by kernel_rfl) (by kernel_rfl) (hst.blkN 0 rfl 0 2) ?_
 obtain ⟨r57, hr58, hF⟩ := bind_some' hF
 refine OW.fn rfl rfl rfl rfl (by kernel_rfl) (tappetlaw11_copied_ok _ (.slice a2 (p0.M.Maps).length c3) (.slice a5 (p0.M.Code).length c6) p0.M r57 hr58 (hst.part [] rfl) (h0_0.give hst []) (h0_1.give hst [])) ?_
 rintro e w59 ⟨v61, v62, rfl, hst60⟩
 refine ⟨_, rfl, ?_⟩
 have hst := hst.join (idx := []) (rest := [0]) rfl hst60
 obtain ⟨l81, a82, c83, rfl⟩ := hst.len 0 rfl
 obtain ⟨l84, a85, c86, rfl⟩ := hst.len 1 rfl
 obtain ⟨r87, hr88, hF⟩ := bind_some' hF
 refine OW.fn rfl rfl rfl rfl (by kernel_rfl) (judge_Judge_ok _ _ _ fu (.slice a82 (r57.Maps).length c83) (.slice a85 (r57.Code).length c86) r57 r87 hr88 (hst.part [] rfl) (Bor.refl _ _) (hst.rd 0 rfl (fun _ => rfl) [] rfl (hst.len 0 rfl).1) (hst.rd 1 rfl (fun _ => rfl) [] rfl (hst.len 1 rfl).1) (hT0.give hst []) (hT1.give hst [])) ?_
 rintro e w89 ⟨rfl, hst90⟩
 refine ⟨_, rfl, ?_⟩
 have hst := hst.join (idx := []) (rest := [0, 1, 2]) rfl hst90
 refine OW.pure 5 [(4, .int .i64 r87.2)] (by kernel_rfl) (OW.nil rfl (QW.next (CW.seq (CW.region ?_))))
 refine OW.pure 1 [(29, .pointer (some ⟨b12, 0, none⟩))] (by kernel_rfl) ?_
 refine OW.ldN (cs := [.slice a2 (p0.M.Maps).length c3, .slice a5 (p0.M.Code).length c6]) rfl rfl rfl rfl (by kernel_rfl) (by kernel_rfl) (hst.blkN 2 rfl 0 2) ?_
 obtain ⟨r125, hr126, hF⟩ := bind_some' hF
 refine OW.fn rfl rfl rfl rfl (by kernel_rfl) (tappetlaw11_copied_ok _ (.slice a2 (p0.M.Maps).length c3) (.slice a5 (p0.M.Code).length c6) p0.M r125 hr126 (hst.part [] rfl) (h0_0.give hst []) (h0_1.give hst [])) ?_
 rintro e w127 ⟨v129, v130, rfl, hst128⟩
 refine ⟨_, rfl, ?_⟩
 have hst := hst.join (idx := []) (rest := [0, 1, 2]) rfl hst128
 obtain ⟨l149, a150, c151, rfl⟩ := hst.len 0 rfl
 obtain ⟨l152, a153, c154, rfl⟩ := hst.len 1 rfl
 refine OW.pure 1 [(32, .slice a153 (r125.Code).length c154)] (by kernel_rfl) ?_
 obtain ⟨r155, hr156, hF⟩ := bind_some' hF
 refine OW.fn rfl rfl rfl rfl (by kernel_rfl) (flow_Cost_ok _ (.slice a153 (r125.Code).length c154) r125.Code r155 hr156 (hst.part [] rfl) (hst.rd 1 rfl (fun _ => rfl) [] rfl (hst.len 1 rfl).1) (hT0.give hst [])) ?_
 rintro e w157 ⟨rfl, hst158⟩
 refine ⟨_, rfl, ?_⟩
 have hst := hst.join (idx := []) (rest := [0, 1, 2, 3, 4]) rfl hst158
 refine OW.pure 5 [(5, .int .i64 r155.1)] (by kernel_rfl) (OW.nil rfl (QW.next (CW.seq (CW.region ?_))))
 refine OW.pure 1 [(7, .slice none 0 0)] (by kernel_rfl) (OW.nil rfl (QW.next (CW.seq (CW.seq (CW.region ?_)))))
 refine OW.pure 1 [(8, .int .i64 0)] (by kernel_rfl) (OW.nil rfl (QW.next ?_))
 obtain ⟨o348, ho349, hF⟩ := bind_some' hF
 refine CW.cutK (fun a w1 => ∃ (v347 : Value), Rep 219 [(1, .pointer (some ⟨b12, 0, none⟩)), (4, .int .i64 r87.2), (5, .int .i64 r155.1), (7, v347)] a ∧ St w (fp []) w1 [blkI b12 31 [.slice a2 (p0.M.Maps).length c3, .slice a5 (p0.M.Code).length c6, .int .u64 p0.E.A, .int .u64 p0.E.B, .slice a8 (p0.Res).length c9, .int .i64 p0.Odd], rowI v347 45 enc_api_Res 6 o348]) ?_ ?_
 ·refine CW.block ?_
  have hst := hst.nilRow api_Res 45 enc_api_Res 6
  refine CW.loop (fun n a w1 => ∃ (s476 : (List api_Res) × Int) (v477 : Value), Rep 219 [(1, .pointer (some ⟨b12, 0, none⟩)), (4, .int .i64 r87.2), (5, .int .i64 r155.1), (7, v477), (8, .int .i64 s476.2)] a ∧ St w (fp []) w1 [blkI b12 31 [.slice a2 (p0.M.Maps).length c3, .slice a5 (p0.M.Code).length c6, .int .u64 p0.E.A, .int .u64 p0.E.B, .slice a8 (p0.Res).length c9, .int .i64 p0.Odd], rowI v477 45 enc_api_Res 6 s476.1] ∧ loop (tappetlaw11_EngineEnds_l1 p0 r155) n s476 = some o348) fu (fun a ha => ⟨(([] : List api_Res), 0), (.slice none 0 0), ha.agrees (by kernel_rfl), hst.keep [4, 5] rfl, ho349⟩) ?_
  rintro n474 a w1 ⟨s476, v477, ha, hst, hl475⟩
  rcases n474 with _ | n474
  ·exact (loop_zero hl475).elim
  refine CW.go ?_ ha
  obtain ⟨l478, a479, c480, rfl⟩ := hst.len 1 rfl
  refine CW.seq (CW.seq (CW.region ?_))
  refine OW.pure 3 [(38, .bool (decide (s476.2 < r155.1)))] (by kernel_rfl) (OW.nil rfl (QW.next ?_))
  rcases Bool.eq_false_or_eq_true (decide (s476.2 < r155.1)) with hc481 | hc481
  ·have hl475 := ite_t hl475 hc481
   refine CW.cond_t rfl hc481 (CW.skip (QW.next (CW.seq (CW.block (CW.seq (CW.region ?_))))))
   refine OW.pure 4 [(44, .agg [.int .i64 0, .bool false, .int .u64 (wu64 ((wu64 s476.2) * 977)), .bool false, .int .u64 0, .int .u64 0].toArray)] (by kernel_rfl) ?_
   refine OW.alloc hst rfl rfl rfl [.int .i64 0, .bool false, .int .u64 0, .bool false, .int .u64 0, .int .u64 0] (by kernel_rfl) ?_
   intro b485 w486 hst
   refine OW.stB hst 2 rfl rfl rfl rfl rfl (by kernel_rfl) rfl rfl [.int .i64 0, .bool false, .int .u64 (wu64 ((wu64 s476.2) * 977)), .bool false, .int .u64 0, .int .u64 0] rfl ?_
   intro w487 hst
   refine OW.nil rfl (QW.next (CW.seq (CW.seq (CW.region ?_))))
   refine OW.pure 2 [(45, .int .i64 s476.2), (46, .pointer (some ⟨b12, 4, none⟩))] (by kernel_rfl) ?_
   refine OW.ld rfl rfl rfl rfl (by kernel_rfl) (hst.blk 0 rfl rfl) ?_
   refine OW.pure 2 [(49, .bool (decide (s476.2 < ((p0.Res).length : Int))))] (by kernel_rfl) (OW.nil rfl (QW.next ?_))
   obtain ⟨o503, ho504, hl475⟩ := bind_some' hl475
   refine CW.cutK (fun a w1 => Rep 219 [(1, .pointer (some ⟨b12, 0, none⟩)), (4, .int .i64 r87.2), (5, .int .i64 r155.1), (7, .slice a479 (s476.1).length c480), (8, .int .i64 s476.2), (9, .pointer (some ⟨b485, 0, none⟩))] a ∧ St w (fp []) w1 [blkI b12 31 [.slice a2 (p0.M.Maps).length c3, .slice a5 (p0.M.Code).length c6, .int .u64 p0.E.A, .int .u64 p0.E.B, .slice a8 (p0.Res).length c9, .int .i64 p0.Odd], rowI (.slice a479 (s476.1).length c480) 45 enc_api_Res 6 s476.1, blkI b485 45 [.int .i64 o503.E, .bool o503.Found, .int .u64 o503.Val, .bool o503.Out, .int .u64 o503.OutKey, .int .u64 o503.OutVal]]) ?_ ?_
   ·rcases Bool.eq_false_or_eq_true (decide (s476.2 < ((p0.Res).length : Int))) with hc505 | hc505
    ·have ho504 := ite_t ho504 hc505
     refine CW.cond_t rfl hc505 (CW.region ?_)
     refine OW.pure 1 [(50, .pointer (some ⟨b12, 4, none⟩))] (by kernel_rfl) ?_
     refine OW.ld rfl rfl rfl rfl (by kernel_rfl) (hst.blk 0 rfl rfl) ?_
     refine OW.pure 1 [(52, .int .i64 s476.2)] (by kernel_rfl) ?_
     obtain ⟨x513, hx514, ho504⟩ := bind_some' ho504
     obtain ⟨g516, o517, c518, hv515⟩ := h0_2.formv (fun _ => ⟨_, rfl⟩) hx514
     refine OW.idx 45 6 rfl rfl rfl rfl hv515 rfl (idx_some hx514).1 (idx_some hx514).2.1 (by kernel_rfl) (by kernel_rfl) ?_
     refine OW.ldN (cs := enc_api_Res x513) rfl rfl rfl rfl (by kernel_rfl) (by kernel_rfl) (h0_2.cellv hst hx514 hv515) ?_
     refine OW.stB hst 2 rfl rfl rfl rfl rfl (by kernel_rfl) rfl rfl [.int .i64 x513.E, .bool x513.Found, .int .u64 x513.Val, .bool x513.Out, .int .u64 x513.OutKey, .int .u64 x513.OutVal] rfl ?_
     intro w519 hst
     refine OW.nil rfl ?_
     obtain rfl := Option.some.inj ho504
     exact QW.meet (fun a ha => ⟨ha.agrees (by kernel_rfl), hst.keep [0, 1, 2] rfl⟩)
    have ho504 := ite_f ho504 hc505
    refine CW.cond_f rfl hc505 (CW.skip ?_)
    obtain rfl := Option.some.inj ho504
    exact QW.meet (fun a ha => ⟨ha.agrees (by kernel_rfl), hst.keep [0, 1, 2] rfl⟩)
   rintro a w1 ⟨ha, hst⟩
   refine CW.go ?_ ha
   refine CW.region ?_
   refine OW.pure 1 [(55, .slice a479 (s476.1).length c480)] (by kernel_rfl) ?_
   refine OW.ldN (cs := [.int .i64 o503.E, .bool o503.Found, .int .u64 o503.Val, .bool o503.Out, .int .u64 o503.OutKey, .int .u64 o503.OutVal]) rfl rfl rfl rfl (by kernel_rfl) (by kernel_rfl) (hst.blkN 2 rfl 0 6) ?_
   refine OW.row (α := api_Res) (e := 45) (enc := enc_api_Res) (sz := 6) hst rfl rfl rfl [o503] rfl (fun _ => rfl) rfl rfl (fun _ => by kernel_rfl) ?_
   intro g529 w530 hst
   obtain ⟨u531, hr532, hl475⟩ := bind_some' hl475
   refine OW.app hst 1 rfl (fun _ => rfl) (fun _ => rfl) rfl rfl rfl rfl rfl rfl (by kernel_rfl) el45 (hst.rd 3 rfl (fun _ => rfl) [] rfl (hst.len 3 rfl).1) (room_le hr532) ?_
   intro v533 w534 hst
   obtain ⟨l535, a536, c537, rfl⟩ := hst.len 1 rfl
   refine OW.pure 1 [(7, .slice a536 ((s476.1 ++ [o503])).length c537)] (by kernel_rfl) (OW.nil rfl (QW.block_normal (QW.next (CW.region ?_))))
   refine OW.pure 3 [(8, .int .i64 (w64 (s476.2 + 1)))] (by kernel_rfl) (OW.nil rfl ?_)
   exact QW.meet (fun a ha => ⟨n474, Nat.lt_succ_self _, ((s476.1 ++ [o503]), w64 (s476.2 + 1)), (.slice a536 ((s476.1 ++ [o503])).length c537), ha.agrees (by kernel_rfl), hst.keep [0, 1] rfl, hl475⟩)
  have hl475 := ite_f hl475 hc481
  refine CW.cond_f rfl hc481 ?_
  refine CW.exit (QW.then_exit (QW.then_exit ?_))
  refine QW.block_here ?_
  obtain rfl := Option.some.inj hl475
  exact QW.meet (fun a ha => ⟨(.slice a479 (s476.1).length c480), ha.agrees (by kernel_rfl), hst.keep [0, 1] rfl⟩)
 rintro a w1 ⟨v347, ha, hst⟩
 refine CW.go ?_ ha
 obtain ⟨l540, a541, c542, rfl⟩ := hst.len 1 rfl
 refine CW.seq ?_
 refine CW.plan (by kernel_rfl) ?_
 intro w583 hch584
 have hst := hst.same hch584
 refine OA.pure [0] [(60, .pointer (some ⟨b12, 0, none⟩))] (by kernel_rfl) ?_
 refine OA.ldN (i := 1) (cs := [.slice a2 (p0.M.Maps).length c3, .slice a5 (p0.M.Code).length c6]) rfl (by kernel_rfl) rfl rfl rfl (by kernel_rfl) (by kernel_rfl) (hst.blkN 0 rfl 0 2) ?_
 refine OA.pure [3] [(63, .pointer (some ⟨b12, 2, none⟩))] (by kernel_rfl) ?_
 refine OA.ldN (i := 4) (cs := [.int .u64 p0.E.A, .int .u64 p0.E.B]) rfl (by kernel_rfl) rfl rfl rfl (by kernel_rfl) (by kernel_rfl) (hst.blkN 0 rfl 2 2) ?_
 refine OA.pure [5] [(65, .slice a541 (o348).length c542)] (by kernel_rfl) ?_
 refine OA.act (i := 2) [4] (by kernel_rfl) rfl rfl (by kernel_rfl) (by kernel_rfl) ?_
 obtain ⟨r585, hr586, hF⟩ := bind_some' hF
 refine OW.fn rfl rfl rfl rfl (by kernel_rfl) (tappetlaw11_copied_ok _ (.slice a2 (p0.M.Maps).length c3) (.slice a5 (p0.M.Code).length c6) p0.M r585 hr586 (hst.part [] rfl) (h0_0.give hst []) (h0_1.give hst [])) ?_
 rintro e w587 ⟨v589, v590, rfl, hst588⟩
 refine ⟨_, rfl, ?_⟩
 have hst := hst.join (idx := []) (rest := [0, 1]) rfl hst588
 obtain ⟨l609, a610, c611, rfl⟩ := hst.len 0 rfl
 obtain ⟨l612, a613, c614, rfl⟩ := hst.len 1 rfl
 refine OA.next ⟨(hst.blkN 2 rfl 2 2), trivial⟩ ?_
 refine OA.act (i := 6) [] (by kernel_rfl) rfl rfl (by kernel_rfl) (by kernel_rfl) ?_
 obtain ⟨r615, hr616, hF⟩ := bind_some' hF
 refine OW.fn rfl rfl rfl rfl (by kernel_rfl) (engine_Trace_ok _ fu (.slice a610 (r585.Maps).length c611) (.slice a613 (r585.Code).length c614) r585 p0.E (.slice a541 (o348).length c542) o348 r615 hr616 (hst.part [] rfl) (hst.rd 0 rfl (fun _ => rfl) [] rfl (hst.len 0 rfl).1) (hst.rd 1 rfl (fun _ => rfl) [] rfl (hst.len 1 rfl).1) (hst.rd 3 rfl (fun _ => rfl) [] rfl (hst.len 3 rfl).1) (hT0.give hst []) (hT1.give hst [])) ?_
 rintro e w617 ⟨v619, rfl, hst618⟩
 refine ⟨_, rfl, ?_⟩
 have hst := hst.join (idx := []) (rest := [0, 1, 2, 3]) rfl hst618
 obtain ⟨l620, a621, c622, rfl⟩ := hst.len 0 rfl
 refine OA.next trivial ?_
 refine OA.pure [7, 8, 9] [(67, .slice a621 (r615.1).length c622), (68, .int .i64 r615.2)] (by kernel_rfl) ?_
 refine OA.act (i := 10) [] (by kernel_rfl) rfl rfl (by kernel_rfl) (by kernel_rfl) ?_
 refine OW.pure 1 [(10, .slice a621 (r615.1).length c622)] (by kernel_rfl) (OA.next trivial ?_)
 refine OA.act (i := 11) [] (by kernel_rfl) rfl rfl (by kernel_rfl) (by kernel_rfl) ?_
 refine OW.pure 1 [(11, .int .i64 r615.2)] (by kernel_rfl) (OA.next trivial ?_)
 refine OA.fin (by kernel_rfl) (by kernel_rfl) (QW.next (CW.seq (CW.seq (CW.region ?_))))
 refine OW.pure 2 [(70, .bool (r87.2 != 0))] (by kernel_rfl) (OW.nil rfl (QW.next ?_))
 rcases Bool.eq_false_or_eq_true ((r87.2 != 0)) with hc623 | hc623
 ·have hF := ite_t hF hc623
  refine CW.cond_t rfl hc623 (CW.seq ?_)
  refine CW.cutK (fun a w1 => Rep 219 [(2, .bool ((r615.2 == r87.2) && (((r615.1).length : Int) == 0)))] a ∧ St w (fp []) w1 []) ?_ ?_
  ·refine CW.region ?_
   refine OW.pure 4 [(74, .bool (r615.2 == r87.2))] (by kernel_rfl) ?_
   refine OW.split 74 rfl (fun hc624 => ?_) (fun hc624 => ?_)
   ·refine OW.pure 5 [(2, .bool (((r615.1).length : Int) == 0))] (by kernel_rfl) (OW.nil rfl ?_)
    refine QW.say 2 (v := .bool ((r615.2 == r87.2) && (((r615.1).length : Int) == 0))) rfl (by first | (rw [hc624]; done) | (rw [hc624]; rfl) | simp [hc624]) ?_
    exact QW.meet (fun a ha => ⟨ha.agrees (by kernel_rfl), hst.keep [] rfl⟩)
   refine OW.pure 5 [(2, .bool false)] (by kernel_rfl) (OW.nil rfl ?_)
   refine QW.say 2 (v := .bool ((r615.2 == r87.2) && (((r615.1).length : Int) == 0))) rfl (by first | (rw [hc624]; done) | (rw [hc624]; rfl) | simp [hc624]) ?_
   exact QW.meet (fun a ha => ⟨ha.agrees (by kernel_rfl), hst.keep [] rfl⟩)
  rintro a w1 ⟨ha, hst⟩
  refine CW.go ?_ ha
  refine CW.ret (QW.then_ret ?_)
  obtain rfl := Option.some.inj hF
  refine QW.ret1 rfl rfl ?_
  exact ⟨rfl, hst.keep [] rfl⟩
 have hF := ite_f hF hc623
 refine CW.cond_f rfl hc623 (CW.skip (QW.next (CW.seq (CW.seq ?_))))
 obtain ⟨o641, ho642, hF⟩ := bind_some' hF
 refine CW.cutK (fun a w1 => Rep 219 [(1, .pointer (some ⟨b12, 0, none⟩)), (10, .slice a621 (r615.1).length c622), (108, .bool o641)] a ∧ St w (fp []) w1 [blkI b12 31 [.slice a2 (p0.M.Maps).length c3, .slice a5 (p0.M.Code).length c6, .int .u64 p0.E.A, .int .u64 p0.E.B, .slice a8 (p0.Res).length c9, .int .i64 p0.Odd], rowI (.slice a621 (r615.1).length c622) 80 enc_api_Act 7 r615.1]) ?_ ?_
 ·refine CW.region ?_
  refine OW.pure 3 [(81, .bool (r615.2 != 0))] (by kernel_rfl) ?_
  refine OW.split 81 rfl (fun hc643 => ?_) (fun hc643 => ?_)
  ·have ho642 := ite_t ho642 hc643
   refine OW.pure 27 [(108, .bool true)] (by kernel_rfl) (OW.nil rfl ?_)
   obtain rfl := Option.some.inj ho642
   exact QW.meet (fun a ha => ⟨ha.agrees (by kernel_rfl), hst.keep [3, 0] rfl⟩)
  have ho642 := ite_f ho642 hc643
  refine OW.pure 5 [(86, .bool (decide (((r615.1).length : Int) < 1)))] (by kernel_rfl) ?_
  refine OW.split 86 rfl (fun hc644 => ?_) (fun hc644 => ?_)
  ·have ho642 := ite_t ho642 hc644
   refine OW.pure 22 [(108, .bool true)] (by kernel_rfl) (OW.nil rfl ?_)
   obtain rfl := Option.some.inj ho642
   exact QW.meet (fun a ha => ⟨ha.agrees (by kernel_rfl), hst.keep [3, 0] rfl⟩)
  have ho642 := ite_f ho642 hc644
  refine OW.pure 6 [(92, .bool (decide (((r615.1).length : Int) > r155.1)))] (by kernel_rfl) ?_
  refine OW.split 92 rfl (fun hc645 => ?_) (fun hc645 => ?_)
  ·have ho642 := ite_t ho642 hc645
   refine OW.pure 16 [(108, .bool true)] (by kernel_rfl) (OW.nil rfl ?_)
   obtain rfl := Option.some.inj ho642
   exact QW.meet (fun a ha => ⟨ha.agrees (by kernel_rfl), hst.keep [3, 0] rfl⟩)
  have ho642 := ite_f ho642 hc645
  refine OW.pure 4 [(93, .slice a621 (r615.1).length c622), (96, .int .i64 (w64 (((r615.1).length : Int) - 1)))] (by kernel_rfl) ?_
  obtain ⟨x646, hx647, ho642⟩ := bind_some' ho642
  obtain ⟨g649, o650, c651, hv648⟩ := hst.rowv 0 rfl hx647
  refine OW.idx 80 7 rfl rfl rfl rfl hv648 rfl (idx_some hx647).1 (idx_some hx647).2.1 (by kernel_rfl) (by kernel_rfl) ?_
  refine OW.pure 1 [(98, .pointer (some ⟨g649, o650 + Int.toNat (w64 (((r615.1).length : Int) - 1)) * 7, none⟩))] (by kernel_rfl) ?_
  refine OW.ld rfl rfl rfl rfl (by kernel_rfl) (hst.rowc 0 rfl (fun _ => rfl) hx647 hv648 0 _ rfl) ?_
  refine OW.pure 3 [(102, .bool (x646.Kind != 4))] (by kernel_rfl) ?_
  refine OW.split 102 rfl (fun hc652 => ?_) (fun hc652 => ?_)
  ·have ho642 := ite_t ho642 hc652
   refine OW.pure 6 [(108, .bool true)] (by kernel_rfl) (OW.nil rfl ?_)
   obtain rfl := Option.some.inj ho642
   exact QW.meet (fun a ha => ⟨ha.agrees (by kernel_rfl), hst.keep [3, 0] rfl⟩)
  have ho642 := ite_f ho642 hc652
  refine OW.pure 1 [(103, .slice a621 (r615.1).length c622)] (by kernel_rfl) ?_
  obtain ⟨x653, hx654, ho642⟩ := bind_some' ho642
  obtain ⟨g656, o657, c658, hv655⟩ := hst.rowv 0 rfl hx654
  refine OW.idx 80 7 rfl rfl rfl rfl hv655 rfl (idx_some hx654).1 (idx_some hx654).2.1 (by kernel_rfl) (by kernel_rfl) ?_
  refine OW.pure 1 [(105, .pointer (some ⟨g656, o657 + Int.toNat 0 * 7 + 1, none⟩))] (by kernel_rfl) ?_
  refine OW.ld rfl rfl rfl rfl (by kernel_rfl) (hst.rowc 0 rfl (fun _ => rfl) hx654 hv655 1 _ rfl) ?_
  refine OW.pure 2 [(108, .bool (x653.Pc != 0))] (by kernel_rfl) (OW.nil rfl ?_)
  obtain rfl := Option.some.inj ho642
  exact QW.meet (fun a ha => ⟨ha.agrees (by kernel_rfl), hst.keep [3, 0] rfl⟩)
 rintro a w1 ⟨ha, hst⟩
 refine CW.go ?_ ha
 rcases Bool.eq_false_or_eq_true (o641) with hc659 | hc659
 ·have hF := ite_t hF hc659
  refine CW.cond_t rfl hc659 (CW.seq (CW.region ?_))
  refine OW.pure 1 [(2, .bool false)] (by kernel_rfl) (OW.nil rfl (QW.next (CW.ret (QW.then_ret ?_))))
  obtain rfl := Option.some.inj hF
  refine QW.ret1 rfl rfl ?_
  exact ⟨rfl, hst.keep [] rfl⟩
 have hF := ite_f hF hc659
 refine CW.cond_f rfl hc659 (CW.skip (QW.next (CW.seq (CW.seq (CW.region ?_)))))
 refine OW.pure 1 [(12, .int .i64 0)] (by kernel_rfl) (OW.nil rfl (QW.next ?_))
 obtain ⟨o2388, ho2389, hF⟩ := bind_some' hF
 refine CW.cutK (fun a w1 => ∃ (t2390 : Unit), o2388 = .inl t2390 ∧ Rep 219 [] a ∧ St w (fp []) w1 []) ?_ ?_
 ·refine CW.block ?_
  refine CW.loop (fun n a w1 => ∃ (i3543 : Nat) (s3542 : Unit), i3543 + n = (r615.1).length ∧ Rep 219 [(1, .pointer (some ⟨b12, 0, none⟩)), (10, .slice a621 (r615.1).length c622), (12, .int .i64 (i3543 : Int))] a ∧ St w (fp []) w1 [blkI b12 31 [.slice a2 (p0.M.Maps).length c3, .slice a5 (p0.M.Code).length c6, .int .u64 p0.E.A, .int .u64 p0.E.B, .slice a8 (p0.Res).length c9, .int .i64 p0.Odd], rowI (.slice a621 (r615.1).length c622) 80 enc_api_Act 7 r615.1] ∧ forN (tappetlaw11_EngineEnds_l2 fu p0 r615) (fun (s3542 : Unit) => (.inl ())) n i3543 s3542 = some o2388) (r615.1).length (fun a ha => ⟨0, (), Nat.zero_add _, ha.agrees (by kernel_rfl), hst.keep [0, 1] rfl, ho2389⟩) ?_
  rintro n3540 a w1 ⟨i3543, s3542, hi3544, ha, hst, hl3541⟩
  refine CW.go ?_ ha
  refine CW.seq (CW.seq (CW.region ?_))
  refine OW.pure 4 [(112, .bool (decide ((i3543 : Int) < ((r615.1).length : Int))))] (by kernel_rfl) (OW.nil rfl (QW.next ?_))
  rcases Bool.eq_false_or_eq_true (decide ((i3543 : Int) < ((r615.1).length : Int))) with hc3545 | hc3545
  ·rcases n3540 with _ | n3540
   ·exact (cnt0 hi3544 hc3545).elim
   refine CW.cond_t rfl hc3545 (CW.skip (QW.next (CW.seq (CW.block (CW.seq (CW.seq (CW.region ?_)))))))
   refine OW.pure 2 [(115, .slice a621 (r615.1).length c622), (116, .int .i64 (i3543 : Int))] (by kernel_rfl) ?_
   obtain ⟨x3552, hx3553, hl3541⟩ := bind_some' hl3541
   obtain ⟨g3555, o3556, c3557, hv3554⟩ := hst.rowv 1 rfl hx3553
   refine OW.idx 80 7 rfl rfl rfl rfl hv3554 rfl (idx_some hx3553).1 (idx_some hx3553).2.1 (by kernel_rfl) (by kernel_rfl) ?_
   refine OW.pure 1 [(118, .pointer (some ⟨g3555, o3556 + Int.toNat (i3543 : Int) * 7, none⟩))] (by kernel_rfl) ?_
   refine OW.ld rfl rfl rfl rfl (by kernel_rfl) (hst.rowc 1 rfl (fun _ => rfl) hx3553 hv3554 0 _ rfl) ?_
   refine OW.pure 1 [(120, .bool (x3552.Kind == 2))] (by kernel_rfl) (OW.nil rfl (QW.next ?_))
   obtain ⟨o3726, ho3727, hl3541⟩ := bind_some' hl3541
   refine CW.cutK (fun a w1 => ∃ (t3728 : Unit), o3726 = .inl t3728 ∧ Rep 219 [(1, .pointer (some ⟨b12, 0, none⟩)), (10, .slice a621 (r615.1).length c622), (12, .int .i64 (i3543 : Int))] a ∧ St w (fp []) w1 [blkI b12 31 [.slice a2 (p0.M.Maps).length c3, .slice a5 (p0.M.Code).length c6, .int .u64 p0.E.A, .int .u64 p0.E.B, .slice a8 (p0.Res).length c9, .int .i64 p0.Odd], rowI (.slice a621 (r615.1).length c622) 80 enc_api_Act 7 r615.1]) ?_ ?_
   ·rcases Bool.eq_false_or_eq_true ((x3552.Kind == 2)) with hc3729 | hc3729
    ·have ho3727 := ite_t ho3727 hc3729
     refine CW.cond_t rfl hc3729 (CW.seq (CW.region ?_))
     refine OW.pure 1 [(13, .bool false)] (by kernel_rfl) (OW.nil rfl (QW.next (CW.seq (CW.seq (CW.region ?_)))))
     refine OW.pure 1 [(14, .int .i64 0)] (by kernel_rfl) (OW.nil rfl (QW.next ?_))
     obtain ⟨o3801, ho3802, ho3727⟩ := bind_some' ho3727
     refine CW.cutK (fun a w1 => Rep 219 [(1, .pointer (some ⟨b12, 0, none⟩)), (10, .slice a621 (r615.1).length c622), (12, .int .i64 (i3543 : Int)), (13, .bool o3801)] a ∧ St w (fp []) w1 [blkI b12 31 [.slice a2 (p0.M.Maps).length c3, .slice a5 (p0.M.Code).length c6, .int .u64 p0.E.A, .int .u64 p0.E.B, .slice a8 (p0.Res).length c9, .int .i64 p0.Odd], rowI (.slice a621 (r615.1).length c622) 80 enc_api_Act 7 r615.1]) ?_ ?_
     ·refine CW.block ?_
      refine CW.loop (fun n a w1 => ∃ (i3854 : Nat) (s3853 : Bool), i3854 + n = (p0.M.Maps).length ∧ Rep 219 [(1, .pointer (some ⟨b12, 0, none⟩)), (10, .slice a621 (r615.1).length c622), (12, .int .i64 (i3543 : Int)), (13, .bool s3853), (14, .int .i64 (i3854 : Int))] a ∧ St w (fp []) w1 [blkI b12 31 [.slice a2 (p0.M.Maps).length c3, .slice a5 (p0.M.Code).length c6, .int .u64 p0.E.A, .int .u64 p0.E.B, .slice a8 (p0.Res).length c9, .int .i64 p0.Odd], rowI (.slice a621 (r615.1).length c622) 80 enc_api_Act 7 r615.1] ∧ forN (tappetlaw11_EngineEnds_l3 p0 r615 i3543) (fun (s3853 : Bool) => s3853) n i3854 s3853 = some o3801) (p0.M.Maps).length (fun a ha => ⟨0, false, Nat.zero_add _, ha.agrees (by kernel_rfl), hst.keep [0, 1] rfl, ho3802⟩) ?_
      rintro n3851 a w1 ⟨i3854, s3853, hi3855, ha, hst, hl3852⟩
      refine CW.go ?_ ha
      refine CW.seq (CW.seq (CW.region ?_))
      refine OW.pure 3 [(121, .int .i64 (i3854 : Int)), (123, .pointer (some ⟨b12, 0, none⟩))] (by kernel_rfl) ?_
      refine OW.ld rfl rfl rfl rfl (by kernel_rfl) (hst.blk 0 rfl rfl) ?_
      refine OW.pure 2 [(126, .bool (decide ((i3854 : Int) < ((p0.M.Maps).length : Int))))] (by kernel_rfl) (OW.nil rfl (QW.next ?_))
      rcases Bool.eq_false_or_eq_true (decide ((i3854 : Int) < ((p0.M.Maps).length : Int))) with hc3856 | hc3856
      ·rcases n3851 with _ | n3851
       ·exact (cnt0 hi3855 hc3856).elim
       refine CW.cond_t rfl hc3856 (CW.skip (QW.next (CW.seq (CW.block ?_))))
       refine CW.still (by kernel_rfl) (by kernel_rfl) ?_
       intro w3859 hch3860
       have hst := hst.same hch3860
       refine OS.pure 2 [(130, .bool s3853)] rfl (by kernel_rfl) ?_
       refine OS.split 130 rfl (fun hc3861 => ?_) (fun hc3861 => ?_)
       ·have hl3852 := ite_t hl3852 hc3861
        refine OS.pure 15 [(13, .bool true)] rfl (by kernel_rfl) ?_
        refine OS.fin rfl (QW.block_normal (QW.next (CW.region ?_)))
        refine OW.pure 3 [(14, .int .i64 (w64 ((i3854 : Int) + 1)))] (by kernel_rfl) (OW.nil rfl ?_)
        refine QW.say 14 rfl (congrArg (Value.int .i64) (w64_cnt hc3856 l1)) ?_
        exact QW.meet (fun a ha => ⟨n3851, Nat.lt_succ_self _, i3854 + 1, true, cnt_next hi3855, ha.agrees (by kernel_rfl), hst.keep [0, 1] rfl, hl3852⟩)
       have hl3852 := ite_f hl3852 hc3861
       refine OS.pure 2 [(132, .pointer (some ⟨b12, 0, none⟩))] rfl (by kernel_rfl) ?_
       refine OS.ld rfl rfl rfl rfl rfl (by kernel_rfl) (hst.blk 0 rfl rfl) ?_
       refine OS.pure 1 [(134, .int .i64 (i3854 : Int))] rfl (by kernel_rfl) ?_
       obtain ⟨x3862, hx3863, hl3852⟩ := bind_some' hl3852
       obtain ⟨g3865, o3866, c3867, hv3864⟩ := h0_0.formv (fun _ => ⟨_, rfl⟩) hx3863
       refine OS.idx 3 1 rfl rfl rfl rfl rfl hv3864 rfl (idx_some hx3863).1 (idx_some hx3863).2.1 (by kernel_rfl) (by kernel_rfl) ?_
       refine OS.ld rfl rfl rfl rfl rfl (by kernel_rfl) (h0_0.cellv hst hx3863 hv3864 0 _ rfl) ?_
       refine OS.pure 2 [(137, .slice a621 (r615.1).length c622), (138, .int .i64 (i3543 : Int))] rfl (by kernel_rfl) ?_
       obtain ⟨x3868, hx3869, hl3852⟩ := bind_some' hl3852
       obtain ⟨g3871, o3872, c3873, hv3870⟩ := hst.rowv 1 rfl hx3869
       refine OS.idx 80 7 rfl rfl rfl rfl rfl hv3870 rfl (idx_some hx3869).1 (idx_some hx3869).2.1 (by kernel_rfl) (by kernel_rfl) ?_
       refine OS.pure 2 [(141, .pointer (some ⟨g3871, o3872 + Int.toNat (i3543 : Int) * 7 + 2, none⟩))] rfl (by kernel_rfl) ?_
       refine OS.ld rfl rfl rfl rfl rfl (by kernel_rfl) (hst.rowc 1 rfl (fun _ => rfl) hx3869 hv3870 2 _ rfl) ?_
       refine OS.pure 3 [(13, .bool (x3862 == x3868.Item.Map))] rfl (by kernel_rfl) ?_
       refine OS.fin rfl (QW.block_normal (QW.next (CW.region ?_)))
       refine OW.pure 3 [(14, .int .i64 (w64 ((i3854 : Int) + 1)))] (by kernel_rfl) (OW.nil rfl ?_)
       refine QW.say 14 rfl (congrArg (Value.int .i64) (w64_cnt hc3856 l1)) ?_
       exact QW.meet (fun a ha => ⟨n3851, Nat.lt_succ_self _, i3854 + 1, (x3862 == x3868.Item.Map), cnt_next hi3855, ha.agrees (by kernel_rfl), hst.keep [0, 1] rfl, hl3852⟩)
      rcases n3851 with _ | n3851
      ·refine CW.cond_f rfl hc3856 ?_
       refine CW.exit (QW.then_exit (QW.then_exit ?_))
       refine QW.block_here ?_
       obtain rfl := Option.some.inj hl3852
       exact QW.meet (fun a ha => ⟨ha.agrees (by kernel_rfl), hst.keep [0, 1] rfl⟩)
      exact (cnt1 hi3855 hc3856).elim
     rintro a w1 ⟨ha, hst⟩
     refine CW.go ?_ ha
     refine CW.seq ?_
     obtain ⟨o3884, ho3885, ho3727⟩ := bind_some' ho3727
     refine CW.cutK (fun a w1 => Rep 219 [(1, .pointer (some ⟨b12, 0, none⟩)), (10, .slice a621 (r615.1).length c622), (12, .int .i64 (i3543 : Int)), (164, .bool o3884)] a ∧ St w (fp []) w1 [blkI b12 31 [.slice a2 (p0.M.Maps).length c3, .slice a5 (p0.M.Code).length c6, .int .u64 p0.E.A, .int .u64 p0.E.B, .slice a8 (p0.Res).length c9, .int .i64 p0.Odd], rowI (.slice a621 (r615.1).length c622) 80 enc_api_Act 7 r615.1]) ?_ ?_
     ·refine CW.region ?_
      refine OW.pure 3 [(147, .bool (!o3801))] (by kernel_rfl) ?_
      refine OW.split 147 rfl (fun hc3886 => ?_) (fun hc3886 => ?_)
      ·have ho3885 := ite_t ho3885 hc3886
       refine OW.pure 17 [(164, .bool true)] (by kernel_rfl) (OW.nil rfl ?_)
       obtain rfl := Option.some.inj ho3885
       exact QW.meet (fun a ha => ⟨ha.agrees (by kernel_rfl), hst.keep [0, 1] rfl⟩)
      have ho3885 := ite_f ho3885 hc3886
      refine OW.pure 2 [(148, .slice a621 (r615.1).length c622), (149, .int .i64 (i3543 : Int))] (by kernel_rfl) ?_
      obtain ⟨g3888, o3889, c3890, hv3887⟩ := hst.rowv 1 rfl hx3553
      refine OW.idx 80 7 rfl rfl rfl rfl hv3887 rfl (idx_some hx3553).1 (idx_some hx3553).2.1 (by kernel_rfl) (by kernel_rfl) ?_
      refine OW.pure 2 [(152, .pointer (some ⟨g3888, o3889 + Int.toNat (i3543 : Int) * 7 + 2 + 1, none⟩))] (by kernel_rfl) ?_
      refine OW.ld rfl rfl rfl rfl (by kernel_rfl) (hst.rowc 1 rfl (fun _ => rfl) hx3553 hv3887 3 _ rfl) ?_
      refine OW.pure 3 [(156, .bool (decide (x3552.Item.Op < 0)))] (by kernel_rfl) ?_
      refine OW.split 156 rfl (fun hc3891 => ?_) (fun hc3891 => ?_)
      ·have ho3885 := ite_t ho3885 hc3891
       refine OW.pure 8 [(164, .bool true)] (by kernel_rfl) (OW.nil rfl ?_)
       obtain rfl := Option.some.inj ho3885
       exact QW.meet (fun a ha => ⟨ha.agrees (by kernel_rfl), hst.keep [0, 1] rfl⟩)
      have ho3885 := ite_f ho3885 hc3891
      refine OW.pure 2 [(157, .slice a621 (r615.1).length c622), (158, .int .i64 (i3543 : Int))] (by kernel_rfl) ?_
      obtain ⟨g3893, o3894, c3895, hv3892⟩ := hst.rowv 1 rfl hx3553
      refine OW.idx 80 7 rfl rfl rfl rfl hv3892 rfl (idx_some hx3553).1 (idx_some hx3553).2.1 (by kernel_rfl) (by kernel_rfl) ?_
      refine OW.pure 2 [(161, .pointer (some ⟨g3893, o3894 + Int.toNat (i3543 : Int) * 7 + 2 + 1, none⟩))] (by kernel_rfl) ?_
      refine OW.ld rfl rfl rfl rfl (by kernel_rfl) (hst.rowc 1 rfl (fun _ => rfl) hx3553 hv3892 3 _ rfl) ?_
      refine OW.pure 2 [(164, .bool (decide (x3552.Item.Op ≥ 5)))] (by kernel_rfl) (OW.nil rfl ?_)
      obtain rfl := Option.some.inj ho3885
      exact QW.meet (fun a ha => ⟨ha.agrees (by kernel_rfl), hst.keep [0, 1] rfl⟩)
     rintro a w1 ⟨ha, hst⟩
     refine CW.go ?_ ha
     rcases Bool.eq_false_or_eq_true (o3884) with hc3896 | hc3896
     ·have ho3727 := ite_t ho3727 hc3896
      refine CW.cond_t rfl hc3896 (CW.seq (CW.region ?_))
      refine OW.pure 1 [(2, .bool false)] (by kernel_rfl) (OW.nil rfl (QW.next (CW.ret (QW.then_ret (QW.block_ret (QW.then_ret (QW.then_ret (QW.block_ret (QW.then_ret ?_)))))))))
      obtain rfl := Option.some.inj ho3727
      obtain rfl := Option.some.inj hl3541
      obtain rfl := Option.some.inj hF
      refine QW.ret1 rfl rfl ?_
      exact ⟨rfl, hst.keep [] rfl⟩
     have ho3727 := ite_f ho3727 hc3896
     refine CW.cond_f rfl hc3896 (CW.skip ?_)
     obtain rfl := Option.some.inj ho3727
     exact QW.meet (fun a ha => ⟨(), rfl, ha.agrees (by kernel_rfl), hst.keep [0, 1] rfl⟩)
    have ho3727 := ite_f ho3727 hc3729
    refine CW.cond_f rfl hc3729 (CW.skip ?_)
    obtain rfl := Option.some.inj ho3727
    exact QW.meet (fun a ha => ⟨(), rfl, ha.agrees (by kernel_rfl), hst.keep [0, 1] rfl⟩)
   rintro a w1 ⟨t3728, rfl, ha, hst⟩
   refine CW.go ?_ ha
   refine CW.seq ?_
   refine CW.plan (by kernel_rfl) ?_
   intro w3911 hch3912
   have hst := hst.same hch3912
   refine OA.pure [0, 1] [(167, .pointer (some ⟨b12, 1, none⟩))] (by kernel_rfl) ?_
   refine OA.ld (i := 2) rfl (by kernel_rfl) rfl rfl rfl (by kernel_rfl) (hst.blk 0 rfl rfl) ?_
   refine OA.pure [3, 4] [(169, .slice a621 (r615.1).length c622), (170, .int .i64 (i3543 : Int))] (by kernel_rfl) ?_
   obtain ⟨g3914, o3915, c3916, hv3913⟩ := hst.rowv 1 rfl hx3553
   refine OA.idx (i := 5) 80 7 rfl (by kernel_rfl) rfl rfl rfl hv3913 rfl (idx_some hx3553).1 (idx_some hx3553).2.1 (by kernel_rfl) (by kernel_rfl) ?_
   refine OA.pure [6] [(172, .pointer (some ⟨g3914, o3915 + Int.toNat (i3543 : Int) * 7 + 1, none⟩))] (by kernel_rfl) ?_
   refine OA.ld (i := 7) rfl (by kernel_rfl) rfl rfl rfl (by kernel_rfl) (hst.rowc 1 rfl (fun _ => rfl) hx3553 hv3913 1 _ rfl) ?_
   refine OA.act (i := 8) [] (by kernel_rfl) rfl rfl (by kernel_rfl) (by kernel_rfl) ?_
   obtain ⟨r3917, hr3918, hl3541⟩ := bind_some' hl3541
   refine OW.fn rfl rfl rfl rfl (by kernel_rfl) (flow_Next_ok _ (.slice a5 (p0.M.Code).length c6) p0.M.Code x3552.Pc r3917 hr3918 (hst.part [] rfl) (h0_1.give hst []) (hT0.give hst [])) ?_
   rintro e w3919 ⟨v3921, rfl, hst3920⟩
   refine ⟨_, rfl, ?_⟩
   have hst := hst.join (idx := []) (rest := [0, 1]) rfl hst3920
   obtain ⟨l3922, a3923, c3924, rfl⟩ := hst.len 0 rfl
   refine OA.next trivial ?_
   refine OA.pure [9, 10, 11] [(175, .slice a3923 (r3917.1).length c3924), (176, .int .i64 r3917.2)] (by kernel_rfl) ?_
   refine OA.act (i := 12) [] (by kernel_rfl) rfl rfl (by kernel_rfl) (by kernel_rfl) ?_
   refine OW.pure 1 [(15, .slice a3923 (r3917.1).length c3924)] (by kernel_rfl) (OA.next trivial ?_)
   refine OA.act (i := 13) [] (by kernel_rfl) rfl rfl (by kernel_rfl) (by kernel_rfl) ?_
   refine OW.pure 1 [(16, .int .i64 r3917.2)] (by kernel_rfl) (OA.next trivial ?_)
   refine OA.fin (by kernel_rfl) (by kernel_rfl) (QW.next (CW.seq (CW.seq ?_)))
   refine CW.cutK (fun a w1 => Rep 219 [(1, .pointer (some ⟨b12, 0, none⟩)), (10, .slice a621 (r615.1).length c622), (12, .int .i64 (i3543 : Int)), (15, .slice a3923 (r3917.1).length c3924), (190, .bool ((r3917.2 != 0) || ((((r3917.1).length : Int) == 0) && ((i3543 : Int) != (w64 (((r615.1).length : Int) - 1))))))] a ∧ St w (fp []) w1 [rowI (.slice a3923 (r3917.1).length c3924) 3 (encInt .i64) 1 r3917.1, blkI b12 31 [.slice a2 (p0.M.Maps).length c3, .slice a5 (p0.M.Code).length c6, .int .u64 p0.E.A, .int .u64 p0.E.B, .slice a8 (p0.Res).length c9, .int .i64 p0.Odd], rowI (.slice a621 (r615.1).length c622) 80 enc_api_Act 7 r615.1]) ?_ ?_
   ·refine CW.region ?_
    refine OW.pure 3 [(179, .bool (r3917.2 != 0))] (by kernel_rfl) ?_
    refine OW.split 179 rfl (fun hc3925 => ?_) (fun hc3925 => ?_)
    ·refine OW.pure 11 [(190, .bool true)] (by kernel_rfl) (OW.nil rfl ?_)
     refine QW.say 190 (v := .bool ((r3917.2 != 0) || ((((r3917.1).length : Int) == 0) && ((i3543 : Int) != (w64 (((r615.1).length : Int) - 1)))))) rfl (by first | (rw [hc3925]; done) | (rw [hc3925]; rfl) | simp [hc3925]) ?_
     exact QW.meet (fun a ha => ⟨ha.agrees (by kernel_rfl), hst.keep [0, 1, 2] rfl⟩)
    refine OW.pure 4 [(183, .bool (((r3917.1).length : Int) == 0))] (by kernel_rfl) ?_
    refine OW.split 183 rfl (fun hc3926 => ?_) (fun hc3926 => ?_)
    ·refine OW.pure 7 [(190, .bool ((i3543 : Int) != (w64 (((r615.1).length : Int) - 1))))] (by kernel_rfl) (OW.nil rfl ?_)
     refine QW.say 190 (v := .bool ((r3917.2 != 0) || ((((r3917.1).length : Int) == 0) && ((i3543 : Int) != (w64 (((r615.1).length : Int) - 1)))))) rfl (by first | (rw [hc3925, hc3926]; done) | (rw [hc3925, hc3926]; rfl) | simp [hc3925, hc3926]) ?_
     exact QW.meet (fun a ha => ⟨ha.agrees (by kernel_rfl), hst.keep [0, 1, 2] rfl⟩)
    refine OW.pure 7 [(190, .bool false)] (by kernel_rfl) (OW.nil rfl ?_)
    refine QW.say 190 (v := .bool ((r3917.2 != 0) || ((((r3917.1).length : Int) == 0) && ((i3543 : Int) != (w64 (((r615.1).length : Int) - 1)))))) rfl (by first | (rw [hc3925, hc3926]; done) | (rw [hc3925, hc3926]; rfl) | simp [hc3925, hc3926]) ?_
    exact QW.meet (fun a ha => ⟨ha.agrees (by kernel_rfl), hst.keep [0, 1, 2] rfl⟩)
   rintro a w1 ⟨ha, hst⟩
   refine CW.go ?_ ha
   rcases Bool.eq_false_or_eq_true (((r3917.2 != 0) || ((((r3917.1).length : Int) == 0) && ((i3543 : Int) != (w64 (((r615.1).length : Int) - 1)))))) with hc3927 | hc3927
   ·have hl3541 := ite_t hl3541 hc3927
    refine CW.cond_t rfl hc3927 (CW.seq (CW.region ?_))
    refine OW.pure 1 [(2, .bool false)] (by kernel_rfl) (OW.nil rfl (QW.next (CW.ret (QW.then_ret (QW.block_ret (QW.then_ret (QW.then_ret (QW.block_ret (QW.then_ret ?_)))))))))
    obtain rfl := Option.some.inj hl3541
    obtain rfl := Option.some.inj hF
    refine QW.ret1 rfl rfl ?_
    exact ⟨rfl, hst.keep [] rfl⟩
   have hl3541 := ite_f hl3541 hc3927
   refine CW.cond_f rfl hc3927 (CW.skip (QW.next (CW.seq (CW.region ?_))))
   refine OW.pure 6 [(17, .bool ((i3543 : Int) == (w64 (((r615.1).length : Int) - 1))))] (by kernel_rfl) (OW.nil rfl (QW.next (CW.seq (CW.seq (CW.region ?_)))))
   refine OW.pure 1 [(18, .int .i64 0)] (by kernel_rfl) (OW.nil rfl (QW.next ?_))
   obtain ⟨o4022, ho4023, hl3541⟩ := bind_some' hl3541
   refine CW.cutK (fun a w1 => Rep 219 [(1, .pointer (some ⟨b12, 0, none⟩)), (10, .slice a621 (r615.1).length c622), (12, .int .i64 (i3543 : Int)), (17, .bool o4022)] a ∧ St w (fp []) w1 [blkI b12 31 [.slice a2 (p0.M.Maps).length c3, .slice a5 (p0.M.Code).length c6, .int .u64 p0.E.A, .int .u64 p0.E.B, .slice a8 (p0.Res).length c9, .int .i64 p0.Odd], rowI (.slice a621 (r615.1).length c622) 80 enc_api_Act 7 r615.1]) ?_ ?_
   ·refine CW.block ?_
    refine CW.loop (fun n a w1 => ∃ (s4087 : Bool × Int), Rep 219 [(1, .pointer (some ⟨b12, 0, none⟩)), (10, .slice a621 (r615.1).length c622), (12, .int .i64 (i3543 : Int)), (15, .slice a3923 (r3917.1).length c3924), (17, .bool s4087.1), (18, .int .i64 s4087.2)] a ∧ St w (fp []) w1 [blkI b12 31 [.slice a2 (p0.M.Maps).length c3, .slice a5 (p0.M.Code).length c6, .int .u64 p0.E.A, .int .u64 p0.E.B, .slice a8 (p0.Res).length c9, .int .i64 p0.Odd], rowI (.slice a621 (r615.1).length c622) 80 enc_api_Act 7 r615.1, rowI (.slice a3923 (r3917.1).length c3924) 3 (encInt .i64) 1 r3917.1] ∧ loop (tappetlaw11_EngineEnds_l4 r615 i3543 r3917) n s4087 = some o4022) fu (fun a ha => ⟨(((i3543 : Int) == (w64 (((r615.1).length : Int) - 1))), 0), ha.agrees (by kernel_rfl), hst.keep [1, 2, 0] rfl, ho4023⟩) ?_
    rintro n4085 a w1 ⟨s4087, ha, hst, hl4086⟩
    rcases n4085 with _ | n4085
    ·exact (loop_zero hl4086).elim
    refine CW.go ?_ ha
    refine CW.seq (CW.seq ?_)
    refine CW.cutK (fun a w1 => Rep 219 [(1, .pointer (some ⟨b12, 0, none⟩)), (10, .slice a621 (r615.1).length c622), (12, .int .i64 (i3543 : Int)), (15, .slice a3923 (r3917.1).length c3924), (17, .bool s4087.1), (18, .int .i64 s4087.2), (203, .bool (decide (s4087.2 < ((r3917.1).length : Int)) && (!s4087.1)))] a ∧ St w (fp []) w1 [blkI b12 31 [.slice a2 (p0.M.Maps).length c3, .slice a5 (p0.M.Code).length c6, .int .u64 p0.E.A, .int .u64 p0.E.B, .slice a8 (p0.Res).length c9, .int .i64 p0.Odd], rowI (.slice a621 (r615.1).length c622) 80 enc_api_Act 7 r615.1, rowI (.slice a3923 (r3917.1).length c3924) 3 (encInt .i64) 1 r3917.1]) ?_ ?_
    ·refine CW.region ?_
     refine OW.pure 5 [(200, .bool (decide (s4087.2 < ((r3917.1).length : Int))))] (by kernel_rfl) ?_
     refine OW.split 200 rfl (fun hc4088 => ?_) (fun hc4088 => ?_)
     ·refine OW.pure 3 [(203, .bool (!s4087.1))] (by kernel_rfl) (OW.nil rfl ?_)
      refine QW.say 203 (v := .bool (decide (s4087.2 < ((r3917.1).length : Int)) && (!s4087.1))) rfl (by first | (rw [hc4088]; done) | (rw [hc4088]; rfl) | simp [hc4088]) ?_
      exact QW.meet (fun a ha => ⟨ha.agrees (by kernel_rfl), hst.keep [0, 1, 2] rfl⟩)
     refine OW.pure 3 [(203, .bool false)] (by kernel_rfl) (OW.nil rfl ?_)
     refine QW.say 203 (v := .bool (decide (s4087.2 < ((r3917.1).length : Int)) && (!s4087.1))) rfl (by first | (rw [hc4088]; done) | (rw [hc4088]; rfl) | simp [hc4088]) ?_
     exact QW.meet (fun a ha => ⟨ha.agrees (by kernel_rfl), hst.keep [0, 1, 2] rfl⟩)
    rintro a w1 ⟨ha, hst⟩
    refine CW.go ?_ ha
    rcases Bool.eq_false_or_eq_true ((decide (s4087.2 < ((r3917.1).length : Int)) && (!s4087.1))) with hc4089 | hc4089
    ·have hl4086 := ite_t hl4086 hc4089
     refine CW.cond_t rfl hc4089 (CW.skip (QW.next (CW.seq (CW.block ?_))))
     refine CW.still (by kernel_rfl) (by kernel_rfl) ?_
     intro w4104 hch4105
     have hst := hst.same hch4105
     refine OS.pure 2 [(206, .slice a3923 (r3917.1).length c3924), (207, .int .i64 s4087.2)] rfl (by kernel_rfl) ?_
     obtain ⟨x4106, hx4107, hl4086⟩ := bind_some' hl4086
     obtain ⟨g4109, o4110, c4111, hv4108⟩ := hst.rowv 2 rfl hx4107
     refine OS.idx 3 1 rfl rfl rfl rfl rfl hv4108 rfl (idx_some hx4107).1 (idx_some hx4107).2.1 (by kernel_rfl) (by kernel_rfl) ?_
     refine OS.ld rfl rfl rfl rfl rfl (by kernel_rfl) (hst.rowc 2 rfl (fun _ => rfl) hx4107 hv4108 0 _ rfl) ?_
     refine OS.pure 3 [(210, .slice a621 (r615.1).length c622), (212, .int .i64 (w64 ((i3543 : Int) + 1)))] rfl (by kernel_rfl) ?_
     obtain ⟨x4112, hx4113, hl4086⟩ := bind_some' hl4086
     obtain ⟨g4115, o4116, c4117, hv4114⟩ := hst.rowv 1 rfl hx4113
     refine OS.idx 80 7 rfl rfl rfl rfl rfl hv4114 rfl (idx_some hx4113).1 (idx_some hx4113).2.1 (by kernel_rfl) (by kernel_rfl) ?_
     refine OS.pure 1 [(214, .pointer (some ⟨g4115, o4116 + Int.toNat (w64 ((i3543 : Int) + 1)) * 7 + 1, none⟩))] rfl (by kernel_rfl) ?_
     refine OS.ld rfl rfl rfl rfl rfl (by kernel_rfl) (hst.rowc 1 rfl (fun _ => rfl) hx4113 hv4114 1 _ rfl) ?_
     refine OS.pure 2 [(17, .bool (x4106 == x4112.Pc))] rfl (by kernel_rfl) ?_
     refine OS.fin rfl (QW.block_normal (QW.next (CW.region ?_)))
     refine OW.pure 3 [(18, .int .i64 (w64 (s4087.2 + 1)))] (by kernel_rfl) (OW.nil rfl ?_)
     exact QW.meet (fun a ha => ⟨n4085, Nat.lt_succ_self _, ((x4106 == x4112.Pc), w64 (s4087.2 + 1)), ha.agrees (by kernel_rfl), hst.keep [0, 1, 2] rfl, hl4086⟩)
    have hl4086 := ite_f hl4086 hc4089
    refine CW.cond_f rfl hc4089 ?_
    refine CW.exit (QW.then_exit (QW.then_exit ?_))
    refine QW.block_here ?_
    obtain rfl := Option.some.inj hl4086
    exact QW.meet (fun a ha => ⟨ha.agrees (by kernel_rfl), hst.keep [0, 1] rfl⟩)
   rintro a w1 ⟨ha, hst⟩
   refine CW.go ?_ ha
   refine CW.seq (CW.region ?_)
   refine OW.pure 2 [(218, .bool (!o4022))] (by kernel_rfl) (OW.nil rfl (QW.next ?_))
   rcases Bool.eq_false_or_eq_true ((!o4022)) with hc4118 | hc4118
   ·have hl3541 := ite_t hl3541 hc4118
    refine CW.cond_t rfl hc4118 (CW.seq (CW.region ?_))
    refine OW.pure 1 [(2, .bool false)] (by kernel_rfl) (OW.nil rfl (QW.next (CW.ret (QW.block_ret (QW.then_ret (QW.then_ret (QW.block_ret (QW.then_ret ?_))))))))
    obtain rfl := Option.some.inj hl3541
    obtain rfl := Option.some.inj hF
    refine QW.ret1 rfl rfl ?_
    exact ⟨rfl, hst.keep [] rfl⟩
   have hl3541 := ite_f hl3541 hc4118
   refine CW.cond_f rfl hc4118 (CW.skip (QW.block_normal (QW.next (CW.region ?_))))
   refine OW.pure 3 [(12, .int .i64 (w64 ((i3543 : Int) + 1)))] (by kernel_rfl) (OW.nil rfl ?_)
   refine QW.say 12 rfl (congrArg (Value.int .i64) (w64_cnt hc3545 l620)) ?_
   exact QW.meet (fun a ha => ⟨n3540, Nat.lt_succ_self _, i3543 + 1, (), cnt_next hi3544, ha.agrees (by kernel_rfl), hst.keep [0, 1] rfl, hl3541⟩)
  rcases n3540 with _ | n3540
  ·refine CW.cond_f rfl hc3545 ?_
   refine CW.exit (QW.then_exit (QW.then_exit ?_))
   refine QW.block_here ?_
   obtain rfl := Option.some.inj hl3541
   exact QW.meet (fun a ha => ⟨(), rfl, ha.agrees (by kernel_rfl), hst.keep [] rfl⟩)
  exact (cnt1 hi3544 hc3545).elim
 rintro a w1 ⟨t2390, rfl, ha, hst⟩
 refine CW.go ?_ ha
 refine CW.seq (CW.region ?_)
 refine OW.pure 1 [(2, .bool true)] (by kernel_rfl) (OW.nil rfl (QW.next (CW.ret ?_)))
 obtain rfl := Option.some.inj hF
 refine QW.ret1 rfl rfl ?_
 exact ⟨rfl, hst.keep [] rfl⟩
end Go.Proofs.YtgmmfjpmahcocaaGreatDoor

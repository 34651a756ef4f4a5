/- Written by a program (wip/gen): the walks: each Go function returns what its plain function computes. -/
import Derived.Test.YtgmmfjpmahcocaaDoorProg
import Derived.Test.YtgmmfjpmahcocaaDoorF1
import Derived.Test.YtgmmfjpmahcocaaDoorOpen
import Derived.Test.YtgmmfjpmahcocaaDoorPart
import Derived.Test.YtgmmfjpmahcocaaDoorO1
import Derived.Test.YtgmmfjpmahcocaaDoorW1p3
namespace Go.Proofs.YtgmmfjpmahcocaaDoor
open Go.Sx
set_option linter.unusedVariables false
set_option maxRecDepth 10000
set_option maxHeartbeats 4000000

theorem engine_Machine_Answer_ok (w : World) (v0 : Value) (S0 : List Nat) (p0 : engine_Machine) (p1 : api_Res) (r : Int × engine_Machine) (hF : engine_Machine_Answer p0 p1 = some r)
    (hst : St w (fp [itI R_t33 [v0] S0 p0]) w [itI R_t33 [v0] S0 p0]) :
    Calls Tryd.prog 10 [v0, .agg [.int .i64 p1.E, .bool p1.Found, .int .u64 p1.Val, .bool p1.Out, .int .u64 p1.OutKey, .int .u64 p1.OutVal].toArray].toArray w (fun e w' => ∃ (s0 : List Nat), e = .returned (.int .i64 r.1) ∧ St w (fp [itI R_t33 [v0] S0 p0]) w' [itI R_t33 [v0] s0 r.2]) := by
 refine CW.start (N := 38) Tryd.func10 rfl rfl rfl ?_
 obtain ⟨b1, rfl⟩ := hst.fptr 0 rfl
 refine CW.seq (CW.region ?_)
 refine OW.box hst rfl rfl rfl rfl [.int .i64 p1.E, .bool p1.Found, .int .u64 p1.Val, .bool p1.Out, .int .u64 p1.OutKey, .int .u64 p1.OutVal] rfl ?_
 intro b4 w5 hst
 refine OW.pure 1 [] (by kernel_rfl) (OW.nil rfl (QW.next (CW.seq (CW.seq ?_))))
 obtain ⟨v6, S7, v8, S9, v10, S11, hst⟩ := hst.openQ3 0 rfl rfl rfl rfl
 have hst := hst.toRow1 2 rfl
 have hst := hst.toRow1 3 rfl
 obtain ⟨l12, a13, c14, rfl⟩ := hst.len 2 rfl
 obtain ⟨l15, a16, c17, rfl⟩ := hst.len 3 rfl
 obtain ⟨b18, rfl⟩ := hst.fptr 4 rfl
 have hst : St _ _ _ [blkI b1 87 [.int .u64 p0.Event.A, .int .u64 p0.Event.B, .slice a13 (p0.module.Maps).length c14, .slice a16 (p0.module.Code).length c17, .pointer (some ⟨b18, 0, none⟩), .int .u64 (p0.regs 0), .int .u64 (p0.regs 1), .int .u64 (p0.regs 2), .int .u64 (p0.regs 3), .int .u64 (p0.regs 4), .int .u64 (p0.regs 5), .int .u64 (p0.regs 6), .int .u64 (p0.regs 7), .int .i64 (p0.turns 0), .int .i64 (p0.turns 1), .int .i64 (p0.turns 2), .int .i64 (p0.turns 3), .int .i64 (p0.turns 4), .int .i64 (p0.turns 5), .int .i64 (p0.turns 6), .int .i64 (p0.turns 7), .int .i64 (p0.turns 8), .int .i64 (p0.turns 9), .int .i64 (p0.turns 10), .int .i64 (p0.turns 11), .int .i64 (p0.turns 12), .int .i64 (p0.turns 13), .int .i64 (p0.turns 14), .int .i64 (p0.turns 15), .int .i64 (p0.turns 16), .int .i64 (p0.turns 17), .int .i64 (p0.turns 18), .int .i64 (p0.turns 19), .int .i64 (p0.turns 20), .int .i64 (p0.turns 21), .int .i64 (p0.turns 22), .int .i64 (p0.turns 23), .int .i64 (p0.turns 24), .int .i64 (p0.turns 25), .int .i64 (p0.turns 26), .int .i64 (p0.turns 27), .int .i64 (p0.turns 28), .int .i64 (p0.turns 29), .int .i64 (p0.turns 30), .int .i64 (p0.turns 31), .int .i64 (p0.turns 32), .int .i64 (p0.turns 33), .int .i64 (p0.turns 34), .int .i64 (p0.turns 35), .int .i64 (p0.turns 36), .int .i64 (p0.turns 37), .int .i64 (p0.turns 38), .int .i64 (p0.turns 39), .int .i64 (p0.turns 40), .int .i64 (p0.turns 41), .int .i64 (p0.turns 42), .int .i64 (p0.turns 43), .int .i64 (p0.turns 44), .int .i64 (p0.turns 45), .int .i64 (p0.turns 46), .int .i64 (p0.turns 47), .int .i64 (p0.turns 48), .int .i64 (p0.turns 49), .int .i64 (p0.turns 50), .int .i64 (p0.turns 51), .int .i64 (p0.turns 52), .int .i64 (p0.turns 53), .int .i64 (p0.turns 54), .int .i64 (p0.turns 55), .int .i64 (p0.turns 56), .int .i64 (p0.turns 57), .int .i64 (p0.turns 58), .int .i64 (p0.turns 59), .int .i64 (p0.turns 60), .int .i64 (p0.turns 61), .int .i64 (p0.turns 62), .int .i64 (p0.turns 63), .int .i64 p0.at_, .int .i64 p0.steps, .int .i64 p0.state], _, _, _, _] := hst
 refine CW.region ?_
 refine OW.pure 3 [(7, .pointer (some ⟨b1, 79, none⟩))] (by kernel_rfl) ?_
 refine OW.ld rfl rfl rfl rfl (by kernel_rfl) (hst.blk 0 rfl rfl) ?_
 refine OW.pure 1 [(9, .bool (p0.state != 1))] (by kernel_rfl) (OW.nil rfl (QW.next ?_))
 rcases Bool.eq_false_or_eq_true ((p0.state != 1)) with hc19 | hc19
 ·have hF := ite_t hF hc19
  refine CW.cond_t rfl hc19 (CW.seq (CW.region ?_))
  refine OW.pure 1 [(4, .int .i64 2)] (by kernel_rfl) (OW.nil rfl (QW.next (CW.ret (QW.then_ret ?_))))
  have hst := hst.toIt 2 rfl (fun _ => rfl) (by decide)
  have hst := hst.toIt 3 rfl (fun _ => rfl) (by decide)
  obtain ⟨S20, hst⟩ := hst.shutP3 R_t87 rfl 0 2 3 4 [1] rfl rfl rfl rfl rfl p0 rfl rfl
  obtain rfl := Option.some.inj hF
  refine QW.ret1 rfl rfl ?_
  exact ⟨S20, rfl, hst.keep [1] rfl⟩
 have hF := ite_f hF hc19
 refine CW.cond_f rfl hc19 (CW.skip (QW.next (CW.seq ?_)))
 refine CW.plan (by kernel_rfl) ?_
 intro w34 hch35
 have hst := hst.same hch35
 refine OA.pure [0, 1, 2, 3, 4] [(10, .pointer (some ⟨b1, 0, none⟩)), (14, .pointer (some ⟨b1, 3, none⟩))] (by kernel_rfl) ?_
 refine OA.ld (i := 5) rfl (by kernel_rfl) rfl rfl rfl (by kernel_rfl) (hst.blk 0 rfl rfl) ?_
 refine OA.pure [6, 7, 8] [(18, .pointer (some ⟨b1, 77, none⟩))] (by kernel_rfl) ?_
 refine OA.ld (i := 9) rfl (by kernel_rfl) rfl rfl rfl (by kernel_rfl) (hst.blk 0 rfl rfl) ?_
 obtain ⟨x36, hx37, hF⟩ := bind_some' hF
 obtain ⟨g39, o40, c41, hv38⟩ := hst.rowv 3 rfl hx37
 refine OA.idx (i := 10) 82 5 rfl (by kernel_rfl) rfl rfl rfl hv38 rfl (idx_some hx37).1 (idx_some hx37).2.1 (by kernel_rfl) (by kernel_rfl) ?_
 refine OA.pure [11] [(21, .pointer (some ⟨g39, o40 + Int.toNat p0.at_ * 5 + 4, none⟩))] (by kernel_rfl) ?_
 refine OA.ld (i := 12) rfl (by kernel_rfl) rfl rfl rfl (by kernel_rfl) (hst.rowc 3 rfl (fun _ => rfl) hx37 hv38 4 _ rfl) ?_
 refine OA.ldN (i := 13) (cs := [.int .i64 p1.E, .bool p1.Found, .int .u64 p1.Val, .bool p1.Out, .int .u64 p1.OutKey, .int .u64 p1.OutVal]) rfl (by kernel_rfl) rfl rfl rfl (by kernel_rfl) (by kernel_rfl) (hst.blkN 1 rfl 0 6) ?_
 refine OA.pure [15, 16] [(26, .pointer (some ⟨b1, 5, none⟩))] (by kernel_rfl) ?_
 refine OA.act (i := 14) [] (by kernel_rfl) rfl rfl (by kernel_rfl) (by kernel_rfl) ?_
 obtain ⟨r42, hr43, hF⟩ := bind_some' hF
 refine OW.fn rfl rfl rfl rfl (by kernel_rfl) (sigs_Value_ok _ x36.Imm p1 r42 hr43 (hst.part [] rfl)) ?_
 rintro e w44 ⟨rfl, hst45⟩
 refine ⟨_, rfl, ?_⟩
 have hst := hst.join (idx := []) (rest := [0, 1, 2, 3, 4]) rfl hst45
 refine OA.next trivial ?_
 refine OA.val (i := 17) (v := .pointer (some ⟨b1, 5, none⟩)) rfl (by kernel_rfl) rfl rfl rfl rfl (fun a w ha => aidx_run (n := 8) (q := 0) 26 1 rfl rfl rfl (by decide) (by decide) (by kernel_rfl) (by kernel_rfl) a w ha) ?_
 refine OA.act (i := 18) [] (by kernel_rfl) rfl rfl (by kernel_rfl) (by kernel_rfl) ?_
 refine OW.stB hst 0 rfl rfl rfl rfl rfl (by kernel_rfl) rfl rfl [.int .u64 p0.Event.A, .int .u64 p0.Event.B, .slice a13 (p0.module.Maps).length c14, .slice a16 (p0.module.Code).length c17, .pointer (some ⟨b18, 0, none⟩), .int .u64 r42, .int .u64 (p0.regs 1), .int .u64 (p0.regs 2), .int .u64 (p0.regs 3), .int .u64 (p0.regs 4), .int .u64 (p0.regs 5), .int .u64 (p0.regs 6), .int .u64 (p0.regs 7), .int .i64 (p0.turns 0), .int .i64 (p0.turns 1), .int .i64 (p0.turns 2), .int .i64 (p0.turns 3), .int .i64 (p0.turns 4), .int .i64 (p0.turns 5), .int .i64 (p0.turns 6), .int .i64 (p0.turns 7), .int .i64 (p0.turns 8), .int .i64 (p0.turns 9), .int .i64 (p0.turns 10), .int .i64 (p0.turns 11), .int .i64 (p0.turns 12), .int .i64 (p0.turns 13), .int .i64 (p0.turns 14), .int .i64 (p0.turns 15), .int .i64 (p0.turns 16), .int .i64 (p0.turns 17), .int .i64 (p0.turns 18), .int .i64 (p0.turns 19), .int .i64 (p0.turns 20), .int .i64 (p0.turns 21), .int .i64 (p0.turns 22), .int .i64 (p0.turns 23), .int .i64 (p0.turns 24), .int .i64 (p0.turns 25), .int .i64 (p0.turns 26), .int .i64 (p0.turns 27), .int .i64 (p0.turns 28), .int .i64 (p0.turns 29), .int .i64 (p0.turns 30), .int .i64 (p0.turns 31), .int .i64 (p0.turns 32), .int .i64 (p0.turns 33), .int .i64 (p0.turns 34), .int .i64 (p0.turns 35), .int .i64 (p0.turns 36), .int .i64 (p0.turns 37), .int .i64 (p0.turns 38), .int .i64 (p0.turns 39), .int .i64 (p0.turns 40), .int .i64 (p0.turns 41), .int .i64 (p0.turns 42), .int .i64 (p0.turns 43), .int .i64 (p0.turns 44), .int .i64 (p0.turns 45), .int .i64 (p0.turns 46), .int .i64 (p0.turns 47), .int .i64 (p0.turns 48), .int .i64 (p0.turns 49), .int .i64 (p0.turns 50), .int .i64 (p0.turns 51), .int .i64 (p0.turns 52), .int .i64 (p0.turns 53), .int .i64 (p0.turns 54), .int .i64 (p0.turns 55), .int .i64 (p0.turns 56), .int .i64 (p0.turns 57), .int .i64 (p0.turns 58), .int .i64 (p0.turns 59), .int .i64 (p0.turns 60), .int .i64 (p0.turns 61), .int .i64 (p0.turns 62), .int .i64 (p0.turns 63), .int .i64 p0.at_, .int .i64 p0.steps, .int .i64 p0.state] rfl ?_
 intro w46 hst
 refine OA.next trivial ?_
 refine OA.fin (by kernel_rfl) (by kernel_rfl) (QW.next (CW.seq (CW.region ?_)))
 refine OW.pure 3 [(28, .pointer (some ⟨b1, 0, none⟩)), (30, .pointer (some ⟨b1, 77, none⟩))] (by kernel_rfl) ?_
 refine OW.ld rfl rfl rfl rfl (by kernel_rfl) (hst.blk 0 rfl rfl) ?_
 refine OW.pure 3 [(32, .int .i64 (w64 (p0.at_ + 1))), (34, .pointer (some ⟨b1, 77, none⟩))] (by kernel_rfl) ?_
 refine OW.stB hst 0 rfl rfl rfl rfl rfl (by kernel_rfl) rfl rfl [.int .u64 p0.Event.A, .int .u64 p0.Event.B, .slice a13 (p0.module.Maps).length c14, .slice a16 (p0.module.Code).length c17, .pointer (some ⟨b18, 0, none⟩), .int .u64 r42, .int .u64 (p0.regs 1), .int .u64 (p0.regs 2), .int .u64 (p0.regs 3), .int .u64 (p0.regs 4), .int .u64 (p0.regs 5), .int .u64 (p0.regs 6), .int .u64 (p0.regs 7), .int .i64 (p0.turns 0), .int .i64 (p0.turns 1), .int .i64 (p0.turns 2), .int .i64 (p0.turns 3), .int .i64 (p0.turns 4), .int .i64 (p0.turns 5), .int .i64 (p0.turns 6), .int .i64 (p0.turns 7), .int .i64 (p0.turns 8), .int .i64 (p0.turns 9), .int .i64 (p0.turns 10), .int .i64 (p0.turns 11), .int .i64 (p0.turns 12), .int .i64 (p0.turns 13), .int .i64 (p0.turns 14), .int .i64 (p0.turns 15), .int .i64 (p0.turns 16), .int .i64 (p0.turns 17), .int .i64 (p0.turns 18), .int .i64 (p0.turns 19), .int .i64 (p0.turns 20), .int .i64 (p0.turns 21), .int .i64 (p0.turns 22), .int .i64 (p0.turns 23), .int .i64 (p0.turns 24), .int .i64 (p0.turns 25), .int .i64 (p0.turns 26), .int .i64 (p0.turns 27), .int .i64 (p0.turns 28), .int .i64 (p0.turns 29), .int .i64 (p0.turns 30), .int .i64 (p0.turns 31), .int .i64 (p0.turns 32), .int .i64 (p0.turns 33), .int .i64 (p0.turns 34), .int .i64 (p0.turns 35), .int .i64 (p0.turns 36), .int .i64 (p0.turns 37), .int .i64 (p0.turns 38), .int .i64 (p0.turns 39), .int .i64 (p0.turns 40), .int .i64 (p0.turns 41), .int .i64 (p0.turns 42), .int .i64 (p0.turns 43), .int .i64 (p0.turns 44), .int .i64 (p0.turns 45), .int .i64 (p0.turns 46), .int .i64 (p0.turns 47), .int .i64 (p0.turns 48), .int .i64 (p0.turns 49), .int .i64 (p0.turns 50), .int .i64 (p0.turns 51), .int .i64 (p0.turns 52), .int .i64 (p0.turns 53), .int .i64 (p0.turns 54), .int .i64 (p0.turns 55), .int .i64 (p0.turns 56), .int .i64 (p0.turns 57), .int .i64 (p0.turns 58), .int .i64 (p0.turns 59), .int .i64 (p0.turns 60), .int .i64 (p0.turns 61), .int .i64 (p0.turns 62), .int .i64 (p0.turns 63), .int .i64 (w64 (p0.at_ + 1)), .int .i64 p0.steps, .int .i64 p0.state] rfl ?_
 intro w48 hst
 refine OW.nil rfl (QW.next (CW.seq (CW.region ?_)))
 refine OW.pure 3 [(37, .pointer (some ⟨b1, 79, none⟩))] (by kernel_rfl) ?_
 refine OW.stB hst 0 rfl rfl rfl rfl rfl (by kernel_rfl) rfl rfl [.int .u64 p0.Event.A, .int .u64 p0.Event.B, .slice a13 (p0.module.Maps).length c14, .slice a16 (p0.module.Code).length c17, .pointer (some ⟨b18, 0, none⟩), .int .u64 r42, .int .u64 (p0.regs 1), .int .u64 (p0.regs 2), .int .u64 (p0.regs 3), .int .u64 (p0.regs 4), .int .u64 (p0.regs 5), .int .u64 (p0.regs 6), .int .u64 (p0.regs 7), .int .i64 (p0.turns 0), .int .i64 (p0.turns 1), .int .i64 (p0.turns 2), .int .i64 (p0.turns 3), .int .i64 (p0.turns 4), .int .i64 (p0.turns 5), .int .i64 (p0.turns 6), .int .i64 (p0.turns 7), .int .i64 (p0.turns 8), .int .i64 (p0.turns 9), .int .i64 (p0.turns 10), .int .i64 (p0.turns 11), .int .i64 (p0.turns 12), .int .i64 (p0.turns 13), .int .i64 (p0.turns 14), .int .i64 (p0.turns 15), .int .i64 (p0.turns 16), .int .i64 (p0.turns 17), .int .i64 (p0.turns 18), .int .i64 (p0.turns 19), .int .i64 (p0.turns 20), .int .i64 (p0.turns 21), .int .i64 (p0.turns 22), .int .i64 (p0.turns 23), .int .i64 (p0.turns 24), .int .i64 (p0.turns 25), .int .i64 (p0.turns 26), .int .i64 (p0.turns 27), .int .i64 (p0.turns 28), .int .i64 (p0.turns 29), .int .i64 (p0.turns 30), .int .i64 (p0.turns 31), .int .i64 (p0.turns 32), .int .i64 (p0.turns 33), .int .i64 (p0.turns 34), .int .i64 (p0.turns 35), .int .i64 (p0.turns 36), .int .i64 (p0.turns 37), .int .i64 (p0.turns 38), .int .i64 (p0.turns 39), .int .i64 (p0.turns 40), .int .i64 (p0.turns 41), .int .i64 (p0.turns 42), .int .i64 (p0.turns 43), .int .i64 (p0.turns 44), .int .i64 (p0.turns 45), .int .i64 (p0.turns 46), .int .i64 (p0.turns 47), .int .i64 (p0.turns 48), .int .i64 (p0.turns 49), .int .i64 (p0.turns 50), .int .i64 (p0.turns 51), .int .i64 (p0.turns 52), .int .i64 (p0.turns 53), .int .i64 (p0.turns 54), .int .i64 (p0.turns 55), .int .i64 (p0.turns 56), .int .i64 (p0.turns 57), .int .i64 (p0.turns 58), .int .i64 (p0.turns 59), .int .i64 (p0.turns 60), .int .i64 (p0.turns 61), .int .i64 (p0.turns 62), .int .i64 (p0.turns 63), .int .i64 (w64 (p0.at_ + 1)), .int .i64 p0.steps, .int .i64 0] rfl ?_
 intro w50 hst
 refine OW.nil rfl (QW.next (CW.seq (CW.region ?_)))
 refine OW.pure 1 [(4, .int .i64 0)] (by kernel_rfl) (OW.nil rfl (QW.next (CW.ret ?_)))
 have hst := hst.toIt 2 rfl (fun _ => rfl) (by decide)
 have hst := hst.toIt 3 rfl (fun _ => rfl) (by decide)
 obtain ⟨S51, hst⟩ := hst.shutP3 R_t87 rfl 0 2 3 4 [1] rfl rfl rfl rfl rfl (engine_Machine.mk p0.Event p0.module p0.scratch (aset p0.regs 0 r42) p0.turns (w64 (p0.at_ + 1)) p0.steps 0) rfl rfl
 obtain rfl := Option.some.inj hF
 refine QW.ret1 rfl rfl ?_
 exact ⟨S51, rfl, hst.keep [1] rfl⟩

theorem engine_Trace_ok (w : World) (fu : Nat) (v0_0 : Value) (v0_1 : Value) (p0 : api_Module) (p1 : api_Event) (v2 : Value) (p2 : List api_Res) (r : (List api_Act) × Int) (hF : engine_Trace fu p0 p1 p2 = some r)
    (hst : St w (fp []) w []) (h0_0 : Rd w (fp []) v0_0 (encInt .i64) 1 p0.Maps) (h0_1 : Rd w (fp []) v0_1 enc_api_Inst 5 p0.Code) (h2 : Rd w (fp []) v2 enc_api_Res 6 p2) (hT0 : Rd w (fp []) (.slice (some ⟨0, 0, none⟩) 7 7) enc_sigs_sig 5 tab_g0) (hT1 : Rd w (fp []) (.slice (some ⟨1, 0, none⟩) 23 23) enc_ops_form 2 tab_g1) :
    Calls Tryd.prog 11 [.agg [v0_0, v0_1].toArray, .agg [.int .u64 p1.A, .int .u64 p1.B].toArray, v2].toArray w (fun e w' => ∃ (x0 : Value), e = .returned (.tuple #[x0, .int .i64 r.2]) ∧ St w (fp []) w' [rowI x0 46 enc_api_Act 7 r.1]) := by
 refine CW.start (N := 52) Tryd.func11 rfl rfl rfl ?_
 obtain ⟨l1, a2, c3, rfl⟩ := h0_0.len
 obtain ⟨l4, a5, c6, rfl⟩ := h0_1.len
 obtain ⟨l7, a8, c9, rfl⟩ := h2.len
 refine CW.seq (CW.region ?_)
 refine OW.box hst rfl rfl rfl rfl [.slice a2 (p0.Maps).length c3, .slice a5 (p0.Code).length c6] rfl ?_
 intro b14 w15 hst
 refine OW.box hst rfl rfl rfl rfl [.int .u64 p1.A, .int .u64 p1.B] rfl ?_
 intro b16 w17 hst
 refine OW.pure 2 [] (by kernel_rfl) (OW.nil rfl (QW.next (CW.seq ?_)))
 refine CW.plan (by kernel_rfl) ?_
 intro w37 hch38
 have hst := hst.same hch38
 refine OA.ldN (i := 0) (cs := [.slice a2 (p0.Maps).length c3, .slice a5 (p0.Code).length c6]) rfl (by kernel_rfl) rfl rfl rfl (by kernel_rfl) (by kernel_rfl) (hst.blkN 0 rfl 0 2) ?_
 refine OA.ldN (i := 1) (cs := [.int .u64 p1.A, .int .u64 p1.B]) rfl (by kernel_rfl) rfl rfl rfl (by kernel_rfl) (by kernel_rfl) (hst.blkN 1 rfl 0 2) ?_
 refine OA.act (i := 2) [1, 0] (by kernel_rfl) rfl rfl (by kernel_rfl) (by kernel_rfl) ?_
 obtain ⟨r39, hr40, hF⟩ := bind_some' hF
 refine OW.fn rfl rfl rfl rfl (by kernel_rfl) (scratch_New_ok _ r39 hr40 (hst.part [] rfl)) ?_
 rintro e w41 ⟨v43, S44, rfl, hst42⟩
 refine ⟨_, rfl, ?_⟩
 have hst := hst.join (idx := []) (rest := [0, 1]) rfl hst42
 obtain ⟨b45, rfl⟩ := hst.fptr 0 rfl
 refine OA.next ⟨(hst.blkN 2 rfl 0 2), (hst.blkN 1 rfl 0 2), trivial⟩ ?_
 refine OA.act (i := 3) [] (by kernel_rfl) rfl rfl (by kernel_rfl) (by kernel_rfl) ?_
 obtain ⟨r46, hr47, hF⟩ := bind_some' hF
 refine OW.fn rfl rfl rfl rfl (by kernel_rfl) (engine_New_ok _ fu (.slice a2 (p0.Maps).length c3) (.slice a5 (p0.Code).length c6) p0 p1 (.pointer (some ⟨b45, 0, none⟩)) S44 r39 r46 hr47 (hst.part [0] rfl) (h0_0.give hst [0]) (h0_1.give hst [0]) (hT0.give hst [0]) (hT1.give hst [0])) ?_
 rintro e w48 (⟨k50, v52, S53, he51, rfl, hst49⟩ | ⟨he54, rfl, hst49⟩)
 ·have hF := ocase_some hF he51
  refine ⟨_, rfl, ?_⟩
  have hst := hst.join (idx := [0]) (rest := [1, 2]) rfl hst49
  obtain ⟨b55, rfl⟩ := hst.fptr 0 rfl
  refine OA.next trivial ?_
  refine OA.pure [4, 5, 6] [(17, .pointer (some ⟨b55, 0, none⟩)), (18, .int .i64 r46.2)] (by kernel_rfl) ?_
  refine OA.act (i := 7) [] (by kernel_rfl) rfl rfl (by kernel_rfl) (by kernel_rfl) ?_
  refine OW.pure 1 [(8, .pointer (some ⟨b55, 0, none⟩))] (by kernel_rfl) (OA.next trivial ?_)
  refine OA.act (i := 8) [] (by kernel_rfl) rfl rfl (by kernel_rfl) (by kernel_rfl) ?_
  refine OW.pure 1 [(9, .int .i64 r46.2)] (by kernel_rfl) (OA.next trivial ?_)
  refine OA.fin (by kernel_rfl) (by kernel_rfl) (QW.next (CW.seq (CW.seq (CW.region ?_))))
  refine OW.pure 2 [(20, .bool (r46.2 != 0))] (by kernel_rfl) (OW.nil rfl (QW.next ?_))
  rcases Bool.eq_false_or_eq_true ((r46.2 != 0)) with hc56 | hc56
  ·have hF := ite_t hF hc56
   refine CW.cond_t rfl hc56 (CW.seq (CW.region ?_))
   refine OW.pure 3 [(6, .slice none 0 0), (7, .int .i64 r46.2)] (by kernel_rfl) (OW.nil rfl (QW.next (CW.ret (QW.then_ret ?_))))
   have hst := hst.nilRow api_Act 46 enc_api_Act 7
   obtain rfl := Option.some.inj hF
   refine QW.ret2 rfl rfl rfl ?_
   exact ⟨(.slice none 0 0), rfl, hst.keep [3] rfl⟩
  have hF := ite_f hF hc56
  refine CW.cond_f rfl hc56 (CW.skip (QW.next (CW.seq (CW.region ?_))))
  refine OW.pure 1 [(10, .slice none 0 0)] (by kernel_rfl) (OW.nil rfl (QW.next (CW.block ?_)))
  have hst := hst.nilRow api_Act 46 enc_api_Act 7
  refine CW.loop (fun n a w1 => ∃ (s214 : (List api_Res) × engine_Machine × (List api_Act)) (v215 : Value) (S217 : List Nat) (v218 : Value), Rep 52 [(2, v215), (8, .pointer (some ⟨b55, 0, none⟩)), (10, v218)] a ∧ St w (fp []) w1 [itI R_t33 [.pointer (some ⟨b55, 0, none⟩)] S217 s214.2.1, rowI v218 46 enc_api_Act 7 s214.2.2] ∧ Rd w (fp []) v215 enc_api_Res 6 s214.1 ∧ loop (engine_Trace_l1 fu) n s214 = some r) fu (fun a ha => ⟨(p2, k50, ([] : List api_Act)), (.slice a8 (p2).length c9), S53, (.slice none 0 0), ha.agrees (by kernel_rfl), hst.keep [0, 3] rfl, h2, hF⟩) ?_
  rintro n212 a w1 ⟨s214, v215, S217, v218, ha, hst, hrd216, hl213⟩
  rcases n212 with _ | n212
  ·exact (loop_zero hl213).elim
  refine CW.go ?_ ha
  obtain ⟨l219, a220, c221, rfl⟩ := hrd216.len
  obtain ⟨l222, a223, c224, rfl⟩ := hst.len 1 rfl
  refine CW.block (CW.seq (CW.region ?_))
  refine OW.pure 1 [(22, .pointer (some ⟨b55, 0, none⟩))] (by kernel_rfl) ?_
  obtain ⟨r233, hr234, hl213⟩ := bind_some' hl213
  refine OW.fn rfl rfl rfl rfl (by kernel_rfl) (engine_Machine_Step_ok _ fu (.pointer (some ⟨b55, 0, none⟩)) S217 s214.2.1 r233 hr234 (hst.part [0] rfl) (hT0.give hst [0])) ?_
  rintro e w235 ⟨S237, rfl, hst236⟩
  refine ⟨_, rfl, ?_⟩
  have hst := hst.join (idx := [0]) (rest := [1]) rfl hst236
  refine OW.alloc hst rfl rfl rfl [.int .i64 0, .int .i64 0, .int .i64 0, .int .i64 0, .int .u64 0, .int .u64 0, .int .u64 0] (by kernel_rfl) ?_
  intro b238 w239 hst
  refine OW.stB hst 2 rfl rfl rfl rfl rfl (by kernel_rfl) rfl rfl [.int .i64 r233.1.Kind, .int .i64 r233.1.Pc, .int .i64 r233.1.Item.Map, .int .i64 r233.1.Item.Op, .int .u64 r233.1.Item.Key, .int .u64 r233.1.Item.Val, .int .u64 r233.1.Val] rfl ?_
  intro w240 hst
  refine OW.nil rfl (QW.next (CW.seq (CW.region ?_)))
  refine OW.pure 1 [(24, .slice a223 (s214.2.2).length c224)] (by kernel_rfl) ?_
  refine OW.ldN (cs := [.int .i64 r233.1.Kind, .int .i64 r233.1.Pc, .int .i64 r233.1.Item.Map, .int .i64 r233.1.Item.Op, .int .u64 r233.1.Item.Key, .int .u64 r233.1.Item.Val, .int .u64 r233.1.Val]) rfl rfl rfl rfl (by kernel_rfl) (by kernel_rfl) (hst.blkN 2 rfl 0 7) ?_
  refine OW.row (α := api_Act) (e := 46) (enc := enc_api_Act) (sz := 7) hst rfl rfl rfl [r233.1] rfl (fun _ => rfl) rfl rfl (fun _ => by kernel_rfl) ?_
  intro g250 w251 hst
  obtain ⟨u252, hr253, hl213⟩ := bind_some' hl213
  refine OW.app hst 1 rfl (fun _ => rfl) (fun _ => rfl) rfl rfl rfl rfl rfl rfl (by kernel_rfl) el46 (hst.rd 3 rfl (fun _ => rfl) [] rfl (hst.len 3 rfl).1) (room_le hr253) ?_
  intro v254 w255 hst
  obtain ⟨l256, a257, c258, rfl⟩ := hst.len 1 rfl
  refine OW.pure 1 [(10, .slice a257 ((s214.2.2 ++ [r233.1])).length c258)] (by kernel_rfl) (OW.nil rfl (QW.next (CW.block (CW.seq (CW.seq (CW.region ?_))))))
  refine OW.pure 1 [(29, .pointer (some ⟨b238, 0, none⟩))] (by kernel_rfl) ?_
  refine OW.ld rfl rfl rfl rfl (by kernel_rfl) (hst.blk 2 rfl rfl) ?_
  refine OW.pure 2 [(28, .bool (r233.1.Kind == 4))] (by kernel_rfl) (OW.nil rfl (QW.next ?_))
  obtain ⟨o261, ho262, hl213⟩ := bind_some' hl213
  refine CW.cutK (fun a w1 => Rep 52 [(2, .slice a220 (s214.1).length c221), (8, .pointer (some ⟨b55, 0, none⟩)), (10, .slice a257 ((s214.2.2 ++ [r233.1])).length c258), (11, .pointer (some ⟨b238, 0, none⟩)), (28, .bool o261)] a ∧ St w (fp []) w1 [itI R_t33 [.pointer (some ⟨b55, 0, none⟩)] S237 r233.2, rowI (.slice a257 ((s214.2.2 ++ [r233.1])).length c258) 46 enc_api_Act 7 (s214.2.2 ++ [r233.1]), blkI b238 46 [.int .i64 r233.1.Kind, .int .i64 r233.1.Pc, .int .i64 r233.1.Item.Map, .int .i64 r233.1.Item.Op, .int .u64 r233.1.Item.Key, .int .u64 r233.1.Item.Val, .int .u64 r233.1.Val]]) ?_ ?_
  ·rcases Bool.eq_false_or_eq_true ((r233.1.Kind == 4)) with hc263 | hc263
   ·have ho262 := ite_t ho262 hc263
    refine CW.cond_t rfl hc263 (CW.skip ?_)
    obtain rfl := Option.some.inj ho262
    exact QW.meet (fun a ha => ⟨ha.agrees (by kernel_rfl), hst.keep [0, 1, 2] rfl⟩)
   have ho262 := ite_f ho262 hc263
   refine CW.cond_f rfl hc263 (CW.region ?_)
   refine OW.pure 1 [(32, .pointer (some ⟨b238, 0, none⟩))] (by kernel_rfl) ?_
   refine OW.ld rfl rfl rfl rfl (by kernel_rfl) (hst.blk 2 rfl rfl) ?_
   refine OW.pure 2 [(35, .bool (r233.1.Kind == 2))] (by kernel_rfl) ?_
   refine OW.split 35 rfl (fun hc264 => ?_) (fun hc264 => ?_)
   ·have ho262 := ite_t ho262 hc264
    refine OW.pure 5 [(28, .bool (((s214.1).length : Int) == 0))] (by kernel_rfl) (OW.nil rfl ?_)
    obtain rfl := Option.some.inj ho262
    exact QW.meet (fun a ha => ⟨ha.agrees (by kernel_rfl), hst.keep [0, 1, 2] rfl⟩)
   have ho262 := ite_f ho262 hc264
   refine OW.pure 5 [(28, .bool false)] (by kernel_rfl) (OW.nil rfl ?_)
   obtain rfl := Option.some.inj ho262
   exact QW.meet (fun a ha => ⟨ha.agrees (by kernel_rfl), hst.keep [0, 1, 2] rfl⟩)
  rintro a w1 ⟨ha, hst⟩
  refine CW.go ?_ ha
  rcases Bool.eq_false_or_eq_true (o261) with hc265 | hc265
  ·have hl213 := ite_t hl213 hc265
   refine CW.cond_t rfl hc265 (CW.seq (CW.region ?_))
   refine OW.pure 3 [(6, .slice a257 ((s214.2.2 ++ [r233.1])).length c258), (7, .int .i64 0)] (by kernel_rfl) (OW.nil rfl (QW.next (CW.ret (QW.block_ret (QW.block_ret (QW.then_ret (QW.block_ret ?_)))))))
   obtain rfl := Option.some.inj hl213
   refine QW.ret2 rfl rfl rfl ?_
   exact ⟨(.slice a257 ((s214.2.2 ++ [r233.1])).length c258), rfl, hst.keep [1] rfl⟩
  have hl213 := ite_f hl213 hc265
  refine CW.cond_f rfl hc265 (CW.seq (CW.region ?_))
  refine OW.pure 1 [(42, .pointer (some ⟨b238, 0, none⟩))] (by kernel_rfl) ?_
  refine OW.ld rfl rfl rfl rfl (by kernel_rfl) (hst.blk 2 rfl rfl) ?_
  refine OW.pure 2 [(41, .bool (r233.1.Kind == 2))] (by kernel_rfl) (OW.nil rfl (QW.next ?_))
  rcases Bool.eq_false_or_eq_true ((r233.1.Kind == 2)) with hc266 | hc266
  ·have hl213 := ite_t hl213 hc266
   refine CW.cond_t rfl hc266 (CW.seq (CW.region ?_))
   refine OW.pure 2 [(45, .pointer (some ⟨b55, 0, none⟩)), (46, .slice a220 (s214.1).length c221)] (by kernel_rfl) ?_
   obtain ⟨x278, hx279, hl213⟩ := bind_some' hl213
   obtain ⟨g281, o282, c283, hv280⟩ := hrd216.formv (fun _ => ⟨_, rfl⟩) hx279
   refine OW.idx 50 6 rfl rfl rfl rfl hv280 rfl (idx_some hx279).1 (idx_some hx279).2.1 (by kernel_rfl) (by kernel_rfl) ?_
   refine OW.ldN (cs := enc_api_Res x278) rfl rfl rfl rfl (by kernel_rfl) (by kernel_rfl) (hrd216.cellv hst hx279 hv280) ?_
   obtain ⟨r284, hr285, hl213⟩ := bind_some' hl213
   refine OW.fn rfl rfl rfl rfl (by kernel_rfl) (engine_Machine_Answer_ok _ (.pointer (some ⟨b55, 0, none⟩)) S237 r233.2 x278 r284 hr285 (hst.part [0] rfl)) ?_
   rintro e w286 ⟨S288, rfl, hst287⟩
   refine ⟨_, rfl, ?_⟩
   have hst := hst.join (idx := [0]) (rest := [1, 2]) rfl hst287
   refine OW.nil rfl (QW.next (CW.region ?_))
   refine OW.pure 1 [(50, .slice a220 (s214.1).length c221)] (by kernel_rfl) ?_
   obtain ⟨ys292, hcut293, hl213⟩ := bind_some' hl213
   refine OW.op (v := .slice (shd a220 c221 (Int.toNat 1) 6) (ys292).length (c221 - Int.toNat 1)) rfl rfl rfl rfl (fun a ha => suf_run (e := 50) 6 rfl rfl rfl rfl hcut293 (by kernel_rfl) (by kernel_rfl) a _ ha) ?_
   have hp294 := hrd216.part hcut293
   refine OW.pure 1 [(2, .slice (shd a220 c221 (Int.toNat 1) 6) (ys292).length (c221 - Int.toNat 1))] (by kernel_rfl) (OW.nil rfl (QW.block_normal (QW.block_normal ?_)))
   exact QW.meet (fun a ha => ⟨n212, Nat.lt_succ_self _, (ys292, r284.2, (s214.2.2 ++ [r233.1])), (.slice (shd a220 c221 (Int.toNat 1) 6) (ys292).length (c221 - Int.toNat 1)), S288, (.slice a257 ((s214.2.2 ++ [r233.1])).length c258), ha.agrees (by kernel_rfl), hst.keep [0, 1] rfl, hp294, hl213⟩)
  have hl213 := ite_f hl213 hc266
  refine CW.cond_f rfl hc266 (CW.skip (QW.block_normal (QW.block_normal ?_)))
  exact QW.meet (fun a ha => ⟨n212, Nat.lt_succ_self _, (s214.1, r233.2, (s214.2.2 ++ [r233.1])), (.slice a220 (s214.1).length c221), S237, (.slice a257 ((s214.2.2 ++ [r233.1])).length c258), ha.agrees (by kernel_rfl), hst.keep [0, 1] rfl, hrd216, hl213⟩)
 have hF := ocase_none hF he54
 refine ⟨_, rfl, ?_⟩
 have hst := hst.join (idx := [0]) (rest := [1, 2]) rfl hst49
 refine OA.next trivial ?_
 refine OA.pure [4, 5, 6] [(17, .pointer none), (18, .int .i64 r46.2)] (by kernel_rfl) ?_
 refine OA.act (i := 7) [] (by kernel_rfl) rfl rfl (by kernel_rfl) (by kernel_rfl) ?_
 refine OW.pure 1 [(8, .pointer none)] (by kernel_rfl) (OA.next trivial ?_)
 refine OA.act (i := 8) [] (by kernel_rfl) rfl rfl (by kernel_rfl) (by kernel_rfl) ?_
 refine OW.pure 1 [(9, .int .i64 r46.2)] (by kernel_rfl) (OA.next trivial ?_)
 refine OA.fin (by kernel_rfl) (by kernel_rfl) (QW.next (CW.seq (CW.seq (CW.region ?_))))
 refine OW.pure 2 [(20, .bool (r46.2 != 0))] (by kernel_rfl) (OW.nil rfl (QW.next ?_))
 rcases Bool.eq_false_or_eq_true ((r46.2 != 0)) with hc303 | hc303
 ·have hF := ite_t hF hc303
  refine CW.cond_t rfl hc303 (CW.seq (CW.region ?_))
  refine OW.pure 3 [(6, .slice none 0 0), (7, .int .i64 r46.2)] (by kernel_rfl) (OW.nil rfl (QW.next (CW.ret (QW.then_ret ?_))))
  have hst := hst.nilRow api_Act 46 enc_api_Act 7
  obtain rfl := Option.some.inj hF
  refine QW.ret2 rfl rfl rfl ?_
  exact ⟨(.slice none 0 0), rfl, hst.keep [2] rfl⟩
 have hF := ite_f hF hc303
 refine CW.cond_f rfl hc303 (CW.skip (QW.next (CW.seq (CW.region ?_))))
 refine OW.pure 1 [(10, .slice none 0 0)] (by kernel_rfl) (OW.nil rfl (QW.next (CW.block ?_)))
 refine CW.loop (fun n a w1 => ∃ (s307 : Unit), Rep 52 [(2, .slice a8 (p2).length c9), (8, .pointer none), (10, .slice none 0 0)] a ∧ St w (fp []) w1 [] ∧ loop engine_Trace_l2 n s307 = some r) fu (fun a ha => ⟨(), ha.agrees (by kernel_rfl), hst.keep [] rfl, hF⟩) ?_
 rintro n305 a w1 ⟨s307, ha, hst, hl306⟩
 rcases n305 with _ | n305
 ·exact (loop_zero hl306).elim
 refine CW.go ?_ ha
 refine CW.block (CW.seq (CW.region ?_))
 refine OW.pure 1 [(22, .pointer none)] (by kernel_rfl) ?_
 cases hl306

theorem tappetlaw11_awake_ok (w : World) (fu : Nat)  (r : Bool) (hF : tappetlaw11_awake fu = some r)
    (hst : St w (fp []) w []) (hT0 : Rd w (fp []) (.slice (some ⟨0, 0, none⟩) 7 7) enc_sigs_sig 5 tab_g0) (hT1 : Rd w (fp []) (.slice (some ⟨1, 0, none⟩) 23 23) enc_ops_form 2 tab_g1) :
    Calls Tryd.prog 5 [].toArray w (fun e w' => e = .returned (.bool r) ∧ St w (fp []) w' []) := by
 refine CW.start (N := 33) Tryd.func5 rfl rfl rfl (CW.seq (CW.region ?_))
 refine OW.pure 1 [] (by kernel_rfl) (OW.nil rfl (QW.next (CW.seq (CW.region ?_))))
 obtain ⟨r41, hr42, hF⟩ := bind_some' hF
 refine OW.fn rfl rfl rfl rfl (by kernel_rfl) (tappetlaw11_asks_ok _ r41 hr42 (hst.part [] rfl)) ?_
 rintro e w43 ⟨v45, v46, rfl, hst44⟩
 refine ⟨_, rfl, ?_⟩
 have hst := hst.join (idx := []) (rest := []) rfl hst44
 obtain ⟨l65, a66, c67, rfl⟩ := hst.len 0 rfl
 obtain ⟨l68, a69, c70, rfl⟩ := hst.len 1 rfl
 refine OW.pure 2 [(5, .agg [.int .u64 20, .int .u64 3].toArray), (6, .agg [.int .i64 0, .bool true, .int .u64 9, .bool false, .int .u64 0, .int .u64 0].toArray)] (by kernel_rfl) ?_
 refine OW.row (α := api_Res) (e := 50) (enc := enc_api_Res) (sz := 6) hst rfl rfl rfl [(api_Res.mk 0 true 9 false 0 0)] rfl (fun _ => rfl) rfl rfl (fun _ => by kernel_rfl) ?_
 intro g71 w72 hst
 obtain ⟨r73, hr74, hF⟩ := bind_some' hF
 refine OW.fn rfl rfl rfl rfl (by kernel_rfl) (engine_Trace_ok _ fu (.slice a66 (r41.Maps).length c67) (.slice a69 (r41.Code).length c70) r41 (api_Event.mk 20 3) (.slice (some ⟨g71, 0, none⟩) 1 1) ([(api_Res.mk 0 true 9 false 0 0)]) r73 hr74 (hst.part [] rfl) (hst.rd 0 rfl (fun _ => rfl) [] rfl (hst.len 0 rfl).1) (hst.rd 1 rfl (fun _ => rfl) [] rfl (hst.len 1 rfl).1) (hst.rd 2 rfl (fun _ => rfl) [] rfl (hst.len 2 rfl).1) (hT0.give hst []) (hT1.give hst [])) ?_
 rintro e w75 ⟨v77, rfl, hst76⟩
 refine ⟨_, rfl, ?_⟩
 have hst := hst.join (idx := []) (rest := [0, 1, 2]) rfl hst76
 obtain ⟨l78, a79, c80, rfl⟩ := hst.len 0 rfl
 refine OW.pure 5 [(1, .slice a79 (r73.1).length c80), (2, .int .i64 r73.2)] (by kernel_rfl) (OW.nil rfl (QW.next (CW.seq ?_)))
 obtain ⟨o96, ho97, hF⟩ := bind_some' hF
 refine CW.cutK (fun a w1 => Rep 33 [(0, .bool o96)] a ∧ St w (fp []) w1 []) ?_ ?_
 ·refine CW.region ?_
  refine OW.pure 3 [(13, .bool (r73.2 == 0))] (by kernel_rfl) ?_
  refine OW.split 13 rfl (fun hc98 => ?_) (fun hc98 => ?_)
  ·have ho97 := ite_t ho97 hc98
   refine OW.pure 5 [(18, .bool (((r73.1).length : Int) == 4))] (by kernel_rfl) ?_
   refine OW.split 18 rfl (fun hc99 => ?_) (fun hc99 => ?_)
   ·have ho97 := ite_t ho97 hc99
    refine OW.pure 1 [(19, .slice a79 (r73.1).length c80)] (by kernel_rfl) ?_
    obtain ⟨x100, hx101, ho97⟩ := bind_some' ho97
    obtain ⟨g103, o104, c105, hv102⟩ := hst.rowv 0 rfl hx101
    refine OW.idx 46 7 rfl rfl rfl rfl hv102 rfl (idx_some hx101).1 (idx_some hx101).2.1 (by kernel_rfl) (by kernel_rfl) ?_
    refine OW.ldN (cs := enc_api_Act x100) rfl rfl rfl rfl (by kernel_rfl) (by kernel_rfl) (hst.rowc 0 rfl (fun _ => rfl) hx101 hv102) ?_
    refine OW.pure 2 [(23, .agg [.int .i64 2, .int .i64 2, .int .i64 2, .int .i64 0, .int .u64 20, .int .u64 0, .int .u64 0].toArray)] (by kernel_rfl) ?_
    refine OW.op (v := .bool ((x100.Kind == 2) && ((x100.Pc == 2) && (((x100.Item.Map == 2) && ((x100.Item.Op == 0) && ((x100.Item.Key == 20) && ((x100.Item.Val == 0) && true)))) && ((x100.Val == 0) && true))))) rfl rfl rfl rfl (fun a ha => seq_run rfl rfl rfl (by kernel_rfl) (by kernel_rfl) a _ ha) ?_
    refine OW.pure 2 [(26, .bool ((x100.Kind == 2) && ((x100.Pc == 2) && (((x100.Item.Map == 2) && ((x100.Item.Op == 0) && ((x100.Item.Key == 20) && ((x100.Item.Val == 0) && true)))) && ((x100.Val == 0) && true)))))] (by kernel_rfl) ?_
    refine OW.split 26 rfl (fun hc106 => ?_) (fun hc106 => ?_)
    ·have ho97 := ite_t ho97 hc106
     refine OW.pure 1 [(27, .slice a79 (r73.1).length c80)] (by kernel_rfl) ?_
     obtain ⟨x107, hx108, ho97⟩ := bind_some' ho97
     obtain ⟨g110, o111, c112, hv109⟩ := hst.rowv 0 rfl hx108
     refine OW.idx 46 7 rfl rfl rfl rfl hv109 rfl (idx_some hx108).1 (idx_some hx108).2.1 (by kernel_rfl) (by kernel_rfl) ?_
     refine OW.ldN (cs := enc_api_Act x107) rfl rfl rfl rfl (by kernel_rfl) (by kernel_rfl) (hst.rowc 0 rfl (fun _ => rfl) hx108 hv109) ?_
     refine OW.pure 1 [(30, .agg [.int .i64 4, .int .i64 3, .int .i64 0, .int .i64 0, .int .u64 0, .int .u64 0, .int .u64 9].toArray)] (by kernel_rfl) ?_
     refine OW.op (v := .bool ((x107.Kind == 4) && ((x107.Pc == 3) && (((x107.Item.Map == 0) && ((x107.Item.Op == 0) && ((x107.Item.Key == 0) && ((x107.Item.Val == 0) && true)))) && ((x107.Val == 9) && true))))) rfl rfl rfl rfl (fun a ha => seq_run rfl rfl rfl (by kernel_rfl) (by kernel_rfl) a _ ha) ?_
     refine OW.pure 2 [(0, .bool ((x107.Kind == 4) && ((x107.Pc == 3) && (((x107.Item.Map == 0) && ((x107.Item.Op == 0) && ((x107.Item.Key == 0) && ((x107.Item.Val == 0) && true)))) && ((x107.Val == 9) && true)))))] (by kernel_rfl) (OW.nil rfl ?_)
     obtain rfl := Option.some.inj ho97
     exact QW.meet (fun a ha => ⟨ha.agrees (by kernel_rfl), hst.keep [] rfl⟩)
    have ho97 := ite_f ho97 hc106
    refine OW.pure 7 [(0, .bool false)] (by kernel_rfl) (OW.nil rfl ?_)
    obtain rfl := Option.some.inj ho97
    exact QW.meet (fun a ha => ⟨ha.agrees (by kernel_rfl), hst.keep [] rfl⟩)
   have ho97 := ite_f ho97 hc99
   refine OW.pure 15 [(0, .bool false)] (by kernel_rfl) (OW.nil rfl ?_)
   obtain rfl := Option.some.inj ho97
   exact QW.meet (fun a ha => ⟨ha.agrees (by kernel_rfl), hst.keep [] rfl⟩)
  have ho97 := ite_f ho97 hc98
  refine OW.pure 20 [(0, .bool false)] (by kernel_rfl) (OW.nil rfl ?_)
  obtain rfl := Option.some.inj ho97
  exact QW.meet (fun a ha => ⟨ha.agrees (by kernel_rfl), hst.keep [] rfl⟩)
 rintro a w1 ⟨ha, hst⟩
 refine CW.go ?_ ha
 refine CW.ret ?_
 obtain rfl := Option.some.inj hF
 refine QW.ret1 rfl rfl ?_
 exact ⟨rfl, hst.keep [] rfl⟩

theorem tappetlaw11_copied_ok (w : World) (v0_0 : Value) (v0_1 : Value) (p0 : api_Module) (r : api_Module) (hF : tappetlaw11_copied p0 = some r)
    (hst : St w (fp []) w []) (h0_0 : Rd w (fp []) v0_0 (encInt .i64) 1 p0.Maps) (h0_1 : Rd w (fp []) v0_1 enc_api_Inst 5 p0.Code) :
    Calls Tryd.prog 7 [.agg [v0_0, v0_1].toArray].toArray w (fun e w' => ∃ (x0_0 : Value) (x0_1 : Value), e = .returned (.agg [x0_0, x0_1].toArray) ∧ St w (fp []) w' [rowI x0_0 3 (encInt .i64) 1 r.Maps, rowI x0_1 82 enc_api_Inst 5 r.Code]) := by
 refine CW.start (N := 12) Tryd.func7 rfl rfl rfl ?_
 obtain ⟨l1, a2, c3, rfl⟩ := h0_0.len
 obtain ⟨l4, a5, c6, rfl⟩ := h0_1.len
 refine CW.seq (CW.region ?_)
 refine OW.box hst rfl rfl rfl rfl [.slice a2 (p0.Maps).length c3, .slice a5 (p0.Code).length c6] rfl ?_
 intro b11 w12 hst
 refine OW.alloc hst rfl rfl rfl [.slice none 0 0, .slice none 0 0] (by kernel_rfl) ?_
 intro b13 w14 hst
 refine OW.nil rfl (QW.next (CW.seq ?_))
 obtain ⟨o72, ho73, hF⟩ := bind_some' hF
 refine CW.cutK (fun a w1 => ∃ (v70 : Value) (v71 : Value), Rep 12 [(2, .pointer (some ⟨b13, 0, none⟩))] a ∧ St w (fp []) w1 [blkI b13 25 [v70, v71], rowI v70 3 (encInt .i64) 1 (([] : List Int) ++ p0.Maps), rowI v71 82 enc_api_Inst 5 (([] : List api_Inst) ++ p0.Code)]) ?_ ?_
 ·refine CW.plan (by kernel_rfl) ?_
  intro w74 hch75
  have hst := hst.same hch75
  refine OA.pure [1] [(4, .pointer (some ⟨b11, 0, none⟩))] (by kernel_rfl) ?_
  refine OA.ld (i := 2) rfl (by kernel_rfl) rfl rfl rfl (by kernel_rfl) (hst.blk 0 rfl rfl) ?_
  refine OA.pure [5] [(8, .pointer (some ⟨b11, 1, none⟩))] (by kernel_rfl) ?_
  refine OA.ld (i := 6) rfl (by kernel_rfl) rfl rfl rfl (by kernel_rfl) (hst.blk 0 rfl rfl) ?_
  refine OA.acts [0, 4] 0 (by kernel_rfl) (by kernel_rfl) (by kernel_rfl) (alts_cons ?_ (alts_cons ?_ alts_nil))
  ·refine Alt.of (i := 0) [6, 2] rfl rfl (by kernel_rfl) (by kernel_rfl) ?_
   refine OW.row (α := Int) (e := 3) (enc := encInt .i64) (sz := 1) hst rfl rfl rfl [] rfl (fun _ => rfl) rfl rfl (fun _ => by kernel_rfl) ?_
   intro g76 w77 hst
   refine OA.next ⟨(hst.blk 0 rfl rfl), (hst.blk 0 rfl rfl), trivial⟩ ?_
   refine OA.acts [3, 4] 3 (by kernel_rfl) (by kernel_rfl) (by kernel_rfl) (alts_cons ?_ (alts_cons ?_ alts_nil))
   ·refine Alt.of (i := 3) [6] rfl rfl (by kernel_rfl) (by kernel_rfl) ?_
    obtain ⟨u78, hr79, ho73⟩ := bind_some' ho73
    refine OW.app hst 2 rfl (fun _ => rfl) (fun _ => rfl) rfl rfl rfl rfl rfl rfl (by kernel_rfl) el3 (h0_0.on hst) (room_le hr79) ?_
    intro v80 w81 hst
    obtain ⟨l82, a83, c84, rfl⟩ := hst.len 2 rfl
    refine OA.next ⟨(hst.blk 0 rfl rfl), trivial⟩ ?_
    refine OA.act (i := 4) [6] (by kernel_rfl) rfl rfl (by kernel_rfl) (by kernel_rfl) ?_
    refine OW.row (α := api_Inst) (e := 82) (enc := enc_api_Inst) (sz := 5) hst rfl rfl rfl [] rfl (fun _ => rfl) rfl rfl (fun _ => by kernel_rfl) ?_
    intro g85 w86 hst
    refine OA.next ⟨(hst.blk 0 rfl rfl), trivial⟩ ?_
    refine OA.act (i := 7) [] (by kernel_rfl) rfl rfl (by kernel_rfl) (by kernel_rfl) ?_
    obtain ⟨u87, hr88, ho73⟩ := bind_some' ho73
    refine OW.app hst 3 rfl (fun _ => rfl) (fun _ => rfl) rfl rfl rfl rfl rfl rfl (by kernel_rfl) el82 (h0_1.on hst) (room_le hr88) ?_
    intro v89 w90 hst
    obtain ⟨l91, a92, c93, rfl⟩ := hst.len 3 rfl
    refine OA.next trivial ?_
    refine OA.pure [8] [(11, .agg [.slice a83 ((([] : List Int) ++ p0.Maps)).length c84, .slice a92 ((([] : List api_Inst) ++ p0.Code)).length c93].toArray)] (by kernel_rfl) ?_
    refine OA.act (i := 9) [] (by kernel_rfl) rfl rfl (by kernel_rfl) (by kernel_rfl) ?_
    refine OW.stB hst 1 rfl rfl rfl rfl rfl (by kernel_rfl) rfl rfl [.slice a83 ((([] : List Int) ++ p0.Maps)).length c84, .slice a92 ((([] : List api_Inst) ++ p0.Code)).length c93] rfl ?_
    intro w94 hst
    refine OA.next trivial ?_
    refine OA.fin (by kernel_rfl) (by kernel_rfl) ?_
    obtain rfl := Option.some.inj ho73
    exact QW.meet (fun a ha => ⟨(.slice a83 ((([] : List Int) ++ p0.Maps)).length c84), (.slice a92 ((([] : List api_Inst) ++ p0.Code)).length c93), ha.agrees (by kernel_rfl), hst.keep [1, 2, 3] rfl⟩)
   obtain ⟨u78, hr79, ho73⟩ := bind_some' ho73
   obtain ⟨u87, hr88, ho73⟩ := bind_some' ho73
   refine Alt.of (i := 4) [6, 2] rfl rfl (by kernel_rfl) (by kernel_rfl) ?_
   refine OW.row (α := api_Inst) (e := 82) (enc := enc_api_Inst) (sz := 5) hst rfl rfl rfl [] rfl (fun _ => rfl) rfl rfl (fun _ => by kernel_rfl) ?_
   intro g95 w96 hst
   refine OA.next ⟨(hst.blk 0 rfl rfl), (hst.blk 0 rfl rfl), trivial⟩ ?_
   refine OA.act (i := 3) [6] (by kernel_rfl) rfl rfl (by kernel_rfl) (by kernel_rfl) ?_
   refine OW.app hst 2 rfl (fun _ => rfl) (fun _ => rfl) rfl rfl rfl rfl rfl rfl (by kernel_rfl) el3 (h0_0.on hst) (room_le hr79) ?_
   intro v97 w98 hst
   obtain ⟨l99, a100, c101, rfl⟩ := hst.len 2 rfl
   refine OA.next ⟨(hst.blk 0 rfl rfl), trivial⟩ ?_
   refine OA.act (i := 7) [] (by kernel_rfl) rfl rfl (by kernel_rfl) (by kernel_rfl) ?_
   refine OW.app hst 3 rfl (fun _ => rfl) (fun _ => rfl) rfl rfl rfl rfl rfl rfl (by kernel_rfl) el82 (h0_1.on hst) (room_le hr88) ?_
   intro v102 w103 hst
   obtain ⟨l104, a105, c106, rfl⟩ := hst.len 3 rfl
   refine OA.next trivial ?_
   refine OA.pure [8] [(11, .agg [.slice a100 ((([] : List Int) ++ p0.Maps)).length c101, .slice a105 ((([] : List api_Inst) ++ p0.Code)).length c106].toArray)] (by kernel_rfl) ?_
   refine OA.act (i := 9) [] (by kernel_rfl) rfl rfl (by kernel_rfl) (by kernel_rfl) ?_
   refine OW.stB hst 1 rfl rfl rfl rfl rfl (by kernel_rfl) rfl rfl [.slice a100 ((([] : List Int) ++ p0.Maps)).length c101, .slice a105 ((([] : List api_Inst) ++ p0.Code)).length c106] rfl ?_
   intro w107 hst
   refine OA.next trivial ?_
   refine OA.fin (by kernel_rfl) (by kernel_rfl) ?_
   obtain rfl := Option.some.inj ho73
   exact QW.meet (fun a ha => ⟨(.slice a100 ((([] : List Int) ++ p0.Maps)).length c101), (.slice a105 ((([] : List api_Inst) ++ p0.Code)).length c106), ha.agrees (by kernel_rfl), hst.keep [1, 2, 3] rfl⟩)
  refine Alt.of (i := 4) [6, 2] rfl rfl (by kernel_rfl) (by kernel_rfl) ?_
  refine OW.row (α := api_Inst) (e := 82) (enc := enc_api_Inst) (sz := 5) hst rfl rfl rfl [] rfl (fun _ => rfl) rfl rfl (fun _ => by kernel_rfl) ?_
  intro g108 w109 hst
  refine OA.next ⟨(hst.blk 0 rfl rfl), (hst.blk 0 rfl rfl), trivial⟩ ?_
  refine OA.act (i := 0) [6, 2] (by kernel_rfl) rfl rfl (by kernel_rfl) (by kernel_rfl) ?_
  refine OW.row (α := Int) (e := 3) (enc := encInt .i64) (sz := 1) hst rfl rfl rfl [] rfl (fun _ => rfl) rfl rfl (fun _ => by kernel_rfl) ?_
  intro g110 w111 hst
  refine OA.next ⟨(hst.blk 0 rfl rfl), (hst.blk 0 rfl rfl), trivial⟩ ?_
  refine OA.act (i := 3) [6] (by kernel_rfl) rfl rfl (by kernel_rfl) (by kernel_rfl) ?_
  obtain ⟨u112, hr113, ho73⟩ := bind_some' ho73
  refine OW.app hst 3 rfl (fun _ => rfl) (fun _ => rfl) rfl rfl rfl rfl rfl rfl (by kernel_rfl) el3 (h0_0.on hst) (room_le hr113) ?_
  intro v114 w115 hst
  obtain ⟨l116, a117, c118, rfl⟩ := hst.len 3 rfl
  refine OA.next ⟨(hst.blk 0 rfl rfl), trivial⟩ ?_
  refine OA.act (i := 7) [] (by kernel_rfl) rfl rfl (by kernel_rfl) (by kernel_rfl) ?_
  obtain ⟨u119, hr120, ho73⟩ := bind_some' ho73
  refine OW.app hst 2 rfl (fun _ => rfl) (fun _ => rfl) rfl rfl rfl rfl rfl rfl (by kernel_rfl) el82 (h0_1.on hst) (room_le hr120) ?_
  intro v121 w122 hst
  obtain ⟨l123, a124, c125, rfl⟩ := hst.len 2 rfl
  refine OA.next trivial ?_
  refine OA.pure [8] [(11, .agg [.slice a117 ((([] : List Int) ++ p0.Maps)).length c118, .slice a124 ((([] : List api_Inst) ++ p0.Code)).length c125].toArray)] (by kernel_rfl) ?_
  refine OA.act (i := 9) [] (by kernel_rfl) rfl rfl (by kernel_rfl) (by kernel_rfl) ?_
  refine OW.stB hst 1 rfl rfl rfl rfl rfl (by kernel_rfl) rfl rfl [.slice a117 ((([] : List Int) ++ p0.Maps)).length c118, .slice a124 ((([] : List api_Inst) ++ p0.Code)).length c125] rfl ?_
  intro w126 hst
  refine OA.next trivial ?_
  refine OA.fin (by kernel_rfl) (by kernel_rfl) ?_
  obtain rfl := Option.some.inj ho73
  exact QW.meet (fun a ha => ⟨(.slice a117 ((([] : List Int) ++ p0.Maps)).length c118), (.slice a124 ((([] : List api_Inst) ++ p0.Code)).length c125), ha.agrees (by kernel_rfl), hst.keep [1, 3, 2] rfl⟩)
 rintro a w1 ⟨v70, v71, ha, hst⟩
 refine CW.go ?_ ha
 obtain ⟨l127, a128, c129, rfl⟩ := hst.len 1 rfl
 obtain ⟨l130, a131, c132, rfl⟩ := hst.len 2 rfl
 refine CW.ret ?_
 obtain rfl := Option.some.inj hF
 refine QW.ret_c rfl rfl (run_loadN (cs := [.slice a128 ((([] : List Int) ++ p0.Maps)).length c129, .slice a131 ((([] : List api_Inst) ++ p0.Code)).length c132]) (by kernel_rfl) (by kernel_rfl) (hst.blkN 0 rfl 0 2)) ?_
 exact ⟨(.slice a128 ((([] : List Int) ++ p0.Maps)).length c129), (.slice a131 ((([] : List api_Inst) ++ p0.Code)).length c132), rfl, hst.keep [1, 2] rfl⟩

theorem tappetlaw11_alike_ok (w : World) (v0 : Value) (p0 : List api_Act) (v1 : Value) (p1 : List api_Act) (r : Bool) (hF : tappetlaw11_alike p0 p1 = some r)
    (hst : St w (fp []) w []) (h0 : Rd w (fp []) v0 enc_api_Act 7 p0) (h1 : Rd w (fp []) v1 enc_api_Act 7 p1) :
    Calls Tryd.prog 12 [v0, v1].toArray w (fun e w' => e = .returned (.bool r) ∧ St w (fp []) w' []) := by
 refine CW.start (N := 26) Tryd.func12 rfl rfl rfl ?_
 obtain ⟨l1, a2, c3, rfl⟩ := h0.len
 obtain ⟨l4, a5, c6, rfl⟩ := h1.len
 refine CW.seq (CW.region ?_)
 refine OW.pure 1 [] (by kernel_rfl) (OW.nil rfl (QW.next (CW.seq (CW.seq (CW.region ?_)))))
 refine OW.pure 5 [(10, .bool (((p0).length : Int) != ((p1).length : Int)))] (by kernel_rfl) (OW.nil rfl (QW.next ?_))
 rcases Bool.eq_false_or_eq_true ((((p0).length : Int) != ((p1).length : Int))) with hc7 | hc7
 ·have hF := ite_t hF hc7
  refine CW.cond_t rfl hc7 (CW.seq (CW.region ?_))
  refine OW.pure 1 [(4, .bool false)] (by kernel_rfl) (OW.nil rfl (QW.next (CW.ret (QW.then_ret ?_))))
  obtain rfl := Option.some.inj hF
  refine QW.ret1 rfl rfl ?_
  exact ⟨rfl, hst.keep [] rfl⟩
 have hF := ite_f hF hc7
 refine CW.cond_f rfl hc7 (CW.skip (QW.next (CW.seq (CW.seq (CW.region ?_)))))
 refine OW.pure 1 [(5, .int .i64 0)] (by kernel_rfl) (OW.nil rfl (QW.next ?_))
 obtain ⟨o104, ho105, hF⟩ := bind_some' hF
 refine CW.cutK (fun a w1 => ∃ (t106 : Unit), o104 = .inl t106 ∧ Rep 26 [] a ∧ St w (fp []) w1 []) ?_ ?_
 ·refine CW.block ?_
  refine CW.loop (fun n a w1 => ∃ (i171 : Nat) (s170 : Unit), i171 + n = (p0).length ∧ Rep 26 [(0, .slice a2 (p0).length c3), (1, .slice a5 (p1).length c6), (5, .int .i64 (i171 : Int))] a ∧ St w (fp []) w1 [] ∧ forN (tappetlaw11_alike_l1 p0 p1) (fun (s170 : Unit) => (.inl ())) n i171 s170 = some o104) (p0).length (fun a ha => ⟨0, (), Nat.zero_add _, ha.agrees (by kernel_rfl), hst.keep [] rfl, ho105⟩) ?_
  rintro n168 a w1 ⟨i171, s170, hi172, ha, hst, hl169⟩
  refine CW.go ?_ ha
  refine CW.seq (CW.seq (CW.region ?_))
  refine OW.pure 4 [(14, .bool (decide ((i171 : Int) < ((p0).length : Int))))] (by kernel_rfl) (OW.nil rfl (QW.next ?_))
  rcases Bool.eq_false_or_eq_true (decide ((i171 : Int) < ((p0).length : Int))) with hc173 | hc173
  ·rcases n168 with _ | n168
   ·exact (cnt0 hi172 hc173).elim
   refine CW.cond_t rfl hc173 (CW.skip (QW.next (CW.seq (CW.block (CW.seq ?_)))))
   refine CW.still (by kernel_rfl) (by kernel_rfl) ?_
   intro w188 hch189
   have hst := hst.same hch189
   refine OS.pure 2 [(17, .slice a2 (p0).length c3), (18, .int .i64 (i171 : Int))] rfl (by kernel_rfl) ?_
   obtain ⟨x190, hx191, hl169⟩ := bind_some' hl169
   obtain ⟨g193, o194, c195, hv192⟩ := h0.formv (fun _ => ⟨_, rfl⟩) hx191
   refine OS.idx 46 7 rfl rfl rfl rfl rfl hv192 rfl (idx_some hx191).1 (idx_some hx191).2.1 (by kernel_rfl) (by kernel_rfl) ?_
   refine OS.ldN (cs := enc_api_Act x190) rfl rfl rfl rfl rfl (by kernel_rfl) (by kernel_rfl) (h0.cellv hst hx191 hv192) ?_
   refine OS.pure 2 [(21, .slice a5 (p1).length c6), (22, .int .i64 (i171 : Int))] rfl (by kernel_rfl) ?_
   obtain ⟨x196, hx197, hl169⟩ := bind_some' hl169
   obtain ⟨g199, o200, c201, hv198⟩ := h1.formv (fun _ => ⟨_, rfl⟩) hx197
   refine OS.idx 46 7 rfl rfl rfl rfl rfl hv198 rfl (idx_some hx197).1 (idx_some hx197).2.1 (by kernel_rfl) (by kernel_rfl) ?_
   refine OS.ldN (cs := enc_api_Act x196) rfl rfl rfl rfl rfl (by kernel_rfl) (by kernel_rfl) (h1.cellv hst hx197 hv198) ?_
   refine OS.op (v := .bool (!((x190.Kind == x196.Kind) && ((x190.Pc == x196.Pc) && (((x190.Item.Map == x196.Item.Map) && ((x190.Item.Op == x196.Item.Op) && ((x190.Item.Key == x196.Item.Key) && ((x190.Item.Val == x196.Item.Val) && true)))) && ((x190.Val == x196.Val) && true)))))) rfl rfl rfl rfl rfl (fun a ha => sneq_run rfl rfl rfl (by kernel_rfl) (by kernel_rfl) a _ ha) ?_
   refine OS.fin rfl (QW.next ?_)
   rcases Bool.eq_false_or_eq_true ((!((x190.Kind == x196.Kind) && ((x190.Pc == x196.Pc) && (((x190.Item.Map == x196.Item.Map) && ((x190.Item.Op == x196.Item.Op) && ((x190.Item.Key == x196.Item.Key) && ((x190.Item.Val == x196.Item.Val) && true)))) && ((x190.Val == x196.Val) && true)))))) with hc202 | hc202
   ·have hl169 := ite_t hl169 hc202
    refine CW.cond_t rfl hc202 (CW.seq (CW.region ?_))
    refine OW.pure 1 [(4, .bool false)] (by kernel_rfl) (OW.nil rfl (QW.next (CW.ret (QW.block_ret (QW.then_ret (QW.then_ret (QW.block_ret (QW.then_ret ?_))))))))
    obtain rfl := Option.some.inj hl169
    obtain rfl := Option.some.inj hF
    refine QW.ret1 rfl rfl ?_
    exact ⟨rfl, hst.keep [] rfl⟩
   have hl169 := ite_f hl169 hc202
   refine CW.cond_f rfl hc202 (CW.skip (QW.block_normal (QW.next (CW.region ?_))))
   refine OW.pure 3 [(5, .int .i64 (w64 ((i171 : Int) + 1)))] (by kernel_rfl) (OW.nil rfl ?_)
   refine QW.say 5 rfl (congrArg (Value.int .i64) (w64_cnt hc173 l1)) ?_
   exact QW.meet (fun a ha => ⟨n168, Nat.lt_succ_self _, i171 + 1, (), cnt_next hi172, ha.agrees (by kernel_rfl), hst.keep [] rfl, hl169⟩)
  rcases n168 with _ | n168
  ·refine CW.cond_f rfl hc173 ?_
   refine CW.exit (QW.then_exit (QW.then_exit ?_))
   refine QW.block_here ?_
   obtain rfl := Option.some.inj hl169
   exact QW.meet (fun a ha => ⟨(), rfl, ha.agrees (by kernel_rfl), hst.keep [] rfl⟩)
  exact (cnt1 hi172 hc173).elim
 rintro a w1 ⟨t106, rfl, ha, hst⟩
 refine CW.go ?_ ha
 refine CW.seq (CW.region ?_)
 refine OW.pure 1 [(4, .bool true)] (by kernel_rfl) (OW.nil rfl (QW.next (CW.ret ?_)))
 obtain rfl := Option.some.inj hF
 refine QW.ret1 rfl rfl ?_
 exact ⟨rfl, hst.keep [] rfl⟩

theorem tappetlaw11_EngineApart_ok (w : World) (fu : Nat) (v0_0 : Value) (v0_1 : Value) (v0_2 : Value) (p0 : tappetlaw11_Run) (v1_0 : Value) (v1_1 : Value) (v1_2 : Value) (p1 : tappetlaw11_Run) (r : Bool) (hF : tappetlaw11_EngineApart fu p0 p1 = some r)
    (hst : St w (fp []) w []) (h0_0 : Rd w (fp []) v0_0 (encInt .i64) 1 p0.M.Maps) (h0_1 : Rd w (fp []) v0_1 enc_api_Inst 5 p0.M.Code) (h0_2 : Rd w (fp []) v0_2 enc_api_Res 6 p0.Res) (h1_0 : Rd w (fp []) v1_0 (encInt .i64) 1 p1.M.Maps) (h1_1 : Rd w (fp []) v1_1 enc_api_Inst 5 p1.M.Code) (h1_2 : Rd w (fp []) v1_2 enc_api_Res 6 p1.Res) (hT0 : Rd w (fp []) (.slice (some ⟨0, 0, none⟩) 7 7) enc_sigs_sig 5 tab_g0) (hT1 : Rd w (fp []) (.slice (some ⟨1, 0, none⟩) 23 23) enc_ops_form 2 tab_g1) :
    Calls Tryd.prog 3 [.agg [v0_0, v0_1, .int .u64 p0.E.A, .int .u64 p0.E.B, v0_2, .int .i64 p0.Odd].toArray, .agg [v1_0, v1_1, .int .u64 p1.E.A, .int .u64 p1.E.B, v1_2, .int .i64 p1.Odd].toArray].toArray w (fun e w' => e = .returned (.bool r) ∧ St w (fp []) w' []) := by
 refine CW.start (N := 139) Tryd.func3 rfl rfl rfl ?_
 obtain ⟨l1, a2, c3, rfl⟩ := h0_0.len
 obtain ⟨l4, a5, c6, rfl⟩ := h0_1.len
 obtain ⟨l7, a8, c9, rfl⟩ := h0_2.len
 obtain ⟨l10, a11, c12, rfl⟩ := h1_0.len
 obtain ⟨l13, a14, c15, rfl⟩ := h1_1.len
 obtain ⟨l16, a17, c18, rfl⟩ := h1_2.len
 refine CW.seq (CW.region ?_)
 refine OW.box hst rfl rfl rfl rfl [.slice a2 (p0.M.Maps).length c3, .slice a5 (p0.M.Code).length c6, .int .u64 p0.E.A, .int .u64 p0.E.B, .slice a8 (p0.Res).length c9, .int .i64 p0.Odd] rfl ?_
 intro b23 w24 hst
 refine OW.box hst rfl rfl rfl rfl [.slice a11 (p1.M.Maps).length c12, .slice a14 (p1.M.Code).length c15, .int .u64 p1.E.A, .int .u64 p1.E.B, .slice a17 (p1.Res).length c18, .int .i64 p1.Odd] rfl ?_
 intro b25 w26 hst
 refine OW.pure 1 [] (by kernel_rfl) (OW.nil rfl (QW.next (CW.seq (CW.seq (CW.region ?_)))))
 obtain ⟨r31, hr32, hF⟩ := bind_some' hF
 refine OW.fn rfl rfl rfl rfl (by kernel_rfl) (tappetlaw11_awake_ok _ fu r31 hr32 (hst.part [] rfl) (hT0.give hst []) (hT1.give hst [])) ?_
 rintro e w33 ⟨rfl, hst34⟩
 refine ⟨_, rfl, ?_⟩
 have hst := hst.join (idx := []) (rest := [0, 1]) rfl hst34
 refine OW.pure 1 [(22, .bool (!r31))] (by kernel_rfl) (OW.nil rfl (QW.next ?_))
 rcases Bool.eq_false_or_eq_true ((!r31)) with hc35 | hc35
 ·have hF := ite_t hF hc35
  refine CW.cond_t rfl hc35 (CW.seq (CW.region ?_))
  refine OW.pure 1 [(4, .bool false)] (by kernel_rfl) (OW.nil rfl (QW.next (CW.ret (QW.then_ret ?_))))
  obtain rfl := Option.some.inj hF
  refine QW.ret1 rfl rfl ?_
  exact ⟨rfl, hst.keep [] rfl⟩
 have hF := ite_f hF hc35
 refine CW.cond_f rfl hc35 (CW.skip (QW.next (CW.seq ?_)))
 refine CW.plan (by kernel_rfl) ?_
 intro w85 hch86
 have hst := hst.same hch86
 refine OA.pure [0] [(24, .pointer (some ⟨b23, 0, none⟩))] (by kernel_rfl) ?_
 refine OA.ldN (i := 1) (cs := [.slice a2 (p0.M.Maps).length c3, .slice a5 (p0.M.Code).length c6]) rfl (by kernel_rfl) rfl rfl rfl (by kernel_rfl) (by kernel_rfl) (hst.blkN 0 rfl 0 2) ?_
 refine OA.pure [3] [(27, .pointer (some ⟨b23, 2, none⟩))] (by kernel_rfl) ?_
 refine OA.ldN (i := 4) (cs := [.int .u64 p0.E.A, .int .u64 p0.E.B]) rfl (by kernel_rfl) rfl rfl rfl (by kernel_rfl) (by kernel_rfl) (hst.blkN 0 rfl 2 2) ?_
 refine OA.act (i := 2) [4] (by kernel_rfl) rfl rfl (by kernel_rfl) (by kernel_rfl) ?_
 obtain ⟨r87, hr88, hF⟩ := bind_some' hF
 refine OW.fn rfl rfl rfl rfl (by kernel_rfl) (tappetlaw11_copied_ok _ (.slice a2 (p0.M.Maps).length c3) (.slice a5 (p0.M.Code).length c6) p0.M r87 hr88 (hst.part [] rfl) (h0_0.give hst []) (h0_1.give hst [])) ?_
 rintro e w89 ⟨v91, v92, rfl, hst90⟩
 refine ⟨_, rfl, ?_⟩
 have hst := hst.join (idx := []) (rest := [0, 1]) rfl hst90
 obtain ⟨l111, a112, c113, rfl⟩ := hst.len 0 rfl
 obtain ⟨l114, a115, c116, rfl⟩ := hst.len 1 rfl
 refine OA.next ⟨(hst.blkN 2 rfl 2 2), trivial⟩ ?_
 refine OA.act (i := 5) [4] (by kernel_rfl) rfl rfl (by kernel_rfl) (by kernel_rfl) ?_
 obtain ⟨r117, hr118, hF⟩ := bind_some' hF
 refine OW.fn rfl rfl rfl rfl (by kernel_rfl) (scratch_New_ok _ r117 hr118 (hst.part [] rfl)) ?_
 rintro e w119 ⟨v121, S122, rfl, hst120⟩
 refine ⟨_, rfl, ?_⟩
 have hst := hst.join (idx := []) (rest := [0, 1, 2, 3]) rfl hst120
 obtain ⟨b123, rfl⟩ := hst.fptr 0 rfl
 refine OA.next ⟨(hst.blkN 3 rfl 2 2), trivial⟩ ?_
 refine OA.act (i := 6) [] (by kernel_rfl) rfl rfl (by kernel_rfl) (by kernel_rfl) ?_
 obtain ⟨r124, hr125, hF⟩ := bind_some' hF
 refine OW.fn rfl rfl rfl rfl (by kernel_rfl) (engine_New_ok _ fu (.slice a112 (r87.Maps).length c113) (.slice a115 (r87.Code).length c116) r87 p0.E (.pointer (some ⟨b123, 0, none⟩)) S122 r117 r124 hr125 (hst.part [0] rfl) (hst.rd 1 rfl (fun _ => rfl) [0] rfl (hst.len 1 rfl).1) (hst.rd 2 rfl (fun _ => rfl) [0] rfl (hst.len 2 rfl).1) (hT0.give hst [0]) (hT1.give hst [0])) ?_
 rintro e w126 (⟨k128, v130, S131, he129, rfl, hst127⟩ | ⟨he132, rfl, hst127⟩)
 ·have hF := ocase_some hF he129
  refine ⟨_, rfl, ?_⟩
  have hst := hst.join (idx := [0]) (rest := [1, 2, 3, 4]) rfl hst127
  obtain ⟨b133, rfl⟩ := hst.fptr 0 rfl
  refine OA.next trivial ?_
  refine OA.pure [7, 8, 9] [(31, .pointer (some ⟨b133, 0, none⟩)), (32, .int .i64 r124.2)] (by kernel_rfl) ?_
  refine OA.act (i := 10) [] (by kernel_rfl) rfl rfl (by kernel_rfl) (by kernel_rfl) ?_
  refine OW.pure 1 [(5, .pointer (some ⟨b133, 0, none⟩))] (by kernel_rfl) (OA.next trivial ?_)
  refine OA.act (i := 11) [] (by kernel_rfl) rfl rfl (by kernel_rfl) (by kernel_rfl) ?_
  refine OW.pure 1 [(6, .int .i64 r124.2)] (by kernel_rfl) (OA.next trivial ?_)
  refine OA.fin (by kernel_rfl) (by kernel_rfl) (QW.next (CW.seq ?_))
  refine CW.plan (by kernel_rfl) ?_
  intro w183 hch184
  have hst := hst.same hch184
  refine OA.pure [0] [(34, .pointer (some ⟨b25, 0, none⟩))] (by kernel_rfl) ?_
  refine OA.ldN (i := 1) (cs := [.slice a11 (p1.M.Maps).length c12, .slice a14 (p1.M.Code).length c15]) rfl (by kernel_rfl) rfl rfl rfl (by kernel_rfl) (by kernel_rfl) (hst.blkN 4 rfl 0 2) ?_
  refine OA.pure [3] [(37, .pointer (some ⟨b25, 2, none⟩))] (by kernel_rfl) ?_
  refine OA.ldN (i := 4) (cs := [.int .u64 p1.E.A, .int .u64 p1.E.B]) rfl (by kernel_rfl) rfl rfl rfl (by kernel_rfl) (by kernel_rfl) (hst.blkN 4 rfl 2 2) ?_
  refine OA.act (i := 2) [4] (by kernel_rfl) rfl rfl (by kernel_rfl) (by kernel_rfl) ?_
  obtain ⟨r185, hr186, hF⟩ := bind_some' hF
  refine OW.fn rfl rfl rfl rfl (by kernel_rfl) (tappetlaw11_copied_ok _ (.slice a11 (p1.M.Maps).length c12) (.slice a14 (p1.M.Code).length c15) p1.M r185 hr186 (hst.part [] rfl) (h1_0.give hst []) (h1_1.give hst [])) ?_
  rintro e w187 ⟨v189, v190, rfl, hst188⟩
  refine ⟨_, rfl, ?_⟩
  have hst := hst.join (idx := []) (rest := [0, 1, 2, 3, 4]) rfl hst188
  obtain ⟨l209, a210, c211, rfl⟩ := hst.len 0 rfl
  obtain ⟨l212, a213, c214, rfl⟩ := hst.len 1 rfl
  refine OA.next ⟨(hst.blkN 6 rfl 2 2), trivial⟩ ?_
  refine OA.act (i := 5) [4] (by kernel_rfl) rfl rfl (by kernel_rfl) (by kernel_rfl) ?_
  obtain ⟨r215, hr216, hF⟩ := bind_some' hF
  refine OW.fn rfl rfl rfl rfl (by kernel_rfl) (scratch_New_ok _ r215 hr216 (hst.part [] rfl)) ?_
  rintro e w217 ⟨v219, S220, rfl, hst218⟩
  refine ⟨_, rfl, ?_⟩
  have hst := hst.join (idx := []) (rest := [0, 1, 2, 3, 4, 5, 6]) rfl hst218
  obtain ⟨b221, rfl⟩ := hst.fptr 0 rfl
  refine OA.next ⟨(hst.blkN 7 rfl 2 2), trivial⟩ ?_
  refine OA.act (i := 6) [] (by kernel_rfl) rfl rfl (by kernel_rfl) (by kernel_rfl) ?_
  obtain ⟨r222, hr223, hF⟩ := bind_some' hF
  refine OW.fn rfl rfl rfl rfl (by kernel_rfl) (engine_New_ok _ fu (.slice a210 (r185.Maps).length c211) (.slice a213 (r185.Code).length c214) r185 p1.E (.pointer (some ⟨b221, 0, none⟩)) S220 r215 r222 hr223 (hst.part [0] rfl) (hst.rd 1 rfl (fun _ => rfl) [0] rfl (hst.len 1 rfl).1) (hst.rd 2 rfl (fun _ => rfl) [0] rfl (hst.len 2 rfl).1) (hT0.give hst [0]) (hT1.give hst [0])) ?_
  rintro e w224 (⟨k226, v228, S229, he227, rfl, hst225⟩ | ⟨he230, rfl, hst225⟩)
  ·have hF := ocase_some hF he227
   refine ⟨_, rfl, ?_⟩
   have hst := hst.join (idx := [0]) (rest := [1, 2, 3, 4, 5, 6, 7]) rfl hst225
   obtain ⟨b231, rfl⟩ := hst.fptr 0 rfl
   refine OA.next trivial ?_
   refine OA.pure [7, 8, 9] [(41, .pointer (some ⟨b231, 0, none⟩)), (42, .int .i64 r222.2)] (by kernel_rfl) ?_
   refine OA.act (i := 10) [] (by kernel_rfl) rfl rfl (by kernel_rfl) (by kernel_rfl) ?_
   refine OW.pure 1 [(7, .pointer (some ⟨b231, 0, none⟩))] (by kernel_rfl) (OA.next trivial ?_)
   refine OA.act (i := 11) [] (by kernel_rfl) rfl rfl (by kernel_rfl) (by kernel_rfl) ?_
   refine OW.pure 1 [(8, .int .i64 r222.2)] (by kernel_rfl) (OA.next trivial ?_)
   refine OA.fin (by kernel_rfl) (by kernel_rfl) (QW.next (CW.seq (CW.seq ?_)))
   refine CW.cutK (fun a w1 => Rep 139 [(2, .pointer (some ⟨b23, 0, none⟩)), (3, .pointer (some ⟨b25, 0, none⟩)), (5, .pointer (some ⟨b133, 0, none⟩)), (6, .int .i64 r124.2), (7, .pointer (some ⟨b231, 0, none⟩)), (8, .int .i64 r222.2), (48, .bool ((r124.2 != 0) || (r222.2 != 0)))] a ∧ St w (fp []) w1 [itI R_t33 [.pointer (some ⟨b231, 0, none⟩)] S229 k226, itI R_t33 [.pointer (some ⟨b133, 0, none⟩)] S131 k128, blkI b23 31 [.slice a2 (p0.M.Maps).length c3, .slice a5 (p0.M.Code).length c6, .int .u64 p0.E.A, .int .u64 p0.E.B, .slice a8 (p0.Res).length c9, .int .i64 p0.Odd], blkI b25 31 [.slice a11 (p1.M.Maps).length c12, .slice a14 (p1.M.Code).length c15, .int .u64 p1.E.A, .int .u64 p1.E.B, .slice a17 (p1.Res).length c18, .int .i64 p1.Odd]]) ?_ ?_
   ·refine CW.region ?_
    refine OW.pure 3 [(45, .bool (r124.2 != 0))] (by kernel_rfl) ?_
    refine OW.split 45 rfl (fun hc232 => ?_) (fun hc232 => ?_)
    ·refine OW.pure 3 [(48, .bool true)] (by kernel_rfl) (OW.nil rfl ?_)
     refine QW.say 48 (v := .bool ((r124.2 != 0) || (r222.2 != 0))) rfl (by first | (rw [hc232]; done) | (rw [hc232]; rfl) | simp [hc232]) ?_
     exact QW.meet (fun a ha => ⟨ha.agrees (by kernel_rfl), hst.keep [0, 3, 6, 7] rfl⟩)
    refine OW.pure 3 [(48, .bool (r222.2 != 0))] (by kernel_rfl) (OW.nil rfl ?_)
    refine QW.say 48 (v := .bool ((r124.2 != 0) || (r222.2 != 0))) rfl (by first | (rw [hc232]; done) | (rw [hc232]; rfl) | simp [hc232]) ?_
    exact QW.meet (fun a ha => ⟨ha.agrees (by kernel_rfl), hst.keep [0, 3, 6, 7] rfl⟩)
   rintro a w1 ⟨ha, hst⟩
   refine CW.go ?_ ha
   rcases Bool.eq_false_or_eq_true (((r124.2 != 0) || (r222.2 != 0))) with hc233 | hc233
   ·have hF := ite_t hF hc233
    refine CW.cond_t rfl hc233 (CW.seq ?_)
    refine CW.cutK (fun a w1 => Rep 139 [(4, .bool ((false == (r124.2 != 0)) && (false == (r222.2 != 0))))] a ∧ St w (fp []) w1 []) ?_ ?_
    ·refine CW.region ?_
     refine OW.pure 6 [(54, .bool (false == (r124.2 != 0)))] (by kernel_rfl) ?_
     refine OW.split 54 rfl (fun hc234 => ?_) (fun hc234 => ?_)
     ·refine OW.pure 7 [(4, .bool (false == (r222.2 != 0)))] (by kernel_rfl) (OW.nil rfl ?_)
      refine QW.say 4 (v := .bool ((false == (r124.2 != 0)) && (false == (r222.2 != 0)))) rfl (by first | (rw [hc234]; done) | (rw [hc234]; rfl) | simp [hc234]) ?_
      exact QW.meet (fun a ha => ⟨ha.agrees (by kernel_rfl), hst.keep [] rfl⟩)
     refine OW.pure 7 [(4, .bool false)] (by kernel_rfl) (OW.nil rfl ?_)
     refine QW.say 4 (v := .bool ((false == (r124.2 != 0)) && (false == (r222.2 != 0)))) rfl (by first | (rw [hc234]; done) | (rw [hc234]; rfl) | simp [hc234]) ?_
     exact QW.meet (fun a ha => ⟨ha.agrees (by kernel_rfl), hst.keep [] rfl⟩)
    rintro a w1 ⟨ha, hst⟩
    refine CW.go ?_ ha
    refine CW.ret (QW.then_ret ?_)
    obtain rfl := Option.some.inj hF
    refine QW.ret1 rfl rfl ?_
    exact ⟨rfl, hst.keep [] rfl⟩
   have hF := ite_f hF hc233
   refine CW.cond_f rfl hc233 (CW.skip (QW.next (CW.seq (CW.seq (CW.region ?_)))))
   refine OW.pure 6 [(66, .bool false)] (by kernel_rfl) (OW.nil rfl (QW.next ?_))
   refine CW.cond_f rfl rfl (CW.skip (QW.next (CW.seq (CW.region ?_))))
   refine OW.pure 2 [(9, .slice none 0 0), (10, .slice none 0 0)] (by kernel_rfl) (OW.nil rfl (QW.next (CW.seq (CW.seq (CW.region ?_)))))
   refine OW.pure 1 [(11, .int .i64 0)] (by kernel_rfl) (OW.nil rfl (QW.next ?_))
   obtain ⟨o719, ho720, hF⟩ := bind_some' hF
   refine CW.cutK (fun a w1 => ∃ (v717 : Value) (v718 : Value), Rep 139 [(2, .pointer (some ⟨b23, 0, none⟩)), (3, .pointer (some ⟨b25, 0, none⟩)), (9, v717), (10, v718)] a ∧ St w (fp []) w1 [blkI b23 31 [.slice a2 (p0.M.Maps).length c3, .slice a5 (p0.M.Code).length c6, .int .u64 p0.E.A, .int .u64 p0.E.B, .slice a8 (p0.Res).length c9, .int .i64 p0.Odd], blkI b25 31 [.slice a11 (p1.M.Maps).length c12, .slice a14 (p1.M.Code).length c15, .int .u64 p1.E.A, .int .u64 p1.E.B, .slice a17 (p1.Res).length c18, .int .i64 p1.Odd], rowI v717 46 enc_api_Act 7 o719.1, rowI v718 46 enc_api_Act 7 o719.2]) ?_ ?_
   ·refine CW.block ?_
    have hst := hst.nilRow api_Act 46 enc_api_Act 7
    have hst := hst.nilRow api_Act 46 enc_api_Act 7
    refine CW.loop (fun n a w1 => ∃ (i1045 : Nat) (s1040 : engine_Machine × engine_Machine × (List api_Act) × (List api_Act)) (S1041 : List Nat) (S1042 : List Nat) (v1043 : Value) (v1044 : Value), i1045 + n = 516 ∧ Rep 139 [(2, .pointer (some ⟨b23, 0, none⟩)), (3, .pointer (some ⟨b25, 0, none⟩)), (5, .pointer (some ⟨b133, 0, none⟩)), (7, .pointer (some ⟨b231, 0, none⟩)), (9, v1043), (10, v1044), (11, .int .i64 (i1045 : Int))] a ∧ St w (fp []) w1 [blkI b23 31 [.slice a2 (p0.M.Maps).length c3, .slice a5 (p0.M.Code).length c6, .int .u64 p0.E.A, .int .u64 p0.E.B, .slice a8 (p0.Res).length c9, .int .i64 p0.Odd], blkI b25 31 [.slice a11 (p1.M.Maps).length c12, .slice a14 (p1.M.Code).length c15, .int .u64 p1.E.A, .int .u64 p1.E.B, .slice a17 (p1.Res).length c18, .int .i64 p1.Odd], itI R_t33 [.pointer (some ⟨b133, 0, none⟩)] S1041 s1040.1, itI R_t33 [.pointer (some ⟨b231, 0, none⟩)] S1042 s1040.2.1, rowI v1043 46 enc_api_Act 7 s1040.2.2.1, rowI v1044 46 enc_api_Act 7 s1040.2.2.2] ∧ forN (tappetlaw11_EngineApart_l1 fu) (fun (s1040 : engine_Machine × engine_Machine × (List api_Act) × (List api_Act)) => (s1040.2.2.1, s1040.2.2.2)) n i1045 s1040 = some o719) 516 (fun a ha => ⟨0, (k128, k226, ([] : List api_Act), ([] : List api_Act)), S131, S229, (.slice none 0 0), (.slice none 0 0), Nat.zero_add _, ha.agrees (by kernel_rfl), hst.keep [2, 3, 1, 0, 4, 5] rfl, ho720⟩) ?_
    rintro n1038 a w1 ⟨i1045, s1040, S1041, S1042, v1043, v1044, hi1046, ha, hst, hl1039⟩
    refine CW.go ?_ ha
    obtain ⟨l1047, a1048, c1049, rfl⟩ := hst.len 4 rfl
    obtain ⟨l1050, a1051, c1052, rfl⟩ := hst.len 5 rfl
    refine CW.seq (CW.seq (CW.region ?_))
    refine OW.pure 2 [(68, .bool (decide ((i1045 : Int) < 516)))] (by kernel_rfl) (OW.nil rfl (QW.next ?_))
    rcases Bool.eq_false_or_eq_true (decide ((i1045 : Int) < 516)) with hc1053 | hc1053
    ·rcases n1038 with _ | n1038
     ·exact (cnt0 hi1046 hc1053).elim
     refine CW.cond_t rfl hc1053 (CW.skip (QW.next (CW.seq (CW.block (CW.seq (CW.region ?_))))))
     refine OW.pure 1 [(71, .pointer (some ⟨b133, 0, none⟩))] (by kernel_rfl) ?_
     obtain ⟨r1070, hr1071, hl1039⟩ := bind_some' hl1039
     refine OW.fn rfl rfl rfl rfl (by kernel_rfl) (engine_Machine_Step_ok _ fu (.pointer (some ⟨b133, 0, none⟩)) S1041 s1040.1 r1070 hr1071 (hst.part [2] rfl) (hT0.give hst [2])) ?_
     rintro e w1072 ⟨S1074, rfl, hst1073⟩
     refine ⟨_, rfl, ?_⟩
     have hst := hst.join (idx := [2]) (rest := [0, 1, 3, 4, 5]) rfl hst1073
     refine OW.pure 1 [(73, .pointer (some ⟨b231, 0, none⟩))] (by kernel_rfl) ?_
     obtain ⟨r1075, hr1076, hl1039⟩ := bind_some' hl1039
     refine OW.fn rfl rfl rfl rfl (by kernel_rfl) (engine_Machine_Step_ok _ fu (.pointer (some ⟨b231, 0, none⟩)) S1042 s1040.2.1 r1075 hr1076 (hst.part [3] rfl) (hT0.give hst [3])) ?_
     rintro e w1077 ⟨S1079, rfl, hst1078⟩
     refine ⟨_, rfl, ?_⟩
     have hst := hst.join (idx := [3]) (rest := [0, 1, 2, 4, 5]) rfl hst1078
     refine OW.alloc hst rfl rfl rfl [.int .i64 0, .int .i64 0, .int .i64 0, .int .i64 0, .int .u64 0, .int .u64 0, .int .u64 0] (by kernel_rfl) ?_
     intro b1080 w1081 hst
     refine OW.alloc hst rfl rfl rfl [.int .i64 0, .int .i64 0, .int .i64 0, .int .i64 0, .int .u64 0, .int .u64 0, .int .u64 0] (by kernel_rfl) ?_
     intro b1082 w1083 hst
     refine OW.stB hst 6 rfl rfl rfl rfl rfl (by kernel_rfl) rfl rfl [.int .i64 r1070.1.Kind, .int .i64 r1070.1.Pc, .int .i64 r1070.1.Item.Map, .int .i64 r1070.1.Item.Op, .int .u64 r1070.1.Item.Key, .int .u64 r1070.1.Item.Val, .int .u64 r1070.1.Val] rfl ?_
     intro w1084 hst
     refine OW.stB hst 7 rfl rfl rfl rfl rfl (by kernel_rfl) rfl rfl [.int .i64 r1075.1.Kind, .int .i64 r1075.1.Pc, .int .i64 r1075.1.Item.Map, .int .i64 r1075.1.Item.Op, .int .u64 r1075.1.Item.Key, .int .u64 r1075.1.Item.Val, .int .u64 r1075.1.Val] rfl ?_
     intro w1085 hst
     refine OW.nil rfl (QW.next (CW.seq (CW.seq (CW.region ?_))))
     refine OW.pure 1 [(75, .pointer (some ⟨b1080, 0, none⟩))] (by kernel_rfl) ?_
     refine OW.ld rfl rfl rfl rfl (by kernel_rfl) (hst.blk 6 rfl rfl) ?_
     refine OW.pure 1 [(77, .bool (r1070.1.Kind == 2))] (by kernel_rfl) (OW.nil rfl (QW.next ?_))
     obtain ⟨o1098, ho1099, hl1039⟩ := bind_some' hl1039
     refine CW.cutK (fun a w1 => ∃ (S1097 : List Nat), Rep 139 [(2, .pointer (some ⟨b23, 0, none⟩)), (3, .pointer (some ⟨b25, 0, none⟩)), (5, .pointer (some ⟨b133, 0, none⟩)), (7, .pointer (some ⟨b231, 0, none⟩)), (9, .slice a1048 (s1040.2.2.1).length c1049), (10, .slice a1051 (s1040.2.2.2).length c1052), (11, .int .i64 (i1045 : Int)), (12, .pointer (some ⟨b1080, 0, none⟩)), (13, .pointer (some ⟨b1082, 0, none⟩))] a ∧ St w (fp []) w1 [blkI b23 31 [.slice a2 (p0.M.Maps).length c3, .slice a5 (p0.M.Code).length c6, .int .u64 p0.E.A, .int .u64 p0.E.B, .slice a8 (p0.Res).length c9, .int .i64 p0.Odd], blkI b25 31 [.slice a11 (p1.M.Maps).length c12, .slice a14 (p1.M.Code).length c15, .int .u64 p1.E.A, .int .u64 p1.E.B, .slice a17 (p1.Res).length c18, .int .i64 p1.Odd], itI R_t33 [.pointer (some ⟨b133, 0, none⟩)] S1097 o1098, itI R_t33 [.pointer (some ⟨b231, 0, none⟩)] S1079 r1075.2, rowI (.slice a1048 (s1040.2.2.1).length c1049) 46 enc_api_Act 7 s1040.2.2.1, rowI (.slice a1051 (s1040.2.2.2).length c1052) 46 enc_api_Act 7 s1040.2.2.2, blkI b1080 46 [.int .i64 r1070.1.Kind, .int .i64 r1070.1.Pc, .int .i64 r1070.1.Item.Map, .int .i64 r1070.1.Item.Op, .int .u64 r1070.1.Item.Key, .int .u64 r1070.1.Item.Val, .int .u64 r1070.1.Val], blkI b1082 46 [.int .i64 r1075.1.Kind, .int .i64 r1075.1.Pc, .int .i64 r1075.1.Item.Map, .int .i64 r1075.1.Item.Op, .int .u64 r1075.1.Item.Key, .int .u64 r1075.1.Item.Val, .int .u64 r1075.1.Val]]) ?_ ?_
     ·rcases Bool.eq_false_or_eq_true ((r1070.1.Kind == 2)) with hc1100 | hc1100
      ·have ho1099 := ite_t ho1099 hc1100
       refine CW.cond_t rfl hc1100 (CW.region ?_)
       refine OW.pure 2 [(78, .pointer (some ⟨b133, 0, none⟩)), (79, .agg [.int .i64 0, .bool true, .int .u64 6, .bool false, .int .u64 0, .int .u64 0].toArray)] (by kernel_rfl) ?_
       obtain ⟨r1106, hr1107, ho1099⟩ := bind_some' ho1099
       refine OW.fn rfl rfl rfl rfl (by kernel_rfl) (engine_Machine_Answer_ok _ (.pointer (some ⟨b133, 0, none⟩)) S1074 r1070.2 (api_Res.mk 0 true 6 false 0 0) r1106 hr1107 (hst.part [1] rfl)) ?_
       rintro e w1108 ⟨S1110, rfl, hst1109⟩
       refine ⟨_, rfl, ?_⟩
       have hst := hst.join (idx := [1]) (rest := [0, 2, 3, 4, 5, 6, 7]) rfl hst1109
       refine OW.nil rfl ?_
       obtain rfl := Option.some.inj ho1099
       exact QW.meet (fun a ha => ⟨S1110, ha.agrees (by kernel_rfl), hst.keep [2, 3, 0, 1, 4, 5, 6, 7] rfl⟩)
      have ho1099 := ite_f ho1099 hc1100
      refine CW.cond_f rfl hc1100 (CW.skip ?_)
      obtain rfl := Option.some.inj ho1099
      exact QW.meet (fun a ha => ⟨S1074, ha.agrees (by kernel_rfl), hst.keep [2, 3, 1, 0, 4, 5, 6, 7] rfl⟩)
     rintro a w1 ⟨S1097, ha, hst⟩
     refine CW.go ?_ ha
     refine CW.seq (CW.seq (CW.region ?_))
     refine OW.pure 1 [(81, .pointer (some ⟨b1082, 0, none⟩))] (by kernel_rfl) ?_
     refine OW.ld rfl rfl rfl rfl (by kernel_rfl) (hst.blk 7 rfl rfl) ?_
     refine OW.pure 1 [(83, .bool (r1075.1.Kind == 2))] (by kernel_rfl) (OW.nil rfl (QW.next ?_))
     obtain ⟨o1123, ho1124, hl1039⟩ := bind_some' hl1039
     refine CW.cutK (fun a w1 => ∃ (S1122 : List Nat), Rep 139 [(2, .pointer (some ⟨b23, 0, none⟩)), (3, .pointer (some ⟨b25, 0, none⟩)), (5, .pointer (some ⟨b133, 0, none⟩)), (7, .pointer (some ⟨b231, 0, none⟩)), (9, .slice a1048 (s1040.2.2.1).length c1049), (10, .slice a1051 (s1040.2.2.2).length c1052), (11, .int .i64 (i1045 : Int)), (12, .pointer (some ⟨b1080, 0, none⟩)), (13, .pointer (some ⟨b1082, 0, none⟩))] a ∧ St w (fp []) w1 [blkI b23 31 [.slice a2 (p0.M.Maps).length c3, .slice a5 (p0.M.Code).length c6, .int .u64 p0.E.A, .int .u64 p0.E.B, .slice a8 (p0.Res).length c9, .int .i64 p0.Odd], blkI b25 31 [.slice a11 (p1.M.Maps).length c12, .slice a14 (p1.M.Code).length c15, .int .u64 p1.E.A, .int .u64 p1.E.B, .slice a17 (p1.Res).length c18, .int .i64 p1.Odd], itI R_t33 [.pointer (some ⟨b133, 0, none⟩)] S1097 o1098, itI R_t33 [.pointer (some ⟨b231, 0, none⟩)] S1122 o1123, rowI (.slice a1048 (s1040.2.2.1).length c1049) 46 enc_api_Act 7 s1040.2.2.1, rowI (.slice a1051 (s1040.2.2.2).length c1052) 46 enc_api_Act 7 s1040.2.2.2, blkI b1080 46 [.int .i64 r1070.1.Kind, .int .i64 r1070.1.Pc, .int .i64 r1070.1.Item.Map, .int .i64 r1070.1.Item.Op, .int .u64 r1070.1.Item.Key, .int .u64 r1070.1.Item.Val, .int .u64 r1070.1.Val], blkI b1082 46 [.int .i64 r1075.1.Kind, .int .i64 r1075.1.Pc, .int .i64 r1075.1.Item.Map, .int .i64 r1075.1.Item.Op, .int .u64 r1075.1.Item.Key, .int .u64 r1075.1.Item.Val, .int .u64 r1075.1.Val]]) ?_ ?_
     ·rcases Bool.eq_false_or_eq_true ((r1075.1.Kind == 2)) with hc1125 | hc1125
      ·have ho1124 := ite_t ho1124 hc1125
       refine CW.cond_t rfl hc1125 (CW.region ?_)
       refine OW.pure 2 [(84, .pointer (some ⟨b231, 0, none⟩)), (85, .agg [.int .i64 0, .bool false, .int .u64 7, .bool false, .int .u64 0, .int .u64 0].toArray)] (by kernel_rfl) ?_
       obtain ⟨r1131, hr1132, ho1124⟩ := bind_some' ho1124
       refine OW.fn rfl rfl rfl rfl (by kernel_rfl) (engine_Machine_Answer_ok _ (.pointer (some ⟨b231, 0, none⟩)) S1079 r1075.2 (api_Res.mk 0 false 7 false 0 0) r1131 hr1132 (hst.part [3] rfl)) ?_
       rintro e w1133 ⟨S1135, rfl, hst1134⟩
       refine ⟨_, rfl, ?_⟩
       have hst := hst.join (idx := [3]) (rest := [0, 1, 2, 4, 5, 6, 7]) rfl hst1134
       refine OW.nil rfl ?_
       obtain rfl := Option.some.inj ho1124
       exact QW.meet (fun a ha => ⟨S1135, ha.agrees (by kernel_rfl), hst.keep [1, 2, 3, 0, 4, 5, 6, 7] rfl⟩)
      have ho1124 := ite_f ho1124 hc1125
      refine CW.cond_f rfl hc1125 (CW.skip ?_)
      obtain rfl := Option.some.inj ho1124
      exact QW.meet (fun a ha => ⟨S1079, ha.agrees (by kernel_rfl), hst.keep [0, 1, 2, 3, 4, 5, 6, 7] rfl⟩)
     rintro a w1 ⟨S1122, ha, hst⟩
     refine CW.go ?_ ha
     refine CW.seq (CW.seq (CW.region ?_))
     refine OW.pure 1 [(87, .pointer (some ⟨b1080, 0, none⟩))] (by kernel_rfl) ?_
     refine OW.ld rfl rfl rfl rfl (by kernel_rfl) (hst.blk 6 rfl rfl) ?_
     refine OW.pure 1 [(89, .bool (r1070.1.Kind != 6))] (by kernel_rfl) (OW.nil rfl (QW.next ?_))
     obtain ⟨o1156, ho1157, hl1039⟩ := bind_some' hl1039
     refine CW.cutK (fun a w1 => ∃ (v1155 : Value), Rep 139 [(2, .pointer (some ⟨b23, 0, none⟩)), (3, .pointer (some ⟨b25, 0, none⟩)), (5, .pointer (some ⟨b133, 0, none⟩)), (7, .pointer (some ⟨b231, 0, none⟩)), (9, v1155), (10, .slice a1051 (s1040.2.2.2).length c1052), (11, .int .i64 (i1045 : Int)), (13, .pointer (some ⟨b1082, 0, none⟩))] a ∧ St w (fp []) w1 [blkI b23 31 [.slice a2 (p0.M.Maps).length c3, .slice a5 (p0.M.Code).length c6, .int .u64 p0.E.A, .int .u64 p0.E.B, .slice a8 (p0.Res).length c9, .int .i64 p0.Odd], blkI b25 31 [.slice a11 (p1.M.Maps).length c12, .slice a14 (p1.M.Code).length c15, .int .u64 p1.E.A, .int .u64 p1.E.B, .slice a17 (p1.Res).length c18, .int .i64 p1.Odd], itI R_t33 [.pointer (some ⟨b133, 0, none⟩)] S1097 o1098, itI R_t33 [.pointer (some ⟨b231, 0, none⟩)] S1122 o1123, rowI v1155 46 enc_api_Act 7 o1156, rowI (.slice a1051 (s1040.2.2.2).length c1052) 46 enc_api_Act 7 s1040.2.2.2, blkI b1082 46 [.int .i64 r1075.1.Kind, .int .i64 r1075.1.Pc, .int .i64 r1075.1.Item.Map, .int .i64 r1075.1.Item.Op, .int .u64 r1075.1.Item.Key, .int .u64 r1075.1.Item.Val, .int .u64 r1075.1.Val]]) ?_ ?_
     ·rcases Bool.eq_false_or_eq_true ((r1070.1.Kind != 6)) with hc1158 | hc1158
      ·have ho1157 := ite_t ho1157 hc1158
       refine CW.cond_t rfl hc1158 (CW.region ?_)
       refine OW.pure 1 [(90, .slice a1048 (s1040.2.2.1).length c1049)] (by kernel_rfl) ?_
       refine OW.ldN (cs := [.int .i64 r1070.1.Kind, .int .i64 r1070.1.Pc, .int .i64 r1070.1.Item.Map, .int .i64 r1070.1.Item.Op, .int .u64 r1070.1.Item.Key, .int .u64 r1070.1.Item.Val, .int .u64 r1070.1.Val]) rfl rfl rfl rfl (by kernel_rfl) (by kernel_rfl) (hst.blkN 6 rfl 0 7) ?_
       refine OW.row (α := api_Act) (e := 46) (enc := enc_api_Act) (sz := 7) hst rfl rfl rfl [r1070.1] rfl (fun _ => rfl) rfl rfl (fun _ => by kernel_rfl) ?_
       intro g1168 w1169 hst
       obtain ⟨u1170, hr1171, ho1157⟩ := bind_some' ho1157
       refine OW.app hst 4 rfl (fun _ => rfl) (fun _ => rfl) rfl rfl rfl rfl rfl rfl (by kernel_rfl) el46 (hst.rd 8 rfl (fun _ => rfl) [] rfl (hst.len 8 rfl).1) (room_le hr1171) ?_
       intro v1172 w1173 hst
       obtain ⟨l1174, a1175, c1176, rfl⟩ := hst.len 4 rfl
       refine OW.pure 1 [(9, .slice a1175 ((s1040.2.2.1 ++ [r1070.1])).length c1176)] (by kernel_rfl) (OW.nil rfl ?_)
       obtain rfl := Option.some.inj ho1157
       exact QW.meet (fun a ha => ⟨(.slice a1175 ((s1040.2.2.1 ++ [r1070.1])).length c1176), ha.agrees (by kernel_rfl), hst.keep [0, 1, 2, 3, 4, 5, 7] rfl⟩)
      have ho1157 := ite_f ho1157 hc1158
      refine CW.cond_f rfl hc1158 (CW.skip ?_)
      obtain rfl := Option.some.inj ho1157
      exact QW.meet (fun a ha => ⟨(.slice a1048 (s1040.2.2.1).length c1049), ha.agrees (by kernel_rfl), hst.keep [0, 1, 2, 3, 4, 5, 7] rfl⟩)
     rintro a w1 ⟨v1155, ha, hst⟩
     refine CW.go ?_ ha
     obtain ⟨l1179, a1180, c1181, rfl⟩ := hst.len 4 rfl
     refine CW.seq (CW.region ?_)
     refine OW.pure 1 [(94, .pointer (some ⟨b1082, 0, none⟩))] (by kernel_rfl) ?_
     refine OW.ld rfl rfl rfl rfl (by kernel_rfl) (hst.blk 6 rfl rfl) ?_
     refine OW.pure 1 [(96, .bool (r1075.1.Kind != 6))] (by kernel_rfl) (OW.nil rfl (QW.next ?_))
     rcases Bool.eq_false_or_eq_true ((r1075.1.Kind != 6)) with hc1182 | hc1182
     ·have hl1039 := ite_t hl1039 hc1182
      refine CW.cond_t rfl hc1182 (CW.region ?_)
      refine OW.pure 1 [(97, .slice a1051 (s1040.2.2.2).length c1052)] (by kernel_rfl) ?_
      refine OW.ldN (cs := [.int .i64 r1075.1.Kind, .int .i64 r1075.1.Pc, .int .i64 r1075.1.Item.Map, .int .i64 r1075.1.Item.Op, .int .u64 r1075.1.Item.Key, .int .u64 r1075.1.Item.Val, .int .u64 r1075.1.Val]) rfl rfl rfl rfl (by kernel_rfl) (by kernel_rfl) (hst.blkN 6 rfl 0 7) ?_
      refine OW.row (α := api_Act) (e := 46) (enc := enc_api_Act) (sz := 7) hst rfl rfl rfl [r1075.1] rfl (fun _ => rfl) rfl rfl (fun _ => by kernel_rfl) ?_
      intro g1192 w1193 hst
      obtain ⟨u1194, hr1195, hl1039⟩ := bind_some' hl1039
      refine OW.app hst 5 rfl (fun _ => rfl) (fun _ => rfl) rfl rfl rfl rfl rfl rfl (by kernel_rfl) el46 (hst.rd 7 rfl (fun _ => rfl) [] rfl (hst.len 7 rfl).1) (room_le hr1195) ?_
      intro v1196 w1197 hst
      obtain ⟨l1198, a1199, c1200, rfl⟩ := hst.len 5 rfl
      refine OW.pure 1 [(10, .slice a1199 ((s1040.2.2.2 ++ [r1075.1])).length c1200)] (by kernel_rfl) (OW.nil rfl (QW.block_normal (QW.next (CW.region ?_))))
      refine OW.pure 3 [(11, .int .i64 (w64 ((i1045 : Int) + 1)))] (by kernel_rfl) (OW.nil rfl ?_)
      refine QW.say 11 rfl (congrArg (Value.int .i64) (w64_cnt hc1053 (by decide))) ?_
      exact QW.meet (fun a ha => ⟨n1038, Nat.lt_succ_self _, i1045 + 1, (o1098, o1123, o1156, (s1040.2.2.2 ++ [r1075.1])), S1097, S1122, (.slice a1180 (o1156).length c1181), (.slice a1199 ((s1040.2.2.2 ++ [r1075.1])).length c1200), cnt_next hi1046, ha.agrees (by kernel_rfl), hst.keep [0, 1, 2, 3, 4, 5] rfl, hl1039⟩)
     have hl1039 := ite_f hl1039 hc1182
     refine CW.cond_f rfl hc1182 (CW.skip (QW.block_normal (QW.next (CW.region ?_))))
     refine OW.pure 3 [(11, .int .i64 (w64 ((i1045 : Int) + 1)))] (by kernel_rfl) (OW.nil rfl ?_)
     refine QW.say 11 rfl (congrArg (Value.int .i64) (w64_cnt hc1053 (by decide))) ?_
     exact QW.meet (fun a ha => ⟨n1038, Nat.lt_succ_self _, i1045 + 1, (o1098, o1123, o1156, s1040.2.2.2), S1097, S1122, (.slice a1180 (o1156).length c1181), (.slice a1051 (s1040.2.2.2).length c1052), cnt_next hi1046, ha.agrees (by kernel_rfl), hst.keep [0, 1, 2, 3, 4, 5] rfl, hl1039⟩)
    rcases n1038 with _ | n1038
    ·refine CW.cond_f rfl hc1053 ?_
     refine CW.exit (QW.then_exit (QW.then_exit ?_))
     refine QW.block_here ?_
     obtain rfl := Option.some.inj hl1039
     exact QW.meet (fun a ha => ⟨(.slice a1048 (s1040.2.2.1).length c1049), (.slice a1051 (s1040.2.2.2).length c1052), ha.agrees (by kernel_rfl), hst.keep [0, 1, 4, 5] rfl⟩)
    exact (cnt1 hi1046 hc1053).elim
   rintro a w1 ⟨v717, v718, ha, hst⟩
   refine CW.go ?_ ha
   obtain ⟨l1207, a1208, c1209, rfl⟩ := hst.len 2 rfl
   obtain ⟨l1210, a1211, c1212, rfl⟩ := hst.len 3 rfl
   refine CW.seq (CW.region ?_)
   refine OW.pure 2 [(14, .slice none 0 0), (15, .slice none 0 0)] (by kernel_rfl) (OW.nil rfl (QW.next (CW.seq (CW.seq (CW.region ?_)))))
   refine OW.pure 1 [(16, .int .i64 0)] (by kernel_rfl) (OW.nil rfl (QW.next ?_))
   obtain ⟨o1357, ho1358, hF⟩ := bind_some' hF
   refine CW.cutK (fun a w1 => ∃ (v1355 : Value) (v1356 : Value), Rep 139 [(2, .pointer (some ⟨b23, 0, none⟩)), (3, .pointer (some ⟨b25, 0, none⟩)), (9, .slice a1208 (o719.1).length c1209), (10, .slice a1211 (o719.2).length c1212), (14, v1355), (15, v1356)] a ∧ St w (fp []) w1 [blkI b23 31 [.slice a2 (p0.M.Maps).length c3, .slice a5 (p0.M.Code).length c6, .int .u64 p0.E.A, .int .u64 p0.E.B, .slice a8 (p0.Res).length c9, .int .i64 p0.Odd], blkI b25 31 [.slice a11 (p1.M.Maps).length c12, .slice a14 (p1.M.Code).length c15, .int .u64 p1.E.A, .int .u64 p1.E.B, .slice a17 (p1.Res).length c18, .int .i64 p1.Odd], rowI (.slice a1208 (o719.1).length c1209) 46 enc_api_Act 7 o719.1, rowI (.slice a1211 (o719.2).length c1212) 46 enc_api_Act 7 o719.2, rowI v1355 50 enc_api_Res 6 o1357.1, rowI v1356 50 enc_api_Res 6 o1357.2]) ?_ ?_
   ·refine CW.block ?_
    have hst := hst.nilRow api_Res 50 enc_api_Res 6
    have hst := hst.nilRow api_Res 50 enc_api_Res 6
    refine CW.loop (fun n a w1 => ∃ (i1456 : Nat) (s1453 : (List api_Res) × (List api_Res)) (v1454 : Value) (v1455 : Value), i1456 + n = 256 ∧ Rep 139 [(2, .pointer (some ⟨b23, 0, none⟩)), (3, .pointer (some ⟨b25, 0, none⟩)), (9, .slice a1208 (o719.1).length c1209), (10, .slice a1211 (o719.2).length c1212), (14, v1454), (15, v1455), (16, .int .i64 (i1456 : Int))] a ∧ St w (fp []) w1 [blkI b23 31 [.slice a2 (p0.M.Maps).length c3, .slice a5 (p0.M.Code).length c6, .int .u64 p0.E.A, .int .u64 p0.E.B, .slice a8 (p0.Res).length c9, .int .i64 p0.Odd], blkI b25 31 [.slice a11 (p1.M.Maps).length c12, .slice a14 (p1.M.Code).length c15, .int .u64 p1.E.A, .int .u64 p1.E.B, .slice a17 (p1.Res).length c18, .int .i64 p1.Odd], rowI (.slice a1208 (o719.1).length c1209) 46 enc_api_Act 7 o719.1, rowI (.slice a1211 (o719.2).length c1212) 46 enc_api_Act 7 o719.2, rowI v1454 50 enc_api_Res 6 s1453.1, rowI v1455 50 enc_api_Res 6 s1453.2] ∧ forN tappetlaw11_EngineApart_l2 (fun (s1453 : (List api_Res) × (List api_Res)) => (s1453.1, s1453.2)) n i1456 s1453 = some o1357) 256 (fun a ha => ⟨0, (([] : List api_Res), ([] : List api_Res)), (.slice none 0 0), (.slice none 0 0), Nat.zero_add _, ha.agrees (by kernel_rfl), hst.keep [0, 1, 2, 3, 4, 5] rfl, ho1358⟩) ?_
    rintro n1451 a w1 ⟨i1456, s1453, v1454, v1455, hi1457, ha, hst, hl1452⟩
    refine CW.go ?_ ha
    obtain ⟨l1458, a1459, c1460, rfl⟩ := hst.len 4 rfl
    obtain ⟨l1461, a1462, c1463, rfl⟩ := hst.len 5 rfl
    refine CW.seq (CW.seq (CW.region ?_))
    refine OW.pure 2 [(102, .bool (decide ((i1456 : Int) < 256)))] (by kernel_rfl) (OW.nil rfl (QW.next ?_))
    rcases Bool.eq_false_or_eq_true (decide ((i1456 : Int) < 256)) with hc1464 | hc1464
    ·rcases n1451 with _ | n1451
     ·exact (cnt0 hi1457 hc1464).elim
     refine CW.cond_t rfl hc1464 (CW.skip (QW.next (CW.seq (CW.block (CW.seq (CW.region ?_))))))
     refine OW.pure 2 [(105, .slice a1459 (s1453.1).length c1460), (106, .agg [.int .i64 0, .bool true, .int .u64 6, .bool false, .int .u64 0, .int .u64 0].toArray)] (by kernel_rfl) ?_
     refine OW.row (α := api_Res) (e := 50) (enc := enc_api_Res) (sz := 6) hst rfl rfl rfl [(api_Res.mk 0 true 6 false 0 0)] rfl (fun _ => rfl) rfl rfl (fun _ => by kernel_rfl) ?_
     intro g1474 w1475 hst
     obtain ⟨u1476, hr1477, hl1452⟩ := bind_some' hl1452
     refine OW.app hst 4 rfl (fun _ => rfl) (fun _ => rfl) rfl rfl rfl rfl rfl rfl (by kernel_rfl) el50 (hst.rd 6 rfl (fun _ => rfl) [] rfl (hst.len 6 rfl).1) (room_le hr1477) ?_
     intro v1478 w1479 hst
     obtain ⟨l1480, a1481, c1482, rfl⟩ := hst.len 4 rfl
     refine OW.pure 1 [(14, .slice a1481 ((s1453.1 ++ [(api_Res.mk 0 true 6 false 0 0)])).length c1482)] (by kernel_rfl) (OW.nil rfl (QW.next (CW.region ?_)))
     refine OW.pure 2 [(109, .slice a1462 (s1453.2).length c1463), (110, .agg [.int .i64 0, .bool false, .int .u64 7, .bool false, .int .u64 0, .int .u64 0].toArray)] (by kernel_rfl) ?_
     refine OW.row (α := api_Res) (e := 50) (enc := enc_api_Res) (sz := 6) hst rfl rfl rfl [(api_Res.mk 0 false 7 false 0 0)] rfl (fun _ => rfl) rfl rfl (fun _ => by kernel_rfl) ?_
     intro g1492 w1493 hst
     obtain ⟨u1494, hr1495, hl1452⟩ := bind_some' hl1452
     refine OW.app hst 5 rfl (fun _ => rfl) (fun _ => rfl) rfl rfl rfl rfl rfl rfl (by kernel_rfl) el50 (hst.rd 7 rfl (fun _ => rfl) [] rfl (hst.len 7 rfl).1) (room_le hr1495) ?_
     intro v1496 w1497 hst
     obtain ⟨l1498, a1499, c1500, rfl⟩ := hst.len 5 rfl
     refine OW.pure 1 [(15, .slice a1499 ((s1453.2 ++ [(api_Res.mk 0 false 7 false 0 0)])).length c1500)] (by kernel_rfl) (OW.nil rfl (QW.block_normal (QW.next (CW.region ?_))))
     refine OW.pure 3 [(16, .int .i64 (w64 ((i1456 : Int) + 1)))] (by kernel_rfl) (OW.nil rfl ?_)
     refine QW.say 16 rfl (congrArg (Value.int .i64) (w64_cnt hc1464 (by decide))) ?_
     exact QW.meet (fun a ha => ⟨n1451, Nat.lt_succ_self _, i1456 + 1, ((s1453.1 ++ [(api_Res.mk 0 true 6 false 0 0)]), (s1453.2 ++ [(api_Res.mk 0 false 7 false 0 0)])), (.slice a1481 ((s1453.1 ++ [(api_Res.mk 0 true 6 false 0 0)])).length c1482), (.slice a1499 ((s1453.2 ++ [(api_Res.mk 0 false 7 false 0 0)])).length c1500), cnt_next hi1457, ha.agrees (by kernel_rfl), hst.keep [0, 1, 2, 3, 4, 5] rfl, hl1452⟩)
    rcases n1451 with _ | n1451
    ·refine CW.cond_f rfl hc1464 ?_
     refine CW.exit (QW.then_exit (QW.then_exit ?_))
     refine QW.block_here ?_
     obtain rfl := Option.some.inj hl1452
     exact QW.meet (fun a ha => ⟨(.slice a1459 (s1453.1).length c1460), (.slice a1462 (s1453.2).length c1463), ha.agrees (by kernel_rfl), hst.keep [0, 1, 2, 3, 4, 5] rfl⟩)
    exact (cnt1 hi1457 hc1464).elim
   rintro a w1 ⟨v1355, v1356, ha, hst⟩
   refine CW.go ?_ ha
   obtain ⟨l1505, a1506, c1507, rfl⟩ := hst.len 4 rfl
   obtain ⟨l1508, a1509, c1510, rfl⟩ := hst.len 5 rfl
   refine CW.seq (CW.region ?_)
   refine OW.pure 1 [(114, .pointer (some ⟨b23, 0, none⟩))] (by kernel_rfl) ?_
   refine OW.ldN (cs := [.slice a2 (p0.M.Maps).length c3, .slice a5 (p0.M.Code).length c6]) rfl rfl rfl rfl (by kernel_rfl) (by kernel_rfl) (hst.blkN 0 rfl 0 2) ?_
   refine OW.pure 1 [(116, .pointer (some ⟨b23, 2, none⟩))] (by kernel_rfl) ?_
   refine OW.ldN (cs := [.int .u64 p0.E.A, .int .u64 p0.E.B]) rfl rfl rfl rfl (by kernel_rfl) (by kernel_rfl) (hst.blkN 0 rfl 2 2) ?_
   refine OW.pure 1 [(118, .slice a1506 (o1357.1).length c1507)] (by kernel_rfl) ?_
   obtain ⟨r1519, hr1520, hF⟩ := bind_some' hF
   refine OW.fn rfl rfl rfl rfl (by kernel_rfl) (engine_Trace_ok _ fu (.slice a2 (p0.M.Maps).length c3) (.slice a5 (p0.M.Code).length c6) p0.M p0.E (.slice a1506 (o1357.1).length c1507) o1357.1 r1519 hr1520 (hst.part [] rfl) (h0_0.give hst []) (h0_1.give hst []) (hst.rd 4 rfl (fun _ => rfl) [] rfl (hst.len 4 rfl).1) (hT0.give hst []) (hT1.give hst [])) ?_
   rintro e w1521 ⟨v1523, rfl, hst1522⟩
   refine ⟨_, rfl, ?_⟩
   have hst := hst.join (idx := []) (rest := [0, 1, 2, 3, 4, 5]) rfl hst1522
   obtain ⟨l1524, a1525, c1526, rfl⟩ := hst.len 0 rfl
   refine OW.pure 5 [(17, .slice a1525 (r1519.1).length c1526)] (by kernel_rfl) (OW.nil rfl (QW.next (CW.seq (CW.region ?_))))
   refine OW.pure 1 [(123, .pointer (some ⟨b25, 0, none⟩))] (by kernel_rfl) ?_
   refine OW.ldN (cs := [.slice a11 (p1.M.Maps).length c12, .slice a14 (p1.M.Code).length c15]) rfl rfl rfl rfl (by kernel_rfl) (by kernel_rfl) (hst.blkN 2 rfl 0 2) ?_
   refine OW.pure 1 [(125, .pointer (some ⟨b25, 2, none⟩))] (by kernel_rfl) ?_
   refine OW.ldN (cs := [.int .u64 p1.E.A, .int .u64 p1.E.B]) rfl rfl rfl rfl (by kernel_rfl) (by kernel_rfl) (hst.blkN 2 rfl 2 2) ?_
   refine OW.pure 1 [(127, .slice a1509 (o1357.2).length c1510)] (by kernel_rfl) ?_
   obtain ⟨r1535, hr1536, hF⟩ := bind_some' hF
   refine OW.fn rfl rfl rfl rfl (by kernel_rfl) (engine_Trace_ok _ fu (.slice a11 (p1.M.Maps).length c12) (.slice a14 (p1.M.Code).length c15) p1.M p1.E (.slice a1509 (o1357.2).length c1510) o1357.2 r1535 hr1536 (hst.part [] rfl) (h1_0.give hst []) (h1_1.give hst []) (hst.rd 6 rfl (fun _ => rfl) [] rfl (hst.len 6 rfl).1) (hT0.give hst []) (hT1.give hst [])) ?_
   rintro e w1537 ⟨v1539, rfl, hst1538⟩
   refine ⟨_, rfl, ?_⟩
   have hst := hst.join (idx := []) (rest := [0, 1, 2, 3, 4, 5, 6]) rfl hst1538
   obtain ⟨l1540, a1541, c1542, rfl⟩ := hst.len 0 rfl
   refine OW.pure 5 [(19, .slice a1541 (r1535.1).length c1542)] (by kernel_rfl) (OW.nil rfl (QW.next (CW.seq ?_)))
   obtain ⟨o1556, ho1557, hF⟩ := bind_some' hF
   refine CW.cutK (fun a w1 => Rep 139 [(4, .bool o1556)] a ∧ St w (fp []) w1 []) ?_ ?_
   ·refine CW.region ?_
    refine OW.pure 2 [(131, .slice a1208 (o719.1).length c1209), (132, .slice a1525 (r1519.1).length c1526)] (by kernel_rfl) ?_
    obtain ⟨r1558, hr1559, ho1557⟩ := bind_some' ho1557
    refine OW.fn rfl rfl rfl rfl (by kernel_rfl) (tappetlaw11_alike_ok _ (.slice a1208 (o719.1).length c1209) o719.1 (.slice a1525 (r1519.1).length c1526) r1519.1 r1558 hr1559 (hst.part [] rfl) (hst.rd 4 rfl (fun _ => rfl) [] rfl (hst.len 4 rfl).1) (hst.rd 1 rfl (fun _ => rfl) [] rfl (hst.len 1 rfl).1)) ?_
    rintro e w1560 ⟨rfl, hst1561⟩
    refine ⟨_, rfl, ?_⟩
    have hst := hst.join (idx := []) (rest := [0, 1, 2, 3, 4, 5, 6, 7]) rfl hst1561
    refine OW.pure 1 [(134, .bool r1558)] (by kernel_rfl) ?_
    refine OW.split 134 rfl (fun hc1562 => ?_) (fun hc1562 => ?_)
    ·have ho1557 := ite_t ho1557 hc1562
     refine OW.pure 2 [(135, .slice a1211 (o719.2).length c1212), (136, .slice a1541 (r1535.1).length c1542)] (by kernel_rfl) ?_
     obtain ⟨r1563, hr1564, ho1557⟩ := bind_some' ho1557
     refine OW.fn rfl rfl rfl rfl (by kernel_rfl) (tappetlaw11_alike_ok _ (.slice a1211 (o719.2).length c1212) o719.2 (.slice a1541 (r1535.1).length c1542) r1535.1 r1563 hr1564 (hst.part [] rfl) (hst.rd 5 rfl (fun _ => rfl) [] rfl (hst.len 5 rfl).1) (hst.rd 0 rfl (fun _ => rfl) [] rfl (hst.len 0 rfl).1)) ?_
     rintro e w1565 ⟨rfl, hst1566⟩
     refine ⟨_, rfl, ?_⟩
     have hst := hst.join (idx := []) (rest := [0, 1, 2, 3, 4, 5, 6, 7]) rfl hst1566
     refine OW.pure 2 [(4, .bool r1563)] (by kernel_rfl) (OW.nil rfl ?_)
     obtain rfl := Option.some.inj ho1557
     exact QW.meet (fun a ha => ⟨ha.agrees (by kernel_rfl), hst.keep [] rfl⟩)
    have ho1557 := ite_f ho1557 hc1562
    refine OW.pure 5 [(4, .bool false)] (by kernel_rfl) (OW.nil rfl ?_)
    obtain rfl := Option.some.inj ho1557
    exact QW.meet (fun a ha => ⟨ha.agrees (by kernel_rfl), hst.keep [] rfl⟩)
   rintro a w1 ⟨ha, hst⟩
   refine CW.go ?_ ha
   refine CW.ret ?_
   obtain rfl := Option.some.inj hF
   refine QW.ret1 rfl rfl ?_
   exact ⟨rfl, hst.keep [] rfl⟩
  have hF := ocase_none hF he230
  refine ⟨_, rfl, ?_⟩
  have hst := hst.join (idx := [0]) (rest := [1, 2, 3, 4, 5, 6, 7]) rfl hst225
  refine OA.next trivial ?_
  refine OA.pure [7, 8, 9] [(41, .pointer none), (42, .int .i64 r222.2)] (by kernel_rfl) ?_
  refine OA.act (i := 10) [] (by kernel_rfl) rfl rfl (by kernel_rfl) (by kernel_rfl) ?_
  refine OW.pure 1 [(7, .pointer none)] (by kernel_rfl) (OA.next trivial ?_)
  refine OA.act (i := 11) [] (by kernel_rfl) rfl rfl (by kernel_rfl) (by kernel_rfl) ?_
  refine OW.pure 1 [(8, .int .i64 r222.2)] (by kernel_rfl) (OA.next trivial ?_)
  refine OA.fin (by kernel_rfl) (by kernel_rfl) (QW.next (CW.seq (CW.seq ?_)))
  refine CW.cutK (fun a w1 => Rep 139 [(2, .pointer (some ⟨b23, 0, none⟩)), (3, .pointer (some ⟨b25, 0, none⟩)), (5, .pointer (some ⟨b133, 0, none⟩)), (6, .int .i64 r124.2), (7, .pointer none), (8, .int .i64 r222.2), (48, .bool ((r124.2 != 0) || (r222.2 != 0)))] a ∧ St w (fp []) w1 [itI R_t33 [.pointer (some ⟨b133, 0, none⟩)] S131 k128, blkI b23 31 [.slice a2 (p0.M.Maps).length c3, .slice a5 (p0.M.Code).length c6, .int .u64 p0.E.A, .int .u64 p0.E.B, .slice a8 (p0.Res).length c9, .int .i64 p0.Odd], blkI b25 31 [.slice a11 (p1.M.Maps).length c12, .slice a14 (p1.M.Code).length c15, .int .u64 p1.E.A, .int .u64 p1.E.B, .slice a17 (p1.Res).length c18, .int .i64 p1.Odd]]) ?_ ?_
  ·refine CW.region ?_
   refine OW.pure 3 [(45, .bool (r124.2 != 0))] (by kernel_rfl) ?_
   refine OW.split 45 rfl (fun hc1567 => ?_) (fun hc1567 => ?_)
   ·refine OW.pure 3 [(48, .bool true)] (by kernel_rfl) (OW.nil rfl ?_)
    refine QW.say 48 (v := .bool ((r124.2 != 0) || (r222.2 != 0))) rfl (by first | (rw [hc1567]; done) | (rw [hc1567]; rfl) | simp [hc1567]) ?_
    exact QW.meet (fun a ha => ⟨ha.agrees (by kernel_rfl), hst.keep [2, 5, 6] rfl⟩)
   refine OW.pure 3 [(48, .bool (r222.2 != 0))] (by kernel_rfl) (OW.nil rfl ?_)
   refine QW.say 48 (v := .bool ((r124.2 != 0) || (r222.2 != 0))) rfl (by first | (rw [hc1567]; done) | (rw [hc1567]; rfl) | simp [hc1567]) ?_
   exact QW.meet (fun a ha => ⟨ha.agrees (by kernel_rfl), hst.keep [2, 5, 6] rfl⟩)
  rintro a w1 ⟨ha, hst⟩
  refine CW.go ?_ ha
  rcases Bool.eq_false_or_eq_true (((r124.2 != 0) || (r222.2 != 0))) with hc1568 | hc1568
  ·have hF := ite_t hF hc1568
   refine CW.cond_t rfl hc1568 (CW.seq ?_)
   refine CW.cutK (fun a w1 => Rep 139 [(4, .bool ((false == (r124.2 != 0)) && (true == (r222.2 != 0))))] a ∧ St w (fp []) w1 []) ?_ ?_
   ·refine CW.region ?_
    refine OW.pure 6 [(54, .bool (false == (r124.2 != 0)))] (by kernel_rfl) ?_
    refine OW.split 54 rfl (fun hc1569 => ?_) (fun hc1569 => ?_)
    ·refine OW.pure 7 [(4, .bool (true == (r222.2 != 0)))] (by kernel_rfl) (OW.nil rfl ?_)
     refine QW.say 4 (v := .bool ((false == (r124.2 != 0)) && (true == (r222.2 != 0)))) rfl (by first | (rw [hc1569]; done) | (rw [hc1569]; rfl) | simp [hc1569]) ?_
     exact QW.meet (fun a ha => ⟨ha.agrees (by kernel_rfl), hst.keep [] rfl⟩)
    refine OW.pure 7 [(4, .bool false)] (by kernel_rfl) (OW.nil rfl ?_)
    refine QW.say 4 (v := .bool ((false == (r124.2 != 0)) && (true == (r222.2 != 0)))) rfl (by first | (rw [hc1569]; done) | (rw [hc1569]; rfl) | simp [hc1569]) ?_
    exact QW.meet (fun a ha => ⟨ha.agrees (by kernel_rfl), hst.keep [] rfl⟩)
   rintro a w1 ⟨ha, hst⟩
   refine CW.go ?_ ha
   refine CW.ret (QW.then_ret ?_)
   obtain rfl := Option.some.inj hF
   refine QW.ret1 rfl rfl ?_
   exact ⟨rfl, hst.keep [] rfl⟩
  have hF := ite_f hF hc1568
  refine CW.cond_f rfl hc1568 (CW.skip (QW.next (CW.seq (CW.seq (CW.region ?_)))))
  refine OW.pure 6 [(66, .bool true)] (by kernel_rfl) (OW.nil rfl (QW.next ?_))
  refine CW.cond_t rfl rfl (CW.seq (CW.region ?_))
  refine OW.pure 1 [(4, .bool false)] (by kernel_rfl) (OW.nil rfl (QW.next (CW.ret (QW.then_ret ?_))))
  obtain rfl := Option.some.inj hF
  refine QW.ret1 rfl rfl ?_
  exact ⟨rfl, hst.keep [] rfl⟩
 have hF := ocase_none hF he132
 refine ⟨_, rfl, ?_⟩
 have hst := hst.join (idx := [0]) (rest := [1, 2, 3, 4]) rfl hst127
 refine OA.next trivial ?_
 refine OA.pure [7, 8, 9] [(31, .pointer none), (32, .int .i64 r124.2)] (by kernel_rfl) ?_
 refine OA.act (i := 10) [] (by kernel_rfl) rfl rfl (by kernel_rfl) (by kernel_rfl) ?_
 refine OW.pure 1 [(5, .pointer none)] (by kernel_rfl) (OA.next trivial ?_)
 refine OA.act (i := 11) [] (by kernel_rfl) rfl rfl (by kernel_rfl) (by kernel_rfl) ?_
 refine OW.pure 1 [(6, .int .i64 r124.2)] (by kernel_rfl) (OA.next trivial ?_)
 refine OA.fin (by kernel_rfl) (by kernel_rfl) (QW.next (CW.seq ?_))
 refine CW.plan (by kernel_rfl) ?_
 intro w1619 hch1620
 have hst := hst.same hch1620
 refine OA.pure [0] [(34, .pointer (some ⟨b25, 0, none⟩))] (by kernel_rfl) ?_
 refine OA.ldN (i := 1) (cs := [.slice a11 (p1.M.Maps).length c12, .slice a14 (p1.M.Code).length c15]) rfl (by kernel_rfl) rfl rfl rfl (by kernel_rfl) (by kernel_rfl) (hst.blkN 3 rfl 0 2) ?_
 refine OA.pure [3] [(37, .pointer (some ⟨b25, 2, none⟩))] (by kernel_rfl) ?_
 refine OA.ldN (i := 4) (cs := [.int .u64 p1.E.A, .int .u64 p1.E.B]) rfl (by kernel_rfl) rfl rfl rfl (by kernel_rfl) (by kernel_rfl) (hst.blkN 3 rfl 2 2) ?_
 refine OA.act (i := 2) [4] (by kernel_rfl) rfl rfl (by kernel_rfl) (by kernel_rfl) ?_
 obtain ⟨r1621, hr1622, hF⟩ := bind_some' hF
 refine OW.fn rfl rfl rfl rfl (by kernel_rfl) (tappetlaw11_copied_ok _ (.slice a11 (p1.M.Maps).length c12) (.slice a14 (p1.M.Code).length c15) p1.M r1621 hr1622 (hst.part [] rfl) (h1_0.give hst []) (h1_1.give hst [])) ?_
 rintro e w1623 ⟨v1625, v1626, rfl, hst1624⟩
 refine ⟨_, rfl, ?_⟩
 have hst := hst.join (idx := []) (rest := [0, 1, 2, 3]) rfl hst1624
 obtain ⟨l1645, a1646, c1647, rfl⟩ := hst.len 0 rfl
 obtain ⟨l1648, a1649, c1650, rfl⟩ := hst.len 1 rfl
 refine OA.next ⟨(hst.blkN 5 rfl 2 2), trivial⟩ ?_
 refine OA.act (i := 5) [4] (by kernel_rfl) rfl rfl (by kernel_rfl) (by kernel_rfl) ?_
 obtain ⟨r1651, hr1652, hF⟩ := bind_some' hF
 refine OW.fn rfl rfl rfl rfl (by kernel_rfl) (scratch_New_ok _ r1651 hr1652 (hst.part [] rfl)) ?_
 rintro e w1653 ⟨v1655, S1656, rfl, hst1654⟩
 refine ⟨_, rfl, ?_⟩
 have hst := hst.join (idx := []) (rest := [0, 1, 2, 3, 4, 5]) rfl hst1654
 obtain ⟨b1657, rfl⟩ := hst.fptr 0 rfl
 refine OA.next ⟨(hst.blkN 6 rfl 2 2), trivial⟩ ?_
 refine OA.act (i := 6) [] (by kernel_rfl) rfl rfl (by kernel_rfl) (by kernel_rfl) ?_
 obtain ⟨r1658, hr1659, hF⟩ := bind_some' hF
 refine OW.fn rfl rfl rfl rfl (by kernel_rfl) (engine_New_ok _ fu (.slice a1646 (r1621.Maps).length c1647) (.slice a1649 (r1621.Code).length c1650) r1621 p1.E (.pointer (some ⟨b1657, 0, none⟩)) S1656 r1651 r1658 hr1659 (hst.part [0] rfl) (hst.rd 1 rfl (fun _ => rfl) [0] rfl (hst.len 1 rfl).1) (hst.rd 2 rfl (fun _ => rfl) [0] rfl (hst.len 2 rfl).1) (hT0.give hst [0]) (hT1.give hst [0])) ?_
 rintro e w1660 (⟨k1662, v1664, S1665, he1663, rfl, hst1661⟩ | ⟨he1666, rfl, hst1661⟩)
 ·have hF := ocase_some hF he1663
  refine ⟨_, rfl, ?_⟩
  have hst := hst.join (idx := [0]) (rest := [1, 2, 3, 4, 5, 6]) rfl hst1661
  obtain ⟨b1667, rfl⟩ := hst.fptr 0 rfl
  refine OA.next trivial ?_
  refine OA.pure [7, 8, 9] [(41, .pointer (some ⟨b1667, 0, none⟩)), (42, .int .i64 r1658.2)] (by kernel_rfl) ?_
  refine OA.act (i := 10) [] (by kernel_rfl) rfl rfl (by kernel_rfl) (by kernel_rfl) ?_
  refine OW.pure 1 [(7, .pointer (some ⟨b1667, 0, none⟩))] (by kernel_rfl) (OA.next trivial ?_)
  refine OA.act (i := 11) [] (by kernel_rfl) rfl rfl (by kernel_rfl) (by kernel_rfl) ?_
  refine OW.pure 1 [(8, .int .i64 r1658.2)] (by kernel_rfl) (OA.next trivial ?_)
  refine OA.fin (by kernel_rfl) (by kernel_rfl) (QW.next (CW.seq (CW.seq ?_)))
  refine CW.cutK (fun a w1 => Rep 139 [(2, .pointer (some ⟨b23, 0, none⟩)), (3, .pointer (some ⟨b25, 0, none⟩)), (5, .pointer none), (6, .int .i64 r124.2), (7, .pointer (some ⟨b1667, 0, none⟩)), (8, .int .i64 r1658.2), (48, .bool ((r124.2 != 0) || (r1658.2 != 0)))] a ∧ St w (fp []) w1 [itI R_t33 [.pointer (some ⟨b1667, 0, none⟩)] S1665 k1662, blkI b23 31 [.slice a2 (p0.M.Maps).length c3, .slice a5 (p0.M.Code).length c6, .int .u64 p0.E.A, .int .u64 p0.E.B, .slice a8 (p0.Res).length c9, .int .i64 p0.Odd], blkI b25 31 [.slice a11 (p1.M.Maps).length c12, .slice a14 (p1.M.Code).length c15, .int .u64 p1.E.A, .int .u64 p1.E.B, .slice a17 (p1.Res).length c18, .int .i64 p1.Odd]]) ?_ ?_
  ·refine CW.region ?_
   refine OW.pure 3 [(45, .bool (r124.2 != 0))] (by kernel_rfl) ?_
   refine OW.split 45 rfl (fun hc1668 => ?_) (fun hc1668 => ?_)
   ·refine OW.pure 3 [(48, .bool true)] (by kernel_rfl) (OW.nil rfl ?_)
    refine QW.say 48 (v := .bool ((r124.2 != 0) || (r1658.2 != 0))) rfl (by first | (rw [hc1668]; done) | (rw [hc1668]; rfl) | simp [hc1668]) ?_
    exact QW.meet (fun a ha => ⟨ha.agrees (by kernel_rfl), hst.keep [0, 5, 6] rfl⟩)
   refine OW.pure 3 [(48, .bool (r1658.2 != 0))] (by kernel_rfl) (OW.nil rfl ?_)
   refine QW.say 48 (v := .bool ((r124.2 != 0) || (r1658.2 != 0))) rfl (by first | (rw [hc1668]; done) | (rw [hc1668]; rfl) | simp [hc1668]) ?_
   exact QW.meet (fun a ha => ⟨ha.agrees (by kernel_rfl), hst.keep [0, 5, 6] rfl⟩)
  rintro a w1 ⟨ha, hst⟩
  refine CW.go ?_ ha
  rcases Bool.eq_false_or_eq_true (((r124.2 != 0) || (r1658.2 != 0))) with hc1669 | hc1669
  ·have hF := ite_t hF hc1669
   refine CW.cond_t rfl hc1669 (CW.seq ?_)
   refine CW.cutK (fun a w1 => Rep 139 [(4, .bool ((true == (r124.2 != 0)) && (false == (r1658.2 != 0))))] a ∧ St w (fp []) w1 []) ?_ ?_
   ·refine CW.region ?_
    refine OW.pure 6 [(54, .bool (true == (r124.2 != 0)))] (by kernel_rfl) ?_
    refine OW.split 54 rfl (fun hc1670 => ?_) (fun hc1670 => ?_)
    ·refine OW.pure 7 [(4, .bool (false == (r1658.2 != 0)))] (by kernel_rfl) (OW.nil rfl ?_)
     refine QW.say 4 (v := .bool ((true == (r124.2 != 0)) && (false == (r1658.2 != 0)))) rfl (by first | (rw [hc1670]; done) | (rw [hc1670]; rfl) | simp [hc1670]) ?_
     exact QW.meet (fun a ha => ⟨ha.agrees (by kernel_rfl), hst.keep [] rfl⟩)
    refine OW.pure 7 [(4, .bool false)] (by kernel_rfl) (OW.nil rfl ?_)
    refine QW.say 4 (v := .bool ((true == (r124.2 != 0)) && (false == (r1658.2 != 0)))) rfl (by first | (rw [hc1670]; done) | (rw [hc1670]; rfl) | simp [hc1670]) ?_
    exact QW.meet (fun a ha => ⟨ha.agrees (by kernel_rfl), hst.keep [] rfl⟩)
   rintro a w1 ⟨ha, hst⟩
   refine CW.go ?_ ha
   refine CW.ret (QW.then_ret ?_)
   obtain rfl := Option.some.inj hF
   refine QW.ret1 rfl rfl ?_
   exact ⟨rfl, hst.keep [] rfl⟩
  have hF := ite_f hF hc1669
  refine CW.cond_f rfl hc1669 (CW.skip (QW.next (CW.seq (CW.seq (CW.region ?_)))))
  refine OW.pure 6 [(66, .bool true)] (by kernel_rfl) (OW.nil rfl (QW.next ?_))
  refine CW.cond_t rfl rfl (CW.seq (CW.region ?_))
  refine OW.pure 1 [(4, .bool false)] (by kernel_rfl) (OW.nil rfl (QW.next (CW.ret (QW.then_ret ?_))))
  obtain rfl := Option.some.inj hF
  refine QW.ret1 rfl rfl ?_
  exact ⟨rfl, hst.keep [] rfl⟩
 have hF := ocase_none hF he1666
 refine ⟨_, rfl, ?_⟩
 have hst := hst.join (idx := [0]) (rest := [1, 2, 3, 4, 5, 6]) rfl hst1661
 refine OA.next trivial ?_
 refine OA.pure [7, 8, 9] [(41, .pointer none), (42, .int .i64 r1658.2)] (by kernel_rfl) ?_
 refine OA.act (i := 10) [] (by kernel_rfl) rfl rfl (by kernel_rfl) (by kernel_rfl) ?_
 refine OW.pure 1 [(7, .pointer none)] (by kernel_rfl) (OA.next trivial ?_)
 refine OA.act (i := 11) [] (by kernel_rfl) rfl rfl (by kernel_rfl) (by kernel_rfl) ?_
 refine OW.pure 1 [(8, .int .i64 r1658.2)] (by kernel_rfl) (OA.next trivial ?_)
 refine OA.fin (by kernel_rfl) (by kernel_rfl) (QW.next (CW.seq (CW.seq ?_)))
 refine CW.cutK (fun a w1 => Rep 139 [(2, .pointer (some ⟨b23, 0, none⟩)), (3, .pointer (some ⟨b25, 0, none⟩)), (5, .pointer none), (6, .int .i64 r124.2), (7, .pointer none), (8, .int .i64 r1658.2), (48, .bool ((r124.2 != 0) || (r1658.2 != 0)))] a ∧ St w (fp []) w1 [blkI b23 31 [.slice a2 (p0.M.Maps).length c3, .slice a5 (p0.M.Code).length c6, .int .u64 p0.E.A, .int .u64 p0.E.B, .slice a8 (p0.Res).length c9, .int .i64 p0.Odd], blkI b25 31 [.slice a11 (p1.M.Maps).length c12, .slice a14 (p1.M.Code).length c15, .int .u64 p1.E.A, .int .u64 p1.E.B, .slice a17 (p1.Res).length c18, .int .i64 p1.Odd]]) ?_ ?_
 ·refine CW.region ?_
  refine OW.pure 3 [(45, .bool (r124.2 != 0))] (by kernel_rfl) ?_
  refine OW.split 45 rfl (fun hc1671 => ?_) (fun hc1671 => ?_)
  ·refine OW.pure 3 [(48, .bool true)] (by kernel_rfl) (OW.nil rfl ?_)
   refine QW.say 48 (v := .bool ((r124.2 != 0) || (r1658.2 != 0))) rfl (by first | (rw [hc1671]; done) | (rw [hc1671]; rfl) | simp [hc1671]) ?_
   exact QW.meet (fun a ha => ⟨ha.agrees (by kernel_rfl), hst.keep [4, 5] rfl⟩)
  refine OW.pure 3 [(48, .bool (r1658.2 != 0))] (by kernel_rfl) (OW.nil rfl ?_)
  refine QW.say 48 (v := .bool ((r124.2 != 0) || (r1658.2 != 0))) rfl (by first | (rw [hc1671]; done) | (rw [hc1671]; rfl) | simp [hc1671]) ?_
  exact QW.meet (fun a ha => ⟨ha.agrees (by kernel_rfl), hst.keep [4, 5] rfl⟩)
 rintro a w1 ⟨ha, hst⟩
 refine CW.go ?_ ha
 rcases Bool.eq_false_or_eq_true (((r124.2 != 0) || (r1658.2 != 0))) with hc1672 | hc1672
 ·have hF := ite_t hF hc1672
  refine CW.cond_t rfl hc1672 (CW.seq ?_)
  refine CW.cutK (fun a w1 => Rep 139 [(4, .bool ((true == (r124.2 != 0)) && (true == (r1658.2 != 0))))] a ∧ St w (fp []) w1 []) ?_ ?_
  ·refine CW.region ?_
   refine OW.pure 6 [(54, .bool (true == (r124.2 != 0)))] (by kernel_rfl) ?_
   refine OW.split 54 rfl (fun hc1673 => ?_) (fun hc1673 => ?_)
   ·refine OW.pure 7 [(4, .bool (true == (r1658.2 != 0)))] (by kernel_rfl) (OW.nil rfl ?_)
    refine QW.say 4 (v := .bool ((true == (r124.2 != 0)) && (true == (r1658.2 != 0)))) rfl (by first | (rw [hc1673]; done) | (rw [hc1673]; rfl) | simp [hc1673]) ?_
    exact QW.meet (fun a ha => ⟨ha.agrees (by kernel_rfl), hst.keep [] rfl⟩)
   refine OW.pure 7 [(4, .bool false)] (by kernel_rfl) (OW.nil rfl ?_)
   refine QW.say 4 (v := .bool ((true == (r124.2 != 0)) && (true == (r1658.2 != 0)))) rfl (by first | (rw [hc1673]; done) | (rw [hc1673]; rfl) | simp [hc1673]) ?_
   exact QW.meet (fun a ha => ⟨ha.agrees (by kernel_rfl), hst.keep [] rfl⟩)
  rintro a w1 ⟨ha, hst⟩
  refine CW.go ?_ ha
  refine CW.ret (QW.then_ret ?_)
  obtain rfl := Option.some.inj hF
  refine QW.ret1 rfl rfl ?_
  exact ⟨rfl, hst.keep [] rfl⟩
 have hF := ite_f hF hc1672
 refine CW.cond_f rfl hc1672 (CW.skip (QW.next (CW.seq (CW.seq (CW.region ?_)))))
 refine OW.pure 6 [(66, .bool true)] (by kernel_rfl) (OW.nil rfl (QW.next ?_))
 refine CW.cond_t rfl rfl (CW.seq (CW.region ?_))
 refine OW.pure 1 [(4, .bool false)] (by kernel_rfl) (OW.nil rfl (QW.next (CW.ret (QW.then_ret ?_))))
 obtain rfl := Option.some.inj hF
 refine QW.ret1 rfl rfl ?_
 exact ⟨rfl, hst.keep [] rfl⟩

end Go.Proofs.YtgmmfjpmahcocaaDoor

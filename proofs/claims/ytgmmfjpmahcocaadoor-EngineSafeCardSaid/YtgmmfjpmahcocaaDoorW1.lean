/- Written by a program (wip/gen): the walks: each Go function returns what its plain function computes. -/
import Derived.Test.YtgmmfjpmahcocaaDoorProg
import Derived.Test.YtgmmfjpmahcocaaDoorF1
import Derived.Test.YtgmmfjpmahcocaaDoorOpen
import Derived.Test.YtgmmfjpmahcocaaDoorPart
import Derived.Test.YtgmmfjpmahcocaaDoorO1
import Derived.Test.YtgmmfjpmahcocaaDoorW1p3
namespace Go.Proofs.YtgmmfjpmahcocaaDoor
open Go.Sx
set_option linter.unusedVariables false
set_option maxRecDepth 10000
set_option maxHeartbeats 4000000

theorem engine_Machine_Answer_ok (w : World) (v0 : Value) (S0 : List Nat) (p0 : engine_Machine) (p1 : api_Res) (r : Int × engine_Machine) (hF : engine_Machine_Answer p0 p1 = some r)
    (hst : St w (fp [itI R_t33 [v0] S0 p0]) w [itI R_t33 [v0] S0 p0]) :
    Calls Tryd.prog 10 [v0, .agg [.int .i64 p1.E, .bool p1.Found, .int .u64 p1.Val, .bool p1.Out, .int .u64 p1.OutKey, .int .u64 p1.OutVal].toArray].toArray w (fun e w' => ∃ (s0 : List Nat), e = .returned (.int .i64 r.1) ∧ St w (fp [itI R_t33 [v0] S0 p0]) w' [itI R_t33 [v0] s0 r.2]) := by
 refine CW.start (N := 38) Tryd.func10 rfl rfl rfl ?_
 obtain ⟨b1, rfl⟩ := hst.fptr 0 rfl
 refine CW.seq (CW.region ?_)
 refine OW.box hst rfl rfl rfl rfl [.int .i64 p1.E, .bool p1.Found, .int .u64 p1.Val, .bool p1.Out, .int .u64 p1.OutKey, .int .u64 p1.OutVal] rfl ?_
 intro b4 w5 hst
 refine OW.pure 1 [] (by kernel_rfl) (OW.nil rfl (QW.next (CW.seq (CW.seq ?_))))
 obtain ⟨v6, S7, v8, S9, v10, S11, hst⟩ := hst.openQ3 0 rfl rfl rfl rfl
 have hst := hst.toRow1 2 rfl
 have hst := hst.toRow1 3 rfl
 obtain ⟨l12, a13, c14, rfl⟩ := hst.len 2 rfl
 obtain ⟨l15, a16, c17, rfl⟩ := hst.len 3 rfl
 obtain ⟨b18, rfl⟩ := hst.fptr 4 rfl
 have hst : St _ _ _ [blkI b1 87 [.int .u64 p0.Event.A, .int .u64 p0.Event.B, .slice a13 (p0.module.Maps).length c14, .slice a16 (p0.module.Code).length c17, .pointer (some ⟨b18, 0, none⟩), .int .u64 (p0.regs 0), .int .u64 (p0.regs 1), .int .u64 (p0.regs 2), .int .u64 (p0.regs 3), .int .u64 (p0.regs 4), .int .u64 (p0.regs 5), .int .u64 (p0.regs 6), .int .u64 (p0.regs 7), .int .i64 (p0.turns 0), .int .i64 (p0.turns 1), .int .i64 (p0.turns 2), .int .i64 (p0.turns 3), .int .i64 (p0.turns 4), .int .i64 (p0.turns 5), .int .i64 (p0.turns 6), .int .i64 (p0.turns 7), .int .i64 (p0.turns 8), .int .i64 (p0.turns 9), .int .i64 (p0.turns 10), .int .i64 (p0.turns 11), .int .i64 (p0.turns 12), .int .i64 (p0.turns 13), .int .i64 (p0.turns 14), .int .i64 (p0.turns 15), .int .i64 (p0.turns 16), .int .i64 (p0.turns 17), .int .i64 (p0.turns 18), .int .i64 (p0.turns 19), .int .i64 (p0.turns 20), .int .i64 (p0.turns 21), .int .i64 (p0.turns 22), .int .i64 (p0.turns 23), .int .i64 (p0.turns 24), .int .i64 (p0.turns 25), .int .i64 (p0.turns 26), .int .i64 (p0.turns 27), .int .i64 (p0.turns 28), .int .i64 (p0.turns 29), .int .i64 (p0.turns 30), .int .i64 (p0.turns 31), .int .i64 (p0.turns 32), .int .i64 (p0.turns 33), .int .i64 (p0.turns 34), .int .i64 (p0.turns 35), .int .i64 (p0.turns 36), .int .i64 (p0.turns 37), .int .i64 (p0.turns 38), .int .i64 (p0.turns 39), .int .i64 (p0.turns 40), .int .i64 (p0.turns 41), .int .i64 (p0.turns 42), .int .i64 (p0.turns 43), .int .i64 (p0.turns 44), .int .i64 (p0.turns 45), .int .i64 (p0.turns 46), .int .i64 (p0.turns 47), .int .i64 (p0.turns 48), .int .i64 (p0.turns 49), .int .i64 (p0.turns 50), .int .i64 (p0.turns 51), .int .i64 (p0.turns 52), .int .i64 (p0.turns 53), .int .i64 (p0.turns 54), .int .i64 (p0.turns 55), .int .i64 (p0.turns 56), .int .i64 (p0.turns 57), .int .i64 (p0.turns 58), .int .i64 (p0.turns 59), .int .i64 (p0.turns 60), .int .i64 (p0.turns 61), .int .i64 (p0.turns 62), .int .i64 (p0.turns 63), .int .i64 p0.at_, .int .i64 p0.steps, .int .i64 p0.state], _, _, _, _] := hst
 refine CW.region ?_
 refine OW.pure 3 [(7, .pointer (some ⟨b1, 79, none⟩))] (by kernel_rfl) ?_
 refine OW.ld rfl rfl rfl rfl (by kernel_rfl) (hst.blk 0 rfl rfl) ?_
 refine OW.pure 1 [(9, .bool (p0.state != 1))] (by kernel_rfl) (OW.nil rfl (QW.next ?_))
 rcases Bool.eq_false_or_eq_true ((p0.state != 1)) with hc19 | hc19
 ·have hF := ite_t hF hc19
  refine CW.cond_t rfl hc19 (CW.seq (CW.region ?_))
  refine OW.pure 1 [(4, .int .i64 2)] (by kernel_rfl) (OW.nil rfl (QW.next (CW.ret (QW.then_ret ?_))))
  have hst := hst.toIt 2 rfl (fun _ => rfl) (by decide)
  have hst := hst.toIt 3 rfl (fun _ => rfl) (by decide)
  obtain ⟨S20, hst⟩ := hst.shutP3 R_t87 rfl 0 2 3 4 [1] rfl rfl rfl rfl rfl p0 rfl rfl
  obtain rfl := Option.some.inj hF
  refine QW.ret1 rfl rfl ?_
  exact ⟨S20, rfl, hst.keep [1] rfl⟩
 have hF := ite_f hF hc19
 refine CW.cond_f rfl hc19 (CW.skip (QW.next (CW.seq ?_)))
 refine CW.plan (by kernel_rfl) ?_
 intro w34 hch35
 have hst := hst.same hch35
 refine OA.pure [0, 1, 2, 3, 4] [(10, .pointer (some ⟨b1, 0, none⟩)), (14, .pointer (some ⟨b1, 3, none⟩))] (by kernel_rfl) ?_
 refine OA.ld (i := 5) rfl (by kernel_rfl) rfl rfl rfl (by kernel_rfl) (hst.blk 0 rfl rfl) ?_
 refine OA.pure [6, 7, 8] [(18, .pointer (some ⟨b1, 77, none⟩))] (by kernel_rfl) ?_
 refine OA.ld (i := 9) rfl (by kernel_rfl) rfl rfl rfl (by kernel_rfl) (hst.blk 0 rfl rfl) ?_
 obtain ⟨x36, hx37, hF⟩ := bind_some' hF
 obtain ⟨g39, o40, c41, hv38⟩ := hst.rowv 3 rfl hx37
 refine OA.idx (i := 10) 82 5 rfl (by kernel_rfl) rfl rfl rfl hv38 rfl (idx_some hx37).1 (idx_some hx37).2.1 (by kernel_rfl) (by kernel_rfl) ?_
 refine OA.pure [11] [(21, .pointer (some ⟨g39, o40 + Int.toNat p0.at_ * 5 + 4, none⟩))] (by kernel_rfl) ?_
 refine OA.ld (i := 12) rfl (by kernel_rfl) rfl rfl rfl (by kernel_rfl) (hst.rowc 3 rfl (fun _ => rfl) hx37 hv38 4 _ rfl) ?_
 refine OA.ldN (i := 13) (cs := [.int .i64 p1.E, .bool p1.Found, .int .u64 p1.Val, .bool p1.Out, .int .u64 p1.OutKey, .int .u64 p1.OutVal]) rfl (by kernel_rfl) rfl rfl rfl (by kernel_rfl) (by kernel_rfl) (hst.blkN 1 rfl 0 6) ?_
 refine OA.pure [15, 16] [(26, .pointer (some ⟨b1, 5, none⟩))] (by kernel_rfl) ?_
 refine OA.act (i := 14) [] (by kernel_rfl) rfl rfl (by kernel_rfl) (by kernel_rfl) ?_
 obtain ⟨r42, hr43, hF⟩ := bind_some' hF
 refine OW.fn rfl rfl rfl rfl (by kernel_rfl) (sigs_Value_ok _ x36.Imm p1 r42 hr43 (hst.part [] rfl)) ?_
 rintro e w44 ⟨rfl, hst45⟩
 refine ⟨_, rfl, ?_⟩
 have hst := hst.join (idx := []) (rest := [0, 1, 2, 3, 4]) rfl hst45
 refine OA.next trivial ?_
 refine OA.val (i := 17) (v := .pointer (some ⟨b1, 5, none⟩)) rfl (by kernel_rfl) rfl rfl rfl rfl (fun a w ha => aidx_run (n := 8) (q := 0) 26 1 rfl rfl rfl (by decide) (by decide) (by kernel_rfl) (by kernel_rfl) a w ha) ?_
 refine OA.act (i := 18) [] (by kernel_rfl) rfl rfl (by kernel_rfl) (by kernel_rfl) ?_
 refine OW.stB hst 0 rfl rfl rfl rfl rfl (by kernel_rfl) rfl rfl [.int .u64 p0.Event.A, .int .u64 p0.Event.B, .slice a13 (p0.module.Maps).length c14, .slice a16 (p0.module.Code).length c17, .pointer (some ⟨b18, 0, none⟩), .int .u64 r42, .int .u64 (p0.regs 1), .int .u64 (p0.regs 2), .int .u64 (p0.regs 3), .int .u64 (p0.regs 4), .int .u64 (p0.regs 5), .int .u64 (p0.regs 6), .int .u64 (p0.regs 7), .int .i64 (p0.turns 0), .int .i64 (p0.turns 1), .int .i64 (p0.turns 2), .int .i64 (p0.turns 3), .int .i64 (p0.turns 4), .int .i64 (p0.turns 5), .int .i64 (p0.turns 6), .int .i64 (p0.turns 7), .int .i64 (p0.turns 8), .int .i64 (p0.turns 9), .int .i64 (p0.turns 10), .int .i64 (p0.turns 11), .int .i64 (p0.turns 12), .int .i64 (p0.turns 13), .int .i64 (p0.turns 14), .int .i64 (p0.turns 15), .int .i64 (p0.turns 16), .int .i64 (p0.turns 17), .int .i64 (p0.turns 18), .int .i64 (p0.turns 19), .int .i64 (p0.turns 20), .int .i64 (p0.turns 21), .int .i64 (p0.turns 22), .int .i64 (p0.turns 23), .int .i64 (p0.turns 24), .int .i64 (p0.turns 25), .int .i64 (p0.turns 26), .int .i64 (p0.turns 27), .int .i64 (p0.turns 28), .int .i64 (p0.turns 29), .int .i64 (p0.turns 30), .int .i64 (p0.turns 31), .int .i64 (p0.turns 32), .int .i64 (p0.turns 33), .int .i64 (p0.turns 34), .int .i64 (p0.turns 35), .int .i64 (p0.turns 36), .int .i64 (p0.turns 37), .int .i64 (p0.turns 38), .int .i64 (p0.turns 39), .int .i64 (p0.turns 40), .int .i64 (p0.turns 41), .int .i64 (p0.turns 42), .int .i64 (p0.turns 43), .int .i64 (p0.turns 44), .int .i64 (p0.turns 45), .int .i64 (p0.turns 46), .int .i64 (p0.turns 47), .int .i64 (p0.turns 48), .int .i64 (p0.turns 49), .int .i64 (p0.turns 50), .int .i64 (p0.turns 51), .int .i64 (p0.turns 52), .int .i64 (p0.turns 53), .int .i64 (p0.turns 54), .int .i64 (p0.turns 55), .int .i64 (p0.turns 56), .int .i64 (p0.turns 57), .int .i64 (p0.turns 58), .int .i64 (p0.turns 59), .int .i64 (p0.turns 60), .int .i64 (p0.turns 61), .int .i64 (p0.turns 62), .int .i64 (p0.turns 63), .int .i64 p0.at_, .int .i64 p0.steps, .int .i64 p0.state] rfl ?_
 intro w46 hst
 refine OA.next trivial ?_
 refine OA.fin (by kernel_rfl) (by kernel_rfl) (QW.next (CW.seq (CW.region ?_)))
 refine OW.pure 3 [(28, .pointer (some ⟨b1, 0, none⟩)), (30, .pointer (some ⟨b1, 77, none⟩))] (by kernel_rfl) ?_
 refine OW.ld rfl rfl rfl rfl (by kernel_rfl) (hst.blk 0 rfl rfl) ?_
 refine OW.pure 3 [(32, .int .i64 (w64 (p0.at_ + 1))), (34, .pointer (some ⟨b1, 77, none⟩))] (by kernel_rfl) ?_
 refine OW.stB hst 0 rfl rfl rfl rfl rfl (by kernel_rfl) rfl rfl [.int .u64 p0.Event.A, .int .u64 p0.Event.B, .slice a13 (p0.module.Maps).length c14, .slice a16 (p0.module.Code).length c17, .pointer (some ⟨b18, 0, none⟩), .int .u64 r42, .int .u64 (p0.regs 1), .int .u64 (p0.regs 2), .int .u64 (p0.regs 3), .int .u64 (p0.regs 4), .int .u64 (p0.regs 5), .int .u64 (p0.regs 6), .int .u64 (p0.regs 7), .int .i64 (p0.turns 0), .int .i64 (p0.turns 1), .int .i64 (p0.turns 2), .int .i64 (p0.turns 3), .int .i64 (p0.turns 4), .int .i64 (p0.turns 5), .int .i64 (p0.turns 6), .int .i64 (p0.turns 7), .int .i64 (p0.turns 8), .int .i64 (p0.turns 9), .int .i64 (p0.turns 10), .int .i64 (p0.turns 11), .int .i64 (p0.turns 12), .int .i64 (p0.turns 13), .int .i64 (p0.turns 14), .int .i64 (p0.turns 15), .int .i64 (p0.turns 16), .int .i64 (p0.turns 17), .int .i64 (p0.turns 18), .int .i64 (p0.turns 19), .int .i64 (p0.turns 20), .int .i64 (p0.turns 21), .int .i64 (p0.turns 22), .int .i64 (p0.turns 23), .int .i64 (p0.turns 24), .int .i64 (p0.turns 25), .int .i64 (p0.turns 26), .int .i64 (p0.turns 27), .int .i64 (p0.turns 28), .int .i64 (p0.turns 29), .int .i64 (p0.turns 30), .int .i64 (p0.turns 31), .int .i64 (p0.turns 32), .int .i64 (p0.turns 33), .int .i64 (p0.turns 34), .int .i64 (p0.turns 35), .int .i64 (p0.turns 36), .int .i64 (p0.turns 37), .int .i64 (p0.turns 38), .int .i64 (p0.turns 39), .int .i64 (p0.turns 40), .int .i64 (p0.turns 41), .int .i64 (p0.turns 42), .int .i64 (p0.turns 43), .int .i64 (p0.turns 44), .int .i64 (p0.turns 45), .int .i64 (p0.turns 46), .int .i64 (p0.turns 47), .int .i64 (p0.turns 48), .int .i64 (p0.turns 49), .int .i64 (p0.turns 50), .int .i64 (p0.turns 51), .int .i64 (p0.turns 52), .int .i64 (p0.turns 53), .int .i64 (p0.turns 54), .int .i64 (p0.turns 55), .int .i64 (p0.turns 56), .int .i64 (p0.turns 57), .int .i64 (p0.turns 58), .int .i64 (p0.turns 59), .int .i64 (p0.turns 60), .int .i64 (p0.turns 61), .int .i64 (p0.turns 62), .int .i64 (p0.turns 63), .int .i64 (w64 (p0.at_ + 1)), .int .i64 p0.steps, .int .i64 p0.state] rfl ?_
 intro w48 hst
 refine OW.nil rfl (QW.next (CW.seq (CW.region ?_)))
 refine OW.pure 3 [(37, .pointer (some ⟨b1, 79, none⟩))] (by kernel_rfl) ?_
 refine OW.stB hst 0 rfl rfl rfl rfl rfl (by kernel_rfl) rfl rfl [.int .u64 p0.Event.A, .int .u64 p0.Event.B, .slice a13 (p0.module.Maps).length c14, .slice a16 (p0.module.Code).length c17, .pointer (some ⟨b18, 0, none⟩), .int .u64 r42, .int .u64 (p0.regs 1), .int .u64 (p0.regs 2), .int .u64 (p0.regs 3), .int .u64 (p0.regs 4), .int .u64 (p0.regs 5), .int .u64 (p0.regs 6), .int .u64 (p0.regs 7), .int .i64 (p0.turns 0), .int .i64 (p0.turns 1), .int .i64 (p0.turns 2), .int .i64 (p0.turns 3), .int .i64 (p0.turns 4), .int .i64 (p0.turns 5), .int .i64 (p0.turns 6), .int .i64 (p0.turns 7), .int .i64 (p0.turns 8), .int .i64 (p0.turns 9), .int .i64 (p0.turns 10), .int .i64 (p0.turns 11), .int .i64 (p0.turns 12), .int .i64 (p0.turns 13), .int .i64 (p0.turns 14), .int .i64 (p0.turns 15), .int .i64 (p0.turns 16), .int .i64 (p0.turns 17), .int .i64 (p0.turns 18), .int .i64 (p0.turns 19), .int .i64 (p0.turns 20), .int .i64 (p0.turns 21), .int .i64 (p0.turns 22), .int .i64 (p0.turns 23), .int .i64 (p0.turns 24), .int .i64 (p0.turns 25), .int .i64 (p0.turns 26), .int .i64 (p0.turns 27), .int .i64 (p0.turns 28), .int .i64 (p0.turns 29), .int .i64 (p0.turns 30), .int .i64 (p0.turns 31), .int .i64 (p0.turns 32), .int .i64 (p0.turns 33), .int .i64 (p0.turns 34), .int .i64 (p0.turns 35), .int .i64 (p0.turns 36), .int .i64 (p0.turns 37), .int .i64 (p0.turns 38), .int .i64 (p0.turns 39), .int .i64 (p0.turns 40), .int .i64 (p0.turns 41), .int .i64 (p0.turns 42), .int .i64 (p0.turns 43), .int .i64 (p0.turns 44), .int .i64 (p0.turns 45), .int .i64 (p0.turns 46), .int .i64 (p0.turns 47), .int .i64 (p0.turns 48), .int .i64 (p0.turns 49), .int .i64 (p0.turns 50), .int .i64 (p0.turns 51), .int .i64 (p0.turns 52), .int .i64 (p0.turns 53), .int .i64 (p0.turns 54), .int .i64 (p0.turns 55), .int .i64 (p0.turns 56), .int .i64 (p0.turns 57), .int .i64 (p0.turns 58), .int .i64 (p0.turns 59), .int .i64 (p0.turns 60), .int .i64 (p0.turns 61), .int .i64 (p0.turns 62), .int .i64 (p0.turns 63), .int .i64 (w64 (p0.at_ + 1)), .int .i64 p0.steps, .int .i64 0] rfl ?_
 intro w50 hst
 refine OW.nil rfl (QW.next (CW.seq (CW.region ?_)))
 refine OW.pure 1 [(4, .int .i64 0)] (by kernel_rfl) (OW.nil rfl (QW.next (CW.ret ?_)))
 have hst := hst.toIt 2 rfl (fun _ => rfl) (by decide)
 have hst := hst.toIt 3 rfl (fun _ => rfl) (by decide)
 obtain ⟨S51, hst⟩ := hst.shutP3 R_t87 rfl 0 2 3 4 [1] rfl rfl rfl rfl rfl (engine_Machine.mk p0.Event p0.module p0.scratch (aset p0.regs 0 r42) p0.turns (w64 (p0.at_ + 1)) p0.steps 0) rfl rfl
 obtain rfl := Option.some.inj hF
 refine QW.ret1 rfl rfl ?_
 exact ⟨S51, rfl, hst.keep [1] rfl⟩

theorem engine_Trace_ok (w : World) (fu : Nat) (v0_0 : Value) (v0_1 : Value) (p0 : api_Module) (p1 : api_Event) (v2 : Value) (p2 : List api_Res) (r : (List api_Act) × Int) (hF : engine_Trace fu p0 p1 p2 = some r)
    (hst : St w (fp []) w []) (h0_0 : Rd w (fp []) v0_0 (encInt .i64) 1 p0.Maps) (h0_1 : Rd w (fp []) v0_1 enc_api_Inst 5 p0.Code) (h2 : Rd w (fp []) v2 enc_api_Res 6 p2) (hT0 : Rd w (fp []) (.slice (some ⟨0, 0, none⟩) 7 7) enc_sigs_sig 5 tab_g0) (hT1 : Rd w (fp []) (.slice (some ⟨1, 0, none⟩) 23 23) enc_ops_form 2 tab_g1) :
    Calls Tryd.prog 11 [.agg [v0_0, v0_1].toArray, .agg [.int .u64 p1.A, .int .u64 p1.B].toArray, v2].toArray w (fun e w' => ∃ (x0 : Value), e = .returned (.tuple #[x0, .int .i64 r.2]) ∧ St w (fp []) w' [rowI x0 46 enc_api_Act 7 r.1]) := by
 refine CW.start (N := 52) Tryd.func11 rfl rfl rfl ?_
 obtain ⟨l1, a2, c3, rfl⟩ := h0_0.len
 obtain ⟨l4, a5, c6, rfl⟩ := h0_1.len
 obtain ⟨l7, a8, c9, rfl⟩ := h2.len
 refine CW.seq (CW.region ?_)
 refine OW.box hst rfl rfl rfl rfl [.slice a2 (p0.Maps).length c3, .slice a5 (p0.Code).length c6] rfl ?_
 intro b14 w15 hst
 refine OW.box hst rfl rfl rfl rfl [.int .u64 p1.A, .int .u64 p1.B] rfl ?_
 intro b16 w17 hst
 refine OW.pure 2 [] (by kernel_rfl) (OW.nil rfl (QW.next (CW.seq ?_)))
 refine CW.plan (by kernel_rfl) ?_
 intro w37 hch38
 have hst := hst.same hch38
 refine OA.ldN (i := 0) (cs := [.slice a2 (p0.Maps).length c3, .slice a5 (p0.Code).length c6]) rfl (by kernel_rfl) rfl rfl rfl (by kernel_rfl) (by kernel_rfl) (hst.blkN 0 rfl 0 2) ?_
 refine OA.ldN (i := 1) (cs := [.int .u64 p1.A, .int .u64 p1.B]) rfl (by kernel_rfl) rfl rfl rfl (by kernel_rfl) (by kernel_rfl) (hst.blkN 1 rfl 0 2) ?_
 refine OA.act (i := 2) [1, 0] (by kernel_rfl) rfl rfl (by kernel_rfl) (by kernel_rfl) ?_
 obtain ⟨r39, hr40, hF⟩ := bind_some' hF
 refine OW.fn rfl rfl rfl rfl (by kernel_rfl) (scratch_New_ok _ r39 hr40 (hst.part [] rfl)) ?_
 rintro e w41 ⟨v43, S44, rfl, hst42⟩
 refine ⟨_, rfl, ?_⟩
 have hst := hst.join (idx := []) (rest := [0, 1]) rfl hst42
 obtain ⟨b45, rfl⟩ := hst.fptr 0 rfl
 refine OA.next ⟨(hst.blkN 2 rfl 0 2), (hst.blkN 1 rfl 0 2), trivial⟩ ?_
 refine OA.act (i := 3) [] (by kernel_rfl) rfl rfl (by kernel_rfl) (by kernel_rfl) ?_
 obtain ⟨r46, hr47, hF⟩ := bind_some' hF
 refine OW.fn rfl rfl rfl rfl (by kernel_rfl) (engine_New_ok _ fu (.slice a2 (p0.Maps).length c3) (.slice a5 (p0.Code).length c6) p0 p1 (.pointer (some ⟨b45, 0, none⟩)) S44 r39 r46 hr47 (hst.part [0] rfl) (h0_0.give hst [0]) (h0_1.give hst [0]) (hT0.give hst [0]) (hT1.give hst [0])) ?_
 rintro e w48 (⟨k50, v52, S53, he51, rfl, hst49⟩ | ⟨he54, rfl, hst49⟩)
 ·have hF := ocase_some hF he51
  refine ⟨_, rfl, ?_⟩
  have hst := hst.join (idx := [0]) (rest := [1, 2]) rfl hst49
  obtain ⟨b55, rfl⟩ := hst.fptr 0 rfl
  refine OA.next trivial ?_
  refine OA.pure [4, 5, 6] [(17, .pointer (some ⟨b55, 0, none⟩)), (18, .int .i64 r46.2)] (by kernel_rfl) ?_
  refine OA.act (i := 7) [] (by kernel_rfl) rfl rfl (by kernel_rfl) (by kernel_rfl) ?_
  refine OW.pure 1 [(8, .pointer (some ⟨b55, 0, none⟩))] (by kernel_rfl) (OA.next trivial ?_)
  refine OA.act (i := 8) [] (by kernel_rfl) rfl rfl (by kernel_rfl) (by kernel_rfl) ?_
  refine OW.pure 1 [(9, .int .i64 r46.2)] (by kernel_rfl) (OA.next trivial ?_)
  refine OA.fin (by kernel_rfl) (by kernel_rfl) (QW.next (CW.seq (CW.seq (CW.region ?_))))
  refine OW.pure 2 [(20, .bool (r46.2 != 0))] (by kernel_rfl) (OW.nil rfl (QW.next ?_))
  rcases Bool.eq_false_or_eq_true ((r46.2 != 0)) with hc56 | hc56
  ·have hF := ite_t hF hc56
   refine CW.cond_t rfl hc56 (CW.seq (CW.region ?_))
   refine OW.pure 3 [(6, .slice none 0 0), (7, .int .i64 r46.2)] (by kernel_rfl) (OW.nil rfl (QW.next (CW.ret (QW.then_ret ?_))))
   have hst := hst.nilRow api_Act 46 enc_api_Act 7
   obtain rfl := Option.some.inj hF
   refine QW.ret2 rfl rfl rfl ?_
   exact ⟨(.slice none 0 0), rfl, hst.keep [3] rfl⟩
  have hF := ite_f hF hc56
  refine CW.cond_f rfl hc56 (CW.skip (QW.next (CW.seq (CW.region ?_))))
  refine OW.pure 1 [(10, .slice none 0 0)] (by kernel_rfl) (OW.nil rfl (QW.next (CW.block ?_)))
  have hst := hst.nilRow api_Act 46 enc_api_Act 7
  refine CW.loop (fun n a w1 => ∃ (s214 : (List api_Res) × engine_Machine × (List api_Act)) (v215 : Value) (S217 : List Nat) (v218 : Value), Rep 52 [(2, v215), (8, .pointer (some ⟨b55, 0, none⟩)), (10, v218)] a ∧ St w (fp []) w1 [itI R_t33 [.pointer (some ⟨b55, 0, none⟩)] S217 s214.2.1, rowI v218 46 enc_api_Act 7 s214.2.2] ∧ Rd w (fp []) v215 enc_api_Res 6 s214.1 ∧ loop (engine_Trace_l1 fu) n s214 = some r) fu (fun a ha => ⟨(p2, k50, ([] : List api_Act)), (.slice a8 (p2).length c9), S53, (.slice none 0 0), ha.agrees (by kernel_rfl), hst.keep [0, 3] rfl, h2, hF⟩) ?_
  rintro n212 a w1 ⟨s214, v215, S217, v218, ha, hst, hrd216, hl213⟩
  rcases n212 with _ | n212
  ·exact (loop_zero hl213).elim
  refine CW.go ?_ ha
  obtain ⟨l219, a220, c221, rfl⟩ := hrd216.len
  obtain ⟨l222, a223, c224, rfl⟩ := hst.len 1 rfl
  refine CW.block (CW.seq (CW.region ?_))
  refine OW.pure 1 [(22, .pointer (some ⟨b55, 0, none⟩))] (by kernel_rfl) ?_
  obtain ⟨r233, hr234, hl213⟩ := bind_some' hl213
  refine OW.fn rfl rfl rfl rfl (by kernel_rfl) (engine_Machine_Step_ok _ fu (.pointer (some ⟨b55, 0, none⟩)) S217 s214.2.1 r233 hr234 (hst.part [0] rfl) (hT0.give hst [0])) ?_
  rintro e w235 ⟨S237, rfl, hst236⟩
  refine ⟨_, rfl, ?_⟩
  have hst := hst.join (idx := [0]) (rest := [1]) rfl hst236
  refine OW.alloc hst rfl rfl rfl [.int .i64 0, .int .i64 0, .int .i64 0, .int .i64 0, .int .u64 0, .int .u64 0, .int .u64 0] (by kernel_rfl) ?_
  intro b238 w239 hst
  refine OW.stB hst 2 rfl rfl rfl rfl rfl (by kernel_rfl) rfl rfl [.int .i64 r233.1.Kind, .int .i64 r233.1.Pc, .int .i64 r233.1.Item.Map, .int .i64 r233.1.Item.Op, .int .u64 r233.1.Item.Key, .int .u64 r233.1.Item.Val, .int .u64 r233.1.Val] rfl ?_
  intro w240 hst
  refine OW.nil rfl (QW.next (CW.seq (CW.region ?_)))
  refine OW.pure 1 [(24, .slice a223 (s214.2.2).length c224)] (by kernel_rfl) ?_
  refine OW.ldN (cs := [.int .i64 r233.1.Kind, .int .i64 r233.1.Pc, .int .i64 r233.1.Item.Map, .int .i64 r233.1.Item.Op, .int .u64 r233.1.Item.Key, .int .u64 r233.1.Item.Val, .int .u64 r233.1.Val]) rfl rfl rfl rfl (by kernel_rfl) (by kernel_rfl) (hst.blkN 2 rfl 0 7) ?_
  refine OW.row (α := api_Act) (e := 46) (enc := enc_api_Act) (sz := 7) hst rfl rfl rfl [r233.1] rfl (fun _ => rfl) rfl rfl (fun _ => by kernel_rfl) ?_
  intro g250 w251 hst
  obtain ⟨u252, hr253, hl213⟩ := bind_some' hl213
  refine OW.app hst 1 rfl (fun _ => rfl) (fun _ => rfl) rfl rfl rfl rfl rfl rfl (by kernel_rfl) el46 (hst.rd 3 rfl (fun _ => rfl) [] rfl (hst.len 3 rfl).1) (room_le hr253) ?_
  intro v254 w255 hst
  obtain ⟨l256, a257, c258, rfl⟩ := hst.len 1 rfl
  refine OW.pure 1 [(10, .slice a257 ((s214.2.2 ++ [r233.1])).length c258)] (by kernel_rfl) (OW.nil rfl (QW.next (CW.block (CW.seq (CW.seq (CW.region ?_))))))
  refine OW.pure 1 [(29, .pointer (some ⟨b238, 0, none⟩))] (by kernel_rfl) ?_
  refine OW.ld rfl rfl rfl rfl (by kernel_rfl) (hst.blk 2 rfl rfl) ?_
  refine OW.pure 2 [(28, .bool (r233.1.Kind == 4))] (by kernel_rfl) (OW.nil rfl (QW.next ?_))
  obtain ⟨o261, ho262, hl213⟩ := bind_some' hl213
  refine CW.cutK (fun a w1 => Rep 52 [(2, .slice a220 (s214.1).length c221), (8, .pointer (some ⟨b55, 0, none⟩)), (10, .slice a257 ((s214.2.2 ++ [r233.1])).length c258), (11, .pointer (some ⟨b238, 0, none⟩)), (28, .bool o261)] a ∧ St w (fp []) w1 [itI R_t33 [.pointer (some ⟨b55, 0, none⟩)] S237 r233.2, rowI (.slice a257 ((s214.2.2 ++ [r233.1])).length c258) 46 enc_api_Act 7 (s214.2.2 ++ [r233.1]), blkI b238 46 [.int .i64 r233.1.Kind, .int .i64 r233.1.Pc, .int .i64 r233.1.Item.Map, .int .i64 r233.1.Item.Op, .int .u64 r233.1.Item.Key, .int .u64 r233.1.Item.Val, .int .u64 r233.1.Val]]) ?_ ?_
  ·rcases Bool.eq_false_or_eq_true ((r233.1.Kind == 4)) with hc263 | hc263
   ·have ho262 := ite_t ho262 hc263
    refine CW.cond_t rfl hc263 (CW.skip ?_)
    obtain rfl := Option.some.inj ho262
    exact QW.meet (fun a ha => ⟨ha.agrees (by kernel_rfl), hst.keep [0, 1, 2] rfl⟩)
   have ho262 := ite_f ho262 hc263
   refine CW.cond_f rfl hc263 (CW.region ?_)
   refine OW.pure 1 [(32, .pointer (some ⟨b238, 0, none⟩))] (by kernel_rfl) ?_
   refine OW.ld rfl rfl rfl rfl (by kernel_rfl) (hst.blk 2 rfl rfl) ?_
   refine OW.pure 2 [(35, .bool (r233.1.Kind == 2))] (by kernel_rfl) ?_
   refine OW.split 35 rfl (fun hc264 => ?_) (fun hc264 => ?_)
   ·have ho262 := ite_t ho262 hc264
    refine OW.pure 5 [(28, .bool (((s214.1).length : Int) == 0))] (by kernel_rfl) (OW.nil rfl ?_)
    obtain rfl := Option.some.inj ho262
    exact QW.meet (fun a ha => ⟨ha.agrees (by kernel_rfl), hst.keep [0, 1, 2] rfl⟩)
   have ho262 := ite_f ho262 hc264
   refine OW.pure 5 [(28, .bool false)] (by kernel_rfl) (OW.nil rfl ?_)
   obtain rfl := Option.some.inj ho262
   exact QW.meet (fun a ha => ⟨ha.agrees (by kernel_rfl), hst.keep [0, 1, 2] rfl⟩)
  rintro a w1 ⟨ha, hst⟩
  refine CW.go ?_ ha
  rcases Bool.eq_false_or_eq_true (o261) with hc265 | hc265
  ·have hl213 := ite_t hl213 hc265
   refine CW.cond_t rfl hc265 (CW.seq (CW.region ?_))
   refine OW.pure 3 [(6, .slice a257 ((s214.2.2 ++ [r233.1])).length c258), (7, .int .i64 0)] (by kernel_rfl) (OW.nil rfl (QW.next (CW.ret (QW.block_ret (QW.block_ret (QW.then_ret (QW.block_ret ?_)))))))
   obtain rfl := Option.some.inj hl213
   refine QW.ret2 rfl rfl rfl ?_
   exact ⟨(.slice a257 ((s214.2.2 ++ [r233.1])).length c258), rfl, hst.keep [1] rfl⟩
  have hl213 := ite_f hl213 hc265
  refine CW.cond_f rfl hc265 (CW.seq (CW.region ?_))
  refine OW.pure 1 [(42, .pointer (some ⟨b238, 0, none⟩))] (by kernel_rfl) ?_
  refine OW.ld rfl rfl rfl rfl (by kernel_rfl) (hst.blk 2 rfl rfl) ?_
  refine OW.pure 2 [(41, .bool (r233.1.Kind == 2))] (by kernel_rfl) (OW.nil rfl (QW.next ?_))
  rcases Bool.eq_false_or_eq_true ((r233.1.Kind == 2)) with hc266 | hc266
  ·have hl213 := ite_t hl213 hc266
   refine CW.cond_t rfl hc266 (CW.seq (CW.region ?_))
   refine OW.pure 2 [(45, .pointer (some ⟨b55, 0, none⟩)), (46, .slice a220 (s214.1).length c221)] (by kernel_rfl) ?_
   obtain ⟨x278, hx279, hl213⟩ := bind_some' hl213
   obtain ⟨g281, o282, c283, hv280⟩ := hrd216.formv (fun _ => ⟨_, rfl⟩) hx279
   refine OW.idx 50 6 rfl rfl rfl rfl hv280 rfl (idx_some hx279).1 (idx_some hx279).2.1 (by kernel_rfl) (by kernel_rfl) ?_
   refine OW.ldN (cs := enc_api_Res x278) rfl rfl rfl rfl (by kernel_rfl) (by kernel_rfl) (hrd216.cellv hst hx279 hv280) ?_
   obtain ⟨r284, hr285, hl213⟩ := bind_some' hl213
   refine OW.fn rfl rfl rfl rfl (by kernel_rfl) (engine_Machine_Answer_ok _ (.pointer (some ⟨b55, 0, none⟩)) S237 r233.2 x278 r284 hr285 (hst.part [0] rfl)) ?_
   rintro e w286 ⟨S288, rfl, hst287⟩
   refine ⟨_, rfl, ?_⟩
   have hst := hst.join (idx := [0]) (rest := [1, 2]) rfl hst287
   refine OW.nil rfl (QW.next (CW.region ?_))
   refine OW.pure 1 [(50, .slice a220 (s214.1).length c221)] (by kernel_rfl) ?_
   obtain ⟨ys292, hcut293, hl213⟩ := bind_some' hl213
   refine OW.op (v := .slice (shd a220 c221 (Int.toNat 1) 6) (ys292).length (c221 - Int.toNat 1)) rfl rfl rfl rfl (fun a ha => suf_run (e := 50) 6 rfl rfl rfl rfl hcut293 (by kernel_rfl) (by kernel_rfl) a _ ha) ?_
   have hp294 := hrd216.part hcut293
   refine OW.pure 1 [(2, .slice (shd a220 c221 (Int.toNat 1) 6) (ys292).length (c221 - Int.toNat 1))] (by kernel_rfl) (OW.nil rfl (QW.block_normal (QW.block_normal ?_)))
   exact QW.meet (fun a ha => ⟨n212, Nat.lt_succ_self _, (ys292, r284.2, (s214.2.2 ++ [r233.1])), (.slice (shd a220 c221 (Int.toNat 1) 6) (ys292).length (c221 - Int.toNat 1)), S288, (.slice a257 ((s214.2.2 ++ [r233.1])).length c258), ha.agrees (by kernel_rfl), hst.keep [0, 1] rfl, hp294, hl213⟩)
  have hl213 := ite_f hl213 hc266
  refine CW.cond_f rfl hc266 (CW.skip (QW.block_normal (QW.block_normal ?_)))
  exact QW.meet (fun a ha => ⟨n212, Nat.lt_succ_self _, (s214.1, r233.2, (s214.2.2 ++ [r233.1])), (.slice a220 (s214.1).length c221), S237, (.slice a257 ((s214.2.2 ++ [r233.1])).length c258), ha.agrees (by kernel_rfl), hst.keep [0, 1] rfl, hrd216, hl213⟩)
 have hF := ocase_none hF he54
 refine ⟨_, rfl, ?_⟩
 have hst := hst.join (idx := [0]) (rest := [1, 2]) rfl hst49
 refine OA.next trivial ?_
 refine OA.pure [4, 5, 6] [(17, .pointer none), (18, .int .i64 r46.2)] (by kernel_rfl) ?_
 refine OA.act (i := 7) [] (by kernel_rfl) rfl rfl (by kernel_rfl) (by kernel_rfl) ?_
 refine OW.pure 1 [(8, .pointer none)] (by kernel_rfl) (OA.next trivial ?_)
 refine OA.act (i := 8) [] (by kernel_rfl) rfl rfl (by kernel_rfl) (by kernel_rfl) ?_
 refine OW.pure 1 [(9, .int .i64 r46.2)] (by kernel_rfl) (OA.next trivial ?_)
 refine OA.fin (by kernel_rfl) (by kernel_rfl) (QW.next (CW.seq (CW.seq (CW.region ?_))))
 refine OW.pure 2 [(20, .bool (r46.2 != 0))] (by kernel_rfl) (OW.nil rfl (QW.next ?_))
 rcases Bool.eq_false_or_eq_true ((r46.2 != 0)) with hc303 | hc303
 ·have hF := ite_t hF hc303
  refine CW.cond_t rfl hc303 (CW.seq (CW.region ?_))
  refine OW.pure 3 [(6, .slice none 0 0), (7, .int .i64 r46.2)] (by kernel_rfl) (OW.nil rfl (QW.next (CW.ret (QW.then_ret ?_))))
  have hst := hst.nilRow api_Act 46 enc_api_Act 7
  obtain rfl := Option.some.inj hF
  refine QW.ret2 rfl rfl rfl ?_
  exact ⟨(.slice none 0 0), rfl, hst.keep [2] rfl⟩
 have hF := ite_f hF hc303
 refine CW.cond_f rfl hc303 (CW.skip (QW.next (CW.seq (CW.region ?_))))
 refine OW.pure 1 [(10, .slice none 0 0)] (by kernel_rfl) (OW.nil rfl (QW.next (CW.block ?_)))
 refine CW.loop (fun n a w1 => ∃ (s307 : Unit), Rep 52 [(2, .slice a8 (p2).length c9), (8, .pointer none), (10, .slice none 0 0)] a ∧ St w (fp []) w1 [] ∧ loop engine_Trace_l2 n s307 = some r) fu (fun a ha => ⟨(), ha.agrees (by kernel_rfl), hst.keep [] rfl, hF⟩) ?_
 rintro n305 a w1 ⟨s307, ha, hst, hl306⟩
 rcases n305 with _ | n305
 ·exact (loop_zero hl306).elim
 refine CW.go ?_ ha
 refine CW.block (CW.seq (CW.region ?_))
 refine OW.pure 1 [(22, .pointer none)] (by kernel_rfl) ?_
 cases hl306

theorem tappetlaw11_awake_ok (w : World) (fu : Nat)  (r : Bool) (hF : tappetlaw11_awake fu = some r)
    (hst : St w (fp []) w []) (hT0 : Rd w (fp []) (.slice (some ⟨0, 0, none⟩) 7 7) enc_sigs_sig 5 tab_g0) (hT1 : Rd w (fp []) (.slice (some ⟨1, 0, none⟩) 23 23) enc_ops_form 2 tab_g1) :
    Calls Tryd.prog 5 [].toArray w (fun e w' => e = .returned (.bool r) ∧ St w (fp []) w' []) := by
 refine CW.start (N := 33) Tryd.func5 rfl rfl rfl (CW.seq (CW.region ?_))
 refine OW.pure 1 [] (by kernel_rfl) (OW.nil rfl (QW.next (CW.seq (CW.region ?_))))
 obtain ⟨r41, hr42, hF⟩ := bind_some' hF
 refine OW.fn rfl rfl rfl rfl (by kernel_rfl) (tappetlaw11_asks_ok _ r41 hr42 (hst.part [] rfl)) ?_
 rintro e w43 ⟨v45, v46, rfl, hst44⟩
 refine ⟨_, rfl, ?_⟩
 have hst := hst.join (idx := []) (rest := []) rfl hst44
 obtain ⟨l65, a66, c67, rfl⟩ := hst.len 0 rfl
 obtain ⟨l68, a69, c70, rfl⟩ := hst.len 1 rfl
 refine OW.pure 2 [(5, .agg [.int .u64 20, .int .u64 3].toArray), (6, .agg [.int .i64 0, .bool true, .int .u64 9, .bool false, .int .u64 0, .int .u64 0].toArray)] (by kernel_rfl) ?_
 refine OW.row (α := api_Res) (e := 50) (enc := enc_api_Res) (sz := 6) hst rfl rfl rfl [(api_Res.mk 0 true 9 false 0 0)] rfl (fun _ => rfl) rfl rfl (fun _ => by kernel_rfl) ?_
 intro g71 w72 hst
 obtain ⟨r73, hr74, hF⟩ := bind_some' hF
 refine OW.fn rfl rfl rfl rfl (by kernel_rfl) (engine_Trace_ok _ fu (.slice a66 (r41.Maps).length c67) (.slice a69 (r41.Code).length c70) r41 (api_Event.mk 20 3) (.slice (some ⟨g71, 0, none⟩) 1 1) ([(api_Res.mk 0 true 9 false 0 0)]) r73 hr74 (hst.part [] rfl) (hst.rd 0 rfl (fun _ => rfl) [] rfl (hst.len 0 rfl).1) (hst.rd 1 rfl (fun _ => rfl) [] rfl (hst.len 1 rfl).1) (hst.rd 2 rfl (fun _ => rfl) [] rfl (hst.len 2 rfl).1) (hT0.give hst []) (hT1.give hst [])) ?_
 rintro e w75 ⟨v77, rfl, hst76⟩
 refine ⟨_, rfl, ?_⟩
 have hst := hst.join (idx := []) (rest := [0, 1, 2]) rfl hst76
 obtain ⟨l78, a79, c80, rfl⟩ := hst.len 0 rfl
 refine OW.pure 5 [(1, .slice a79 (r73.1).length c80), (2, .int .i64 r73.2)] (by kernel_rfl) (OW.nil rfl (QW.next (CW.seq ?_)))
 obtain ⟨o96, ho97, hF⟩ := bind_some' hF
 refine CW.cutK (fun a w1 => Rep 33 [(0, .bool o96)] a ∧ St w (fp []) w1 []) ?_ ?_
 ·refine CW.region ?_
  refine OW.pure 3 [(13, .bool (r73.2 == 0))] (by kernel_rfl) ?_
  refine OW.split 13 rfl (fun hc98 => ?_) (fun hc98 => ?_)
  ·have ho97 := ite_t ho97 hc98
   refine OW.pure 5 [(18, .bool (((r73.1).length : Int) == 4))] (by kernel_rfl) ?_
   refine OW.split 18 rfl (fun hc99 => ?_) (fun hc99 => ?_)
   ·have ho97 := ite_t ho97 hc99
    refine OW.pure 1 [(19, .slice a79 (r73.1).length c80)] (by kernel_rfl) ?_
    obtain ⟨x100, hx101, ho97⟩ := bind_some' ho97
    obtain ⟨g103, o104, c105, hv102⟩ := hst.rowv 0 rfl hx101
    refine OW.idx 46 7 rfl rfl rfl rfl hv102 rfl (idx_some hx101).1 (idx_some hx101).2.1 (by kernel_rfl) (by kernel_rfl) ?_
    refine OW.ldN (cs := enc_api_Act x100) rfl rfl rfl rfl (by kernel_rfl) (by kernel_rfl) (hst.rowc 0 rfl (fun _ => rfl) hx101 hv102) ?_
    refine OW.pure 2 [(23, .agg [.int .i64 2, .int .i64 2, .int .i64 2, .int .i64 0, .int .u64 20, .int .u64 0, .int .u64 0].toArray)] (by kernel_rfl) ?_
    refine OW.op (v := .bool ((x100.Kind == 2) && ((x100.Pc == 2) && (((x100.Item.Map == 2) && ((x100.Item.Op == 0) && ((x100.Item.Key == 20) && ((x100.Item.Val == 0) && true)))) && ((x100.Val == 0) && true))))) rfl rfl rfl rfl (fun a ha => seq_run rfl rfl rfl (by kernel_rfl) (by kernel_rfl) a _ ha) ?_
    refine OW.pure 2 [(26, .bool ((x100.Kind == 2) && ((x100.Pc == 2) && (((x100.Item.Map == 2) && ((x100.Item.Op == 0) && ((x100.Item.Key == 20) && ((x100.Item.Val == 0) && true)))) && ((x100.Val == 0) && true)))))] (by kernel_rfl) ?_
    refine OW.split 26 rfl (fun hc106 => ?_) (fun hc106 => ?_)
    ·have ho97 := ite_t ho97 hc106
     refine OW.pure 1 [(27, .slice a79 (r73.1).length c80)] (by kernel_rfl) ?_
     obtain ⟨x107, hx108, ho97⟩ := bind_some' ho97
     obtain ⟨g110, o111, c112, hv109⟩ := hst.rowv 0 rfl hx108
     refine OW.idx 46 7 rfl rfl rfl rfl hv109 rfl (idx_some hx108).1 (idx_some hx108).2.1 (by kernel_rfl) (by kernel_rfl) ?_
     refine OW.ldN (cs := enc_api_Act x107) rfl rfl rfl rfl (by kernel_rfl) (by kernel_rfl) (hst.rowc 0 rfl (fun _ => rfl) hx108 hv109) ?_
     refine OW.pure 1 [(30, .agg [.int .i64 4, .int .i64 3, .int .i64 0, .int .i64 0, .int .u64 0, .int .u64 0, .int .u64 9].toArray)] (by kernel_rfl) ?_
     refine OW.op (v := .bool ((x107.Kind == 4) && ((x107.Pc == 3) && (((x107.Item.Map == 0) && ((x107.Item.Op == 0) && ((x107.Item.Key == 0) && ((x107.Item.Val == 0) && true)))) && ((x107.Val == 9) && true))))) rfl rfl rfl rfl (fun a ha => seq_run rfl rfl rfl (by kernel_rfl) (by kernel_rfl) a _ ha) ?_
     refine OW.pure 2 [(0, .bool ((x107.Kind == 4) && ((x107.Pc == 3) && (((x107.Item.Map == 0) && ((x107.Item.Op == 0) && ((x107.Item.Key == 0) && ((x107.Item.Val == 0) && true)))) && ((x107.Val == 9) && true)))))] (by kernel_rfl) (OW.nil rfl ?_)
     obtain rfl := Option.some.inj ho97
     exact QW.meet (fun a ha => ⟨ha.agrees (by kernel_rfl), hst.keep [] rfl⟩)
    have ho97 := ite_f ho97 hc106
    refine OW.pure 7 [(0, .bool false)] (by kernel_rfl) (OW.nil rfl ?_)
    obtain rfl := Option.some.inj ho97
    exact QW.meet (fun a ha => ⟨ha.agrees (by kernel_rfl), hst.keep [] rfl⟩)
   have ho97 := ite_f ho97 hc99
   refine OW.pure 15 [(0, .bool false)] (by kernel_rfl) (OW.nil rfl ?_)
   obtain rfl := Option.some.inj ho97
   exact QW.meet (fun a ha => ⟨ha.agrees (by kernel_rfl), hst.keep [] rfl⟩)
  have ho97 := ite_f ho97 hc98
  refine OW.pure 20 [(0, .bool false)] (by kernel_rfl) (OW.nil rfl ?_)
  obtain rfl := Option.some.inj ho97
  exact QW.meet (fun a ha => ⟨ha.agrees (by kernel_rfl), hst.keep [] rfl⟩)
 rintro a w1 ⟨ha, hst⟩
 refine CW.go ?_ ha
 refine CW.ret ?_
 obtain rfl := Option.some.inj hF
 refine QW.ret1 rfl rfl ?_
 exact ⟨rfl, hst.keep [] rfl⟩

theorem tappetlaw11_copied_ok (w : World) (v0_0 : Value) (v0_1 : Value) (p0 : api_Module) (r : api_Module) (hF : tappetlaw11_copied p0 = some r)
    (hst : St w (fp []) w []) (h0_0 : Rd w (fp []) v0_0 (encInt .i64) 1 p0.Maps) (h0_1 : Rd w (fp []) v0_1 enc_api_Inst 5 p0.Code) :
    Calls Tryd.prog 7 [.agg [v0_0, v0_1].toArray].toArray w (fun e w' => ∃ (x0_0 : Value) (x0_1 : Value), e = .returned (.agg [x0_0, x0_1].toArray) ∧ St w (fp []) w' [rowI x0_0 3 (encInt .i64) 1 r.Maps, rowI x0_1 82 enc_api_Inst 5 r.Code]) := by
 refine CW.start (N := 12) Tryd.func7 rfl rfl rfl ?_
 obtain ⟨l1, a2, c3, rfl⟩ := h0_0.len
 obtain ⟨l4, a5, c6, rfl⟩ := h0_1.len
 refine CW.seq (CW.region ?_)
 refine OW.box hst rfl rfl rfl rfl [.slice a2 (p0.Maps).length c3, .slice a5 (p0.Code).length c6] rfl ?_
 intro b11 w12 hst
 refine OW.alloc hst rfl rfl rfl [.slice none 0 0, .slice none 0 0] (by kernel_rfl) ?_
 intro b13 w14 hst
 refine OW.nil rfl (QW.next (CW.seq ?_))
 obtain ⟨o72, ho73, hF⟩ := bind_some' hF
 refine CW.cutK (fun a w1 => ∃ (v70 : Value) (v71 : Value), Rep 12 [(2, .pointer (some ⟨b13, 0, none⟩))] a ∧ St w (fp []) w1 [blkI b13 25 [v70, v71], rowI v70 3 (encInt .i64) 1 (([] : List Int) ++ p0.Maps), rowI v71 82 enc_api_Inst 5 (([] : List api_Inst) ++ p0.Code)]) ?_ ?_
 ·refine CW.plan (by kernel_rfl) ?_
  intro w74 hch75
  have hst := hst.same hch75
  refine OA.pure [1] [(4, .pointer (some ⟨b11, 0, none⟩))] (by kernel_rfl) ?_
  refine OA.ld (i := 2) rfl (by kernel_rfl) rfl rfl rfl (by kernel_rfl) (hst.blk 0 rfl rfl) ?_
  refine OA.pure [5] [(8, .pointer (some ⟨b11, 1, none⟩))] (by kernel_rfl) ?_
  refine OA.ld (i := 6) rfl (by kernel_rfl) rfl rfl rfl (by kernel_rfl) (hst.blk 0 rfl rfl) ?_
  refine OA.acts [0, 4] 0 (by kernel_rfl) (by kernel_rfl) (by kernel_rfl) (alts_cons ?_ (alts_cons ?_ alts_nil))
  ·refine Alt.of (i := 0) [6, 2] rfl rfl (by kernel_rfl) (by kernel_rfl) ?_
   refine OW.row (α := Int) (e := 3) (enc := encInt .i64) (sz := 1) hst rfl rfl rfl [] rfl (fun _ => rfl) rfl rfl (fun _ => by kernel_rfl) ?_
   intro g76 w77 hst
   refine OA.next ⟨(hst.blk 0 rfl rfl), (hst.blk 0 rfl rfl), trivial⟩ ?_
   refine OA.acts [3, 4] 3 (by kernel_rfl) (by kernel_rfl) (by kernel_rfl) (alts_cons ?_ (alts_cons ?_ alts_nil))
   ·refine Alt.of (i := 3) [6] rfl rfl (by kernel_rfl) (by kernel_rfl) ?_
    obtain ⟨u78, hr79, ho73⟩ := bind_some' ho73
    refine OW.app hst 2 rfl (fun _ => rfl) (fun _ => rfl) rfl rfl rfl rfl rfl rfl (by kernel_rfl) el3 (h0_0.on hst) (room_le hr79) ?_
    intro v80 w81 hst
    obtain ⟨l82, a83, c84, rfl⟩ := hst.len 2 rfl
    refine OA.next ⟨(hst.blk 0 rfl rfl), trivial⟩ ?_
    refine OA.act (i := 4) [6] (by kernel_rfl) rfl rfl (by kernel_rfl) (by kernel_rfl) ?_
    refine OW.row (α := api_Inst) (e := 82) (enc := enc_api_Inst) (sz := 5) hst rfl rfl rfl [] rfl (fun _ => rfl) rfl rfl (fun _ => by kernel_rfl) ?_
    intro g85 w86 hst
    refine OA.next ⟨(hst.blk 0 rfl rfl), trivial⟩ ?_
    refine OA.act (i := 7) [] (by kernel_rfl) rfl rfl (by kernel_rfl) (by kernel_rfl) ?_
    obtain ⟨u87, hr88, ho73⟩ := bind_some' ho73
    refine OW.app hst 3 rfl (fun _ => rfl) (fun _ => rfl) rfl rfl rfl rfl rfl rfl (by kernel_rfl) el82 (h0_1.on hst) (room_le hr88) ?_
    intro v89 w90 hst
    obtain ⟨l91, a92, c93, rfl⟩ := hst.len 3 rfl
    refine OA.next trivial ?_
    refine OA.pure [8] [(11, .agg [.slice a83 ((([] : List Int) ++ p0.Maps)).length c84, .slice a92 ((([] : List api_Inst) ++ p0.Code)).length c93].toArray)] (by kernel_rfl) ?_
    refine OA.act (i := 9) [] (by kernel_rfl) rfl rfl (by kernel_rfl) (by kernel_rfl) ?_
    refine OW.stB hst 1 rfl rfl rfl rfl rfl (by kernel_rfl) rfl rfl [.slice a83 ((([] : List Int) ++ p0.Maps)).length c84, .slice a92 ((([] : List api_Inst) ++ p0.Code)).length c93] rfl ?_
    intro w94 hst
    refine OA.next trivial ?_
    refine OA.fin (by kernel_rfl) (by kernel_rfl) ?_
    obtain rfl := Option.some.inj ho73
    exact QW.meet (fun a ha => ⟨(.slice a83 ((([] : List Int) ++ p0.Maps)).length c84), (.slice a92 ((([] : List api_Inst) ++ p0.Code)).length c93), ha.agrees (by kernel_rfl), hst.keep [1, 2, 3] rfl⟩)
   obtain ⟨u78, hr79, ho73⟩ := bind_some' ho73
   obtain ⟨u87, hr88, ho73⟩ := bind_some' ho73
   refine Alt.of (i := 4) [6, 2] rfl rfl (by kernel_rfl) (by kernel_rfl) ?_
   refine OW.row (α := api_Inst) (e := 82) (enc := enc_api_Inst) (sz := 5) hst rfl rfl rfl [] rfl (fun _ => rfl) rfl rfl (fun _ => by kernel_rfl) ?_
   intro g95 w96 hst
   refine OA.next ⟨(hst.blk 0 rfl rfl), (hst.blk 0 rfl rfl), trivial⟩ ?_
   refine OA.act (i := 3) [6] (by kernel_rfl) rfl rfl (by kernel_rfl) (by kernel_rfl) ?_
   refine OW.app hst 2 rfl (fun _ => rfl) (fun _ => rfl) rfl rfl rfl rfl rfl rfl (by kernel_rfl) el3 (h0_0.on hst) (room_le hr79) ?_
   intro v97 w98 hst
   obtain ⟨l99, a100, c101, rfl⟩ := hst.len 2 rfl
   refine OA.next ⟨(hst.blk 0 rfl rfl), trivial⟩ ?_
   refine OA.act (i := 7) [] (by kernel_rfl) rfl rfl (by kernel_rfl) (by kernel_rfl) ?_
   refine OW.app hst 3 rfl (fun _ => rfl) (fun _ => rfl) rfl rfl rfl rfl rfl rfl (by kernel_rfl) el82 (h0_1.on hst) (room_le hr88) ?_
   intro v102 w103 hst
   obtain ⟨l104, a105, c106, rfl⟩ := hst.len 3 rfl
   refine OA.next trivial ?_
   refine OA.pure [8] [(11, .agg [.slice a100 ((([] : List Int) ++ p0.Maps)).length c101, .slice a105 ((([] : List api_Inst) ++ p0.Code)).length c106].toArray)] (by kernel_rfl) ?_
   refine OA.act (i := 9) [] (by kernel_rfl) rfl rfl (by kernel_rfl) (by kernel_rfl) ?_
   refine OW.stB hst 1 rfl rfl rfl rfl rfl (by kernel_rfl) rfl rfl [.slice a100 ((([] : List Int) ++ p0.Maps)).length c101, .slice a105 ((([] : List api_Inst) ++ p0.Code)).length c106] rfl ?_
   intro w107 hst
   refine OA.next trivial ?_
   refine OA.fin (by kernel_rfl) (by kernel_rfl) ?_
   obtain rfl := Option.some.inj ho73
   exact QW.meet (fun a ha => ⟨(.slice a100 ((([] : List Int) ++ p0.Maps)).length c101), (.slice a105 ((([] : List api_Inst) ++ p0.Code)).length c106), ha.agrees (by kernel_rfl), hst.keep [1, 2, 3] rfl⟩)
  refine Alt.of (i := 4) [6, 2] rfl rfl (by kernel_rfl) (by kernel_rfl) ?_
  refine OW.row (α := api_Inst) (e := 82) (enc := enc_api_Inst) (sz := 5) hst rfl rfl rfl [] rfl (fun _ => rfl) rfl rfl (fun _ => by kernel_rfl) ?_
  intro g108 w109 hst
  refine OA.next ⟨(hst.blk 0 rfl rfl), (hst.blk 0 rfl rfl), trivial⟩ ?_
  refine OA.act (i := 0) [6, 2] (by kernel_rfl) rfl rfl (by kernel_rfl) (by kernel_rfl) ?_
  refine OW.row (α := Int) (e := 3) (enc := encInt .i64) (sz := 1) hst rfl rfl rfl [] rfl (fun _ => rfl) rfl rfl (fun _ => by kernel_rfl) ?_
  intro g110 w111 hst
  refine OA.next ⟨(hst.blk 0 rfl rfl), (hst.blk 0 rfl rfl), trivial⟩ ?_
  refine OA.act (i := 3) [6] (by kernel_rfl) rfl rfl (by kernel_rfl) (by kernel_rfl) ?_
  obtain ⟨u112, hr113, ho73⟩ := bind_some' ho73
  refine OW.app hst 3 rfl (fun _ => rfl) (fun _ => rfl) rfl rfl rfl rfl rfl rfl (by kernel_rfl) el3 (h0_0.on hst) (room_le hr113) ?_
  intro v114 w115 hst
  obtain ⟨l116, a117, c118, rfl⟩ := hst.len 3 rfl
  refine OA.next ⟨(hst.blk 0 rfl rfl), trivial⟩ ?_
  refine OA.act (i := 7) [] (by kernel_rfl) rfl rfl (by kernel_rfl) (by kernel_rfl) ?_
  obtain ⟨u119, hr120, ho73⟩ := bind_some' ho73
  refine OW.app hst 2 rfl (fun _ => rfl) (fun _ => rfl) rfl rfl rfl rfl rfl rfl (by kernel_rfl) el82 (h0_1.on hst) (room_le hr120) ?_
  intro v121 w122 hst
  obtain ⟨l123, a124, c125, rfl⟩ := hst.len 2 rfl
  refine OA.next trivial ?_
  refine OA.pure [8] [(11, .agg [.slice a117 ((([] : List Int) ++ p0.Maps)).length c118, .slice a124 ((([] : List api_Inst) ++ p0.Code)).length c125].toArray)] (by kernel_rfl) ?_
  refine OA.act (i := 9) [] (by kernel_rfl) rfl rfl (by kernel_rfl) (by kernel_rfl) ?_
  refine OW.stB hst 1 rfl rfl rfl rfl rfl (by kernel_rfl) rfl rfl [.slice a117 ((([] : List Int) ++ p0.Maps)).length c118, .slice a124 ((([] : List api_Inst) ++ p0.Code)).length c125] rfl ?_
  intro w126 hst
  refine OA.next trivial ?_
  refine OA.fin (by kernel_rfl) (by kernel_rfl) ?_
  obtain rfl := Option.some.inj ho73
  exact QW.meet (fun a ha => ⟨(.slice a117 ((([] : List Int) ++ p0.Maps)).length c118), (.slice a124 ((([] : List api_Inst) ++ p0.Code)).length c125), ha.agrees (by kernel_rfl), hst.keep [1, 3, 2] rfl⟩)
 rintro a w1 ⟨v70, v71, ha, hst⟩
 refine CW.go ?_ ha
 obtain ⟨l127, a128, c129, rfl⟩ := hst.len 1 rfl
 obtain ⟨l130, a131, c132, rfl⟩ := hst.len 2 rfl
 refine CW.ret ?_
 obtain rfl := Option.some.inj hF
 refine QW.ret_c rfl rfl (run_loadN (cs := [.slice a128 ((([] : List Int) ++ p0.Maps)).length c129, .slice a131 ((([] : List api_Inst) ++ p0.Code)).length c132]) (by kernel_rfl) (by kernel_rfl) (hst.blkN 0 rfl 0 2)) ?_
 exact ⟨(.slice a128 ((([] : List Int) ++ p0.Maps)).length c129), (.slice a131 ((([] : List api_Inst) ++ p0.Code)).length c132), rfl, hst.keep [1, 2] rfl⟩

theorem slices_Clone_tappet_api_Type_tappet_api_Type_ok (w : World) (v0 : Value) (p0 : List api_Type) (r : (List api_Type)) (hF : slices_Clone_tappet_api_Type_tappet_api_Type p0 = some r)
    (hst : St w (fp []) w []) (h0 : Rd w (fp []) v0 enc_api_Type 4 p0) :
    Calls Tryd.prog 25 [v0].toArray w (fun e w' => ∃ (x0 : Value), e = .returned (x0) ∧ St w (fp []) w' [rowI x0 66 enc_api_Type 4 r]) := by
 refine CW.start (N := 8) Tryd.func25 rfl rfl rfl ?_
 obtain ⟨l1, a2, c3, rfl⟩ := h0.len
 refine CW.seq (CW.region ?_)
 refine OW.pure 1 [] (by kernel_rfl) (OW.nil rfl (QW.next (CW.seq (CW.seq (CW.region ?_)))))
 refine OW.pure 1 [(3, .slice a2 (p0).length c3)] (by kernel_rfl) ?_
 refine OW.op (v := .bool (a2).isNone) rfl rfl rfl rfl (fun a ha => snil_run (e := 66) rfl rfl rfl (by kernel_rfl) a _ ha) (OW.nil rfl (QW.next ?_))
 rcases Bool.eq_false_or_eq_true ((a2).isNone) with hc4 | hc4
 ·have hn5 := h0.isnil (fun _ => ⟨_, rfl⟩) hc4
  have hF : some ([] : List api_Type) = some r := by rw [hn5] at hF; exact hF
  refine CW.cond_t rfl hc4 (CW.seq (CW.region ?_))
  refine OW.pure 1 [(2, .slice none 0 0)] (by kernel_rfl) (OW.nil rfl (QW.next (CW.ret (QW.then_ret ?_))))
  have hst := hst.nilRow api_Type 66 enc_api_Type 4
  obtain rfl := Option.some.inj hF
  refine QW.ret1 rfl rfl ?_
  exact ⟨(.slice none 0 0), rfl, hst.keep [0] rfl⟩
 refine CW.cond_f rfl hc4 (CW.skip (QW.next (CW.seq (CW.region ?_))))
 refine OW.row (α := api_Type) (e := 66) (enc := enc_api_Type) (sz := 4) hst rfl rfl rfl [] rfl (fun _ => rfl) rfl rfl (fun _ => by kernel_rfl) ?_
 intro g15 w16 hst
 refine OW.pure 1 [(6, .slice a2 (p0).length c3)] (by kernel_rfl) ?_
 obtain ⟨u17, hr18, hF⟩ := bind_some' hF
 refine OW.app hst 0 rfl (fun _ => rfl) (fun _ => rfl) rfl rfl rfl rfl rfl rfl (by kernel_rfl) el66 (h0.on hst) (room_le hr18) ?_
 intro v19 w20 hst
 obtain ⟨l21, a22, c23, rfl⟩ := hst.len 0 rfl
 refine OW.pure 1 [(2, .slice a22 ((([] : List api_Type) ++ p0)).length c23)] (by kernel_rfl) (OW.nil rfl (QW.next (CW.ret ?_)))
 obtain rfl := Option.some.inj hF
 refine QW.ret1 rfl rfl ?_
 exact ⟨(.slice a22 ((([] : List api_Type) ++ p0)).length c23), rfl, hst.keep [0] rfl⟩

theorem judge_Types_ok (w : World) (wb : World) (Sb : List Nat) (fu : Nat) (v0_0 : Value) (v0_1 : Value) (p0 : api_Module) (r : (List (List api_Type)) × Int) (hF : judge_Types fu p0 = some r)
    (hst : St w (fp []) w []) (hb : Bor wb Sb w (fp [])) (h0_0 : Rd wb Sb v0_0 (encInt .i64) 1 p0.Maps) (h0_1 : Rd wb Sb v0_1 enc_api_Inst 5 p0.Code) (hT0 : Rd w (fp []) (.slice (some ⟨0, 0, none⟩) 7 7) enc_sigs_sig 5 tab_g0) (hT1 : Rd w (fp []) (.slice (some ⟨1, 0, none⟩) 23 23) enc_ops_form 2 tab_g1) :
    Calls Tryd.prog 13 [.agg [v0_0, v0_1].toArray].toArray w (fun e w' => ∃ (x0 : Value) (Sx0 : List Nat), e = .returned (.tuple #[x0, .int .i64 r.2]) ∧ St w (fp []) w' [nI 59 R_t59 x0 Sx0 r.1 none]) := by
 refine CW.start (N := 47) Tryd.func13 rfl rfl rfl ?_
 have h0_0b := h0_0.bor hb
 have h0_1b := h0_1.bor hb
 obtain ⟨l1, a2, c3, rfl⟩ := h0_0b.len
 obtain ⟨l4, a5, c6, rfl⟩ := h0_1b.len
 refine CW.seq (CW.region ?_)
 refine OW.box hst rfl rfl rfl rfl [.slice a2 (p0.Maps).length c3, .slice a5 (p0.Code).length c6] rfl ?_
 intro b9 w10 hst
 refine OW.pure 2 [] (by kernel_rfl) (OW.nil rfl (QW.next (CW.seq (CW.region ?_))))
 refine OW.ldN (cs := [.slice a2 (p0.Maps).length c3, .slice a5 (p0.Code).length c6]) rfl rfl rfl rfl (by kernel_rfl) (by kernel_rfl) (hst.blkN 0 rfl 0 2) ?_
 obtain ⟨r21, hr22, hF⟩ := bind_some' hF
 refine OW.fn rfl rfl rfl rfl (by kernel_rfl) (judge_judged_ok _ wb Sb fu (.slice a2 (p0.Maps).length c3) (.slice a5 (p0.Code).length c6) p0 r21 hr22 (hst.part [] rfl) (hb.on hst []) h0_0 h0_1 (hT0.give hst []) (hT1.give hst [])) ?_
 rintro e w23 (⟨k25, v27, S28, he26, rfl, hst24⟩ | ⟨he29, rfl, hst24⟩)
 ·have hF := ocase_some hF he26
  refine ⟨_, rfl, ?_⟩
  have hst := hst.join (idx := []) (rest := [0]) rfl hst24
  obtain ⟨b30, rfl⟩ := hst.fptr 0 rfl
  refine OW.pure 7 [(4, .pointer (some ⟨b30, 0, none⟩)), (6, .int .i64 r21.2.2)] (by kernel_rfl) (OW.nil rfl (QW.next (CW.seq (CW.seq (CW.region ?_)))))
  refine OW.pure 2 [(17, .bool (r21.2.2 != 0))] (by kernel_rfl) (OW.nil rfl (QW.next ?_))
  rcases Bool.eq_false_or_eq_true ((r21.2.2 != 0)) with hc31 | hc31
  ·have hF := ite_t hF hc31
   refine CW.cond_t rfl hc31 (CW.seq (CW.region ?_))
   refine OW.pure 3 [(2, .slice none 0 0), (3, .int .i64 r21.2.2)] (by kernel_rfl) (OW.nil rfl (QW.next (CW.ret (QW.then_ret ?_))))
   have hst := hst.nNil 59 R_t59 none
   obtain rfl := Option.some.inj hF
   refine QW.ret2 rfl rfl rfl ?_
   exact ⟨(.slice none 0 0), ([]), rfl, hst.keep [2] rfl⟩
  have hF := ite_f hF hc31
  refine CW.cond_f rfl hc31 (CW.skip (QW.next (CW.seq (CW.region ?_))))
  refine OW.pure 1 [(19, .pointer (some ⟨b9, 1, none⟩))] (by kernel_rfl) ?_
  refine OW.ld rfl rfl rfl rfl (by kernel_rfl) (hst.blk 1 rfl rfl) ?_
  refine OW.pure 1 [(21, .int .i64 ((p0.Code).length : Int))] (by kernel_rfl) ?_
  obtain ⟨m36, hm37, hF⟩ := bind_some' hF
  refine OW.make (enc := fit 1) (sz := 1) hst rfl rfl rfl rfl rfl (by kernel_rfl) el59 [.slice none 0 0] (by kernel_rfl) (fun _ => fit_len _ _) hm37 ?_
  intro g38 w39 hst
  have hst := hst.nNew 2 R_t59 rfl rfl [] (fun w => ⟨_, rfl, rfl, Owns.nil w _ _ none⟩)
  refine OW.pure 1 [(7, .slice (some ⟨g38, 0, none⟩) m36 m36)] (by kernel_rfl) (OW.nil rfl (QW.next (CW.seq (CW.seq ?_))))
  obtain ⟨v40, S41, v42, S43, v44, S45, v46, S47, v48, S49, hst⟩ := hst.openQ5 0 rfl rfl rfl rfl rfl rfl
  have hbo50 := hst.borOut 3 rfl
  have hbr51 := hbo50.bor hb
  have hbo52 := hst.borOut 4 rfl
  have hbr53 := hbo52.bor hb
  have hst := hst.toRow1 5 rfl
  have hst := hst.toRow1 6 rfl
  have hst := hst.toRow1 7 rfl
  have hst := hst.keep [0, 1, 2, 5, 6, 7] rfl
  obtain ⟨l54, a55, c56, rfl⟩ := hbr51.len
  obtain ⟨l57, a58, c59, rfl⟩ := hbr53.len
  obtain ⟨l60, a61, c62, rfl⟩ := hst.len 3 rfl
  obtain ⟨l63, a64, c65, rfl⟩ := hst.len 4 rfl
  obtain ⟨l66, a67, c68, rfl⟩ := hst.len 5 rfl
  have hst : St _ _ _ [blkI b30 98 [.slice a55 (k25.Module.Maps).length c56, .slice a58 (k25.Module.Code).length c59, .slice a61 (k25.came).length c62, .slice a64 (k25.any).length c65, .slice a67 (k25.loops).length c68], _, _, _, _, _] := hst
  refine CW.region ?_
  refine OW.pure 3 [(25, .pointer (some ⟨b30, 2, none⟩))] (by kernel_rfl) ?_
  refine OW.ld rfl rfl rfl rfl (by kernel_rfl) (hst.blk 0 rfl rfl) ?_
  refine OW.pure 2 [(27, .int .i64 ((k25.came).length : Int)), (28, .int .i64 0)] (by kernel_rfl) (OW.nil rfl (QW.next ?_))
  obtain ⟨o280, ho281, hF⟩ := bind_some' hF
  refine CW.cutK (fun a w1 => ∃ (S279 : List Nat), Rep 47 [(7, .slice (some ⟨g38, 0, none⟩) m36 m36)] a ∧ St w (fp []) w1 [nI 59 R_t59 (.slice (some ⟨g38, 0, none⟩) m36 m36) S279 o280 none]) ?_ ?_
  ·refine CW.block ?_
   refine CW.loop (fun n a w1 => ∃ (i423 : Nat) (s421 : (List (List api_Type))) (S422 : List Nat), i423 + n = (k25.came).length ∧ Rep 47 [(4, .pointer (some ⟨b30, 0, none⟩)), (7, .slice (some ⟨g38, 0, none⟩) m36 m36), (26, .slice a61 (k25.came).length c62), (27, .int .i64 ((k25.came).length : Int)), (28, .int .i64 (i423 : Int))] a ∧ St w (fp []) w1 [blkI b30 98 [.slice a55 (k25.Module.Maps).length c56, .slice a58 (k25.Module.Code).length c59, .slice a61 (k25.came).length c62, .slice a64 (k25.any).length c65, .slice a67 (k25.loops).length c68], rowI (.slice a61 (k25.came).length c62) 100 (arrC (enc_api_Type) 8) 32 k25.came, rowI (.slice a64 (k25.any).length c65) 4 encBool 1 k25.any, rowI (.slice a67 (k25.loops).length c68) 133 enc_api_Loop 3 k25.loops, nI 59 R_t59 (.slice (some ⟨g38, 0, none⟩) m36 m36) S422 s421 none] ∧ forN (judge_Types_l1 k25) (fun (s421 : (List (List api_Type))) => s421) n i423 s421 = some o280) (k25.came).length (fun a ha => ⟨0, (List.replicate m36 []), (ownB (.slice (some ⟨g38, 0, none⟩) m36 m36)).toList, Nat.zero_add _, ha.agrees (by kernel_rfl), hst.keep [0, 3, 4, 5, 2] rfl, ho281⟩) ?_
   rintro n419 a w1 ⟨i423, s421, S422, hi424, ha, hst, hl420⟩
   refine CW.go ?_ ha
   refine CW.seq (CW.region ?_)
   refine OW.pure 1 [(29, .bool (decide ((i423 : Int) < ((k25.came).length : Int))))] (by kernel_rfl) (OW.nil rfl (QW.next (CW.seq ?_)))
   rcases Bool.eq_false_or_eq_true (decide ((i423 : Int) < ((k25.came).length : Int))) with hc425 | hc425
   ·rcases n419 with _ | n419
    ·exact (cnt0 hi424 hc425).elim
    refine CW.cond_t rfl hc425 (CW.skip (QW.next (CW.seq (CW.block (CW.seq (CW.region ?_))))))
    refine OW.pure 1 [(30, .int .i64 (i423 : Int))] (by kernel_rfl) ?_
    obtain ⟨x435, hx436, hl420⟩ := bind_some' hl420
    obtain ⟨g438, o439, c440, hv437⟩ := hst.rowv 1 rfl hx436
    refine OW.idx 100 32 rfl rfl rfl rfl hv437 rfl (idx_some hx436).1 (idx_some hx436).2.1 (by kernel_rfl) (by kernel_rfl) ?_
    refine OW.ldN (cs := arrC (enc_api_Type) 8 x435) rfl rfl rfl rfl (by kernel_rfl) (by kernel_rfl) (hst.rowc 1 rfl (fun _ => rfl) hx436 hv437) ?_
    refine OW.alloc hst rfl rfl rfl [.int .i64 0, .int .u64 0, .int .u64 0, .int .i64 0, .int .i64 0, .int .u64 0, .int .u64 0, .int .i64 0, .int .i64 0, .int .u64 0, .int .u64 0, .int .i64 0, .int .i64 0, .int .u64 0, .int .u64 0, .int .i64 0, .int .i64 0, .int .u64 0, .int .u64 0, .int .i64 0, .int .i64 0, .int .u64 0, .int .u64 0, .int .i64 0, .int .i64 0, .int .u64 0, .int .u64 0, .int .i64 0, .int .i64 0, .int .u64 0, .int .u64 0, .int .i64 0] (by kernel_rfl) ?_
    intro b441 w442 hst
    refine OW.pure 1 [(8, .int .i64 (i423 : Int))] (by kernel_rfl) ?_
    refine OW.stB hst 5 rfl rfl rfl rfl rfl (by kernel_rfl) rfl rfl [.int .i64 (x435 0).Kind, .int .u64 (x435 0).Span.Lo, .int .u64 (x435 0).Span.Hi, .int .i64 (x435 0).Map, .int .i64 (x435 1).Kind, .int .u64 (x435 1).Span.Lo, .int .u64 (x435 1).Span.Hi, .int .i64 (x435 1).Map, .int .i64 (x435 2).Kind, .int .u64 (x435 2).Span.Lo, .int .u64 (x435 2).Span.Hi, .int .i64 (x435 2).Map, .int .i64 (x435 3).Kind, .int .u64 (x435 3).Span.Lo, .int .u64 (x435 3).Span.Hi, .int .i64 (x435 3).Map, .int .i64 (x435 4).Kind, .int .u64 (x435 4).Span.Lo, .int .u64 (x435 4).Span.Hi, .int .i64 (x435 4).Map, .int .i64 (x435 5).Kind, .int .u64 (x435 5).Span.Lo, .int .u64 (x435 5).Span.Hi, .int .i64 (x435 5).Map, .int .i64 (x435 6).Kind, .int .u64 (x435 6).Span.Lo, .int .u64 (x435 6).Span.Hi, .int .i64 (x435 6).Map, .int .i64 (x435 7).Kind, .int .u64 (x435 7).Span.Lo, .int .u64 (x435 7).Span.Hi, .int .i64 (x435 7).Map] rfl ?_
    intro w443 hst
    refine OW.nil rfl (QW.next (CW.seq (CW.region ?_)))
    refine OW.pure 3 [(35, .pointer (some ⟨b30, 3, none⟩))] (by kernel_rfl) ?_
    refine OW.ld rfl rfl rfl rfl (by kernel_rfl) (hst.blk 0 rfl rfl) ?_
    refine OW.pure 1 [(37, .int .i64 (i423 : Int))] (by kernel_rfl) ?_
    obtain ⟨x450, hx451, hl420⟩ := bind_some' hl420
    obtain ⟨g453, o454, c455, hv452⟩ := hst.rowv 2 rfl hx451
    refine OW.idx 4 1 rfl rfl rfl rfl hv452 rfl (idx_some hx451).1 (idx_some hx451).2.1 (by kernel_rfl) (by kernel_rfl) ?_
    refine OW.ld rfl rfl rfl rfl (by kernel_rfl) (hst.rowc 2 rfl (fun _ => rfl) hx451 hv452 0 _ rfl) (OW.nil rfl (QW.next ?_))
    rcases Bool.eq_false_or_eq_true (x450) with hc456 | hc456
    ·have hl420 := ite_t hl420 hc456
     refine CW.cond_t rfl hc456 (CW.region ?_)
     refine OW.pure 2 [(40, .slice (some ⟨g38, 0, none⟩) m36 m36), (41, .int .i64 (i423 : Int))] (by kernel_rfl) ?_
     refine OW.op (v := .slice (some ⟨b441, 0, none⟩) 8 8) rfl rfl rfl rfl (fun a ha => asl_all (e := 66) 4 rfl rfl (by kernel_rfl) (by kernel_rfl) a _ ha) ?_
     obtain ⟨r474, hr475, hl420⟩ := bind_some' hl420
     refine OW.fn rfl rfl rfl rfl (by kernel_rfl) (slices_Clone_tappet_api_Type_tappet_api_Type_ok _ (.slice (some ⟨b441, 0, none⟩) 8 8) (arrL 8 x435) r474 hr475 (hst.part [] rfl) (hst.arrRd 5 rfl enc_api_Type (fun _ => rfl) 8 x435 0 rfl rfl rfl [] rfl)) ?_
     rintro e w476 ⟨v478, rfl, hst477⟩
     refine ⟨_, rfl, ?_⟩
     have hst := hst.join (idx := []) (rest := [0, 1, 2, 3, 4, 5]) rfl hst477
     obtain ⟨l479, a480, c481, rfl⟩ := hst.len 0 rfl
     obtain ⟨x482, hx483, hl420⟩ := bind_some' hl420
     obtain ⟨g485, o486, c487, hv484⟩ := hst.nrowv 5 rfl hx483
     refine OW.idx 59 1 rfl rfl rfl rfl hv484 rfl (idx_some hx483).1 (idx_some hx483).2.1 (by kernel_rfl) (by kernel_rfl) ?_
     have hst := hst.toIt 0 rfl (fun _ => rfl) (by decide)
     refine OW.stN hst 5 0 rfl rfl (fun _ _ e => by cases e) rfl hv484 rfl rfl hx483 rfl rfl rfl rfl (by kernel_rfl) rfl ?_
     intro S490 w489 hst
     have hst := hst.keep [1, 2, 3, 4, 5, 6] rfl
     refine OW.nil rfl (QW.block_normal (QW.next (CW.region ?_)))
     refine OW.pure 2 [(28, .int .i64 (w64 ((i423 : Int) + 1)))] (by kernel_rfl) (OW.nil rfl ?_)
     refine QW.say 28 rfl (congrArg (Value.int .i64) (w64_cnt hc425 l60)) ?_
     exact QW.meet (fun a ha => ⟨n419, Nat.lt_succ_self _, i423 + 1, (s421.set (Int.toNat (i423 : Int)) r474), S490, cnt_next hi424, ha.agrees (by kernel_rfl), hst.keep [0, 1, 2, 3, 4] rfl, hl420⟩)
    have hl420 := ite_f hl420 hc456
    refine CW.cond_f rfl hc456 (CW.skip (QW.block_normal (QW.next (CW.region ?_))))
    refine OW.pure 2 [(28, .int .i64 (w64 ((i423 : Int) + 1)))] (by kernel_rfl) (OW.nil rfl ?_)
    refine QW.say 28 rfl (congrArg (Value.int .i64) (w64_cnt hc425 l60)) ?_
    exact QW.meet (fun a ha => ⟨n419, Nat.lt_succ_self _, i423 + 1, s421, S422, cnt_next hi424, ha.agrees (by kernel_rfl), hst.keep [0, 1, 2, 3, 4] rfl, hl420⟩)
   rcases n419 with _ | n419
   ·refine CW.cond_f rfl hc425 ?_
    refine CW.exit (QW.then_exit (QW.then_exit ?_))
    refine QW.block_here ?_
    have hst := hst.borIn hbo50
    have hst := hst.borIn hbo52
    have hst := hst.toIt 1 rfl (fun _ => rfl) (by decide)
    have hst := hst.toIt 2 rfl (fun _ => rfl) (by decide)
    have hst := hst.toIt 3 rfl (fun _ => rfl) (by decide)
    obtain ⟨S491, hst⟩ := hst.shutP5 (R_t98 wb Sb) rfl 0 5 6 1 2 3 [4] rfl rfl rfl rfl rfl rfl rfl k25 rfl rfl
    obtain rfl := Option.some.inj hl420
    exact QW.meet (fun a ha => ⟨S422, ha.agrees (by kernel_rfl), hst.keep [0] rfl⟩)
   exact (cnt1 hi424 hc425).elim
  rintro a w1 ⟨S279, ha, hst⟩
  refine CW.go ?_ ha
  refine CW.seq (CW.region ?_)
  refine OW.pure 3 [(2, .slice (some ⟨g38, 0, none⟩) m36 m36), (3, .int .i64 0)] (by kernel_rfl) (OW.nil rfl (QW.next (CW.ret ?_)))
  obtain rfl := Option.some.inj hF
  refine QW.ret2 rfl rfl rfl ?_
  exact ⟨(.slice (some ⟨g38, 0, none⟩) m36 m36), S279, rfl, hst.keep [0] rfl⟩
 have hF := ocase_none hF he29
 refine ⟨_, rfl, ?_⟩
 have hst := hst.join (idx := []) (rest := [0]) rfl hst24
 refine OW.pure 7 [(4, .pointer none), (6, .int .i64 r21.2.2)] (by kernel_rfl) (OW.nil rfl (QW.next (CW.seq (CW.seq (CW.region ?_)))))
 refine OW.pure 2 [(17, .bool (r21.2.2 != 0))] (by kernel_rfl) (OW.nil rfl (QW.next ?_))
 rcases Bool.eq_false_or_eq_true ((r21.2.2 != 0)) with hc492 | hc492
 ·have hF := ite_t hF hc492
  refine CW.cond_t rfl hc492 (CW.seq (CW.region ?_))
  refine OW.pure 3 [(2, .slice none 0 0), (3, .int .i64 r21.2.2)] (by kernel_rfl) (OW.nil rfl (QW.next (CW.ret (QW.then_ret ?_))))
  have hst := hst.nNil 59 R_t59 none
  obtain rfl := Option.some.inj hF
  refine QW.ret2 rfl rfl rfl ?_
  exact ⟨(.slice none 0 0), ([]), rfl, hst.keep [1] rfl⟩
 have hF := ite_f hF hc492
 refine CW.cond_f rfl hc492 (CW.skip (QW.next (CW.seq (CW.region ?_))))
 refine OW.pure 1 [(19, .pointer (some ⟨b9, 1, none⟩))] (by kernel_rfl) ?_
 refine OW.ld rfl rfl rfl rfl (by kernel_rfl) (hst.blk 0 rfl rfl) ?_
 refine OW.pure 1 [(21, .int .i64 ((p0.Code).length : Int))] (by kernel_rfl) ?_
 obtain ⟨m497, hm498, hF⟩ := bind_some' hF
 refine OW.make (enc := fit 1) (sz := 1) hst rfl rfl rfl rfl rfl (by kernel_rfl) el59 [.slice none 0 0] (by kernel_rfl) (fun _ => fit_len _ _) hm498 ?_
 intro g499 w500 hst
 have hst := hst.nNew 1 R_t59 rfl rfl [] (fun w => ⟨_, rfl, rfl, Owns.nil w _ _ none⟩)
 refine OW.pure 1 [(7, .slice (some ⟨g499, 0, none⟩) m497 m497)] (by kernel_rfl) (OW.nil rfl (QW.next (CW.seq (CW.seq (CW.region ?_)))))
 cases hF

theorem engine_Machine_At_ok (w : World) (v0 : Value) (S0 : List Nat) (p0 : engine_Machine) (r : Int) (hF : engine_Machine_At p0 = some r)
    (hst : St w (fp [itI R_t33 [v0] S0 p0]) w [itI R_t33 [v0] S0 p0]) :
    Calls Tryd.prog 14 [v0].toArray w (fun e w' => ∃ (s0 : List Nat), e = .returned (.int .i64 r) ∧ St w (fp [itI R_t33 [v0] S0 p0]) w' [itI R_t33 [v0] s0 p0]) := by
 refine CW.start (N := 7) Tryd.func14 rfl rfl rfl ?_
 obtain ⟨b1, rfl⟩ := hst.fptr 0 rfl
 refine CW.seq (CW.region ?_)
 refine OW.pure 1 [] (by kernel_rfl) (OW.nil rfl (QW.next (CW.seq ?_)))
 obtain ⟨v2, S3, v4, S5, v6, S7, hst⟩ := hst.openQ3 0 rfl rfl rfl rfl
 have hst := hst.toRow1 1 rfl
 have hst := hst.toRow1 2 rfl
 obtain ⟨l8, a9, c10, rfl⟩ := hst.len 1 rfl
 obtain ⟨l11, a12, c13, rfl⟩ := hst.len 2 rfl
 obtain ⟨b14, rfl⟩ := hst.fptr 3 rfl
 have hst : St _ _ _ [blkI b1 87 [.int .u64 p0.Event.A, .int .u64 p0.Event.B, .slice a9 (p0.module.Maps).length c10, .slice a12 (p0.module.Code).length c13, .pointer (some ⟨b14, 0, none⟩), .int .u64 (p0.regs 0), .int .u64 (p0.regs 1), .int .u64 (p0.regs 2), .int .u64 (p0.regs 3), .int .u64 (p0.regs 4), .int .u64 (p0.regs 5), .int .u64 (p0.regs 6), .int .u64 (p0.regs 7), .int .i64 (p0.turns 0), .int .i64 (p0.turns 1), .int .i64 (p0.turns 2), .int .i64 (p0.turns 3), .int .i64 (p0.turns 4), .int .i64 (p0.turns 5), .int .i64 (p0.turns 6), .int .i64 (p0.turns 7), .int .i64 (p0.turns 8), .int .i64 (p0.turns 9), .int .i64 (p0.turns 10), .int .i64 (p0.turns 11), .int .i64 (p0.turns 12), .int .i64 (p0.turns 13), .int .i64 (p0.turns 14), .int .i64 (p0.turns 15), .int .i64 (p0.turns 16), .int .i64 (p0.turns 17), .int .i64 (p0.turns 18), .int .i64 (p0.turns 19), .int .i64 (p0.turns 20), .int .i64 (p0.turns 21), .int .i64 (p0.turns 22), .int .i64 (p0.turns 23), .int .i64 (p0.turns 24), .int .i64 (p0.turns 25), .int .i64 (p0.turns 26), .int .i64 (p0.turns 27), .int .i64 (p0.turns 28), .int .i64 (p0.turns 29), .int .i64 (p0.turns 30), .int .i64 (p0.turns 31), .int .i64 (p0.turns 32), .int .i64 (p0.turns 33), .int .i64 (p0.turns 34), .int .i64 (p0.turns 35), .int .i64 (p0.turns 36), .int .i64 (p0.turns 37), .int .i64 (p0.turns 38), .int .i64 (p0.turns 39), .int .i64 (p0.turns 40), .int .i64 (p0.turns 41), .int .i64 (p0.turns 42), .int .i64 (p0.turns 43), .int .i64 (p0.turns 44), .int .i64 (p0.turns 45), .int .i64 (p0.turns 46), .int .i64 (p0.turns 47), .int .i64 (p0.turns 48), .int .i64 (p0.turns 49), .int .i64 (p0.turns 50), .int .i64 (p0.turns 51), .int .i64 (p0.turns 52), .int .i64 (p0.turns 53), .int .i64 (p0.turns 54), .int .i64 (p0.turns 55), .int .i64 (p0.turns 56), .int .i64 (p0.turns 57), .int .i64 (p0.turns 58), .int .i64 (p0.turns 59), .int .i64 (p0.turns 60), .int .i64 (p0.turns 61), .int .i64 (p0.turns 62), .int .i64 (p0.turns 63), .int .i64 p0.at_, .int .i64 p0.steps, .int .i64 p0.state], _, _, _] := hst
 refine CW.region ?_
 refine OW.pure 3 [(5, .pointer (some ⟨b1, 77, none⟩))] (by kernel_rfl) ?_
 refine OW.ld rfl rfl rfl rfl (by kernel_rfl) (hst.blk 0 rfl rfl) ?_
 refine OW.pure 1 [(2, .int .i64 p0.at_)] (by kernel_rfl) (OW.nil rfl (QW.next (CW.ret ?_)))
 have hst := hst.toIt 1 rfl (fun _ => rfl) (by decide)
 have hst := hst.toIt 2 rfl (fun _ => rfl) (by decide)
 obtain ⟨S15, hst⟩ := hst.shutP3 R_t87 rfl 0 1 2 3 [] rfl rfl rfl rfl rfl p0 rfl rfl
 obtain rfl := Option.some.inj hF
 refine QW.ret1 rfl rfl ?_
 exact ⟨S15, rfl, hst.keep [0] rfl⟩

theorem slices_Clone_uint64_uint64_ok (w : World) (v0 : Value) (p0 : List Int) (r : (List Int)) (hF : slices_Clone_uint64_uint64 p0 = some r)
    (hst : St w (fp []) w []) (h0 : Rd w (fp []) v0 (encInt .u64) 1 p0) :
    Calls Tryd.prog 26 [v0].toArray w (fun e w' => ∃ (x0 : Value), e = .returned (x0) ∧ St w (fp []) w' [rowI x0 26 (encInt .u64) 1 r]) := by
 refine CW.start (N := 8) Tryd.func26 rfl rfl rfl ?_
 obtain ⟨l1, a2, c3, rfl⟩ := h0.len
 refine CW.seq (CW.region ?_)
 refine OW.pure 1 [] (by kernel_rfl) (OW.nil rfl (QW.next (CW.seq (CW.seq (CW.region ?_)))))
 refine OW.pure 1 [(3, .slice a2 (p0).length c3)] (by kernel_rfl) ?_
 refine OW.op (v := .bool (a2).isNone) rfl rfl rfl rfl (fun a ha => snil_run (e := 26) rfl rfl rfl (by kernel_rfl) a _ ha) (OW.nil rfl (QW.next ?_))
 rcases Bool.eq_false_or_eq_true ((a2).isNone) with hc4 | hc4
 ·have hn5 := h0.isnil (fun _ => ⟨_, rfl⟩) hc4
  have hF : some ([] : List Int) = some r := by rw [hn5] at hF; exact hF
  refine CW.cond_t rfl hc4 (CW.seq (CW.region ?_))
  refine OW.pure 1 [(2, .slice none 0 0)] (by kernel_rfl) (OW.nil rfl (QW.next (CW.ret (QW.then_ret ?_))))
  have hst := hst.nilRow Int 26 (encInt .u64) 1
  obtain rfl := Option.some.inj hF
  refine QW.ret1 rfl rfl ?_
  exact ⟨(.slice none 0 0), rfl, hst.keep [0] rfl⟩
 refine CW.cond_f rfl hc4 (CW.skip (QW.next (CW.seq (CW.region ?_))))
 refine OW.row (α := Int) (e := 26) (enc := encInt .u64) (sz := 1) hst rfl rfl rfl [] rfl (fun _ => rfl) rfl rfl (fun _ => by kernel_rfl) ?_
 intro g15 w16 hst
 refine OW.pure 1 [(6, .slice a2 (p0).length c3)] (by kernel_rfl) ?_
 obtain ⟨u17, hr18, hF⟩ := bind_some' hF
 refine OW.app hst 0 rfl (fun _ => rfl) (fun _ => rfl) rfl rfl rfl rfl rfl rfl (by kernel_rfl) el26 (h0.on hst) (room_le hr18) ?_
 intro v19 w20 hst
 obtain ⟨l21, a22, c23, rfl⟩ := hst.len 0 rfl
 refine OW.pure 1 [(2, .slice a22 ((([] : List Int) ++ p0)).length c23)] (by kernel_rfl) (OW.nil rfl (QW.next (CW.ret ?_)))
 obtain rfl := Option.some.inj hF
 refine QW.ret1 rfl rfl ?_
 exact ⟨(.slice a22 ((([] : List Int) ++ p0)).length c23), rfl, hst.keep [0] rfl⟩

theorem engine_Machine_Regs_ok (w : World) (v0 : Value) (S0 : List Nat) (p0 : engine_Machine) (r : (List Int)) (hF : engine_Machine_Regs p0 = some r)
    (hst : St w (fp [itI R_t33 [v0] S0 p0]) w [itI R_t33 [v0] S0 p0]) :
    Calls Tryd.prog 15 [v0].toArray w (fun e w' => ∃ (s0 : List Nat) (x0 : Value), e = .returned (x0) ∧ St w (fp [itI R_t33 [v0] S0 p0]) w' [itI R_t33 [v0] s0 p0, rowI x0 26 (encInt .u64) 1 r]) := by
 refine CW.start (N := 8) Tryd.func15 rfl rfl rfl ?_
 obtain ⟨b1, rfl⟩ := hst.fptr 0 rfl
 refine CW.seq (CW.region ?_)
 refine OW.pure 1 [] (by kernel_rfl) (OW.nil rfl (QW.next (CW.seq ?_)))
 obtain ⟨v2, S3, v4, S5, v6, S7, hst⟩ := hst.openQ3 0 rfl rfl rfl rfl
 have hst := hst.toRow1 1 rfl
 have hst := hst.toRow1 2 rfl
 obtain ⟨l8, a9, c10, rfl⟩ := hst.len 1 rfl
 obtain ⟨l11, a12, c13, rfl⟩ := hst.len 2 rfl
 obtain ⟨b14, rfl⟩ := hst.fptr 3 rfl
 have hst : St _ _ _ [blkI b1 87 [.int .u64 p0.Event.A, .int .u64 p0.Event.B, .slice a9 (p0.module.Maps).length c10, .slice a12 (p0.module.Code).length c13, .pointer (some ⟨b14, 0, none⟩), .int .u64 (p0.regs 0), .int .u64 (p0.regs 1), .int .u64 (p0.regs 2), .int .u64 (p0.regs 3), .int .u64 (p0.regs 4), .int .u64 (p0.regs 5), .int .u64 (p0.regs 6), .int .u64 (p0.regs 7), .int .i64 (p0.turns 0), .int .i64 (p0.turns 1), .int .i64 (p0.turns 2), .int .i64 (p0.turns 3), .int .i64 (p0.turns 4), .int .i64 (p0.turns 5), .int .i64 (p0.turns 6), .int .i64 (p0.turns 7), .int .i64 (p0.turns 8), .int .i64 (p0.turns 9), .int .i64 (p0.turns 10), .int .i64 (p0.turns 11), .int .i64 (p0.turns 12), .int .i64 (p0.turns 13), .int .i64 (p0.turns 14), .int .i64 (p0.turns 15), .int .i64 (p0.turns 16), .int .i64 (p0.turns 17), .int .i64 (p0.turns 18), .int .i64 (p0.turns 19), .int .i64 (p0.turns 20), .int .i64 (p0.turns 21), .int .i64 (p0.turns 22), .int .i64 (p0.turns 23), .int .i64 (p0.turns 24), .int .i64 (p0.turns 25), .int .i64 (p0.turns 26), .int .i64 (p0.turns 27), .int .i64 (p0.turns 28), .int .i64 (p0.turns 29), .int .i64 (p0.turns 30), .int .i64 (p0.turns 31), .int .i64 (p0.turns 32), .int .i64 (p0.turns 33), .int .i64 (p0.turns 34), .int .i64 (p0.turns 35), .int .i64 (p0.turns 36), .int .i64 (p0.turns 37), .int .i64 (p0.turns 38), .int .i64 (p0.turns 39), .int .i64 (p0.turns 40), .int .i64 (p0.turns 41), .int .i64 (p0.turns 42), .int .i64 (p0.turns 43), .int .i64 (p0.turns 44), .int .i64 (p0.turns 45), .int .i64 (p0.turns 46), .int .i64 (p0.turns 47), .int .i64 (p0.turns 48), .int .i64 (p0.turns 49), .int .i64 (p0.turns 50), .int .i64 (p0.turns 51), .int .i64 (p0.turns 52), .int .i64 (p0.turns 53), .int .i64 (p0.turns 54), .int .i64 (p0.turns 55), .int .i64 (p0.turns 56), .int .i64 (p0.turns 57), .int .i64 (p0.turns 58), .int .i64 (p0.turns 59), .int .i64 (p0.turns 60), .int .i64 (p0.turns 61), .int .i64 (p0.turns 62), .int .i64 (p0.turns 63), .int .i64 p0.at_, .int .i64 p0.steps, .int .i64 p0.state], _, _, _] := hst
 refine CW.region ?_
 refine OW.pure 3 [(5, .pointer (some ⟨b1, 5, none⟩))] (by kernel_rfl) ?_
 refine OW.op (v := .slice (some ⟨b1, 5, none⟩) 8 8) rfl rfl rfl rfl (fun a ha => asl_all (e := 26) 1 rfl rfl (by kernel_rfl) (by kernel_rfl) a _ ha) ?_
 obtain ⟨r23, hr24, hF⟩ := bind_some' hF
 refine OW.fn rfl rfl rfl rfl (by kernel_rfl) (slices_Clone_uint64_uint64_ok _ (.slice (some ⟨b1, 5, none⟩) 8 8) (arrL 8 p0.regs) r23 hr24 (hst.part [] rfl) (hst.arrRd 0 rfl (encInt .u64) (fun _ => rfl) 8 p0.regs 5 rfl rfl rfl [] rfl)) ?_
 rintro e w25 ⟨v27, rfl, hst26⟩
 refine ⟨_, rfl, ?_⟩
 have hst := hst.join (idx := []) (rest := [0, 1, 2, 3]) rfl hst26
 obtain ⟨l28, a29, c30, rfl⟩ := hst.len 0 rfl
 refine OW.pure 1 [(2, .slice a29 (r23).length c30)] (by kernel_rfl) (OW.nil rfl (QW.next (CW.ret ?_)))
 have hst := hst.toIt 2 rfl (fun _ => rfl) (by decide)
 have hst := hst.toIt 3 rfl (fun _ => rfl) (by decide)
 obtain ⟨S31, hst⟩ := hst.shutP3 R_t87 rfl 1 2 3 4 [0] rfl rfl rfl rfl rfl p0 rfl rfl
 obtain rfl := Option.some.inj hF
 refine QW.ret1 rfl rfl ?_
 exact ⟨S31, (.slice a29 (r23).length c30), rfl, hst.keep [1, 0] rfl⟩

attribute [local irreducible] bits_Mul64 engine_Machine_At flow_in judge_number ops_register ops_within scratch_Words_Wipe sigs_number span_Right span_Single span_single in
theorem tappetlaw11_EngineSafe_ok (w : World) (fu : Nat) (v0_0 : Value) (v0_1 : Value) (v0_2 : Value) (p0 : tappetlaw11_Run) (r : Bool) (hF : tappetlaw11_EngineSafe fu p0 = some r)
    (hst : St w (fp []) w []) (h0_0 : Rd w (fp []) v0_0 (encInt .i64) 1 p0.M.Maps) (h0_1 : Rd w (fp []) v0_1 enc_api_Inst 5 p0.M.Code) (h0_2 : Rd w (fp []) v0_2 enc_api_Res 6 p0.Res) (hT0 : Rd w (fp []) (.slice (some ⟨0, 0, none⟩) 7 7) enc_sigs_sig 5 tab_g0) (hT1 : Rd w (fp []) (.slice (some ⟨1, 0, none⟩) 23 23) enc_ops_form 2 tab_g1) :
    Calls Tryd.prog 4 [.agg [v0_0, v0_1, .int .u64 p0.E.A, .int .u64 p0.E.B, v0_2, .int .i64 p0.Odd].toArray].toArray w (fun e w' => e = .returned (.bool r) ∧ St w (fp []) w' []) := by
 refine CW.start (N := 147) Tryd.func4 rfl rfl rfl ?_
 obtain ⟨l1, a2, c3, rfl⟩ := h0_0.len
 obtain ⟨l4, a5, c6, rfl⟩ := h0_1.len
 obtain ⟨l7, a8, c9, rfl⟩ := h0_2.len
 refine CW.seq (CW.region ?_)
 refine OW.box hst rfl rfl rfl rfl [.slice a2 (p0.M.Maps).length c3, .slice a5 (p0.M.Code).length c6, .int .u64 p0.E.A, .int .u64 p0.E.B, .slice a8 (p0.Res).length c9, .int .i64 p0.Odd] rfl ?_
 intro b12 w13 hst
 refine OW.pure 1 [] (by kernel_rfl) (OW.nil rfl (QW.next (CW.seq (CW.seq (CW.region ?_)))))
 obtain ⟨r18, hr19, hF⟩ := bind_some' hF
 refine OW.fn rfl rfl rfl rfl (by kernel_rfl) (tappetlaw11_awake_ok _ fu r18 hr19 (hst.part [] rfl) (hT0.give hst []) (hT1.give hst [])) ?_
 rintro e w20 ⟨rfl, hst21⟩
 refine ⟨_, rfl, ?_⟩
 have hst := hst.join (idx := []) (rest := [0]) rfl hst21
 refine OW.pure 1 [(17, .bool (!r18))] (by kernel_rfl) (OW.nil rfl (QW.next ?_))
 rcases Bool.eq_false_or_eq_true ((!r18)) with hc22 | hc22
 ·have hF := ite_t hF hc22
  refine CW.cond_t rfl hc22 (CW.seq (CW.region ?_))
  refine OW.pure 1 [(2, .bool false)] (by kernel_rfl) (OW.nil rfl (QW.next (CW.ret (QW.then_ret ?_))))
  obtain rfl := Option.some.inj hF
  refine QW.ret1 rfl rfl ?_
  exact ⟨rfl, hst.keep [] rfl⟩
 have hF := ite_f hF hc22
 refine CW.cond_f rfl hc22 (CW.skip (QW.next (CW.seq (CW.region ?_))))
 refine OW.pure 1 [(19, .pointer (some ⟨b12, 0, none⟩))] (by kernel_rfl) ?_
 refine OW.ldN (cs := [.slice a2 (p0.M.Maps).length c3, .slice a5 (p0.M.Code).length c6]) rfl rfl rfl rfl (by kernel_rfl) (by kernel_rfl) (hst.blkN 0 rfl 0 2) ?_
 obtain ⟨r61, hr62, hF⟩ := bind_some' hF
 refine OW.fn rfl rfl rfl rfl (by kernel_rfl) (tappetlaw11_copied_ok _ (.slice a2 (p0.M.Maps).length c3) (.slice a5 (p0.M.Code).length c6) p0.M r61 hr62 (hst.part [] rfl) (h0_0.give hst []) (h0_1.give hst [])) ?_
 rintro e w63 ⟨v65, v66, rfl, hst64⟩
 refine ⟨_, rfl, ?_⟩
 have hst := hst.join (idx := []) (rest := [0]) rfl hst64
 obtain ⟨l85, a86, c87, rfl⟩ := hst.len 0 rfl
 obtain ⟨l88, a89, c90, rfl⟩ := hst.len 1 rfl
 obtain ⟨r91, hr92, hF⟩ := bind_some' hF
 refine OW.fn rfl rfl rfl rfl (by kernel_rfl) (judge_Types_ok _ _ _ fu (.slice a86 (r61.Maps).length c87) (.slice a89 (r61.Code).length c90) r61 r91 hr92 (hst.part [] rfl) (Bor.refl _ _) (hst.rd 0 rfl (fun _ => rfl) [] rfl (hst.len 0 rfl).1) (hst.rd 1 rfl (fun _ => rfl) [] rfl (hst.len 1 rfl).1) (hT0.give hst []) (hT1.give hst [])) ?_
 rintro e w93 ⟨v95, Sv95, rfl, hst94⟩
 refine ⟨_, rfl, ?_⟩
 have hst := hst.join (idx := []) (rest := [0, 1, 2]) rfl hst94
 obtain ⟨l96, a97, c98, rfl⟩ := hst.nlen 0 rfl
 refine OW.pure 5 [(3, .slice a97 (r91.1).length c98), (4, .int .i64 r91.2)] (by kernel_rfl) (OW.nil rfl (QW.next (CW.seq (CW.region ?_))))
 obtain ⟨r106, hr107, hF⟩ := bind_some' hF
 refine OW.fn rfl rfl rfl rfl (by kernel_rfl) (scratch_New_ok _ r106 hr107 (hst.part [] rfl)) ?_
 rintro e w108 ⟨v110, S111, rfl, hst109⟩
 refine ⟨_, rfl, ?_⟩
 have hst := hst.join (idx := []) (rest := [0, 1, 2, 3]) rfl hst109
 obtain ⟨b112, rfl⟩ := hst.fptr 0 rfl
 refine OW.pure 1 [(5, .pointer (some ⟨b112, 0, none⟩))] (by kernel_rfl) (OW.nil rfl (QW.next (CW.seq (CW.seq (CW.region ?_)))))
 refine OW.pure 2 [(27, .bool (r91.2 != 0))] (by kernel_rfl) (OW.nil rfl (QW.next ?_))
 rcases Bool.eq_false_or_eq_true ((r91.2 != 0)) with hc113 | hc113
 ·have hF := ite_t hF hc113
  refine CW.cond_t rfl hc113 (CW.seq (CW.region ?_))
  refine OW.pure 1 [(2, .bool true)] (by kernel_rfl) (OW.nil rfl (QW.next (CW.ret (QW.then_ret ?_))))
  obtain rfl := Option.some.inj hF
  refine QW.ret1 rfl rfl ?_
  exact ⟨rfl, hst.keep [] rfl⟩
 have hF := ite_f hF hc113
 refine CW.cond_f rfl hc113 (CW.skip (QW.next (CW.seq ?_)))
 refine CW.plan (by kernel_rfl) ?_
 intro w156 hch157
 have hst := hst.same hch157
 refine OA.pure [0] [(29, .pointer (some ⟨b12, 0, none⟩))] (by kernel_rfl) ?_
 refine OA.ldN (i := 1) (cs := [.slice a2 (p0.M.Maps).length c3, .slice a5 (p0.M.Code).length c6]) rfl (by kernel_rfl) rfl rfl rfl (by kernel_rfl) (by kernel_rfl) (hst.blkN 4 rfl 0 2) ?_
 refine OA.pure [3] [(32, .pointer (some ⟨b12, 2, none⟩))] (by kernel_rfl) ?_
 refine OA.ldN (i := 4) (cs := [.int .u64 p0.E.A, .int .u64 p0.E.B]) rfl (by kernel_rfl) rfl rfl rfl (by kernel_rfl) (by kernel_rfl) (hst.blkN 4 rfl 2 2) ?_
 refine OA.pure [5] [(34, .pointer (some ⟨b112, 0, none⟩))] (by kernel_rfl) ?_
 refine OA.act (i := 2) [4] (by kernel_rfl) rfl rfl (by kernel_rfl) (by kernel_rfl) ?_
 obtain ⟨r158, hr159, hF⟩ := bind_some' hF
 refine OW.fn rfl rfl rfl rfl (by kernel_rfl) (tappetlaw11_copied_ok _ (.slice a2 (p0.M.Maps).length c3) (.slice a5 (p0.M.Code).length c6) p0.M r158 hr159 (hst.part [] rfl) (h0_0.give hst []) (h0_1.give hst [])) ?_
 rintro e w160 ⟨v162, v163, rfl, hst161⟩
 refine ⟨_, rfl, ?_⟩
 have hst := hst.join (idx := []) (rest := [0, 1, 2, 3, 4]) rfl hst161
 obtain ⟨l182, a183, c184, rfl⟩ := hst.len 0 rfl
 obtain ⟨l185, a186, c187, rfl⟩ := hst.len 1 rfl
 refine OA.next ⟨(hst.blkN 6 rfl 2 2), trivial⟩ ?_
 refine OA.act (i := 6) [] (by kernel_rfl) rfl rfl (by kernel_rfl) (by kernel_rfl) ?_
 obtain ⟨r188, hr189, hF⟩ := bind_some' hF
 refine OW.fn rfl rfl rfl rfl (by kernel_rfl) (engine_New_ok _ fu (.slice a183 (r158.Maps).length c184) (.slice a186 (r158.Code).length c187) r158 p0.E (.pointer (some ⟨b112, 0, none⟩)) S111 r106 r188 hr189 (hst.part [2] rfl) (hst.rd 0 rfl (fun _ => rfl) [2] rfl (hst.len 0 rfl).1) (hst.rd 1 rfl (fun _ => rfl) [2] rfl (hst.len 1 rfl).1) (hT0.give hst [2]) (hT1.give hst [2])) ?_
 rintro e w190 (⟨k192, v194, S195, he193, rfl, hst191⟩ | ⟨he196, rfl, hst191⟩)
 ·have hF := ocase_some hF he193
  refine ⟨_, rfl, ?_⟩
  have hst := hst.join (idx := [2]) (rest := [0, 1, 3, 4, 5, 6]) rfl hst191
  obtain ⟨b197, rfl⟩ := hst.fptr 0 rfl
  refine OA.next trivial ?_
  refine OA.pure [7, 8, 9] [(36, .pointer (some ⟨b197, 0, none⟩)), (37, .int .i64 r188.2)] (by kernel_rfl) ?_
  refine OA.act (i := 10) [] (by kernel_rfl) rfl rfl (by kernel_rfl) (by kernel_rfl) ?_
  refine OW.pure 1 [(6, .pointer (some ⟨b197, 0, none⟩))] (by kernel_rfl) (OA.next trivial ?_)
  refine OA.act (i := 11) [] (by kernel_rfl) rfl rfl (by kernel_rfl) (by kernel_rfl) ?_
  refine OW.pure 1 [(7, .int .i64 r188.2)] (by kernel_rfl) (OA.next trivial ?_)
  refine OA.fin (by kernel_rfl) (by kernel_rfl) (QW.next (CW.seq (CW.seq (CW.region ?_))))
  refine OW.pure 6 [(43, .bool (r188.2 != 0))] (by kernel_rfl) (OW.nil rfl (QW.next ?_))
  rcases Bool.eq_false_or_eq_true ((r188.2 != 0)) with hc198 | hc198
  ·have hF := ite_t hF hc198
   refine CW.cond_t rfl hc198 (CW.seq (CW.region ?_))
   refine OW.pure 1 [(2, .bool false)] (by kernel_rfl) (OW.nil rfl (QW.next (CW.ret (QW.then_ret ?_))))
   obtain rfl := Option.some.inj hF
   refine QW.ret1 rfl rfl ?_
   exact ⟨rfl, hst.keep [] rfl⟩
  have hF := ite_f hF hc198
  refine CW.cond_f rfl hc198 (CW.skip (QW.next (CW.seq (CW.region ?_))))
  refine OW.pure 1 [(8, .int .i64 0)] (by kernel_rfl) (OW.nil rfl (QW.next (CW.seq (CW.seq (CW.region ?_)))))
  refine OW.pure 1 [(9, .int .i64 0)] (by kernel_rfl) (OW.nil rfl (QW.next ?_))
  obtain ⟨o2772, ho2773, hF⟩ := bind_some' hF
  refine CW.cutK (fun a w1 => ∃ (t2774 : Unit), o2772 = .inl t2774 ∧ Rep 147 [] a ∧ St w (fp []) w1 []) ?_ ?_
  ·refine CW.block ?_
   refine CW.loop (fun n a w1 => ∃ (i4492 : Nat) (s4489 : engine_Machine × Int) (S4490 : List Nat) (S4491 : List Nat), i4492 + n = 768 ∧ Rep 147 [(1, .pointer (some ⟨b12, 0, none⟩)), (3, .slice a97 (r91.1).length c98), (6, .pointer (some ⟨b197, 0, none⟩)), (8, .int .i64 s4489.2), (9, .int .i64 (i4492 : Int))] a ∧ St w (fp []) w1 [blkI b12 31 [.slice a2 (p0.M.Maps).length c3, .slice a5 (p0.M.Code).length c6, .int .u64 p0.E.A, .int .u64 p0.E.B, .slice a8 (p0.Res).length c9, .int .i64 p0.Odd], nI 59 R_t59 (.slice a97 (r91.1).length c98) S4490 r91.1 none, itI R_t33 [.pointer (some ⟨b197, 0, none⟩)] S4491 s4489.1] ∧ forN (tappetlaw11_EngineSafe_l1 fu p0 r91) (fun (s4489 : engine_Machine × Int) => (.inl ())) n i4492 s4489 = some o2772) 768 (fun a ha => ⟨0, (k192, 0), Sv95, S195, Nat.zero_add _, ha.agrees (by kernel_rfl), hst.keep [6, 3, 0] rfl, ho2773⟩) ?_
   rintro n4487 a w1 ⟨i4492, s4489, S4490, S4491, hi4493, ha, hst, hl4488⟩
   refine CW.go ?_ ha
   refine CW.seq (CW.seq (CW.region ?_))
   refine OW.pure 2 [(45, .bool (decide ((i4492 : Int) < 768)))] (by kernel_rfl) (OW.nil rfl (QW.next ?_))
   rcases Bool.eq_false_or_eq_true (decide ((i4492 : Int) < 768)) with hc4494 | hc4494
   ·rcases n4487 with _ | n4487
    ·exact (cnt0 hi4493 hc4494).elim
    refine CW.cond_t rfl hc4494 (CW.skip (QW.next (CW.seq (CW.block (CW.seq (CW.region ?_))))))
    refine OW.pure 1 [(48, .pointer (some ⟨b197, 0, none⟩))] (by kernel_rfl) ?_
    obtain ⟨r4500, hr4501, hl4488⟩ := bind_some' hl4488
    refine OW.fn rfl rfl rfl rfl (by kernel_rfl) (engine_Machine_At_ok _ (.pointer (some ⟨b197, 0, none⟩)) S4491 s4489.1 r4500 hr4501 (hst.part [2] rfl)) ?_
    rintro e w4502 ⟨S4504, rfl, hst4503⟩
    refine ⟨_, rfl, ?_⟩
    have hst := hst.join (idx := [2]) (rest := [0, 1]) rfl hst4503
    refine OW.pure 1 [(10, .int .i64 r4500)] (by kernel_rfl) (OW.nil rfl (QW.next (CW.seq (CW.seq ?_))))
    obtain ⟨o4522, ho4523, hl4488⟩ := bind_some' hl4488
    refine CW.cutK (fun a w1 => ∃ (S4521 : List Nat), Rep 147 [(1, .pointer (some ⟨b12, 0, none⟩)), (3, .slice a97 (r91.1).length c98), (6, .pointer (some ⟨b197, 0, none⟩)), (8, .int .i64 s4489.2), (9, .int .i64 (i4492 : Int)), (10, .int .i64 r4500), (65, .bool o4522)] a ∧ St w (fp []) w1 [blkI b12 31 [.slice a2 (p0.M.Maps).length c3, .slice a5 (p0.M.Code).length c6, .int .u64 p0.E.A, .int .u64 p0.E.B, .slice a8 (p0.Res).length c9, .int .i64 p0.Odd], nI 59 R_t59 (.slice a97 (r91.1).length c98) S4521 r91.1 none, itI R_t33 [.pointer (some ⟨b197, 0, none⟩)] S4504 s4489.1]) ?_ ?_
    ·refine CW.region ?_
     refine OW.pure 3 [(52, .bool (decide (r4500 < 0)))] (by kernel_rfl) ?_
     refine OW.split 52 rfl (fun hc4524 => ?_) (fun hc4524 => ?_)
     ·have ho4523 := ite_t ho4523 hc4524
      refine OW.pure 13 [(65, .bool true)] (by kernel_rfl) (OW.nil rfl ?_)
      obtain rfl := Option.some.inj ho4523
      exact QW.meet (fun a ha => ⟨S4490, ha.agrees (by kernel_rfl), hst.keep [1, 2, 0] rfl⟩)
     have ho4523 := ite_f ho4523 hc4524
     refine OW.pure 6 [(58, .bool (decide (r4500 ≥ ((r91.1).length : Int))))] (by kernel_rfl) ?_
     refine OW.split 58 rfl (fun hc4525 => ?_) (fun hc4525 => ?_)
     ·have ho4523 := ite_t ho4523 hc4525
      refine OW.pure 7 [(65, .bool true)] (by kernel_rfl) (OW.nil rfl ?_)
      obtain rfl := Option.some.inj ho4523
      exact QW.meet (fun a ha => ⟨S4490, ha.agrees (by kernel_rfl), hst.keep [1, 2, 0] rfl⟩)
     have ho4523 := ite_f ho4523 hc4525
     refine OW.pure 2 [(59, .slice a97 (r91.1).length c98), (60, .int .i64 r4500)] (by kernel_rfl) ?_
     obtain ⟨x4526, hx4527, ho4523⟩ := bind_some' ho4523
     obtain ⟨g4529, o4530, c4531, hv4528⟩ := hst.nrowv 2 rfl hx4527
     refine OW.idx 59 1 rfl rfl rfl rfl hv4528 rfl (idx_some hx4527).1 (idx_some hx4527).2.1 (by kernel_rfl) (by kernel_rfl) ?_
     obtain ⟨v4532, S4533, S4534, hce4535, hst⟩ := hst.nout1 2 rfl rfl hx4527 hv4528
     have hst := hst.toRow1 3 rfl
     obtain ⟨l4536, a4537, c4538, rfl⟩ := hst.len 3 rfl
     refine OW.ld rfl rfl rfl rfl (by kernel_rfl) hce4535 ?_
     refine OW.pure 3 [(65, .bool (((x4526).length : Int) != 8))] (by kernel_rfl) (OW.nil rfl ?_)
     have hst := hst.toIt 3 rfl (fun _ => rfl) (by decide)
     obtain ⟨S4539, hst⟩ := hst.nback0 2 3 rfl rfl rfl hx4527
     have hst := hst.keep [0, 1, 2] rfl
     obtain rfl := Option.some.inj ho4523
     exact QW.meet (fun a ha => ⟨S4539, ha.agrees (by kernel_rfl), hst.keep [1, 2, 0] rfl⟩)
    rintro a w1 ⟨S4521, ha, hst⟩
    refine CW.go ?_ ha
    rcases Bool.eq_false_or_eq_true (o4522) with hc4540 | hc4540
    ·have hl4488 := ite_t hl4488 hc4540
     refine CW.cond_t rfl hc4540 (CW.seq (CW.region ?_))
     refine OW.pure 1 [(2, .bool false)] (by kernel_rfl) (OW.nil rfl (QW.next (CW.ret (QW.then_ret (QW.block_ret (QW.then_ret (QW.then_ret (QW.block_ret (QW.then_ret ?_)))))))))
     obtain rfl := Option.some.inj hl4488
     obtain rfl := Option.some.inj hF
     refine QW.ret1 rfl rfl ?_
     exact ⟨rfl, hst.keep [] rfl⟩
    have hl4488 := ite_f hl4488 hc4540
    refine CW.cond_f rfl hc4540 (CW.skip (QW.next (CW.seq (CW.region ?_))))
    refine OW.pure 1 [(66, .pointer (some ⟨b197, 0, none⟩))] (by kernel_rfl) ?_
    obtain ⟨r4550, hr4551, hl4488⟩ := bind_some' hl4488
    refine OW.fn rfl rfl rfl rfl (by kernel_rfl) (engine_Machine_Regs_ok _ (.pointer (some ⟨b197, 0, none⟩)) S4504 s4489.1 r4550 hr4551 (hst.part [2] rfl)) ?_
    rintro e w4552 ⟨S4554, v4555, rfl, hst4553⟩
    refine ⟨_, rfl, ?_⟩
    have hst := hst.join (idx := [2]) (rest := [0, 1]) rfl hst4553
    obtain ⟨l4556, a4557, c4558, rfl⟩ := hst.len 1 rfl
    refine OW.pure 1 [(11, .slice a4557 (r4550).length c4558)] (by kernel_rfl) (OW.nil rfl (QW.next (CW.seq (CW.seq (CW.region ?_)))))
    refine OW.pure 3 [(70, .bool (((r4550).length : Int) != 8))] (by kernel_rfl) (OW.nil rfl (QW.next ?_))
    rcases Bool.eq_false_or_eq_true ((((r4550).length : Int) != 8)) with hc4559 | hc4559
    ·have hl4488 := ite_t hl4488 hc4559
     refine CW.cond_t rfl hc4559 (CW.seq (CW.region ?_))
     refine OW.pure 1 [(2, .bool false)] (by kernel_rfl) (OW.nil rfl (QW.next (CW.ret (QW.then_ret (QW.block_ret (QW.then_ret (QW.then_ret (QW.block_ret (QW.then_ret ?_)))))))))
     obtain rfl := Option.some.inj hl4488
     obtain rfl := Option.some.inj hF
     refine QW.ret1 rfl rfl ?_
     exact ⟨rfl, hst.keep [] rfl⟩
    have hl4488 := ite_f hl4488 hc4559
    refine CW.cond_f rfl hc4559 (CW.skip (QW.next (CW.seq (CW.seq (CW.region ?_)))))
    refine OW.pure 1 [(12, .int .i64 0)] (by kernel_rfl) (OW.nil rfl (QW.next ?_))
    obtain ⟨o4920, ho4921, hl4488⟩ := bind_some' hl4488
    refine CW.cutK (fun a w1 => ∃ (t4922 : Unit) (S4919 : List Nat), o4920 = .inl t4922 ∧ Rep 147 [(1, .pointer (some ⟨b12, 0, none⟩)), (3, .slice a97 (r91.1).length c98), (6, .pointer (some ⟨b197, 0, none⟩)), (8, .int .i64 s4489.2), (9, .int .i64 (i4492 : Int))] a ∧ St w (fp []) w1 [blkI b12 31 [.slice a2 (p0.M.Maps).length c3, .slice a5 (p0.M.Code).length c6, .int .u64 p0.E.A, .int .u64 p0.E.B, .slice a8 (p0.Res).length c9, .int .i64 p0.Odd], nI 59 R_t59 (.slice a97 (r91.1).length c98) S4919 r91.1 none, itI R_t33 [.pointer (some ⟨b197, 0, none⟩)] S4554 s4489.1]) ?_ ?_
    ·refine CW.block ?_
     refine CW.loop (fun n a w1 => ∃ (i5163 : Nat) (s5161 : Unit) (S5162 : List Nat), i5163 + n = 8 ∧ Rep 147 [(1, .pointer (some ⟨b12, 0, none⟩)), (3, .slice a97 (r91.1).length c98), (6, .pointer (some ⟨b197, 0, none⟩)), (8, .int .i64 s4489.2), (9, .int .i64 (i4492 : Int)), (10, .int .i64 r4500), (11, .slice a4557 (r4550).length c4558), (12, .int .i64 (i5163 : Int))] a ∧ St w (fp []) w1 [blkI b12 31 [.slice a2 (p0.M.Maps).length c3, .slice a5 (p0.M.Code).length c6, .int .u64 p0.E.A, .int .u64 p0.E.B, .slice a8 (p0.Res).length c9, .int .i64 p0.Odd], nI 59 R_t59 (.slice a97 (r91.1).length c98) S5162 r91.1 none, itI R_t33 [.pointer (some ⟨b197, 0, none⟩)] S4554 s4489.1, rowI (.slice a4557 (r4550).length c4558) 26 (encInt .u64) 1 r4550] ∧ forN (tappetlaw11_EngineSafe_l2 r91 r4500 r4550) (fun (s5161 : Unit) => (.inl ())) n i5163 s5161 = some o4920) 8 (fun a ha => ⟨0, (), S4521, Nat.zero_add _, ha.agrees (by kernel_rfl), hst.keep [2, 3, 0, 1] rfl, ho4921⟩) ?_
     rintro n5159 a w1 ⟨i5163, s5161, S5162, hi5164, ha, hst, hl5160⟩
     refine CW.go ?_ ha
     refine CW.seq (CW.seq (CW.region ?_))
     refine OW.pure 2 [(72, .bool (decide ((i5163 : Int) < 8)))] (by kernel_rfl) (OW.nil rfl (QW.next ?_))
     rcases Bool.eq_false_or_eq_true (decide ((i5163 : Int) < 8)) with hc5165 | hc5165
     ·rcases n5159 with _ | n5159
      ·exact (cnt0 hi5164 hc5165).elim
      refine CW.cond_t rfl hc5165 (CW.skip (QW.next (CW.seq (CW.block (CW.seq (CW.region ?_))))))
      refine OW.pure 2 [(75, .slice a97 (r91.1).length c98), (76, .int .i64 r4500)] (by kernel_rfl) ?_
      obtain ⟨x5188, hx5189, hl5160⟩ := bind_some' hl5160
      obtain ⟨g5191, o5192, c5193, hv5190⟩ := hst.nrowv 1 rfl hx5189
      refine OW.idx 59 1 rfl rfl rfl rfl hv5190 rfl (idx_some hx5189).1 (idx_some hx5189).2.1 (by kernel_rfl) (by kernel_rfl) ?_
      obtain ⟨v5194, S5195, S5196, hce5197, hst⟩ := hst.nout1 1 rfl rfl hx5189 hv5190
      have hst := hst.toRow1 4 rfl
      obtain ⟨l5198, a5199, c5200, rfl⟩ := hst.len 4 rfl
      refine OW.ld rfl rfl rfl rfl (by kernel_rfl) hce5197 ?_
      refine OW.pure 1 [(79, .int .i64 (i5163 : Int))] (by kernel_rfl) ?_
      obtain ⟨x5201, hx5202, hl5160⟩ := bind_some' hl5160
      obtain ⟨g5204, o5205, c5206, hv5203⟩ := hst.rowv 4 rfl hx5202
      refine OW.idx 66 4 rfl rfl rfl rfl hv5203 rfl (idx_some hx5202).1 (idx_some hx5202).2.1 (by kernel_rfl) (by kernel_rfl) ?_
      refine OW.ldN (cs := enc_api_Type x5201) rfl rfl rfl rfl (by kernel_rfl) (by kernel_rfl) (hst.rowc 4 rfl (fun _ => rfl) hx5202 hv5203) ?_
      refine OW.alloc hst rfl rfl rfl [.int .i64 0, .int .u64 0, .int .u64 0, .int .i64 0] (by kernel_rfl) ?_
      intro b5207 w5208 hst
      refine OW.stB hst 5 rfl rfl rfl rfl rfl (by kernel_rfl) rfl rfl [.int .i64 x5201.Kind, .int .u64 x5201.Span.Lo, .int .u64 x5201.Span.Hi, .int .i64 x5201.Map] rfl ?_
      intro w5209 hst
      refine OW.nil rfl (QW.next (CW.seq ?_))
      obtain ⟨o5246, ho5247, hl5160⟩ := bind_some' hl5160
      refine CW.cutK (fun a w1 => ∃ (S5245 : List Nat), Rep 147 [(1, .pointer (some ⟨b12, 0, none⟩)), (3, .slice a97 (r91.1).length c98), (6, .pointer (some ⟨b197, 0, none⟩)), (8, .int .i64 s4489.2), (9, .int .i64 (i4492 : Int)), (10, .int .i64 r4500), (11, .slice a4557 (r4550).length c4558), (12, .int .i64 (i5163 : Int)), (119, .bool o5246)] a ∧ St w (fp []) w1 [blkI b12 31 [.slice a2 (p0.M.Maps).length c3, .slice a5 (p0.M.Code).length c6, .int .u64 p0.E.A, .int .u64 p0.E.B, .slice a8 (p0.Res).length c9, .int .i64 p0.Odd], nI 59 R_t59 (.slice a97 (r91.1).length c98) S5245 r91.1 none, itI R_t33 [.pointer (some ⟨b197, 0, none⟩)] S4554 s4489.1, rowI (.slice a4557 (r4550).length c4558) 26 (encInt .u64) 1 r4550]) ?_ ?_
      ·refine CW.still (by kernel_rfl) (by kernel_rfl) ?_
       intro w5248 hch5249
       have hst := hst.same hch5249
       refine OS.pure 1 [(82, .pointer (some ⟨b5207, 0, none⟩))] rfl (by kernel_rfl) ?_
       refine OS.ld rfl rfl rfl rfl rfl (by kernel_rfl) (hst.blk 5 rfl rfl) ?_
       refine OS.pure 2 [(85, .bool (x5201.Kind == 1))] rfl (by kernel_rfl) ?_
       refine OS.split 85 rfl (fun hc5250 => ?_) (fun hc5250 => ?_)
       ·have ho5247 := ite_t ho5247 hc5250
        refine OS.pure 2 [(86, .slice a4557 (r4550).length c4558), (87, .int .i64 (i5163 : Int))] rfl (by kernel_rfl) ?_
        obtain ⟨x5251, hx5252, ho5247⟩ := bind_some' ho5247
        obtain ⟨g5254, o5255, c5256, hv5253⟩ := hst.rowv 3 rfl hx5252
        refine OS.idx 26 1 rfl rfl rfl rfl rfl hv5253 rfl (idx_some hx5252).1 (idx_some hx5252).2.1 (by kernel_rfl) (by kernel_rfl) ?_
        refine OS.ld rfl rfl rfl rfl rfl (by kernel_rfl) (hst.rowc 3 rfl (fun _ => rfl) hx5252 hv5253 0 _ rfl) ?_
        refine OS.pure 2 [(91, .pointer (some ⟨b5207, 1, none⟩))] rfl (by kernel_rfl) ?_
        refine OS.ld rfl rfl rfl rfl rfl (by kernel_rfl) (hst.blk 5 rfl rfl) ?_
        refine OS.pure 2 [(94, .bool (decide (x5251 < x5201.Span.Lo)))] rfl (by kernel_rfl) ?_
        refine OS.split 94 rfl (fun hc5257 => ?_) (fun hc5257 => ?_)
        ·have ho5247 := ite_t ho5247 hc5257
         refine OS.pure 25 [(119, .bool true)] rfl (by kernel_rfl) ?_
         refine OS.fin rfl ?_
         have hst := hst.toIt 4 rfl (fun _ => rfl) (by decide)
         obtain ⟨S5258, hst⟩ := hst.nback0 1 4 rfl rfl rfl hx5189
         have hst := hst.keep [0, 1, 2, 3, 5] rfl
         obtain rfl := Option.some.inj ho5247
         exact QW.meet (fun a ha => ⟨S5258, ha.agrees (by kernel_rfl), hst.keep [0, 1, 2, 3] rfl⟩)
        have ho5247 := ite_f ho5247 hc5257
        refine OS.pure 2 [(95, .slice a4557 (r4550).length c4558), (96, .int .i64 (i5163 : Int))] rfl (by kernel_rfl) ?_
        obtain ⟨g5260, o5261, c5262, hv5259⟩ := hst.rowv 3 rfl hx5252
        refine OS.idx 26 1 rfl rfl rfl rfl rfl hv5259 rfl (idx_some hx5252).1 (idx_some hx5252).2.1 (by kernel_rfl) (by kernel_rfl) ?_
        refine OS.ld rfl rfl rfl rfl rfl (by kernel_rfl) (hst.rowc 3 rfl (fun _ => rfl) hx5252 hv5259 0 _ rfl) ?_
        refine OS.pure 2 [(100, .pointer (some ⟨b5207, 2, none⟩))] rfl (by kernel_rfl) ?_
        refine OS.ld rfl rfl rfl rfl rfl (by kernel_rfl) (hst.blk 5 rfl rfl) ?_
        refine OS.pure 4 [(105, .bool (decide (x5251 > x5201.Span.Hi)))] rfl (by kernel_rfl) ?_
        refine OS.split 105 rfl (fun hc5263 => ?_) (fun hc5263 => ?_)
        ·have ho5247 := ite_t ho5247 hc5263
         refine OS.pure 14 [(119, .bool true)] rfl (by kernel_rfl) ?_
         refine OS.fin rfl ?_
         have hst := hst.toIt 4 rfl (fun _ => rfl) (by decide)
         obtain ⟨S5264, hst⟩ := hst.nback0 1 4 rfl rfl rfl hx5189
         have hst := hst.keep [0, 1, 2, 3, 5] rfl
         obtain rfl := Option.some.inj ho5247
         exact QW.meet (fun a ha => ⟨S5264, ha.agrees (by kernel_rfl), hst.keep [0, 1, 2, 3] rfl⟩)
        have ho5247 := ite_f ho5247 hc5263
        refine OS.pure 1 [(106, .pointer (some ⟨b5207, 0, none⟩))] rfl (by kernel_rfl) ?_
        refine OS.ld rfl rfl rfl rfl rfl (by kernel_rfl) (hst.blk 5 rfl rfl) ?_
        refine OS.pure 2 [(109, .bool (x5201.Kind == 2))] rfl (by kernel_rfl) ?_
        refine OS.split 109 rfl (fun hc5265 => ?_) (fun hc5265 => ?_)
        ·have ho5247 := ite_t ho5247 hc5265
         refine OS.pure 2 [(110, .slice a4557 (r4550).length c4558), (111, .int .i64 (i5163 : Int))] rfl (by kernel_rfl) ?_
         obtain ⟨g5267, o5268, c5269, hv5266⟩ := hst.rowv 3 rfl hx5252
         refine OS.idx 26 1 rfl rfl rfl rfl rfl hv5266 rfl (idx_some hx5252).1 (idx_some hx5252).2.1 (by kernel_rfl) (by kernel_rfl) ?_
         refine OS.ld rfl rfl rfl rfl rfl (by kernel_rfl) (hst.rowc 3 rfl (fun _ => rfl) hx5252 hv5266 0 _ rfl) ?_
         refine OS.pure 1 [(114, .pointer (some ⟨b5207, 3, none⟩))] rfl (by kernel_rfl) ?_
         refine OS.ld rfl rfl rfl rfl rfl (by kernel_rfl) (hst.blk 5 rfl rfl) ?_
         refine OS.pure 4 [(119, .bool (x5251 != (wu64 x5201.Map)))] rfl (by kernel_rfl) ?_
         refine OS.fin rfl ?_
         have hst := hst.toIt 4 rfl (fun _ => rfl) (by decide)
         obtain ⟨S5270, hst⟩ := hst.nback0 1 4 rfl rfl rfl hx5189
         have hst := hst.keep [0, 1, 2, 3, 5] rfl
         obtain rfl := Option.some.inj ho5247
         exact QW.meet (fun a ha => ⟨S5270, ha.agrees (by kernel_rfl), hst.keep [0, 1, 2, 3] rfl⟩)
        have ho5247 := ite_f ho5247 hc5265
        refine OS.pure 10 [(119, .bool false)] rfl (by kernel_rfl) ?_
        refine OS.fin rfl ?_
        have hst := hst.toIt 4 rfl (fun _ => rfl) (by decide)
        obtain ⟨S5271, hst⟩ := hst.nback0 1 4 rfl rfl rfl hx5189
        have hst := hst.keep [0, 1, 2, 3, 5] rfl
        obtain rfl := Option.some.inj ho5247
        exact QW.meet (fun a ha => ⟨S5271, ha.agrees (by kernel_rfl), hst.keep [0, 1, 2, 3] rfl⟩)
       have ho5247 := ite_f ho5247 hc5250
       refine OS.pure 21 [(105, .bool false), (106, .pointer (some ⟨b5207, 0, none⟩))] rfl (by kernel_rfl) ?_
       refine OS.ld rfl rfl rfl rfl rfl (by kernel_rfl) (hst.blk 5 rfl rfl) ?_
       refine OS.pure 2 [(109, .bool (x5201.Kind == 2))] rfl (by kernel_rfl) ?_
       refine OS.split 109 rfl (fun hc5272 => ?_) (fun hc5272 => ?_)
       ·have ho5247 := ite_t ho5247 hc5272
        refine OS.pure 2 [(110, .slice a4557 (r4550).length c4558), (111, .int .i64 (i5163 : Int))] rfl (by kernel_rfl) ?_
        obtain ⟨x5273, hx5274, ho5247⟩ := bind_some' ho5247
        obtain ⟨g5276, o5277, c5278, hv5275⟩ := hst.rowv 3 rfl hx5274
        refine OS.idx 26 1 rfl rfl rfl rfl rfl hv5275 rfl (idx_some hx5274).1 (idx_some hx5274).2.1 (by kernel_rfl) (by kernel_rfl) ?_
        refine OS.ld rfl rfl rfl rfl rfl (by kernel_rfl) (hst.rowc 3 rfl (fun _ => rfl) hx5274 hv5275 0 _ rfl) ?_
        refine OS.pure 1 [(114, .pointer (some ⟨b5207, 3, none⟩))] rfl (by kernel_rfl) ?_
        refine OS.ld rfl rfl rfl rfl rfl (by kernel_rfl) (hst.blk 5 rfl rfl) ?_
        refine OS.pure 4 [(119, .bool (x5273 != (wu64 x5201.Map)))] rfl (by kernel_rfl) ?_
        refine OS.fin rfl ?_
        have hst := hst.toIt 4 rfl (fun _ => rfl) (by decide)
        obtain ⟨S5279, hst⟩ := hst.nback0 1 4 rfl rfl rfl hx5189
        have hst := hst.keep [0, 1, 2, 3, 5] rfl
        obtain rfl := Option.some.inj ho5247
        exact QW.meet (fun a ha => ⟨S5279, ha.agrees (by kernel_rfl), hst.keep [0, 1, 2, 3] rfl⟩)
       have ho5247 := ite_f ho5247 hc5272
       refine OS.pure 10 [(119, .bool false)] rfl (by kernel_rfl) ?_
       refine OS.fin rfl ?_
       have hst := hst.toIt 4 rfl (fun _ => rfl) (by decide)
       obtain ⟨S5280, hst⟩ := hst.nback0 1 4 rfl rfl rfl hx5189
       have hst := hst.keep [0, 1, 2, 3, 5] rfl
       obtain rfl := Option.some.inj ho5247
       exact QW.meet (fun a ha => ⟨S5280, ha.agrees (by kernel_rfl), hst.keep [0, 1, 2, 3] rfl⟩)
      rintro a w1 ⟨S5245, ha, hst⟩
      refine CW.go ?_ ha
      rcases Bool.eq_false_or_eq_true (o5246) with hc5281 | hc5281
      ·have hl5160 := ite_t hl5160 hc5281
       refine CW.cond_t rfl hc5281 (CW.seq (CW.region ?_))
       refine OW.pure 1 [(2, .bool false)] (by kernel_rfl) (OW.nil rfl (QW.next (CW.ret (QW.block_ret (QW.then_ret (QW.then_ret (QW.block_ret (QW.then_ret (QW.block_ret (QW.then_ret (QW.then_ret (QW.block_ret (QW.then_ret ?_)))))))))))))
       obtain rfl := Option.some.inj hl5160
       obtain rfl := Option.some.inj hl4488
       obtain rfl := Option.some.inj hF
       refine QW.ret1 rfl rfl ?_
       exact ⟨rfl, hst.keep [] rfl⟩
      have hl5160 := ite_f hl5160 hc5281
      refine CW.cond_f rfl hc5281 (CW.skip (QW.block_normal (QW.next (CW.region ?_))))
      refine OW.pure 3 [(12, .int .i64 (w64 ((i5163 : Int) + 1)))] (by kernel_rfl) (OW.nil rfl ?_)
      refine QW.say 12 rfl (congrArg (Value.int .i64) (w64_cnt hc5165 (by decide))) ?_
      exact QW.meet (fun a ha => ⟨n5159, Nat.lt_succ_self _, i5163 + 1, (), S5245, cnt_next hi5164, ha.agrees (by kernel_rfl), hst.keep [0, 1, 2, 3] rfl, hl5160⟩)
     rcases n5159 with _ | n5159
     ·refine CW.cond_f rfl hc5165 ?_
      refine CW.exit (QW.then_exit (QW.then_exit ?_))
      refine QW.block_here ?_
      obtain rfl := Option.some.inj hl5160
      exact QW.meet (fun a ha => ⟨(), S5162, rfl, ha.agrees (by kernel_rfl), hst.keep [0, 1, 2] rfl⟩)
     exact (cnt1 hi5164 hc5165).elim
    rintro a w1 ⟨t4922, S4919, rfl, ha, hst⟩
    refine CW.go ?_ ha
    refine CW.seq (CW.region ?_)
    refine OW.pure 1 [(120, .pointer (some ⟨b197, 0, none⟩))] (by kernel_rfl) ?_
    obtain ⟨r5290, hr5291, hl4488⟩ := bind_some' hl4488
    refine OW.fn rfl rfl rfl rfl (by kernel_rfl) (engine_Machine_Step_ok _ fu (.pointer (some ⟨b197, 0, none⟩)) S4554 s4489.1 r5290 hr5291 (hst.part [2] rfl) (hT0.give hst [2])) ?_
    rintro e w5292 ⟨S5294, rfl, hst5293⟩
    refine ⟨_, rfl, ?_⟩
    have hst := hst.join (idx := [2]) (rest := [0, 1]) rfl hst5293
    refine OW.alloc hst rfl rfl rfl [.int .i64 0, .int .i64 0, .int .i64 0, .int .i64 0, .int .u64 0, .int .u64 0, .int .u64 0] (by kernel_rfl) ?_
    intro b5295 w5296 hst
    refine OW.stB hst 3 rfl rfl rfl rfl rfl (by kernel_rfl) rfl rfl [.int .i64 r5290.1.Kind, .int .i64 r5290.1.Pc, .int .i64 r5290.1.Item.Map, .int .i64 r5290.1.Item.Op, .int .u64 r5290.1.Item.Key, .int .u64 r5290.1.Item.Val, .int .u64 r5290.1.Val] rfl ?_
    intro w5297 hst
    refine OW.nil rfl (QW.next (CW.seq (CW.seq (CW.region ?_))))
    refine OW.pure 1 [(122, .pointer (some ⟨b5295, 0, none⟩))] (by kernel_rfl) ?_
    refine OW.ld rfl rfl rfl rfl (by kernel_rfl) (hst.blk 3 rfl rfl) ?_
    refine OW.pure 1 [(124, .bool (r5290.1.Kind == 4))] (by kernel_rfl) (OW.nil rfl (QW.next ?_))
    rcases Bool.eq_false_or_eq_true ((r5290.1.Kind == 4)) with hc5298 | hc5298
    ·have hl4488 := ite_t hl4488 hc5298
     refine CW.cond_t rfl hc5298 (CW.seq (CW.region ?_))
     refine OW.pure 1 [(2, .bool true)] (by kernel_rfl) (OW.nil rfl (QW.next (CW.ret (QW.then_ret (QW.block_ret (QW.then_ret (QW.then_ret (QW.block_ret (QW.then_ret ?_)))))))))
     obtain rfl := Option.some.inj hl4488
     obtain rfl := Option.some.inj hF
     refine QW.ret1 rfl rfl ?_
     exact ⟨rfl, hst.keep [] rfl⟩
    have hl4488 := ite_f hl4488 hc5298
    refine CW.cond_f rfl hc5298 (CW.skip (QW.next (CW.seq (CW.region ?_))))
    refine OW.pure 1 [(125, .pointer (some ⟨b5295, 0, none⟩))] (by kernel_rfl) ?_
    refine OW.ld rfl rfl rfl rfl (by kernel_rfl) (hst.blk 3 rfl rfl) ?_
    refine OW.pure 1 [(127, .bool (r5290.1.Kind == 2))] (by kernel_rfl) (OW.nil rfl (QW.next ?_))
    rcases Bool.eq_false_or_eq_true ((r5290.1.Kind == 2)) with hc5299 | hc5299
    ·have hl4488 := ite_t hl4488 hc5299
     refine CW.cond_t rfl hc5299 (CW.seq (CW.region ?_))
     refine OW.pure 4 [(131, .agg [.int .i64 0, .bool false, .int .u64 (wu64 ((wu64 (i4492 : Int)) * 31)), .bool false, .int .u64 0, .int .u64 0].toArray)] (by kernel_rfl) ?_
     refine OW.alloc hst rfl rfl rfl [.int .i64 0, .bool false, .int .u64 0, .bool false, .int .u64 0, .int .u64 0] (by kernel_rfl) ?_
     intro b5303 w5304 hst
     refine OW.stB hst 4 rfl rfl rfl rfl rfl (by kernel_rfl) rfl rfl [.int .i64 0, .bool false, .int .u64 (wu64 ((wu64 (i4492 : Int)) * 31)), .bool false, .int .u64 0, .int .u64 0] rfl ?_
     intro w5305 hst
     refine OW.nil rfl (QW.next (CW.seq (CW.seq (CW.region ?_))))
     refine OW.pure 2 [(132, .int .i64 s4489.2), (133, .pointer (some ⟨b12, 4, none⟩))] (by kernel_rfl) ?_
     refine OW.ld rfl rfl rfl rfl (by kernel_rfl) (hst.blk 1 rfl rfl) ?_
     refine OW.pure 2 [(136, .bool (decide (s4489.2 < ((p0.Res).length : Int))))] (by kernel_rfl) (OW.nil rfl (QW.next ?_))
     obtain ⟨o5321, ho5322, hl4488⟩ := bind_some' hl4488
     refine CW.cutK (fun a w1 => Rep 147 [(1, .pointer (some ⟨b12, 0, none⟩)), (3, .slice a97 (r91.1).length c98), (6, .pointer (some ⟨b197, 0, none⟩)), (8, .int .i64 s4489.2), (9, .int .i64 (i4492 : Int)), (15, .pointer (some ⟨b5303, 0, none⟩))] a ∧ St w (fp []) w1 [blkI b12 31 [.slice a2 (p0.M.Maps).length c3, .slice a5 (p0.M.Code).length c6, .int .u64 p0.E.A, .int .u64 p0.E.B, .slice a8 (p0.Res).length c9, .int .i64 p0.Odd], nI 59 R_t59 (.slice a97 (r91.1).length c98) S4919 r91.1 none, itI R_t33 [.pointer (some ⟨b197, 0, none⟩)] S5294 r5290.2, blkI b5303 50 [.int .i64 o5321.E, .bool o5321.Found, .int .u64 o5321.Val, .bool o5321.Out, .int .u64 o5321.OutKey, .int .u64 o5321.OutVal]]) ?_ ?_
     ·rcases Bool.eq_false_or_eq_true (decide (s4489.2 < ((p0.Res).length : Int))) with hc5323 | hc5323
      ·have ho5322 := ite_t ho5322 hc5323
       refine CW.cond_t rfl hc5323 (CW.region ?_)
       refine OW.pure 1 [(137, .pointer (some ⟨b12, 4, none⟩))] (by kernel_rfl) ?_
       refine OW.ld rfl rfl rfl rfl (by kernel_rfl) (hst.blk 1 rfl rfl) ?_
       refine OW.pure 1 [(139, .int .i64 s4489.2)] (by kernel_rfl) ?_
       obtain ⟨x5331, hx5332, ho5322⟩ := bind_some' ho5322
       obtain ⟨g5334, o5335, c5336, hv5333⟩ := h0_2.formv (fun _ => ⟨_, rfl⟩) hx5332
       refine OW.idx 50 6 rfl rfl rfl rfl hv5333 rfl (idx_some hx5332).1 (idx_some hx5332).2.1 (by kernel_rfl) (by kernel_rfl) ?_
       refine OW.ldN (cs := enc_api_Res x5331) rfl rfl rfl rfl (by kernel_rfl) (by kernel_rfl) (h0_2.cellv hst hx5332 hv5333) ?_
       refine OW.stB hst 4 rfl rfl rfl rfl rfl (by kernel_rfl) rfl rfl [.int .i64 x5331.E, .bool x5331.Found, .int .u64 x5331.Val, .bool x5331.Out, .int .u64 x5331.OutKey, .int .u64 x5331.OutVal] rfl ?_
       intro w5337 hst
       refine OW.nil rfl ?_
       obtain rfl := Option.some.inj ho5322
       exact QW.meet (fun a ha => ⟨ha.agrees (by kernel_rfl), hst.keep [1, 2, 0, 4] rfl⟩)
      have ho5322 := ite_f ho5322 hc5323
      refine CW.cond_f rfl hc5323 (CW.skip ?_)
      obtain rfl := Option.some.inj ho5322
      exact QW.meet (fun a ha => ⟨ha.agrees (by kernel_rfl), hst.keep [1, 2, 0, 4] rfl⟩)
     rintro a w1 ⟨ha, hst⟩
     refine CW.go ?_ ha
     refine CW.seq (CW.region ?_)
     refine OW.pure 3 [(8, .int .i64 (w64 (s4489.2 + 1)))] (by kernel_rfl) (OW.nil rfl (QW.next (CW.region ?_)))
     refine OW.pure 1 [(144, .pointer (some ⟨b197, 0, none⟩))] (by kernel_rfl) ?_
     refine OW.ldN (cs := [.int .i64 o5321.E, .bool o5321.Found, .int .u64 o5321.Val, .bool o5321.Out, .int .u64 o5321.OutKey, .int .u64 o5321.OutVal]) rfl rfl rfl rfl (by kernel_rfl) (by kernel_rfl) (hst.blkN 3 rfl 0 6) ?_
     obtain ⟨r5343, hr5344, hl4488⟩ := bind_some' hl4488
     refine OW.fn rfl rfl rfl rfl (by kernel_rfl) (engine_Machine_Answer_ok _ (.pointer (some ⟨b197, 0, none⟩)) S5294 r5290.2 o5321 r5343 hr5344 (hst.part [2] rfl)) ?_
     rintro e w5345 ⟨S5347, rfl, hst5346⟩
     refine ⟨_, rfl, ?_⟩
     have hst := hst.join (idx := [2]) (rest := [0, 1, 3]) rfl hst5346
     refine OW.nil rfl (QW.block_normal (QW.next (CW.region ?_)))
     refine OW.pure 3 [(9, .int .i64 (w64 ((i4492 : Int) + 1)))] (by kernel_rfl) (OW.nil rfl ?_)
     refine QW.say 9 rfl (congrArg (Value.int .i64) (w64_cnt hc4494 (by decide))) ?_
     exact QW.meet (fun a ha => ⟨n4487, Nat.lt_succ_self _, i4492 + 1, (r5343.2, w64 (s4489.2 + 1)), S4919, S5347, cnt_next hi4493, ha.agrees (by kernel_rfl), hst.keep [1, 2, 0] rfl, hl4488⟩)
    have hl4488 := ite_f hl4488 hc5299
    refine CW.cond_f rfl hc5299 (CW.skip (QW.block_normal (QW.next (CW.region ?_))))
    refine OW.pure 3 [(9, .int .i64 (w64 ((i4492 : Int) + 1)))] (by kernel_rfl) (OW.nil rfl ?_)
    refine QW.say 9 rfl (congrArg (Value.int .i64) (w64_cnt hc4494 (by decide))) ?_
    exact QW.meet (fun a ha => ⟨n4487, Nat.lt_succ_self _, i4492 + 1, (r5290.2, s4489.2), S4919, S5294, cnt_next hi4493, ha.agrees (by kernel_rfl), hst.keep [1, 2, 0] rfl, hl4488⟩)
   rcases n4487 with _ | n4487
   ·refine CW.cond_f rfl hc4494 ?_
    refine CW.exit (QW.then_exit (QW.then_exit ?_))
    refine QW.block_here ?_
    obtain rfl := Option.some.inj hl4488
    exact QW.meet (fun a ha => ⟨(), rfl, ha.agrees (by kernel_rfl), hst.keep [] rfl⟩)
   exact (cnt1 hi4493 hc4494).elim
  rintro a w1 ⟨t2774, rfl, ha, hst⟩
  refine CW.go ?_ ha
  refine CW.seq (CW.region ?_)
  refine OW.pure 1 [(2, .bool false)] (by kernel_rfl) (OW.nil rfl (QW.next (CW.ret ?_)))
  obtain rfl := Option.some.inj hF
  refine QW.ret1 rfl rfl ?_
  exact ⟨rfl, hst.keep [] rfl⟩
 have hF := ocase_none hF he196
 refine ⟨_, rfl, ?_⟩
 have hst := hst.join (idx := [2]) (rest := [0, 1, 3, 4, 5, 6]) rfl hst191
 refine OA.next trivial ?_
 refine OA.pure [7, 8, 9] [(36, .pointer none), (37, .int .i64 r188.2)] (by kernel_rfl) ?_
 refine OA.act (i := 10) [] (by kernel_rfl) rfl rfl (by kernel_rfl) (by kernel_rfl) ?_
 refine OW.pure 1 [(6, .pointer none)] (by kernel_rfl) (OA.next trivial ?_)
 refine OA.act (i := 11) [] (by kernel_rfl) rfl rfl (by kernel_rfl) (by kernel_rfl) ?_
 refine OW.pure 1 [(7, .int .i64 r188.2)] (by kernel_rfl) (OA.next trivial ?_)
 refine OA.fin (by kernel_rfl) (by kernel_rfl) (QW.next (CW.seq (CW.seq (CW.region ?_))))
 refine OW.pure 6 [(43, .bool true)] (by kernel_rfl) (OW.nil rfl (QW.next ?_))
 refine CW.cond_t rfl rfl (CW.seq (CW.region ?_))
 refine OW.pure 1 [(2, .bool false)] (by kernel_rfl) (OW.nil rfl (QW.next (CW.ret (QW.then_ret ?_))))
 obtain rfl := Option.some.inj hF
 refine QW.ret1 rfl rfl ?_
 exact ⟨rfl, hst.keep [] rfl⟩

end Go.Proofs.YtgmmfjpmahcocaaDoor

/- Written by a program (wip/gen): the walks: each Go function returns what its plain function computes. -/
import Derived.Test.YtdnogiegiclcfaaGreatDoorProg
import Derived.Test.YtdnogiegiclcfaaGreatDoorF1
import Derived.Test.YtdnogiegiclcfaaGreatDoorSq
import Derived.Test.YtdnogiegiclcfaaGreatDoorPart
import Derived.Test.YtdnogiegiclcfaaGreatDoorExt
import Derived.Test.YtdnogiegiclcfaaGreatDoorSh
import Derived.Test.YtdnogiegiclcfaaGreatDoorO1
import Derived.Test.YtdnogiegiclcfaaGreatDoorW1p1
set_option linter.unusedSimpArgs false
namespace Go.Proofs.YtdnogiegiclcfaaGreatDoor
open Go.Sx
set_option linter.unusedVariables false
set_option maxRecDepth 10000
set_option maxHeartbeats 4000000
theorem ops_Writes_ok (w : World) (p0 : api_Inst) (r : Int × Bool) (hF : ops_Writes p0 = some r)
    (hst : St w (fp []) w []) (hT0 : Rd w (fp []) (.slice (some ⟨0, 0, none⟩) 23 23) enc_ops_form 2 tab_g0) :
    Calls Tryz.prog 100 [.agg [I p0.Op, I p0.D, I p0.A, I p0.B, I p0.Imm].toArray].toArray w (fun e w' => e = .returned (.tuple #[I r.1, .bool r.2]) ∧ St w (fp []) w' []) := by
 refine CW.start (N := 22) Tryz.func100 rfl rfl rfl (rg ?_)
 refine OW.box hst rfl rfl rfl rfl [I p0.Op, I p0.D, I p0.A, I p0.B, I p0.Imm] rfl ?_
 intro b3 w4 hst
 refine pu 2 [] (nx (CW.seq (rg ?_)))
 refine OW.ldN (cs := [I p0.Op, I p0.D, I p0.A, I p0.B, I p0.Imm]) rfl rfl rfl rfl (by kernel_rfl) (by kernel_rfl) (hst.blkN 0 rfl 0 5) ?_
 obtain ⟨r9, hr10, hF⟩ := bs hF
 refine OW.fn rfl rfl rfl rfl (by kernel_rfl) (ops_right_ok _ p0 r9 hr10 (hst.part [] rfl) (hT0.give hst [])) ?_
 rintro e w11 ⟨rfl, hst12⟩
 refine ⟨_, rfl, ?_⟩
 have hst := hst.join (idx := []) (rest := [0]) rfl hst12
 refine pu 1 [(8, .bool (!r9))] (nx ?_)
 refine br ((!r9)) hF (fun hF hc13 => ?_) (fun hF hc13 => ?_)
 ·refine rg ?_
  refine pu 2 [(2, I 0), (3, .bool false)] (nx (CW.ret (QW.then_ret ?_)))
  obtain rfl := inj hF
  refine QW.ret2 rfl rfl rfl ?_
  exact ⟨rfl, hst.keep [] rfl⟩
 refine CW.skip (QW.next (rg ?_))
 refine pu 1 [(10, Pt b3)] ?_
 refine OW.ld rfl rfl rfl rfl (by kernel_rfl) (hst.blk 0 rfl rfl) ?_
 obtain ⟨r21, hr22, hF⟩ := bs hF
 refine OW.fn rfl rfl rfl rfl (by kernel_rfl) (ops_of_ok _ p0.Op r21 hr22 (hst.part [] rfl) (hT0.give hst [])) ?_
 rintro e w23 ⟨rfl, hst24⟩
 refine ⟨_, rfl, ?_⟩
 have hst := hst.join (idx := []) (rest := [0]) rfl hst24
 refine pu 3 [(13, .agg [.string r21.1.name, .string r21.1.fields].toArray), (14, .bool r21.2)] ?_
 refine OW.alloc hst rfl rfl rfl [.string ByteArray.empty, .string ByteArray.empty] (by kernel_rfl) ?_
 intro b25 w26 hst
 refine OW.stB hst 1 rfl rfl rfl rfl rfl (by kernel_rfl) rfl rfl [.string r21.1.name, .string r21.1.fields] rfl ?_
 intro w27 hst
 refine pu 1 [] (nx (CW.seq (rg ?_)))
 refine OW.ldN (cs := [.string r21.1.name, .string r21.1.fields]) rfl rfl rfl rfl (by kernel_rfl) (by kernel_rfl) (hst.blkN 1 rfl 0 2) ?_
 obtain ⟨r32, hr33, hF⟩ := bs hF
 refine OW.fn rfl rfl rfl rfl (by kernel_rfl) (ops_form_uses_ok _ r21.1 100 r32 hr33 (hst.part [] rfl)) ?_
 rintro e w34 ⟨rfl, hst35⟩
 refine ⟨_, rfl, ?_⟩
 have hst := hst.join (idx := []) (rest := [0, 1]) rfl hst35
 refine nx ?_
 refine br (r32) hF (fun hF hc36 => ?_) (fun hF hc36 => ?_)
 ·refine rg ?_
  refine pu 1 [(17, .pointer (some ⟨b3, 1, none⟩))] ?_
  refine OW.ld rfl rfl rfl rfl (by kernel_rfl) (hst.blk 0 rfl rfl) ?_
  refine pu 2 [(2, I p0.D), (3, .bool true)] (nx (CW.ret (QW.then_ret ?_)))
  obtain rfl := inj hF
  refine QW.ret2 rfl rfl rfl ?_
  exact ⟨rfl, hst.keep [] rfl⟩
 refine CW.skip (QW.next (CW.seq ?_))
 refine CW.still (by kernel_rfl) (by kernel_rfl) ?_
 intro w39 hch40
 have hst := hst.same hch40
 refine OS.pure 1 [(19, Pt b3)] rfl (by kernel_rfl) ?_
 refine OS.ld rfl rfl rfl rfl rfl (by kernel_rfl) (hst.blk 0 rfl rfl) ?_
 refine OS.pure 3 [(2, I 0), (3, .bool (p0.Op == 21))] rfl (by kernel_rfl) ?_
 refine OS.fin rfl (QW.next (CW.ret ?_))
 obtain rfl := inj hF
 refine QW.ret2 rfl rfl rfl ?_
 exact ⟨rfl, hst.keep [] rfl⟩
theorem span_Full_ok (w : World)  (r : api_Span) (hF : span_Full  = some r)
    (hst : St w (fp []) w []) :
    Calls Tryz.prog 102 [].toArray w (fun e w' => e = .returned (.agg [U r.Lo, U r.Hi].toArray) ∧ St w (fp []) w' []) := by
 refine CW.start (N := 2) Tryz.func102 rfl rfl rfl (rg ?_)
 refine OW.alloc hst rfl rfl rfl [U 0, U 0] (by kernel_rfl) ?_
 intro b3 w4 hst
 refine nx (rg ?_)
 refine pu 1 [(1, .agg [U 0, U 18446744073709551615].toArray)] ?_
 refine OW.stB hst 0 rfl rfl rfl rfl rfl (by kernel_rfl) rfl rfl [U 0, U 18446744073709551615] rfl ?_
 intro w6 hst
 refine nx (CW.ret ?_)
 obtain rfl := inj hF
 refine QW.ret_c rfl rfl (run_loadN (cs := [U 0, U 18446744073709551615]) (by kernel_rfl) (by kernel_rfl) (hst.blkN 0 rfl 0 2)) ?_
 exact ⟨rfl, hst.keep [] rfl⟩
theorem judge_number_ok (w : World) (p0 : api_Span) (r : api_Type) (hF : judge_number p0 = some r)
    (hst : St w (fp []) w []) :
    Calls Tryz.prog 101 [.agg [U p0.Lo, U p0.Hi].toArray].toArray w (fun e w' => e = .returned (.agg [I r.Kind, U r.Span.Lo, U r.Span.Hi, I r.Map].toArray) ∧ St w (fp []) w' []) := by
 refine CW.start (N := 5) Tryz.func101 rfl rfl rfl (rg ?_)
 refine OW.box hst rfl rfl rfl rfl [U p0.Lo, U p0.Hi] rfl ?_
 intro b5 w6 hst
 refine OW.alloc hst rfl rfl rfl [I 0, U 0, U 0, I 0] (by kernel_rfl) ?_
 intro b7 w8 hst
 refine nx (rg ?_)
 refine OW.ldN (cs := [U p0.Lo, U p0.Hi]) rfl rfl rfl rfl (by kernel_rfl) (by kernel_rfl) (hst.blkN 0 rfl 0 2) ?_
 refine pu 1 [(4, .agg [I 1, U p0.Lo, U p0.Hi, I 0].toArray)] ?_
 refine OW.stB hst 1 rfl rfl rfl rfl rfl (by kernel_rfl) rfl rfl [I 1, U p0.Lo, U p0.Hi, I 0] rfl ?_
 intro w10 hst
 refine nx (CW.ret ?_)
 obtain rfl := inj hF
 refine QW.ret_c rfl rfl (run_loadN (cs := [I 1, U p0.Lo, U p0.Hi, I 0]) (by kernel_rfl) (by kernel_rfl) (hst.blkN 1 rfl 0 4)) ?_
 exact ⟨rfl, hst.keep [] rfl⟩
theorem judge_judge_widen_ok (w : World) (wb : World) (Sb : List Nat) (v0 : Value) (S0 : List Nat) (p0 : judge_judge) (p1 : Int) (r : judge_judge) (hF : judge_judge_widen p0 p1 = some r)
    (hst : St w (fp [itI (R_t92 wb Sb) [v0] S0 p0]) w [itI (R_t92 wb Sb) [v0] S0 p0]) (hb : Bor wb Sb w (fp [itI (R_t92 wb Sb) [v0] S0 p0])) (hT0 : Rd w (fp [itI (R_t92 wb Sb) [v0] S0 p0]) (.slice (some ⟨0, 0, none⟩) 23 23) enc_ops_form 2 tab_g0) :
    Calls Tryz.prog 77 [v0, I p1].toArray w (fun e w' => ∃ (s0 : List Nat), e = .returned (.tuple #[]) ∧ St w (fp [itI (R_t92 wb Sb) [v0] S0 p0]) w' [itI (R_t92 wb Sb) [v0] s0 r]) := by
 refine CW.start (N := 78) Tryz.func77 rfl rfl rfl ?_
 obtain ⟨b1, rfl⟩ := hst.fptr 0 rfl
 refine CW.seq ?_
 obtain ⟨v2, S3, v4, S5, v6, S7, v8, S9, v10, S11, hst⟩ := hst.openQ5 0 rfl rfl rfl rfl rfl rfl
 have hbo12 := hst.borOut 1 rfl
 have hbr13 := hbo12.bor hb
 have hbo14 := hst.borOut 2 rfl
 have hbr15 := hbo14.bor hb
 have hst := hst.toRow1 3 rfl
 have hst := hst.toRow1 4 rfl
 have hst := hst.toRow1 5 rfl
 have hst := hst.keep [0, 3, 4, 5] rfl
 obtain ⟨l16, a17, c18, rfl⟩ := hbr13.len
 obtain ⟨l19, a20, c21, rfl⟩ := hbr15.len
 obtain ⟨l22, a23, c24, rfl⟩ := hst.len 1 rfl
 obtain ⟨l25, a26, c27, rfl⟩ := hst.len 2 rfl
 obtain ⟨l28, a29, c30, rfl⟩ := hst.len 3 rfl
 have hst : St _ _ _ [blkI b1 146 [.slice a17 (p0.Module.Maps).length c18, .slice a20 (p0.Module.Code).length c21, .slice a23 (p0.came).length c24, .slice a26 (p0.any).length c27, .slice a29 (p0.loops).length c30], _, _, _] := hst
 refine CW.region ?_
 refine pu 3 [(12, .pointer (some ⟨b1, 4, none⟩))] ?_
 refine OW.ld rfl rfl rfl rfl (by kernel_rfl) (hst.blk 0 rfl rfl) ?_
 refine pu 2 [(14, I ((p0.loops).length : Int)), (15, I 0)] (nx ?_)
 obtain ⟨o1835, ho1836, hF⟩ := bs hF
 refine CW.cutQ (fun a w1 => ∃ (S1834 : List Nat), Rep 78 [] a ∧ St w (fp [itI (R_t92 wb Sb) [Pt b1] S0 p0]) w1 [itI (R_t92 wb Sb) [Pt b1] S1834 o1835]) ?_ ?_
 ·refine CW.block ?_
  refine CW.loop (fun n a w1 => ∃ (i3038 : Nat) (s3036 : (List (Nat → api_Type))) (v3037 : Value), i3038 + n = (p0.loops).length ∧ Rep 78 [(0, Pt b1), (1, I p1), (13, .slice a29 (p0.loops).length c30), (14, I ((p0.loops).length : Int)), (15, I (i3038 : Int))] a ∧ St w (fp [itI (R_t92 wb Sb) [Pt b1] S0 p0]) w1 [blkI b1 146 [.slice a17 (p0.Module.Maps).length c18, .slice a20 (p0.Module.Code).length c21, v3037, .slice a26 (p0.any).length c27, .slice a29 (p0.loops).length c30], rowI v3037 156 (arrC (enc_api_Type) 8) 32 s3036, rowI (.slice a26 (p0.any).length c27) 4 encBool 1 p0.any, rowI (.slice a29 (p0.loops).length c30) 180 enc_api_Loop 3 p0.loops] ∧ forN (judge_judge_widen_l1 p0 p1) (fun (s3036 : (List (Nat → api_Type))) => (judge_judge.mk p0.Module s3036 p0.any p0.loops)) n i3038 s3036 = some o1835) (p0.loops).length (fun a ha => ⟨0, p0.came, (.slice a23 (p0.came).length c24), Nat.zero_add _, ha.ag, hst.keep [0, 1, 2, 3] rfl, ho1836⟩) ?_
  rintro n3034 a w1 ⟨i3038, s3036, v3037, hi3039, ha, hst, hl3035⟩
  refine CW.go ?_ ha
  obtain ⟨l3040, a3041, c3042, rfl⟩ := hst.len 1 rfl
  refine rg ?_
  refine pu 1 [(16, .bool (decide ((i3038 : Int) < ((p0.loops).length : Int))))] (nx (CW.seq ?_))
  rcases bft (decide ((i3038 : Int) < ((p0.loops).length : Int))) with hc3043 | hc3043
  ·rcases n3034 with _ | n3034
   ·exact (cnt0 hi3039 hc3043).elim
   refine CW.cond_t rfl hc3043 (CW.skip (QW.next (CW.seq (CW.block (rg ?_)))))
   obtain ⟨x3053, hx3054, hl3035⟩ := bs hl3035
   obtain ⟨g3056, o3057, c3058, hv3055⟩ := hst.rowv 3 rfl hx3054
   refine OW.idx 180 3 rfl rfl rfl rfl hv3055 rfl (idx_some hx3054).1 (idx_some hx3054).2.1 (by kernel_rfl) (by kernel_rfl) ?_
   refine OW.ldN (cs := enc_api_Loop x3053) rfl rfl rfl rfl (by kernel_rfl) (by kernel_rfl) (hst.rowc 3 rfl (fun _ => rfl) hx3054 hv3055) ?_
   refine OW.alloc hst rfl rfl rfl [I 0, I 0, I 0] (by kernel_rfl) ?_
   intro b3059 w3060 hst
   refine OW.stB hst 4 rfl rfl rfl rfl rfl (by kernel_rfl) rfl rfl [I x3053.Head, I x3053.At, I x3053.Bound] rfl ?_
   intro w3061 hst
   refine nx (CW.seq (rg ?_))
   refine pu 1 [(19, Pt b3059)] ?_
   refine OW.ld rfl rfl rfl rfl (by kernel_rfl) (hst.blk 4 rfl rfl) ?_
   refine pu 2 [(22, .bool (x3053.Head != p1))] (nx ?_)
   refine br ((x3053.Head != p1)) hl3035 (fun hl3035 hc3062 => ?_) (fun hl3035 hc3062 => ?_)
   ·refine CW.exit (QW.then_exit ?_)
    refine QW.block_here (QW.next (CW.region ?_))
    refine pu 2 [(15, I (w64 ((i3038 : Int) + 1)))] (OW.nil rfl ?_)
    refine QW.say 15 rfl (congrArg (Value.int .i64) (w64_cnt hc3043 l28)) ?_
    exact QW.meet (fun a ha => ⟨n3034, Nat.lt_succ_self _, i3038 + 1, s3036, (.slice a3041 (s3036).length c3042), cnt_next hi3039, ha.ag, hst.keep [0, 1, 2, 3] rfl, hl3035⟩)
   refine CW.skip (QW.next (CW.seq ?_))
   refine CW.still (by kernel_rfl) (by kernel_rfl) ?_
   intro w3069 hch3070
   have hst := hst.same hch3070
   refine OS.pure 4 [(26, .pointer (some ⟨b1, 1, none⟩))] rfl (by kernel_rfl) ?_
   refine OS.ld rfl rfl rfl rfl rfl (by kernel_rfl) (hst.blk 0 rfl rfl) ?_
   refine OS.pure 1 [(28, Pt b3059)] rfl (by kernel_rfl) ?_
   refine OS.ld rfl rfl rfl rfl rfl (by kernel_rfl) (hst.blk 4 rfl rfl) ?_
   refine OS.pure 1 [(30, .pointer (some ⟨b3059, 1, none⟩))] rfl (by kernel_rfl) ?_
   refine OS.ld rfl rfl rfl rfl rfl (by kernel_rfl) (hst.blk 4 rfl rfl) ?_
   refine OS.pure 1 [(32, I (w64 (x3053.At + 1)))] rfl (by kernel_rfl) ?_
   obtain ⟨ys3071, hcut3072, hl3035⟩ := bs hl3035
   refine OS.op (v := .slice (shd a20 c21 (Int.toNat x3053.Head) 5) (ys3071).length (c21 - Int.toNat x3053.Head)) rfl rfl rfl rfl rfl (fun a ha => sub_run (e := 42) 5 rfl rfl rfl rfl hcut3072 hbr15.cap (by kernel_rfl) (by kernel_rfl) a _ ha) ?_
   have hp3073 := hbr15.part hcut3072
   refine OS.pure 2 [(34, I ((ys3071).length : Int)), (35, I 0)] rfl (by kernel_rfl) ?_
   refine OS.fin rfl (QW.next ?_)
   obtain ⟨o3352, ho3353, hl3035⟩ := bs hl3035
   refine CW.cutQ (fun a w1 => ∃ (v3351 : Value), Rep 78 [(0, Pt b1), (1, I p1), (13, .slice a29 (p0.loops).length c30), (14, I ((p0.loops).length : Int)), (15, I (i3038 : Int))] a ∧ St w (fp [itI (R_t92 wb Sb) [Pt b1] S0 p0]) w1 [blkI b1 146 [.slice a17 (p0.Module.Maps).length c18, .slice a20 (p0.Module.Code).length c21, v3351, .slice a26 (p0.any).length c27, .slice a29 (p0.loops).length c30], rowI v3351 156 (arrC (enc_api_Type) 8) 32 o3352, rowI (.slice a26 (p0.any).length c27) 4 encBool 1 p0.any, rowI (.slice a29 (p0.loops).length c30) 180 enc_api_Loop 3 p0.loops]) ?_ ?_
   ·refine CW.block ?_
    refine CW.loop (fun n a w1 => ∃ (i3539 : Nat) (s3537 : (List (Nat → api_Type))) (v3538 : Value), i3539 + n = (ys3071).length ∧ Rep 78 [(0, Pt b1), (1, I p1), (13, .slice a29 (p0.loops).length c30), (14, I ((p0.loops).length : Int)), (15, I (i3038 : Int)), (33, .slice (shd a20 c21 (Int.toNat x3053.Head) 5) (ys3071).length (c21 - Int.toNat x3053.Head)), (34, I ((ys3071).length : Int)), (35, I (i3539 : Int))] a ∧ St w (fp [itI (R_t92 wb Sb) [Pt b1] S0 p0]) w1 [blkI b1 146 [.slice a17 (p0.Module.Maps).length c18, .slice a20 (p0.Module.Code).length c21, v3538, .slice a26 (p0.any).length c27, .slice a29 (p0.loops).length c30], rowI v3538 156 (arrC (enc_api_Type) 8) 32 s3537, rowI (.slice a26 (p0.any).length c27) 4 encBool 1 p0.any, rowI (.slice a29 (p0.loops).length c30) 180 enc_api_Loop 3 p0.loops] ∧ forN (judge_judge_widen_l2 p1 ys3071) (fun (s3537 : (List (Nat → api_Type))) => s3537) n i3539 s3537 = some o3352) (ys3071).length (fun a ha => ⟨0, s3036, (.slice a3041 (s3036).length c3042), Nat.zero_add _, ha.ag, hst.keep [0, 1, 2, 3] rfl, ho3353⟩) ?_
    rintro n3535 a w1 ⟨i3539, s3537, v3538, hi3540, ha, hst, hl3536⟩
    refine CW.go ?_ ha
    obtain ⟨l3541, a3542, c3543, rfl⟩ := hst.len 1 rfl
    refine rg ?_
    refine pu 1 [(36, .bool (decide ((i3539 : Int) < ((ys3071).length : Int))))] (nx (CW.seq ?_))
    rcases bft (decide ((i3539 : Int) < ((ys3071).length : Int))) with hc3544 | hc3544
    ·rcases n3535 with _ | n3535
     ·exact (cnt0 hi3540 hc3544).elim
     refine CW.cond_t rfl hc3544 (CW.skip (QW.next (CW.seq (CW.block (rg ?_)))))
     obtain ⟨x3554, hx3555, hl3536⟩ := bs hl3536
     obtain ⟨g3557, o3558, c3559, hv3556⟩ := hp3073.formv (fun _ => ⟨_, rfl⟩) hx3555
     refine OW.idx 42 5 rfl rfl rfl rfl hv3556 rfl (idx_some hx3555).1 (idx_some hx3555).2.1 (by kernel_rfl) (by kernel_rfl) ?_
     refine OW.ldN (cs := enc_api_Inst x3554) rfl rfl rfl rfl (by kernel_rfl) (by kernel_rfl) (hp3073.cellv hst hx3555 hv3556) ?_
     refine OW.alloc hst rfl rfl rfl [I 0, I 0, I 0, I 0, I 0] (by kernel_rfl) ?_
     intro b3560 w3561 hst
     refine OW.stB hst 4 rfl rfl rfl rfl rfl (by kernel_rfl) rfl rfl [I x3554.Op, I x3554.D, I x3554.A, I x3554.B, I x3554.Imm] rfl ?_
     intro w3562 hst
     refine nx (rg ?_)
     refine OW.ldN (cs := [I x3554.Op, I x3554.D, I x3554.A, I x3554.B, I x3554.Imm]) rfl rfl rfl rfl (by kernel_rfl) (by kernel_rfl) (hst.blkN 4 rfl 0 5) ?_
     obtain ⟨r3567, hr3568, hl3536⟩ := bs hl3536
     refine OW.fn rfl rfl rfl rfl (by kernel_rfl) (ops_Writes_ok _ x3554 r3567 hr3568 (hst.part [] rfl) (hT0.give hst [])) ?_
     rintro e w3569 ⟨rfl, hst3570⟩
     refine ⟨_, rfl, ?_⟩
     have hst := hst.join (idx := []) (rest := [0, 1, 2, 3, 4]) rfl hst3570
     refine pu 5 [(8, I r3567.1), (9, .bool r3567.2)] (nx (CW.seq (rg ?_)))
     refine pu 2 [(45, .bool (!r3567.2))] (nx ?_)
     refine br ((!r3567.2)) hl3536 (fun hl3536 hc3571 => ?_) (fun hl3536 hc3571 => ?_)
     ·refine CW.exit (QW.then_exit ?_)
      refine QW.block_here (QW.next (CW.region ?_))
      refine pu 2 [(35, I (w64 ((i3539 : Int) + 1)))] (OW.nil rfl ?_)
      refine QW.say 35 rfl (congrArg (Value.int .i64) (w64_cnt hc3544 (Nat.le_trans (cut_le hcut3072) l19))) ?_
      exact QW.meet (fun a ha => ⟨n3535, Nat.lt_succ_self _, i3539 + 1, s3537, (.slice a3542 (s3537).length c3543), cnt_next hi3540, ha.ag, hst.keep [0, 1, 2, 3] rfl, hl3536⟩)
     refine CW.skip (QW.next (rg ?_))
     refine pu 3 [(48, .pointer (some ⟨b1, 2, none⟩))] ?_
     refine OW.ld rfl rfl rfl rfl (by kernel_rfl) (hst.blk 0 rfl rfl) ?_
     refine pu 2 [(50, I p1), (51, I r3567.1)] ?_
     obtain ⟨x3581, hx3582, hl3536⟩ := bs hl3536
     obtain ⟨g3584, o3585, c3586, hv3583⟩ := hst.rowv 1 rfl hx3582
     refine OW.idx 156 32 rfl rfl rfl rfl hv3583 rfl (idx_some hx3582).1 (idx_some hx3582).2.1 (by kernel_rfl) (by kernel_rfl) ?_
     obtain ⟨i3587, hi3588, hl3536⟩ := bs hl3536
     refine OW.op (v := .pointer (some ⟨g3584, o3585 + Int.toNat p1 * 32 + 0 + Int.toNat r3567.1 * 4, none⟩)) rfl rfl rfl rfl (fun a ha => aidx_run (n := 8) 154 4 rfl rfl rfl (ain_some hi3588).1 (ain_some hi3588).2.1 (by kernel_rfl) (by kernel_rfl) a _ ha) ?_
     refine pu 1 [(54, .pointer (some ⟨g3584, o3585 + Int.toNat p1 * 32 + 0 + Int.toNat r3567.1 * 4, none⟩))] ?_
     refine OW.ld rfl rfl rfl rfl (by kernel_rfl) (cell_arr (hst.rowc 1 rfl (fun _ => rfl) hx3582 hv3583) enc_api_Type (fun _ => rfl) 8 x3581 0 rfl rfl hi3588 0 _ rfl) ?_
     refine pu 1 [(56, .bool ((x3581 i3587).Kind == 1))] (nx ?_)
     refine br (((x3581 i3587).Kind == 1)) hl3536 (fun hl3536 hc3589 => ?_) (fun hl3536 hc3589 => ?_)
     ·refine CW.plan (by kernel_rfl) ?_
      intro w3605 hch3606
      have hst := hst.same hch3606
      refine OA.pure [0, 1, 2] [(59, .pointer (some ⟨b1, 2, none⟩))] (by kernel_rfl) ?_
      refine OA.ld (i := 3) rfl (by kernel_rfl) rfl rfl rfl (by kernel_rfl) (hst.blk 0 rfl rfl) ?_
      refine OA.pure [4, 5] [(61, I p1), (62, I r3567.1)] (by kernel_rfl) ?_
      obtain ⟨g3608, o3609, c3610, hv3607⟩ := hst.rowv 1 rfl hx3582
      refine OA.idx (i := 8) 156 32 rfl (by kernel_rfl) rfl rfl rfl hv3607 rfl (idx_some hx3582).1 (idx_some hx3582).2.1 (by kernel_rfl) (by kernel_rfl) ?_
      refine OA.act (i := 6) [3] (by kernel_rfl) rfl rfl (by kernel_rfl) (by kernel_rfl) ?_
      obtain ⟨r3611, hr3612, hl3536⟩ := bs hl3536
      refine OW.fn rfl rfl rfl rfl (by kernel_rfl) (span_Full_ok _ r3611 hr3612 (hst.part [] rfl)) ?_
      rintro e w3613 ⟨rfl, hst3614⟩
      refine ⟨_, rfl, ?_⟩
      have hst := hst.join (idx := []) (rest := [0, 1, 2, 3, 4]) rfl hst3614
      refine OA.next ⟨(hst.blk 0 rfl rfl), trivial⟩ ?_
      refine OA.act (i := 7) [3] (by kernel_rfl) rfl rfl (by kernel_rfl) (by kernel_rfl) ?_
      obtain ⟨r3615, hr3616, hl3536⟩ := bs hl3536
      refine OW.fn rfl rfl rfl rfl (by kernel_rfl) (judge_number_ok _ r3611 r3615 hr3616 (hst.part [] rfl)) ?_
      rintro e w3617 ⟨rfl, hst3618⟩
      refine ⟨_, rfl, ?_⟩
      have hst := hst.join (idx := []) (rest := [0, 1, 2, 3, 4]) rfl hst3618
      refine OA.next ⟨(hst.blk 0 rfl rfl), trivial⟩ ?_
      refine OA.val (i := 9) (v := .pointer (some ⟨g3608, o3609 + Int.toNat p1 * 32 + 0 + Int.toNat r3567.1 * 4, none⟩)) rfl (by kernel_rfl) rfl rfl rfl rfl (fun a w ha => aidx_run (n := 8) 154 4 rfl rfl rfl (ain_some hi3588).1 (ain_some hi3588).2.1 (by kernel_rfl) (by kernel_rfl) a w ha) ?_
      refine OA.act (i := 10) [] (by kernel_rfl) rfl rfl (by kernel_rfl) (by kernel_rfl) ?_
      refine OW.stRA hst 1 rfl hv3607 (fun _ => rfl) rfl rfl hx3582 rfl rfl (by kernel_rfl) rfl enc_api_Type (fun _ => rfl) 8 x3581 0 rfl rfl hi3588 0 rfl rfl r3615 rfl (aset x3581 i3587 r3615) rfl ?_
      intro w3619 hst
      refine OA.next trivial ?_
      refine OA.fin (by kernel_rfl) (by kernel_rfl) (QW.block_normal (QW.next (CW.region ?_)))
      refine pu 2 [(35, I (w64 ((i3539 : Int) + 1)))] (OW.nil rfl ?_)
      refine QW.say 35 rfl (congrArg (Value.int .i64) (w64_cnt hc3544 (Nat.le_trans (cut_le hcut3072) l19))) ?_
      exact QW.meet (fun a ha => ⟨n3535, Nat.lt_succ_self _, i3539 + 1, (s3537.set (Int.toNat p1) (aset x3581 i3587 r3615)), (.slice a3542 (s3537).length c3543), cnt_next hi3540, ha.ag, hst.keep [0, 1, 2, 3] rfl, hl3536⟩)
     refine CW.region ?_
     refine pu 3 [(69, .pointer (some ⟨b1, 2, none⟩))] ?_
     refine OW.ld rfl rfl rfl rfl (by kernel_rfl) (hst.blk 0 rfl rfl) ?_
     refine pu 3 [(71, I p1), (72, I r3567.1), (73, .agg [I 0, U 0, U 0, I 0].toArray)] ?_
     obtain ⟨g3627, o3628, c3629, hv3626⟩ := hst.rowv 1 rfl hx3582
     refine OW.idx 156 32 rfl rfl rfl rfl hv3626 rfl (idx_some hx3582).1 (idx_some hx3582).2.1 (by kernel_rfl) (by kernel_rfl) ?_
     refine OW.op (v := .pointer (some ⟨g3627, o3628 + Int.toNat p1 * 32 + 0 + Int.toNat r3567.1 * 4, none⟩)) rfl rfl rfl rfl (fun a ha => aidx_run (n := 8) 154 4 rfl rfl rfl (ain_some hi3588).1 (ain_some hi3588).2.1 (by kernel_rfl) (by kernel_rfl) a _ ha) ?_
     refine OW.stRA hst 1 rfl hv3626 (fun _ => rfl) rfl rfl hx3582 rfl rfl (by kernel_rfl) rfl enc_api_Type (fun _ => rfl) 8 x3581 0 rfl rfl hi3588 0 rfl rfl (api_Type.mk 0 (api_Span.mk 0 0) 0) rfl (aset x3581 i3587 (api_Type.mk 0 (api_Span.mk 0 0) 0)) rfl ?_
     intro w3630 hst
     refine OW.nil rfl (QW.block_normal (QW.next (CW.region ?_)))
     refine pu 2 [(35, I (w64 ((i3539 : Int) + 1)))] (OW.nil rfl ?_)
     refine QW.say 35 rfl (congrArg (Value.int .i64) (w64_cnt hc3544 (Nat.le_trans (cut_le hcut3072) l19))) ?_
     exact QW.meet (fun a ha => ⟨n3535, Nat.lt_succ_self _, i3539 + 1, (s3537.set (Int.toNat p1) (aset x3581 i3587 (api_Type.mk 0 (api_Span.mk 0 0) 0))), (.slice a3542 (s3537).length c3543), cnt_next hi3540, ha.ag, hst.keep [0, 1, 2, 3] rfl, hl3536⟩)
    rcases n3535 with _ | n3535
    ·refine CW.cond_f rfl hc3544 ?_
     refine CW.exit (QW.then_exit (QW.then_exit ?_))
     refine QW.block_here ?_
     obtain rfl := inj hl3536
     exact QW.meet (fun a ha => ⟨(.slice a3542 (s3537).length c3543), ha.ag, hst.keep [0, 1, 2, 3] rfl⟩)
    exact (cnt1 hi3540 hc3544).elim
   rintro a w1 ⟨v3351, ha, hst⟩
   refine QW.go ?_ ha
   obtain ⟨l3634, a3635, c3636, rfl⟩ := hst.len 1 rfl
   refine QW.block_normal (QW.next (CW.region ?_))
   refine pu 2 [(15, I (w64 ((i3038 : Int) + 1)))] (OW.nil rfl ?_)
   refine QW.say 15 rfl (congrArg (Value.int .i64) (w64_cnt hc3043 l28)) ?_
   exact QW.meet (fun a ha => ⟨n3034, Nat.lt_succ_self _, i3038 + 1, o3352, (.slice a3635 (o3352).length c3636), cnt_next hi3039, ha.ag, hst.keep [0, 1, 2, 3] rfl, hl3035⟩)
  rcases n3034 with _ | n3034
  ·refine CW.cond_f rfl hc3043 ?_
   refine CW.exit (QW.then_exit (QW.then_exit ?_))
   refine QW.block_here ?_
   have hst := hst.borIn hbo12
   have hst := hst.borIn hbo14
   have hst := hst.toIt 1 rfl (fun _ => rfl) (by decide)
   have hst := hst.toIt 2 rfl (fun _ => rfl) (by decide)
   have hst := hst.toIt 3 rfl (fun _ => rfl) (by decide)
   obtain ⟨S3638, hst⟩ := hst.shutP5 (R_t146 wb Sb) rfl 0 4 5 1 2 3 [] rfl rfl rfl rfl rfl rfl rfl (judge_judge.mk p0.Module s3036 p0.any p0.loops) rfl rfl
   obtain rfl := inj hl3035
   exact QW.meet (fun a ha => ⟨S3638, ha.ag, hst.keep [0] rfl⟩)
  exact (cnt1 hi3039 hc3043).elim
 rintro a w1 ⟨S1834, ha, hst⟩
 refine QW.go ?_ ha
 obtain rfl := inj hF
 refine QW.end0 rfl ?_
 exact ⟨S1834, rfl, hst.keep [0] rfl⟩
theorem ops_Source_ok (w : World) (p0 : api_Inst) (r : Bool) (hF : ops_Source p0 = some r)
    (hst : St w (fp []) w []) (hT0 : Rd w (fp []) (.slice (some ⟨0, 0, none⟩) 23 23) enc_ops_form 2 tab_g0) :
    Calls Tryz.prog 103 [.agg [I p0.Op, I p0.D, I p0.A, I p0.B, I p0.Imm].toArray].toArray w (fun e w' => e = .returned (.bool r) ∧ St w (fp []) w' []) := by
 refine CW.start (N := 17) Tryz.func103 rfl rfl rfl (rg ?_)
 refine OW.box hst rfl rfl rfl rfl [I p0.Op, I p0.D, I p0.A, I p0.B, I p0.Imm] rfl ?_
 intro b3 w4 hst
 refine pu 1 [] (nx (rg ?_))
 refine pu 1 [(6, Pt b3)] ?_
 refine OW.ld rfl rfl rfl rfl (by kernel_rfl) (hst.blk 0 rfl rfl) ?_
 obtain ⟨r12, hr13, hF⟩ := bs hF
 refine OW.fn rfl rfl rfl rfl (by kernel_rfl) (ops_of_ok _ p0.Op r12 hr13 (hst.part [] rfl) (hT0.give hst [])) ?_
 rintro e w14 ⟨rfl, hst15⟩
 refine ⟨_, rfl, ?_⟩
 have hst := hst.join (idx := []) (rest := [0]) rfl hst15
 refine pu 3 [(9, .agg [.string r12.1.name, .string r12.1.fields].toArray), (10, .bool r12.2)] ?_
 refine OW.alloc hst rfl rfl rfl [.string ByteArray.empty, .string ByteArray.empty] (by kernel_rfl) ?_
 intro b16 w17 hst
 refine OW.stB hst 1 rfl rfl rfl rfl rfl (by kernel_rfl) rfl rfl [.string r12.1.name, .string r12.1.fields] rfl ?_
 intro w18 hst
 refine pu 1 [] (nx (CW.seq ?_))
 obtain ⟨o32, ho33, hF⟩ := bs hF
 refine CW.cutK (fun a w1 => Rep 17 [(2, .bool o32)] a ∧ St w (fp []) w1 []) ?_ ?_
 ·refine CW.region ?_
  refine OW.ldN (cs := [I p0.Op, I p0.D, I p0.A, I p0.B, I p0.Imm]) rfl rfl rfl rfl (by kernel_rfl) (by kernel_rfl) (hst.blkN 0 rfl 0 5) ?_
  obtain ⟨r34, hr35, ho33⟩ := bs ho33
  refine OW.fn rfl rfl rfl rfl (by kernel_rfl) (ops_right_ok _ p0 r34 hr35 (hst.part [] rfl) (hT0.give hst [])) ?_
  rintro e w36 ⟨rfl, hst37⟩
  refine ⟨_, rfl, ?_⟩
  have hst := hst.join (idx := []) (rest := [0, 1]) rfl hst37
  refine pu 1 [(13, .bool r34)] ?_
  refine OW.split 13 rfl (fun hc38 => ?_) (fun hc38 => ?_)
  ·have ho33 := ite_t ho33 hc38
   refine OW.ldN (cs := [.string r12.1.name, .string r12.1.fields]) rfl rfl rfl rfl (by kernel_rfl) (by kernel_rfl) (hst.blkN 1 rfl 0 2) ?_
   obtain ⟨r39, hr40, ho33⟩ := bs ho33
   refine OW.fn rfl rfl rfl rfl (by kernel_rfl) (ops_form_uses_ok _ r12.1 115 r39 hr40 (hst.part [] rfl)) ?_
   rintro e w41 ⟨rfl, hst42⟩
   refine ⟨_, rfl, ?_⟩
   have hst := hst.join (idx := []) (rest := [0, 1]) rfl hst42
   refine pu 2 [(2, .bool r39)] (OW.nil rfl ?_)
   obtain rfl := inj ho33
   exact QW.meet (fun a ha => ⟨ha.ag, hst.keep [] rfl⟩)
  have ho33 := ite_f ho33 hc38
  refine pu 4 [(2, .bool false)] (OW.nil rfl ?_)
  obtain rfl := inj ho33
  exact QW.meet (fun a ha => ⟨ha.ag, hst.keep [] rfl⟩)
 rintro a w1 ⟨ha, hst⟩
 refine CW.go ?_ ha
 refine CW.ret ?_
 obtain rfl := inj hF
 refine QW.ret1 rfl rfl ?_
 exact ⟨rfl, hst.keep [] rfl⟩
theorem span_Single_ok (w : World) (p0 : Int) (r : api_Span) (hF : span_Single p0 = some r)
    (hst : St w (fp []) w []) :
    Calls Tryz.prog 142 [U p0].toArray w (fun e w' => e = .returned (.agg [U r.Lo, U r.Hi].toArray) ∧ St w (fp []) w' []) := by
 refine CW.start (N := 6) Tryz.func142 rfl rfl rfl (rg ?_)
 refine OW.alloc hst rfl rfl rfl [U 0, U 0] (by kernel_rfl) ?_
 intro b3 w4 hst
 refine nx (rg ?_)
 refine pu 3 [(5, .agg [U p0, U p0].toArray)] ?_
 refine OW.stB hst 0 rfl rfl rfl rfl rfl (by kernel_rfl) rfl rfl [U p0, U p0] rfl ?_
 intro w6 hst
 refine nx (CW.ret ?_)
 obtain rfl := inj hF
 refine QW.ret_c rfl rfl (run_loadN (cs := [U p0, U p0]) (by kernel_rfl) (by kernel_rfl) (hst.blkN 0 rfl 0 2)) ?_
 exact ⟨rfl, hst.keep [] rfl⟩
theorem judge_source_ok (w : World) (p0 : api_Inst) (p1 : Nat → api_Type) (r : api_Type) (hF : judge_source p0 p1 = some r)
    (hst : St w (fp []) w []) :
    Calls Tryz.prog 104 [.agg [I p0.Op, I p0.D, I p0.A, I p0.B, I p0.Imm].toArray, .agg (arrC (enc_api_Type) 8 p1).toArray].toArray w (fun e w' => e = .returned (.agg [I r.Kind, U r.Span.Lo, U r.Span.Hi, I r.Map].toArray) ∧ St w (fp []) w' []) := by
 refine CW.start (N := 17) Tryz.func104 rfl rfl rfl (rg ?_)
 refine OW.box hst rfl rfl rfl rfl [I p0.Op, I p0.D, I p0.A, I p0.B, I p0.Imm] rfl ?_
 intro b7 w8 hst
 refine OW.box hst rfl rfl rfl rfl (arrC (enc_api_Type) 8 p1) rfl ?_
 intro b9 w10 hst
 refine OW.alloc hst rfl rfl rfl [I 0, U 0, U 0, I 0] (by kernel_rfl) ?_
 intro b11 w12 hst
 refine nx (CW.seq (rg ?_))
 refine pu 1 [(5, .pointer (some ⟨b7, 3, none⟩))] ?_
 refine OW.ld rfl rfl rfl rfl (by kernel_rfl) (hst.blk 0 rfl rfl) ?_
 refine pu 1 [(7, .bool (p0.B == 8))] (nx ?_)
 refine br ((p0.B == 8)) hF (fun hF hc13 => ?_) (fun hF hc13 => ?_)
 ·refine rg ?_
  refine pu 1 [(8, .pointer (some ⟨b7, 4, none⟩))] ?_
  refine OW.ld rfl rfl rfl rfl (by kernel_rfl) (hst.blk 0 rfl rfl) ?_
  refine pu 1 [(10, U (wu64 p0.Imm))] ?_
  obtain ⟨r23, hr24, hF⟩ := bs hF
  refine OW.fn rfl rfl rfl rfl (by kernel_rfl) (span_Single_ok _ (wu64 p0.Imm) r23 hr24 (hst.part [] rfl)) ?_
  rintro e w25 ⟨rfl, hst26⟩
  refine ⟨_, rfl, ?_⟩
  have hst := hst.join (idx := []) (rest := [0, 1, 2]) rfl hst26
  obtain ⟨r27, hr28, hF⟩ := bs hF
  refine OW.fn rfl rfl rfl rfl (by kernel_rfl) (judge_number_ok _ r23 r27 hr28 (hst.part [] rfl)) ?_
  rintro e w29 ⟨rfl, hst30⟩
  refine ⟨_, rfl, ?_⟩
  have hst := hst.join (idx := []) (rest := [0, 1, 2]) rfl hst30
  refine OW.stB hst 2 rfl rfl rfl rfl rfl (by kernel_rfl) rfl rfl [I r27.Kind, U r27.Span.Lo, U r27.Span.Hi, I r27.Map] rfl ?_
  intro w31 hst
  refine nx (CW.ret (QW.then_ret ?_))
  obtain rfl := inj hF
  refine QW.ret_c rfl rfl (run_loadN (cs := [I r27.Kind, U r27.Span.Lo, U r27.Span.Hi, I r27.Map]) (by kernel_rfl) (by kernel_rfl) (hst.blkN 2 rfl 0 4)) ?_
  exact ⟨rfl, hst.keep [] rfl⟩
 refine CW.skip (QW.next (rg ?_))
 refine pu 1 [(13, .pointer (some ⟨b7, 3, none⟩))] ?_
 refine OW.ld rfl rfl rfl rfl (by kernel_rfl) (hst.blk 0 rfl rfl) ?_
 obtain ⟨i35, hi36, hF⟩ := bs hF
 refine OW.op (v := .pointer (some ⟨b9, 0 + Int.toNat p0.B * 4, none⟩)) rfl rfl rfl rfl (fun a ha => aidx_run (n := 8) 154 4 rfl rfl rfl (ain_some hi36).1 (ain_some hi36).2.1 (by kernel_rfl) (by kernel_rfl) a _ ha) ?_
 refine OW.ldN (cs := enc_api_Type (p1 i35)) rfl rfl rfl rfl (by kernel_rfl) (by kernel_rfl) (hst.arrB 1 rfl enc_api_Type (fun _ => rfl) 8 p1 0 rfl rfl hi36) ?_
 refine OW.stB hst 2 rfl rfl rfl rfl rfl (by kernel_rfl) rfl rfl [I (p1 i35).Kind, U (p1 i35).Span.Lo, U (p1 i35).Span.Hi, I (p1 i35).Map] rfl ?_
 intro w37 hst
 refine nx (CW.ret ?_)
 obtain rfl := inj hF
 refine QW.ret_c rfl rfl (run_loadN (cs := [I (p1 i35).Kind, U (p1 i35).Span.Lo, U (p1 i35).Span.Hi, I (p1 i35).Map]) (by kernel_rfl) (by kernel_rfl) (hst.blkN 2 rfl 0 4)) ?_
 exact ⟨rfl, hst.keep [] rfl⟩
theorem judge_nums_ok (w : World) (v0 : Value) (p0 : List api_Type) (r : Int) (hF : judge_nums p0 = some r)
    (hst : St w (fp []) w []) (h0 : Rd w (fp []) v0 enc_api_Type 4 p0) :
    Calls Tryz.prog 106 [v0].toArray w (fun e w' => e = .returned (I r) ∧ St w (fp []) w' []) := by
 refine CW.start (N := 15) Tryz.func106 rfl rfl rfl ?_
 obtain ⟨l1, a2, c3, rfl⟩ := h0.len
 refine rg ?_
 refine pu 1 [] (nx (CW.seq (rg ?_)))
 refine pu 3 [(5, .slice a2 (p0).length c3), (6, I ((p0).length : Int)), (7, I 0)] (nx ?_)
 obtain ⟨o70, ho71, hF⟩ := bs hF
 refine CW.cutK (fun a w1 => ∃ (t72 : Unit), o70 = .inl t72 ∧ Rep 15 [] a ∧ St w (fp []) w1 []) ?_ ?_
 ·refine CW.block ?_
  refine CW.loop (fun n a w1 => ∃ (i117 : Nat) (s116 : Unit), i117 + n = (p0).length ∧ Rep 15 [(5, .slice a2 (p0).length c3), (6, I ((p0).length : Int)), (7, I (i117 : Int))] a ∧ St w (fp []) w1 [] ∧ forN (judge_nums_l1 p0) (fun (s116 : Unit) => (.inl ())) n i117 s116 = some o70) (p0).length (fun a ha => ⟨0, (), Nat.zero_add _, ha.ag, hst.keep [] rfl, ho71⟩) ?_
  rintro n114 a w1 ⟨i117, s116, hi118, ha, hst, hl115⟩
  refine CW.go ?_ ha
  refine rg ?_
  refine pu 1 [(8, .bool (decide ((i117 : Int) < ((p0).length : Int))))] (nx (CW.seq ?_))
  rcases bft (decide ((i117 : Int) < ((p0).length : Int))) with hc119 | hc119
  ·rcases n114 with _ | n114
   ·exact (cnt0 hi118 hc119).elim
   refine CW.cond_t rfl hc119 (CW.skip (QW.next (CW.seq (CW.block (rg ?_)))))
   obtain ⟨x129, hx130, hl115⟩ := bs hl115
   obtain ⟨g132, o133, c134, hv131⟩ := h0.formv (fun _ => ⟨_, rfl⟩) hx130
   refine OW.idx 154 4 rfl rfl rfl rfl hv131 rfl (idx_some hx130).1 (idx_some hx130).2.1 (by kernel_rfl) (by kernel_rfl) ?_
   refine OW.ldN (cs := enc_api_Type x129) rfl rfl rfl rfl (by kernel_rfl) (by kernel_rfl) (h0.cellv hst hx130 hv131) ?_
   refine OW.alloc hst rfl rfl rfl [I 0, U 0, U 0, I 0] (by kernel_rfl) ?_
   intro b135 w136 hst
   refine OW.stB hst 0 rfl rfl rfl rfl rfl (by kernel_rfl) rfl rfl [I x129.Kind, U x129.Span.Lo, U x129.Span.Hi, I x129.Map] rfl ?_
   intro w137 hst
   refine nx (rg ?_)
   refine pu 1 [(11, Pt b135)] ?_
   refine OW.ld rfl rfl rfl rfl (by kernel_rfl) (hst.blk 0 rfl rfl) ?_
   refine pu 1 [(13, .bool (x129.Kind != 1))] (nx ?_)
   refine br ((x129.Kind != 1)) hl115 (fun hl115 hc138 => ?_) (fun hl115 hc138 => ?_)
   ·refine rg ?_
    refine pu 1 [(2, I 33)] (nx (CW.ret (QW.block_ret (QW.then_ret (QW.then_ret (QW.block_ret (QW.then_ret ?_)))))))
    obtain rfl := inj hl115
    obtain rfl := inj hF
    refine QW.ret1 rfl rfl ?_
    exact ⟨rfl, hst.keep [] rfl⟩
   refine CW.skip (QW.block_normal (QW.next (CW.region ?_)))
   refine pu 2 [(7, I (w64 ((i117 : Int) + 1)))] (OW.nil rfl ?_)
   refine QW.say 7 rfl (congrArg (Value.int .i64) (w64_cnt hc119 l1)) ?_
   exact QW.meet (fun a ha => ⟨n114, Nat.lt_succ_self _, i117 + 1, (), cnt_next hi118, ha.ag, hst.keep [] rfl, hl115⟩)
  rcases n114 with _ | n114
  ·refine CW.cond_f rfl hc119 ?_
   refine CW.exit (QW.then_exit (QW.then_exit ?_))
   refine QW.block_here ?_
   obtain rfl := inj hl115
   exact QW.meet (fun a ha => ⟨(), rfl, ha.ag, hst.keep [] rfl⟩)
  exact (cnt1 hi118 hc119).elim
 rintro a w1 ⟨t72, rfl, ha, hst⟩
 refine CW.go ?_ ha
 refine rg ?_
 refine pu 1 [(2, I 0)] (nx (CW.ret ?_))
 obtain rfl := inj hF
 refine QW.ret1 rfl rfl ?_
 exact ⟨rfl, hst.keep [] rfl⟩
theorem span_Right_ok (w : World) (p0 : api_Span) (r : Bool) (hF : span_Right p0 = some r)
    (hst : St w (fp []) w []) :
    Calls Tryz.prog 147 [.agg [U p0.Lo, U p0.Hi].toArray].toArray w (fun e w' => e = .returned (.bool r) ∧ St w (fp []) w' []) := by
 refine CW.start (N := 8) Tryz.func147 rfl rfl rfl (rg ?_)
 refine OW.box hst rfl rfl rfl rfl [U p0.Lo, U p0.Hi] rfl ?_
 intro b3 w4 hst
 refine pu 1 [] (nx (rg ?_))
 refine pu 1 [(3, Pt b3)] ?_
 refine OW.ld rfl rfl rfl rfl (by kernel_rfl) (hst.blk 0 rfl rfl) ?_
 refine pu 1 [(5, .pointer (some ⟨b3, 1, none⟩))] ?_
 refine OW.ld rfl rfl rfl rfl (by kernel_rfl) (hst.blk 0 rfl rfl) ?_
 refine pu 2 [(2, .bool (decide (p0.Lo ≤ p0.Hi)))] (nx (CW.ret ?_))
 obtain rfl := inj hF
 refine QW.ret1 rfl rfl ?_
 exact ⟨rfl, hst.keep [] rfl⟩
theorem span_Within_ok (w : World) (p0 : api_Span) (p1 : api_Span) (r : Bool) (hF : span_Within p0 p1 = some r)
    (hst : St w (fp []) w []) :
    Calls Tryz.prog 143 [.agg [U p0.Lo, U p0.Hi].toArray, .agg [U p1.Lo, U p1.Hi].toArray].toArray w (fun e w' => e = .returned (.bool r) ∧ St w (fp []) w' []) := by
 refine CW.start (N := 21) Tryz.func143 rfl rfl rfl (rg ?_)
 refine OW.box hst rfl rfl rfl rfl [U p0.Lo, U p0.Hi] rfl ?_
 intro b5 w6 hst
 refine OW.box hst rfl rfl rfl rfl [U p1.Lo, U p1.Hi] rfl ?_
 intro b7 w8 hst
 refine pu 1 [] (nx (CW.seq ?_))
 obtain ⟨o19, ho20, hF⟩ := bs hF
 refine CW.cutK (fun a w1 => Rep 21 [(4, .bool o19)] a ∧ St w (fp []) w1 []) ?_ ?_
 ·refine CW.region ?_
  refine OW.ldN (cs := [U p0.Lo, U p0.Hi]) rfl rfl rfl rfl (by kernel_rfl) (by kernel_rfl) (hst.blkN 0 rfl 0 2) ?_
  obtain ⟨r21, hr22, ho20⟩ := bs ho20
  refine OW.fn rfl rfl rfl rfl (by kernel_rfl) (span_Right_ok _ p0 r21 hr22 (hst.part [] rfl)) ?_
  rintro e w23 ⟨rfl, hst24⟩
  refine ⟨_, rfl, ?_⟩
  have hst := hst.join (idx := []) (rest := [0, 1]) rfl hst24
  refine pu 1 [(7, .bool r21)] ?_
  refine OW.split 7 rfl (fun hc25 => ?_) (fun hc25 => ?_)
  ·have ho20 := ite_t ho20 hc25
   refine pu 1 [(8, Pt b7)] ?_
   refine OW.ld rfl rfl rfl rfl (by kernel_rfl) (hst.blk 1 rfl rfl) ?_
   refine pu 1 [(10, Pt b5)] ?_
   refine OW.ld rfl rfl rfl rfl (by kernel_rfl) (hst.blk 0 rfl rfl) ?_
   refine pu 3 [(14, .bool (decide (p1.Lo ≤ p0.Lo)))] ?_
   refine OW.split 14 rfl (fun hc26 => ?_) (fun hc26 => ?_)
   ·have ho20 := ite_t ho20 hc26
    refine pu 1 [(15, .pointer (some ⟨b5, 1, none⟩))] ?_
    refine OW.ld rfl rfl rfl rfl (by kernel_rfl) (hst.blk 0 rfl rfl) ?_
    refine pu 1 [(17, .pointer (some ⟨b7, 1, none⟩))] ?_
    refine OW.ld rfl rfl rfl rfl (by kernel_rfl) (hst.blk 1 rfl rfl) ?_
    refine pu 3 [(4, .bool (decide (p0.Hi ≤ p1.Hi)))] (OW.nil rfl ?_)
    obtain rfl := inj ho20
    exact QW.meet (fun a ha => ⟨ha.ag, hst.keep [] rfl⟩)
   have ho20 := ite_f ho20 hc26
   refine pu 7 [(4, .bool false)] (OW.nil rfl ?_)
   obtain rfl := inj ho20
   exact QW.meet (fun a ha => ⟨ha.ag, hst.keep [] rfl⟩)
  have ho20 := ite_f ho20 hc25
  refine pu 14 [(4, .bool false)] (OW.nil rfl ?_)
  obtain rfl := inj ho20
  exact QW.meet (fun a ha => ⟨ha.ag, hst.keep [] rfl⟩)
 rintro a w1 ⟨ha, hst⟩
 refine CW.go ?_ ha
 refine CW.ret ?_
 obtain rfl := inj hF
 refine QW.ret1 rfl rfl ?_
 exact ⟨rfl, hst.keep [] rfl⟩
theorem judge_word_ok (w : World) (p0 : api_Type) (r : Int) (hF : judge_word p0 = some r)
    (hst : St w (fp []) w []) :
    Calls Tryz.prog 107 [.agg [I p0.Kind, U p0.Span.Lo, U p0.Span.Hi, I p0.Map].toArray].toArray w (fun e w' => e = .returned (I r) ∧ St w (fp []) w' []) := by
 refine CW.start (N := 8) Tryz.func107 rfl rfl rfl (rg ?_)
 refine OW.box hst rfl rfl rfl rfl [I p0.Kind, U p0.Span.Lo, U p0.Span.Hi, I p0.Map] rfl ?_
 intro b3 w4 hst
 refine pu 1 [] (nx (CW.seq (rg ?_)))
 refine pu 1 [(3, .pointer (some ⟨b3, 1, none⟩))] ?_
 refine OW.ldN (cs := [U p0.Span.Lo, U p0.Span.Hi]) rfl rfl rfl rfl (by kernel_rfl) (by kernel_rfl) (hst.blkN 0 rfl 1 2) ?_
 refine pu 1 [(5, .agg [U 0, U 15].toArray)] ?_
 obtain ⟨r9, hr10, hF⟩ := bs hF
 refine OW.fn rfl rfl rfl rfl (by kernel_rfl) (span_Within_ok _ p0.Span (api_Span.mk 0 15) r9 hr10 (hst.part [] rfl)) ?_
 rintro e w11 ⟨rfl, hst12⟩
 refine ⟨_, rfl, ?_⟩
 have hst := hst.join (idx := []) (rest := [0]) rfl hst12
 refine pu 1 [(7, .bool (!r9))] (nx ?_)
 refine br ((!r9)) hF (fun hF hc13 => ?_) (fun hF hc13 => ?_)
 ·refine rg ?_
  refine pu 1 [(2, I 35)] (nx (CW.ret (QW.then_ret ?_)))
  obtain rfl := inj hF
  refine QW.ret1 rfl rfl ?_
  exact ⟨rfl, hst.keep [] rfl⟩
 refine CW.skip (QW.next (rg ?_))
 refine pu 1 [(2, I 0)] (nx (CW.ret ?_))
 obtain rfl := inj hF
 refine QW.ret1 rfl rfl ?_
 exact ⟨rfl, hst.keep [] rfl⟩
theorem judge_first_ok (w : World) (v0 : Value) (p0 : List Int) (r : Int) (hF : judge_first p0 = some r)
    (hst : St w (fp []) w []) (h0 : Rd w (fp []) v0 (encInt .i64) 1 p0) :
    Calls Tryz.prog 105 [v0].toArray w (fun e w' => e = .returned (I r) ∧ St w (fp []) w' []) := by
 refine CW.start (N := 15) Tryz.func105 rfl rfl rfl ?_
 obtain ⟨l1, a2, c3, rfl⟩ := h0.len
 refine rg ?_
 refine pu 1 [] (nx (CW.seq (rg ?_)))
 refine pu 3 [(5, .slice a2 (p0).length c3), (6, I ((p0).length : Int)), (7, I 0)] (nx ?_)
 obtain ⟨o52, ho53, hF⟩ := bs hF
 refine CW.cutK (fun a w1 => ∃ (t54 : Unit), o52 = .inl t54 ∧ Rep 15 [] a ∧ St w (fp []) w1 []) ?_ ?_
 ·refine CW.block ?_
  refine CW.loop (fun n a w1 => ∃ (i87 : Nat) (s86 : Unit), i87 + n = (p0).length ∧ Rep 15 [(5, .slice a2 (p0).length c3), (6, I ((p0).length : Int)), (7, I (i87 : Int))] a ∧ St w (fp []) w1 [] ∧ forN (judge_first_l1 p0) (fun (s86 : Unit) => (.inl ())) n i87 s86 = some o52) (p0).length (fun a ha => ⟨0, (), Nat.zero_add _, ha.ag, hst.keep [] rfl, ho53⟩) ?_
  rintro n84 a w1 ⟨i87, s86, hi88, ha, hst, hl85⟩
  refine CW.go ?_ ha
  refine rg ?_
  refine pu 1 [(8, .bool (decide ((i87 : Int) < ((p0).length : Int))))] (nx (CW.seq ?_))
  rcases bft (decide ((i87 : Int) < ((p0).length : Int))) with hc89 | hc89
  ·rcases n84 with _ | n84
   ·exact (cnt0 hi88 hc89).elim
   refine CW.cond_t rfl hc89 (CW.skip (QW.next (CW.seq (CW.block (rg ?_)))))
   obtain ⟨x96, hx97, hl85⟩ := bs hl85
   obtain ⟨g99, o100, c101, hv98⟩ := h0.formv (fun _ => ⟨_, rfl⟩) hx97
   refine OW.idx 25 1 rfl rfl rfl rfl hv98 rfl (idx_some hx97).1 (idx_some hx97).2.1 (by kernel_rfl) (by kernel_rfl) ?_
   refine OW.ld rfl rfl rfl rfl (by kernel_rfl) (h0.cellv hst hx97 hv98 0 _ rfl) ?_
   refine pu 1 [(4, I x96)] (nx (rg ?_))
   refine pu 2 [(12, .bool (x96 != 0))] (nx ?_)
   refine br ((x96 != 0)) hl85 (fun hl85 hc102 => ?_) (fun hl85 hc102 => ?_)
   ·refine rg ?_
    refine pu 2 [(2, I x96)] (nx (CW.ret (QW.block_ret (QW.then_ret (QW.then_ret (QW.block_ret (QW.then_ret ?_)))))))
    obtain rfl := inj hl85
    obtain rfl := inj hF
    refine QW.ret1 rfl rfl ?_
    exact ⟨rfl, hst.keep [] rfl⟩
   refine CW.skip (QW.block_normal (QW.next (CW.region ?_)))
   refine pu 2 [(7, I (w64 ((i87 : Int) + 1)))] (OW.nil rfl ?_)
   refine QW.say 7 rfl (congrArg (Value.int .i64) (w64_cnt hc89 l1)) ?_
   exact QW.meet (fun a ha => ⟨n84, Nat.lt_succ_self _, i87 + 1, (), cnt_next hi88, ha.ag, hst.keep [] rfl, hl85⟩)
  rcases n84 with _ | n84
  ·refine CW.cond_f rfl hc89 ?_
   refine CW.exit (QW.then_exit (QW.then_exit ?_))
   refine QW.block_here ?_
   obtain rfl := inj hl85
   exact QW.meet (fun a ha => ⟨(), rfl, ha.ag, hst.keep [] rfl⟩)
  exact (cnt1 hi88 hc89).elim
 rintro a w1 ⟨t54, rfl, ha, hst⟩
 refine CW.go ?_ ha
 refine rg ?_
 refine pu 1 [(2, I 0)] (nx (CW.ret ?_))
 obtain rfl := inj hF
 refine QW.ret1 rfl rfl ?_
 exact ⟨rfl, hst.keep [] rfl⟩
theorem judge_fits_ok (w : World) (p0 : api_Type) (p1 : api_Type) (r : Bool) (hF : judge_fits p0 p1 = some r)
    (hst : St w (fp []) w []) :
    Calls Tryz.prog 108 [.agg [I p0.Kind, U p0.Span.Lo, U p0.Span.Hi, I p0.Map].toArray, .agg [I p1.Kind, U p1.Span.Lo, U p1.Span.Hi, I p1.Map].toArray].toArray w (fun e w' => e = .returned (.bool r) ∧ St w (fp []) w' []) := by
 refine CW.start (N := 24) Tryz.func108 rfl rfl rfl (rg ?_)
 refine OW.box hst rfl rfl rfl rfl [I p0.Kind, U p0.Span.Lo, U p0.Span.Hi, I p0.Map] rfl ?_
 intro b5 w6 hst
 refine OW.box hst rfl rfl rfl rfl [I p1.Kind, U p1.Span.Lo, U p1.Span.Hi, I p1.Map] rfl ?_
 intro b7 w8 hst
 refine pu 1 [] (nx (CW.seq (rg ?_)))
 refine pu 1 [(5, Pt b7)] ?_
 refine OW.ld rfl rfl rfl rfl (by kernel_rfl) (hst.blk 1 rfl rfl) (nx (CW.block (rg ?_)))
 refine pu 2 [(7, .bool (p1.Kind == 1))] (nx ?_)
 refine br ((p1.Kind == 1)) hF (fun hF hc9 => ?_) (fun hF hc9 => ?_)
 ·refine CW.seq ?_
  obtain ⟨o15, ho16, hF⟩ := bs hF
  refine CW.cutK (fun a w1 => Rep 24 [(4, .bool o15)] a ∧ St w (fp []) w1 []) ?_ ?_
  ·refine CW.region ?_
   refine pu 1 [(9, Pt b5)] ?_
   refine OW.ld rfl rfl rfl rfl (by kernel_rfl) (hst.blk 0 rfl rfl) ?_
   refine pu 2 [(12, .bool (p0.Kind == 1))] ?_
   refine OW.split 12 rfl (fun hc17 => ?_) (fun hc17 => ?_)
   ·have ho16 := ite_t ho16 hc17
    refine pu 1 [(13, .pointer (some ⟨b5, 1, none⟩))] ?_
    refine OW.ldN (cs := [U p0.Span.Lo, U p0.Span.Hi]) rfl rfl rfl rfl (by kernel_rfl) (by kernel_rfl) (hst.blkN 0 rfl 1 2) ?_
    refine pu 1 [(15, .pointer (some ⟨b7, 1, none⟩))] ?_
    refine OW.ldN (cs := [U p1.Span.Lo, U p1.Span.Hi]) rfl rfl rfl rfl (by kernel_rfl) (by kernel_rfl) (hst.blkN 1 rfl 1 2) ?_
    obtain ⟨r18, hr19, ho16⟩ := bs ho16
    refine OW.fn rfl rfl rfl rfl (by kernel_rfl) (span_Within_ok _ p0.Span p1.Span r18 hr19 (hst.part [] rfl)) ?_
    rintro e w20 ⟨rfl, hst21⟩
    refine ⟨_, rfl, ?_⟩
    have hst := hst.join (idx := []) (rest := [0, 1]) rfl hst21
    refine pu 2 [(4, .bool r18)] (OW.nil rfl ?_)
    obtain rfl := inj ho16
    exact QW.meet (fun a ha => ⟨ha.ag, hst.keep [] rfl⟩)
   have ho16 := ite_f ho16 hc17
   refine pu 7 [(4, .bool false)] (OW.nil rfl ?_)
   obtain rfl := inj ho16
   exact QW.meet (fun a ha => ⟨ha.ag, hst.keep [] rfl⟩)
  rintro a w1 ⟨ha, hst⟩
  refine CW.go ?_ ha
  refine CW.ret (QW.block_ret (QW.then_ret ?_))
  obtain rfl := inj hF
  refine QW.ret1 rfl rfl ?_
  exact ⟨rfl, hst.keep [] rfl⟩
 refine rg ?_
 refine pu 2 [(19, .bool (p1.Kind == 2))] (nx ?_)
 refine br ((p1.Kind == 2)) hF (fun hF hc22 => ?_) (fun hF hc22 => ?_)
 ·refine rg ?_
  refine OW.ldN (cs := [I p0.Kind, U p0.Span.Lo, U p0.Span.Hi, I p0.Map]) rfl rfl rfl rfl (by kernel_rfl) (by kernel_rfl) (hst.blkN 0 rfl 0 4) ?_
  refine OW.ldN (cs := [I p1.Kind, U p1.Span.Lo, U p1.Span.Hi, I p1.Map]) rfl rfl rfl rfl (by kernel_rfl) (by kernel_rfl) (hst.blkN 1 rfl 0 4) ?_
  refine OW.op (v := .bool ((p0.Kind == p1.Kind) && (((p0.Span.Lo == p1.Span.Lo) && ((p0.Span.Hi == p1.Span.Hi) && true)) && ((p0.Map == p1.Map) && true)))) rfl rfl rfl rfl (fun a ha => seq_run rfl rfl rfl (by kernel_rfl) (by kernel_rfl) a _ ha) ?_
  refine pu 1 [(4, .bool ((p0.Kind == p1.Kind) && (((p0.Span.Lo == p1.Span.Lo) && ((p0.Span.Hi == p1.Span.Hi) && true)) && ((p0.Map == p1.Map) && true))))] (nx (CW.ret (QW.block_ret (QW.then_ret ?_))))
  obtain rfl := inj hF
  refine QW.ret1 rfl rfl ?_
  exact ⟨rfl, hst.keep [] rfl⟩
 refine CW.skip (QW.block_normal (QW.next (rg ?_)))
 refine pu 1 [(4, .bool true)] (nx (CW.ret ?_))
 obtain rfl := inj hF
 refine QW.ret1 rfl rfl ?_
 exact ⟨rfl, hst.keep [] rfl⟩
theorem sigs_of_ok (w : World) (p0 : Int) (r : sigs_sig × Bool) (hF : sigs_of p0 = some r)
    (hst : St w (fp []) w []) (hT1 : Rd w (fp []) (.slice (some ⟨1, 0, none⟩) 7 7) enc_sigs_sig 5 tab_g1) :
    Calls Tryz.prog 144 [I p0].toArray w (fun e w' => e = .returned (.tuple #[.agg [.string r.1.name, .string r.1.wants, U r.1.most, I r.1.asks, .bool r.1.isAsked].toArray, .bool r.2]) ∧ St w (fp []) w' []) := by
 refine CW.start (N := 14) Tryz.func144 rfl rfl rfl (rg ?_)
 refine OW.alloc hst rfl rfl rfl [.string ByteArray.empty, .string ByteArray.empty, U 0, I 0, .bool false] (by kernel_rfl) ?_
 intro b3 w4 hst
 refine pu 1 [] (nx (CW.seq (CW.seq ?_)))
 refine CW.cutK (fun a w1 => Rep 14 [(0, I p0), (2, Pt b3), (9, .bool (decide (p0 < 0) || decide (p0 ≥ 7)))] a ∧ St w (fp []) w1 [blkI b3 231 [.string ByteArray.empty, .string ByteArray.empty, U 0, I 0, .bool false]]) ?_ ?_
 ·refine CW.region ?_
  refine pu 3 [(6, .bool (decide (p0 < 0)))] ?_
  refine OW.split 6 rfl (fun hc5 => ?_) (fun hc5 => ?_)
  ·refine pu 3 [(9, .bool true)] (OW.nil rfl ?_)
   refine QW.say 9 (v := .bool (decide (p0 < 0) || decide (p0 ≥ 7))) rfl (by first | (rw [hc5]; done) | (rw [hc5]; rfl) | simp [hc5]) ?_
   exact QW.meet (fun a ha => ⟨ha.ag, hst.keep [0] rfl⟩)
  refine pu 3 [(9, .bool (decide (p0 ≥ 7)))] (OW.nil rfl ?_)
  refine QW.say 9 (v := .bool (decide (p0 < 0) || decide (p0 ≥ 7))) rfl (by first | (rw [hc5]; done) | (rw [hc5]; rfl) | simp [hc5]) ?_
  exact QW.meet (fun a ha => ⟨ha.ag, hst.keep [0] rfl⟩)
 rintro a w1 ⟨ha, hst⟩
 refine CW.go ?_ ha
 refine br ((decide (p0 < 0) || decide (p0 ≥ 7))) hF (fun hF hc6 => ?_) (fun hF hc6 => ?_)
 ·refine rg ?_
  refine pu 1 [(10, .agg [.string ByteArray.empty, .string ByteArray.empty, U 0, I 0, .bool false].toArray)] ?_
  refine OW.stB hst 0 rfl rfl rfl rfl rfl (by kernel_rfl) rfl rfl [.string ByteArray.empty, .string ByteArray.empty, U 0, I 0, .bool false] rfl ?_
  intro w8 hst
  refine pu 1 [(3, .bool false)] (nx (CW.ret (QW.then_ret ?_)))
  obtain rfl := inj hF
  refine QW.ret_ct rfl rfl (run_loadN (cs := [.string ByteArray.empty, .string ByteArray.empty, U 0, I 0, .bool false]) (by kernel_rfl) (by kernel_rfl) (hst.blkN 0 rfl 0 5)) rfl ?_
  exact ⟨rfl, hst.keep [] rfl⟩
 refine CW.skip (QW.next (rg ?_))
 refine pu 1 [(11, I p0)] ?_
 obtain ⟨x12, hx13, hF⟩ := bs hF
 refine OW.op (v := .pointer (some ⟨1, 0 + Int.toNat p0 * 5, none⟩)) rfl rfl rfl rfl (fun a ha => aidx_run (n := tab_g1.length) 231 5 rfl rfl rfl (idx_some hx13).1 (idx_some hx13).2.1 (by kernel_rfl) (by kernel_rfl) a _ ha) ?_
 refine OW.ldN (cs := enc_sigs_sig x12) rfl rfl rfl rfl (by kernel_rfl) (by kernel_rfl) (hT1.cellv hst hx13 (show Value.slice (some ⟨1, 0, none⟩) 7 7 = .slice (some ⟨1, 0, none⟩) tab_g1.length 7 from rfl)) ?_
 refine OW.stB hst 0 rfl rfl rfl rfl rfl (by kernel_rfl) rfl rfl [.string x12.name, .string x12.wants, U x12.most, I x12.asks, .bool x12.isAsked] rfl ?_
 intro w14 hst
 refine pu 1 [(3, .bool true)] (nx (CW.ret ?_))
 obtain rfl := inj hF
 refine QW.ret_ct rfl rfl (run_loadN (cs := [.string x12.name, .string x12.wants, U x12.most, I x12.asks, .bool x12.isAsked]) (by kernel_rfl) (by kernel_rfl) (hst.blkN 0 rfl 0 5)) rfl ?_
 exact ⟨rfl, hst.keep [] rfl⟩
theorem sigs_number_ok (w : World) (p0 : Int) (r : api_Type) (hF : sigs_number p0 = some r)
    (hst : St w (fp []) w []) :
    Calls Tryz.prog 145 [U p0].toArray w (fun e w' => e = .returned (.agg [I r.Kind, U r.Span.Lo, U r.Span.Hi, I r.Map].toArray) ∧ St w (fp []) w' []) := by
 refine CW.start (N := 6) Tryz.func145 rfl rfl rfl (rg ?_)
 refine OW.alloc hst rfl rfl rfl [I 0, U 0, U 0, I 0] (by kernel_rfl) ?_
 intro b3 w4 hst
 refine nx (rg ?_)
 refine pu 3 [(5, .agg [I 1, U 0, U p0, I 0].toArray)] ?_
 refine OW.stB hst 0 rfl rfl rfl rfl rfl (by kernel_rfl) rfl rfl [I 1, U 0, U p0, I 0] rfl ?_
 intro w6 hst
 refine nx (CW.ret ?_)
 obtain rfl := inj hF
 refine QW.ret_c rfl rfl (run_loadN (cs := [I 1, U 0, U p0, I 0]) (by kernel_rfl) (by kernel_rfl) (hst.blkN 0 rfl 0 4)) ?_
 exact ⟨rfl, hst.keep [] rfl⟩
theorem sigs_Args_ok (w : World) (fu : Nat) (p0 : Int) (r : (List api_Type)) (hF : sigs_Args fu p0 = some r)
    (hst : St w (fp []) w []) (hT1 : Rd w (fp []) (.slice (some ⟨1, 0, none⟩) 7 7) enc_sigs_sig 5 tab_g1) :
    Calls Tryz.prog 110 [I p0].toArray w (fun e w' => ∃ (x0 : Value), e = .returned (x0) ∧ St w (fp []) w' [rowI x0 154 enc_api_Type 4 r]) := by
 refine CW.start (N := 37) Tryz.func110 rfl rfl rfl (rg ?_)
 refine pu 1 [] (nx (rg ?_))
 refine pu 1 [(9, I p0)] ?_
 obtain ⟨r8, hr9, hF⟩ := bs hF
 refine OW.fn rfl rfl rfl rfl (by kernel_rfl) (sigs_of_ok _ p0 r8 hr9 (hst.part [] rfl) (hT1.give hst [])) ?_
 rintro e w10 ⟨rfl, hst11⟩
 refine ⟨_, rfl, ?_⟩
 have hst := hst.join (idx := []) (rest := []) rfl hst11
 refine pu 3 [(11, .agg [.string r8.1.name, .string r8.1.wants, U r8.1.most, I r8.1.asks, .bool r8.1.isAsked].toArray), (12, .bool r8.2)] ?_
 refine OW.alloc hst rfl rfl rfl [.string ByteArray.empty, .string ByteArray.empty, U 0, I 0, .bool false] (by kernel_rfl) ?_
 intro b12 w13 hst
 refine OW.stB hst 0 rfl rfl rfl rfl rfl (by kernel_rfl) rfl rfl [.string r8.1.name, .string r8.1.wants, U r8.1.most, I r8.1.asks, .bool r8.1.isAsked] rfl ?_
 intro w14 hst
 refine pu 1 [] (nx (rg ?_))
 refine pu 1 [(5, .slice none 0 0)] (nx (CW.seq (rg ?_)))
 refine pu 1 [(13, .pointer (some ⟨b12, 1, none⟩))] ?_
 refine OW.ld rfl rfl rfl rfl (by kernel_rfl) (hst.blk 0 rfl rfl) ?_
 refine OW.srange (s := r8.1.wants) hst rfl rfl rfl rfl (by kernel_rfl) ?_
 intro it17 w18 hst
 refine nx ?_
 obtain ⟨o264, ho265, hF⟩ := bs hF
 refine CW.cutK (fun a w1 => ∃ (v263 : Value), Rep 37 [(5, v263)] a ∧ St w (fp []) w1 [rowI v263 154 enc_api_Type 4 o264]) ?_ ?_
 ·refine CW.block ?_
  have hst := hst.nilRow api_Type 154 enc_api_Type 4
  refine CW.loop (fun n a w1 => ∃ (s427 : (List api_Type) × Nat) (v428 : Value), Rep 37 [(5, v428), (15, Pt it17)] a ∧ St w (fp []) w1 [rowI v428 154 enc_api_Type 4 s427.1, sitI it17 r8.1.wants s427.2] ∧ loop (sigs_Args_l1 r8) n s427 = some o264) fu (fun a ha => ⟨(([] : List api_Type), 0), (.slice none 0 0), ha.ag, hst.keep [2, 1] rfl, ho265⟩) ?_
  rintro n425 a w1 ⟨s427, v428, ha, hst, hl426⟩
  rcases n425 with _ | n425
  ·exact (loop_zero hl426).elim
  refine CW.go ?_ ha
  obtain ⟨l429, a430, c431, rfl⟩ := hst.len 0 rfl
  refine rg ?_
  refine OW.snext hst 1 rfl rfl rfl rfl rfl ?_ ?_
  ·intro hp434 w435 hst
   have hl426 := ite_t hl426 hp434
   refine pu 1 [(17, .bool true)] (nx (CW.seq (CW.cond_t rfl rfl (CW.skip (QW.next (CW.block (rg ?_)))))))
   refine pu 2 [(7, .int .i32 (runeAt r8.1.wants s427.2))] (nx (rg ?_))
   refine pu 1 [(19, .int .i32 (runeAt r8.1.wants s427.2))] (nx (CW.block (rg ?_)))
   refine pu 2 [(24, .bool ((runeAt r8.1.wants s427.2) == 104))] (nx ?_)
   refine br (((runeAt r8.1.wants s427.2) == 104)) hl426 (fun hl426 hc436 => ?_) (fun hl426 hc436 => ?_)
   ·refine CW.region ?_
    refine pu 2 [(26, .slice a430 (s427.1).length c431), (27, .agg [I 2, U 0, U 0, I 0].toArray)] ?_
    refine OW.row (α := api_Type) (e := 154) (enc := enc_api_Type) (sz := 4) hst rfl rfl rfl [(api_Type.mk 2 (api_Span.mk 0 0) 0)] rfl (fun _ => rfl) rfl rfl (fun _ => by kernel_rfl) ?_
    intro g446 w447 hst
    obtain ⟨u448, hr449, hl426⟩ := bs hl426
    refine OW.app hst 0 rfl (fun _ => rfl) (fun _ => rfl) rfl rfl rfl rfl rfl rfl (by kernel_rfl) el154 (hst.rd 2 rfl (fun _ => rfl) [] rfl (hst.len 2 rfl).1) (room_le hr449) ?_
    intro v450 w451 hst
    obtain ⟨l452, a453, c454, rfl⟩ := hst.len 0 rfl
    refine pu 1 [(5, .slice a453 ((s427.1 ++ [(api_Type.mk 2 (api_Span.mk 0 0) 0)])).length c454)] (OW.nil rfl (QW.block_normal (QW.block_normal ?_)))
    exact QW.meet (fun a ha => ⟨n425, Nat.lt_succ_self _, ((s427.1 ++ [(api_Type.mk 2 (api_Span.mk 0 0) 0)]), (runeEnd r8.1.wants s427.2)), (.slice a453 ((s427.1 ++ [(api_Type.mk 2 (api_Span.mk 0 0) 0)])).length c454), ha.ag, hst.keep [0, 1] rfl, hl426⟩)
   refine rg ?_
   refine pu 2 [(30, .bool ((runeAt r8.1.wants s427.2) == 115))] (nx ?_)
   refine br (((runeAt r8.1.wants s427.2) == 115)) hl426 (fun hl426 hc456 => ?_) (fun hl426 hc456 => ?_)
   ·refine CW.region ?_
    refine pu 1 [(32, .slice a430 (s427.1).length c431)] ?_
    obtain ⟨r470, hr471, hl426⟩ := bs hl426
    refine OW.fn rfl rfl rfl rfl (by kernel_rfl) (sigs_number_ok _ 15 r470 hr471 (hst.part [] rfl)) ?_
    rintro e w472 ⟨rfl, hst473⟩
    refine ⟨_, rfl, ?_⟩
    have hst := hst.join (idx := []) (rest := [0, 1]) rfl hst473
    refine OW.row (α := api_Type) (e := 154) (enc := enc_api_Type) (sz := 4) hst rfl rfl rfl [r470] rfl (fun _ => rfl) rfl rfl (fun _ => by kernel_rfl) ?_
    intro g474 w475 hst
    obtain ⟨u476, hr477, hl426⟩ := bs hl426
    refine OW.app hst 0 rfl (fun _ => rfl) (fun _ => rfl) rfl rfl rfl rfl rfl rfl (by kernel_rfl) el154 (hst.rd 2 rfl (fun _ => rfl) [] rfl (hst.len 2 rfl).1) (room_le hr477) ?_
    intro v478 w479 hst
    obtain ⟨l480, a481, c482, rfl⟩ := hst.len 0 rfl
    refine pu 1 [(5, .slice a481 ((s427.1 ++ [r470])).length c482)] (OW.nil rfl (QW.block_normal (QW.block_normal ?_)))
    exact QW.meet (fun a ha => ⟨n425, Nat.lt_succ_self _, ((s427.1 ++ [r470]), (runeEnd r8.1.wants s427.2)), (.slice a481 ((s427.1 ++ [r470])).length c482), ha.ag, hst.keep [0, 1] rfl, hl426⟩)
   refine CW.region ?_
   refine pu 1 [(20, .slice a430 (s427.1).length c431)] ?_
   obtain ⟨r497, hr498, hl426⟩ := bs hl426
   refine OW.fn rfl rfl rfl rfl (by kernel_rfl) (sigs_number_ok _ 18446744073709551615 r497 hr498 (hst.part [] rfl)) ?_
   rintro e w499 ⟨rfl, hst500⟩
   refine ⟨_, rfl, ?_⟩
   have hst := hst.join (idx := []) (rest := [0, 1]) rfl hst500
   refine OW.row (α := api_Type) (e := 154) (enc := enc_api_Type) (sz := 4) hst rfl rfl rfl [r497] rfl (fun _ => rfl) rfl rfl (fun _ => by kernel_rfl) ?_
   intro g501 w502 hst
   obtain ⟨u503, hr504, hl426⟩ := bs hl426
   refine OW.app hst 0 rfl (fun _ => rfl) (fun _ => rfl) rfl rfl rfl rfl rfl rfl (by kernel_rfl) el154 (hst.rd 2 rfl (fun _ => rfl) [] rfl (hst.len 2 rfl).1) (room_le hr504) ?_
   intro v505 w506 hst
   obtain ⟨l507, a508, c509, rfl⟩ := hst.len 0 rfl
   refine pu 1 [(5, .slice a508 ((s427.1 ++ [r497])).length c509)] (OW.nil rfl (QW.block_normal (QW.block_normal ?_)))
   exact QW.meet (fun a ha => ⟨n425, Nat.lt_succ_self _, ((s427.1 ++ [r497]), (runeEnd r8.1.wants s427.2)), (.slice a508 ((s427.1 ++ [r497])).length c509), ha.ag, hst.keep [0, 1] rfl, hl426⟩)
  intro hp434
  have hl426 := ite_f hl426 hp434
  refine pu 1 [(17, .bool false)] (nx (CW.seq (CW.cond_f rfl rfl ?_)))
  refine CW.exit (QW.then_exit (QW.then_exit ?_))
  refine QW.block_here ?_
  obtain rfl := inj hl426
  exact QW.meet (fun a ha => ⟨(.slice a430 (s427.1).length c431), ha.ag, hst.keep [0] rfl⟩)
 rintro a w1 ⟨v263, ha, hst⟩
 refine CW.go ?_ ha
 obtain ⟨l512, a513, c514, rfl⟩ := hst.len 0 rfl
 refine rg ?_
 refine pu 2 [(2, .slice a513 (o264).length c514)] (nx (CW.ret ?_))
 obtain rfl := inj hF
 refine QW.ret1 rfl rfl ?_
 exact ⟨(.slice a513 (o264).length c514), rfl, hst.keep [0] rfl⟩
theorem sigs_Check_ok (w : World) (fu : Nat) (p0 : Int) (v1 : Value) (p1 : List api_Type) (r : Int) (hF : sigs_Check fu p0 p1 = some r)
    (hst : St w (fp []) w []) (h1 : Rd w (fp []) v1 enc_api_Type 4 p1) (hT1 : Rd w (fp []) (.slice (some ⟨1, 0, none⟩) 7 7) enc_sigs_sig 5 tab_g1) :
    Calls Tryz.prog 109 [I p0, v1].toArray w (fun e w' => e = .returned (I r) ∧ St w (fp []) w' []) := by
 refine CW.start (N := 56) Tryz.func109 rfl rfl rfl ?_
 obtain ⟨l1, a2, c3, rfl⟩ := h1.len
 refine rg ?_
 refine pu 1 [] (nx (CW.seq (rg ?_)))
 refine pu 1 [(11, I p0)] ?_
 obtain ⟨r11, hr12, hF⟩ := bs hF
 refine OW.fn rfl rfl rfl rfl (by kernel_rfl) (sigs_of_ok _ p0 r11 hr12 (hst.part [] rfl) (hT1.give hst [])) ?_
 rintro e w13 ⟨rfl, hst14⟩
 refine ⟨_, rfl, ?_⟩
 have hst := hst.join (idx := []) (rest := []) rfl hst14
 refine pu 3 [(13, .agg [.string r11.1.name, .string r11.1.wants, U r11.1.most, I r11.1.asks, .bool r11.1.isAsked].toArray), (14, .bool r11.2)] ?_
 refine OW.alloc hst rfl rfl rfl [.string ByteArray.empty, .string ByteArray.empty, U 0, I 0, .bool false] (by kernel_rfl) ?_
 intro b15 w16 hst
 refine OW.stB hst 0 rfl rfl rfl rfl rfl (by kernel_rfl) rfl rfl [.string r11.1.name, .string r11.1.wants, U r11.1.most, I r11.1.asks, .bool r11.1.isAsked] rfl ?_
 intro w17 hst
 refine pu 1 [(6, .bool r11.2)] (nx (rg ?_))
 refine pu 2 [(16, .bool (!r11.2))] (nx ?_)
 refine br ((!r11.2)) hF (fun hF hc18 => ?_) (fun hF hc18 => ?_)
 ·refine rg ?_
  refine pu 1 [(4, I 34)] (nx (CW.ret (QW.then_ret ?_)))
  obtain rfl := inj hF
  refine QW.ret1 rfl rfl ?_
  exact ⟨rfl, hst.keep [] rfl⟩
 refine CW.skip (QW.next (rg ?_))
 refine pu 1 [(17, I p0)] ?_
 obtain ⟨r27, hr28, hF⟩ := bs hF
 refine OW.fn rfl rfl rfl rfl (by kernel_rfl) (sigs_Args_ok _ fu p0 r27 hr28 (hst.part [] rfl) (hT1.give hst [])) ?_
 rintro e w29 ⟨v31, rfl, hst30⟩
 refine ⟨_, rfl, ?_⟩
 have hst := hst.join (idx := []) (rest := [0]) rfl hst30
 obtain ⟨l32, a33, c34, rfl⟩ := hst.len 0 rfl
 refine pu 1 [(7, .slice a33 (r27).length c34)] (nx (CW.seq (rg ?_)))
 refine pu 5 [(23, .bool (((r27).length : Int) != ((p1).length : Int)))] (nx ?_)
 refine br ((((r27).length : Int) != ((p1).length : Int))) hF (fun hF hc35 => ?_) (fun hF hc35 => ?_)
 ·refine rg ?_
  refine pu 1 [(4, I 2)] (nx (CW.ret (QW.then_ret ?_)))
  obtain rfl := inj hF
  refine QW.ret1 rfl rfl ?_
  exact ⟨rfl, hst.keep [] rfl⟩
 refine CW.skip (QW.next (CW.seq (rg ?_)))
 refine pu 3 [(24, .slice a33 (r27).length c34), (25, I ((r27).length : Int)), (26, I 0)] (nx ?_)
 obtain ⟨o231, ho232, hF⟩ := bs hF
 refine CW.cutK (fun a w1 => ∃ (t233 : Unit), o231 = .inl t233 ∧ Rep 56 [] a ∧ St w (fp []) w1 []) ?_ ?_
 ·refine CW.block ?_
  refine CW.loop (fun n a w1 => ∃ (i364 : Nat) (s363 : Unit), i364 + n = (r27).length ∧ Rep 56 [(1, .slice a2 (p1).length c3), (24, .slice a33 (r27).length c34), (25, I ((r27).length : Int)), (26, I (i364 : Int))] a ∧ St w (fp []) w1 [rowI (.slice a33 (r27).length c34) 154 enc_api_Type 4 r27] ∧ forN (sigs_Check_l1 p1 r27) (fun (s363 : Unit) => (.inl ())) n i364 s363 = some o231) (r27).length (fun a ha => ⟨0, (), Nat.zero_add _, ha.ag, hst.keep [0] rfl, ho232⟩) ?_
  rintro n361 a w1 ⟨i364, s363, hi365, ha, hst, hl362⟩
  refine CW.go ?_ ha
  refine rg ?_
  refine pu 1 [(27, .bool (decide ((i364 : Int) < ((r27).length : Int))))] (nx (CW.seq ?_))
  rcases bft (decide ((i364 : Int) < ((r27).length : Int))) with hc366 | hc366
  ·rcases n361 with _ | n361
   ·exact (cnt0 hi365 hc366).elim
   refine CW.cond_t rfl hc366 (CW.skip (QW.next (CW.seq (CW.block (rg ?_)))))
   refine pu 1 [(28, I (i364 : Int))] ?_
   obtain ⟨x376, hx377, hl362⟩ := bs hl362
   obtain ⟨g379, o380, c381, hv378⟩ := hst.rowv 0 rfl hx377
   refine OW.idx 154 4 rfl rfl rfl rfl hv378 rfl (idx_some hx377).1 (idx_some hx377).2.1 (by kernel_rfl) (by kernel_rfl) ?_
   refine OW.ldN (cs := enc_api_Type x376) rfl rfl rfl rfl (by kernel_rfl) (by kernel_rfl) (hst.rowc 0 rfl (fun _ => rfl) hx377 hv378) ?_
   refine OW.alloc hst rfl rfl rfl [I 0, U 0, U 0, I 0] (by kernel_rfl) ?_
   intro b382 w383 hst
   refine pu 1 [(8, I (i364 : Int))] ?_
   refine OW.stB hst 1 rfl rfl rfl rfl rfl (by kernel_rfl) rfl rfl [I x376.Kind, U x376.Span.Lo, U x376.Span.Hi, I x376.Map] rfl ?_
   intro w384 hst
   refine nx (CW.block (CW.seq ?_))
   refine CW.still (by kernel_rfl) (by kernel_rfl) ?_
   intro w393 hch394
   have hst := hst.same hch394
   refine OS.pure 1 [(32, Pt b382)] rfl (by kernel_rfl) ?_
   refine OS.ld rfl rfl rfl rfl rfl (by kernel_rfl) (hst.blk 1 rfl rfl) ?_
   refine OS.pure 2 [(34, .slice a2 (p1).length c3), (35, I (i364 : Int))] rfl (by kernel_rfl) ?_
   obtain ⟨x395, hx396, hl362⟩ := bs hl362
   obtain ⟨g398, o399, c400, hv397⟩ := h1.formv (fun _ => ⟨_, rfl⟩) hx396
   refine OS.idx 154 4 rfl rfl rfl rfl rfl hv397 rfl (idx_some hx396).1 (idx_some hx396).2.1 (by kernel_rfl) (by kernel_rfl) ?_
   refine OS.pure 1 [(37, .pointer (some ⟨g398, o399 + Int.toNat (i364 : Int) * 4, none⟩))] rfl (by kernel_rfl) ?_
   refine OS.ld rfl rfl rfl rfl rfl (by kernel_rfl) (h1.cellv hst hx396 hv397 0 _ rfl) ?_
   refine OS.pure 2 [(31, .bool (x376.Kind != x395.Kind))] rfl (by kernel_rfl) ?_
   refine OS.fin rfl (QW.next ?_)
   refine br ((x376.Kind != x395.Kind)) hl362 (fun hl362 hc401 => ?_) (fun hl362 hc401 => ?_)
   ·refine rg ?_
    refine pu 1 [(4, I 33)] (nx (CW.ret (QW.block_ret (QW.block_ret (QW.then_ret (QW.then_ret (QW.block_ret (QW.then_ret ?_))))))))
    obtain rfl := inj hl362
    obtain rfl := inj hF
    refine QW.ret1 rfl rfl ?_
    exact ⟨rfl, hst.keep [] rfl⟩
   refine CW.seq ?_
   obtain ⟨o415, ho416, hl362⟩ := bs hl362
   refine CW.cutK (fun a w1 => Rep 56 [(1, .slice a2 (p1).length c3), (24, .slice a33 (r27).length c34), (25, I ((r27).length : Int)), (26, I (i364 : Int)), (40, .bool o415)] a ∧ St w (fp []) w1 [rowI (.slice a33 (r27).length c34) 154 enc_api_Type 4 r27]) ?_ ?_
   ·refine CW.tail 11 (by kernel_rfl) (by kernel_rfl) ?_
    intro w417 hch418
    have hst := hst.same hch418
    refine OS.pure 1 [(41, Pt b382)] rfl (by kernel_rfl) ?_
    refine OS.ld rfl rfl rfl rfl rfl (by kernel_rfl) (hst.blk 1 rfl rfl) ?_
    refine OS.pure 2 [(44, .bool (x376.Kind == 1))] rfl (by kernel_rfl) ?_
    refine OS.split 44 rfl (fun hc419 => ?_) (fun hc419 => ?_)
    ·have ho416 := ite_t ho416 hc419
     refine OS.pure 2 [(45, .slice a2 (p1).length c3), (46, I (i364 : Int))] rfl (by kernel_rfl) ?_
     obtain ⟨g421, o422, c423, hv420⟩ := h1.formv (fun _ => ⟨_, rfl⟩) hx396
     refine OS.idx 154 4 rfl rfl rfl rfl rfl hv420 rfl (idx_some hx396).1 (idx_some hx396).2.1 (by kernel_rfl) (by kernel_rfl) ?_
     refine OS.pure 1 [(48, .pointer (some ⟨g421, o422 + Int.toNat (i364 : Int) * 4 + 1, none⟩))] rfl (by kernel_rfl) ?_
     refine OS.ldN (cs := [U x395.Span.Lo, U x395.Span.Hi]) rfl rfl rfl rfl rfl (by kernel_rfl) (by kernel_rfl) (elN (h1.cellv hst hx396 hv420) 1 2) ?_
     refine OS.pure 1 [(50, .pointer (some ⟨b382, 1, none⟩))] rfl (by kernel_rfl) ?_
     refine OS.ldN (cs := [U x376.Span.Lo, U x376.Span.Hi]) rfl rfl rfl rfl rfl (by kernel_rfl) (by kernel_rfl) (hst.blkN 1 rfl 1 2) ?_
     refine OS.on ?_
     obtain ⟨r424, hr425, ho416⟩ := bs ho416
     refine OW.fn rfl rfl rfl rfl (by kernel_rfl) (span_Within_ok _ x395.Span x376.Span r424 hr425 (hst.part [] rfl)) ?_
     rintro e w426 ⟨rfl, hst427⟩
     refine ⟨_, rfl, ?_⟩
     have hst := hst.join (idx := []) (rest := [0, 1]) rfl hst427
     refine pu 3 [(40, .bool (!r424))] (OW.nil rfl ?_)
     obtain rfl := inj ho416
     exact QW.meet (fun a ha => ⟨ha.ag, hst.keep [0] rfl⟩)
    have ho416 := ite_f ho416 hc419
    refine OS.pure 7 [(49, undef), (51, undef)] rfl (by kernel_rfl) ?_
    refine OS.on ?_
    refine pu 4 [(40, .bool false)] (OW.nil rfl ?_)
    obtain rfl := inj ho416
    exact QW.meet (fun a ha => ⟨ha.ag, hst.keep [0] rfl⟩)
   rintro a w1 ⟨ha, hst⟩
   refine CW.go ?_ ha
   refine br (o415) hl362 (fun hl362 hc428 => ?_) (fun hl362 hc428 => ?_)
   ·refine rg ?_
    refine pu 1 [(4, I 35)] (nx (CW.ret (QW.block_ret (QW.block_ret (QW.then_ret (QW.then_ret (QW.block_ret (QW.then_ret ?_))))))))
    obtain rfl := inj hl362
    obtain rfl := inj hF
    refine QW.ret1 rfl rfl ?_
    exact ⟨rfl, hst.keep [] rfl⟩
   refine CW.skip (QW.block_normal (QW.block_normal (QW.next (CW.region ?_))))
   refine pu 2 [(26, I (w64 ((i364 : Int) + 1)))] (OW.nil rfl ?_)
   refine QW.say 26 rfl (congrArg (Value.int .i64) (w64_cnt hc366 l32)) ?_
   exact QW.meet (fun a ha => ⟨n361, Nat.lt_succ_self _, i364 + 1, (), cnt_next hi365, ha.ag, hst.keep [0] rfl, hl362⟩)
  rcases n361 with _ | n361
  ·refine CW.cond_f rfl hc366 ?_
   refine CW.exit (QW.then_exit (QW.then_exit ?_))
   refine QW.block_here ?_
   obtain rfl := inj hl362
   exact QW.meet (fun a ha => ⟨(), rfl, ha.ag, hst.keep [] rfl⟩)
  exact (cnt1 hi365 hc366).elim
 rintro a w1 ⟨t233, rfl, ha, hst⟩
 refine CW.go ?_ ha
 refine rg ?_
 refine pu 1 [(4, I 0)] (nx (CW.ret ?_))
 obtain rfl := inj hF
 refine QW.ret1 rfl rfl ?_
 exact ⟨rfl, hst.keep [] rfl⟩
theorem sigs_Result_ok (w : World) (p0 : Int) (r : api_Type × Bool) (hF : sigs_Result p0 = some r)
    (hst : St w (fp []) w []) (hT1 : Rd w (fp []) (.slice (some ⟨1, 0, none⟩) 7 7) enc_sigs_sig 5 tab_g1) :
    Calls Tryz.prog 111 [I p0].toArray w (fun e w' => e = .returned (.tuple #[.agg [I r.1.Kind, U r.1.Span.Lo, U r.1.Span.Hi, I r.1.Map].toArray, .bool r.2]) ∧ St w (fp []) w' []) := by
 refine CW.start (N := 17) Tryz.func111 rfl rfl rfl (rg ?_)
 refine OW.alloc hst rfl rfl rfl [I 0, U 0, U 0, I 0] (by kernel_rfl) ?_
 intro b3 w4 hst
 refine pu 1 [] (nx (rg ?_))
 refine pu 1 [(7, I p0)] ?_
 obtain ⟨r12, hr13, hF⟩ := bs hF
 refine OW.fn rfl rfl rfl rfl (by kernel_rfl) (sigs_of_ok _ p0 r12 hr13 (hst.part [] rfl) (hT1.give hst [])) ?_
 rintro e w14 ⟨rfl, hst15⟩
 refine ⟨_, rfl, ?_⟩
 have hst := hst.join (idx := []) (rest := [0]) rfl hst15
 refine pu 3 [(9, .agg [.string r12.1.name, .string r12.1.wants, U r12.1.most, I r12.1.asks, .bool r12.1.isAsked].toArray), (10, .bool r12.2)] ?_
 refine OW.alloc hst rfl rfl rfl [.string ByteArray.empty, .string ByteArray.empty, U 0, I 0, .bool false] (by kernel_rfl) ?_
 intro b16 w17 hst
 refine OW.stB hst 1 rfl rfl rfl rfl rfl (by kernel_rfl) rfl rfl [.string r12.1.name, .string r12.1.wants, U r12.1.most, I r12.1.asks, .bool r12.1.isAsked] rfl ?_
 intro w18 hst
 refine pu 1 [(5, .bool r12.2)] (nx (CW.seq (rg ?_)))
 refine pu 2 [(12, .bool (!r12.2))] (nx ?_)
 refine br ((!r12.2)) hF (fun hF hc19 => ?_) (fun hF hc19 => ?_)
 ·refine rg ?_
  refine pu 1 [(13, .agg [I 0, U 0, U 0, I 0].toArray)] ?_
  refine OW.stB hst 0 rfl rfl rfl rfl rfl (by kernel_rfl) rfl rfl [I 0, U 0, U 0, I 0] rfl ?_
  intro w21 hst
  refine pu 1 [(3, .bool false)] (nx (CW.ret (QW.then_ret ?_)))
  obtain rfl := inj hF
  refine QW.ret_ct rfl rfl (run_loadN (cs := [I 0, U 0, U 0, I 0]) (by kernel_rfl) (by kernel_rfl) (hst.blkN 0 rfl 0 4)) rfl ?_
  exact ⟨rfl, hst.keep [] rfl⟩
 refine CW.skip (QW.next (rg ?_))
 refine pu 1 [(14, .pointer (some ⟨b16, 2, none⟩))] ?_
 refine OW.ld rfl rfl rfl rfl (by kernel_rfl) (hst.blk 1 rfl rfl) ?_
 obtain ⟨r27, hr28, hF⟩ := bs hF
 refine OW.fn rfl rfl rfl rfl (by kernel_rfl) (sigs_number_ok _ r12.1.most r27 hr28 (hst.part [] rfl)) ?_
 rintro e w29 ⟨rfl, hst30⟩
 refine ⟨_, rfl, ?_⟩
 have hst := hst.join (idx := []) (rest := [0, 1]) rfl hst30
 refine OW.stB hst 0 rfl rfl rfl rfl rfl (by kernel_rfl) rfl rfl [I r27.Kind, U r27.Span.Lo, U r27.Span.Hi, I r27.Map] rfl ?_
 intro w31 hst
 refine pu 1 [(3, .bool true)] (nx (CW.ret ?_))
 obtain rfl := inj hF
 refine QW.ret_ct rfl rfl (run_loadN (cs := [I r27.Kind, U r27.Span.Lo, U r27.Span.Hi, I r27.Map]) (by kernel_rfl) (by kernel_rfl) (hst.blkN 0 rfl 0 4)) rfl ?_
 exact ⟨rfl, hst.keep [] rfl⟩
theorem arith_Do_ok (w : World) (p0 : Int) (p1 : Int) (p2 : Int) (r : Int × Bool) (hF : arith_Do p0 p1 p2 = some r)
    (hst : St w (fp []) w []) :
    Calls Tryz.prog 146 [I p0, U p1, U p2].toArray w (fun e w' => e = .returned (.tuple #[U r.1, .bool r.2]) ∧ St w (fp []) w' []) := by
 refine CW.start (N := 64) Tryz.func146 rfl rfl rfl (rg ?_)
 refine pu 2 [] (nx (CW.seq (rg ?_)))
 refine pu 1 [(8, I p0)] (nx (CW.block (rg ?_)))
 refine pu 2 [(9, .bool (p0 == 1))] (nx ?_)
 refine br ((p0 == 1)) hF (fun hF hc1 => ?_) (fun hF hc1 => ?_)
 ·refine rg ?_
  refine pu 5 [(6, U (wu64 (p1 + p2))), (7, .bool true)] (nx (CW.ret (QW.block_ret (QW.then_ret ?_))))
  obtain rfl := inj hF
  refine QW.ret2 rfl rfl rfl ?_
  exact ⟨rfl, hst.keep [] rfl⟩
 refine rg ?_
 refine pu 2 [(14, .bool (p0 == 2))] (nx ?_)
 refine br ((p0 == 2)) hF (fun hF hc2 => ?_) (fun hF hc2 => ?_)
 ·refine rg ?_
  refine pu 5 [(6, U (wu64 (p1 - p2))), (7, .bool true)] (nx (CW.ret (QW.block_ret (QW.then_ret ?_))))
  obtain rfl := inj hF
  refine QW.ret2 rfl rfl rfl ?_
  exact ⟨rfl, hst.keep [] rfl⟩
 refine rg ?_
 refine pu 2 [(19, .bool (p0 == 3))] (nx ?_)
 refine br ((p0 == 3)) hF (fun hF hc3 => ?_) (fun hF hc3 => ?_)
 ·refine rg ?_
  refine pu 5 [(6, U (wu64 (p1 * p2))), (7, .bool true)] (nx (CW.ret (QW.block_ret (QW.then_ret ?_))))
  obtain rfl := inj hF
  refine QW.ret2 rfl rfl rfl ?_
  exact ⟨rfl, hst.keep [] rfl⟩
 refine rg ?_
 refine pu 2 [(24, .bool (p0 == 4))] (nx ?_)
 refine br ((p0 == 4)) hF (fun hF hc4 => ?_) (fun hF hc4 => ?_)
 ·refine CW.seq (rg ?_)
  refine pu 2 [(27, .bool (p2 == 0))] (nx ?_)
  refine br ((p2 == 0)) hF (fun hF hc5 => ?_) (fun hF hc5 => ?_)
  ·refine rg ?_
   refine pu 2 [(6, U 0), (7, .bool true)] (nx (CW.ret (QW.then_ret (QW.block_ret (QW.then_ret ?_)))))
   obtain rfl := inj hF
   refine QW.ret2 rfl rfl rfl ?_
   exact ⟨rfl, hst.keep [] rfl⟩
  refine CW.skip (QW.next (rg ?_))
  refine pu 2 [(28, U p1), (29, U p2)] ?_
  obtain ⟨u8, hz9, hF⟩ := bs hF
  refine OW.quo rfl rfl rfl rfl rfl (nz_ne hz9) ?_
  refine pu 2 [(6, U (wu64 (p1.tdiv p2))), (7, .bool true)] (nx (CW.ret (QW.block_ret (QW.then_ret ?_))))
  obtain rfl := inj hF
  refine QW.ret2 rfl rfl rfl ?_
  exact ⟨rfl, hst.keep [] rfl⟩
 refine rg ?_
 refine pu 2 [(31, .bool (p0 == 5))] (nx ?_)
 refine br ((p0 == 5)) hF (fun hF hc10 => ?_) (fun hF hc10 => ?_)
 ·refine CW.seq (rg ?_)
  refine pu 2 [(34, .bool (p2 == 0))] (nx ?_)
  refine br ((p2 == 0)) hF (fun hF hc11 => ?_) (fun hF hc11 => ?_)
  ·refine rg ?_
   refine pu 3 [(6, U p1), (7, .bool true)] (nx (CW.ret (QW.then_ret (QW.block_ret (QW.then_ret ?_)))))
   obtain rfl := inj hF
   refine QW.ret2 rfl rfl rfl ?_
   exact ⟨rfl, hst.keep [] rfl⟩
  refine CW.skip (QW.next (rg ?_))
  refine pu 2 [(36, U p1), (37, U p2)] ?_
  obtain ⟨u14, hz15, hF⟩ := bs hF
  refine OW.rem rfl rfl rfl rfl rfl (nz_ne hz15) ?_
  refine pu 2 [(6, U (p1.tmod p2)), (7, .bool true)] (nx (CW.ret (QW.block_ret (QW.then_ret ?_))))
  obtain rfl := inj hF
  refine QW.ret2 rfl rfl rfl ?_
  exact ⟨rfl, hst.keep [] rfl⟩
 refine rg ?_
 refine pu 2 [(39, .bool (p0 == 6))] (nx ?_)
 refine br ((p0 == 6)) hF (fun hF hc16 => ?_) (fun hF hc16 => ?_)
 ·refine rg ?_
  refine pu 5 [(6, U (bAnd .u64 p1 p2)), (7, .bool true)] (nx (CW.ret (QW.block_ret (QW.then_ret ?_))))
  obtain rfl := inj hF
  refine QW.ret2 rfl rfl rfl ?_
  exact ⟨rfl, hst.keep [] rfl⟩
 refine rg ?_
 refine pu 2 [(44, .bool (p0 == 7))] (nx ?_)
 refine br ((p0 == 7)) hF (fun hF hc17 => ?_) (fun hF hc17 => ?_)
 ·refine rg ?_
  refine pu 5 [(6, U (bOr .u64 p1 p2)), (7, .bool true)] (nx (CW.ret (QW.block_ret (QW.then_ret ?_))))
  obtain rfl := inj hF
  refine QW.ret2 rfl rfl rfl ?_
  exact ⟨rfl, hst.keep [] rfl⟩
 refine rg ?_
 refine pu 2 [(49, .bool (p0 == 8))] (nx ?_)
 refine br ((p0 == 8)) hF (fun hF hc18 => ?_) (fun hF hc18 => ?_)
 ·refine rg ?_
  refine pu 5 [(6, U (bXor .u64 p1 p2)), (7, .bool true)] (nx (CW.ret (QW.block_ret (QW.then_ret ?_))))
  obtain rfl := inj hF
  refine QW.ret2 rfl rfl rfl ?_
  exact ⟨rfl, hst.keep [] rfl⟩
 refine rg ?_
 refine pu 2 [(54, .bool (p0 == 9))] (nx ?_)
 refine br ((p0 == 9)) hF (fun hF hc19 => ?_) (fun hF hc19 => ?_)
 ·refine rg ?_
  refine pu 2 [(56, U p1), (57, U p2)] ?_
  obtain ⟨u22, hz23, hF⟩ := bs hF
  refine OW.op (v := U (bShl .u64 p1 p2)) rfl rfl rfl rfl (fun a ha => shl_run rfl rfl rfl (nn_ge hz23) a _ ha) ?_
  refine pu 2 [(6, U (bShl .u64 p1 p2)), (7, .bool true)] (nx (CW.ret (QW.block_ret (QW.then_ret ?_))))
  obtain rfl := inj hF
  refine QW.ret2 rfl rfl rfl ?_
  exact ⟨rfl, hst.keep [] rfl⟩
 refine rg ?_
 refine pu 2 [(59, .bool (p0 == 10))] (nx ?_)
 refine br ((p0 == 10)) hF (fun hF hc24 => ?_) (fun hF hc24 => ?_)
 ·refine rg ?_
  refine pu 2 [(61, U p1), (62, U p2)] ?_
  obtain ⟨u27, hz28, hF⟩ := bs hF
  refine OW.op (v := U (bShr .u64 p1 p2)) rfl rfl rfl rfl (fun a ha => shr_run rfl rfl rfl (nn_ge hz28) a _ ha) ?_
  refine pu 2 [(6, U (bShr .u64 p1 p2)), (7, .bool true)] (nx (CW.ret (QW.block_ret (QW.then_ret ?_))))
  obtain rfl := inj hF
  refine QW.ret2 rfl rfl rfl ?_
  exact ⟨rfl, hst.keep [] rfl⟩
 refine CW.skip (QW.block_normal (QW.next (rg ?_)))
 refine pu 2 [(6, U 0), (7, .bool false)] (nx (CW.ret ?_))
 obtain rfl := inj hF
 refine QW.ret2 rfl rfl rfl ?_
 exact ⟨rfl, hst.keep [] rfl⟩
theorem span_single_ok (w : World) (p0 : api_Span) (r : Bool) (hF : span_single p0 = some r)
    (hst : St w (fp []) w []) :
    Calls Tryz.prog 148 [.agg [U p0.Lo, U p0.Hi].toArray].toArray w (fun e w' => e = .returned (.bool r) ∧ St w (fp []) w' []) := by
 refine CW.start (N := 8) Tryz.func148 rfl rfl rfl (rg ?_)
 refine OW.box hst rfl rfl rfl rfl [U p0.Lo, U p0.Hi] rfl ?_
 intro b3 w4 hst
 refine pu 1 [] (nx (rg ?_))
 refine pu 1 [(3, Pt b3)] ?_
 refine OW.ld rfl rfl rfl rfl (by kernel_rfl) (hst.blk 0 rfl rfl) ?_
 refine pu 1 [(5, .pointer (some ⟨b3, 1, none⟩))] ?_
 refine OW.ld rfl rfl rfl rfl (by kernel_rfl) (hst.blk 0 rfl rfl) ?_
 refine pu 2 [(2, .bool (p0.Lo == p0.Hi))] (nx (CW.ret ?_))
 obtain rfl := inj hF
 refine QW.ret1 rfl rfl ?_
 exact ⟨rfl, hst.keep [] rfl⟩
theorem span_sum_ok (w : World) (p0 : api_Span) (p1 : api_Span) (r : api_Span) (hF : span_sum p0 p1 = some r)
    (hst : St w (fp []) w []) :
    Calls Tryz.prog 149 [.agg [U p0.Lo, U p0.Hi].toArray, .agg [U p1.Lo, U p1.Hi].toArray].toArray w (fun e w' => e = .returned (.agg [U r.Lo, U r.Hi].toArray) ∧ St w (fp []) w' []) := by
 refine CW.start (N := 25) Tryz.func149 rfl rfl rfl (rg ?_)
 refine OW.box hst rfl rfl rfl rfl [U p0.Lo, U p0.Hi] rfl ?_
 intro b7 w8 hst
 refine OW.box hst rfl rfl rfl rfl [U p1.Lo, U p1.Hi] rfl ?_
 intro b9 w10 hst
 refine OW.alloc hst rfl rfl rfl [U 0, U 0] (by kernel_rfl) ?_
 intro b11 w12 hst
 refine nx (rg ?_)
 refine pu 1 [(8, .pointer (some ⟨b7, 1, none⟩))] ?_
 refine OW.ld rfl rfl rfl rfl (by kernel_rfl) (hst.blk 0 rfl rfl) ?_
 refine pu 1 [(10, .pointer (some ⟨b9, 1, none⟩))] ?_
 refine OW.ld rfl rfl rfl rfl (by kernel_rfl) (hst.blk 1 rfl rfl) ?_
 obtain ⟨x15, hx16, hF⟩ := bs hF
 refine OW.op (v := .tuple [U x15.1, U x15.2].toArray) rfl rfl rfl rfl (fun a ha => add64_run rfl rfl rfl rfl Tryz.func182 (by kernel_rfl) (by kernel_rfl) (by kernel_rfl) (by kernel_rfl) hx16 a _ ha) ?_
 refine pu 5 [(5, U x15.1), (6, U x15.2)] (nx (CW.seq (rg ?_)))
 refine pu 2 [(16, .bool (decide (x15.2 > 0)))] (nx ?_)
 refine br (decide (x15.2 > 0)) hF (fun hF hc17 => ?_) (fun hF hc17 => ?_)
 ·refine rg ?_
  obtain ⟨r23, hr24, hF⟩ := bs hF
  refine OW.fn rfl rfl rfl rfl (by kernel_rfl) (span_Full_ok _ r23 hr24 (hst.part [] rfl)) ?_
  rintro e w25 ⟨rfl, hst26⟩
  refine ⟨_, rfl, ?_⟩
  have hst := hst.join (idx := []) (rest := [0, 1, 2]) rfl hst26
  refine OW.stB hst 2 rfl rfl rfl rfl rfl (by kernel_rfl) rfl rfl [U r23.Lo, U r23.Hi] rfl ?_
  intro w27 hst
  refine nx (CW.ret (QW.then_ret ?_))
  obtain rfl := inj hF
  refine QW.ret_c rfl rfl (run_loadN (cs := [U r23.Lo, U r23.Hi]) (by kernel_rfl) (by kernel_rfl) (hst.blkN 2 rfl 0 2)) ?_
  exact ⟨rfl, hst.keep [] rfl⟩
 refine CW.skip (QW.next (rg ?_))
 refine pu 1 [(18, Pt b7)] ?_
 refine OW.ld rfl rfl rfl rfl (by kernel_rfl) (hst.blk 0 rfl rfl) ?_
 refine pu 1 [(20, Pt b9)] ?_
 refine OW.ld rfl rfl rfl rfl (by kernel_rfl) (hst.blk 1 rfl rfl) ?_
 refine pu 3 [(24, .agg [U (wu64 (p0.Lo + p1.Lo)), U x15.1].toArray)] ?_
 refine OW.stB hst 2 rfl rfl rfl rfl rfl (by kernel_rfl) rfl rfl [U (wu64 (p0.Lo + p1.Lo)), U x15.1] rfl ?_
 intro w29 hst
 refine nx (CW.ret ?_)
 obtain rfl := inj hF
 refine QW.ret_c rfl rfl (run_loadN (cs := [U (wu64 (p0.Lo + p1.Lo)), U x15.1]) (by kernel_rfl) (by kernel_rfl) (hst.blkN 2 rfl 0 2)) ?_
 exact ⟨rfl, hst.keep [] rfl⟩
theorem bits_Mul64_ok (w : World) (p0 : Int) (p1 : Int) (r : Int × Int) (hF : bits_Mul64 p0 p1 = some r)
    (hst : St w (fp []) w []) :
    Calls Tryz.prog 183 [U p0, U p1].toArray w (fun e w' => e = .returned (.tuple #[U r.1, U r.2]) ∧ St w (fp []) w' []) := by
 refine CW.start (N := 51) Tryz.func183 rfl rfl rfl (rg ?_)
 refine pu 2 [] (nx (rg ?_))
 refine pu 3 [(6, U (bAnd .u64 p0 4294967295))] (nx (rg ?_))
 refine pu 3 [(7, U (bShr .u64 p0 32))] (nx (rg ?_))
 refine pu 3 [(8, U (bAnd .u64 p1 4294967295))] (nx (rg ?_))
 refine pu 3 [(9, U (bShr .u64 p1 32))] (nx (rg ?_))
 refine pu 4 [(10, U (wu64 ((bAnd .u64 p0 4294967295) * (bAnd .u64 p1 4294967295))))] (nx (rg ?_))
 refine pu 7 [(11, U (wu64 ((wu64 ((bShr .u64 p0 32) * (bAnd .u64 p1 4294967295))) + (bShr .u64 (wu64 ((bAnd .u64 p0 4294967295) * (bAnd .u64 p1 4294967295))) 32))))] (nx (rg ?_))
 refine pu 3 [(12, U (bAnd .u64 (wu64 ((wu64 ((bShr .u64 p0 32) * (bAnd .u64 p1 4294967295))) + (bShr .u64 (wu64 ((bAnd .u64 p0 4294967295) * (bAnd .u64 p1 4294967295))) 32))) 4294967295))] (nx (rg ?_))
 refine pu 3 [(13, U (bShr .u64 (wu64 ((wu64 ((bShr .u64 p0 32) * (bAnd .u64 p1 4294967295))) + (bShr .u64 (wu64 ((bAnd .u64 p0 4294967295) * (bAnd .u64 p1 4294967295))) 32))) 32))] (nx (rg ?_))
 refine pu 6 [(12, U (wu64 ((bAnd .u64 (wu64 ((wu64 ((bShr .u64 p0 32) * (bAnd .u64 p1 4294967295))) + (bShr .u64 (wu64 ((bAnd .u64 p0 4294967295) * (bAnd .u64 p1 4294967295))) 32))) 4294967295) + (wu64 ((bAnd .u64 p0 4294967295) * (bShr .u64 p1 32))))))] (nx (rg ?_))
 refine pu 9 [(4, U (wu64 ((wu64 ((wu64 ((bShr .u64 p0 32) * (bShr .u64 p1 32))) + (bShr .u64 (wu64 ((wu64 ((bShr .u64 p0 32) * (bAnd .u64 p1 4294967295))) + (bShr .u64 (wu64 ((bAnd .u64 p0 4294967295) * (bAnd .u64 p1 4294967295))) 32))) 32))) + (bShr .u64 (wu64 ((bAnd .u64 (wu64 ((wu64 ((bShr .u64 p0 32) * (bAnd .u64 p1 4294967295))) + (bShr .u64 (wu64 ((bAnd .u64 p0 4294967295) * (bAnd .u64 p1 4294967295))) 32))) 4294967295) + (wu64 ((bAnd .u64 p0 4294967295) * (bShr .u64 p1 32))))) 32))))] (nx (rg ?_))
 refine pu 4 [(5, U (wu64 (p0 * p1)))] (nx (CW.ret ?_))
 obtain rfl := inj hF
 refine QW.ret2 rfl rfl rfl ?_
 exact ⟨rfl, hst.keep [] rfl⟩
theorem span_product_ok (w : World) (p0 : api_Span) (p1 : api_Span) (r : api_Span) (hF : span_product p0 p1 = some r)
    (hst : St w (fp []) w []) :
    Calls Tryz.prog 150 [.agg [U p0.Lo, U p0.Hi].toArray, .agg [U p1.Lo, U p1.Hi].toArray].toArray w (fun e w' => e = .returned (.agg [U r.Lo, U r.Hi].toArray) ∧ St w (fp []) w' []) := by
 refine CW.start (N := 25) Tryz.func150 rfl rfl rfl (rg ?_)
 refine OW.box hst rfl rfl rfl rfl [U p0.Lo, U p0.Hi] rfl ?_
 intro b7 w8 hst
 refine OW.box hst rfl rfl rfl rfl [U p1.Lo, U p1.Hi] rfl ?_
 intro b9 w10 hst
 refine OW.alloc hst rfl rfl rfl [U 0, U 0] (by kernel_rfl) ?_
 intro b11 w12 hst
 refine nx (rg ?_)
 refine pu 1 [(8, .pointer (some ⟨b7, 1, none⟩))] ?_
 refine OW.ld rfl rfl rfl rfl (by kernel_rfl) (hst.blk 0 rfl rfl) ?_
 refine pu 1 [(10, .pointer (some ⟨b9, 1, none⟩))] ?_
 refine OW.ld rfl rfl rfl rfl (by kernel_rfl) (hst.blk 1 rfl rfl) ?_
 obtain ⟨r17, hr18, hF⟩ := bs hF
 refine OW.fn rfl rfl rfl rfl (by kernel_rfl) (bits_Mul64_ok _ p0.Hi p1.Hi r17 hr18 (hst.part [] rfl)) ?_
 rintro e w19 ⟨rfl, hst20⟩
 refine ⟨_, rfl, ?_⟩
 have hst := hst.join (idx := []) (rest := [0, 1, 2]) rfl hst20
 refine pu 5 [(5, U r17.1), (6, U r17.2)] (nx (CW.seq (rg ?_)))
 refine pu 2 [(16, .bool (decide (r17.1 > 0)))] (nx ?_)
 refine br (decide (r17.1 > 0)) hF (fun hF hc21 => ?_) (fun hF hc21 => ?_)
 ·refine rg ?_
  obtain ⟨r27, hr28, hF⟩ := bs hF
  refine OW.fn rfl rfl rfl rfl (by kernel_rfl) (span_Full_ok _ r27 hr28 (hst.part [] rfl)) ?_
  rintro e w29 ⟨rfl, hst30⟩
  refine ⟨_, rfl, ?_⟩
  have hst := hst.join (idx := []) (rest := [0, 1, 2]) rfl hst30
  refine OW.stB hst 2 rfl rfl rfl rfl rfl (by kernel_rfl) rfl rfl [U r27.Lo, U r27.Hi] rfl ?_
  intro w31 hst
  refine nx (CW.ret (QW.then_ret ?_))
  obtain rfl := inj hF
  refine QW.ret_c rfl rfl (run_loadN (cs := [U r27.Lo, U r27.Hi]) (by kernel_rfl) (by kernel_rfl) (hst.blkN 2 rfl 0 2)) ?_
  exact ⟨rfl, hst.keep [] rfl⟩
 refine CW.skip (QW.next (rg ?_))
 refine pu 1 [(18, Pt b7)] ?_
 refine OW.ld rfl rfl rfl rfl (by kernel_rfl) (hst.blk 0 rfl rfl) ?_
 refine pu 1 [(20, Pt b9)] ?_
 refine OW.ld rfl rfl rfl rfl (by kernel_rfl) (hst.blk 1 rfl rfl) ?_
 refine pu 3 [(24, .agg [U (wu64 (p0.Lo * p1.Lo)), U r17.2].toArray)] ?_
 refine OW.stB hst 2 rfl rfl rfl rfl rfl (by kernel_rfl) rfl rfl [U (wu64 (p0.Lo * p1.Lo)), U r17.2] rfl ?_
 intro w33 hst
 refine nx (CW.ret ?_)
 obtain rfl := inj hF
 refine QW.ret_c rfl rfl (run_loadN (cs := [U (wu64 (p0.Lo * p1.Lo)), U r17.2]) (by kernel_rfl) (by kernel_rfl) (hst.blkN 2 rfl 0 2)) ?_
 exact ⟨rfl, hst.keep [] rfl⟩
theorem span_divided_ok (w : World) (p0 : api_Span) (p1 : api_Span) (r : api_Span) (hF : span_divided p0 p1 = some r)
    (hst : St w (fp []) w []) :
    Calls Tryz.prog 151 [.agg [U p0.Lo, U p0.Hi].toArray, .agg [U p1.Lo, U p1.Hi].toArray].toArray w (fun e w' => e = .returned (.agg [U r.Lo, U r.Hi].toArray) ∧ St w (fp []) w' []) := by
 refine CW.start (N := 22) Tryz.func151 rfl rfl rfl (rg ?_)
 refine OW.box hst rfl rfl rfl rfl [U p0.Lo, U p0.Hi] rfl ?_
 intro b7 w8 hst
 refine OW.box hst rfl rfl rfl rfl [U p1.Lo, U p1.Hi] rfl ?_
 intro b9 w10 hst
 refine OW.alloc hst rfl rfl rfl [U 0, U 0] (by kernel_rfl) ?_
 intro b11 w12 hst
 refine nx (CW.seq (rg ?_))
 refine pu 1 [(5, Pt b9)] ?_
 refine OW.ld rfl rfl rfl rfl (by kernel_rfl) (hst.blk 1 rfl rfl) ?_
 refine pu 1 [(7, .bool (p1.Lo == 0))] (nx ?_)
 refine br ((p1.Lo == 0)) hF (fun hF hc13 => ?_) (fun hF hc13 => ?_)
 ·refine rg ?_
  refine pu 1 [(8, .pointer (some ⟨b7, 1, none⟩))] ?_
  refine OW.ld rfl rfl rfl rfl (by kernel_rfl) (hst.blk 0 rfl rfl) ?_
  refine pu 1 [(10, .agg [U 0, U p0.Hi].toArray)] ?_
  refine OW.stB hst 2 rfl rfl rfl rfl rfl (by kernel_rfl) rfl rfl [U 0, U p0.Hi] rfl ?_
  intro w15 hst
  refine nx (CW.ret (QW.then_ret ?_))
  obtain rfl := inj hF
  refine QW.ret_c rfl rfl (run_loadN (cs := [U 0, U p0.Hi]) (by kernel_rfl) (by kernel_rfl) (hst.blkN 2 rfl 0 2)) ?_
  exact ⟨rfl, hst.keep [] rfl⟩
 refine CW.skip (QW.next (CW.seq ?_))
 refine CW.tail 11 (by kernel_rfl) (by kernel_rfl) ?_
 intro w23 hch24
 have hst := hst.same hch24
 refine OS.pure 1 [(11, Pt b7)] rfl (by kernel_rfl) ?_
 refine OS.ld rfl rfl rfl rfl rfl (by kernel_rfl) (hst.blk 0 rfl rfl) ?_
 refine OS.pure 1 [(13, .pointer (some ⟨b9, 1, none⟩))] rfl (by kernel_rfl) ?_
 refine OS.ld rfl rfl rfl rfl rfl (by kernel_rfl) (hst.blk 1 rfl rfl) ?_
 obtain ⟨u25, hz26, hF⟩ := bs hF
 refine OS.quo rfl rfl rfl rfl rfl rfl (nz_ne hz26) ?_
 refine OS.pure 1 [(16, .pointer (some ⟨b7, 1, none⟩))] rfl (by kernel_rfl) ?_
 refine OS.ld rfl rfl rfl rfl rfl (by kernel_rfl) (hst.blk 0 rfl rfl) ?_
 refine OS.pure 1 [(18, Pt b9)] rfl (by kernel_rfl) ?_
 refine OS.ld rfl rfl rfl rfl rfl (by kernel_rfl) (hst.blk 1 rfl rfl) ?_
 obtain ⟨u27, hz28, hF⟩ := bs hF
 refine OS.quo rfl rfl rfl rfl rfl rfl (nz_ne hz28) ?_
 refine OS.pure 1 [(21, .agg [U (wu64 (p0.Lo.tdiv p1.Hi)), U (wu64 (p0.Hi.tdiv p1.Lo))].toArray)] rfl (by kernel_rfl) ?_
 refine OS.on ?_
 refine OW.stB hst 2 rfl rfl rfl rfl rfl (by kernel_rfl) rfl rfl [U (wu64 (p0.Lo.tdiv p1.Hi)), U (wu64 (p0.Hi.tdiv p1.Lo))] rfl ?_
 intro w29 hst
 refine nx (CW.ret ?_)
 obtain rfl := inj hF
 refine QW.ret_c rfl rfl (run_loadN (cs := [U (wu64 (p0.Lo.tdiv p1.Hi)), U (wu64 (p0.Hi.tdiv p1.Lo))]) (by kernel_rfl) (by kernel_rfl) (hst.blkN 2 rfl 0 2)) ?_
 exact ⟨rfl, hst.keep [] rfl⟩
theorem span_rest_ok (w : World) (p0 : api_Span) (p1 : api_Span) (r : api_Span) (hF : span_rest p0 p1 = some r)
    (hst : St w (fp []) w []) :
    Calls Tryz.prog 152 [.agg [U p0.Lo, U p0.Hi].toArray, .agg [U p1.Lo, U p1.Hi].toArray].toArray w (fun e w' => e = .returned (.agg [U r.Lo, U r.Hi].toArray) ∧ St w (fp []) w' []) := by
 refine CW.start (N := 26) Tryz.func152 rfl rfl rfl (rg ?_)
 refine OW.box hst rfl rfl rfl rfl [U p0.Lo, U p0.Hi] rfl ?_
 intro b7 w8 hst
 refine OW.box hst rfl rfl rfl rfl [U p1.Lo, U p1.Hi] rfl ?_
 intro b9 w10 hst
 refine OW.alloc hst rfl rfl rfl [U 0, U 0] (by kernel_rfl) ?_
 intro b11 w12 hst
 refine nx (CW.seq (CW.block (rg ?_)))
 refine pu 1 [(6, Pt b9)] ?_
 refine OW.ld rfl rfl rfl rfl (by kernel_rfl) (hst.blk 1 rfl rfl) ?_
 refine pu 2 [(5, .bool (p1.Lo == 0))] (nx ?_)
 refine br ((p1.Lo == 0)) hF (fun hF hc13 => ?_) (fun hF hc13 => ?_)
 ·refine rg ?_
  refine pu 1 [(9, .pointer (some ⟨b7, 1, none⟩))] ?_
  refine OW.ld rfl rfl rfl rfl (by kernel_rfl) (hst.blk 0 rfl rfl) ?_
  refine pu 1 [(11, .agg [U 0, U p0.Hi].toArray)] ?_
  refine OW.stB hst 2 rfl rfl rfl rfl rfl (by kernel_rfl) rfl rfl [U 0, U p0.Hi] rfl ?_
  intro w15 hst
  refine nx (CW.ret (QW.block_ret (QW.then_ret ?_)))
  obtain rfl := inj hF
  refine QW.ret_c rfl rfl (run_loadN (cs := [U 0, U p0.Hi]) (by kernel_rfl) (by kernel_rfl) (hst.blkN 2 rfl 0 2)) ?_
  exact ⟨rfl, hst.keep [] rfl⟩
 refine rg ?_
 refine pu 1 [(13, .pointer (some ⟨b7, 1, none⟩))] ?_
 refine OW.ld rfl rfl rfl rfl (by kernel_rfl) (hst.blk 0 rfl rfl) ?_
 refine pu 1 [(15, Pt b9)] ?_
 refine OW.ld rfl rfl rfl rfl (by kernel_rfl) (hst.blk 1 rfl rfl) ?_
 refine pu 2 [(12, .bool (decide (p0.Hi < p1.Lo)))] (nx ?_)
 refine br (decide (p0.Hi < p1.Lo)) hF (fun hF hc16 => ?_) (fun hF hc16 => ?_)
 ·refine rg ?_
  refine OW.ldN (cs := [U p0.Lo, U p0.Hi]) rfl rfl rfl rfl (by kernel_rfl) (by kernel_rfl) (hst.blkN 0 rfl 0 2) ?_
  refine OW.stB hst 2 rfl rfl rfl rfl rfl (by kernel_rfl) rfl rfl [U p0.Lo, U p0.Hi] rfl ?_
  intro w18 hst
  refine nx (CW.ret (QW.block_ret (QW.then_ret ?_)))
  obtain rfl := inj hF
  refine QW.ret_c rfl rfl (run_loadN (cs := [U p0.Lo, U p0.Hi]) (by kernel_rfl) (by kernel_rfl) (hst.blkN 2 rfl 0 2)) ?_
  exact ⟨rfl, hst.keep [] rfl⟩
 refine CW.skip (QW.block_normal (QW.next (rg ?_)))
 refine pu 1 [(19, .pointer (some ⟨b7, 1, none⟩))] ?_
 refine OW.ld rfl rfl rfl rfl (by kernel_rfl) (hst.blk 0 rfl rfl) ?_
 refine pu 1 [(21, .pointer (some ⟨b9, 1, none⟩))] ?_
 refine OW.ld rfl rfl rfl rfl (by kernel_rfl) (hst.blk 1 rfl rfl) ?_
 refine pu 3 [(25, .agg [U 0, U (imin p0.Hi (wu64 (p1.Hi - 1)))].toArray)] ?_
 refine OW.stB hst 2 rfl rfl rfl rfl rfl (by kernel_rfl) rfl rfl [U 0, U (imin p0.Hi (wu64 (p1.Hi - 1)))] rfl ?_
 intro w20 hst
 refine nx (CW.ret ?_)
 obtain rfl := inj hF
 refine QW.ret_c rfl rfl (run_loadN (cs := [U 0, U (imin p0.Hi (wu64 (p1.Hi - 1)))]) (by kernel_rfl) (by kernel_rfl) (hst.blkN 2 rfl 0 2)) ?_
 exact ⟨rfl, hst.keep [] rfl⟩
theorem bits_Len64_ok (w : World) (p0 : Int) (r : Int) (hF : bits_Len64 p0 = some r)
    (hst : St w (fp []) w []) :
    Calls Tryz.prog 126 [U p0].toArray w (fun e w' => e = .returned (I r) ∧ St w (fp []) w' []) := by
 refine CW.start (N := 25) Tryz.func126 rfl rfl rfl (rg ?_)
 refine pu 1 [(2, I 0)] (nx (CW.seq (rg ?_)))
 refine pu 2 [(4, .bool (decide (p0 ≥ 4294967296)))] (nx ?_)
 obtain ⟨o2, ho3, hF⟩ := bs hF
 refine CW.cutK (fun a w1 => Rep 25 [(0, U o2.1), (2, I o2.2)] a ∧ St w (fp []) w1 []) ?_ ?_
 ·refine br (decide (p0 ≥ 4294967296)) ho3 (fun ho3 hc4 => ?_) (fun ho3 hc4 => ?_)
  ·refine rg ?_
   refine pu 3 [(0, U (bShr .u64 p0 32))] (nx (CW.region ?_))
   refine pu 1 [(2, I 32)] (OW.nil rfl ?_)
   obtain rfl := inj ho3
   exact QW.meet (fun a ha => ⟨ha.ag, hst.keep [] rfl⟩)
  refine CW.skip ?_
  obtain rfl := inj ho3
  exact QW.meet (fun a ha => ⟨ha.ag, hst.keep [] rfl⟩)
 rintro a w1 ⟨ha, hst⟩
 refine CW.go ?_ ha
 refine CW.seq (rg ?_)
 refine pu 2 [(8, .bool (decide (o2.1 ≥ 65536)))] (nx ?_)
 obtain ⟨o6, ho7, hF⟩ := bs hF
 refine CW.cutK (fun a w1 => Rep 25 [(0, U o6.1), (2, I o6.2)] a ∧ St w (fp []) w1 []) ?_ ?_
 ·refine br (decide (o2.1 ≥ 65536)) ho7 (fun ho7 hc8 => ?_) (fun ho7 hc8 => ?_)
  ·refine rg ?_
   refine pu 3 [(0, U (bShr .u64 o2.1 16))] (nx (CW.region ?_))
   refine pu 3 [(2, I (w64 (o2.2 + 16)))] (OW.nil rfl ?_)
   obtain rfl := inj ho7
   exact QW.meet (fun a ha => ⟨ha.ag, hst.keep [] rfl⟩)
  refine CW.skip ?_
  obtain rfl := inj ho7
  exact QW.meet (fun a ha => ⟨ha.ag, hst.keep [] rfl⟩)
 rintro a w1 ⟨ha, hst⟩
 refine CW.go ?_ ha
 refine CW.seq (rg ?_)
 refine pu 2 [(14, .bool (decide (o6.1 ≥ 256)))] (nx ?_)
 obtain ⟨o10, ho11, hF⟩ := bs hF
 refine CW.cutK (fun a w1 => Rep 25 [(0, U o10.1), (2, I o10.2)] a ∧ St w (fp []) w1 []) ?_ ?_
 ·refine br (decide (o6.1 ≥ 256)) ho11 (fun ho11 hc12 => ?_) (fun ho11 hc12 => ?_)
  ·refine rg ?_
   refine pu 3 [(0, U (bShr .u64 o6.1 8))] (nx (CW.region ?_))
   refine pu 3 [(2, I (w64 (o6.2 + 8)))] (OW.nil rfl ?_)
   obtain rfl := inj ho11
   exact QW.meet (fun a ha => ⟨ha.ag, hst.keep [] rfl⟩)
  refine CW.skip ?_
  obtain rfl := inj ho11
  exact QW.meet (fun a ha => ⟨ha.ag, hst.keep [] rfl⟩)
 rintro a w1 ⟨ha, hst⟩
 refine CW.go ?_ ha
 refine rg ?_
 refine pu 3 [(19, I o10.2), (21, .int .u8 (IntKind.u8.wrap o10.1))] ?_
 obtain ⟨c15, hx16, hF⟩ := bs hF
 refine OW.op (v := .int .u8 c15) rfl rfl rfl rfl (fun a ha => sidx_run rfl rfl rfl (by kernel_rfl) hx16 a _ ha) ?_
 refine pu 3 [(2, I (w64 (o10.2 + (w64 c15))))] (nx (CW.ret ?_))
 obtain rfl := inj hF
 refine QW.ret1 rfl rfl ?_
 exact ⟨rfl, hst.keep [] rfl⟩
theorem span_ones_ok (w : World) (p0 : Int) (r : Int) (hF : span_ones p0 = some r)
    (hst : St w (fp []) w []) :
    Calls Tryz.prog 153 [U p0].toArray w (fun e w' => e = .returned (U r) ∧ St w (fp []) w' []) := by
 refine CW.start (N := 7) Tryz.func153 rfl rfl rfl (rg ?_)
 refine pu 1 [] (nx (rg ?_))
 refine pu 1 [(3, U p0)] ?_
 obtain ⟨r7, hr8, hF⟩ := bs hF
 refine OW.fn rfl rfl rfl rfl (by kernel_rfl) (bits_Len64_ok _ p0 r7 hr8 (hst.part [] rfl)) ?_
 rintro e w9 ⟨rfl, hst10⟩
 refine ⟨_, rfl, ?_⟩
 have hst := hst.join (idx := []) (rest := []) rfl hst10
 obtain ⟨u11, hz12, hF⟩ := bs hF
 refine OW.op (v := U (bShl .u64 1 r7)) rfl rfl rfl rfl (fun a ha => shl_run rfl rfl rfl (nn_ge hz12) a _ ha) ?_
 refine pu 2 [(2, U (wu64 ((bShl .u64 1 r7) - 1)))] (nx (CW.ret ?_))
 obtain rfl := inj hF
 refine QW.ret1 rfl rfl ?_
 exact ⟨rfl, hst.keep [] rfl⟩
theorem span_left_ok (w : World) (p0 : api_Span) (p1 : api_Span) (r : api_Span) (hF : span_left p0 p1 = some r)
    (hst : St w (fp []) w []) :
    Calls Tryz.prog 154 [.agg [U p0.Lo, U p0.Hi].toArray, .agg [U p1.Lo, U p1.Hi].toArray].toArray w (fun e w' => e = .returned (.agg [U r.Lo, U r.Hi].toArray) ∧ St w (fp []) w' []) := by
 refine CW.start (N := 41) Tryz.func154 rfl rfl rfl (rg ?_)
 refine OW.box hst rfl rfl rfl rfl [U p0.Lo, U p0.Hi] rfl ?_
 intro b7 w8 hst
 refine OW.box hst rfl rfl rfl rfl [U p1.Lo, U p1.Hi] rfl ?_
 intro b9 w10 hst
 refine OW.alloc hst rfl rfl rfl [U 0, U 0] (by kernel_rfl) ?_
 intro b11 w12 hst
 refine nx (CW.seq (CW.seq ?_))
 obtain ⟨o36, ho37, hF⟩ := bs hF
 refine CW.cutK (fun a w1 => Rep 41 [(2, Pt b7), (3, Pt b9), (4, Pt b11), (28, .bool o36)] a ∧ St w (fp []) w1 [blkI b7 152 [U p0.Lo, U p0.Hi], blkI b9 152 [U p1.Lo, U p1.Hi], blkI b11 152 [U 0, U 0]]) ?_ ?_
 ·refine CW.plan (by kernel_rfl) ?_
  intro w38 hch39
  have hst := hst.same hch39
  refine OA.ldN (i := 0) (cs := [U p1.Lo, U p1.Hi]) rfl (by kernel_rfl) rfl rfl rfl (by kernel_rfl) (by kernel_rfl) (hst.blkN 1 rfl 0 2) ?_
  refine OA.act (i := 1) [] (by kernel_rfl) rfl rfl (by kernel_rfl) (by kernel_rfl) ?_
  obtain ⟨r40, hr41, ho37⟩ := bs ho37
  refine OW.fn rfl rfl rfl rfl (by kernel_rfl) (span_single_ok _ p1 r40 hr41 (hst.part [] rfl)) ?_
  rintro e w42 ⟨rfl, hst43⟩
  refine ⟨_, rfl, ?_⟩
  have hst := hst.join (idx := []) (rest := [0, 1, 2]) rfl hst43
  refine OA.next trivial ?_
  refine OA.pure [2, 3] [(8, .bool (!r40))] (by kernel_rfl) ?_
  refine OA.split 8 rfl (fun hc44 => ?_) (fun hc44 => ?_)
  ·have ho37 := ite_t ho37 hc44
   refine OA.pure [4, 5, 6, 7, 8, 9, 10, 11, 12, 13, 14, 15, 16, 17, 18, 19, 20, 21, 22, 23] [(28, .bool true)] (by kernel_rfl) ?_
   refine OA.fin (by kernel_rfl) (by kernel_rfl) ?_
   obtain rfl := inj ho37
   exact QW.meet (fun a ha => ⟨ha.ag, hst.keep [0, 1, 2] rfl⟩)
  have ho37 := ite_f ho37 hc44
  refine OA.pure [4] [(9, .pointer (some ⟨b7, 1, none⟩))] (by kernel_rfl) ?_
  refine OA.ld (i := 5) rfl (by kernel_rfl) rfl rfl rfl (by kernel_rfl) (hst.blk 0 rfl rfl) ?_
  refine OA.act (i := 6) [] (by kernel_rfl) rfl rfl (by kernel_rfl) (by kernel_rfl) ?_
  obtain ⟨r45, hr46, ho37⟩ := bs ho37
  refine OW.fn rfl rfl rfl rfl (by kernel_rfl) (bits_Len64_ok _ p0.Hi r45 hr46 (hst.part [] rfl)) ?_
  rintro e w47 ⟨rfl, hst48⟩
  refine ⟨_, rfl, ?_⟩
  have hst := hst.join (idx := []) (rest := [0, 1, 2]) rfl hst48
  refine OA.next trivial ?_
  refine OA.pure [7, 8] [(13, .bool (decide (r45 > 0)))] (by kernel_rfl) ?_
  refine OA.split 13 rfl (fun hc49 => ?_) (fun hc49 => ?_)
  ·have ho37 := ite_t ho37 hc49
   refine OA.pure [9] [(14, Pt b9)] (by kernel_rfl) ?_
   refine OA.ld (i := 10) rfl (by kernel_rfl) rfl rfl rfl (by kernel_rfl) (hst.blk 1 rfl rfl) ?_
   refine OA.pure [11, 12] [(17, .bool (decide (p1.Lo > 64)))] (by kernel_rfl) ?_
   refine OA.split 17 rfl (fun hc50 => ?_) (fun hc50 => ?_)
   ·have ho37 := ite_t ho37 hc50
    refine OA.pure [13, 14, 15, 16, 17, 18, 19, 20, 21, 22, 23] [(28, .bool true)] (by kernel_rfl) ?_
    refine OA.fin (by kernel_rfl) (by kernel_rfl) ?_
    obtain rfl := inj ho37
    exact QW.meet (fun a ha => ⟨ha.ag, hst.keep [0, 1, 2] rfl⟩)
   have ho37 := ite_f ho37 hc50
   refine OA.pure [13] [(18, .pointer (some ⟨b7, 1, none⟩))] (by kernel_rfl) ?_
   refine OA.ld (i := 14) rfl (by kernel_rfl) rfl rfl rfl (by kernel_rfl) (hst.blk 0 rfl rfl) ?_
   refine OA.pure [17] [(22, Pt b9)] (by kernel_rfl) ?_
   refine OA.ld (i := 18) rfl (by kernel_rfl) rfl rfl rfl (by kernel_rfl) (hst.blk 1 rfl rfl) ?_
   refine OA.act (i := 15) [18] (by kernel_rfl) rfl rfl (by kernel_rfl) (by kernel_rfl) ?_
   obtain ⟨r51, hr52, ho37⟩ := bs ho37
   refine OW.fn rfl rfl rfl rfl (by kernel_rfl) (bits_Len64_ok _ p0.Hi r51 hr52 (hst.part [] rfl)) ?_
   rintro e w53 ⟨rfl, hst54⟩
   refine ⟨_, rfl, ?_⟩
   have hst := hst.join (idx := []) (rest := [0, 1, 2]) rfl hst54
   refine OA.next ⟨(hst.blk 1 rfl rfl), trivial⟩ ?_
   refine OA.pure [16, 19, 20, 21, 22, 23] [(28, .bool (decide ((wu64 ((wu64 r51) + p1.Lo)) > 64)))] (by kernel_rfl) ?_
   refine OA.fin (by kernel_rfl) (by kernel_rfl) ?_
   obtain rfl := inj ho37
   exact QW.meet (fun a ha => ⟨ha.ag, hst.keep [0, 1, 2] rfl⟩)
  have ho37 := ite_f ho37 hc49
  refine OA.pure [9, 10, 11, 12, 13, 14, 15, 16, 17, 18, 19, 20, 21, 22, 23] [(28, .bool false)] (by kernel_rfl) ?_
  refine OA.fin (by kernel_rfl) (by kernel_rfl) ?_
  obtain rfl := inj ho37
  exact QW.meet (fun a ha => ⟨ha.ag, hst.keep [0, 1, 2] rfl⟩)
 rintro a w1 ⟨ha, hst⟩
 refine CW.go ?_ ha
 refine br (o36) hF (fun hF hc55 => ?_) (fun hF hc55 => ?_)
 ·refine rg ?_
  obtain ⟨r61, hr62, hF⟩ := bs hF
  refine OW.fn rfl rfl rfl rfl (by kernel_rfl) (span_Full_ok _ r61 hr62 (hst.part [] rfl)) ?_
  rintro e w63 ⟨rfl, hst64⟩
  refine ⟨_, rfl, ?_⟩
  have hst := hst.join (idx := []) (rest := [0, 1, 2]) rfl hst64
  refine OW.stB hst 2 rfl rfl rfl rfl rfl (by kernel_rfl) rfl rfl [U r61.Lo, U r61.Hi] rfl ?_
  intro w65 hst
  refine nx (CW.ret (QW.then_ret ?_))
  obtain rfl := inj hF
  refine QW.ret_c rfl rfl (run_loadN (cs := [U r61.Lo, U r61.Hi]) (by kernel_rfl) (by kernel_rfl) (hst.blkN 2 rfl 0 2)) ?_
  exact ⟨rfl, hst.keep [] rfl⟩
 refine CW.skip (QW.next (rg ?_))
 refine pu 1 [(30, Pt b7)] ?_
 refine OW.ld rfl rfl rfl rfl (by kernel_rfl) (hst.blk 0 rfl rfl) ?_
 refine pu 1 [(32, Pt b9)] ?_
 refine OW.ld rfl rfl rfl rfl (by kernel_rfl) (hst.blk 1 rfl rfl) ?_
 obtain ⟨u71, hz72, hF⟩ := bs hF
 refine OW.op (v := U (bShl .u64 p0.Lo p1.Lo)) rfl rfl rfl rfl (fun a ha => shl_run rfl rfl rfl (nn_ge hz72) a _ ha) ?_
 refine pu 1 [(35, .pointer (some ⟨b7, 1, none⟩))] ?_
 refine OW.ld rfl rfl rfl rfl (by kernel_rfl) (hst.blk 0 rfl rfl) ?_
 refine pu 1 [(37, Pt b9)] ?_
 refine OW.ld rfl rfl rfl rfl (by kernel_rfl) (hst.blk 1 rfl rfl) ?_
 obtain ⟨u73, hz74, hF⟩ := bs hF
 refine OW.op (v := U (bShl .u64 p0.Hi p1.Lo)) rfl rfl rfl rfl (fun a ha => shl_run rfl rfl rfl (nn_ge hz74) a _ ha) ?_
 refine pu 1 [(40, .agg [U (bShl .u64 p0.Lo p1.Lo), U (bShl .u64 p0.Hi p1.Lo)].toArray)] ?_
 refine OW.stB hst 2 rfl rfl rfl rfl rfl (by kernel_rfl) rfl rfl [U (bShl .u64 p0.Lo p1.Lo), U (bShl .u64 p0.Hi p1.Lo)] rfl ?_
 intro w75 hst
 refine nx (CW.ret ?_)
 obtain rfl := inj hF
 refine QW.ret_c rfl rfl (run_loadN (cs := [U (bShl .u64 p0.Lo p1.Lo), U (bShl .u64 p0.Hi p1.Lo)]) (by kernel_rfl) (by kernel_rfl) (hst.blkN 2 rfl 0 2)) ?_
 exact ⟨rfl, hst.keep [] rfl⟩
theorem span_Do_ok (w : World) (p0 : Int) (p1 : api_Span) (p2 : api_Span) (r : api_Span × Bool) (hF : span_Do p0 p1 p2 = some r)
    (hst : St w (fp []) w []) :
    Calls Tryz.prog 112 [I p0, .agg [U p1.Lo, U p1.Hi].toArray, .agg [U p2.Lo, U p2.Hi].toArray].toArray w (fun e w' => e = .returned (.tuple #[.agg [U r.1.Lo, U r.1.Hi].toArray, .bool r.2]) ∧ St w (fp []) w' []) := by
 refine CW.start (N := 127) Tryz.func112 rfl rfl rfl (rg ?_)
 refine OW.box hst rfl rfl rfl rfl [U p1.Lo, U p1.Hi] rfl ?_
 intro b7 w8 hst
 refine OW.box hst rfl rfl rfl rfl [U p2.Lo, U p2.Hi] rfl ?_
 intro b9 w10 hst
 refine OW.alloc hst rfl rfl rfl [U 0, U 0] (by kernel_rfl) ?_
 intro b11 w12 hst
 refine pu 1 [] (nx (rg ?_))
 refine pu 2 [(11, I p0), (12, Pt b7)] ?_
 refine OW.ld rfl rfl rfl rfl (by kernel_rfl) (hst.blk 0 rfl rfl) ?_
 refine pu 1 [(14, Pt b9)] ?_
 refine OW.ld rfl rfl rfl rfl (by kernel_rfl) (hst.blk 1 rfl rfl) ?_
 obtain ⟨r17, hr18, hF⟩ := bs hF
 refine OW.fn rfl rfl rfl rfl (by kernel_rfl) (arith_Do_ok _ p0 p1.Lo p2.Lo r17 hr18 (hst.part [] rfl)) ?_
 rintro e w19 ⟨rfl, hst20⟩
 refine ⟨_, rfl, ?_⟩
 have hst := hst.join (idx := []) (rest := [0, 1, 2]) rfl hst20
 refine pu 5 [(8, U r17.1), (9, .bool r17.2)] (nx (CW.seq (CW.seq ?_)))
 obtain ⟨o31, ho32, hF⟩ := bs hF
 refine CW.cutK (fun a w1 => Rep 127 [(0, I p0), (4, Pt b7), (5, Pt b9), (6, Pt b11), (8, U r17.1), (30, .bool o31)] a ∧ St w (fp []) w1 [blkI b7 152 [U p1.Lo, U p1.Hi], blkI b9 152 [U p2.Lo, U p2.Hi], blkI b11 152 [U 0, U 0]]) ?_ ?_
 ·refine CW.region ?_
  refine pu 3 [(21, .bool (!r17.2))] ?_
  refine OW.split 21 rfl (fun hc33 => ?_) (fun hc33 => ?_)
  ·have ho32 := ite_t ho32 hc33
   refine pu 9 [(30, .bool true)] (OW.nil rfl ?_)
   obtain rfl := inj ho32
   exact QW.meet (fun a ha => ⟨ha.ag, hst.keep [0, 1, 2] rfl⟩)
  have ho32 := ite_f ho32 hc33
  refine OW.ldN (cs := [U p1.Lo, U p1.Hi]) rfl rfl rfl rfl (by kernel_rfl) (by kernel_rfl) (hst.blkN 0 rfl 0 2) ?_
  obtain ⟨r34, hr35, ho32⟩ := bs ho32
  refine OW.fn rfl rfl rfl rfl (by kernel_rfl) (span_Right_ok _ p1 r34 hr35 (hst.part [] rfl)) ?_
  rintro e w36 ⟨rfl, hst37⟩
  refine ⟨_, rfl, ?_⟩
  have hst := hst.join (idx := []) (rest := [0, 1, 2]) rfl hst37
  refine pu 3 [(26, .bool (!r34))] ?_
  refine OW.split 26 rfl (fun hc38 => ?_) (fun hc38 => ?_)
  ·have ho32 := ite_t ho32 hc38
   refine pu 4 [(30, .bool true)] (OW.nil rfl ?_)
   obtain rfl := inj ho32
   exact QW.meet (fun a ha => ⟨ha.ag, hst.keep [0, 1, 2] rfl⟩)
  have ho32 := ite_f ho32 hc38
  refine OW.ldN (cs := [U p2.Lo, U p2.Hi]) rfl rfl rfl rfl (by kernel_rfl) (by kernel_rfl) (hst.blkN 1 rfl 0 2) ?_
  obtain ⟨r39, hr40, ho32⟩ := bs ho32
  refine OW.fn rfl rfl rfl rfl (by kernel_rfl) (span_Right_ok _ p2 r39 hr40 (hst.part [] rfl)) ?_
  rintro e w41 ⟨rfl, hst42⟩
  refine ⟨_, rfl, ?_⟩
  have hst := hst.join (idx := []) (rest := [0, 1, 2]) rfl hst42
  refine pu 2 [(30, .bool (!r39))] (OW.nil rfl ?_)
  obtain rfl := inj ho32
  exact QW.meet (fun a ha => ⟨ha.ag, hst.keep [0, 1, 2] rfl⟩)
 rintro a w1 ⟨ha, hst⟩
 refine CW.go ?_ ha
 refine br (o31) hF (fun hF hc43 => ?_) (fun hF hc43 => ?_)
 ·refine rg ?_
  refine pu 1 [(31, .agg [U 0, U 0].toArray)] ?_
  refine OW.stB hst 2 rfl rfl rfl rfl rfl (by kernel_rfl) rfl rfl [U 0, U 0] rfl ?_
  intro w45 hst
  refine pu 1 [(7, .bool false)] (nx (CW.ret (QW.then_ret ?_)))
  obtain rfl := inj hF
  refine QW.ret_ct rfl rfl (run_loadN (cs := [U 0, U 0]) (by kernel_rfl) (by kernel_rfl) (hst.blkN 2 rfl 0 2)) rfl ?_
  exact ⟨rfl, hst.keep [] rfl⟩
 refine CW.skip (QW.next (CW.seq (CW.seq ?_)))
 obtain ⟨o59, ho60, hF⟩ := bs hF
 refine CW.cutK (fun a w1 => Rep 127 [(0, I p0), (4, Pt b7), (5, Pt b9), (6, Pt b11), (8, U r17.1), (37, .bool o59)] a ∧ St w (fp []) w1 [blkI b7 152 [U p1.Lo, U p1.Hi], blkI b9 152 [U p2.Lo, U p2.Hi], blkI b11 152 [U 0, U 0]]) ?_ ?_
 ·refine CW.region ?_
  refine OW.ldN (cs := [U p1.Lo, U p1.Hi]) rfl rfl rfl rfl (by kernel_rfl) (by kernel_rfl) (hst.blkN 0 rfl 0 2) ?_
  obtain ⟨r61, hr62, ho60⟩ := bs ho60
  refine OW.fn rfl rfl rfl rfl (by kernel_rfl) (span_single_ok _ p1 r61 hr62 (hst.part [] rfl)) ?_
  rintro e w63 ⟨rfl, hst64⟩
  refine ⟨_, rfl, ?_⟩
  have hst := hst.join (idx := []) (rest := [0, 1, 2]) rfl hst64
  refine pu 1 [(34, .bool r61)] ?_
  refine OW.split 34 rfl (fun hc65 => ?_) (fun hc65 => ?_)
  ·have ho60 := ite_t ho60 hc65
   refine OW.ldN (cs := [U p2.Lo, U p2.Hi]) rfl rfl rfl rfl (by kernel_rfl) (by kernel_rfl) (hst.blkN 1 rfl 0 2) ?_
   obtain ⟨r66, hr67, ho60⟩ := bs ho60
   refine OW.fn rfl rfl rfl rfl (by kernel_rfl) (span_single_ok _ p2 r66 hr67 (hst.part [] rfl)) ?_
   rintro e w68 ⟨rfl, hst69⟩
   refine ⟨_, rfl, ?_⟩
   have hst := hst.join (idx := []) (rest := [0, 1, 2]) rfl hst69
   refine pu 1 [(37, .bool r66)] (OW.nil rfl ?_)
   obtain rfl := inj ho60
   exact QW.meet (fun a ha => ⟨ha.ag, hst.keep [0, 1, 2] rfl⟩)
  have ho60 := ite_f ho60 hc65
  refine pu 3 [(37, .bool false)] (OW.nil rfl ?_)
  obtain rfl := inj ho60
  exact QW.meet (fun a ha => ⟨ha.ag, hst.keep [0, 1, 2] rfl⟩)
 rintro a w1 ⟨ha, hst⟩
 refine CW.go ?_ ha
 refine br (o59) hF (fun hF hc70 => ?_) (fun hF hc70 => ?_)
 ·refine rg ?_
  refine pu 1 [(38, U r17.1)] ?_
  obtain ⟨r76, hr77, hF⟩ := bs hF
  refine OW.fn rfl rfl rfl rfl (by kernel_rfl) (span_Single_ok _ r17.1 r76 hr77 (hst.part [] rfl)) ?_
  rintro e w78 ⟨rfl, hst79⟩
  refine ⟨_, rfl, ?_⟩
  have hst := hst.join (idx := []) (rest := [0, 1, 2]) rfl hst79
  refine OW.stB hst 2 rfl rfl rfl rfl rfl (by kernel_rfl) rfl rfl [U r76.Lo, U r76.Hi] rfl ?_
  intro w80 hst
  refine pu 1 [(7, .bool true)] (nx (CW.ret (QW.then_ret ?_)))
  obtain rfl := inj hF
  refine QW.ret_ct rfl rfl (run_loadN (cs := [U r76.Lo, U r76.Hi]) (by kernel_rfl) (by kernel_rfl) (hst.blkN 2 rfl 0 2)) rfl ?_
  exact ⟨rfl, hst.keep [] rfl⟩
 refine CW.skip (QW.next (CW.seq (rg ?_)))
 refine pu 1 [(40, I p0)] (nx (CW.block (rg ?_)))
 refine pu 2 [(41, .bool (p0 == 1))] (nx ?_)
 refine br ((p0 == 1)) hF (fun hF hc81 => ?_) (fun hF hc81 => ?_)
 ·refine rg ?_
  refine OW.ldN (cs := [U p1.Lo, U p1.Hi]) rfl rfl rfl rfl (by kernel_rfl) (by kernel_rfl) (hst.blkN 0 rfl 0 2) ?_
  refine OW.ldN (cs := [U p2.Lo, U p2.Hi]) rfl rfl rfl rfl (by kernel_rfl) (by kernel_rfl) (hst.blkN 1 rfl 0 2) ?_
  obtain ⟨r87, hr88, hF⟩ := bs hF
  refine OW.fn rfl rfl rfl rfl (by kernel_rfl) (span_sum_ok _ p1 p2 r87 hr88 (hst.part [] rfl)) ?_
  rintro e w89 ⟨rfl, hst90⟩
  refine ⟨_, rfl, ?_⟩
  have hst := hst.join (idx := []) (rest := [0, 1, 2]) rfl hst90
  refine OW.stB hst 2 rfl rfl rfl rfl rfl (by kernel_rfl) rfl rfl [U r87.Lo, U r87.Hi] rfl ?_
  intro w91 hst
  refine pu 1 [(7, .bool true)] (nx (CW.ret (QW.block_ret (QW.then_ret ?_))))
  obtain rfl := inj hF
  refine QW.ret_ct rfl rfl (run_loadN (cs := [U r87.Lo, U r87.Hi]) (by kernel_rfl) (by kernel_rfl) (hst.blkN 2 rfl 0 2)) rfl ?_
  exact ⟨rfl, hst.keep [] rfl⟩
 refine rg ?_
 refine pu 2 [(46, .bool (p0 == 2))] (nx ?_)
 refine br ((p0 == 2)) hF (fun hF hc92 => ?_) (fun hF hc92 => ?_)
 ·refine CW.seq (rg ?_)
  refine pu 1 [(48, Pt b7)] ?_
  refine OW.ld rfl rfl rfl rfl (by kernel_rfl) (hst.blk 0 rfl rfl) ?_
  refine pu 1 [(50, .pointer (some ⟨b9, 1, none⟩))] ?_
  refine OW.ld rfl rfl rfl rfl (by kernel_rfl) (hst.blk 1 rfl rfl) ?_
  refine pu 1 [(52, .bool (decide (p1.Lo < p2.Hi)))] (nx ?_)
  refine br (decide (p1.Lo < p2.Hi)) hF (fun hF hc93 => ?_) (fun hF hc93 => ?_)
  ·refine rg ?_
   obtain ⟨r99, hr100, hF⟩ := bs hF
   refine OW.fn rfl rfl rfl rfl (by kernel_rfl) (span_Full_ok _ r99 hr100 (hst.part [] rfl)) ?_
   rintro e w101 ⟨rfl, hst102⟩
   refine ⟨_, rfl, ?_⟩
   have hst := hst.join (idx := []) (rest := [0, 1, 2]) rfl hst102
   refine OW.stB hst 2 rfl rfl rfl rfl rfl (by kernel_rfl) rfl rfl [U r99.Lo, U r99.Hi] rfl ?_
   intro w103 hst
   refine pu 1 [(7, .bool true)] (nx (CW.ret (QW.then_ret (QW.block_ret (QW.then_ret ?_)))))
   obtain rfl := inj hF
   refine QW.ret_ct rfl rfl (run_loadN (cs := [U r99.Lo, U r99.Hi]) (by kernel_rfl) (by kernel_rfl) (hst.blkN 2 rfl 0 2)) rfl ?_
   exact ⟨rfl, hst.keep [] rfl⟩
  refine CW.skip (QW.next (rg ?_))
  refine pu 1 [(54, Pt b7)] ?_
  refine OW.ld rfl rfl rfl rfl (by kernel_rfl) (hst.blk 0 rfl rfl) ?_
  refine pu 1 [(56, .pointer (some ⟨b9, 1, none⟩))] ?_
  refine OW.ld rfl rfl rfl rfl (by kernel_rfl) (hst.blk 1 rfl rfl) ?_
  refine pu 2 [(58, U (wu64 (p1.Lo - p2.Hi))), (59, .pointer (some ⟨b7, 1, none⟩))] ?_
  refine OW.ld rfl rfl rfl rfl (by kernel_rfl) (hst.blk 0 rfl rfl) ?_
  refine pu 1 [(61, Pt b9)] ?_
  refine OW.ld rfl rfl rfl rfl (by kernel_rfl) (hst.blk 1 rfl rfl) ?_
  refine pu 2 [(64, .agg [U (wu64 (p1.Lo - p2.Hi)), U (wu64 (p1.Hi - p2.Lo))].toArray)] ?_
  refine OW.stB hst 2 rfl rfl rfl rfl rfl (by kernel_rfl) rfl rfl [U (wu64 (p1.Lo - p2.Hi)), U (wu64 (p1.Hi - p2.Lo))] rfl ?_
  intro w105 hst
  refine pu 1 [(7, .bool true)] (nx (CW.ret (QW.block_ret (QW.then_ret ?_))))
  obtain rfl := inj hF
  refine QW.ret_ct rfl rfl (run_loadN (cs := [U (wu64 (p1.Lo - p2.Hi)), U (wu64 (p1.Hi - p2.Lo))]) (by kernel_rfl) (by kernel_rfl) (hst.blkN 2 rfl 0 2)) rfl ?_
  exact ⟨rfl, hst.keep [] rfl⟩
 refine rg ?_
 refine pu 2 [(65, .bool (p0 == 3))] (nx ?_)
 refine br ((p0 == 3)) hF (fun hF hc106 => ?_) (fun hF hc106 => ?_)
 ·refine rg ?_
  refine OW.ldN (cs := [U p1.Lo, U p1.Hi]) rfl rfl rfl rfl (by kernel_rfl) (by kernel_rfl) (hst.blkN 0 rfl 0 2) ?_
  refine OW.ldN (cs := [U p2.Lo, U p2.Hi]) rfl rfl rfl rfl (by kernel_rfl) (by kernel_rfl) (hst.blkN 1 rfl 0 2) ?_
  obtain ⟨r112, hr113, hF⟩ := bs hF
  refine OW.fn rfl rfl rfl rfl (by kernel_rfl) (span_product_ok _ p1 p2 r112 hr113 (hst.part [] rfl)) ?_
  rintro e w114 ⟨rfl, hst115⟩
  refine ⟨_, rfl, ?_⟩
  have hst := hst.join (idx := []) (rest := [0, 1, 2]) rfl hst115
  refine OW.stB hst 2 rfl rfl rfl rfl rfl (by kernel_rfl) rfl rfl [U r112.Lo, U r112.Hi] rfl ?_
  intro w116 hst
  refine pu 1 [(7, .bool true)] (nx (CW.ret (QW.block_ret (QW.then_ret ?_))))
  obtain rfl := inj hF
  refine QW.ret_ct rfl rfl (run_loadN (cs := [U r112.Lo, U r112.Hi]) (by kernel_rfl) (by kernel_rfl) (hst.blkN 2 rfl 0 2)) rfl ?_
  exact ⟨rfl, hst.keep [] rfl⟩
 refine rg ?_
 refine pu 2 [(70, .bool (p0 == 4))] (nx ?_)
 refine br ((p0 == 4)) hF (fun hF hc117 => ?_) (fun hF hc117 => ?_)
 ·refine rg ?_
  refine OW.ldN (cs := [U p1.Lo, U p1.Hi]) rfl rfl rfl rfl (by kernel_rfl) (by kernel_rfl) (hst.blkN 0 rfl 0 2) ?_
  refine OW.ldN (cs := [U p2.Lo, U p2.Hi]) rfl rfl rfl rfl (by kernel_rfl) (by kernel_rfl) (hst.blkN 1 rfl 0 2) ?_
  obtain ⟨r123, hr124, hF⟩ := bs hF
  refine OW.fn rfl rfl rfl rfl (by kernel_rfl) (span_divided_ok _ p1 p2 r123 hr124 (hst.part [] rfl)) ?_
  rintro e w125 ⟨rfl, hst126⟩
  refine ⟨_, rfl, ?_⟩
  have hst := hst.join (idx := []) (rest := [0, 1, 2]) rfl hst126
  refine OW.stB hst 2 rfl rfl rfl rfl rfl (by kernel_rfl) rfl rfl [U r123.Lo, U r123.Hi] rfl ?_
  intro w127 hst
  refine pu 1 [(7, .bool true)] (nx (CW.ret (QW.block_ret (QW.then_ret ?_))))
  obtain rfl := inj hF
  refine QW.ret_ct rfl rfl (run_loadN (cs := [U r123.Lo, U r123.Hi]) (by kernel_rfl) (by kernel_rfl) (hst.blkN 2 rfl 0 2)) rfl ?_
  exact ⟨rfl, hst.keep [] rfl⟩
 refine rg ?_
 refine pu 2 [(75, .bool (p0 == 5))] (nx ?_)
 refine br ((p0 == 5)) hF (fun hF hc128 => ?_) (fun hF hc128 => ?_)
 ·refine rg ?_
  refine OW.ldN (cs := [U p1.Lo, U p1.Hi]) rfl rfl rfl rfl (by kernel_rfl) (by kernel_rfl) (hst.blkN 0 rfl 0 2) ?_
  refine OW.ldN (cs := [U p2.Lo, U p2.Hi]) rfl rfl rfl rfl (by kernel_rfl) (by kernel_rfl) (hst.blkN 1 rfl 0 2) ?_
  obtain ⟨r134, hr135, hF⟩ := bs hF
  refine OW.fn rfl rfl rfl rfl (by kernel_rfl) (span_rest_ok _ p1 p2 r134 hr135 (hst.part [] rfl)) ?_
  rintro e w136 ⟨rfl, hst137⟩
  refine ⟨_, rfl, ?_⟩
  have hst := hst.join (idx := []) (rest := [0, 1, 2]) rfl hst137
  refine OW.stB hst 2 rfl rfl rfl rfl rfl (by kernel_rfl) rfl rfl [U r134.Lo, U r134.Hi] rfl ?_
  intro w138 hst
  refine pu 1 [(7, .bool true)] (nx (CW.ret (QW.block_ret (QW.then_ret ?_))))
  obtain rfl := inj hF
  refine QW.ret_ct rfl rfl (run_loadN (cs := [U r134.Lo, U r134.Hi]) (by kernel_rfl) (by kernel_rfl) (hst.blkN 2 rfl 0 2)) rfl ?_
  exact ⟨rfl, hst.keep [] rfl⟩
 refine rg ?_
 refine pu 2 [(80, .bool (p0 == 6))] (nx ?_)
 refine br ((p0 == 6)) hF (fun hF hc139 => ?_) (fun hF hc139 => ?_)
 ·refine rg ?_
  refine pu 1 [(82, .pointer (some ⟨b7, 1, none⟩))] ?_
  refine OW.ld rfl rfl rfl rfl (by kernel_rfl) (hst.blk 0 rfl rfl) ?_
  refine pu 1 [(84, .pointer (some ⟨b9, 1, none⟩))] ?_
  refine OW.ld rfl rfl rfl rfl (by kernel_rfl) (hst.blk 1 rfl rfl) ?_
  refine pu 2 [(87, .agg [U 0, U (imin p1.Hi p2.Hi)].toArray)] ?_
  refine OW.stB hst 2 rfl rfl rfl rfl rfl (by kernel_rfl) rfl rfl [U 0, U (imin p1.Hi p2.Hi)] rfl ?_
  intro w141 hst
  refine pu 1 [(7, .bool true)] (nx (CW.ret (QW.block_ret (QW.then_ret ?_))))
  obtain rfl := inj hF
  refine QW.ret_ct rfl rfl (run_loadN (cs := [U 0, U (imin p1.Hi p2.Hi)]) (by kernel_rfl) (by kernel_rfl) (hst.blkN 2 rfl 0 2)) rfl ?_
  exact ⟨rfl, hst.keep [] rfl⟩
 refine rg ?_
 refine pu 2 [(88, .bool (p0 == 7))] (nx ?_)
 refine br ((p0 == 7)) hF (fun hF hc142 => ?_) (fun hF hc142 => ?_)
 ·refine CW.seq ?_
  refine CW.plan (by kernel_rfl) ?_
  intro w150 hch151
  have hst := hst.same hch151
  refine OA.pure [0] [(90, Pt b7)] (by kernel_rfl) ?_
  refine OA.ld (i := 1) rfl (by kernel_rfl) rfl rfl rfl (by kernel_rfl) (hst.blk 0 rfl rfl) ?_
  refine OA.pure [2] [(92, Pt b9)] (by kernel_rfl) ?_
  refine OA.ld (i := 3) rfl (by kernel_rfl) rfl rfl rfl (by kernel_rfl) (hst.blk 1 rfl rfl) ?_
  refine OA.pure [4, 5] [(94, U (imax p1.Lo p2.Lo)), (95, .pointer (some ⟨b7, 1, none⟩))] (by kernel_rfl) ?_
  refine OA.ld (i := 6) rfl (by kernel_rfl) rfl rfl rfl (by kernel_rfl) (hst.blk 0 rfl rfl) ?_
  refine OA.pure [7] [(97, .pointer (some ⟨b9, 1, none⟩))] (by kernel_rfl) ?_
  refine OA.ld (i := 8) rfl (by kernel_rfl) rfl rfl rfl (by kernel_rfl) (hst.blk 1 rfl rfl) ?_
  refine OA.pure [9] [(99, U (bOr .u64 p1.Hi p2.Hi))] (by kernel_rfl) ?_
  refine OA.act (i := 10) [3, 1] (by kernel_rfl) rfl rfl (by kernel_rfl) (by kernel_rfl) ?_
  obtain ⟨r152, hr153, hF⟩ := bs hF
  refine OW.fn rfl rfl rfl rfl (by kernel_rfl) (span_ones_ok _ (bOr .u64 p1.Hi p2.Hi) r152 hr153 (hst.part [] rfl)) ?_
  rintro e w154 ⟨rfl, hst155⟩
  refine ⟨_, rfl, ?_⟩
  have hst := hst.join (idx := []) (rest := [0, 1, 2]) rfl hst155
  refine OA.next ⟨(hst.blk 1 rfl rfl), (hst.blk 0 rfl rfl), trivial⟩ ?_
  refine OA.pure [11] [(101, .agg [U (imax p1.Lo p2.Lo), U r152].toArray)] (by kernel_rfl) ?_
  refine OA.act (i := 12) [] (by kernel_rfl) rfl rfl (by kernel_rfl) (by kernel_rfl) ?_
  refine OW.stB hst 2 rfl rfl rfl rfl rfl (by kernel_rfl) rfl rfl [U (imax p1.Lo p2.Lo), U r152] rfl ?_
  intro w156 hst
  refine OA.next trivial ?_
  refine OA.act (i := 13) [] (by kernel_rfl) rfl rfl (by kernel_rfl) (by kernel_rfl) ?_
  refine pu 1 [(7, .bool true)] (OA.next trivial ?_)
  refine OA.fin (by kernel_rfl) (by kernel_rfl) (QW.next (CW.ret (QW.block_ret (QW.then_ret ?_))))
  obtain rfl := inj hF
  refine QW.ret_ct rfl rfl (run_loadN (cs := [U (imax p1.Lo p2.Lo), U r152]) (by kernel_rfl) (by kernel_rfl) (hst.blkN 2 rfl 0 2)) rfl ?_
  exact ⟨rfl, hst.keep [] rfl⟩
 refine rg ?_
 refine pu 2 [(102, .bool (p0 == 8))] (nx ?_)
 refine br ((p0 == 8)) hF (fun hF hc157 => ?_) (fun hF hc157 => ?_)
 ·refine rg ?_
  refine pu 1 [(104, .pointer (some ⟨b7, 1, none⟩))] ?_
  refine OW.ld rfl rfl rfl rfl (by kernel_rfl) (hst.blk 0 rfl rfl) ?_
  refine pu 1 [(106, .pointer (some ⟨b9, 1, none⟩))] ?_
  refine OW.ld rfl rfl rfl rfl (by kernel_rfl) (hst.blk 1 rfl rfl) ?_
  refine pu 1 [(108, U (bOr .u64 p1.Hi p2.Hi))] ?_
  obtain ⟨r163, hr164, hF⟩ := bs hF
  refine OW.fn rfl rfl rfl rfl (by kernel_rfl) (span_ones_ok _ (bOr .u64 p1.Hi p2.Hi) r163 hr164 (hst.part [] rfl)) ?_
  rintro e w165 ⟨rfl, hst166⟩
  refine ⟨_, rfl, ?_⟩
  have hst := hst.join (idx := []) (rest := [0, 1, 2]) rfl hst166
  refine pu 1 [(110, .agg [U 0, U r163].toArray)] ?_
  refine OW.stB hst 2 rfl rfl rfl rfl rfl (by kernel_rfl) rfl rfl [U 0, U r163] rfl ?_
  intro w167 hst
  refine pu 1 [(7, .bool true)] (nx (CW.ret (QW.block_ret (QW.then_ret ?_))))
  obtain rfl := inj hF
  refine QW.ret_ct rfl rfl (run_loadN (cs := [U 0, U r163]) (by kernel_rfl) (by kernel_rfl) (hst.blkN 2 rfl 0 2)) rfl ?_
  exact ⟨rfl, hst.keep [] rfl⟩
 refine rg ?_
 refine pu 2 [(111, .bool (p0 == 9))] (nx ?_)
 refine br ((p0 == 9)) hF (fun hF hc168 => ?_) (fun hF hc168 => ?_)
 ·refine rg ?_
  refine OW.ldN (cs := [U p1.Lo, U p1.Hi]) rfl rfl rfl rfl (by kernel_rfl) (by kernel_rfl) (hst.blkN 0 rfl 0 2) ?_
  refine OW.ldN (cs := [U p2.Lo, U p2.Hi]) rfl rfl rfl rfl (by kernel_rfl) (by kernel_rfl) (hst.blkN 1 rfl 0 2) ?_
  obtain ⟨r174, hr175, hF⟩ := bs hF
  refine OW.fn rfl rfl rfl rfl (by kernel_rfl) (span_left_ok _ p1 p2 r174 hr175 (hst.part [] rfl)) ?_
  rintro e w176 ⟨rfl, hst177⟩
  refine ⟨_, rfl, ?_⟩
  have hst := hst.join (idx := []) (rest := [0, 1, 2]) rfl hst177
  refine OW.stB hst 2 rfl rfl rfl rfl rfl (by kernel_rfl) rfl rfl [U r174.Lo, U r174.Hi] rfl ?_
  intro w178 hst
  refine pu 1 [(7, .bool true)] (nx (CW.ret (QW.block_ret (QW.then_ret ?_))))
  obtain rfl := inj hF
  refine QW.ret_ct rfl rfl (run_loadN (cs := [U r174.Lo, U r174.Hi]) (by kernel_rfl) (by kernel_rfl) (hst.blkN 2 rfl 0 2)) rfl ?_
  exact ⟨rfl, hst.keep [] rfl⟩
 refine CW.skip (QW.block_normal (QW.next (rg ?_)))
 refine pu 1 [(116, Pt b7)] ?_
 refine OW.ld rfl rfl rfl rfl (by kernel_rfl) (hst.blk 0 rfl rfl) ?_
 refine pu 1 [(118, .pointer (some ⟨b9, 1, none⟩))] ?_
 refine OW.ld rfl rfl rfl rfl (by kernel_rfl) (hst.blk 1 rfl rfl) ?_
 obtain ⟨u184, hz185, hF⟩ := bs hF
 refine OW.op (v := U (bShr .u64 p1.Lo p2.Hi)) rfl rfl rfl rfl (fun a ha => shr_run rfl rfl rfl (nn_ge hz185) a _ ha) ?_
 refine pu 1 [(121, .pointer (some ⟨b7, 1, none⟩))] ?_
 refine OW.ld rfl rfl rfl rfl (by kernel_rfl) (hst.blk 0 rfl rfl) ?_
 refine pu 1 [(123, Pt b9)] ?_
 refine OW.ld rfl rfl rfl rfl (by kernel_rfl) (hst.blk 1 rfl rfl) ?_
 obtain ⟨u186, hz187, hF⟩ := bs hF
 refine OW.op (v := U (bShr .u64 p1.Hi p2.Lo)) rfl rfl rfl rfl (fun a ha => shr_run rfl rfl rfl (nn_ge hz187) a _ ha) ?_
 refine pu 1 [(126, .agg [U (bShr .u64 p1.Lo p2.Hi), U (bShr .u64 p1.Hi p2.Lo)].toArray)] ?_
 refine OW.stB hst 2 rfl rfl rfl rfl rfl (by kernel_rfl) rfl rfl [U (bShr .u64 p1.Lo p2.Hi), U (bShr .u64 p1.Hi p2.Lo)] rfl ?_
 intro w188 hst
 refine pu 1 [(7, .bool true)] (nx (CW.ret ?_))
 obtain rfl := inj hF
 refine QW.ret_ct rfl rfl (run_loadN (cs := [U (bShr .u64 p1.Lo p2.Hi), U (bShr .u64 p1.Hi p2.Lo)]) (by kernel_rfl) (by kernel_rfl) (hst.blkN 2 rfl 0 2)) rfl ?_
 exact ⟨rfl, hst.keep [] rfl⟩
end Go.Proofs.YtdnogiegiclcfaaGreatDoor

/- Written by a program (wip/gen): the walks: each Go function returns what its plain function computes. -/
import Derived.Test.YtkgajppghpmkbaaDoorProg
import Derived.Test.YtkgajppghpmkbaaDoorF1
import Derived.Test.YtkgajppghpmkbaaDoorSq
import Derived.Test.YtkgajppghpmkbaaDoorPart
import Derived.Test.YtkgajppghpmkbaaDoorO1
import Derived.Test.YtkgajppghpmkbaaDoorW1p1
set_option linter.unusedSimpArgs false
namespace Go.Proofs.YtkgajppghpmkbaaDoor
open Go.Sx
set_option linter.unusedVariables false
set_option maxRecDepth 10000
set_option maxHeartbeats 4000000
theorem span_divided_ok (w : World) (p0 : api_Span) (p1 : api_Span) (r : api_Span) (hF : span_divided p0 p1 = some r)
    (hst : St w (fp []) w []) :
    Calls Tryd.prog 85 [.agg [U p0.Lo, U p0.Hi].toArray, .agg [U p1.Lo, U p1.Hi].toArray].toArray w (fun e w' => e = .returned (.agg [U r.Lo, U r.Hi].toArray) ∧ St w (fp []) w' []) := by
 refine CW.start (N := 22) Tryd.func85 rfl rfl rfl (rg ?_)
 refine OW.box hst rfl rfl rfl rfl [U p0.Lo, U p0.Hi] rfl ?_
 intro b7 w8 hst
 refine OW.box hst rfl rfl rfl rfl [U p1.Lo, U p1.Hi] rfl ?_
 intro b9 w10 hst
 refine OW.alloc hst rfl rfl rfl [U 0, U 0] (by kernel_rfl) ?_
 intro b11 w12 hst
 refine nx (CW.seq (rg ?_))
 refine pu 1 [(5, Pt b9)] ?_
 refine OW.ld rfl rfl rfl rfl (by kernel_rfl) (hst.blk 1 rfl rfl) ?_
 refine pu 1 [(7, .bool (p1.Lo == 0))] (nx ?_)
 refine br ((p1.Lo == 0)) hF (fun hF hc13 => ?_) (fun hF hc13 => ?_)
 ·refine rg ?_
  refine pu 1 [(8, .pointer (some ⟨b7, 1, none⟩))] ?_
  refine OW.ld rfl rfl rfl rfl (by kernel_rfl) (hst.blk 0 rfl rfl) ?_
  refine pu 1 [(10, .agg [U 0, U p0.Hi].toArray)] ?_
  refine OW.stB hst 2 rfl rfl rfl rfl rfl (by kernel_rfl) rfl rfl [U 0, U p0.Hi] rfl ?_
  intro w15 hst
  refine nx (CW.ret (QW.then_ret ?_))
  obtain rfl := inj hF
  refine QW.ret_c rfl rfl (run_loadN (cs := [U 0, U p0.Hi]) (by kernel_rfl) (by kernel_rfl) (hst.blkN 2 rfl 0 2)) ?_
  exact ⟨rfl, hst.keep [] rfl⟩
 refine CW.skip (QW.next (CW.seq ?_))
 refine CW.tail 11 (by kernel_rfl) (by kernel_rfl) ?_
 intro w23 hch24
 have hst := hst.same hch24
 refine OS.pure 1 [(11, Pt b7)] rfl (by kernel_rfl) ?_
 refine OS.ld rfl rfl rfl rfl rfl (by kernel_rfl) (hst.blk 0 rfl rfl) ?_
 refine OS.pure 1 [(13, .pointer (some ⟨b9, 1, none⟩))] rfl (by kernel_rfl) ?_
 refine OS.ld rfl rfl rfl rfl rfl (by kernel_rfl) (hst.blk 1 rfl rfl) ?_
 obtain ⟨u25, hz26, hF⟩ := bs hF
 refine OS.quo rfl rfl rfl rfl rfl rfl (nz_ne hz26) ?_
 refine OS.pure 1 [(16, .pointer (some ⟨b7, 1, none⟩))] rfl (by kernel_rfl) ?_
 refine OS.ld rfl rfl rfl rfl rfl (by kernel_rfl) (hst.blk 0 rfl rfl) ?_
 refine OS.pure 1 [(18, Pt b9)] rfl (by kernel_rfl) ?_
 refine OS.ld rfl rfl rfl rfl rfl (by kernel_rfl) (hst.blk 1 rfl rfl) ?_
 obtain ⟨u27, hz28, hF⟩ := bs hF
 refine OS.quo rfl rfl rfl rfl rfl rfl (nz_ne hz28) ?_
 refine OS.pure 1 [(21, .agg [U (wu64 (p0.Lo.tdiv p1.Hi)), U (wu64 (p0.Hi.tdiv p1.Lo))].toArray)] rfl (by kernel_rfl) ?_
 refine OS.on ?_
 refine OW.stB hst 2 rfl rfl rfl rfl rfl (by kernel_rfl) rfl rfl [U (wu64 (p0.Lo.tdiv p1.Hi)), U (wu64 (p0.Hi.tdiv p1.Lo))] rfl ?_
 intro w29 hst
 refine nx (CW.ret ?_)
 obtain rfl := inj hF
 refine QW.ret_c rfl rfl (run_loadN (cs := [U (wu64 (p0.Lo.tdiv p1.Hi)), U (wu64 (p0.Hi.tdiv p1.Lo))]) (by kernel_rfl) (by kernel_rfl) (hst.blkN 2 rfl 0 2)) ?_
 exact ⟨rfl, hst.keep [] rfl⟩
theorem span_rest_ok (w : World) (p0 : api_Span) (p1 : api_Span) (r : api_Span) (hF : span_rest p0 p1 = some r)
    (hst : St w (fp []) w []) :
    Calls Tryd.prog 86 [.agg [U p0.Lo, U p0.Hi].toArray, .agg [U p1.Lo, U p1.Hi].toArray].toArray w (fun e w' => e = .returned (.agg [U r.Lo, U r.Hi].toArray) ∧ St w (fp []) w' []) := by
 refine CW.start (N := 26) Tryd.func86 rfl rfl rfl (rg ?_)
 refine OW.box hst rfl rfl rfl rfl [U p0.Lo, U p0.Hi] rfl ?_
 intro b7 w8 hst
 refine OW.box hst rfl rfl rfl rfl [U p1.Lo, U p1.Hi] rfl ?_
 intro b9 w10 hst
 refine OW.alloc hst rfl rfl rfl [U 0, U 0] (by kernel_rfl) ?_
 intro b11 w12 hst
 refine nx (CW.seq (CW.block (rg ?_)))
 refine pu 1 [(6, Pt b9)] ?_
 refine OW.ld rfl rfl rfl rfl (by kernel_rfl) (hst.blk 1 rfl rfl) ?_
 refine pu 2 [(5, .bool (p1.Lo == 0))] (nx ?_)
 refine br ((p1.Lo == 0)) hF (fun hF hc13 => ?_) (fun hF hc13 => ?_)
 ·refine rg ?_
  refine pu 1 [(9, .pointer (some ⟨b7, 1, none⟩))] ?_
  refine OW.ld rfl rfl rfl rfl (by kernel_rfl) (hst.blk 0 rfl rfl) ?_
  refine pu 1 [(11, .agg [U 0, U p0.Hi].toArray)] ?_
  refine OW.stB hst 2 rfl rfl rfl rfl rfl (by kernel_rfl) rfl rfl [U 0, U p0.Hi] rfl ?_
  intro w15 hst
  refine nx (CW.ret (QW.block_ret (QW.then_ret ?_)))
  obtain rfl := inj hF
  refine QW.ret_c rfl rfl (run_loadN (cs := [U 0, U p0.Hi]) (by kernel_rfl) (by kernel_rfl) (hst.blkN 2 rfl 0 2)) ?_
  exact ⟨rfl, hst.keep [] rfl⟩
 refine rg ?_
 refine pu 1 [(13, .pointer (some ⟨b7, 1, none⟩))] ?_
 refine OW.ld rfl rfl rfl rfl (by kernel_rfl) (hst.blk 0 rfl rfl) ?_
 refine pu 1 [(15, Pt b9)] ?_
 refine OW.ld rfl rfl rfl rfl (by kernel_rfl) (hst.blk 1 rfl rfl) ?_
 refine pu 2 [(12, .bool (decide (p0.Hi < p1.Lo)))] (nx ?_)
 refine br (decide (p0.Hi < p1.Lo)) hF (fun hF hc16 => ?_) (fun hF hc16 => ?_)
 ·refine rg ?_
  refine OW.ldN (cs := [U p0.Lo, U p0.Hi]) rfl rfl rfl rfl (by kernel_rfl) (by kernel_rfl) (hst.blkN 0 rfl 0 2) ?_
  refine OW.stB hst 2 rfl rfl rfl rfl rfl (by kernel_rfl) rfl rfl [U p0.Lo, U p0.Hi] rfl ?_
  intro w18 hst
  refine nx (CW.ret (QW.block_ret (QW.then_ret ?_)))
  obtain rfl := inj hF
  refine QW.ret_c rfl rfl (run_loadN (cs := [U p0.Lo, U p0.Hi]) (by kernel_rfl) (by kernel_rfl) (hst.blkN 2 rfl 0 2)) ?_
  exact ⟨rfl, hst.keep [] rfl⟩
 refine CW.skip (QW.block_normal (QW.next (rg ?_)))
 refine pu 1 [(19, .pointer (some ⟨b7, 1, none⟩))] ?_
 refine OW.ld rfl rfl rfl rfl (by kernel_rfl) (hst.blk 0 rfl rfl) ?_
 refine pu 1 [(21, .pointer (some ⟨b9, 1, none⟩))] ?_
 refine OW.ld rfl rfl rfl rfl (by kernel_rfl) (hst.blk 1 rfl rfl) ?_
 refine pu 3 [(25, .agg [U 0, U (imin p0.Hi (wu64 (p1.Hi - 1)))].toArray)] ?_
 refine OW.stB hst 2 rfl rfl rfl rfl rfl (by kernel_rfl) rfl rfl [U 0, U (imin p0.Hi (wu64 (p1.Hi - 1)))] rfl ?_
 intro w20 hst
 refine nx (CW.ret ?_)
 obtain rfl := inj hF
 refine QW.ret_c rfl rfl (run_loadN (cs := [U 0, U (imin p0.Hi (wu64 (p1.Hi - 1)))]) (by kernel_rfl) (by kernel_rfl) (hst.blkN 2 rfl 0 2)) ?_
 exact ⟨rfl, hst.keep [] rfl⟩
theorem bits_Len64_ok (w : World) (p0 : Int) (r : Int) (hF : bits_Len64 p0 = some r)
    (hst : St w (fp []) w []) :
    Calls Tryd.prog 95 [U p0].toArray w (fun e w' => e = .returned (I r) ∧ St w (fp []) w' []) := by
 refine CW.start (N := 25) Tryd.func95 rfl rfl rfl (rg ?_)
 refine pu 1 [(2, I 0)] (nx (CW.seq (rg ?_)))
 refine pu 2 [(4, .bool (decide (p0 ≥ 4294967296)))] (nx ?_)
 obtain ⟨o2, ho3, hF⟩ := bs hF
 refine CW.cutK (fun a w1 => Rep 25 [(0, U o2.1), (2, I o2.2)] a ∧ St w (fp []) w1 []) ?_ ?_
 ·refine br (decide (p0 ≥ 4294967296)) ho3 (fun ho3 hc4 => ?_) (fun ho3 hc4 => ?_)
  ·refine rg ?_
   refine pu 3 [(0, U (bShr .u64 p0 32))] (nx (CW.region ?_))
   refine pu 1 [(2, I 32)] (OW.nil rfl ?_)
   obtain rfl := inj ho3
   exact QW.meet (fun a ha => ⟨ha.ag, hst.keep [] rfl⟩)
  refine CW.skip ?_
  obtain rfl := inj ho3
  exact QW.meet (fun a ha => ⟨ha.ag, hst.keep [] rfl⟩)
 rintro a w1 ⟨ha, hst⟩
 refine CW.go ?_ ha
 refine CW.seq (rg ?_)
 refine pu 2 [(8, .bool (decide (o2.1 ≥ 65536)))] (nx ?_)
 obtain ⟨o6, ho7, hF⟩ := bs hF
 refine CW.cutK (fun a w1 => Rep 25 [(0, U o6.1), (2, I o6.2)] a ∧ St w (fp []) w1 []) ?_ ?_
 ·refine br (decide (o2.1 ≥ 65536)) ho7 (fun ho7 hc8 => ?_) (fun ho7 hc8 => ?_)
  ·refine rg ?_
   refine pu 3 [(0, U (bShr .u64 o2.1 16))] (nx (CW.region ?_))
   refine pu 3 [(2, I (w64 (o2.2 + 16)))] (OW.nil rfl ?_)
   obtain rfl := inj ho7
   exact QW.meet (fun a ha => ⟨ha.ag, hst.keep [] rfl⟩)
  refine CW.skip ?_
  obtain rfl := inj ho7
  exact QW.meet (fun a ha => ⟨ha.ag, hst.keep [] rfl⟩)
 rintro a w1 ⟨ha, hst⟩
 refine CW.go ?_ ha
 refine CW.seq (rg ?_)
 refine pu 2 [(14, .bool (decide (o6.1 ≥ 256)))] (nx ?_)
 obtain ⟨o10, ho11, hF⟩ := bs hF
 refine CW.cutK (fun a w1 => Rep 25 [(0, U o10.1), (2, I o10.2)] a ∧ St w (fp []) w1 []) ?_ ?_
 ·refine br (decide (o6.1 ≥ 256)) ho11 (fun ho11 hc12 => ?_) (fun ho11 hc12 => ?_)
  ·refine rg ?_
   refine pu 3 [(0, U (bShr .u64 o6.1 8))] (nx (CW.region ?_))
   refine pu 3 [(2, I (w64 (o6.2 + 8)))] (OW.nil rfl ?_)
   obtain rfl := inj ho11
   exact QW.meet (fun a ha => ⟨ha.ag, hst.keep [] rfl⟩)
  refine CW.skip ?_
  obtain rfl := inj ho11
  exact QW.meet (fun a ha => ⟨ha.ag, hst.keep [] rfl⟩)
 rintro a w1 ⟨ha, hst⟩
 refine CW.go ?_ ha
 refine rg ?_
 refine pu 3 [(19, I o10.2), (21, .int .u8 (IntKind.u8.wrap o10.1))] ?_
 obtain ⟨c15, hx16, hF⟩ := bs hF
 refine OW.op (v := .int .u8 c15) rfl rfl rfl rfl (fun a ha => sidx_run rfl rfl rfl (by kernel_rfl) hx16 a _ ha) ?_
 refine pu 3 [(2, I (w64 (o10.2 + (w64 c15))))] (nx (CW.ret ?_))
 obtain rfl := inj hF
 refine QW.ret1 rfl rfl ?_
 exact ⟨rfl, hst.keep [] rfl⟩
theorem span_ones_ok (w : World) (p0 : Int) (r : Int) (hF : span_ones p0 = some r)
    (hst : St w (fp []) w []) :
    Calls Tryd.prog 87 [U p0].toArray w (fun e w' => e = .returned (U r) ∧ St w (fp []) w' []) := by
 refine CW.start (N := 7) Tryd.func87 rfl rfl rfl (rg ?_)
 refine pu 1 [] (nx (rg ?_))
 refine pu 1 [(3, U p0)] ?_
 obtain ⟨r7, hr8, hF⟩ := bs hF
 refine OW.fn rfl rfl rfl rfl (by kernel_rfl) (bits_Len64_ok _ p0 r7 hr8 (hst.part [] rfl)) ?_
 rintro e w9 ⟨rfl, hst10⟩
 refine ⟨_, rfl, ?_⟩
 have hst := hst.join (idx := []) (rest := []) rfl hst10
 obtain ⟨u11, hz12, hF⟩ := bs hF
 refine OW.op (v := U (bShl .u64 1 r7)) rfl rfl rfl rfl (fun a ha => shl_run rfl rfl rfl (nn_ge hz12) a _ ha) ?_
 refine pu 2 [(2, U (wu64 ((bShl .u64 1 r7) - 1)))] (nx (CW.ret ?_))
 obtain rfl := inj hF
 refine QW.ret1 rfl rfl ?_
 exact ⟨rfl, hst.keep [] rfl⟩
theorem span_left_ok (w : World) (p0 : api_Span) (p1 : api_Span) (r : api_Span) (hF : span_left p0 p1 = some r)
    (hst : St w (fp []) w []) :
    Calls Tryd.prog 88 [.agg [U p0.Lo, U p0.Hi].toArray, .agg [U p1.Lo, U p1.Hi].toArray].toArray w (fun e w' => e = .returned (.agg [U r.Lo, U r.Hi].toArray) ∧ St w (fp []) w' []) := by
 refine CW.start (N := 41) Tryd.func88 rfl rfl rfl (rg ?_)
 refine OW.box hst rfl rfl rfl rfl [U p0.Lo, U p0.Hi] rfl ?_
 intro b7 w8 hst
 refine OW.box hst rfl rfl rfl rfl [U p1.Lo, U p1.Hi] rfl ?_
 intro b9 w10 hst
 refine OW.alloc hst rfl rfl rfl [U 0, U 0] (by kernel_rfl) ?_
 intro b11 w12 hst
 refine nx (CW.seq (CW.seq ?_))
 obtain ⟨o36, ho37, hF⟩ := bs hF
 refine CW.cutK (fun a w1 => Rep 41 [(2, Pt b7), (3, Pt b9), (4, Pt b11), (28, .bool o36)] a ∧ St w (fp []) w1 [blkI b7 115 [U p0.Lo, U p0.Hi], blkI b9 115 [U p1.Lo, U p1.Hi], blkI b11 115 [U 0, U 0]]) ?_ ?_
 ·refine CW.plan (by kernel_rfl) ?_
  intro w38 hch39
  have hst := hst.same hch39
  refine OA.ldN (i := 0) (cs := [U p1.Lo, U p1.Hi]) rfl (by kernel_rfl) rfl rfl rfl (by kernel_rfl) (by kernel_rfl) (hst.blkN 1 rfl 0 2) ?_
  refine OA.act (i := 1) [] (by kernel_rfl) rfl rfl (by kernel_rfl) (by kernel_rfl) ?_
  obtain ⟨r40, hr41, ho37⟩ := bs ho37
  refine OW.fn rfl rfl rfl rfl (by kernel_rfl) (span_single_ok _ p1 r40 hr41 (hst.part [] rfl)) ?_
  rintro e w42 ⟨rfl, hst43⟩
  refine ⟨_, rfl, ?_⟩
  have hst := hst.join (idx := []) (rest := [0, 1, 2]) rfl hst43
  refine OA.next trivial ?_
  refine OA.pure [2, 3] [(8, .bool (!r40))] (by kernel_rfl) ?_
  refine OA.split 8 rfl (fun hc44 => ?_) (fun hc44 => ?_)
  ·have ho37 := ite_t ho37 hc44
   refine OA.pure [4, 5, 6, 7, 8, 9, 10, 11, 12, 13, 14, 15, 16, 17, 18, 19, 20, 21, 22, 23] [(28, .bool true)] (by kernel_rfl) ?_
   refine OA.fin (by kernel_rfl) (by kernel_rfl) ?_
   obtain rfl := inj ho37
   exact QW.meet (fun a ha => ⟨ha.ag, hst.keep [0, 1, 2] rfl⟩)
  have ho37 := ite_f ho37 hc44
  refine OA.pure [4] [(9, .pointer (some ⟨b7, 1, none⟩))] (by kernel_rfl) ?_
  refine OA.ld (i := 5) rfl (by kernel_rfl) rfl rfl rfl (by kernel_rfl) (hst.blk 0 rfl rfl) ?_
  refine OA.act (i := 6) [] (by kernel_rfl) rfl rfl (by kernel_rfl) (by kernel_rfl) ?_
  obtain ⟨r45, hr46, ho37⟩ := bs ho37
  refine OW.fn rfl rfl rfl rfl (by kernel_rfl) (bits_Len64_ok _ p0.Hi r45 hr46 (hst.part [] rfl)) ?_
  rintro e w47 ⟨rfl, hst48⟩
  refine ⟨_, rfl, ?_⟩
  have hst := hst.join (idx := []) (rest := [0, 1, 2]) rfl hst48
  refine OA.next trivial ?_
  refine OA.pure [7, 8] [(13, .bool (decide (r45 > 0)))] (by kernel_rfl) ?_
  refine OA.split 13 rfl (fun hc49 => ?_) (fun hc49 => ?_)
  ·have ho37 := ite_t ho37 hc49
   refine OA.pure [9] [(14, Pt b9)] (by kernel_rfl) ?_
   refine OA.ld (i := 10) rfl (by kernel_rfl) rfl rfl rfl (by kernel_rfl) (hst.blk 1 rfl rfl) ?_
   refine OA.pure [11, 12] [(17, .bool (decide (p1.Lo > 64)))] (by kernel_rfl) ?_
   refine OA.split 17 rfl (fun hc50 => ?_) (fun hc50 => ?_)
   ·have ho37 := ite_t ho37 hc50
    refine OA.pure [13, 14, 15, 16, 17, 18, 19, 20, 21, 22, 23] [(28, .bool true)] (by kernel_rfl) ?_
    refine OA.fin (by kernel_rfl) (by kernel_rfl) ?_
    obtain rfl := inj ho37
    exact QW.meet (fun a ha => ⟨ha.ag, hst.keep [0, 1, 2] rfl⟩)
   have ho37 := ite_f ho37 hc50
   refine OA.pure [13] [(18, .pointer (some ⟨b7, 1, none⟩))] (by kernel_rfl) ?_
   refine OA.ld (i := 14) rfl (by kernel_rfl) rfl rfl rfl (by kernel_rfl) (hst.blk 0 rfl rfl) ?_
   refine OA.pure [17] [(22, Pt b9)] (by kernel_rfl) ?_
   refine OA.ld (i := 18) rfl (by kernel_rfl) rfl rfl rfl (by kernel_rfl) (hst.blk 1 rfl rfl) ?_
   refine OA.act (i := 15) [18] (by kernel_rfl) rfl rfl (by kernel_rfl) (by kernel_rfl) ?_
   obtain ⟨r51, hr52, ho37⟩ := bs ho37
   refine OW.fn rfl rfl rfl rfl (by kernel_rfl) (bits_Len64_ok _ p0.Hi r51 hr52 (hst.part [] rfl)) ?_
   rintro e w53 ⟨rfl, hst54⟩
   refine ⟨_, rfl, ?_⟩
   have hst := hst.join (idx := []) (rest := [0, 1, 2]) rfl hst54
   refine OA.next ⟨(hst.blk 1 rfl rfl), trivial⟩ ?_
   refine OA.pure [16, 19, 20, 21, 22, 23] [(28, .bool (decide ((wu64 ((wu64 r51) + p1.Lo)) > 64)))] (by kernel_rfl) ?_
   refine OA.fin (by kernel_rfl) (by kernel_rfl) ?_
   obtain rfl := inj ho37
   exact QW.meet (fun a ha => ⟨ha.ag, hst.keep [0, 1, 2] rfl⟩)
  have ho37 := ite_f ho37 hc49
  refine OA.pure [9, 10, 11, 12, 13, 14, 15, 16, 17, 18, 19, 20, 21, 22, 23] [(28, .bool false)] (by kernel_rfl) ?_
  refine OA.fin (by kernel_rfl) (by kernel_rfl) ?_
  obtain rfl := inj ho37
  exact QW.meet (fun a ha => ⟨ha.ag, hst.keep [0, 1, 2] rfl⟩)
 rintro a w1 ⟨ha, hst⟩
 refine CW.go ?_ ha
 refine br (o36) hF (fun hF hc55 => ?_) (fun hF hc55 => ?_)
 ·refine rg ?_
  obtain ⟨r61, hr62, hF⟩ := bs hF
  refine OW.fn rfl rfl rfl rfl (by kernel_rfl) (span_Full_ok _ r61 hr62 (hst.part [] rfl)) ?_
  rintro e w63 ⟨rfl, hst64⟩
  refine ⟨_, rfl, ?_⟩
  have hst := hst.join (idx := []) (rest := [0, 1, 2]) rfl hst64
  refine OW.stB hst 2 rfl rfl rfl rfl rfl (by kernel_rfl) rfl rfl [U r61.Lo, U r61.Hi] rfl ?_
  intro w65 hst
  refine nx (CW.ret (QW.then_ret ?_))
  obtain rfl := inj hF
  refine QW.ret_c rfl rfl (run_loadN (cs := [U r61.Lo, U r61.Hi]) (by kernel_rfl) (by kernel_rfl) (hst.blkN 2 rfl 0 2)) ?_
  exact ⟨rfl, hst.keep [] rfl⟩
 refine CW.skip (QW.next (rg ?_))
 refine pu 1 [(30, Pt b7)] ?_
 refine OW.ld rfl rfl rfl rfl (by kernel_rfl) (hst.blk 0 rfl rfl) ?_
 refine pu 1 [(32, Pt b9)] ?_
 refine OW.ld rfl rfl rfl rfl (by kernel_rfl) (hst.blk 1 rfl rfl) ?_
 obtain ⟨u71, hz72, hF⟩ := bs hF
 refine OW.op (v := U (bShl .u64 p0.Lo p1.Lo)) rfl rfl rfl rfl (fun a ha => shl_run rfl rfl rfl (nn_ge hz72) a _ ha) ?_
 refine pu 1 [(35, .pointer (some ⟨b7, 1, none⟩))] ?_
 refine OW.ld rfl rfl rfl rfl (by kernel_rfl) (hst.blk 0 rfl rfl) ?_
 refine pu 1 [(37, Pt b9)] ?_
 refine OW.ld rfl rfl rfl rfl (by kernel_rfl) (hst.blk 1 rfl rfl) ?_
 obtain ⟨u73, hz74, hF⟩ := bs hF
 refine OW.op (v := U (bShl .u64 p0.Hi p1.Lo)) rfl rfl rfl rfl (fun a ha => shl_run rfl rfl rfl (nn_ge hz74) a _ ha) ?_
 refine pu 1 [(40, .agg [U (bShl .u64 p0.Lo p1.Lo), U (bShl .u64 p0.Hi p1.Lo)].toArray)] ?_
 refine OW.stB hst 2 rfl rfl rfl rfl rfl (by kernel_rfl) rfl rfl [U (bShl .u64 p0.Lo p1.Lo), U (bShl .u64 p0.Hi p1.Lo)] rfl ?_
 intro w75 hst
 refine nx (CW.ret ?_)
 obtain rfl := inj hF
 refine QW.ret_c rfl rfl (run_loadN (cs := [U (bShl .u64 p0.Lo p1.Lo), U (bShl .u64 p0.Hi p1.Lo)]) (by kernel_rfl) (by kernel_rfl) (hst.blkN 2 rfl 0 2)) ?_
 exact ⟨rfl, hst.keep [] rfl⟩
theorem span_Do_ok (w : World) (p0 : Int) (p1 : api_Span) (p2 : api_Span) (r : api_Span × Bool) (hF : span_Do p0 p1 p2 = some r)
    (hst : St w (fp []) w []) :
    Calls Tryd.prog 60 [I p0, .agg [U p1.Lo, U p1.Hi].toArray, .agg [U p2.Lo, U p2.Hi].toArray].toArray w (fun e w' => e = .returned (.tuple #[.agg [U r.1.Lo, U r.1.Hi].toArray, .bool r.2]) ∧ St w (fp []) w' []) := by
 refine CW.start (N := 127) Tryd.func60 rfl rfl rfl (rg ?_)
 refine OW.box hst rfl rfl rfl rfl [U p1.Lo, U p1.Hi] rfl ?_
 intro b7 w8 hst
 refine OW.box hst rfl rfl rfl rfl [U p2.Lo, U p2.Hi] rfl ?_
 intro b9 w10 hst
 refine OW.alloc hst rfl rfl rfl [U 0, U 0] (by kernel_rfl) ?_
 intro b11 w12 hst
 refine pu 1 [] (nx (rg ?_))
 refine pu 2 [(11, I p0), (12, Pt b7)] ?_
 refine OW.ld rfl rfl rfl rfl (by kernel_rfl) (hst.blk 0 rfl rfl) ?_
 refine pu 1 [(14, Pt b9)] ?_
 refine OW.ld rfl rfl rfl rfl (by kernel_rfl) (hst.blk 1 rfl rfl) ?_
 obtain ⟨r17, hr18, hF⟩ := bs hF
 refine OW.fn rfl rfl rfl rfl (by kernel_rfl) (arith_Do_ok _ p0 p1.Lo p2.Lo r17 hr18 (hst.part [] rfl)) ?_
 rintro e w19 ⟨rfl, hst20⟩
 refine ⟨_, rfl, ?_⟩
 have hst := hst.join (idx := []) (rest := [0, 1, 2]) rfl hst20
 refine pu 5 [(8, U r17.1), (9, .bool r17.2)] (nx (CW.seq (CW.seq ?_)))
 obtain ⟨o31, ho32, hF⟩ := bs hF
 refine CW.cutK (fun a w1 => Rep 127 [(0, I p0), (4, Pt b7), (5, Pt b9), (6, Pt b11), (8, U r17.1), (30, .bool o31)] a ∧ St w (fp []) w1 [blkI b7 115 [U p1.Lo, U p1.Hi], blkI b9 115 [U p2.Lo, U p2.Hi], blkI b11 115 [U 0, U 0]]) ?_ ?_
 ·refine CW.region ?_
  refine pu 3 [(21, .bool (!r17.2))] ?_
  refine OW.split 21 rfl (fun hc33 => ?_) (fun hc33 => ?_)
  ·have ho32 := ite_t ho32 hc33
   refine pu 9 [(30, .bool true)] (OW.nil rfl ?_)
   obtain rfl := inj ho32
   exact QW.meet (fun a ha => ⟨ha.ag, hst.keep [0, 1, 2] rfl⟩)
  have ho32 := ite_f ho32 hc33
  refine OW.ldN (cs := [U p1.Lo, U p1.Hi]) rfl rfl rfl rfl (by kernel_rfl) (by kernel_rfl) (hst.blkN 0 rfl 0 2) ?_
  obtain ⟨r34, hr35, ho32⟩ := bs ho32
  refine OW.fn rfl rfl rfl rfl (by kernel_rfl) (span_Right_ok _ p1 r34 hr35 (hst.part [] rfl)) ?_
  rintro e w36 ⟨rfl, hst37⟩
  refine ⟨_, rfl, ?_⟩
  have hst := hst.join (idx := []) (rest := [0, 1, 2]) rfl hst37
  refine pu 3 [(26, .bool (!r34))] ?_
  refine OW.split 26 rfl (fun hc38 => ?_) (fun hc38 => ?_)
  ·have ho32 := ite_t ho32 hc38
   refine pu 4 [(30, .bool true)] (OW.nil rfl ?_)
   obtain rfl := inj ho32
   exact QW.meet (fun a ha => ⟨ha.ag, hst.keep [0, 1, 2] rfl⟩)
  have ho32 := ite_f ho32 hc38
  refine OW.ldN (cs := [U p2.Lo, U p2.Hi]) rfl rfl rfl rfl (by kernel_rfl) (by kernel_rfl) (hst.blkN 1 rfl 0 2) ?_
  obtain ⟨r39, hr40, ho32⟩ := bs ho32
  refine OW.fn rfl rfl rfl rfl (by kernel_rfl) (span_Right_ok _ p2 r39 hr40 (hst.part [] rfl)) ?_
  rintro e w41 ⟨rfl, hst42⟩
  refine ⟨_, rfl, ?_⟩
  have hst := hst.join (idx := []) (rest := [0, 1, 2]) rfl hst42
  refine pu 2 [(30, .bool (!r39))] (OW.nil rfl ?_)
  obtain rfl := inj ho32
  exact QW.meet (fun a ha => ⟨ha.ag, hst.keep [0, 1, 2] rfl⟩)
 rintro a w1 ⟨ha, hst⟩
 refine CW.go ?_ ha
 refine br (o31) hF (fun hF hc43 => ?_) (fun hF hc43 => ?_)
 ·refine rg ?_
  refine pu 1 [(31, .agg [U 0, U 0].toArray)] ?_
  refine OW.stB hst 2 rfl rfl rfl rfl rfl (by kernel_rfl) rfl rfl [U 0, U 0] rfl ?_
  intro w45 hst
  refine pu 1 [(7, .bool false)] (nx (CW.ret (QW.then_ret ?_)))
  obtain rfl := inj hF
  refine QW.ret_ct rfl rfl (run_loadN (cs := [U 0, U 0]) (by kernel_rfl) (by kernel_rfl) (hst.blkN 2 rfl 0 2)) rfl ?_
  exact ⟨rfl, hst.keep [] rfl⟩
 refine CW.skip (QW.next (CW.seq (CW.seq ?_)))
 obtain ⟨o59, ho60, hF⟩ := bs hF
 refine CW.cutK (fun a w1 => Rep 127 [(0, I p0), (4, Pt b7), (5, Pt b9), (6, Pt b11), (8, U r17.1), (37, .bool o59)] a ∧ St w (fp []) w1 [blkI b7 115 [U p1.Lo, U p1.Hi], blkI b9 115 [U p2.Lo, U p2.Hi], blkI b11 115 [U 0, U 0]]) ?_ ?_
 ·refine CW.region ?_
  refine OW.ldN (cs := [U p1.Lo, U p1.Hi]) rfl rfl rfl rfl (by kernel_rfl) (by kernel_rfl) (hst.blkN 0 rfl 0 2) ?_
  obtain ⟨r61, hr62, ho60⟩ := bs ho60
  refine OW.fn rfl rfl rfl rfl (by kernel_rfl) (span_single_ok _ p1 r61 hr62 (hst.part [] rfl)) ?_
  rintro e w63 ⟨rfl, hst64⟩
  refine ⟨_, rfl, ?_⟩
  have hst := hst.join (idx := []) (rest := [0, 1, 2]) rfl hst64
  refine pu 1 [(34, .bool r61)] ?_
  refine OW.split 34 rfl (fun hc65 => ?_) (fun hc65 => ?_)
  ·have ho60 := ite_t ho60 hc65
   refine OW.ldN (cs := [U p2.Lo, U p2.Hi]) rfl rfl rfl rfl (by kernel_rfl) (by kernel_rfl) (hst.blkN 1 rfl 0 2) ?_
   obtain ⟨r66, hr67, ho60⟩ := bs ho60
   refine OW.fn rfl rfl rfl rfl (by kernel_rfl) (span_single_ok _ p2 r66 hr67 (hst.part [] rfl)) ?_
   rintro e w68 ⟨rfl, hst69⟩
   refine ⟨_, rfl, ?_⟩
   have hst := hst.join (idx := []) (rest := [0, 1, 2]) rfl hst69
   refine pu 1 [(37, .bool r66)] (OW.nil rfl ?_)
   obtain rfl := inj ho60
   exact QW.meet (fun a ha => ⟨ha.ag, hst.keep [0, 1, 2] rfl⟩)
  have ho60 := ite_f ho60 hc65
  refine pu 3 [(37, .bool false)] (OW.nil rfl ?_)
  obtain rfl := inj ho60
  exact QW.meet (fun a ha => ⟨ha.ag, hst.keep [0, 1, 2] rfl⟩)
 rintro a w1 ⟨ha, hst⟩
 refine CW.go ?_ ha
 refine br (o59) hF (fun hF hc70 => ?_) (fun hF hc70 => ?_)
 ·refine rg ?_
  refine pu 1 [(38, U r17.1)] ?_
  obtain ⟨r76, hr77, hF⟩ := bs hF
  refine OW.fn rfl rfl rfl rfl (by kernel_rfl) (span_Single_ok _ r17.1 r76 hr77 (hst.part [] rfl)) ?_
  rintro e w78 ⟨rfl, hst79⟩
  refine ⟨_, rfl, ?_⟩
  have hst := hst.join (idx := []) (rest := [0, 1, 2]) rfl hst79
  refine OW.stB hst 2 rfl rfl rfl rfl rfl (by kernel_rfl) rfl rfl [U r76.Lo, U r76.Hi] rfl ?_
  intro w80 hst
  refine pu 1 [(7, .bool true)] (nx (CW.ret (QW.then_ret ?_)))
  obtain rfl := inj hF
  refine QW.ret_ct rfl rfl (run_loadN (cs := [U r76.Lo, U r76.Hi]) (by kernel_rfl) (by kernel_rfl) (hst.blkN 2 rfl 0 2)) rfl ?_
  exact ⟨rfl, hst.keep [] rfl⟩
 refine CW.skip (QW.next (CW.seq (rg ?_)))
 refine pu 1 [(40, I p0)] (nx (CW.block (rg ?_)))
 refine pu 2 [(41, .bool (p0 == 1))] (nx ?_)
 refine br ((p0 == 1)) hF (fun hF hc81 => ?_) (fun hF hc81 => ?_)
 ·refine rg ?_
  refine OW.ldN (cs := [U p1.Lo, U p1.Hi]) rfl rfl rfl rfl (by kernel_rfl) (by kernel_rfl) (hst.blkN 0 rfl 0 2) ?_
  refine OW.ldN (cs := [U p2.Lo, U p2.Hi]) rfl rfl rfl rfl (by kernel_rfl) (by kernel_rfl) (hst.blkN 1 rfl 0 2) ?_
  obtain ⟨r87, hr88, hF⟩ := bs hF
  refine OW.fn rfl rfl rfl rfl (by kernel_rfl) (span_sum_ok _ p1 p2 r87 hr88 (hst.part [] rfl)) ?_
  rintro e w89 ⟨rfl, hst90⟩
  refine ⟨_, rfl, ?_⟩
  have hst := hst.join (idx := []) (rest := [0, 1, 2]) rfl hst90
  refine OW.stB hst 2 rfl rfl rfl rfl rfl (by kernel_rfl) rfl rfl [U r87.Lo, U r87.Hi] rfl ?_
  intro w91 hst
  refine pu 1 [(7, .bool true)] (nx (CW.ret (QW.block_ret (QW.then_ret ?_))))
  obtain rfl := inj hF
  refine QW.ret_ct rfl rfl (run_loadN (cs := [U r87.Lo, U r87.Hi]) (by kernel_rfl) (by kernel_rfl) (hst.blkN 2 rfl 0 2)) rfl ?_
  exact ⟨rfl, hst.keep [] rfl⟩
 refine rg ?_
 refine pu 2 [(46, .bool (p0 == 2))] (nx ?_)
 refine br ((p0 == 2)) hF (fun hF hc92 => ?_) (fun hF hc92 => ?_)
 ·refine CW.seq (rg ?_)
  refine pu 1 [(48, Pt b7)] ?_
  refine OW.ld rfl rfl rfl rfl (by kernel_rfl) (hst.blk 0 rfl rfl) ?_
  refine pu 1 [(50, .pointer (some ⟨b9, 1, none⟩))] ?_
  refine OW.ld rfl rfl rfl rfl (by kernel_rfl) (hst.blk 1 rfl rfl) ?_
  refine pu 1 [(52, .bool (decide (p1.Lo < p2.Hi)))] (nx ?_)
  refine br (decide (p1.Lo < p2.Hi)) hF (fun hF hc93 => ?_) (fun hF hc93 => ?_)
  ·refine rg ?_
   obtain ⟨r99, hr100, hF⟩ := bs hF
   refine OW.fn rfl rfl rfl rfl (by kernel_rfl) (span_Full_ok _ r99 hr100 (hst.part [] rfl)) ?_
   rintro e w101 ⟨rfl, hst102⟩
   refine ⟨_, rfl, ?_⟩
   have hst := hst.join (idx := []) (rest := [0, 1, 2]) rfl hst102
   refine OW.stB hst 2 rfl rfl rfl rfl rfl (by kernel_rfl) rfl rfl [U r99.Lo, U r99.Hi] rfl ?_
   intro w103 hst
   refine pu 1 [(7, .bool true)] (nx (CW.ret (QW.then_ret (QW.block_ret (QW.then_ret ?_)))))
   obtain rfl := inj hF
   refine QW.ret_ct rfl rfl (run_loadN (cs := [U r99.Lo, U r99.Hi]) (by kernel_rfl) (by kernel_rfl) (hst.blkN 2 rfl 0 2)) rfl ?_
   exact ⟨rfl, hst.keep [] rfl⟩
  refine CW.skip (QW.next (rg ?_))
  refine pu 1 [(54, Pt b7)] ?_
  refine OW.ld rfl rfl rfl rfl (by kernel_rfl) (hst.blk 0 rfl rfl) ?_
  refine pu 1 [(56, .pointer (some ⟨b9, 1, none⟩))] ?_
  refine OW.ld rfl rfl rfl rfl (by kernel_rfl) (hst.blk 1 rfl rfl) ?_
  refine pu 2 [(58, U (wu64 (p1.Lo - p2.Hi))), (59, .pointer (some ⟨b7, 1, none⟩))] ?_
  refine OW.ld rfl rfl rfl rfl (by kernel_rfl) (hst.blk 0 rfl rfl) ?_
  refine pu 1 [(61, Pt b9)] ?_
  refine OW.ld rfl rfl rfl rfl (by kernel_rfl) (hst.blk 1 rfl rfl) ?_
  refine pu 2 [(64, .agg [U (wu64 (p1.Lo - p2.Hi)), U (wu64 (p1.Hi - p2.Lo))].toArray)] ?_
  refine OW.stB hst 2 rfl rfl rfl rfl rfl (by kernel_rfl) rfl rfl [U (wu64 (p1.Lo - p2.Hi)), U (wu64 (p1.Hi - p2.Lo))] rfl ?_
  intro w105 hst
  refine pu 1 [(7, .bool true)] (nx (CW.ret (QW.block_ret (QW.then_ret ?_))))
  obtain rfl := inj hF
  refine QW.ret_ct rfl rfl (run_loadN (cs := [U (wu64 (p1.Lo - p2.Hi)), U (wu64 (p1.Hi - p2.Lo))]) (by kernel_rfl) (by kernel_rfl) (hst.blkN 2 rfl 0 2)) rfl ?_
  exact ⟨rfl, hst.keep [] rfl⟩
 refine rg ?_
 refine pu 2 [(65, .bool (p0 == 3))] (nx ?_)
 refine br ((p0 == 3)) hF (fun hF hc106 => ?_) (fun hF hc106 => ?_)
 ·refine rg ?_
  refine OW.ldN (cs := [U p1.Lo, U p1.Hi]) rfl rfl rfl rfl (by kernel_rfl) (by kernel_rfl) (hst.blkN 0 rfl 0 2) ?_
  refine OW.ldN (cs := [U p2.Lo, U p2.Hi]) rfl rfl rfl rfl (by kernel_rfl) (by kernel_rfl) (hst.blkN 1 rfl 0 2) ?_
  obtain ⟨r112, hr113, hF⟩ := bs hF
  refine OW.fn rfl rfl rfl rfl (by kernel_rfl) (span_product_ok _ p1 p2 r112 hr113 (hst.part [] rfl)) ?_
  rintro e w114 ⟨rfl, hst115⟩
  refine ⟨_, rfl, ?_⟩
  have hst := hst.join (idx := []) (rest := [0, 1, 2]) rfl hst115
  refine OW.stB hst 2 rfl rfl rfl rfl rfl (by kernel_rfl) rfl rfl [U r112.Lo, U r112.Hi] rfl ?_
  intro w116 hst
  refine pu 1 [(7, .bool true)] (nx (CW.ret (QW.block_ret (QW.then_ret ?_))))
  obtain rfl := inj hF
  refine QW.ret_ct rfl rfl (run_loadN (cs := [U r112.Lo, U r112.Hi]) (by kernel_rfl) (by kernel_rfl) (hst.blkN 2 rfl 0 2)) rfl ?_
  exact ⟨rfl, hst.keep [] rfl⟩
 refine rg ?_
 refine pu 2 [(70, .bool (p0 == 4))] (nx ?_)
 refine br ((p0 == 4)) hF (fun hF hc117 => ?_) (fun hF hc117 => ?_)
 ·refine rg ?_
  refine OW.ldN (cs := [U p1.Lo, U p1.Hi]) rfl rfl rfl rfl (by kernel_rfl) (by kernel_rfl) (hst.blkN 0 rfl 0 2) ?_
  refine OW.ldN (cs := [U p2.Lo, U p2.Hi]) rfl rfl rfl rfl (by kernel_rfl) (by kernel_rfl) (hst.blkN 1 rfl 0 2) ?_
  obtain ⟨r123, hr124, hF⟩ := bs hF
  refine OW.fn rfl rfl rfl rfl (by kernel_rfl) (span_divided_ok _ p1 p2 r123 hr124 (hst.part [] rfl)) ?_
  rintro e w125 ⟨rfl, hst126⟩
  refine ⟨_, rfl, ?_⟩
  have hst := hst.join (idx := []) (rest := [0, 1, 2]) rfl hst126
  refine OW.stB hst 2 rfl rfl rfl rfl rfl (by kernel_rfl) rfl rfl [U r123.Lo, U r123.Hi] rfl ?_
  intro w127 hst
  refine pu 1 [(7, .bool true)] (nx (CW.ret (QW.block_ret (QW.then_ret ?_))))
  obtain rfl := inj hF
  refine QW.ret_ct rfl rfl (run_loadN (cs := [U r123.Lo, U r123.Hi]) (by kernel_rfl) (by kernel_rfl) (hst.blkN 2 rfl 0 2)) rfl ?_
  exact ⟨rfl, hst.keep [] rfl⟩
 refine rg ?_
 refine pu 2 [(75, .bool (p0 == 5))] (nx ?_)
 refine br ((p0 == 5)) hF (fun hF hc128 => ?_) (fun hF hc128 => ?_)
 ·refine rg ?_
  refine OW.ldN (cs := [U p1.Lo, U p1.Hi]) rfl rfl rfl rfl (by kernel_rfl) (by kernel_rfl) (hst.blkN 0 rfl 0 2) ?_
  refine OW.ldN (cs := [U p2.Lo, U p2.Hi]) rfl rfl rfl rfl (by kernel_rfl) (by kernel_rfl) (hst.blkN 1 rfl 0 2) ?_
  obtain ⟨r134, hr135, hF⟩ := bs hF
  refine OW.fn rfl rfl rfl rfl (by kernel_rfl) (span_rest_ok _ p1 p2 r134 hr135 (hst.part [] rfl)) ?_
  rintro e w136 ⟨rfl, hst137⟩
  refine ⟨_, rfl, ?_⟩
  have hst := hst.join (idx := []) (rest := [0, 1, 2]) rfl hst137
  refine OW.stB hst 2 rfl rfl rfl rfl rfl (by kernel_rfl) rfl rfl [U r134.Lo, U r134.Hi] rfl ?_
  intro w138 hst
  refine pu 1 [(7, .bool true)] (nx (CW.ret (QW.block_ret (QW.then_ret ?_))))
  obtain rfl := inj hF
  refine QW.ret_ct rfl rfl (run_loadN (cs := [U r134.Lo, U r134.Hi]) (by kernel_rfl) (by kernel_rfl) (hst.blkN 2 rfl 0 2)) rfl ?_
  exact ⟨rfl, hst.keep [] rfl⟩
 refine rg ?_
 refine pu 2 [(80, .bool (p0 == 6))] (nx ?_)
 refine br ((p0 == 6)) hF (fun hF hc139 => ?_) (fun hF hc139 => ?_)
 ·refine rg ?_
  refine pu 1 [(82, .pointer (some ⟨b7, 1, none⟩))] ?_
  refine OW.ld rfl rfl rfl rfl (by kernel_rfl) (hst.blk 0 rfl rfl) ?_
  refine pu 1 [(84, .pointer (some ⟨b9, 1, none⟩))] ?_
  refine OW.ld rfl rfl rfl rfl (by kernel_rfl) (hst.blk 1 rfl rfl) ?_
  refine pu 2 [(87, .agg [U 0, U (imin p1.Hi p2.Hi)].toArray)] ?_
  refine OW.stB hst 2 rfl rfl rfl rfl rfl (by kernel_rfl) rfl rfl [U 0, U (imin p1.Hi p2.Hi)] rfl ?_
  intro w141 hst
  refine pu 1 [(7, .bool true)] (nx (CW.ret (QW.block_ret (QW.then_ret ?_))))
  obtain rfl := inj hF
  refine QW.ret_ct rfl rfl (run_loadN (cs := [U 0, U (imin p1.Hi p2.Hi)]) (by kernel_rfl) (by kernel_rfl) (hst.blkN 2 rfl 0 2)) rfl ?_
  exact ⟨rfl, hst.keep [] rfl⟩
 refine rg ?_
 refine pu 2 [(88, .bool (p0 == 7))] (nx ?_)
 refine br ((p0 == 7)) hF (fun hF hc142 => ?_) (fun hF hc142 => ?_)
 ·refine CW.seq ?_
  refine CW.plan (by kernel_rfl) ?_
  intro w150 hch151
  have hst := hst.same hch151
  refine OA.pure [0] [(90, Pt b7)] (by kernel_rfl) ?_
  refine OA.ld (i := 1) rfl (by kernel_rfl) rfl rfl rfl (by kernel_rfl) (hst.blk 0 rfl rfl) ?_
  refine OA.pure [2] [(92, Pt b9)] (by kernel_rfl) ?_
  refine OA.ld (i := 3) rfl (by kernel_rfl) rfl rfl rfl (by kernel_rfl) (hst.blk 1 rfl rfl) ?_
  refine OA.pure [4, 5] [(94, U (imax p1.Lo p2.Lo)), (95, .pointer (some ⟨b7, 1, none⟩))] (by kernel_rfl) ?_
  refine OA.ld (i := 6) rfl (by kernel_rfl) rfl rfl rfl (by kernel_rfl) (hst.blk 0 rfl rfl) ?_
  refine OA.pure [7] [(97, .pointer (some ⟨b9, 1, none⟩))] (by kernel_rfl) ?_
  refine OA.ld (i := 8) rfl (by kernel_rfl) rfl rfl rfl (by kernel_rfl) (hst.blk 1 rfl rfl) ?_
  refine OA.pure [9] [(99, U (bOr .u64 p1.Hi p2.Hi))] (by kernel_rfl) ?_
  refine OA.act (i := 10) [3, 1] (by kernel_rfl) rfl rfl (by kernel_rfl) (by kernel_rfl) ?_
  obtain ⟨r152, hr153, hF⟩ := bs hF
  refine OW.fn rfl rfl rfl rfl (by kernel_rfl) (span_ones_ok _ (bOr .u64 p1.Hi p2.Hi) r152 hr153 (hst.part [] rfl)) ?_
  rintro e w154 ⟨rfl, hst155⟩
  refine ⟨_, rfl, ?_⟩
  have hst := hst.join (idx := []) (rest := [0, 1, 2]) rfl hst155
  refine OA.next ⟨(hst.blk 1 rfl rfl), (hst.blk 0 rfl rfl), trivial⟩ ?_
  refine OA.pure [11] [(101, .agg [U (imax p1.Lo p2.Lo), U r152].toArray)] (by kernel_rfl) ?_
  refine OA.act (i := 12) [] (by kernel_rfl) rfl rfl (by kernel_rfl) (by kernel_rfl) ?_
  refine OW.stB hst 2 rfl rfl rfl rfl rfl (by kernel_rfl) rfl rfl [U (imax p1.Lo p2.Lo), U r152] rfl ?_
  intro w156 hst
  refine OA.next trivial ?_
  refine OA.act (i := 13) [] (by kernel_rfl) rfl rfl (by kernel_rfl) (by kernel_rfl) ?_
  refine pu 1 [(7, .bool true)] (OA.next trivial ?_)
  refine OA.fin (by kernel_rfl) (by kernel_rfl) (QW.next (CW.ret (QW.block_ret (QW.then_ret ?_))))
  obtain rfl := inj hF
  refine QW.ret_ct rfl rfl (run_loadN (cs := [U (imax p1.Lo p2.Lo), U r152]) (by kernel_rfl) (by kernel_rfl) (hst.blkN 2 rfl 0 2)) rfl ?_
  exact ⟨rfl, hst.keep [] rfl⟩
 refine rg ?_
 refine pu 2 [(102, .bool (p0 == 8))] (nx ?_)
 refine br ((p0 == 8)) hF (fun hF hc157 => ?_) (fun hF hc157 => ?_)
 ·refine rg ?_
  refine pu 1 [(104, .pointer (some ⟨b7, 1, none⟩))] ?_
  refine OW.ld rfl rfl rfl rfl (by kernel_rfl) (hst.blk 0 rfl rfl) ?_
  refine pu 1 [(106, .pointer (some ⟨b9, 1, none⟩))] ?_
  refine OW.ld rfl rfl rfl rfl (by kernel_rfl) (hst.blk 1 rfl rfl) ?_
  refine pu 1 [(108, U (bOr .u64 p1.Hi p2.Hi))] ?_
  obtain ⟨r163, hr164, hF⟩ := bs hF
  refine OW.fn rfl rfl rfl rfl (by kernel_rfl) (span_ones_ok _ (bOr .u64 p1.Hi p2.Hi) r163 hr164 (hst.part [] rfl)) ?_
  rintro e w165 ⟨rfl, hst166⟩
  refine ⟨_, rfl, ?_⟩
  have hst := hst.join (idx := []) (rest := [0, 1, 2]) rfl hst166
  refine pu 1 [(110, .agg [U 0, U r163].toArray)] ?_
  refine OW.stB hst 2 rfl rfl rfl rfl rfl (by kernel_rfl) rfl rfl [U 0, U r163] rfl ?_
  intro w167 hst
  refine pu 1 [(7, .bool true)] (nx (CW.ret (QW.block_ret (QW.then_ret ?_))))
  obtain rfl := inj hF
  refine QW.ret_ct rfl rfl (run_loadN (cs := [U 0, U r163]) (by kernel_rfl) (by kernel_rfl) (hst.blkN 2 rfl 0 2)) rfl ?_
  exact ⟨rfl, hst.keep [] rfl⟩
 refine rg ?_
 refine pu 2 [(111, .bool (p0 == 9))] (nx ?_)
 refine br ((p0 == 9)) hF (fun hF hc168 => ?_) (fun hF hc168 => ?_)
 ·refine rg ?_
  refine OW.ldN (cs := [U p1.Lo, U p1.Hi]) rfl rfl rfl rfl (by kernel_rfl) (by kernel_rfl) (hst.blkN 0 rfl 0 2) ?_
  refine OW.ldN (cs := [U p2.Lo, U p2.Hi]) rfl rfl rfl rfl (by kernel_rfl) (by kernel_rfl) (hst.blkN 1 rfl 0 2) ?_
  obtain ⟨r174, hr175, hF⟩ := bs hF
  refine OW.fn rfl rfl rfl rfl (by kernel_rfl) (span_left_ok _ p1 p2 r174 hr175 (hst.part [] rfl)) ?_
  rintro e w176 ⟨rfl, hst177⟩
  refine ⟨_, rfl, ?_⟩
  have hst := hst.join (idx := []) (rest := [0, 1, 2]) rfl hst177
  refine OW.stB hst 2 rfl rfl rfl rfl rfl (by kernel_rfl) rfl rfl [U r174.Lo, U r174.Hi] rfl ?_
  intro w178 hst
  refine pu 1 [(7, .bool true)] (nx (CW.ret (QW.block_ret (QW.then_ret ?_))))
  obtain rfl := inj hF
  refine QW.ret_ct rfl rfl (run_loadN (cs := [U r174.Lo, U r174.Hi]) (by kernel_rfl) (by kernel_rfl) (hst.blkN 2 rfl 0 2)) rfl ?_
  exact ⟨rfl, hst.keep [] rfl⟩
 refine CW.skip (QW.block_normal (QW.next (rg ?_)))
 refine pu 1 [(116, Pt b7)] ?_
 refine OW.ld rfl rfl rfl rfl (by kernel_rfl) (hst.blk 0 rfl rfl) ?_
 refine pu 1 [(118, .pointer (some ⟨b9, 1, none⟩))] ?_
 refine OW.ld rfl rfl rfl rfl (by kernel_rfl) (hst.blk 1 rfl rfl) ?_
 obtain ⟨u184, hz185, hF⟩ := bs hF
 refine OW.op (v := U (bShr .u64 p1.Lo p2.Hi)) rfl rfl rfl rfl (fun a ha => shr_run rfl rfl rfl (nn_ge hz185) a _ ha) ?_
 refine pu 1 [(121, .pointer (some ⟨b7, 1, none⟩))] ?_
 refine OW.ld rfl rfl rfl rfl (by kernel_rfl) (hst.blk 0 rfl rfl) ?_
 refine pu 1 [(123, Pt b9)] ?_
 refine OW.ld rfl rfl rfl rfl (by kernel_rfl) (hst.blk 1 rfl rfl) ?_
 obtain ⟨u186, hz187, hF⟩ := bs hF
 refine OW.op (v := U (bShr .u64 p1.Hi p2.Lo)) rfl rfl rfl rfl (fun a ha => shr_run rfl rfl rfl (nn_ge hz187) a _ ha) ?_
 refine pu 1 [(126, .agg [U (bShr .u64 p1.Lo p2.Hi), U (bShr .u64 p1.Hi p2.Lo)].toArray)] ?_
 refine OW.stB hst 2 rfl rfl rfl rfl rfl (by kernel_rfl) rfl rfl [U (bShr .u64 p1.Lo p2.Hi), U (bShr .u64 p1.Hi p2.Lo)] rfl ?_
 intro w188 hst
 refine pu 1 [(7, .bool true)] (nx (CW.ret ?_))
 obtain rfl := inj hF
 refine QW.ret_ct rfl rfl (run_loadN (cs := [U (bShr .u64 p1.Lo p2.Hi), U (bShr .u64 p1.Hi p2.Lo)]) (by kernel_rfl) (by kernel_rfl) (hst.blkN 2 rfl 0 2)) rfl ?_
 exact ⟨rfl, hst.keep [] rfl⟩
theorem judge_judge_one_ok (w : World) (wb : World) (Sb : List Nat) (fu : Nat) (v0 : Value) (S0 : List Nat) (p0 : judge_judge) (p1 : Int) (r : (Nat → api_Type) × Int) (hF : judge_judge_one fu p0 p1 = some r)
    (hst : St w (fp [itI (R_t83 wb Sb) [v0] S0 p0]) w [itI (R_t83 wb Sb) [v0] S0 p0]) (hb : Bor wb Sb w (fp [itI (R_t83 wb Sb) [v0] S0 p0])) (hT0 : Rd w (fp [itI (R_t83 wb Sb) [v0] S0 p0]) (.slice (some ⟨0, 0, none⟩) 23 23) enc_ops_form 2 tab_g0) (hT1 : Rd w (fp [itI (R_t83 wb Sb) [v0] S0 p0]) (.slice (some ⟨1, 0, none⟩) 7 7) enc_sigs_sig 5 tab_g1) :
    Calls Tryd.prog 34 [v0, I p1].toArray w (fun e w' => ∃ (s0 : List Nat), e = .returned (.tuple #[.agg (arrC (enc_api_Type) 8 r.1).toArray, I r.2]) ∧ St w (fp [itI (R_t83 wb Sb) [v0] S0 p0]) w' [itI (R_t83 wb Sb) [v0] s0 p0]) := by
 refine CW.start (N := 194) Tryd.func34 rfl rfl rfl ?_
 obtain ⟨b1, rfl⟩ := hst.fptr 0 rfl
 refine rg ?_
 refine OW.alloc hst rfl rfl rfl [I 0, U 0, U 0, I 0, I 0, U 0, U 0, I 0, I 0, U 0, U 0, I 0, I 0, U 0, U 0, I 0, I 0, U 0, U 0, I 0, I 0, U 0, U 0, I 0, I 0, U 0, U 0, I 0, I 0, U 0, U 0, I 0] (by kernel_rfl) ?_
 intro b4 w5 hst
 refine pu 1 [] (nx (CW.seq ?_))
 obtain ⟨v6, S7, v8, S9, v10, S11, v12, S13, v14, S15, hst⟩ := hst.openQ5 0 rfl rfl rfl rfl rfl rfl
 have hbo16 := hst.borOut 2 rfl
 have hbr17 := hbo16.bor hb
 have hbo18 := hst.borOut 3 rfl
 have hbr19 := hbo18.bor hb
 have hst := hst.toRow1 4 rfl
 have hst := hst.toRow1 5 rfl
 have hst := hst.toRow1 6 rfl
 have hst := hst.keep [0, 1, 4, 5, 6] rfl
 obtain ⟨l20, a21, c22, rfl⟩ := hbr17.len
 obtain ⟨l23, a24, c25, rfl⟩ := hbr19.len
 obtain ⟨l26, a27, c28, rfl⟩ := hst.len 2 rfl
 obtain ⟨l29, a30, c31, rfl⟩ := hst.len 3 rfl
 obtain ⟨l32, a33, c34, rfl⟩ := hst.len 4 rfl
 have hst : St _ _ _ [blkI b1 109 [.slice a21 (p0.Module.Maps).length c22, .slice a24 (p0.Module.Code).length c25, .slice a27 (p0.came).length c28, .slice a30 (p0.any).length c31, .slice a33 (p0.loops).length c34], _, _, _, _] := hst
 obtain ⟨o81, ho82, hF⟩ := bs hF
 refine CW.cutK (fun a w1 => ∃ (S78 : List Nat) (b79 : Nat) (b80 : Nat), Rep 194 [(0, Pt b1), (1, I p1), (4, Pt b4), (6, Pt b79), (7, Pt b80)] a ∧ St w (fp [itI (R_t83 wb Sb) [Pt b1] S0 p0]) w1 [itI (R_t83 wb Sb) [Pt b1] S78 p0, blkI b4 119 [I 0, U 0, U 0, I 0, I 0, U 0, U 0, I 0, I 0, U 0, U 0, I 0, I 0, U 0, U 0, I 0, I 0, U 0, U 0, I 0, I 0, U 0, U 0, I 0, I 0, U 0, U 0, I 0, I 0, U 0, U 0, I 0], blkI b79 76 [I o81.1.Op, I o81.1.D, I o81.1.A, I o81.1.B, I o81.1.Imm], blkI b80 119 (arrC (enc_api_Type) 8 o81.2)]) ?_ ?_
 ·refine CW.plan (by kernel_rfl) ?_
  intro w83 hch84
  have hst := hst.same hch84
  refine OA.pure [0, 1, 2, 3] [(19, .pointer (some ⟨b1, 1, none⟩))] (by kernel_rfl) ?_
  refine OA.ld (i := 4) rfl (by kernel_rfl) rfl rfl rfl (by kernel_rfl) (hst.blk 0 rfl rfl) ?_
  refine OA.pure [5] [(21, I p1)] (by kernel_rfl) ?_
  obtain ⟨x85, hx86, ho82⟩ := bs ho82
  obtain ⟨g88, o89, c90, hv87⟩ := hbr19.formv (fun _ => ⟨_, rfl⟩) hx86
  refine OA.idx (i := 6) 76 5 rfl (by kernel_rfl) rfl rfl rfl hv87 rfl (idx_some hx86).1 (idx_some hx86).2.1 (by kernel_rfl) (by kernel_rfl) ?_
  refine OA.ldN (i := 7) (cs := enc_api_Inst x85) rfl (by kernel_rfl) rfl rfl rfl (by kernel_rfl) (by kernel_rfl) (hbr19.cellv hst hx86 hv87) ?_
  refine OA.pure [8, 9, 10] [(26, .pointer (some ⟨b1, 2, none⟩))] (by kernel_rfl) ?_
  refine OA.ld (i := 11) rfl (by kernel_rfl) rfl rfl rfl (by kernel_rfl) (hst.blk 0 rfl rfl) ?_
  refine OA.pure [12] [(28, I p1)] (by kernel_rfl) ?_
  obtain ⟨x91, hx92, ho82⟩ := bs ho82
  obtain ⟨g94, o95, c96, hv93⟩ := hst.rowv 2 rfl hx92
  refine OA.idx (i := 13) 119 32 rfl (by kernel_rfl) rfl rfl rfl hv93 rfl (idx_some hx92).1 (idx_some hx92).2.1 (by kernel_rfl) (by kernel_rfl) ?_
  refine OA.ldN (i := 14) (cs := arrC (enc_api_Type) 8 x91) rfl (by kernel_rfl) rfl rfl rfl (by kernel_rfl) (by kernel_rfl) (hst.rowc 2 rfl (fun _ => rfl) hx92 hv93) ?_
  refine OA.acts [15, 16] 15 (by kernel_rfl) (by kernel_rfl) (by kernel_rfl) (alts_cons ?_ (alts_cons ?_ alts_nil))
  ·refine Alt.of (i := 15) [14, 11, 7, 4] rfl rfl (by kernel_rfl) (by kernel_rfl) ?_
   refine OW.alloc hst rfl rfl rfl [I 0, I 0, I 0, I 0, I 0] (by kernel_rfl) ?_
   intro b97 w98 hst
   refine OA.next ⟨(hst.rowc 2 rfl (fun _ => rfl) hx92 hv93), (hst.blk 0 rfl rfl), (hbr19.cellv hst hx86 hv87), (hst.blk 0 rfl rfl), trivial⟩ ?_
   refine OA.act (i := 16) [14, 11, 7, 4] (by kernel_rfl) rfl rfl (by kernel_rfl) (by kernel_rfl) ?_
   refine OW.alloc hst rfl rfl rfl [I 0, U 0, U 0, I 0, I 0, U 0, U 0, I 0, I 0, U 0, U 0, I 0, I 0, U 0, U 0, I 0, I 0, U 0, U 0, I 0, I 0, U 0, U 0, I 0, I 0, U 0, U 0, I 0, I 0, U 0, U 0, I 0] (by kernel_rfl) ?_
   intro b99 w100 hst
   refine OA.next ⟨(hst.rowc 2 rfl (fun _ => rfl) hx92 hv93), (hst.blk 0 rfl rfl), (hbr19.cellv hst hx86 hv87), (hst.blk 0 rfl rfl), trivial⟩ ?_
   refine OA.act (i := 17) [14, 11] (by kernel_rfl) rfl rfl (by kernel_rfl) (by kernel_rfl) ?_
   refine OW.stB hst 5 rfl rfl rfl rfl rfl (by kernel_rfl) rfl rfl [I x85.Op, I x85.D, I x85.A, I x85.B, I x85.Imm] rfl ?_
   intro w101 hst
   refine OA.next ⟨(hst.rowc 2 rfl (fun _ => rfl) hx92 hv93), (hst.blk 0 rfl rfl), trivial⟩ ?_
   refine OA.act (i := 18) [] (by kernel_rfl) rfl rfl (by kernel_rfl) (by kernel_rfl) ?_
   refine OW.stB hst 6 rfl rfl rfl rfl rfl (by kernel_rfl) rfl rfl (arrC (enc_api_Type) 8 x91) rfl ?_
   intro w102 hst
   refine OA.next trivial ?_
   refine OA.fin (by kernel_rfl) (by kernel_rfl) ?_
   have hst := hst.borIn hbo16
   have hst := hst.borIn hbo18
   have hst := hst.toIt 2 rfl (fun _ => rfl) (by decide)
   have hst := hst.toIt 3 rfl (fun _ => rfl) (by decide)
   have hst := hst.toIt 4 rfl (fun _ => rfl) (by decide)
   obtain ⟨S103, hst⟩ := hst.shutP5 (R_t109 wb Sb) rfl 0 7 8 2 3 4 [1, 5, 6] rfl rfl rfl rfl rfl rfl rfl p0 rfl rfl
   obtain rfl := inj ho82
   exact QW.meet (fun a ha => ⟨S103, b97, b99, ha.ag, hst.keep [3, 0, 1, 2] rfl⟩)
  refine Alt.of (i := 16) [14, 11, 7, 4] rfl rfl (by kernel_rfl) (by kernel_rfl) ?_
  refine OW.alloc hst rfl rfl rfl [I 0, U 0, U 0, I 0, I 0, U 0, U 0, I 0, I 0, U 0, U 0, I 0, I 0, U 0, U 0, I 0, I 0, U 0, U 0, I 0, I 0, U 0, U 0, I 0, I 0, U 0, U 0, I 0, I 0, U 0, U 0, I 0] (by kernel_rfl) ?_
  intro b104 w105 hst
  refine OA.next ⟨(hst.rowc 2 rfl (fun _ => rfl) hx92 hv93), (hst.blk 0 rfl rfl), (hbr19.cellv hst hx86 hv87), (hst.blk 0 rfl rfl), trivial⟩ ?_
  refine OA.act (i := 15) [14, 11, 7, 4] (by kernel_rfl) rfl rfl (by kernel_rfl) (by kernel_rfl) ?_
  refine OW.alloc hst rfl rfl rfl [I 0, I 0, I 0, I 0, I 0] (by kernel_rfl) ?_
  intro b106 w107 hst
  refine OA.next ⟨(hst.rowc 2 rfl (fun _ => rfl) hx92 hv93), (hst.blk 0 rfl rfl), (hbr19.cellv hst hx86 hv87), (hst.blk 0 rfl rfl), trivial⟩ ?_
  refine OA.act (i := 17) [14, 11] (by kernel_rfl) rfl rfl (by kernel_rfl) (by kernel_rfl) ?_
  refine OW.stB hst 6 rfl rfl rfl rfl rfl (by kernel_rfl) rfl rfl [I x85.Op, I x85.D, I x85.A, I x85.B, I x85.Imm] rfl ?_
  intro w108 hst
  refine OA.next ⟨(hst.rowc 2 rfl (fun _ => rfl) hx92 hv93), (hst.blk 0 rfl rfl), trivial⟩ ?_
  refine OA.act (i := 18) [] (by kernel_rfl) rfl rfl (by kernel_rfl) (by kernel_rfl) ?_
  refine OW.stB hst 5 rfl rfl rfl rfl rfl (by kernel_rfl) rfl rfl (arrC (enc_api_Type) 8 x91) rfl ?_
  intro w109 hst
  refine OA.next trivial ?_
  refine OA.fin (by kernel_rfl) (by kernel_rfl) ?_
  have hst := hst.borIn hbo16
  have hst := hst.borIn hbo18
  have hst := hst.toIt 2 rfl (fun _ => rfl) (by decide)
  have hst := hst.toIt 3 rfl (fun _ => rfl) (by decide)
  have hst := hst.toIt 4 rfl (fun _ => rfl) (by decide)
  obtain ⟨S110, hst⟩ := hst.shutP5 (R_t109 wb Sb) rfl 0 7 8 2 3 4 [1, 5, 6] rfl rfl rfl rfl rfl rfl rfl p0 rfl rfl
  obtain rfl := inj ho82
  exact QW.meet (fun a ha => ⟨S110, b106, b104, ha.ag, hst.keep [3, 0, 2, 1] rfl⟩)
 rintro a w1 ⟨S78, b79, b80, ha, hst⟩
 refine CW.go ?_ ha
 refine rg ?_
 refine pu 2 [(31, .agg [I 0, U 0, U 0, I 0].toArray), (32, .agg [I 0, U 0, U 0, I 0].toArray)] ?_
 refine OW.alloc hst rfl rfl rfl [I 0, U 0, U 0, I 0] (by kernel_rfl) ?_
 intro b117 w118 hst
 refine OW.alloc hst rfl rfl rfl [I 0, U 0, U 0, I 0] (by kernel_rfl) ?_
 intro b119 w120 hst
 refine OW.stB hst 4 rfl rfl rfl rfl rfl (by kernel_rfl) rfl rfl [I 0, U 0, U 0, I 0] rfl ?_
 intro w121 hst
 refine OW.stB hst 5 rfl rfl rfl rfl rfl (by kernel_rfl) rfl rfl [I 0, U 0, U 0, I 0] rfl ?_
 intro w122 hst
 refine nx (CW.seq (rg ?_))
 refine OW.ldN (cs := [I o81.1.Op, I o81.1.D, I o81.1.A, I o81.1.B, I o81.1.Imm]) rfl rfl rfl rfl (by kernel_rfl) (by kernel_rfl) (hst.blkN 2 rfl 0 5) ?_
 obtain ⟨r127, hr128, hF⟩ := bs hF
 refine OW.fn rfl rfl rfl rfl (by kernel_rfl) (ops_Source_ok _ o81.1 r127 hr128 (hst.part [] rfl) (hT0.give hst [])) ?_
 rintro e w129 ⟨rfl, hst130⟩
 refine ⟨_, rfl, ?_⟩
 have hst := hst.join (idx := []) (rest := [0, 1, 2, 3, 4, 5]) rfl hst130
 refine nx ?_
 obtain ⟨o142, ho143, hF⟩ := bs hF
 refine CW.cutK (fun a w1 => Rep 194 [(0, Pt b1), (1, I p1), (4, Pt b4), (6, Pt b79), (7, Pt b80), (8, Pt b117), (9, Pt b119)] a ∧ St w (fp [itI (R_t83 wb Sb) [Pt b1] S0 p0]) w1 [itI (R_t83 wb Sb) [Pt b1] S78 p0, blkI b4 119 [I 0, U 0, U 0, I 0, I 0, U 0, U 0, I 0, I 0, U 0, U 0, I 0, I 0, U 0, U 0, I 0, I 0, U 0, U 0, I 0, I 0, U 0, U 0, I 0, I 0, U 0, U 0, I 0, I 0, U 0, U 0, I 0], blkI b79 76 [I o81.1.Op, I o81.1.D, I o81.1.A, I o81.1.B, I o81.1.Imm], blkI b80 119 (arrC (enc_api_Type) 8 o81.2), blkI b117 117 [I 0, U 0, U 0, I 0], blkI b119 117 [I o142.Kind, U o142.Span.Lo, U o142.Span.Hi, I o142.Map]]) ?_ ?_
 ·refine br (r127) ho143 (fun ho143 hc144 => ?_) (fun ho143 hc144 => ?_)
  ·refine CW.region ?_
   refine OW.ldN (cs := [I o81.1.Op, I o81.1.D, I o81.1.A, I o81.1.B, I o81.1.Imm]) rfl rfl rfl rfl (by kernel_rfl) (by kernel_rfl) (hst.blkN 2 rfl 0 5) ?_
   refine OW.ldN (cs := (arrC (enc_api_Type) 8 o81.2)) rfl rfl rfl rfl (by kernel_rfl) (by kernel_rfl) (hst.blkN 3 rfl 0 32) ?_
   obtain ⟨r150, hr151, ho143⟩ := bs ho143
   refine OW.fn rfl rfl rfl rfl (by kernel_rfl) (judge_source_ok _ o81.1 o81.2 r150 hr151 (hst.part [] rfl)) ?_
   rintro e w152 ⟨rfl, hst153⟩
   refine ⟨_, rfl, ?_⟩
   have hst := hst.join (idx := []) (rest := [0, 1, 2, 3, 4, 5]) rfl hst153
   refine OW.stB hst 5 rfl rfl rfl rfl rfl (by kernel_rfl) rfl rfl [I r150.Kind, U r150.Span.Lo, U r150.Span.Hi, I r150.Map] rfl ?_
   intro w154 hst
   refine OW.nil rfl ?_
   obtain rfl := inj ho143
   exact QW.meet (fun a ha => ⟨ha.ag, hst.keep [0, 1, 2, 3, 4, 5] rfl⟩)
  refine CW.skip ?_
  obtain rfl := inj ho143
  exact QW.meet (fun a ha => ⟨ha.ag, hst.keep [0, 1, 2, 3, 4, 5] rfl⟩)
 rintro a w1 ⟨ha, hst⟩
 refine CW.go ?_ ha
 refine rg ?_
 refine pu 1 [(38, .pointer (some ⟨b79, 2, none⟩))] ?_
 refine OW.ld rfl rfl rfl rfl (by kernel_rfl) (hst.blk 2 rfl rfl) ?_
 obtain ⟨i158, hi159, hF⟩ := bs hF
 refine OW.op (v := .pointer (some ⟨b80, 0 + Int.toNat o81.1.A * 4, none⟩)) rfl rfl rfl rfl (fun a ha => aidx_run (n := 8) 117 4 rfl rfl rfl (ain_some hi159).1 (ain_some hi159).2.1 (by kernel_rfl) (by kernel_rfl) a _ ha) ?_
 refine OW.ldN (cs := enc_api_Type (o81.2 i158)) rfl rfl rfl rfl (by kernel_rfl) (by kernel_rfl) (hst.arrB 3 rfl enc_api_Type (fun _ => rfl) 8 o81.2 0 rfl rfl hi159) ?_
 refine OW.stB hst 4 rfl rfl rfl rfl rfl (by kernel_rfl) rfl rfl [I (o81.2 i158).Kind, U (o81.2 i158).Span.Lo, U (o81.2 i158).Span.Hi, I (o81.2 i158).Map] rfl ?_
 intro w160 hst
 refine nx (CW.seq (rg ?_))
 refine pu 1 [(42, Pt b79)] ?_
 refine OW.ld rfl rfl rfl rfl (by kernel_rfl) (hst.blk 2 rfl rfl) (nx (CW.block (rg ?_)))
 refine pu 2 [(64, .bool (o81.1.Op == 0))] (nx ?_)
 refine br ((o81.1.Op == 0)) hF (fun hF hc161 => ?_) (fun hF hc161 => ?_)
 ·refine CW.seq (rg ?_)
  refine pu 1 [(66, Pt b119)] ?_
  refine OW.ld rfl rfl rfl rfl (by kernel_rfl) (hst.blk 5 rfl rfl) ?_
  refine pu 1 [(68, .bool (o142.Kind == 0))] (nx ?_)
  refine br ((o142.Kind == 0)) hF (fun hF hc162 => ?_) (fun hF hc162 => ?_)
  ·refine rg ?_
   refine OW.ldN (cs := (arrC (enc_api_Type) 8 o81.2)) rfl rfl rfl rfl (by kernel_rfl) (by kernel_rfl) (hst.blkN 3 rfl 0 32) ?_
   refine OW.stB hst 1 rfl rfl rfl rfl rfl (by kernel_rfl) rfl rfl (arrC (enc_api_Type) 8 o81.2) rfl ?_
   intro w164 hst
   refine pu 1 [(5, I 33)] (nx (CW.ret (QW.then_ret (QW.block_ret (QW.then_ret ?_)))))
   obtain rfl := inj hF
   refine QW.ret_ct rfl rfl (run_loadN (cs := (arrC (enc_api_Type) 8 o81.2)) (by kernel_rfl) (by kernel_rfl) (hst.blkN 1 rfl 0 32)) rfl ?_
   exact ⟨S78, rfl, hst.keep [0] rfl⟩
  refine CW.skip (QW.next (CW.region ?_))
  refine pu 1 [(70, .pointer (some ⟨b79, 1, none⟩))] ?_
  refine OW.ld rfl rfl rfl rfl (by kernel_rfl) (hst.blk 2 rfl rfl) ?_
  refine OW.ldN (cs := [I o142.Kind, U o142.Span.Lo, U o142.Span.Hi, I o142.Map]) rfl rfl rfl rfl (by kernel_rfl) (by kernel_rfl) (hst.blkN 5 rfl 0 4) ?_
  obtain ⟨i168, hi169, hF⟩ := bs hF
  refine OW.op (v := .pointer (some ⟨b80, 0 + Int.toNat o81.1.D * 4, none⟩)) rfl rfl rfl rfl (fun a ha => aidx_run (n := 8) 117 4 rfl rfl rfl (ain_some hi169).1 (ain_some hi169).2.1 (by kernel_rfl) (by kernel_rfl) a _ ha) ?_
  refine OW.stA hst 3 rfl rfl rfl rfl rfl (by kernel_rfl) rfl enc_api_Type (fun _ => rfl) 8 o81.2 0 rfl rfl hi169 0 rfl rfl o142 rfl (arrC (enc_api_Type) 8 (aset o81.2 i168 o142)) rfl ?_
  intro w170 hst
  refine OW.nil rfl (QW.block_normal (QW.next (rg ?_)))
  refine OW.ldN (cs := (arrC (enc_api_Type) 8 (aset o81.2 i168 o142))) rfl rfl rfl rfl (by kernel_rfl) (by kernel_rfl) (hst.blkN 3 rfl 0 32) ?_
  refine OW.stB hst 1 rfl rfl rfl rfl rfl (by kernel_rfl) rfl rfl (arrC (enc_api_Type) 8 (aset o81.2 i168 o142)) rfl ?_
  intro w172 hst
  refine pu 1 [(5, I 0)] (nx (CW.ret ?_))
  obtain rfl := inj hF
  refine QW.ret_ct rfl rfl (run_loadN (cs := (arrC (enc_api_Type) 8 (aset o81.2 i168 o142))) (by kernel_rfl) (by kernel_rfl) (hst.blkN 1 rfl 0 32)) rfl ?_
  exact ⟨S78, rfl, hst.keep [0] rfl⟩
 refine rg ?_
 refine pu 2 [(74, .bool (o81.1.Op == 11))] (nx ?_)
 refine br ((o81.1.Op == 11)) hF (fun hF hc173 => ?_) (fun hF hc173 => ?_)
 ·refine CW.seq ?_
  refine CW.plan (by kernel_rfl) ?_
  intro w187 hch188
  have hst := hst.same hch188
  refine OA.pure [0] [(76, .pointer (some ⟨b79, 1, none⟩))] (by kernel_rfl) ?_
  refine OA.ld (i := 1) rfl (by kernel_rfl) rfl rfl rfl (by kernel_rfl) (hst.blk 2 rfl rfl) ?_
  refine OA.act (i := 2) [1] (by kernel_rfl) rfl rfl (by kernel_rfl) (by kernel_rfl) ?_
  obtain ⟨r189, hr190, hF⟩ := bs hF
  refine OW.fn rfl rfl rfl rfl (by kernel_rfl) (span_Full_ok _ r189 hr190 (hst.part [] rfl)) ?_
  rintro e w191 ⟨rfl, hst192⟩
  refine ⟨_, rfl, ?_⟩
  have hst := hst.join (idx := []) (rest := [0, 1, 2, 3, 4, 5]) rfl hst192
  refine OA.next ⟨(hst.blk 2 rfl rfl), trivial⟩ ?_
  refine OA.act (i := 3) [1] (by kernel_rfl) rfl rfl (by kernel_rfl) (by kernel_rfl) ?_
  obtain ⟨r193, hr194, hF⟩ := bs hF
  refine OW.fn rfl rfl rfl rfl (by kernel_rfl) (judge_number_ok _ r189 r193 hr194 (hst.part [] rfl)) ?_
  rintro e w195 ⟨rfl, hst196⟩
  refine ⟨_, rfl, ?_⟩
  have hst := hst.join (idx := []) (rest := [0, 1, 2, 3, 4, 5]) rfl hst196
  refine OA.next ⟨(hst.blk 2 rfl rfl), trivial⟩ ?_
  obtain ⟨i197, hi198, hF⟩ := bs hF
  refine OA.val (i := 4) (v := .pointer (some ⟨b80, 0 + Int.toNat o81.1.D * 4, none⟩)) rfl (by kernel_rfl) rfl rfl rfl rfl (fun a w ha => aidx_run (n := 8) 117 4 rfl rfl rfl (ain_some hi198).1 (ain_some hi198).2.1 (by kernel_rfl) (by kernel_rfl) a w ha) ?_
  refine OA.act (i := 5) [] (by kernel_rfl) rfl rfl (by kernel_rfl) (by kernel_rfl) ?_
  refine OW.stA hst 3 rfl rfl rfl rfl rfl (by kernel_rfl) rfl enc_api_Type (fun _ => rfl) 8 o81.2 0 rfl rfl hi198 0 rfl rfl r193 rfl (arrC (enc_api_Type) 8 (aset o81.2 i197 r193)) rfl ?_
  intro w199 hst
  refine OA.next trivial ?_
  refine OA.fin (by kernel_rfl) (by kernel_rfl) (QW.next (CW.seq ?_))
  refine CW.plan (by kernel_rfl) ?_
  intro w219 hch220
  have hst := hst.same hch220
  refine OA.ldN (i := 0) (cs := (arrC (enc_api_Type) 8 (aset o81.2 i197 r193))) rfl (by kernel_rfl) rfl rfl rfl (by kernel_rfl) (by kernel_rfl) (hst.blkN 3 rfl 0 32) ?_
  refine OA.ldN (i := 1) (cs := [I o142.Kind, U o142.Span.Lo, U o142.Span.Hi, I o142.Map]) rfl (by kernel_rfl) rfl rfl rfl (by kernel_rfl) (by kernel_rfl) (hst.blkN 5 rfl 0 4) ?_
  refine OA.ldN (i := 4) (cs := [I o142.Kind, U o142.Span.Lo, U o142.Span.Hi, I o142.Map]) rfl (by kernel_rfl) rfl rfl rfl (by kernel_rfl) (by kernel_rfl) (hst.blkN 5 rfl 0 4) ?_
  refine OA.act (i := 2) [4, 0] (by kernel_rfl) rfl rfl (by kernel_rfl) (by kernel_rfl) ?_
  refine OW.row (α := api_Type) (e := 117) (enc := enc_api_Type) (sz := 4) hst rfl rfl rfl [o142] rfl (fun _ => rfl) rfl rfl (fun _ => by kernel_rfl) ?_
  intro g221 w222 hst
  refine OA.next ⟨(hst.blkN 5 rfl 0 4), (hst.blkN 3 rfl 0 32), trivial⟩ ?_
  refine OA.act (i := 3) [4, 0] (by kernel_rfl) rfl rfl (by kernel_rfl) (by kernel_rfl) ?_
  obtain ⟨r223, hr224, hF⟩ := bs hF
  refine OW.fn rfl rfl rfl rfl (by kernel_rfl) (judge_nums_ok _ (.slice (some ⟨g221, 0, none⟩) 1 1) ([o142]) r223 hr224 (hst.part [] rfl) (hst.rd 6 rfl (fun _ => rfl) [] rfl (hst.len 6 rfl).1)) ?_
  rintro e w225 ⟨rfl, hst226⟩
  refine ⟨_, rfl, ?_⟩
  have hst := hst.join (idx := []) (rest := [0, 1, 2, 3, 4, 5, 6]) rfl hst226
  refine OA.next ⟨(hst.blkN 5 rfl 0 4), (hst.blkN 3 rfl 0 32), trivial⟩ ?_
  refine OA.act (i := 5) [0] (by kernel_rfl) rfl rfl (by kernel_rfl) (by kernel_rfl) ?_
  obtain ⟨r227, hr228, hF⟩ := bs hF
  refine OW.fn rfl rfl rfl rfl (by kernel_rfl) (judge_word_ok _ o142 r227 hr228 (hst.part [] rfl)) ?_
  rintro e w229 ⟨rfl, hst230⟩
  refine ⟨_, rfl, ?_⟩
  have hst := hst.join (idx := []) (rest := [0, 1, 2, 3, 4, 5, 6]) rfl hst230
  refine OA.next ⟨(hst.blkN 3 rfl 0 32), trivial⟩ ?_
  refine OA.act (i := 6) [0] (by kernel_rfl) rfl rfl (by kernel_rfl) (by kernel_rfl) ?_
  refine OW.row (α := Int) (e := 43) (enc := encInt .i64) (sz := 1) hst rfl rfl rfl [r223, r227] rfl (fun _ => rfl) rfl rfl (fun _ => by kernel_rfl) ?_
  intro g231 w232 hst
  refine OA.next ⟨(hst.blkN 3 rfl 0 32), trivial⟩ ?_
  refine OA.act (i := 7) [0] (by kernel_rfl) rfl rfl (by kernel_rfl) (by kernel_rfl) ?_
  obtain ⟨r233, hr234, hF⟩ := bs hF
  refine OW.fn rfl rfl rfl rfl (by kernel_rfl) (judge_first_ok _ (.slice (some ⟨g231, 0, none⟩) 2 2) ([r223, r227]) r233 hr234 (hst.part [] rfl) (hst.rd 7 rfl (fun _ => rfl) [] rfl (hst.len 7 rfl).1)) ?_
  rintro e w235 ⟨rfl, hst236⟩
  refine ⟨_, rfl, ?_⟩
  have hst := hst.join (idx := []) (rest := [0, 1, 2, 3, 4, 5, 6, 7]) rfl hst236
  refine OA.next ⟨(hst.blkN 3 rfl 0 32), trivial⟩ ?_
  refine OA.act (i := 8) [] (by kernel_rfl) rfl rfl (by kernel_rfl) (by kernel_rfl) ?_
  refine OW.stB hst 1 rfl rfl rfl rfl rfl (by kernel_rfl) rfl rfl (arrC (enc_api_Type) 8 (aset o81.2 i197 r193)) rfl ?_
  intro w237 hst
  refine OA.next trivial ?_
  refine OA.act (i := 9) [] (by kernel_rfl) rfl rfl (by kernel_rfl) (by kernel_rfl) ?_
  refine pu 1 [(5, I r233)] (OA.next trivial ?_)
  refine OA.fin (by kernel_rfl) (by kernel_rfl) (QW.next (CW.ret (QW.block_ret (QW.then_ret ?_))))
  obtain rfl := inj hF
  refine QW.ret_ct rfl rfl (run_loadN (cs := (arrC (enc_api_Type) 8 (aset o81.2 i197 r193))) (by kernel_rfl) (by kernel_rfl) (hst.blkN 1 rfl 0 32)) rfl ?_
  exact ⟨S78, rfl, hst.keep [0] rfl⟩
 refine rg ?_
 refine pu 2 [(89, .bool (o81.1.Op == 12))] (nx ?_)
 refine br ((o81.1.Op == 12)) hF (fun hF hc238 => ?_) (fun hF hc238 => ?_)
 ·refine CW.seq ?_
  refine CW.plan (by kernel_rfl) ?_
  intro w258 hch259
  have hst := hst.same hch259
  refine OA.ldN (i := 0) (cs := (arrC (enc_api_Type) 8 o81.2)) rfl (by kernel_rfl) rfl rfl rfl (by kernel_rfl) (by kernel_rfl) (hst.blkN 3 rfl 0 32) ?_
  refine OA.ldN (i := 1) (cs := [I (o81.2 i158).Kind, U (o81.2 i158).Span.Lo, U (o81.2 i158).Span.Hi, I (o81.2 i158).Map]) rfl (by kernel_rfl) rfl rfl rfl (by kernel_rfl) (by kernel_rfl) (hst.blkN 4 rfl 0 4) ?_
  refine OA.ldN (i := 2) (cs := [I o142.Kind, U o142.Span.Lo, U o142.Span.Hi, I o142.Map]) rfl (by kernel_rfl) rfl rfl rfl (by kernel_rfl) (by kernel_rfl) (hst.blkN 5 rfl 0 4) ?_
  refine OA.ldN (i := 5) (cs := [I o142.Kind, U o142.Span.Lo, U o142.Span.Hi, I o142.Map]) rfl (by kernel_rfl) rfl rfl rfl (by kernel_rfl) (by kernel_rfl) (hst.blkN 5 rfl 0 4) ?_
  refine OA.act (i := 3) [5, 0] (by kernel_rfl) rfl rfl (by kernel_rfl) (by kernel_rfl) ?_
  refine OW.row (α := api_Type) (e := 117) (enc := enc_api_Type) (sz := 4) hst rfl rfl rfl [(o81.2 i158), o142] rfl (fun _ => rfl) rfl rfl (fun _ => by kernel_rfl) ?_
  intro g260 w261 hst
  refine OA.next ⟨(hst.blkN 5 rfl 0 4), (hst.blkN 3 rfl 0 32), trivial⟩ ?_
  refine OA.act (i := 4) [5, 0] (by kernel_rfl) rfl rfl (by kernel_rfl) (by kernel_rfl) ?_
  obtain ⟨r262, hr263, hF⟩ := bs hF
  refine OW.fn rfl rfl rfl rfl (by kernel_rfl) (judge_nums_ok _ (.slice (some ⟨g260, 0, none⟩) 2 2) ([(o81.2 i158), o142]) r262 hr263 (hst.part [] rfl) (hst.rd 6 rfl (fun _ => rfl) [] rfl (hst.len 6 rfl).1)) ?_
  rintro e w264 ⟨rfl, hst265⟩
  refine ⟨_, rfl, ?_⟩
  have hst := hst.join (idx := []) (rest := [0, 1, 2, 3, 4, 5, 6]) rfl hst265
  refine OA.next ⟨(hst.blkN 5 rfl 0 4), (hst.blkN 3 rfl 0 32), trivial⟩ ?_
  refine OA.act (i := 6) [0] (by kernel_rfl) rfl rfl (by kernel_rfl) (by kernel_rfl) ?_
  obtain ⟨r266, hr267, hF⟩ := bs hF
  refine OW.fn rfl rfl rfl rfl (by kernel_rfl) (judge_word_ok _ o142 r266 hr267 (hst.part [] rfl)) ?_
  rintro e w268 ⟨rfl, hst269⟩
  refine ⟨_, rfl, ?_⟩
  have hst := hst.join (idx := []) (rest := [0, 1, 2, 3, 4, 5, 6]) rfl hst269
  refine OA.next ⟨(hst.blkN 3 rfl 0 32), trivial⟩ ?_
  refine OA.act (i := 7) [0] (by kernel_rfl) rfl rfl (by kernel_rfl) (by kernel_rfl) ?_
  refine OW.row (α := Int) (e := 43) (enc := encInt .i64) (sz := 1) hst rfl rfl rfl [r262, r266] rfl (fun _ => rfl) rfl rfl (fun _ => by kernel_rfl) ?_
  intro g270 w271 hst
  refine OA.next ⟨(hst.blkN 3 rfl 0 32), trivial⟩ ?_
  refine OA.act (i := 8) [0] (by kernel_rfl) rfl rfl (by kernel_rfl) (by kernel_rfl) ?_
  obtain ⟨r272, hr273, hF⟩ := bs hF
  refine OW.fn rfl rfl rfl rfl (by kernel_rfl) (judge_first_ok _ (.slice (some ⟨g270, 0, none⟩) 2 2) ([r262, r266]) r272 hr273 (hst.part [] rfl) (hst.rd 7 rfl (fun _ => rfl) [] rfl (hst.len 7 rfl).1)) ?_
  rintro e w274 ⟨rfl, hst275⟩
  refine ⟨_, rfl, ?_⟩
  have hst := hst.join (idx := []) (rest := [0, 1, 2, 3, 4, 5, 6, 7]) rfl hst275
  refine OA.next ⟨(hst.blkN 3 rfl 0 32), trivial⟩ ?_
  refine OA.act (i := 9) [] (by kernel_rfl) rfl rfl (by kernel_rfl) (by kernel_rfl) ?_
  refine OW.stB hst 1 rfl rfl rfl rfl rfl (by kernel_rfl) rfl rfl (arrC (enc_api_Type) 8 o81.2) rfl ?_
  intro w276 hst
  refine OA.next trivial ?_
  refine OA.act (i := 10) [] (by kernel_rfl) rfl rfl (by kernel_rfl) (by kernel_rfl) ?_
  refine pu 1 [(5, I r272)] (OA.next trivial ?_)
  refine OA.fin (by kernel_rfl) (by kernel_rfl) (QW.next (CW.ret (QW.block_ret (QW.then_ret ?_))))
  obtain rfl := inj hF
  refine QW.ret_ct rfl rfl (run_loadN (cs := (arrC (enc_api_Type) 8 o81.2)) (by kernel_rfl) (by kernel_rfl) (hst.blkN 1 rfl 0 32)) rfl ?_
  exact ⟨S78, rfl, hst.keep [0] rfl⟩
 refine rg ?_
 refine pu 2 [(100, .bool (o81.1.Op == 13))] (nx ?_)
 refine br ((o81.1.Op == 13)) hF (fun hF hc277 => ?_) (fun hF hc277 => ?_)
 ·refine CW.plan (by kernel_rfl) ?_
  intro w291 hch292
  have hst := hst.same hch292
  refine OA.pure [0] [(102, .pointer (some ⟨b79, 1, none⟩))] (by kernel_rfl) ?_
  refine OA.ld (i := 1) rfl (by kernel_rfl) rfl rfl rfl (by kernel_rfl) (hst.blk 2 rfl rfl) ?_
  refine OA.act (i := 2) [1] (by kernel_rfl) rfl rfl (by kernel_rfl) (by kernel_rfl) ?_
  obtain ⟨r293, hr294, hF⟩ := bs hF
  refine OW.fn rfl rfl rfl rfl (by kernel_rfl) (span_Full_ok _ r293 hr294 (hst.part [] rfl)) ?_
  rintro e w295 ⟨rfl, hst296⟩
  refine ⟨_, rfl, ?_⟩
  have hst := hst.join (idx := []) (rest := [0, 1, 2, 3, 4, 5]) rfl hst296
  refine OA.next ⟨(hst.blk 2 rfl rfl), trivial⟩ ?_
  refine OA.act (i := 3) [1] (by kernel_rfl) rfl rfl (by kernel_rfl) (by kernel_rfl) ?_
  obtain ⟨r297, hr298, hF⟩ := bs hF
  refine OW.fn rfl rfl rfl rfl (by kernel_rfl) (judge_number_ok _ r293 r297 hr298 (hst.part [] rfl)) ?_
  rintro e w299 ⟨rfl, hst300⟩
  refine ⟨_, rfl, ?_⟩
  have hst := hst.join (idx := []) (rest := [0, 1, 2, 3, 4, 5]) rfl hst300
  refine OA.next ⟨(hst.blk 2 rfl rfl), trivial⟩ ?_
  obtain ⟨i301, hi302, hF⟩ := bs hF
  refine OA.val (i := 4) (v := .pointer (some ⟨b80, 0 + Int.toNat o81.1.D * 4, none⟩)) rfl (by kernel_rfl) rfl rfl rfl rfl (fun a w ha => aidx_run (n := 8) 117 4 rfl rfl rfl (ain_some hi302).1 (ain_some hi302).2.1 (by kernel_rfl) (by kernel_rfl) a w ha) ?_
  refine OA.act (i := 5) [] (by kernel_rfl) rfl rfl (by kernel_rfl) (by kernel_rfl) ?_
  refine OW.stA hst 3 rfl rfl rfl rfl rfl (by kernel_rfl) rfl enc_api_Type (fun _ => rfl) 8 o81.2 0 rfl rfl hi302 0 rfl rfl r297 rfl (arrC (enc_api_Type) 8 (aset o81.2 i301 r297)) rfl ?_
  intro w303 hst
  refine OA.next trivial ?_
  refine OA.fin (by kernel_rfl) (by kernel_rfl) (QW.block_normal (QW.next (rg ?_)))
  refine OW.ldN (cs := (arrC (enc_api_Type) 8 (aset o81.2 i301 r297))) rfl rfl rfl rfl (by kernel_rfl) (by kernel_rfl) (hst.blkN 3 rfl 0 32) ?_
  refine OW.stB hst 1 rfl rfl rfl rfl rfl (by kernel_rfl) rfl rfl (arrC (enc_api_Type) 8 (aset o81.2 i301 r297)) rfl ?_
  intro w305 hst
  refine pu 1 [(5, I 0)] (nx (CW.ret ?_))
  obtain rfl := inj hF
  refine QW.ret_ct rfl rfl (run_loadN (cs := (arrC (enc_api_Type) 8 (aset o81.2 i301 r297))) (by kernel_rfl) (by kernel_rfl) (hst.blkN 1 rfl 0 32)) rfl ?_
  exact ⟨S78, rfl, hst.keep [0] rfl⟩
 refine rg ?_
 refine pu 2 [(107, .bool (o81.1.Op == 14))] (nx ?_)
 refine br ((o81.1.Op == 14)) hF (fun hF hc306 => ?_) (fun hF hc306 => ?_)
 ·refine rg ?_
  refine pu 1 [(109, .pointer (some ⟨b79, 1, none⟩))] ?_
  refine OW.ld rfl rfl rfl rfl (by kernel_rfl) (hst.blk 2 rfl rfl) ?_
  refine pu 1 [(111, .pointer (some ⟨b79, 4, none⟩))] ?_
  refine OW.ld rfl rfl rfl rfl (by kernel_rfl) (hst.blk 2 rfl rfl) ?_
  refine pu 1 [(113, .agg [I 2, U 0, U 0, I o81.1.Imm].toArray)] ?_
  obtain ⟨i310, hi311, hF⟩ := bs hF
  refine OW.op (v := .pointer (some ⟨b80, 0 + Int.toNat o81.1.D * 4, none⟩)) rfl rfl rfl rfl (fun a ha => aidx_run (n := 8) 117 4 rfl rfl rfl (ain_some hi311).1 (ain_some hi311).2.1 (by kernel_rfl) (by kernel_rfl) a _ ha) ?_
  refine OW.stA hst 3 rfl rfl rfl rfl rfl (by kernel_rfl) rfl enc_api_Type (fun _ => rfl) 8 o81.2 0 rfl rfl hi311 0 rfl rfl (api_Type.mk 2 (api_Span.mk 0 0) o81.1.Imm) rfl (arrC (enc_api_Type) 8 (aset o81.2 i310 (api_Type.mk 2 (api_Span.mk 0 0) o81.1.Imm))) rfl ?_
  intro w312 hst
  refine nx (CW.seq ?_)
  obtain ⟨v313, S314, v315, S316, v317, S318, v319, S320, v321, S322, hst⟩ := hst.openQ5 0 rfl rfl rfl rfl rfl rfl
  have hbo323 := hst.borOut 6 rfl
  have hbr324 := hbo323.bor hb
  have hbo325 := hst.borOut 7 rfl
  have hbr326 := hbo325.bor hb
  have hst := hst.toRow1 8 rfl
  have hst := hst.toRow1 9 rfl
  have hst := hst.toRow1 10 rfl
  have hst := hst.keep [0, 1, 2, 3, 4, 5, 8, 9, 10] rfl
  obtain ⟨l327, a328, c329, rfl⟩ := hbr324.len
  obtain ⟨l330, a331, c332, rfl⟩ := hbr326.len
  obtain ⟨l333, a334, c335, rfl⟩ := hst.len 6 rfl
  obtain ⟨l336, a337, c338, rfl⟩ := hst.len 7 rfl
  obtain ⟨l339, a340, c341, rfl⟩ := hst.len 8 rfl
  have hst : St _ _ _ [blkI b1 109 [.slice a328 (p0.Module.Maps).length c329, .slice a331 (p0.Module.Code).length c332, .slice a334 (p0.came).length c335, .slice a337 (p0.any).length c338, .slice a340 (p0.loops).length c341], _, _, _, _, _, _, _, _] := hst
  refine CW.still (by kernel_rfl) (by kernel_rfl) ?_
  intro w344 hch345
  have hst := hst.same hch345
  refine OS.pure 1 [(115, .pointer (some ⟨b79, 4, none⟩))] rfl (by kernel_rfl) ?_
  refine OS.ld rfl rfl rfl rfl rfl (by kernel_rfl) (hst.blk 2 rfl rfl) ?_
  refine OS.pure 4 [(120, Pt b1)] rfl (by kernel_rfl) ?_
  refine OS.ld rfl rfl rfl rfl rfl (by kernel_rfl) (hst.blk 0 rfl rfl) ?_
  refine OS.pure 2 [(123, .bool (decide (o81.1.Imm ≥ ((p0.Module.Maps).length : Int))))] rfl (by kernel_rfl) ?_
  refine OS.fin rfl (QW.next ?_)
  refine br (decide (o81.1.Imm ≥ ((p0.Module.Maps).length : Int))) hF (fun hF hc346 => ?_) (fun hF hc346 => ?_)
  ·refine rg ?_
   refine OW.ldN (cs := (arrC (enc_api_Type) 8 (aset o81.2 i310 (api_Type.mk 2 (api_Span.mk 0 0) o81.1.Imm)))) rfl rfl rfl rfl (by kernel_rfl) (by kernel_rfl) (hst.blkN 3 rfl 0 32) ?_
   refine OW.stB hst 1 rfl rfl rfl rfl rfl (by kernel_rfl) rfl rfl (arrC (enc_api_Type) 8 (aset o81.2 i310 (api_Type.mk 2 (api_Span.mk 0 0) o81.1.Imm))) rfl ?_
   intro w348 hst
   refine pu 1 [(5, I 35)] (nx (CW.ret (QW.block_ret (QW.then_ret ?_))))
   have hst := hst.borIn hbo323
   have hst := hst.borIn hbo325
   have hst := hst.toIt 6 rfl (fun _ => rfl) (by decide)
   have hst := hst.toIt 7 rfl (fun _ => rfl) (by decide)
   have hst := hst.toIt 8 rfl (fun _ => rfl) (by decide)
   obtain ⟨S349, hst⟩ := hst.shutP5 (R_t109 wb Sb) rfl 0 9 10 6 7 8 [1, 2, 3, 4, 5] rfl rfl rfl rfl rfl rfl rfl p0 rfl rfl
   obtain rfl := inj hF
   refine QW.ret_ct rfl rfl (run_loadN (cs := (arrC (enc_api_Type) 8 (aset o81.2 i310 (api_Type.mk 2 (api_Span.mk 0 0) o81.1.Imm)))) (by kernel_rfl) (by kernel_rfl) (hst.blkN 0 rfl 0 32)) rfl ?_
   exact ⟨S349, rfl, hst.keep [5] rfl⟩
  refine CW.skip (QW.block_normal (QW.next (rg ?_)))
  refine OW.ldN (cs := (arrC (enc_api_Type) 8 (aset o81.2 i310 (api_Type.mk 2 (api_Span.mk 0 0) o81.1.Imm)))) rfl rfl rfl rfl (by kernel_rfl) (by kernel_rfl) (hst.blkN 3 rfl 0 32) ?_
  refine OW.stB hst 1 rfl rfl rfl rfl rfl (by kernel_rfl) rfl rfl (arrC (enc_api_Type) 8 (aset o81.2 i310 (api_Type.mk 2 (api_Span.mk 0 0) o81.1.Imm))) rfl ?_
  intro w351 hst
  refine pu 1 [(5, I 0)] (nx (CW.ret ?_))
  have hst := hst.borIn hbo323
  have hst := hst.borIn hbo325
  have hst := hst.toIt 6 rfl (fun _ => rfl) (by decide)
  have hst := hst.toIt 7 rfl (fun _ => rfl) (by decide)
  have hst := hst.toIt 8 rfl (fun _ => rfl) (by decide)
  obtain ⟨S352, hst⟩ := hst.shutP5 (R_t109 wb Sb) rfl 0 9 10 6 7 8 [1, 2, 3, 4, 5] rfl rfl rfl rfl rfl rfl rfl p0 rfl rfl
  obtain rfl := inj hF
  refine QW.ret_ct rfl rfl (run_loadN (cs := (arrC (enc_api_Type) 8 (aset o81.2 i310 (api_Type.mk 2 (api_Span.mk 0 0) o81.1.Imm)))) (by kernel_rfl) (by kernel_rfl) (hst.blkN 0 rfl 0 32)) rfl ?_
  exact ⟨S352, rfl, hst.keep [5] rfl⟩
 refine rg ?_
 refine pu 2 [(125, .bool (o81.1.Op == 15))] (nx ?_)
 refine br ((o81.1.Op == 15)) hF (fun hF hc353 => ?_) (fun hF hc353 => ?_)
 ·refine CW.skip (QW.block_normal (QW.next (rg ?_)))
  refine OW.ldN (cs := (arrC (enc_api_Type) 8 o81.2)) rfl rfl rfl rfl (by kernel_rfl) (by kernel_rfl) (hst.blkN 3 rfl 0 32) ?_
  refine OW.stB hst 1 rfl rfl rfl rfl rfl (by kernel_rfl) rfl rfl (arrC (enc_api_Type) 8 o81.2) rfl ?_
  intro w355 hst
  refine pu 1 [(5, I 0)] (nx (CW.ret ?_))
  obtain rfl := inj hF
  refine QW.ret_ct rfl rfl (run_loadN (cs := (arrC (enc_api_Type) 8 o81.2)) (by kernel_rfl) (by kernel_rfl) (hst.blkN 1 rfl 0 32)) rfl ?_
  exact ⟨S78, rfl, hst.keep [0] rfl⟩
 refine CW.seq (rg ?_)
 refine pu 2 [(127, .bool (o81.1.Op == 16))] (nx ?_)
 obtain ⟨o359, ho360, hF⟩ := bs hF
 refine CW.cutK (fun a w1 => Rep 194 [(0, Pt b1), (1, I p1), (4, Pt b4), (6, Pt b79), (7, Pt b80), (8, Pt b117), (9, Pt b119), (43, I o81.1.Op), (127, .bool o359)] a ∧ St w (fp [itI (R_t83 wb Sb) [Pt b1] S0 p0]) w1 [itI (R_t83 wb Sb) [Pt b1] S78 p0, blkI b4 119 [I 0, U 0, U 0, I 0, I 0, U 0, U 0, I 0, I 0, U 0, U 0, I 0, I 0, U 0, U 0, I 0, I 0, U 0, U 0, I 0, I 0, U 0, U 0, I 0, I 0, U 0, U 0, I 0, I 0, U 0, U 0, I 0], blkI b79 76 [I o81.1.Op, I o81.1.D, I o81.1.A, I o81.1.B, I o81.1.Imm], blkI b80 119 (arrC (enc_api_Type) 8 o81.2), blkI b117 117 [I (o81.2 i158).Kind, U (o81.2 i158).Span.Lo, U (o81.2 i158).Span.Hi, I (o81.2 i158).Map], blkI b119 117 [I o142.Kind, U o142.Span.Lo, U o142.Span.Hi, I o142.Map]]) ?_ ?_
 ·refine br ((o81.1.Op == 16)) ho360 (fun ho360 hc361 => ?_) (fun ho360 hc361 => ?_)
  ·refine CW.skip ?_
   obtain rfl := inj ho360
   exact QW.meet (fun a ha => ⟨ha.ag, hst.keep [0, 1, 2, 3, 4, 5] rfl⟩)
  refine rg ?_
  refine pu 2 [(127, .bool (o81.1.Op == 17))] (nx ?_)
  refine br ((o81.1.Op == 17)) ho360 (fun ho360 hc362 => ?_) (fun ho360 hc362 => ?_)
  ·refine CW.skip ?_
   obtain rfl := inj ho360
   exact QW.meet (fun a ha => ⟨ha.ag, hst.keep [0, 1, 2, 3, 4, 5] rfl⟩)
  refine rg ?_
  refine pu 2 [(127, .bool (o81.1.Op == 18))] (nx ?_)
  refine br ((o81.1.Op == 18)) ho360 (fun ho360 hc363 => ?_) (fun ho360 hc363 => ?_)
  ·refine CW.skip ?_
   obtain rfl := inj ho360
   exact QW.meet (fun a ha => ⟨ha.ag, hst.keep [0, 1, 2, 3, 4, 5] rfl⟩)
  refine CW.region ?_
  refine pu 2 [(127, .bool (o81.1.Op == 19))] (OW.nil rfl ?_)
  obtain rfl := inj ho360
  exact QW.meet (fun a ha => ⟨ha.ag, hst.keep [0, 1, 2, 3, 4, 5] rfl⟩)
 rintro a w1 ⟨ha, hst⟩
 refine CW.go ?_ ha
 refine br (o359) hF (fun hF hc364 => ?_) (fun hF hc364 => ?_)
 ·refine CW.seq ?_
  refine CW.plan (by kernel_rfl) ?_
  intro w374 hch375
  have hst := hst.same hch375
  refine OA.ldN (i := 0) (cs := (arrC (enc_api_Type) 8 o81.2)) rfl (by kernel_rfl) rfl rfl rfl (by kernel_rfl) (by kernel_rfl) (hst.blkN 3 rfl 0 32) ?_
  refine OA.ldN (i := 1) (cs := [I (o81.2 i158).Kind, U (o81.2 i158).Span.Lo, U (o81.2 i158).Span.Hi, I (o81.2 i158).Map]) rfl (by kernel_rfl) rfl rfl rfl (by kernel_rfl) (by kernel_rfl) (hst.blkN 4 rfl 0 4) ?_
  refine OA.ldN (i := 2) (cs := [I o142.Kind, U o142.Span.Lo, U o142.Span.Hi, I o142.Map]) rfl (by kernel_rfl) rfl rfl rfl (by kernel_rfl) (by kernel_rfl) (hst.blkN 5 rfl 0 4) ?_
  refine OA.act (i := 3) [0] (by kernel_rfl) rfl rfl (by kernel_rfl) (by kernel_rfl) ?_
  refine OW.row (α := api_Type) (e := 117) (enc := enc_api_Type) (sz := 4) hst rfl rfl rfl [(o81.2 i158), o142] rfl (fun _ => rfl) rfl rfl (fun _ => by kernel_rfl) ?_
  intro g376 w377 hst
  refine OA.next ⟨(hst.blkN 3 rfl 0 32), trivial⟩ ?_
  refine OA.act (i := 4) [0] (by kernel_rfl) rfl rfl (by kernel_rfl) (by kernel_rfl) ?_
  obtain ⟨r378, hr379, hF⟩ := bs hF
  refine OW.fn rfl rfl rfl rfl (by kernel_rfl) (judge_nums_ok _ (.slice (some ⟨g376, 0, none⟩) 2 2) ([(o81.2 i158), o142]) r378 hr379 (hst.part [] rfl) (hst.rd 6 rfl (fun _ => rfl) [] rfl (hst.len 6 rfl).1)) ?_
  rintro e w380 ⟨rfl, hst381⟩
  refine ⟨_, rfl, ?_⟩
  have hst := hst.join (idx := []) (rest := [0, 1, 2, 3, 4, 5, 6]) rfl hst381
  refine OA.next ⟨(hst.blkN 3 rfl 0 32), trivial⟩ ?_
  refine OA.act (i := 5) [] (by kernel_rfl) rfl rfl (by kernel_rfl) (by kernel_rfl) ?_
  refine OW.stB hst 1 rfl rfl rfl rfl rfl (by kernel_rfl) rfl rfl (arrC (enc_api_Type) 8 o81.2) rfl ?_
  intro w382 hst
  refine OA.next trivial ?_
  refine OA.act (i := 6) [] (by kernel_rfl) rfl rfl (by kernel_rfl) (by kernel_rfl) ?_
  refine pu 1 [(5, I r378)] (OA.next trivial ?_)
  refine OA.fin (by kernel_rfl) (by kernel_rfl) (QW.next (CW.ret (QW.block_ret (QW.then_ret ?_))))
  obtain rfl := inj hF
  refine QW.ret_ct rfl rfl (run_loadN (cs := (arrC (enc_api_Type) 8 o81.2)) (by kernel_rfl) (by kernel_rfl) (hst.blkN 1 rfl 0 32)) rfl ?_
  exact ⟨S78, rfl, hst.keep [0] rfl⟩
 refine rg ?_
 refine pu 2 [(137, .bool (o81.1.Op == 20))] (nx ?_)
 refine br ((o81.1.Op == 20)) hF (fun hF hc383 => ?_) (fun hF hc383 => ?_)
 ·refine CW.seq (rg ?_)
  refine OW.ldN (cs := [I (o81.2 i158).Kind, U (o81.2 i158).Span.Lo, U (o81.2 i158).Span.Hi, I (o81.2 i158).Map]) rfl rfl rfl rfl (by kernel_rfl) (by kernel_rfl) (hst.blkN 4 rfl 0 4) ?_
  refine OW.row (α := api_Type) (e := 117) (enc := enc_api_Type) (sz := 4) hst rfl rfl rfl [(o81.2 i158)] rfl (fun _ => rfl) rfl rfl (fun _ => by kernel_rfl) ?_
  intro g390 w391 hst
  obtain ⟨r392, hr393, hF⟩ := bs hF
  refine OW.fn rfl rfl rfl rfl (by kernel_rfl) (judge_nums_ok _ (.slice (some ⟨g390, 0, none⟩) 1 1) ([(o81.2 i158)]) r392 hr393 (hst.part [] rfl) (hst.rd 6 rfl (fun _ => rfl) [] rfl (hst.len 6 rfl).1)) ?_
  rintro e w394 ⟨rfl, hst395⟩
  refine ⟨_, rfl, ?_⟩
  have hst := hst.join (idx := []) (rest := [0, 1, 2, 3, 4, 5, 6]) rfl hst395
  refine pu 1 [(10, I r392)] (nx (rg ?_))
  refine pu 2 [(143, .bool (r392 != 0))] (nx ?_)
  refine br ((r392 != 0)) hF (fun hF hc396 => ?_) (fun hF hc396 => ?_)
  ·refine rg ?_
   refine OW.ldN (cs := (arrC (enc_api_Type) 8 o81.2)) rfl rfl rfl rfl (by kernel_rfl) (by kernel_rfl) (hst.blkN 3 rfl 0 32) ?_
   refine pu 1 [(145, I r392)] ?_
   refine OW.stB hst 1 rfl rfl rfl rfl rfl (by kernel_rfl) rfl rfl (arrC (enc_api_Type) 8 o81.2) rfl ?_
   intro w398 hst
   refine pu 1 [(5, I r392)] (nx (CW.ret (QW.then_ret (QW.block_ret (QW.then_ret ?_)))))
   obtain rfl := inj hF
   refine QW.ret_ct rfl rfl (run_loadN (cs := (arrC (enc_api_Type) 8 o81.2)) (by kernel_rfl) (by kernel_rfl) (hst.blkN 1 rfl 0 32)) rfl ?_
   exact ⟨S78, rfl, hst.keep [0] rfl⟩
  refine CW.skip (QW.next (rg ?_))
  refine pu 1 [(146, I 0)] (nx ?_)
  obtain ⟨o593, ho594, hF⟩ := bs hF
  refine CW.cutQ (fun a w1 => ∃ (t595 : Unit) (S592 : List Nat), o593 = .inl t595 ∧ Rep 194 [(4, Pt b4), (7, Pt b80)] a ∧ St w (fp [itI (R_t83 wb Sb) [Pt b1] S0 p0]) w1 [blkI b4 119 [I 0, U 0, U 0, I 0, I 0, U 0, U 0, I 0, I 0, U 0, U 0, I 0, I 0, U 0, U 0, I 0, I 0, U 0, U 0, I 0, I 0, U 0, U 0, I 0, I 0, U 0, U 0, I 0, I 0, U 0, U 0, I 0], blkI b80 119 (arrC (enc_api_Type) 8 o81.2), itI (R_t83 wb Sb) [Pt b1] S592 p0]) ?_ ?_
  ·refine CW.block ?_
   refine CW.loop (fun n a w1 => ∃ (i724 : Nat) (s722 : Unit) (S723 : List Nat), i724 + n = 8 ∧ Rep 194 [(0, Pt b1), (1, I p1), (4, Pt b4), (6, Pt b79), (7, Pt b80), (146, I (i724 : Int))] a ∧ St w (fp [itI (R_t83 wb Sb) [Pt b1] S0 p0]) w1 [itI (R_t83 wb Sb) [Pt b1] S723 p0, blkI b4 119 [I 0, U 0, U 0, I 0, I 0, U 0, U 0, I 0, I 0, U 0, U 0, I 0, I 0, U 0, U 0, I 0, I 0, U 0, U 0, I 0, I 0, U 0, U 0, I 0, I 0, U 0, U 0, I 0, I 0, U 0, U 0, I 0], blkI b79 76 [I o81.1.Op, I o81.1.D, I o81.1.A, I o81.1.B, I o81.1.Imm], blkI b80 119 (arrC (enc_api_Type) 8 o81.2)] ∧ forN (judge_judge_one_l1 p0 p1 o81) (fun (s722 : Unit) => (.inl ())) n i724 s722 = some o593) 8 (fun a ha => ⟨0, (), S78, Nat.zero_add _, ha.ag, hst.keep [0, 1, 2, 3] rfl, ho594⟩) ?_
   rintro n720 a w1 ⟨i724, s722, S723, hi725, ha, hst, hl721⟩
   refine CW.go ?_ ha
   refine rg ?_
   refine pu 1 [(147, .bool (decide ((i724 : Int) < 8)))] (nx (CW.seq ?_))
   rcases bft (decide ((i724 : Int) < 8)) with hc726 | hc726
   ·rcases n720 with _ | n720
    ·exact (cnt0 hi725 hc726).elim
    refine CW.cond_t rfl hc726 (CW.skip (QW.next (CW.seq (CW.block (rg ?_)))))
    refine pu 2 [(11, I (i724 : Int))] (nx (CW.seq ?_))
    obtain ⟨v727, S728, v729, S730, v731, S732, v733, S734, v735, S736, hst⟩ := hst.openQ5 0 rfl rfl rfl rfl rfl rfl
    have hbo737 := hst.borOut 4 rfl
    have hbr738 := hbo737.bor hb
    have hbo739 := hst.borOut 5 rfl
    have hbr740 := hbo739.bor hb
    have hst := hst.toRow1 6 rfl
    have hst := hst.toRow1 7 rfl
    have hst := hst.toRow1 8 rfl
    have hst := hst.keep [0, 1, 2, 3, 6, 7, 8] rfl
    obtain ⟨l741, a742, c743, rfl⟩ := hbr738.len
    obtain ⟨l744, a745, c746, rfl⟩ := hbr740.len
    obtain ⟨l747, a748, c749, rfl⟩ := hst.len 4 rfl
    obtain ⟨l750, a751, c752, rfl⟩ := hst.len 5 rfl
    obtain ⟨l753, a754, c755, rfl⟩ := hst.len 6 rfl
    have hst : St _ _ _ [blkI b1 109 [.slice a742 (p0.Module.Maps).length c743, .slice a745 (p0.Module.Code).length c746, .slice a748 (p0.came).length c749, .slice a751 (p0.any).length c752, .slice a754 (p0.loops).length c755], _, _, _, _, _, _] := hst
    refine CW.tail 15 (by kernel_rfl) (by kernel_rfl) ?_
    intro w770 hch771
    have hst := hst.same hch771
    refine OS.pure 1 [(149, I (i724 : Int))] rfl (by kernel_rfl) ?_
    obtain ⟨i772, hi773, hl721⟩ := bs hl721
    refine OS.op (v := .pointer (some ⟨b80, 0 + Int.toNat (i724 : Int) * 4, none⟩)) rfl rfl rfl rfl rfl (fun a ha => aidx_run (n := 8) 117 4 rfl rfl rfl (ain_some hi773).1 (ain_some hi773).2.1 (by kernel_rfl) (by kernel_rfl) a _ ha) ?_
    refine OS.ldN (cs := enc_api_Type (o81.2 i772)) rfl rfl rfl rfl rfl (by kernel_rfl) (by kernel_rfl) (hst.arrB 3 rfl enc_api_Type (fun _ => rfl) 8 o81.2 0 rfl rfl hi773) ?_
    refine OS.pure 3 [(154, .pointer (some ⟨b1, 2, none⟩))] rfl (by kernel_rfl) ?_
    refine OS.ld rfl rfl rfl rfl rfl (by kernel_rfl) (hst.blk 0 rfl rfl) ?_
    refine OS.pure 2 [(156, I p1), (157, .pointer (some ⟨b79, 1, none⟩))] rfl (by kernel_rfl) ?_
    refine OS.ld rfl rfl rfl rfl rfl (by kernel_rfl) (hst.blk 2 rfl rfl) ?_
    refine OS.pure 2 [(159, I (w64 (p1 - o81.1.D))), (160, I (i724 : Int))] rfl (by kernel_rfl) ?_
    obtain ⟨x774, hx775, hl721⟩ := bs hl721
    obtain ⟨g777, o778, c779, hv776⟩ := hst.rowv 4 rfl hx775
    refine OS.idx 119 32 rfl rfl rfl rfl rfl hv776 rfl (idx_some hx775).1 (idx_some hx775).2.1 (by kernel_rfl) (by kernel_rfl) ?_
    refine OS.op (v := .pointer (some ⟨g777, o778 + Int.toNat (w64 (p1 - o81.1.D)) * 32 + 0 + Int.toNat (i724 : Int) * 4, none⟩)) rfl rfl rfl rfl rfl (fun a ha => aidx_run (n := 8) 117 4 rfl rfl rfl (ain_some hi773).1 (ain_some hi773).2.1 (by kernel_rfl) (by kernel_rfl) a _ ha) ?_
    refine OS.ldN (cs := enc_api_Type (x774 i772)) rfl rfl rfl rfl rfl (by kernel_rfl) (by kernel_rfl) (cell_arr (hst.rowc 4 rfl (fun _ => rfl) hx775 hv776) enc_api_Type (fun _ => rfl) 8 x774 0 rfl rfl hi773) ?_
    refine OS.on ?_
    obtain ⟨r780, hr781, hl721⟩ := bs hl721
    refine OW.fn rfl rfl rfl rfl (by kernel_rfl) (judge_fits_ok _ (o81.2 i772) (x774 i772) r780 hr781 (hst.part [] rfl)) ?_
    rintro e w782 ⟨rfl, hst783⟩
    refine ⟨_, rfl, ?_⟩
    have hst := hst.join (idx := []) (rest := [0, 1, 2, 3, 4, 5, 6]) rfl hst783
    refine pu 1 [(165, .bool (!r780))] (nx ?_)
    refine br ((!r780)) hl721 (fun hl721 hc784 => ?_) (fun hl721 hc784 => ?_)
    ·refine rg ?_
     refine OW.ldN (cs := (arrC (enc_api_Type) 8 o81.2)) rfl rfl rfl rfl (by kernel_rfl) (by kernel_rfl) (hst.blkN 3 rfl 0 32) ?_
     refine OW.stB hst 1 rfl rfl rfl rfl rfl (by kernel_rfl) rfl rfl (arrC (enc_api_Type) 8 o81.2) rfl ?_
     intro w786 hst
     refine pu 1 [(5, I 33)] (nx (CW.ret (QW.block_ret (QW.then_ret (QW.then_ret (QW.block_ret (QW.then_ret (QW.block_ret (QW.then_ret ?_)))))))))
     have hst := hst.borIn hbo737
     have hst := hst.borIn hbo739
     have hst := hst.toIt 4 rfl (fun _ => rfl) (by decide)
     have hst := hst.toIt 5 rfl (fun _ => rfl) (by decide)
     have hst := hst.toIt 6 rfl (fun _ => rfl) (by decide)
     obtain ⟨S787, hst⟩ := hst.shutP5 (R_t109 wb Sb) rfl 0 7 8 4 5 6 [1, 2, 3] rfl rfl rfl rfl rfl rfl rfl p0 rfl rfl
     obtain rfl := inj hl721
     obtain rfl := inj hF
     refine QW.ret_ct rfl rfl (run_loadN (cs := (arrC (enc_api_Type) 8 o81.2)) (by kernel_rfl) (by kernel_rfl) (hst.blkN 0 rfl 0 32)) rfl ?_
     exact ⟨S787, rfl, hst.keep [3] rfl⟩
    refine CW.skip (QW.block_normal (QW.next (CW.region ?_)))
    refine pu 2 [(146, I (w64 ((i724 : Int) + 1)))] (OW.nil rfl ?_)
    have hst := hst.borIn hbo737
    have hst := hst.borIn hbo739
    have hst := hst.toIt 4 rfl (fun _ => rfl) (by decide)
    have hst := hst.toIt 5 rfl (fun _ => rfl) (by decide)
    have hst := hst.toIt 6 rfl (fun _ => rfl) (by decide)
    obtain ⟨S788, hst⟩ := hst.shutP5 (R_t109 wb Sb) rfl 0 7 8 4 5 6 [1, 2, 3] rfl rfl rfl rfl rfl rfl rfl p0 rfl rfl
    refine QW.say 146 rfl (congrArg (Value.int .i64) (w64_cnt hc726 (by decide))) ?_
    exact QW.meet (fun a ha => ⟨n720, Nat.lt_succ_self _, i724 + 1, (), S788, cnt_next hi725, ha.ag, hst.keep [3, 0, 1, 2] rfl, hl721⟩)
   rcases n720 with _ | n720
   ·refine CW.cond_f rfl hc726 ?_
    refine CW.exit (QW.then_exit (QW.then_exit ?_))
    refine QW.block_here ?_
    obtain rfl := inj hl721
    exact QW.meet (fun a ha => ⟨(), S723, rfl, ha.ag, hst.keep [1, 3, 0] rfl⟩)
   exact (cnt1 hi725 hc726).elim
  rintro a w1 ⟨t595, S592, rfl, ha, hst⟩
  refine QW.go ?_ ha
  refine QW.block_normal (QW.next (rg ?_))
  refine OW.ldN (cs := (arrC (enc_api_Type) 8 o81.2)) rfl rfl rfl rfl (by kernel_rfl) (by kernel_rfl) (hst.blkN 1 rfl 0 32) ?_
  refine OW.stB hst 0 rfl rfl rfl rfl rfl (by kernel_rfl) rfl rfl (arrC (enc_api_Type) 8 o81.2) rfl ?_
  intro w790 hst
  refine pu 1 [(5, I 0)] (nx (CW.ret ?_))
  obtain rfl := inj hF
  refine QW.ret_ct rfl rfl (run_loadN (cs := (arrC (enc_api_Type) 8 o81.2)) (by kernel_rfl) (by kernel_rfl) (hst.blkN 0 rfl 0 32)) rfl ?_
  exact ⟨S592, rfl, hst.keep [2] rfl⟩
 refine rg ?_
 refine pu 2 [(168, .bool (o81.1.Op == 21))] (nx ?_)
 refine br ((o81.1.Op == 21)) hF (fun hF hc791 => ?_) (fun hF hc791 => ?_)
 ·refine rg ?_
  refine pu 1 [(170, .pointer (some ⟨b79, 4, none⟩))] ?_
  refine OW.ld rfl rfl rfl rfl (by kernel_rfl) (hst.blk 2 rfl rfl) ?_
  refine pu 1 [(12, I o81.1.Imm)] (nx (rg ?_))
  refine pu 2 [(172, I o81.1.Imm), (173, I o81.1.Imm)] ?_
  obtain ⟨r806, hr807, hF⟩ := bs hF
  refine OW.fn rfl rfl rfl rfl (by kernel_rfl) (sigs_Args_ok _ fu o81.1.Imm r806 hr807 (hst.part [] rfl) (hT1.give hst [])) ?_
  rintro e w808 ⟨v810, rfl, hst809⟩
  refine ⟨_, rfl, ?_⟩
  have hst := hst.join (idx := []) (rest := [0, 1, 2, 3, 4, 5]) rfl hst809
  obtain ⟨l811, a812, c813, rfl⟩ := hst.len 0 rfl
  refine pu 2 [(176, I (w64 (1 + ((r806).length : Int))))] ?_
  obtain ⟨ys814, hcut815, hF⟩ := bs hF
  refine OW.op (v := .slice (shd (some ⟨b80, 0, none⟩) 8 (Int.toNat 1) 4) (ys814).length (8 - Int.toNat 1)) rfl rfl rfl rfl (fun a ha => asl_sub (e := 117) (xs := arrL 8 o81.2) 4 rfl rfl rfl rfl rfl hcut815 (by kernel_rfl) (by kernel_rfl) a _ ha) ?_
  obtain ⟨r816, hr817, hF⟩ := bs hF
  refine OW.fn rfl rfl rfl rfl (by kernel_rfl) (sigs_Check_ok _ fu o81.1.Imm (.slice (shd (some ⟨b80, 0, none⟩) 8 (Int.toNat 1) 4) (ys814).length (8 - Int.toNat 1)) ys814 r816 hr817 (hst.part [] rfl) ((hst.arrRd 4 rfl enc_api_Type (fun _ => rfl) 8 o81.2 0 rfl rfl rfl [] rfl).part hcut815) (hT1.give hst [])) ?_
  rintro e w818 ⟨rfl, hst819⟩
  refine ⟨_, rfl, ?_⟩
  have hst := hst.join (idx := []) (rest := [0, 1, 2, 3, 4, 5, 6]) rfl hst819
  refine pu 1 [(13, I r816)] (nx (rg ?_))
  refine pu 1 [(180, I o81.1.Imm)] ?_
  obtain ⟨r825, hr826, hF⟩ := bs hF
  refine OW.fn rfl rfl rfl rfl (by kernel_rfl) (sigs_Result_ok _ o81.1.Imm r825 hr826 (hst.part [] rfl) (hT1.give hst [])) ?_
  rintro e w827 ⟨rfl, hst828⟩
  refine ⟨_, rfl, ?_⟩
  have hst := hst.join (idx := []) (rest := [0, 1, 2, 3, 4, 5, 6]) rfl hst828
  refine pu 3 [(182, .agg [I r825.1.Kind, U r825.1.Span.Lo, U r825.1.Span.Hi, I r825.1.Map].toArray)] ?_
  refine OW.op (v := Pt b80) rfl rfl rfl rfl (fun a ha => aidx_run (n := 8) (q := 0) 117 4 rfl rfl rfl (by decide) (by decide) (by kernel_rfl) (by kernel_rfl) a _ ha) ?_
  refine OW.stB hst 4 rfl rfl rfl rfl rfl (by kernel_rfl) rfl rfl [I r825.1.Kind, U r825.1.Span.Lo, U r825.1.Span.Hi, I r825.1.Map, I (o81.2 1).Kind, U (o81.2 1).Span.Lo, U (o81.2 1).Span.Hi, I (o81.2 1).Map, I (o81.2 2).Kind, U (o81.2 2).Span.Lo, U (o81.2 2).Span.Hi, I (o81.2 2).Map, I (o81.2 3).Kind, U (o81.2 3).Span.Lo, U (o81.2 3).Span.Hi, I (o81.2 3).Map, I (o81.2 4).Kind, U (o81.2 4).Span.Lo, U (o81.2 4).Span.Hi, I (o81.2 4).Map, I (o81.2 5).Kind, U (o81.2 5).Span.Lo, U (o81.2 5).Span.Hi, I (o81.2 5).Map, I (o81.2 6).Kind, U (o81.2 6).Span.Lo, U (o81.2 6).Span.Hi, I (o81.2 6).Map, I (o81.2 7).Kind, U (o81.2 7).Span.Lo, U (o81.2 7).Span.Hi, I (o81.2 7).Map] rfl ?_
  intro w829 hst
  refine nx (rg ?_)
  refine OW.ldN (cs := [I r825.1.Kind, U r825.1.Span.Lo, U r825.1.Span.Hi, I r825.1.Map, I (o81.2 1).Kind, U (o81.2 1).Span.Lo, U (o81.2 1).Span.Hi, I (o81.2 1).Map, I (o81.2 2).Kind, U (o81.2 2).Span.Lo, U (o81.2 2).Span.Hi, I (o81.2 2).Map, I (o81.2 3).Kind, U (o81.2 3).Span.Lo, U (o81.2 3).Span.Hi, I (o81.2 3).Map, I (o81.2 4).Kind, U (o81.2 4).Span.Lo, U (o81.2 4).Span.Hi, I (o81.2 4).Map, I (o81.2 5).Kind, U (o81.2 5).Span.Lo, U (o81.2 5).Span.Hi, I (o81.2 5).Map, I (o81.2 6).Kind, U (o81.2 6).Span.Lo, U (o81.2 6).Span.Hi, I (o81.2 6).Map, I (o81.2 7).Kind, U (o81.2 7).Span.Lo, U (o81.2 7).Span.Hi, I (o81.2 7).Map]) rfl rfl rfl rfl (by kernel_rfl) (by kernel_rfl) (hst.blkN 4 rfl 0 32) ?_
  refine pu 1 [(186, I r816)] ?_
  refine OW.stB hst 2 rfl rfl rfl rfl rfl (by kernel_rfl) rfl rfl [I r825.1.Kind, U r825.1.Span.Lo, U r825.1.Span.Hi, I r825.1.Map, I (o81.2 1).Kind, U (o81.2 1).Span.Lo, U (o81.2 1).Span.Hi, I (o81.2 1).Map, I (o81.2 2).Kind, U (o81.2 2).Span.Lo, U (o81.2 2).Span.Hi, I (o81.2 2).Map, I (o81.2 3).Kind, U (o81.2 3).Span.Lo, U (o81.2 3).Span.Hi, I (o81.2 3).Map, I (o81.2 4).Kind, U (o81.2 4).Span.Lo, U (o81.2 4).Span.Hi, I (o81.2 4).Map, I (o81.2 5).Kind, U (o81.2 5).Span.Lo, U (o81.2 5).Span.Hi, I (o81.2 5).Map, I (o81.2 6).Kind, U (o81.2 6).Span.Lo, U (o81.2 6).Span.Hi, I (o81.2 6).Map, I (o81.2 7).Kind, U (o81.2 7).Span.Lo, U (o81.2 7).Span.Hi, I (o81.2 7).Map] rfl ?_
  intro w831 hst
  refine pu 1 [(5, I r816)] (nx (CW.ret (QW.block_ret (QW.then_ret ?_))))
  obtain rfl := inj hF
  refine QW.ret_ct rfl rfl (run_loadN (cs := [I r825.1.Kind, U r825.1.Span.Lo, U r825.1.Span.Hi, I r825.1.Map, I (o81.2 1).Kind, U (o81.2 1).Span.Lo, U (o81.2 1).Span.Hi, I (o81.2 1).Map, I (o81.2 2).Kind, U (o81.2 2).Span.Lo, U (o81.2 2).Span.Hi, I (o81.2 2).Map, I (o81.2 3).Kind, U (o81.2 3).Span.Lo, U (o81.2 3).Span.Hi, I (o81.2 3).Map, I (o81.2 4).Kind, U (o81.2 4).Span.Lo, U (o81.2 4).Span.Hi, I (o81.2 4).Map, I (o81.2 5).Kind, U (o81.2 5).Span.Lo, U (o81.2 5).Span.Hi, I (o81.2 5).Map, I (o81.2 6).Kind, U (o81.2 6).Span.Lo, U (o81.2 6).Span.Hi, I (o81.2 6).Map, I (o81.2 7).Kind, U (o81.2 7).Span.Lo, U (o81.2 7).Span.Hi, I (o81.2 7).Map]) (by kernel_rfl) (by kernel_rfl) (hst.blkN 2 rfl 0 32)) rfl ?_
  exact ⟨S78, rfl, hst.keep [1] rfl⟩
 refine rg ?_
 refine pu 2 [(187, .bool (o81.1.Op == 22))] (nx ?_)
 refine br ((o81.1.Op == 22)) hF (fun hF hc832 => ?_) (fun hF hc832 => ?_)
 ·refine CW.seq ?_
  refine CW.plan (by kernel_rfl) ?_
  intro w842 hch843
  have hst := hst.same hch843
  refine OA.ldN (i := 0) (cs := (arrC (enc_api_Type) 8 o81.2)) rfl (by kernel_rfl) rfl rfl rfl (by kernel_rfl) (by kernel_rfl) (hst.blkN 3 rfl 0 32) ?_
  refine OA.ldN (i := 1) (cs := [I (o81.2 i158).Kind, U (o81.2 i158).Span.Lo, U (o81.2 i158).Span.Hi, I (o81.2 i158).Map]) rfl (by kernel_rfl) rfl rfl rfl (by kernel_rfl) (by kernel_rfl) (hst.blkN 4 rfl 0 4) ?_
  refine OA.act (i := 2) [0] (by kernel_rfl) rfl rfl (by kernel_rfl) (by kernel_rfl) ?_
  refine OW.row (α := api_Type) (e := 117) (enc := enc_api_Type) (sz := 4) hst rfl rfl rfl [(o81.2 i158)] rfl (fun _ => rfl) rfl rfl (fun _ => by kernel_rfl) ?_
  intro g844 w845 hst
  refine OA.next ⟨(hst.blkN 3 rfl 0 32), trivial⟩ ?_
  refine OA.act (i := 3) [0] (by kernel_rfl) rfl rfl (by kernel_rfl) (by kernel_rfl) ?_
  obtain ⟨r846, hr847, hF⟩ := bs hF
  refine OW.fn rfl rfl rfl rfl (by kernel_rfl) (judge_nums_ok _ (.slice (some ⟨g844, 0, none⟩) 1 1) ([(o81.2 i158)]) r846 hr847 (hst.part [] rfl) (hst.rd 6 rfl (fun _ => rfl) [] rfl (hst.len 6 rfl).1)) ?_
  rintro e w848 ⟨rfl, hst849⟩
  refine ⟨_, rfl, ?_⟩
  have hst := hst.join (idx := []) (rest := [0, 1, 2, 3, 4, 5, 6]) rfl hst849
  refine OA.next ⟨(hst.blkN 3 rfl 0 32), trivial⟩ ?_
  refine OA.act (i := 4) [] (by kernel_rfl) rfl rfl (by kernel_rfl) (by kernel_rfl) ?_
  refine OW.stB hst 1 rfl rfl rfl rfl rfl (by kernel_rfl) rfl rfl (arrC (enc_api_Type) 8 o81.2) rfl ?_
  intro w850 hst
  refine OA.next trivial ?_
  refine OA.act (i := 5) [] (by kernel_rfl) rfl rfl (by kernel_rfl) (by kernel_rfl) ?_
  refine pu 1 [(5, I r846)] (OA.next trivial ?_)
  refine OA.fin (by kernel_rfl) (by kernel_rfl) (QW.next (CW.ret (QW.block_ret (QW.then_ret ?_))))
  obtain rfl := inj hF
  refine QW.ret_ct rfl rfl (run_loadN (cs := (arrC (enc_api_Type) 8 o81.2)) (by kernel_rfl) (by kernel_rfl) (hst.blkN 1 rfl 0 32)) rfl ?_
  exact ⟨S78, rfl, hst.keep [0] rfl⟩
 refine rg ?_
 refine pu 1 [(45, Pt b79)] ?_
 refine OW.ld rfl rfl rfl rfl (by kernel_rfl) (hst.blk 2 rfl rfl) ?_
 refine pu 1 [(47, .pointer (some ⟨b117, 1, none⟩))] ?_
 refine OW.ldN (cs := [U (o81.2 i158).Span.Lo, U (o81.2 i158).Span.Hi]) rfl rfl rfl rfl (by kernel_rfl) (by kernel_rfl) (hst.blkN 4 rfl 1 2) ?_
 refine pu 1 [(49, .pointer (some ⟨b119, 1, none⟩))] ?_
 refine OW.ldN (cs := [U o142.Span.Lo, U o142.Span.Hi]) rfl rfl rfl rfl (by kernel_rfl) (by kernel_rfl) (hst.blkN 5 rfl 1 2) ?_
 obtain ⟨r858, hr859, hF⟩ := bs hF
 refine OW.fn rfl rfl rfl rfl (by kernel_rfl) (span_Do_ok _ o81.1.Op (o81.2 i158).Span o142.Span r858 hr859 (hst.part [] rfl)) ?_
 rintro e w860 ⟨rfl, hst861⟩
 refine ⟨_, rfl, ?_⟩
 have hst := hst.join (idx := []) (rest := [0, 1, 2, 3, 4, 5]) rfl hst861
 refine pu 3 [(52, .agg [U r858.1.Lo, U r858.1.Hi].toArray), (53, .bool r858.2)] ?_
 refine OW.alloc hst rfl rfl rfl [U 0, U 0] (by kernel_rfl) ?_
 intro b862 w863 hst
 refine OW.stB hst 6 rfl rfl rfl rfl rfl (by kernel_rfl) rfl rfl [U r858.1.Lo, U r858.1.Hi] rfl ?_
 intro w864 hst
 refine pu 1 [] (nx (CW.seq ?_))
 refine CW.plan (by kernel_rfl) ?_
 intro w874 hch875
 have hst := hst.same hch875
 refine OA.pure [0] [(54, .pointer (some ⟨b79, 1, none⟩))] (by kernel_rfl) ?_
 refine OA.ld (i := 1) rfl (by kernel_rfl) rfl rfl rfl (by kernel_rfl) (hst.blk 2 rfl rfl) ?_
 refine OA.ldN (i := 2) (cs := [U r858.1.Lo, U r858.1.Hi]) rfl (by kernel_rfl) rfl rfl rfl (by kernel_rfl) (by kernel_rfl) (hst.blkN 6 rfl 0 2) ?_
 refine OA.act (i := 3) [1] (by kernel_rfl) rfl rfl (by kernel_rfl) (by kernel_rfl) ?_
 obtain ⟨r876, hr877, hF⟩ := bs hF
 refine OW.fn rfl rfl rfl rfl (by kernel_rfl) (judge_number_ok _ r858.1 r876 hr877 (hst.part [] rfl)) ?_
 rintro e w878 ⟨rfl, hst879⟩
 refine ⟨_, rfl, ?_⟩
 have hst := hst.join (idx := []) (rest := [0, 1, 2, 3, 4, 5, 6]) rfl hst879
 refine OA.next ⟨(hst.blk 2 rfl rfl), trivial⟩ ?_
 obtain ⟨i880, hi881, hF⟩ := bs hF
 refine OA.val (i := 4) (v := .pointer (some ⟨b80, 0 + Int.toNat o81.1.D * 4, none⟩)) rfl (by kernel_rfl) rfl rfl rfl rfl (fun a w ha => aidx_run (n := 8) 117 4 rfl rfl rfl (ain_some hi881).1 (ain_some hi881).2.1 (by kernel_rfl) (by kernel_rfl) a w ha) ?_
 refine OA.act (i := 5) [] (by kernel_rfl) rfl rfl (by kernel_rfl) (by kernel_rfl) ?_
 refine OW.stA hst 3 rfl rfl rfl rfl rfl (by kernel_rfl) rfl enc_api_Type (fun _ => rfl) 8 o81.2 0 rfl rfl hi881 0 rfl rfl r876 rfl (arrC (enc_api_Type) 8 (aset o81.2 i880 r876)) rfl ?_
 intro w882 hst
 refine OA.next trivial ?_
 refine OA.fin (by kernel_rfl) (by kernel_rfl) (QW.next (CW.seq ?_))
 refine CW.plan (by kernel_rfl) ?_
 intro w892 hch893
 have hst := hst.same hch893
 refine OA.ldN (i := 0) (cs := (arrC (enc_api_Type) 8 (aset o81.2 i880 r876))) rfl (by kernel_rfl) rfl rfl rfl (by kernel_rfl) (by kernel_rfl) (hst.blkN 3 rfl 0 32) ?_
 refine OA.ldN (i := 1) (cs := [I (o81.2 i158).Kind, U (o81.2 i158).Span.Lo, U (o81.2 i158).Span.Hi, I (o81.2 i158).Map]) rfl (by kernel_rfl) rfl rfl rfl (by kernel_rfl) (by kernel_rfl) (hst.blkN 4 rfl 0 4) ?_
 refine OA.ldN (i := 2) (cs := [I o142.Kind, U o142.Span.Lo, U o142.Span.Hi, I o142.Map]) rfl (by kernel_rfl) rfl rfl rfl (by kernel_rfl) (by kernel_rfl) (hst.blkN 5 rfl 0 4) ?_
 refine OA.act (i := 3) [0] (by kernel_rfl) rfl rfl (by kernel_rfl) (by kernel_rfl) ?_
 refine OW.row (α := api_Type) (e := 117) (enc := enc_api_Type) (sz := 4) hst rfl rfl rfl [(o81.2 i158), o142] rfl (fun _ => rfl) rfl rfl (fun _ => by kernel_rfl) ?_
 intro g894 w895 hst
 refine OA.next ⟨(hst.blkN 3 rfl 0 32), trivial⟩ ?_
 refine OA.act (i := 4) [0] (by kernel_rfl) rfl rfl (by kernel_rfl) (by kernel_rfl) ?_
 obtain ⟨r896, hr897, hF⟩ := bs hF
 refine OW.fn rfl rfl rfl rfl (by kernel_rfl) (judge_nums_ok _ (.slice (some ⟨g894, 0, none⟩) 2 2) ([(o81.2 i158), o142]) r896 hr897 (hst.part [] rfl) (hst.rd 7 rfl (fun _ => rfl) [] rfl (hst.len 7 rfl).1)) ?_
 rintro e w898 ⟨rfl, hst899⟩
 refine ⟨_, rfl, ?_⟩
 have hst := hst.join (idx := []) (rest := [0, 1, 2, 3, 4, 5, 6, 7]) rfl hst899
 refine OA.next ⟨(hst.blkN 3 rfl 0 32), trivial⟩ ?_
 refine OA.act (i := 5) [] (by kernel_rfl) rfl rfl (by kernel_rfl) (by kernel_rfl) ?_
 refine OW.stB hst 1 rfl rfl rfl rfl rfl (by kernel_rfl) rfl rfl (arrC (enc_api_Type) 8 (aset o81.2 i880 r876)) rfl ?_
 intro w900 hst
 refine OA.next trivial ?_
 refine OA.act (i := 6) [] (by kernel_rfl) rfl rfl (by kernel_rfl) (by kernel_rfl) ?_
 refine pu 1 [(5, I r896)] (OA.next trivial ?_)
 refine OA.fin (by kernel_rfl) (by kernel_rfl) (QW.next (CW.ret (QW.block_ret (QW.then_ret ?_))))
 obtain rfl := inj hF
 refine QW.ret_ct rfl rfl (run_loadN (cs := (arrC (enc_api_Type) 8 (aset o81.2 i880 r876))) (by kernel_rfl) (by kernel_rfl) (hst.blkN 1 rfl 0 32)) rfl ?_
 exact ⟨S78, rfl, hst.keep [0] rfl⟩
theorem span_Join_ok (w : World) (v0 : Value) (p0 : List api_Span) (r : api_Span × Bool) (hF : span_Join p0 = some r)
    (hst : St w (fp []) w []) (h0 : Rd w (fp []) v0 enc_api_Span 2 p0) :
    Calls Tryd.prog 96 [v0].toArray w (fun e w' => e = .returned (.tuple #[.agg [U r.1.Lo, U r.1.Hi].toArray, .bool r.2]) ∧ St w (fp []) w' []) := by
 refine CW.start (N := 35) Tryd.func96 rfl rfl rfl ?_
 obtain ⟨l1, a2, c3, rfl⟩ := h0.len
 refine rg ?_
 refine OW.alloc hst rfl rfl rfl [U 0, U 0] (by kernel_rfl) ?_
 intro b6 w7 hst
 refine pu 1 [] (nx (rg ?_))
 refine pu 1 [(7, .agg [U 18446744073709551615, U 0].toArray)] ?_
 refine OW.alloc hst rfl rfl rfl [U 0, U 0] (by kernel_rfl) ?_
 intro b11 w12 hst
 refine OW.stB hst 1 rfl rfl rfl rfl rfl (by kernel_rfl) rfl rfl [U 18446744073709551615, U 0] rfl ?_
 intro w13 hst
 refine nx (CW.seq (rg ?_))
 refine pu 3 [(8, .slice a2 (p0).length c3), (9, I ((p0).length : Int)), (10, I 0)] (nx ?_)
 obtain ⟨o117, ho118, hF⟩ := bs hF
 refine CW.cutK (fun a w1 => ∃ (t119 : api_Span), o117 = .inl t119 ∧ Rep 35 [(0, .slice a2 (p0).length c3), (2, Pt b6), (4, Pt b11)] a ∧ St w (fp []) w1 [blkI b6 115 [U 0, U 0], blkI b11 115 [U t119.Lo, U t119.Hi]]) ?_ ?_
 ·refine CW.block ?_
  refine CW.loop (fun n a w1 => ∃ (i188 : Nat) (s187 : api_Span), i188 + n = (p0).length ∧ Rep 35 [(0, .slice a2 (p0).length c3), (2, Pt b6), (4, Pt b11), (8, .slice a2 (p0).length c3), (9, I ((p0).length : Int)), (10, I (i188 : Int))] a ∧ St w (fp []) w1 [blkI b6 115 [U 0, U 0], blkI b11 115 [U s187.Lo, U s187.Hi]] ∧ forN (span_Join_l1 p0) (fun (s187 : api_Span) => (.inl s187)) n i188 s187 = some o117) (p0).length (fun a ha => ⟨0, (api_Span.mk 18446744073709551615 0), Nat.zero_add _, ha.ag, hst.keep [0, 1] rfl, ho118⟩) ?_
  rintro n185 a w1 ⟨i188, s187, hi189, ha, hst, hl186⟩
  refine CW.go ?_ ha
  refine rg ?_
  refine pu 1 [(11, .bool (decide ((i188 : Int) < ((p0).length : Int))))] (nx (CW.seq ?_))
  rcases bft (decide ((i188 : Int) < ((p0).length : Int))) with hc190 | hc190
  ·rcases n185 with _ | n185
   ·exact (cnt0 hi189 hc190).elim
   refine CW.cond_t rfl hc190 (CW.skip (QW.next (CW.seq (CW.block (rg ?_)))))
   obtain ⟨x200, hx201, hl186⟩ := bs hl186
   obtain ⟨g203, o204, c205, hv202⟩ := h0.formv (fun _ => ⟨_, rfl⟩) hx201
   refine OW.idx 115 2 rfl rfl rfl rfl hv202 rfl (idx_some hx201).1 (idx_some hx201).2.1 (by kernel_rfl) (by kernel_rfl) ?_
   refine OW.ldN (cs := enc_api_Span x200) rfl rfl rfl rfl (by kernel_rfl) (by kernel_rfl) (h0.cellv hst hx201 hv202) ?_
   refine OW.alloc hst rfl rfl rfl [U 0, U 0] (by kernel_rfl) ?_
   intro b206 w207 hst
   refine OW.stB hst 2 rfl rfl rfl rfl rfl (by kernel_rfl) rfl rfl [U x200.Lo, U x200.Hi] rfl ?_
   intro w208 hst
   refine nx (CW.seq (rg ?_))
   refine OW.ldN (cs := [U x200.Lo, U x200.Hi]) rfl rfl rfl rfl (by kernel_rfl) (by kernel_rfl) (hst.blkN 2 rfl 0 2) ?_
   obtain ⟨r213, hr214, hl186⟩ := bs hl186
   refine OW.fn rfl rfl rfl rfl (by kernel_rfl) (span_Right_ok _ x200 r213 hr214 (hst.part [] rfl)) ?_
   rintro e w215 ⟨rfl, hst216⟩
   refine ⟨_, rfl, ?_⟩
   have hst := hst.join (idx := []) (rest := [0, 1, 2]) rfl hst216
   refine pu 1 [(16, .bool (!r213))] (nx ?_)
   refine br ((!r213)) hl186 (fun hl186 hc217 => ?_) (fun hl186 hc217 => ?_)
   ·refine rg ?_
    refine pu 1 [(17, .agg [U 0, U 0].toArray)] ?_
    refine OW.stB hst 0 rfl rfl rfl rfl rfl (by kernel_rfl) rfl rfl [U 0, U 0] rfl ?_
    intro w219 hst
    refine pu 1 [(3, .bool false)] (nx (CW.ret (QW.then_ret (QW.block_ret (QW.then_ret (QW.then_ret (QW.block_ret (QW.then_ret ?_))))))))
    obtain rfl := inj hl186
    obtain rfl := inj hF
    refine QW.ret_ct rfl rfl (run_loadN (cs := [U 0, U 0]) (by kernel_rfl) (by kernel_rfl) (hst.blkN 0 rfl 0 2)) rfl ?_
    exact ⟨rfl, hst.keep [] rfl⟩
   refine CW.skip (QW.next (CW.region ?_))
   refine pu 1 [(18, Pt b11)] ?_
   refine OW.ld rfl rfl rfl rfl (by kernel_rfl) (hst.blk 1 rfl rfl) ?_
   refine pu 1 [(20, Pt b206)] ?_
   refine OW.ld rfl rfl rfl rfl (by kernel_rfl) (hst.blk 2 rfl rfl) ?_
   refine pu 2 [(22, U (imin s187.Lo x200.Lo)), (23, .pointer (some ⟨b11, 1, none⟩))] ?_
   refine OW.ld rfl rfl rfl rfl (by kernel_rfl) (hst.blk 1 rfl rfl) ?_
   refine pu 1 [(25, .pointer (some ⟨b206, 1, none⟩))] ?_
   refine OW.ld rfl rfl rfl rfl (by kernel_rfl) (hst.blk 2 rfl rfl) ?_
   refine pu 2 [(28, .agg [U (imin s187.Lo x200.Lo), U (imax s187.Hi x200.Hi)].toArray)] ?_
   refine OW.stB hst 1 rfl rfl rfl rfl rfl (by kernel_rfl) rfl rfl [U (imin s187.Lo x200.Lo), U (imax s187.Hi x200.Hi)] rfl ?_
   intro w221 hst
   refine OW.nil rfl (QW.block_normal (QW.next (CW.region ?_)))
   refine pu 2 [(10, I (w64 ((i188 : Int) + 1)))] (OW.nil rfl ?_)
   refine QW.say 10 rfl (congrArg (Value.int .i64) (w64_cnt hc190 l1)) ?_
   exact QW.meet (fun a ha => ⟨n185, Nat.lt_succ_self _, i188 + 1, (api_Span.mk (imin s187.Lo x200.Lo) (imax s187.Hi x200.Hi)), cnt_next hi189, ha.ag, hst.keep [0, 1] rfl, hl186⟩)
  rcases n185 with _ | n185
  ·refine CW.cond_f rfl hc190 ?_
   refine CW.exit (QW.then_exit (QW.then_exit ?_))
   refine QW.block_here ?_
   obtain rfl := inj hl186
   exact QW.meet (fun a ha => ⟨s187, rfl, ha.ag, hst.keep [0, 1] rfl⟩)
  exact (cnt1 hi189 hc190).elim
 rintro a w1 ⟨t119, rfl, ha, hst⟩
 refine CW.go ?_ ha
 refine CW.seq (rg ?_)
 refine pu 3 [(32, .bool (((p0).length : Int) == 0))] (nx ?_)
 refine br ((((p0).length : Int) == 0)) hF (fun hF hc222 => ?_) (fun hF hc222 => ?_)
 ·refine rg ?_
  refine pu 1 [(33, .agg [U 0, U 0].toArray)] ?_
  refine OW.stB hst 0 rfl rfl rfl rfl rfl (by kernel_rfl) rfl rfl [U 0, U 0] rfl ?_
  intro w224 hst
  refine pu 1 [(3, .bool false)] (nx (CW.ret (QW.then_ret ?_)))
  obtain rfl := inj hF
  refine QW.ret_ct rfl rfl (run_loadN (cs := [U 0, U 0]) (by kernel_rfl) (by kernel_rfl) (hst.blkN 0 rfl 0 2)) rfl ?_
  exact ⟨rfl, hst.keep [] rfl⟩
 refine CW.skip (QW.next (rg ?_))
 refine OW.ldN (cs := [U t119.Lo, U t119.Hi]) rfl rfl rfl rfl (by kernel_rfl) (by kernel_rfl) (hst.blkN 1 rfl 0 2) ?_
 refine OW.stB hst 0 rfl rfl rfl rfl rfl (by kernel_rfl) rfl rfl [U t119.Lo, U t119.Hi] rfl ?_
 intro w226 hst
 refine pu 1 [(3, .bool true)] (nx (CW.ret ?_))
 obtain rfl := inj hF
 refine QW.ret_ct rfl rfl (run_loadN (cs := [U t119.Lo, U t119.Hi]) (by kernel_rfl) (by kernel_rfl) (hst.blkN 0 rfl 0 2)) rfl ?_
 exact ⟨rfl, hst.keep [] rfl⟩
theorem judge_joined_ok (w : World) (p0 : api_Type) (p1 : api_Type) (r : api_Type) (hF : judge_joined p0 p1 = some r)
    (hst : St w (fp []) w []) :
    Calls Tryd.prog 89 [.agg [I p0.Kind, U p0.Span.Lo, U p0.Span.Hi, I p0.Map].toArray, .agg [I p1.Kind, U p1.Span.Lo, U p1.Span.Hi, I p1.Map].toArray].toArray w (fun e w' => e = .returned (.agg [I r.Kind, U r.Span.Lo, U r.Span.Hi, I r.Map].toArray) ∧ St w (fp []) w' []) := by
 refine CW.start (N := 37) Tryd.func89 rfl rfl rfl (rg ?_)
 refine OW.box hst rfl rfl rfl rfl [I p0.Kind, U p0.Span.Lo, U p0.Span.Hi, I p0.Map] rfl ?_
 intro b7 w8 hst
 refine OW.box hst rfl rfl rfl rfl [I p1.Kind, U p1.Span.Lo, U p1.Span.Hi, I p1.Map] rfl ?_
 intro b9 w10 hst
 refine OW.alloc hst rfl rfl rfl [I 0, U 0, U 0, I 0] (by kernel_rfl) ?_
 intro b11 w12 hst
 refine nx (CW.seq (CW.block (CW.seq ?_)))
 refine CW.cutK (fun a w1 => Rep 37 [(2, Pt b7), (3, Pt b9), (4, Pt b11), (7, .bool ((p0.Kind != p1.Kind) || (p0.Map != p1.Map)))] a ∧ St w (fp []) w1 [blkI b7 117 [I p0.Kind, U p0.Span.Lo, U p0.Span.Hi, I p0.Map], blkI b9 117 [I p1.Kind, U p1.Span.Lo, U p1.Span.Hi, I p1.Map], blkI b11 117 [I 0, U 0, U 0, I 0]]) ?_ ?_
 ·refine CW.region ?_
  refine pu 1 [(8, Pt b7)] ?_
  refine OW.ld rfl rfl rfl rfl (by kernel_rfl) (hst.blk 0 rfl rfl) ?_
  refine pu 1 [(10, Pt b9)] ?_
  refine OW.ld rfl rfl rfl rfl (by kernel_rfl) (hst.blk 1 rfl rfl) ?_
  refine pu 2 [(13, .bool (p0.Kind != p1.Kind))] ?_
  refine OW.split 13 rfl (fun hc13 => ?_) (fun hc13 => ?_)
  ·refine pu 7 [(7, .bool true)] (OW.nil rfl ?_)
   refine QW.say 7 (v := .bool ((p0.Kind != p1.Kind) || (p0.Map != p1.Map))) rfl (by first | (rw [hc13]; done) | (rw [hc13]; rfl) | simp [hc13]) ?_
   exact QW.meet (fun a ha => ⟨ha.ag, hst.keep [0, 1, 2] rfl⟩)
  refine pu 1 [(14, .pointer (some ⟨b7, 3, none⟩))] ?_
  refine OW.ld rfl rfl rfl rfl (by kernel_rfl) (hst.blk 0 rfl rfl) ?_
  refine pu 1 [(16, .pointer (some ⟨b9, 3, none⟩))] ?_
  refine OW.ld rfl rfl rfl rfl (by kernel_rfl) (hst.blk 1 rfl rfl) ?_
  refine pu 3 [(7, .bool (p0.Map != p1.Map))] (OW.nil rfl ?_)
  refine QW.say 7 (v := .bool ((p0.Kind != p1.Kind) || (p0.Map != p1.Map))) rfl (by first | (rw [hc13]; done) | (rw [hc13]; rfl) | simp [hc13]) ?_
  exact QW.meet (fun a ha => ⟨ha.ag, hst.keep [0, 1, 2] rfl⟩)
 rintro a w1 ⟨ha, hst⟩
 refine CW.go ?_ ha
 refine br (((p0.Kind != p1.Kind) || (p0.Map != p1.Map))) hF (fun hF hc14 => ?_) (fun hF hc14 => ?_)
 ·refine rg ?_
  refine pu 1 [(20, .agg [I 0, U 0, U 0, I 0].toArray)] ?_
  refine OW.stB hst 2 rfl rfl rfl rfl rfl (by kernel_rfl) rfl rfl [I 0, U 0, U 0, I 0] rfl ?_
  intro w16 hst
  refine nx (CW.ret (QW.block_ret (QW.then_ret ?_)))
  obtain rfl := inj hF
  refine QW.ret_c rfl rfl (run_loadN (cs := [I 0, U 0, U 0, I 0]) (by kernel_rfl) (by kernel_rfl) (hst.blkN 2 rfl 0 4)) ?_
  exact ⟨rfl, hst.keep [] rfl⟩
 refine rg ?_
 refine pu 1 [(22, Pt b7)] ?_
 refine OW.ld rfl rfl rfl rfl (by kernel_rfl) (hst.blk 0 rfl rfl) ?_
 refine pu 2 [(21, .bool (p0.Kind == 1))] (nx ?_)
 refine br ((p0.Kind == 1)) hF (fun hF hc17 => ?_) (fun hF hc17 => ?_)
 ·refine rg ?_
  refine pu 1 [(26, .pointer (some ⟨b7, 1, none⟩))] ?_
  refine OW.ldN (cs := [U p0.Span.Lo, U p0.Span.Hi]) rfl rfl rfl rfl (by kernel_rfl) (by kernel_rfl) (hst.blkN 0 rfl 1 2) ?_
  refine pu 1 [(28, .pointer (some ⟨b9, 1, none⟩))] ?_
  refine OW.ldN (cs := [U p1.Span.Lo, U p1.Span.Hi]) rfl rfl rfl rfl (by kernel_rfl) (by kernel_rfl) (hst.blkN 1 rfl 1 2) ?_
  refine OW.row (α := api_Span) (e := 115) (enc := enc_api_Span) (sz := 2) hst rfl rfl rfl [p0.Span, p1.Span] rfl (fun _ => rfl) rfl rfl (fun _ => by kernel_rfl) ?_
  intro g27 w28 hst
  obtain ⟨r29, hr30, hF⟩ := bs hF
  refine OW.fn rfl rfl rfl rfl (by kernel_rfl) (span_Join_ok _ (.slice (some ⟨g27, 0, none⟩) 2 2) ([p0.Span, p1.Span]) r29 hr30 (hst.part [] rfl) (hst.rd 3 rfl (fun _ => rfl) [] rfl (hst.len 3 rfl).1)) ?_
  rintro e w31 ⟨rfl, hst32⟩
  refine ⟨_, rfl, ?_⟩
  have hst := hst.join (idx := []) (rest := [0, 1, 2, 3]) rfl hst32
  refine pu 3 [(32, .agg [U r29.1.Lo, U r29.1.Hi].toArray), (33, .bool r29.2)] ?_
  refine OW.alloc hst rfl rfl rfl [U 0, U 0] (by kernel_rfl) ?_
  intro b33 w34 hst
  refine OW.stB hst 4 rfl rfl rfl rfl rfl (by kernel_rfl) rfl rfl [U r29.1.Lo, U r29.1.Hi] rfl ?_
  intro w35 hst
  refine pu 1 [] (nx (rg ?_))
  refine OW.ldN (cs := [U r29.1.Lo, U r29.1.Hi]) rfl rfl rfl rfl (by kernel_rfl) (by kernel_rfl) (hst.blkN 4 rfl 0 2) ?_
  obtain ⟨r41, hr42, hF⟩ := bs hF
  refine OW.fn rfl rfl rfl rfl (by kernel_rfl) (judge_number_ok _ r29.1 r41 hr42 (hst.part [] rfl)) ?_
  rintro e w43 ⟨rfl, hst44⟩
  refine ⟨_, rfl, ?_⟩
  have hst := hst.join (idx := []) (rest := [0, 1, 2, 3, 4]) rfl hst44
  refine OW.stB hst 2 rfl rfl rfl rfl rfl (by kernel_rfl) rfl rfl [I r41.Kind, U r41.Span.Lo, U r41.Span.Hi, I r41.Map] rfl ?_
  intro w45 hst
  refine nx (CW.ret (QW.block_ret (QW.then_ret ?_)))
  obtain rfl := inj hF
  refine QW.ret_c rfl rfl (run_loadN (cs := [I r41.Kind, U r41.Span.Lo, U r41.Span.Hi, I r41.Map]) (by kernel_rfl) (by kernel_rfl) (hst.blkN 2 rfl 0 4)) ?_
  exact ⟨rfl, hst.keep [] rfl⟩
 refine CW.skip (QW.block_normal (QW.next (rg ?_)))
 refine OW.ldN (cs := [I p0.Kind, U p0.Span.Lo, U p0.Span.Hi, I p0.Map]) rfl rfl rfl rfl (by kernel_rfl) (by kernel_rfl) (hst.blkN 0 rfl 0 4) ?_
 refine OW.stB hst 2 rfl rfl rfl rfl rfl (by kernel_rfl) rfl rfl [I p0.Kind, U p0.Span.Lo, U p0.Span.Hi, I p0.Map] rfl ?_
 intro w47 hst
 refine nx (CW.ret ?_)
 obtain rfl := inj hF
 refine QW.ret_c rfl rfl (run_loadN (cs := [I p0.Kind, U p0.Span.Lo, U p0.Span.Hi, I p0.Map]) (by kernel_rfl) (by kernel_rfl) (hst.blkN 2 rfl 0 4)) ?_
 exact ⟨rfl, hst.keep [] rfl⟩
theorem judge_judge_come_ok (w : World) (wb : World) (Sb : List Nat) (v0 : Value) (S0 : List Nat) (p0 : judge_judge) (p1 : Int) (p2 : Nat → api_Type) (r : judge_judge) (hF : judge_judge_come p0 p1 p2 = some r)
    (hst : St w (fp [itI (R_t83 wb Sb) [v0] S0 p0]) w [itI (R_t83 wb Sb) [v0] S0 p0]) (hb : Bor wb Sb w (fp [itI (R_t83 wb Sb) [v0] S0 p0])) :
    Calls Tryd.prog 62 [v0, I p1, .agg (arrC (enc_api_Type) 8 p2).toArray].toArray w (fun e w' => ∃ (s0 : List Nat), e = .returned (.tuple #[]) ∧ St w (fp [itI (R_t83 wb Sb) [v0] S0 p0]) w' [itI (R_t83 wb Sb) [v0] s0 r]) := by
 refine CW.start (N := 53) Tryd.func62 rfl rfl rfl ?_
 obtain ⟨b1, rfl⟩ := hst.fptr 0 rfl
 refine rg ?_
 refine OW.box hst rfl rfl rfl rfl (arrC (enc_api_Type) 8 p2) rfl ?_
 intro b4 w5 hst
 refine nx (CW.seq (CW.seq ?_))
 obtain ⟨v6, S7, v8, S9, v10, S11, v12, S13, v14, S15, hst⟩ := hst.openQ5 0 rfl rfl rfl rfl rfl rfl
 have hbo16 := hst.borOut 2 rfl
 have hbr17 := hbo16.bor hb
 have hbo18 := hst.borOut 3 rfl
 have hbr19 := hbo18.bor hb
 have hst := hst.toRow1 4 rfl
 have hst := hst.toRow1 5 rfl
 have hst := hst.toRow1 6 rfl
 have hst := hst.keep [0, 1, 4, 5, 6] rfl
 obtain ⟨l20, a21, c22, rfl⟩ := hbr17.len
 obtain ⟨l23, a24, c25, rfl⟩ := hbr19.len
 obtain ⟨l26, a27, c28, rfl⟩ := hst.len 2 rfl
 obtain ⟨l29, a30, c31, rfl⟩ := hst.len 3 rfl
 obtain ⟨l32, a33, c34, rfl⟩ := hst.len 4 rfl
 have hst : St _ _ _ [blkI b1 109 [.slice a21 (p0.Module.Maps).length c22, .slice a24 (p0.Module.Code).length c25, .slice a27 (p0.came).length c28, .slice a30 (p0.any).length c31, .slice a33 (p0.loops).length c34], _, _, _, _] := hst
 refine CW.region ?_
 refine pu 3 [(9, .pointer (some ⟨b1, 3, none⟩))] ?_
 refine OW.ld rfl rfl rfl rfl (by kernel_rfl) (hst.blk 0 rfl rfl) ?_
 refine pu 1 [(11, I p1)] ?_
 obtain ⟨x41, hx42, hF⟩ := bs hF
 obtain ⟨g44, o45, c46, hv43⟩ := hst.rowv 3 rfl hx42
 refine OW.idx 4 1 rfl rfl rfl rfl hv43 rfl (idx_some hx42).1 (idx_some hx42).2.1 (by kernel_rfl) (by kernel_rfl) ?_
 refine OW.ld rfl rfl rfl rfl (by kernel_rfl) (hst.rowc 3 rfl (fun _ => rfl) hx42 hv43 0 _ rfl) ?_
 refine pu 1 [(14, .bool (!x41))] (nx ?_)
 refine br ((!x41)) hF (fun hF hc47 => ?_) (fun hF hc47 => ?_)
 ·refine CW.seq ?_
  refine CW.plan (by kernel_rfl) ?_
  intro w62 hch63
  have hst := hst.same hch63
  refine OA.pure [0, 1, 2] [(17, .pointer (some ⟨b1, 3, none⟩))] (by kernel_rfl) ?_
  refine OA.ld (i := 3) rfl (by kernel_rfl) rfl rfl rfl (by kernel_rfl) (hst.blk 0 rfl rfl) ?_
  refine OA.pure [4, 5, 6, 7] [(19, I p1), (22, .pointer (some ⟨b1, 2, none⟩))] (by kernel_rfl) ?_
  refine OA.ld (i := 8) rfl (by kernel_rfl) rfl rfl rfl (by kernel_rfl) (hst.blk 0 rfl rfl) ?_
  refine OA.pure [9] [(24, I p1)] (by kernel_rfl) ?_
  refine OA.ldN (i := 10) (cs := (arrC (enc_api_Type) 8 p2)) rfl (by kernel_rfl) rfl rfl rfl (by kernel_rfl) (by kernel_rfl) (hst.blkN 1 rfl 0 32) ?_
  obtain ⟨g65, o66, c67, hv64⟩ := hst.rowv 3 rfl hx42
  refine OA.idx (i := 11) 4 1 rfl (by kernel_rfl) rfl rfl rfl hv64 rfl (idx_some hx42).1 (idx_some hx42).2.1 (by kernel_rfl) (by kernel_rfl) ?_
  refine OA.act (i := 12) [10] (by kernel_rfl) rfl rfl (by kernel_rfl) (by kernel_rfl) ?_
  refine OW.stR hst 3 rfl hv64 (fun _ => rfl) rfl rfl hx42 0 rfl rfl rfl (by kernel_rfl) rfl rfl true rfl ?_
  intro w68 hst
  refine OA.next ⟨(hst.blkN 1 rfl 0 32), trivial⟩ ?_
  obtain ⟨x69, hx70, hF⟩ := bs hF
  obtain ⟨g72, o73, c74, hv71⟩ := hst.rowv 2 rfl hx70
  refine OA.idx (i := 13) 119 32 rfl (by kernel_rfl) rfl rfl rfl hv71 rfl (idx_some hx70).1 (idx_some hx70).2.1 (by kernel_rfl) (by kernel_rfl) ?_
  refine OA.act (i := 14) [] (by kernel_rfl) rfl rfl (by kernel_rfl) (by kernel_rfl) ?_
  refine OW.stR hst 2 rfl hv71 (fun _ => rfl) rfl rfl hx70 0 rfl rfl rfl (by kernel_rfl) rfl rfl p2 rfl ?_
  intro w75 hst
  refine OA.next trivial ?_
  refine OA.fin (by kernel_rfl) (by kernel_rfl) (QW.next (CW.ret (QW.then_ret ?_)))
  have hst := hst.borIn hbo16
  have hst := hst.borIn hbo18
  have hst := hst.toIt 2 rfl (fun _ => rfl) (by decide)
  have hst := hst.toIt 3 rfl (fun _ => rfl) (by decide)
  have hst := hst.toIt 4 rfl (fun _ => rfl) (by decide)
  obtain ⟨S76, hst⟩ := hst.shutP5 (R_t109 wb Sb) rfl 0 5 6 2 3 4 [1] rfl rfl rfl rfl rfl rfl rfl (judge_judge.mk p0.Module (p0.came.set (Int.toNat p1) p2) (p0.any.set (Int.toNat p1) true) p0.loops) rfl rfl
  obtain rfl := inj hF
  refine QW.ret0 rfl ?_
  exact ⟨S76, rfl, hst.keep [1] rfl⟩
 refine CW.skip (QW.next (rg ?_))
 refine pu 1 [(28, I 0)] (nx ?_)
 obtain ⟨o290, ho291, hF⟩ := bs hF
 refine CW.cutQ (fun a w1 => ∃ (S289 : List Nat), Rep 53 [] a ∧ St w (fp [itI (R_t83 wb Sb) [Pt b1] S0 p0]) w1 [itI (R_t83 wb Sb) [Pt b1] S289 o290]) ?_ ?_
 ·refine CW.block ?_
  have hst := hst.borIn hbo16
  have hst := hst.borIn hbo18
  have hst := hst.toIt 2 rfl (fun _ => rfl) (by decide)
  have hst := hst.toIt 3 rfl (fun _ => rfl) (by decide)
  have hst := hst.toIt 4 rfl (fun _ => rfl) (by decide)
  obtain ⟨S292, hst⟩ := hst.shutP5 (R_t109 wb Sb) rfl 0 5 6 2 3 4 [1] rfl rfl rfl rfl rfl rfl rfl p0 rfl rfl
  refine CW.loop (fun n a w1 => ∃ (i433 : Nat) (s431 : judge_judge) (S432 : List Nat), i433 + n = 8 ∧ Rep 53 [(0, Pt b1), (1, I p1), (5, Pt b4), (28, I (i433 : Int))] a ∧ St w (fp [itI (R_t83 wb Sb) [Pt b1] S0 p0]) w1 [itI (R_t83 wb Sb) [Pt b1] S432 s431, blkI b4 119 (arrC (enc_api_Type) 8 p2)] ∧ forN (judge_judge_come_l1 p1 p2) (fun (s431 : judge_judge) => s431) n i433 s431 = some o290) 8 (fun a ha => ⟨0, p0, S292, Nat.zero_add _, ha.ag, hst.keep [1, 0] rfl, ho291⟩) ?_
  rintro n429 a w1 ⟨i433, s431, S432, hi434, ha, hst, hl430⟩
  refine CW.go ?_ ha
  refine rg ?_
  refine pu 1 [(29, .bool (decide ((i433 : Int) < 8)))] (nx (CW.seq ?_))
  rcases bft (decide ((i433 : Int) < 8)) with hc435 | hc435
  ·rcases n429 with _ | n429
   ·exact (cnt0 hi434 hc435).elim
   refine CW.cond_t rfl hc435 (CW.skip (QW.next (CW.seq (CW.block (rg ?_)))))
   refine pu 2 [(6, I (i433 : Int))] (nx ?_)
   obtain ⟨v436, S437, v438, S439, v440, S441, v442, S443, v444, S445, hst⟩ := hst.openQ5 0 rfl rfl rfl rfl rfl rfl
   have hbo446 := hst.borOut 2 rfl
   have hbr447 := hbo446.bor hb
   have hbo448 := hst.borOut 3 rfl
   have hbr449 := hbo448.bor hb
   have hst := hst.toRow1 4 rfl
   have hst := hst.toRow1 5 rfl
   have hst := hst.toRow1 6 rfl
   have hst := hst.keep [0, 1, 4, 5, 6] rfl
   obtain ⟨l450, a451, c452, rfl⟩ := hbr447.len
   obtain ⟨l453, a454, c455, rfl⟩ := hbr449.len
   obtain ⟨l456, a457, c458, rfl⟩ := hst.len 2 rfl
   obtain ⟨l459, a460, c461, rfl⟩ := hst.len 3 rfl
   obtain ⟨l462, a463, c464, rfl⟩ := hst.len 4 rfl
   have hst : St _ _ _ [blkI b1 109 [.slice a451 (s431.Module.Maps).length c452, .slice a454 (s431.Module.Code).length c455, .slice a457 (s431.came).length c458, .slice a460 (s431.any).length c461, .slice a463 (s431.loops).length c464], _, _, _, _] := hst
   refine CW.plan (by kernel_rfl) ?_
   intro w484 hch485
   have hst := hst.same hch485
   refine OA.pure [0, 1, 2] [(33, .pointer (some ⟨b1, 2, none⟩))] (by kernel_rfl) ?_
   refine OA.ld (i := 3) rfl (by kernel_rfl) rfl rfl rfl (by kernel_rfl) (hst.blk 0 rfl rfl) ?_
   refine OA.pure [4, 5, 6, 7, 8] [(35, I p1), (36, I (i433 : Int)), (39, .pointer (some ⟨b1, 2, none⟩))] (by kernel_rfl) ?_
   refine OA.ld (i := 9) rfl (by kernel_rfl) rfl rfl rfl (by kernel_rfl) (hst.blk 0 rfl rfl) ?_
   refine OA.pure [10, 11] [(41, I p1), (42, I (i433 : Int))] (by kernel_rfl) ?_
   obtain ⟨x486, hx487, hl430⟩ := bs hl430
   obtain ⟨g489, o490, c491, hv488⟩ := hst.rowv 2 rfl hx487
   refine OA.idx (i := 12) 119 32 rfl (by kernel_rfl) rfl rfl rfl hv488 rfl (idx_some hx487).1 (idx_some hx487).2.1 (by kernel_rfl) (by kernel_rfl) ?_
   obtain ⟨i492, hi493, hl430⟩ := bs hl430
   refine OA.val (i := 13) (v := .pointer (some ⟨g489, o490 + Int.toNat p1 * 32 + 0 + Int.toNat (i433 : Int) * 4, none⟩)) rfl (by kernel_rfl) rfl rfl rfl rfl (fun a w ha => aidx_run (n := 8) 117 4 rfl rfl rfl (ain_some hi493).1 (ain_some hi493).2.1 (by kernel_rfl) (by kernel_rfl) a w ha) ?_
   refine OA.ldN (i := 14) (cs := enc_api_Type (x486 i492)) rfl (by kernel_rfl) rfl rfl rfl (by kernel_rfl) (by kernel_rfl) (cell_arr (hst.rowc 2 rfl (fun _ => rfl) hx487 hv488) enc_api_Type (fun _ => rfl) 8 x486 0 rfl rfl hi493) ?_
   refine OA.pure [15] [(46, I (i433 : Int))] (by kernel_rfl) ?_
   refine OA.val (i := 16) (v := .pointer (some ⟨b4, 0 + Int.toNat (i433 : Int) * 4, none⟩)) rfl (by kernel_rfl) rfl rfl rfl rfl (fun a w ha => aidx_run (n := 8) 117 4 rfl rfl rfl (ain_some hi493).1 (ain_some hi493).2.1 (by kernel_rfl) (by kernel_rfl) a w ha) ?_
   refine OA.ldN (i := 17) (cs := enc_api_Type (p2 i492)) rfl (by kernel_rfl) rfl rfl rfl (by kernel_rfl) (by kernel_rfl) (hst.arrB 1 rfl enc_api_Type (fun _ => rfl) 8 p2 0 rfl rfl hi493) ?_
   obtain ⟨g495, o496, c497, hv494⟩ := hst.rowv 2 rfl hx487
   refine OA.idx (i := 19) 119 32 rfl (by kernel_rfl) rfl rfl rfl hv494 rfl (idx_some hx487).1 (idx_some hx487).2.1 (by kernel_rfl) (by kernel_rfl) ?_
   refine OA.act (i := 18) [3] (by kernel_rfl) rfl rfl (by kernel_rfl) (by kernel_rfl) ?_
   obtain ⟨r498, hr499, hl430⟩ := bs hl430
   refine OW.fn rfl rfl rfl rfl (by kernel_rfl) (judge_joined_ok _ (x486 i492) (p2 i492) r498 hr499 (hst.part [] rfl)) ?_
   rintro e w500 ⟨rfl, hst501⟩
   refine ⟨_, rfl, ?_⟩
   have hst := hst.join (idx := []) (rest := [0, 1, 2, 3, 4]) rfl hst501
   refine OA.next ⟨(hst.blk 0 rfl rfl), trivial⟩ ?_
   refine OA.val (i := 20) (v := .pointer (some ⟨g495, o496 + Int.toNat p1 * 32 + 0 + Int.toNat (i433 : Int) * 4, none⟩)) rfl (by kernel_rfl) rfl rfl rfl rfl (fun a w ha => aidx_run (n := 8) 117 4 rfl rfl rfl (ain_some hi493).1 (ain_some hi493).2.1 (by kernel_rfl) (by kernel_rfl) a w ha) ?_
   refine OA.act (i := 21) [] (by kernel_rfl) rfl rfl (by kernel_rfl) (by kernel_rfl) ?_
   refine OW.stRA hst 2 rfl hv494 (fun _ => rfl) rfl rfl hx487 rfl rfl (by kernel_rfl) rfl enc_api_Type (fun _ => rfl) 8 x486 0 rfl rfl hi493 0 rfl rfl r498 rfl (aset x486 i492 r498) rfl ?_
   intro w502 hst
   refine OA.next trivial ?_
   refine OA.fin (by kernel_rfl) (by kernel_rfl) (QW.block_normal (QW.next (CW.region ?_)))
   refine pu 2 [(28, I (w64 ((i433 : Int) + 1)))] (OW.nil rfl ?_)
   have hst := hst.borIn hbo446
   have hst := hst.borIn hbo448
   have hst := hst.toIt 2 rfl (fun _ => rfl) (by decide)
   have hst := hst.toIt 3 rfl (fun _ => rfl) (by decide)
   have hst := hst.toIt 4 rfl (fun _ => rfl) (by decide)
   obtain ⟨S503, hst⟩ := hst.shutP5 (R_t109 wb Sb) rfl 0 5 6 2 3 4 [1] rfl rfl rfl rfl rfl rfl rfl (judge_judge.mk s431.Module (s431.came.set (Int.toNat p1) (aset x486 i492 r498)) s431.any s431.loops) rfl rfl
   refine QW.say 28 rfl (congrArg (Value.int .i64) (w64_cnt hc435 (by decide))) ?_
   exact QW.meet (fun a ha => ⟨n429, Nat.lt_succ_self _, i433 + 1, (judge_judge.mk s431.Module (s431.came.set (Int.toNat p1) (aset x486 i492 r498)) s431.any s431.loops), S503, cnt_next hi434, ha.ag, hst.keep [1, 0] rfl, hl430⟩)
  rcases n429 with _ | n429
  ·refine CW.cond_f rfl hc435 ?_
   refine CW.exit (QW.then_exit (QW.then_exit ?_))
   refine QW.block_here ?_
   obtain rfl := inj hl430
   exact QW.meet (fun a ha => ⟨S432, ha.ag, hst.keep [0] rfl⟩)
  exact (cnt1 hi434 hc435).elim
 rintro a w1 ⟨S289, ha, hst⟩
 refine QW.go ?_ ha
 obtain rfl := inj hF
 refine QW.end0 rfl ?_
 exact ⟨S289, rfl, hst.keep [0] rfl⟩
theorem arith_Holds_ok (w : World) (p0 : Int) (p1 : Int) (p2 : Int) (r : Bool × Bool) (hF : arith_Holds p0 p1 p2 = some r)
    (hst : St w (fp []) w []) :
    Calls Tryd.prog 70 [I p0, U p1, U p2].toArray w (fun e w' => e = .returned (.tuple #[.bool r.1, .bool r.2]) ∧ St w (fp []) w' []) := by
 refine CW.start (N := 29) Tryd.func70 rfl rfl rfl (rg ?_)
 refine pu 2 [] (nx (CW.seq (rg ?_)))
 refine pu 1 [(8, I p0)] (nx (CW.block (rg ?_)))
 refine pu 2 [(9, .bool (p0 == 16))] (nx ?_)
 refine br ((p0 == 16)) hF (fun hF hc1 => ?_) (fun hF hc1 => ?_)
 ·refine rg ?_
  refine pu 5 [(6, .bool (p1 == p2)), (7, .bool true)] (nx (CW.ret (QW.block_ret (QW.then_ret ?_))))
  obtain rfl := inj hF
  refine QW.ret2 rfl rfl rfl ?_
  exact ⟨rfl, hst.keep [] rfl⟩
 refine rg ?_
 refine pu 2 [(14, .bool (p0 == 17))] (nx ?_)
 refine br ((p0 == 17)) hF (fun hF hc2 => ?_) (fun hF hc2 => ?_)
 ·refine rg ?_
  refine pu 5 [(6, .bool (p1 != p2)), (7, .bool true)] (nx (CW.ret (QW.block_ret (QW.then_ret ?_))))
  obtain rfl := inj hF
  refine QW.ret2 rfl rfl rfl ?_
  exact ⟨rfl, hst.keep [] rfl⟩
 refine rg ?_
 refine pu 2 [(19, .bool (p0 == 18))] (nx ?_)
 refine br ((p0 == 18)) hF (fun hF hc3 => ?_) (fun hF hc3 => ?_)
 ·refine rg ?_
  refine pu 5 [(6, .bool (decide (p1 < p2))), (7, .bool true)] (nx (CW.ret (QW.block_ret (QW.then_ret ?_))))
  obtain rfl := inj hF
  refine QW.ret2 rfl rfl rfl ?_
  exact ⟨rfl, hst.keep [] rfl⟩
 refine rg ?_
 refine pu 2 [(24, .bool (p0 == 19))] (nx ?_)
 refine br ((p0 == 19)) hF (fun hF hc4 => ?_) (fun hF hc4 => ?_)
 ·refine rg ?_
  refine pu 5 [(6, .bool (decide (p1 ≥ p2))), (7, .bool true)] (nx (CW.ret (QW.block_ret (QW.then_ret ?_))))
  obtain rfl := inj hF
  refine QW.ret2 rfl rfl rfl ?_
  exact ⟨rfl, hst.keep [] rfl⟩
 refine CW.skip (QW.block_normal (QW.next (rg ?_)))
 refine pu 2 [(6, .bool false), (7, .bool false)] (nx (CW.ret ?_))
 obtain rfl := inj hF
 refine QW.ret2 rfl rfl rfl ?_
 exact ⟨rfl, hst.keep [] rfl⟩
theorem span_Meet_ok (w : World) (v0 : Value) (p0 : List api_Span) (r : api_Span × Bool) (hF : span_Meet p0 = some r)
    (hst : St w (fp []) w []) (h0 : Rd w (fp []) v0 enc_api_Span 2 p0) :
    Calls Tryd.prog 90 [v0].toArray w (fun e w' => e = .returned (.tuple #[.agg [U r.1.Lo, U r.1.Hi].toArray, .bool r.2]) ∧ St w (fp []) w' []) := by
 refine CW.start (N := 40) Tryd.func90 rfl rfl rfl ?_
 obtain ⟨l1, a2, c3, rfl⟩ := h0.len
 refine rg ?_
 refine OW.alloc hst rfl rfl rfl [U 0, U 0] (by kernel_rfl) ?_
 intro b6 w7 hst
 refine pu 1 [] (nx (rg ?_))
 obtain ⟨r15, hr16, hF⟩ := bs hF
 refine OW.fn rfl rfl rfl rfl (by kernel_rfl) (span_Full_ok _ r15 hr16 (hst.part [] rfl)) ?_
 rintro e w17 ⟨rfl, hst18⟩
 refine ⟨_, rfl, ?_⟩
 have hst := hst.join (idx := []) (rest := [0]) rfl hst18
 refine OW.alloc hst rfl rfl rfl [U 0, U 0] (by kernel_rfl) ?_
 intro b19 w20 hst
 refine OW.stB hst 1 rfl rfl rfl rfl rfl (by kernel_rfl) rfl rfl [U r15.Lo, U r15.Hi] rfl ?_
 intro w21 hst
 refine nx (CW.seq (rg ?_))
 refine pu 3 [(8, .slice a2 (p0).length c3), (9, I ((p0).length : Int)), (10, I 0)] (nx ?_)
 obtain ⟨o126, ho127, hF⟩ := bs hF
 refine CW.cutK (fun a w1 => ∃ (t128 : api_Span), o126 = .inl t128 ∧ Rep 40 [(0, .slice a2 (p0).length c3), (2, Pt b6), (4, Pt b19)] a ∧ St w (fp []) w1 [blkI b6 115 [U 0, U 0], blkI b19 115 [U t128.Lo, U t128.Hi]]) ?_ ?_
 ·refine CW.block ?_
  refine CW.loop (fun n a w1 => ∃ (i197 : Nat) (s196 : api_Span), i197 + n = (p0).length ∧ Rep 40 [(0, .slice a2 (p0).length c3), (2, Pt b6), (4, Pt b19), (8, .slice a2 (p0).length c3), (9, I ((p0).length : Int)), (10, I (i197 : Int))] a ∧ St w (fp []) w1 [blkI b6 115 [U 0, U 0], blkI b19 115 [U s196.Lo, U s196.Hi]] ∧ forN (span_Meet_l1 p0) (fun (s196 : api_Span) => (.inl s196)) n i197 s196 = some o126) (p0).length (fun a ha => ⟨0, r15, Nat.zero_add _, ha.ag, hst.keep [0, 1] rfl, ho127⟩) ?_
  rintro n194 a w1 ⟨i197, s196, hi198, ha, hst, hl195⟩
  refine CW.go ?_ ha
  refine rg ?_
  refine pu 1 [(11, .bool (decide ((i197 : Int) < ((p0).length : Int))))] (nx (CW.seq ?_))
  rcases bft (decide ((i197 : Int) < ((p0).length : Int))) with hc199 | hc199
  ·rcases n194 with _ | n194
   ·exact (cnt0 hi198 hc199).elim
   refine CW.cond_t rfl hc199 (CW.skip (QW.next (CW.seq (CW.block (rg ?_)))))
   obtain ⟨x209, hx210, hl195⟩ := bs hl195
   obtain ⟨g212, o213, c214, hv211⟩ := h0.formv (fun _ => ⟨_, rfl⟩) hx210
   refine OW.idx 115 2 rfl rfl rfl rfl hv211 rfl (idx_some hx210).1 (idx_some hx210).2.1 (by kernel_rfl) (by kernel_rfl) ?_
   refine OW.ldN (cs := enc_api_Span x209) rfl rfl rfl rfl (by kernel_rfl) (by kernel_rfl) (h0.cellv hst hx210 hv211) ?_
   refine OW.alloc hst rfl rfl rfl [U 0, U 0] (by kernel_rfl) ?_
   intro b215 w216 hst
   refine OW.stB hst 2 rfl rfl rfl rfl rfl (by kernel_rfl) rfl rfl [U x209.Lo, U x209.Hi] rfl ?_
   intro w217 hst
   refine nx (CW.seq (rg ?_))
   refine OW.ldN (cs := [U x209.Lo, U x209.Hi]) rfl rfl rfl rfl (by kernel_rfl) (by kernel_rfl) (hst.blkN 2 rfl 0 2) ?_
   obtain ⟨r222, hr223, hl195⟩ := bs hl195
   refine OW.fn rfl rfl rfl rfl (by kernel_rfl) (span_Right_ok _ x209 r222 hr223 (hst.part [] rfl)) ?_
   rintro e w224 ⟨rfl, hst225⟩
   refine ⟨_, rfl, ?_⟩
   have hst := hst.join (idx := []) (rest := [0, 1, 2]) rfl hst225
   refine pu 1 [(16, .bool (!r222))] (nx ?_)
   refine br ((!r222)) hl195 (fun hl195 hc226 => ?_) (fun hl195 hc226 => ?_)
   ·refine rg ?_
    refine pu 1 [(17, .agg [U 0, U 0].toArray)] ?_
    refine OW.stB hst 0 rfl rfl rfl rfl rfl (by kernel_rfl) rfl rfl [U 0, U 0] rfl ?_
    intro w228 hst
    refine pu 1 [(3, .bool false)] (nx (CW.ret (QW.then_ret (QW.block_ret (QW.then_ret (QW.then_ret (QW.block_ret (QW.then_ret ?_))))))))
    obtain rfl := inj hl195
    obtain rfl := inj hF
    refine QW.ret_ct rfl rfl (run_loadN (cs := [U 0, U 0]) (by kernel_rfl) (by kernel_rfl) (hst.blkN 0 rfl 0 2)) rfl ?_
    exact ⟨rfl, hst.keep [] rfl⟩
   refine CW.skip (QW.next (CW.region ?_))
   refine pu 1 [(18, Pt b19)] ?_
   refine OW.ld rfl rfl rfl rfl (by kernel_rfl) (hst.blk 1 rfl rfl) ?_
   refine pu 1 [(20, Pt b215)] ?_
   refine OW.ld rfl rfl rfl rfl (by kernel_rfl) (hst.blk 2 rfl rfl) ?_
   refine pu 2 [(22, U (imax s196.Lo x209.Lo)), (23, .pointer (some ⟨b19, 1, none⟩))] ?_
   refine OW.ld rfl rfl rfl rfl (by kernel_rfl) (hst.blk 1 rfl rfl) ?_
   refine pu 1 [(25, .pointer (some ⟨b215, 1, none⟩))] ?_
   refine OW.ld rfl rfl rfl rfl (by kernel_rfl) (hst.blk 2 rfl rfl) ?_
   refine pu 2 [(28, .agg [U (imax s196.Lo x209.Lo), U (imin s196.Hi x209.Hi)].toArray)] ?_
   refine OW.stB hst 1 rfl rfl rfl rfl rfl (by kernel_rfl) rfl rfl [U (imax s196.Lo x209.Lo), U (imin s196.Hi x209.Hi)] rfl ?_
   intro w230 hst
   refine OW.nil rfl (QW.block_normal (QW.next (CW.region ?_)))
   refine pu 2 [(10, I (w64 ((i197 : Int) + 1)))] (OW.nil rfl ?_)
   refine QW.say 10 rfl (congrArg (Value.int .i64) (w64_cnt hc199 l1)) ?_
   exact QW.meet (fun a ha => ⟨n194, Nat.lt_succ_self _, i197 + 1, (api_Span.mk (imax s196.Lo x209.Lo) (imin s196.Hi x209.Hi)), cnt_next hi198, ha.ag, hst.keep [0, 1] rfl, hl195⟩)
  rcases n194 with _ | n194
  ·refine CW.cond_f rfl hc199 ?_
   refine CW.exit (QW.then_exit (QW.then_exit ?_))
   refine QW.block_here ?_
   obtain rfl := inj hl195
   exact QW.meet (fun a ha => ⟨s196, rfl, ha.ag, hst.keep [0, 1] rfl⟩)
  exact (cnt1 hi198 hc199).elim
 rintro a w1 ⟨t128, rfl, ha, hst⟩
 refine CW.go ?_ ha
 refine CW.seq (CW.seq ?_)
 obtain ⟨o236, ho237, hF⟩ := bs hF
 refine CW.cutK (fun a w1 => Rep 40 [(2, Pt b6), (4, Pt b19), (37, .bool o236)] a ∧ St w (fp []) w1 [blkI b6 115 [U 0, U 0], blkI b19 115 [U t128.Lo, U t128.Hi]]) ?_ ?_
 ·refine CW.region ?_
  refine pu 4 [(33, .bool (((p0).length : Int) == 0))] ?_
  refine OW.split 33 rfl (fun hc238 => ?_) (fun hc238 => ?_)
  ·have ho237 := ite_t ho237 hc238
   refine pu 4 [(37, .bool true)] (OW.nil rfl ?_)
   obtain rfl := inj ho237
   exact QW.meet (fun a ha => ⟨ha.ag, hst.keep [0, 1] rfl⟩)
  have ho237 := ite_f ho237 hc238
  refine OW.ldN (cs := [U t128.Lo, U t128.Hi]) rfl rfl rfl rfl (by kernel_rfl) (by kernel_rfl) (hst.blkN 1 rfl 0 2) ?_
  obtain ⟨r239, hr240, ho237⟩ := bs ho237
  refine OW.fn rfl rfl rfl rfl (by kernel_rfl) (span_Right_ok _ t128 r239 hr240 (hst.part [] rfl)) ?_
  rintro e w241 ⟨rfl, hst242⟩
  refine ⟨_, rfl, ?_⟩
  have hst := hst.join (idx := []) (rest := [0, 1]) rfl hst242
  refine pu 2 [(37, .bool (!r239))] (OW.nil rfl ?_)
  obtain rfl := inj ho237
  exact QW.meet (fun a ha => ⟨ha.ag, hst.keep [0, 1] rfl⟩)
 rintro a w1 ⟨ha, hst⟩
 refine CW.go ?_ ha
 refine br (o236) hF (fun hF hc243 => ?_) (fun hF hc243 => ?_)
 ·refine rg ?_
  refine pu 1 [(38, .agg [U 0, U 0].toArray)] ?_
  refine OW.stB hst 0 rfl rfl rfl rfl rfl (by kernel_rfl) rfl rfl [U 0, U 0] rfl ?_
  intro w245 hst
  refine pu 1 [(3, .bool false)] (nx (CW.ret (QW.then_ret ?_)))
  obtain rfl := inj hF
  refine QW.ret_ct rfl rfl (run_loadN (cs := [U 0, U 0]) (by kernel_rfl) (by kernel_rfl) (hst.blkN 0 rfl 0 2)) rfl ?_
  exact ⟨rfl, hst.keep [] rfl⟩
 refine CW.skip (QW.next (rg ?_))
 refine OW.ldN (cs := [U t128.Lo, U t128.Hi]) rfl rfl rfl rfl (by kernel_rfl) (by kernel_rfl) (hst.blkN 1 rfl 0 2) ?_
 refine OW.stB hst 0 rfl rfl rfl rfl rfl (by kernel_rfl) rfl rfl [U t128.Lo, U t128.Hi] rfl ?_
 intro w247 hst
 refine pu 1 [(3, .bool true)] (nx (CW.ret ?_))
 obtain rfl := inj hF
 refine QW.ret_ct rfl rfl (run_loadN (cs := [U t128.Lo, U t128.Hi]) (by kernel_rfl) (by kernel_rfl) (hst.blkN 0 rfl 0 2)) rfl ?_
 exact ⟨rfl, hst.keep [] rfl⟩
theorem span_Refine_ok (w : World) (p0 : Int) (p1 : api_Span) (p2 : api_Span) (p3 : Bool) (r : api_Span × Bool) (hF : span_Refine p0 p1 p2 p3 = some r)
    (hst : St w (fp []) w []) :
    Calls Tryd.prog 63 [I p0, .agg [U p1.Lo, U p1.Hi].toArray, .agg [U p2.Lo, U p2.Hi].toArray, .bool p3].toArray w (fun e w' => e = .returned (.tuple #[.agg [U r.1.Lo, U r.1.Hi].toArray, .bool r.2]) ∧ St w (fp []) w' []) := by
 refine CW.start (N := 116) Tryd.func63 rfl rfl rfl (rg ?_)
 refine OW.box hst rfl rfl rfl rfl [U p1.Lo, U p1.Hi] rfl ?_
 intro b7 w8 hst
 refine OW.box hst rfl rfl rfl rfl [U p2.Lo, U p2.Hi] rfl ?_
 intro b9 w10 hst
 refine OW.alloc hst rfl rfl rfl [U 0, U 0] (by kernel_rfl) ?_
 intro b11 w12 hst
 refine pu 1 [] (nx (rg ?_))
 refine pu 1 [(14, I p0)] ?_
 obtain ⟨r17, hr18, hF⟩ := bs hF
 refine OW.fn rfl rfl rfl rfl (by kernel_rfl) (arith_Holds_ok _ p0 0 0 r17 hr18 (hst.part [] rfl)) ?_
 rintro e w19 ⟨rfl, hst20⟩
 refine ⟨_, rfl, ?_⟩
 have hst := hst.join (idx := []) (rest := [0, 1, 2]) rfl hst20
 refine pu 5 [(11, .bool r17.2)] (nx (CW.seq (CW.block (CW.seq ?_))))
 obtain ⟨o31, ho32, hF⟩ := bs hF
 refine CW.cutK (fun a w1 => Rep 116 [(0, I p0), (3, .bool p3), (5, Pt b7), (6, Pt b9), (8, Pt b11), (18, .bool o31)] a ∧ St w (fp []) w1 [blkI b7 115 [U p1.Lo, U p1.Hi], blkI b9 115 [U p2.Lo, U p2.Hi], blkI b11 115 [U 0, U 0]]) ?_ ?_
 ·refine CW.region ?_
  refine pu 3 [(21, .bool (!r17.2))] ?_
  refine OW.split 21 rfl (fun hc33 => ?_) (fun hc33 => ?_)
  ·have ho32 := ite_t ho32 hc33
   refine pu 10 [(18, .bool true)] (OW.nil rfl ?_)
   obtain rfl := inj ho32
   exact QW.meet (fun a ha => ⟨ha.ag, hst.keep [0, 1, 2] rfl⟩)
  have ho32 := ite_f ho32 hc33
  refine OW.ldN (cs := [U p1.Lo, U p1.Hi]) rfl rfl rfl rfl (by kernel_rfl) (by kernel_rfl) (hst.blkN 0 rfl 0 2) ?_
  obtain ⟨r34, hr35, ho32⟩ := bs ho32
  refine OW.fn rfl rfl rfl rfl (by kernel_rfl) (span_Right_ok _ p1 r34 hr35 (hst.part [] rfl)) ?_
  rintro e w36 ⟨rfl, hst37⟩
  refine ⟨_, rfl, ?_⟩
  have hst := hst.join (idx := []) (rest := [0, 1, 2]) rfl hst37
  refine pu 3 [(26, .bool (!r34))] ?_
  refine OW.split 26 rfl (fun hc38 => ?_) (fun hc38 => ?_)
  ·have ho32 := ite_t ho32 hc38
   refine pu 5 [(18, .bool true)] (OW.nil rfl ?_)
   obtain rfl := inj ho32
   exact QW.meet (fun a ha => ⟨ha.ag, hst.keep [0, 1, 2] rfl⟩)
  have ho32 := ite_f ho32 hc38
  refine OW.ldN (cs := [U p2.Lo, U p2.Hi]) rfl rfl rfl rfl (by kernel_rfl) (by kernel_rfl) (hst.blkN 1 rfl 0 2) ?_
  obtain ⟨r39, hr40, ho32⟩ := bs ho32
  refine OW.fn rfl rfl rfl rfl (by kernel_rfl) (span_Right_ok _ p2 r39 hr40 (hst.part [] rfl)) ?_
  rintro e w41 ⟨rfl, hst42⟩
  refine ⟨_, rfl, ?_⟩
  have hst := hst.join (idx := []) (rest := [0, 1, 2]) rfl hst42
  refine pu 3 [(18, .bool (!r39))] (OW.nil rfl ?_)
  obtain rfl := inj ho32
  exact QW.meet (fun a ha => ⟨ha.ag, hst.keep [0, 1, 2] rfl⟩)
 rintro a w1 ⟨ha, hst⟩
 refine CW.go ?_ ha
 refine br (o31) hF (fun hF hc43 => ?_) (fun hF hc43 => ?_)
 ·refine rg ?_
  refine pu 1 [(31, .agg [U 0, U 0].toArray)] ?_
  refine OW.stB hst 2 rfl rfl rfl rfl rfl (by kernel_rfl) rfl rfl [U 0, U 0] rfl ?_
  intro w45 hst
  refine pu 1 [(9, .bool false)] (nx (CW.ret (QW.block_ret (QW.then_ret ?_))))
  obtain rfl := inj hF
  refine QW.ret_ct rfl rfl (run_loadN (cs := [U 0, U 0]) (by kernel_rfl) (by kernel_rfl) (hst.blkN 2 rfl 0 2)) rfl ?_
  exact ⟨rfl, hst.keep [] rfl⟩
 refine rg ?_
 refine OW.ldN (cs := [U p2.Lo, U p2.Hi]) rfl rfl rfl rfl (by kernel_rfl) (by kernel_rfl) (hst.blkN 1 rfl 0 2) ?_
 obtain ⟨r50, hr51, hF⟩ := bs hF
 refine OW.fn rfl rfl rfl rfl (by kernel_rfl) (span_single_ok _ p2 r50 hr51 (hst.part [] rfl)) ?_
 rintro e w52 ⟨rfl, hst53⟩
 refine ⟨_, rfl, ?_⟩
 have hst := hst.join (idx := []) (rest := [0, 1, 2]) rfl hst53
 refine pu 2 [(32, .bool (!r50))] (nx ?_)
 refine br ((!r50)) hF (fun hF hc54 => ?_) (fun hF hc54 => ?_)
 ·refine rg ?_
  refine OW.ldN (cs := [U p1.Lo, U p1.Hi]) rfl rfl rfl rfl (by kernel_rfl) (by kernel_rfl) (hst.blkN 0 rfl 0 2) ?_
  refine OW.stB hst 2 rfl rfl rfl rfl rfl (by kernel_rfl) rfl rfl [U p1.Lo, U p1.Hi] rfl ?_
  intro w56 hst
  refine pu 1 [(9, .bool true)] (nx (CW.ret (QW.block_ret (QW.then_ret ?_))))
  obtain rfl := inj hF
  refine QW.ret_ct rfl rfl (run_loadN (cs := [U p1.Lo, U p1.Hi]) (by kernel_rfl) (by kernel_rfl) (hst.blkN 2 rfl 0 2)) rfl ?_
  exact ⟨rfl, hst.keep [] rfl⟩
 refine CW.skip (QW.block_normal (QW.next (rg ?_)))
 refine pu 1 [(37, Pt b9)] ?_
 refine OW.ld rfl rfl rfl rfl (by kernel_rfl) (hst.blk 1 rfl rfl) ?_
 refine pu 1 [(12, U p2.Lo)] (nx (CW.seq (CW.block (CW.seq (CW.seq ?_)))))
 refine CW.cutK (fun a w1 => Rep 116 [(0, I p0), (3, .bool p3), (5, Pt b7), (6, Pt b9), (8, Pt b11), (12, U p2.Lo), (39, .bool ((p0 == 18) && p3))] a ∧ St w (fp []) w1 [blkI b7 115 [U p1.Lo, U p1.Hi], blkI b9 115 [U p2.Lo, U p2.Hi], blkI b11 115 [U 0, U 0]]) ?_ ?_
 ·refine CW.region ?_
  refine pu 3 [(42, .bool (p0 == 18))] ?_
  refine OW.split 42 rfl (fun hc57 => ?_) (fun hc57 => ?_)
  ·refine pu 3 [(39, .bool p3)] (OW.nil rfl ?_)
   refine QW.say 39 (v := .bool ((p0 == 18) && p3)) rfl (by first | (rw [hc57]; done) | (rw [hc57]; rfl) | simp [hc57]) ?_
   exact QW.meet (fun a ha => ⟨ha.ag, hst.keep [0, 1, 2] rfl⟩)
  refine pu 3 [(39, .bool false)] (OW.nil rfl ?_)
  refine QW.say 39 (v := .bool ((p0 == 18) && p3)) rfl (by first | (rw [hc57]; done) | (rw [hc57]; rfl) | simp [hc57]) ?_
  exact QW.meet (fun a ha => ⟨ha.ag, hst.keep [0, 1, 2] rfl⟩)
 rintro a w1 ⟨ha, hst⟩
 refine CW.go ?_ ha
 obtain ⟨o60, ho61, hF⟩ := bs hF
 refine CW.cutK (fun a w1 => Rep 116 [(0, I p0), (3, .bool p3), (5, Pt b7), (6, Pt b9), (8, Pt b11), (12, U p2.Lo), (39, .bool o60)] a ∧ St w (fp []) w1 [blkI b7 115 [U p1.Lo, U p1.Hi], blkI b9 115 [U p2.Lo, U p2.Hi], blkI b11 115 [U 0, U 0]]) ?_ ?_
 ·refine br (((p0 == 18) && p3)) ho61 (fun ho61 hc62 => ?_) (fun ho61 hc62 => ?_)
  ·refine CW.skip ?_
   obtain rfl := inj ho61
   exact QW.meet (fun a ha => ⟨ha.ag, hst.keep [0, 1, 2] rfl⟩)
  refine CW.region ?_
  refine pu 3 [(47, .bool (p0 == 19))] ?_
  refine OW.split 47 rfl (fun hc63 => ?_) (fun hc63 => ?_)
  ·have ho61 := ite_t ho61 hc63
   refine pu 4 [(39, .bool (!p3))] (OW.nil rfl ?_)
   obtain rfl := inj ho61
   exact QW.meet (fun a ha => ⟨ha.ag, hst.keep [0, 1, 2] rfl⟩)
  have ho61 := ite_f ho61 hc63
  refine pu 4 [(39, .bool false)] (OW.nil rfl ?_)
  obtain rfl := inj ho61
  exact QW.meet (fun a ha => ⟨ha.ag, hst.keep [0, 1, 2] rfl⟩)
 rintro a w1 ⟨ha, hst⟩
 refine CW.go ?_ ha
 refine br (o60) hF (fun hF hc64 => ?_) (fun hF hc64 => ?_)
 ·refine CW.seq (rg ?_)
  refine pu 2 [(52, .bool (p2.Lo == 0))] (nx ?_)
  refine br ((p2.Lo == 0)) hF (fun hF hc65 => ?_) (fun hF hc65 => ?_)
  ·refine rg ?_
   refine pu 1 [(53, .agg [U 0, U 0].toArray)] ?_
   refine OW.stB hst 2 rfl rfl rfl rfl rfl (by kernel_rfl) rfl rfl [U 0, U 0] rfl ?_
   intro w67 hst
   refine pu 1 [(9, .bool false)] (nx (CW.ret (QW.then_ret (QW.block_ret (QW.then_ret ?_)))))
   obtain rfl := inj hF
   refine QW.ret_ct rfl rfl (run_loadN (cs := [U 0, U 0]) (by kernel_rfl) (by kernel_rfl) (hst.blkN 2 rfl 0 2)) rfl ?_
   exact ⟨rfl, hst.keep [] rfl⟩
  refine CW.skip (QW.next (rg ?_))
  refine OW.ldN (cs := [U p1.Lo, U p1.Hi]) rfl rfl rfl rfl (by kernel_rfl) (by kernel_rfl) (hst.blkN 0 rfl 0 2) ?_
  refine pu 3 [(57, .agg [U 0, U (wu64 (p2.Lo - 1))].toArray)] ?_
  refine OW.row (α := api_Span) (e := 115) (enc := enc_api_Span) (sz := 2) hst rfl rfl rfl [p1, (api_Span.mk 0 (wu64 (p2.Lo - 1)))] rfl (fun _ => rfl) rfl rfl (fun _ => by kernel_rfl) ?_
  intro g75 w76 hst
  obtain ⟨r77, hr78, hF⟩ := bs hF
  refine OW.fn rfl rfl rfl rfl (by kernel_rfl) (span_Meet_ok _ (.slice (some ⟨g75, 0, none⟩) 2 2) ([p1, (api_Span.mk 0 (wu64 (p2.Lo - 1)))]) r77 hr78 (hst.part [] rfl) (hst.rd 3 rfl (fun _ => rfl) [] rfl (hst.len 3 rfl).1)) ?_
  rintro e w79 ⟨rfl, hst80⟩
  refine ⟨_, rfl, ?_⟩
  have hst := hst.join (idx := []) (rest := [0, 1, 2, 3]) rfl hst80
  refine pu 2 [(60, .agg [U r77.1.Lo, U r77.1.Hi].toArray), (61, .bool r77.2)] ?_
  refine OW.stB hst 2 rfl rfl rfl rfl rfl (by kernel_rfl) rfl rfl [U r77.1.Lo, U r77.1.Hi] rfl ?_
  intro w81 hst
  refine pu 1 [(9, .bool r77.2)] (nx (CW.ret (QW.block_ret (QW.then_ret ?_))))
  obtain rfl := inj hF
  refine QW.ret_ct rfl rfl (run_loadN (cs := [U r77.1.Lo, U r77.1.Hi]) (by kernel_rfl) (by kernel_rfl) (hst.blkN 2 rfl 0 2)) rfl ?_
  exact ⟨rfl, hst.keep [] rfl⟩
 refine CW.seq (rg ?_)
 refine pu 3 [(62, .bool (p0 == 18))] (nx ?_)
 obtain ⟨o83, ho84, hF⟩ := bs hF
 refine CW.cutK (fun a w1 => Rep 116 [(0, I p0), (3, .bool p3), (5, Pt b7), (6, Pt b9), (8, Pt b11), (12, U p2.Lo), (62, .bool o83)] a ∧ St w (fp []) w1 [blkI b7 115 [U p1.Lo, U p1.Hi], blkI b9 115 [U p2.Lo, U p2.Hi], blkI b11 115 [U 0, U 0]]) ?_ ?_
 ·refine br ((p0 == 18)) ho84 (fun ho84 hc85 => ?_) (fun ho84 hc85 => ?_)
  ·refine CW.skip ?_
   obtain rfl := inj ho84
   exact QW.meet (fun a ha => ⟨ha.ag, hst.keep [0, 1, 2] rfl⟩)
  refine CW.region ?_
  refine pu 3 [(62, .bool (p0 == 19))] (OW.nil rfl ?_)
  obtain rfl := inj ho84
  exact QW.meet (fun a ha => ⟨ha.ag, hst.keep [0, 1, 2] rfl⟩)
 rintro a w1 ⟨ha, hst⟩
 refine CW.go ?_ ha
 refine br (o83) hF (fun hF hc86 => ?_) (fun hF hc86 => ?_)
 ·refine rg ?_
  refine OW.ldN (cs := [U p1.Lo, U p1.Hi]) rfl rfl rfl rfl (by kernel_rfl) (by kernel_rfl) (hst.blkN 0 rfl 0 2) ?_
  refine pu 2 [(69, .agg [U p2.Lo, U 18446744073709551615].toArray)] ?_
  refine OW.row (α := api_Span) (e := 115) (enc := enc_api_Span) (sz := 2) hst rfl rfl rfl [p1, (api_Span.mk p2.Lo 18446744073709551615)] rfl (fun _ => rfl) rfl rfl (fun _ => by kernel_rfl) ?_
  intro g94 w95 hst
  obtain ⟨r96, hr97, hF⟩ := bs hF
  refine OW.fn rfl rfl rfl rfl (by kernel_rfl) (span_Meet_ok _ (.slice (some ⟨g94, 0, none⟩) 2 2) ([p1, (api_Span.mk p2.Lo 18446744073709551615)]) r96 hr97 (hst.part [] rfl) (hst.rd 3 rfl (fun _ => rfl) [] rfl (hst.len 3 rfl).1)) ?_
  rintro e w98 ⟨rfl, hst99⟩
  refine ⟨_, rfl, ?_⟩
  have hst := hst.join (idx := []) (rest := [0, 1, 2, 3]) rfl hst99
  refine pu 2 [(72, .agg [U r96.1.Lo, U r96.1.Hi].toArray), (73, .bool r96.2)] ?_
  refine OW.stB hst 2 rfl rfl rfl rfl rfl (by kernel_rfl) rfl rfl [U r96.1.Lo, U r96.1.Hi] rfl ?_
  intro w100 hst
  refine pu 1 [(9, .bool r96.2)] (nx (CW.ret (QW.block_ret (QW.then_ret ?_))))
  obtain rfl := inj hF
  refine QW.ret_ct rfl rfl (run_loadN (cs := [U r96.1.Lo, U r96.1.Hi]) (by kernel_rfl) (by kernel_rfl) (hst.blkN 2 rfl 0 2)) rfl ?_
  exact ⟨rfl, hst.keep [] rfl⟩
 refine CW.seq (CW.seq ?_)
 refine CW.cutK (fun a w1 => Rep 116 [(0, I p0), (3, .bool p3), (5, Pt b7), (6, Pt b9), (8, Pt b11), (12, U p2.Lo), (74, .bool ((p0 == 16) && p3))] a ∧ St w (fp []) w1 [blkI b7 115 [U p1.Lo, U p1.Hi], blkI b9 115 [U p2.Lo, U p2.Hi], blkI b11 115 [U 0, U 0]]) ?_ ?_
 ·refine CW.region ?_
  refine pu 3 [(77, .bool (p0 == 16))] ?_
  refine OW.split 77 rfl (fun hc101 => ?_) (fun hc101 => ?_)
  ·refine pu 3 [(74, .bool p3)] (OW.nil rfl ?_)
   refine QW.say 74 (v := .bool ((p0 == 16) && p3)) rfl (by first | (rw [hc101]; done) | (rw [hc101]; rfl) | simp [hc101]) ?_
   exact QW.meet (fun a ha => ⟨ha.ag, hst.keep [0, 1, 2] rfl⟩)
  refine pu 3 [(74, .bool false)] (OW.nil rfl ?_)
  refine QW.say 74 (v := .bool ((p0 == 16) && p3)) rfl (by first | (rw [hc101]; done) | (rw [hc101]; rfl) | simp [hc101]) ?_
  exact QW.meet (fun a ha => ⟨ha.ag, hst.keep [0, 1, 2] rfl⟩)
 rintro a w1 ⟨ha, hst⟩
 refine CW.go ?_ ha
 obtain ⟨o104, ho105, hF⟩ := bs hF
 refine CW.cutK (fun a w1 => Rep 116 [(5, Pt b7), (6, Pt b9), (8, Pt b11), (12, U p2.Lo), (74, .bool o104)] a ∧ St w (fp []) w1 [blkI b7 115 [U p1.Lo, U p1.Hi], blkI b9 115 [U p2.Lo, U p2.Hi], blkI b11 115 [U 0, U 0]]) ?_ ?_
 ·refine br (((p0 == 16) && p3)) ho105 (fun ho105 hc106 => ?_) (fun ho105 hc106 => ?_)
  ·refine CW.skip ?_
   obtain rfl := inj ho105
   exact QW.meet (fun a ha => ⟨ha.ag, hst.keep [0, 1, 2] rfl⟩)
  refine CW.region ?_
  refine pu 3 [(82, .bool (p0 == 17))] ?_
  refine OW.split 82 rfl (fun hc107 => ?_) (fun hc107 => ?_)
  ·have ho105 := ite_t ho105 hc107
   refine pu 4 [(74, .bool (!p3))] (OW.nil rfl ?_)
   obtain rfl := inj ho105
   exact QW.meet (fun a ha => ⟨ha.ag, hst.keep [0, 1, 2] rfl⟩)
  have ho105 := ite_f ho105 hc107
  refine pu 4 [(74, .bool false)] (OW.nil rfl ?_)
  obtain rfl := inj ho105
  exact QW.meet (fun a ha => ⟨ha.ag, hst.keep [0, 1, 2] rfl⟩)
 rintro a w1 ⟨ha, hst⟩
 refine CW.go ?_ ha
 refine br (o104) hF (fun hF hc108 => ?_) (fun hF hc108 => ?_)
 ·refine rg ?_
  refine OW.ldN (cs := [U p1.Lo, U p1.Hi]) rfl rfl rfl rfl (by kernel_rfl) (by kernel_rfl) (hst.blkN 0 rfl 0 2) ?_
  refine OW.ldN (cs := [U p2.Lo, U p2.Hi]) rfl rfl rfl rfl (by kernel_rfl) (by kernel_rfl) (hst.blkN 1 rfl 0 2) ?_
  refine OW.row (α := api_Span) (e := 115) (enc := enc_api_Span) (sz := 2) hst rfl rfl rfl [p1, p2] rfl (fun _ => rfl) rfl rfl (fun _ => by kernel_rfl) ?_
  intro g116 w117 hst
  obtain ⟨r118, hr119, hF⟩ := bs hF
  refine OW.fn rfl rfl rfl rfl (by kernel_rfl) (span_Meet_ok _ (.slice (some ⟨g116, 0, none⟩) 2 2) ([p1, p2]) r118 hr119 (hst.part [] rfl) (hst.rd 3 rfl (fun _ => rfl) [] rfl (hst.len 3 rfl).1)) ?_
  rintro e w120 ⟨rfl, hst121⟩
  refine ⟨_, rfl, ?_⟩
  have hst := hst.join (idx := []) (rest := [0, 1, 2, 3]) rfl hst121
  refine pu 2 [(90, .agg [U r118.1.Lo, U r118.1.Hi].toArray), (91, .bool r118.2)] ?_
  refine OW.stB hst 2 rfl rfl rfl rfl rfl (by kernel_rfl) rfl rfl [U r118.1.Lo, U r118.1.Hi] rfl ?_
  intro w122 hst
  refine pu 1 [(9, .bool r118.2)] (nx (CW.ret (QW.block_ret (QW.then_ret ?_))))
  obtain rfl := inj hF
  refine QW.ret_ct rfl rfl (run_loadN (cs := [U r118.1.Lo, U r118.1.Hi]) (by kernel_rfl) (by kernel_rfl) (hst.blkN 2 rfl 0 2)) rfl ?_
  exact ⟨rfl, hst.keep [] rfl⟩
 refine rg ?_
 refine OW.ldN (cs := [U p1.Lo, U p1.Hi]) rfl rfl rfl rfl (by kernel_rfl) (by kernel_rfl) (hst.blkN 0 rfl 0 2) ?_
 refine OW.ldN (cs := [U p2.Lo, U p2.Hi]) rfl rfl rfl rfl (by kernel_rfl) (by kernel_rfl) (hst.blkN 1 rfl 0 2) ?_
 refine OW.op (v := .bool ((p1.Lo == p2.Lo) && ((p1.Hi == p2.Hi) && true))) rfl rfl rfl rfl (fun a ha => seq_run rfl rfl rfl (by kernel_rfl) (by kernel_rfl) a _ ha) ?_
 refine pu 1 [(92, .bool ((p1.Lo == p2.Lo) && ((p1.Hi == p2.Hi) && true)))] (nx ?_)
 refine br (((p1.Lo == p2.Lo) && ((p1.Hi == p2.Hi) && true))) hF (fun hF hc123 => ?_) (fun hF hc123 => ?_)
 ·refine rg ?_
  refine pu 1 [(96, .agg [U 0, U 0].toArray)] ?_
  refine OW.stB hst 2 rfl rfl rfl rfl rfl (by kernel_rfl) rfl rfl [U 0, U 0] rfl ?_
  intro w125 hst
  refine pu 1 [(9, .bool false)] (nx (CW.ret (QW.block_ret (QW.then_ret ?_))))
  obtain rfl := inj hF
  refine QW.ret_ct rfl rfl (run_loadN (cs := [U 0, U 0]) (by kernel_rfl) (by kernel_rfl) (hst.blkN 2 rfl 0 2)) rfl ?_
  exact ⟨rfl, hst.keep [] rfl⟩
 refine rg ?_
 refine pu 1 [(98, Pt b7)] ?_
 refine OW.ld rfl rfl rfl rfl (by kernel_rfl) (hst.blk 0 rfl rfl) ?_
 refine pu 3 [(97, .bool (p1.Lo == p2.Lo))] (nx ?_)
 refine br ((p1.Lo == p2.Lo)) hF (fun hF hc126 => ?_) (fun hF hc126 => ?_)
 ·refine CW.region ?_
  refine pu 1 [(102, Pt b7)] ?_
  refine OW.ld rfl rfl rfl rfl (by kernel_rfl) (hst.blk 0 rfl rfl) ?_
  refine pu 2 [(104, U (wu64 (p1.Lo + 1))), (105, Pt b7)] ?_
  refine OW.stB hst 0 rfl rfl rfl rfl rfl (by kernel_rfl) rfl rfl [U (wu64 (p1.Lo + 1)), U p1.Hi] rfl ?_
  intro w128 hst
  refine OW.nil rfl (QW.block_normal (QW.next (rg ?_)))
  refine OW.ldN (cs := [U (wu64 (p1.Lo + 1)), U p1.Hi]) rfl rfl rfl rfl (by kernel_rfl) (by kernel_rfl) (hst.blkN 0 rfl 0 2) ?_
  refine OW.stB hst 2 rfl rfl rfl rfl rfl (by kernel_rfl) rfl rfl [U (wu64 (p1.Lo + 1)), U p1.Hi] rfl ?_
  intro w130 hst
  refine pu 1 [(9, .bool true)] (nx (CW.ret ?_))
  obtain rfl := inj hF
  refine QW.ret_ct rfl rfl (run_loadN (cs := [U (wu64 (p1.Lo + 1)), U p1.Hi]) (by kernel_rfl) (by kernel_rfl) (hst.blkN 2 rfl 0 2)) rfl ?_
  exact ⟨rfl, hst.keep [] rfl⟩
 refine rg ?_
 refine pu 1 [(107, .pointer (some ⟨b7, 1, none⟩))] ?_
 refine OW.ld rfl rfl rfl rfl (by kernel_rfl) (hst.blk 0 rfl rfl) ?_
 refine pu 3 [(106, .bool (p1.Hi == p2.Lo))] (nx ?_)
 refine br ((p1.Hi == p2.Lo)) hF (fun hF hc131 => ?_) (fun hF hc131 => ?_)
 ·refine CW.region ?_
  refine pu 1 [(111, .pointer (some ⟨b7, 1, none⟩))] ?_
  refine OW.ld rfl rfl rfl rfl (by kernel_rfl) (hst.blk 0 rfl rfl) ?_
  refine pu 2 [(113, U (wu64 (p1.Hi - 1))), (114, .pointer (some ⟨b7, 1, none⟩))] ?_
  refine OW.stB hst 0 rfl rfl rfl rfl rfl (by kernel_rfl) rfl rfl [U p1.Lo, U (wu64 (p1.Hi - 1))] rfl ?_
  intro w133 hst
  refine OW.nil rfl (QW.block_normal (QW.next (rg ?_)))
  refine OW.ldN (cs := [U p1.Lo, U (wu64 (p1.Hi - 1))]) rfl rfl rfl rfl (by kernel_rfl) (by kernel_rfl) (hst.blkN 0 rfl 0 2) ?_
  refine OW.stB hst 2 rfl rfl rfl rfl rfl (by kernel_rfl) rfl rfl [U p1.Lo, U (wu64 (p1.Hi - 1))] rfl ?_
  intro w135 hst
  refine pu 1 [(9, .bool true)] (nx (CW.ret ?_))
  obtain rfl := inj hF
  refine QW.ret_ct rfl rfl (run_loadN (cs := [U p1.Lo, U (wu64 (p1.Hi - 1))]) (by kernel_rfl) (by kernel_rfl) (hst.blkN 2 rfl 0 2)) rfl ?_
  exact ⟨rfl, hst.keep [] rfl⟩
 refine CW.skip (QW.block_normal (QW.next (rg ?_)))
 refine OW.ldN (cs := [U p1.Lo, U p1.Hi]) rfl rfl rfl rfl (by kernel_rfl) (by kernel_rfl) (hst.blkN 0 rfl 0 2) ?_
 refine OW.stB hst 2 rfl rfl rfl rfl rfl (by kernel_rfl) rfl rfl [U p1.Lo, U p1.Hi] rfl ?_
 intro w137 hst
 refine pu 1 [(9, .bool true)] (nx (CW.ret ?_))
 obtain rfl := inj hF
 refine QW.ret_ct rfl rfl (run_loadN (cs := [U p1.Lo, U p1.Hi]) (by kernel_rfl) (by kernel_rfl) (hst.blkN 2 rfl 0 2)) rfl ?_
 exact ⟨rfl, hst.keep [] rfl⟩
end Go.Proofs.YtkgajppghpmkbaaDoor

/- Written by a program (wip/gen): the walks: each Go function returns what its plain function computes. -/
import Derived.Test.YtgmmfjpmahcocaaGreatDoorProg
import Derived.Test.YtgmmfjpmahcocaaGreatDoorF1
import Derived.Test.YtgmmfjpmahcocaaGreatDoorOpen
import Derived.Test.YtgmmfjpmahcocaaGreatDoorPart
import Derived.Test.YtgmmfjpmahcocaaGreatDoorExt
import Derived.Test.YtgmmfjpmahcocaaGreatDoorSh
import Derived.Test.YtgmmfjpmahcocaaGreatDoorO1
import Derived.Test.YtgmmfjpmahcocaaGreatDoorW1p1
namespace Go.Proofs.YtgmmfjpmahcocaaGreatDoor
open Go.Sx
set_option linter.unusedVariables false
set_option maxRecDepth 10000
set_option maxHeartbeats 4000000
theorem span_ones_ok (w : World) (p0 : Int) (r : Int) (hF : span_ones p0 = some r)
    (hst : St w (fp []) w []) :
    Calls Tryz.prog 153 [.int .u64 p0].toArray w (fun e w' => e = .returned (.int .u64 r) ∧ St w (fp []) w' []) := by
 refine CW.start (N := 7) Tryz.func153 rfl rfl rfl (CW.seq (CW.region ?_))
 refine OW.pure 1 [] (by kernel_rfl) (OW.nil rfl (QW.next (CW.seq (CW.region ?_))))
 refine OW.pure 1 [(3, .int .u64 p0)] (by kernel_rfl) ?_
 obtain ⟨r7, hr8, hF⟩ := bind_some' hF
 refine OW.fn rfl rfl rfl rfl (by kernel_rfl) (bits_Len64_ok _ p0 r7 hr8 (hst.part [] rfl)) ?_
 rintro e w9 ⟨rfl, hst10⟩
 refine ⟨_, rfl, ?_⟩
 have hst := hst.join (idx := []) (rest := []) rfl hst10
 obtain ⟨u11, hz12, hF⟩ := bind_some' hF
 refine OW.op (v := .int .u64 (bShl .u64 1 r7)) rfl rfl rfl rfl (fun a ha => shl_run rfl rfl rfl (nn_ge hz12) a _ ha) ?_
 refine OW.pure 2 [(2, .int .u64 (wu64 ((bShl .u64 1 r7) - 1)))] (by kernel_rfl) (OW.nil rfl (QW.next (CW.ret ?_)))
 obtain rfl := Option.some.inj hF
 refine QW.ret1 rfl rfl ?_
 exact ⟨rfl, hst.keep [] rfl⟩
theorem span_left_ok (w : World) (p0 : api_Span) (p1 : api_Span) (r : api_Span) (hF : span_left p0 p1 = some r)
    (hst : St w (fp []) w []) :
    Calls Tryz.prog 154 [.agg [.int .u64 p0.Lo, .int .u64 p0.Hi].toArray, .agg [.int .u64 p1.Lo, .int .u64 p1.Hi].toArray].toArray w (fun e w' => e = .returned (.agg [.int .u64 r.Lo, .int .u64 r.Hi].toArray) ∧ St w (fp []) w' []) := by
 refine CW.start (N := 41) Tryz.func154 rfl rfl rfl (CW.seq (CW.region ?_))
 refine OW.box hst rfl rfl rfl rfl [.int .u64 p0.Lo, .int .u64 p0.Hi] rfl ?_
 intro b7 w8 hst
 refine OW.box hst rfl rfl rfl rfl [.int .u64 p1.Lo, .int .u64 p1.Hi] rfl ?_
 intro b9 w10 hst
 refine OW.alloc hst rfl rfl rfl [.int .u64 0, .int .u64 0] (by kernel_rfl) ?_
 intro b11 w12 hst
 refine OW.nil rfl (QW.next (CW.seq (CW.seq ?_)))
 obtain ⟨o36, ho37, hF⟩ := bind_some' hF
 refine CW.cutK (fun a w1 => Rep 41 [(2, .pointer (some ⟨b7, 0, none⟩)), (3, .pointer (some ⟨b9, 0, none⟩)), (4, .pointer (some ⟨b11, 0, none⟩)), (28, .bool o36)] a ∧ St w (fp []) w1 [blkI b7 154 [.int .u64 p0.Lo, .int .u64 p0.Hi], blkI b9 154 [.int .u64 p1.Lo, .int .u64 p1.Hi], blkI b11 154 [.int .u64 0, .int .u64 0]]) ?_ ?_
 ·refine CW.plan (by kernel_rfl) ?_
  intro w38 hch39
  have hst := hst.same hch39
  refine OA.ldN (i := 0) (cs := [.int .u64 p1.Lo, .int .u64 p1.Hi]) rfl (by kernel_rfl) rfl rfl rfl (by kernel_rfl) (by kernel_rfl) (hst.blkN 1 rfl 0 2) ?_
  refine OA.act (i := 1) [] (by kernel_rfl) rfl rfl (by kernel_rfl) (by kernel_rfl) ?_
  obtain ⟨r40, hr41, ho37⟩ := bind_some' ho37
  refine OW.fn rfl rfl rfl rfl (by kernel_rfl) (span_single_ok _ p1 r40 hr41 (hst.part [] rfl)) ?_
  rintro e w42 ⟨rfl, hst43⟩
  refine ⟨_, rfl, ?_⟩
  have hst := hst.join (idx := []) (rest := [0, 1, 2]) rfl hst43
  refine OA.next trivial ?_
  refine OA.pure [2, 3] [(8, .bool (!r40))] (by kernel_rfl) ?_
  refine OA.split 8 rfl (fun hc44 => ?_) (fun hc44 => ?_)
  ·have ho37 := ite_t ho37 hc44
   refine OA.pure [4, 5, 6, 7, 8, 9, 10, 11, 12, 13, 14, 15, 16, 17, 18, 19, 20, 21, 22, 23] [(28, .bool true)] (by kernel_rfl) ?_
   refine OA.fin (by kernel_rfl) (by kernel_rfl) ?_
   obtain rfl := Option.some.inj ho37
   exact QW.meet (fun a ha => ⟨ha.agrees (by kernel_rfl), hst.keep [0, 1, 2] rfl⟩)
  have ho37 := ite_f ho37 hc44
  refine OA.pure [4] [(9, .pointer (some ⟨b7, 1, none⟩))] (by kernel_rfl) ?_
  refine OA.ld (i := 5) rfl (by kernel_rfl) rfl rfl rfl (by kernel_rfl) (hst.blk 0 rfl rfl) ?_
  refine OA.act (i := 6) [] (by kernel_rfl) rfl rfl (by kernel_rfl) (by kernel_rfl) ?_
  obtain ⟨r45, hr46, ho37⟩ := bind_some' ho37
  refine OW.fn rfl rfl rfl rfl (by kernel_rfl) (bits_Len64_ok _ p0.Hi r45 hr46 (hst.part [] rfl)) ?_
  rintro e w47 ⟨rfl, hst48⟩
  refine ⟨_, rfl, ?_⟩
  have hst := hst.join (idx := []) (rest := [0, 1, 2]) rfl hst48
  refine OA.next trivial ?_
  refine OA.pure [7, 8] [(13, .bool (decide (r45 > 0)))] (by kernel_rfl) ?_
  refine OA.split 13 rfl (fun hc49 => ?_) (fun hc49 => ?_)
  ·have ho37 := ite_t ho37 hc49
   refine OA.pure [9] [(14, .pointer (some ⟨b9, 0, none⟩))] (by kernel_rfl) ?_
   refine OA.ld (i := 10) rfl (by kernel_rfl) rfl rfl rfl (by kernel_rfl) (hst.blk 1 rfl rfl) ?_
   refine OA.pure [11, 12] [(17, .bool (decide (p1.Lo > 64)))] (by kernel_rfl) ?_
   refine OA.split 17 rfl (fun hc50 => ?_) (fun hc50 => ?_)
   ·have ho37 := ite_t ho37 hc50
    refine OA.pure [13, 14, 15, 16, 17, 18, 19, 20, 21, 22, 23] [(28, .bool true)] (by kernel_rfl) ?_
    refine OA.fin (by kernel_rfl) (by kernel_rfl) ?_
    obtain rfl := Option.some.inj ho37
    exact QW.meet (fun a ha => ⟨ha.agrees (by kernel_rfl), hst.keep [0, 1, 2] rfl⟩)
   have ho37 := ite_f ho37 hc50
   refine OA.pure [13] [(18, .pointer (some ⟨b7, 1, none⟩))] (by kernel_rfl) ?_
   refine OA.ld (i := 14) rfl (by kernel_rfl) rfl rfl rfl (by kernel_rfl) (hst.blk 0 rfl rfl) ?_
   refine OA.pure [17] [(22, .pointer (some ⟨b9, 0, none⟩))] (by kernel_rfl) ?_
   refine OA.ld (i := 18) rfl (by kernel_rfl) rfl rfl rfl (by kernel_rfl) (hst.blk 1 rfl rfl) ?_
   refine OA.act (i := 15) [18] (by kernel_rfl) rfl rfl (by kernel_rfl) (by kernel_rfl) ?_
   obtain ⟨r51, hr52, ho37⟩ := bind_some' ho37
   refine OW.fn rfl rfl rfl rfl (by kernel_rfl) (bits_Len64_ok _ p0.Hi r51 hr52 (hst.part [] rfl)) ?_
   rintro e w53 ⟨rfl, hst54⟩
   refine ⟨_, rfl, ?_⟩
   have hst := hst.join (idx := []) (rest := [0, 1, 2]) rfl hst54
   refine OA.next ⟨(hst.blk 1 rfl rfl), trivial⟩ ?_
   refine OA.pure [16, 19, 20, 21, 22, 23] [(28, .bool (decide ((wu64 ((wu64 r51) + p1.Lo)) > 64)))] (by kernel_rfl) ?_
   refine OA.fin (by kernel_rfl) (by kernel_rfl) ?_
   obtain rfl := Option.some.inj ho37
   exact QW.meet (fun a ha => ⟨ha.agrees (by kernel_rfl), hst.keep [0, 1, 2] rfl⟩)
  have ho37 := ite_f ho37 hc49
  refine OA.pure [9, 10, 11, 12, 13, 14, 15, 16, 17, 18, 19, 20, 21, 22, 23] [(28, .bool false)] (by kernel_rfl) ?_
  refine OA.fin (by kernel_rfl) (by kernel_rfl) ?_
  obtain rfl := Option.some.inj ho37
  exact QW.meet (fun a ha => ⟨ha.agrees (by kernel_rfl), hst.keep [0, 1, 2] rfl⟩)
 rintro a w1 ⟨ha, hst⟩
 refine CW.go ?_ ha
 rcases Bool.eq_false_or_eq_true (o36) with hc55 | hc55
 ·have hF := ite_t hF hc55
  refine CW.cond_t rfl hc55 (CW.seq (CW.region ?_))
  obtain ⟨r61, hr62, hF⟩ := bind_some' hF
  refine OW.fn rfl rfl rfl rfl (by kernel_rfl) (span_Full_ok _ r61 hr62 (hst.part [] rfl)) ?_
  rintro e w63 ⟨rfl, hst64⟩
  refine ⟨_, rfl, ?_⟩
  have hst := hst.join (idx := []) (rest := [0, 1, 2]) rfl hst64
  refine OW.stB hst 2 rfl rfl rfl rfl rfl (by kernel_rfl) rfl rfl [.int .u64 r61.Lo, .int .u64 r61.Hi] rfl ?_
  intro w65 hst
  refine OW.nil rfl (QW.next (CW.ret (QW.then_ret ?_)))
  obtain rfl := Option.some.inj hF
  refine QW.ret_c rfl rfl (run_loadN (cs := [.int .u64 r61.Lo, .int .u64 r61.Hi]) (by kernel_rfl) (by kernel_rfl) (hst.blkN 2 rfl 0 2)) ?_
  exact ⟨rfl, hst.keep [] rfl⟩
 have hF := ite_f hF hc55
 refine CW.cond_f rfl hc55 (CW.skip (QW.next (CW.seq (CW.region ?_))))
 refine OW.pure 1 [(30, .pointer (some ⟨b7, 0, none⟩))] (by kernel_rfl) ?_
 refine OW.ld rfl rfl rfl rfl (by kernel_rfl) (hst.blk 0 rfl rfl) ?_
 refine OW.pure 1 [(32, .pointer (some ⟨b9, 0, none⟩))] (by kernel_rfl) ?_
 refine OW.ld rfl rfl rfl rfl (by kernel_rfl) (hst.blk 1 rfl rfl) ?_
 obtain ⟨u71, hz72, hF⟩ := bind_some' hF
 refine OW.op (v := .int .u64 (bShl .u64 p0.Lo p1.Lo)) rfl rfl rfl rfl (fun a ha => shl_run rfl rfl rfl (nn_ge hz72) a _ ha) ?_
 refine OW.pure 1 [(35, .pointer (some ⟨b7, 1, none⟩))] (by kernel_rfl) ?_
 refine OW.ld rfl rfl rfl rfl (by kernel_rfl) (hst.blk 0 rfl rfl) ?_
 refine OW.pure 1 [(37, .pointer (some ⟨b9, 0, none⟩))] (by kernel_rfl) ?_
 refine OW.ld rfl rfl rfl rfl (by kernel_rfl) (hst.blk 1 rfl rfl) ?_
 obtain ⟨u73, hz74, hF⟩ := bind_some' hF
 refine OW.op (v := .int .u64 (bShl .u64 p0.Hi p1.Lo)) rfl rfl rfl rfl (fun a ha => shl_run rfl rfl rfl (nn_ge hz74) a _ ha) ?_
 refine OW.pure 1 [(40, .agg [.int .u64 (bShl .u64 p0.Lo p1.Lo), .int .u64 (bShl .u64 p0.Hi p1.Lo)].toArray)] (by kernel_rfl) ?_
 refine OW.stB hst 2 rfl rfl rfl rfl rfl (by kernel_rfl) rfl rfl [.int .u64 (bShl .u64 p0.Lo p1.Lo), .int .u64 (bShl .u64 p0.Hi p1.Lo)] rfl ?_
 intro w75 hst
 refine OW.nil rfl (QW.next (CW.ret ?_))
 obtain rfl := Option.some.inj hF
 refine QW.ret_c rfl rfl (run_loadN (cs := [.int .u64 (bShl .u64 p0.Lo p1.Lo), .int .u64 (bShl .u64 p0.Hi p1.Lo)]) (by kernel_rfl) (by kernel_rfl) (hst.blkN 2 rfl 0 2)) ?_
 exact ⟨rfl, hst.keep [] rfl⟩
theorem span_Do_ok (w : World) (p0 : Int) (p1 : api_Span) (p2 : api_Span) (r : api_Span × Bool) (hF : span_Do p0 p1 p2 = some r)
    (hst : St w (fp []) w []) :
    Calls Tryz.prog 121 [.int .i64 p0, .agg [.int .u64 p1.Lo, .int .u64 p1.Hi].toArray, .agg [.int .u64 p2.Lo, .int .u64 p2.Hi].toArray].toArray w (fun e w' => e = .returned (.tuple #[.agg [.int .u64 r.1.Lo, .int .u64 r.1.Hi].toArray, .bool r.2]) ∧ St w (fp []) w' []) := by
 refine CW.start (N := 127) Tryz.func121 rfl rfl rfl (CW.seq (CW.region ?_))
 refine OW.box hst rfl rfl rfl rfl [.int .u64 p1.Lo, .int .u64 p1.Hi] rfl ?_
 intro b7 w8 hst
 refine OW.box hst rfl rfl rfl rfl [.int .u64 p2.Lo, .int .u64 p2.Hi] rfl ?_
 intro b9 w10 hst
 refine OW.alloc hst rfl rfl rfl [.int .u64 0, .int .u64 0] (by kernel_rfl) ?_
 intro b11 w12 hst
 refine OW.pure 1 [] (by kernel_rfl) (OW.nil rfl (QW.next (CW.seq (CW.region ?_))))
 refine OW.pure 2 [(11, .int .i64 p0), (12, .pointer (some ⟨b7, 0, none⟩))] (by kernel_rfl) ?_
 refine OW.ld rfl rfl rfl rfl (by kernel_rfl) (hst.blk 0 rfl rfl) ?_
 refine OW.pure 1 [(14, .pointer (some ⟨b9, 0, none⟩))] (by kernel_rfl) ?_
 refine OW.ld rfl rfl rfl rfl (by kernel_rfl) (hst.blk 1 rfl rfl) ?_
 obtain ⟨r17, hr18, hF⟩ := bind_some' hF
 refine OW.fn rfl rfl rfl rfl (by kernel_rfl) (arith_Do_ok _ p0 p1.Lo p2.Lo r17 hr18 (hst.part [] rfl)) ?_
 rintro e w19 ⟨rfl, hst20⟩
 refine ⟨_, rfl, ?_⟩
 have hst := hst.join (idx := []) (rest := [0, 1, 2]) rfl hst20
 refine OW.pure 5 [(8, .int .u64 r17.1), (9, .bool r17.2)] (by kernel_rfl) (OW.nil rfl (QW.next (CW.seq (CW.seq ?_))))
 obtain ⟨o31, ho32, hF⟩ := bind_some' hF
 refine CW.cutK (fun a w1 => Rep 127 [(0, .int .i64 p0), (4, .pointer (some ⟨b7, 0, none⟩)), (5, .pointer (some ⟨b9, 0, none⟩)), (6, .pointer (some ⟨b11, 0, none⟩)), (8, .int .u64 r17.1), (30, .bool o31)] a ∧ St w (fp []) w1 [blkI b7 154 [.int .u64 p1.Lo, .int .u64 p1.Hi], blkI b9 154 [.int .u64 p2.Lo, .int .u64 p2.Hi], blkI b11 154 [.int .u64 0, .int .u64 0]]) ?_ ?_
 ·refine CW.region ?_
  refine OW.pure 3 [(21, .bool (!r17.2))] (by kernel_rfl) ?_
  refine OW.split 21 rfl (fun hc33 => ?_) (fun hc33 => ?_)
  ·have ho32 := ite_t ho32 hc33
   refine OW.pure 9 [(30, .bool true)] (by kernel_rfl) (OW.nil rfl ?_)
   obtain rfl := Option.some.inj ho32
   exact QW.meet (fun a ha => ⟨ha.agrees (by kernel_rfl), hst.keep [0, 1, 2] rfl⟩)
  have ho32 := ite_f ho32 hc33
  refine OW.ldN (cs := [.int .u64 p1.Lo, .int .u64 p1.Hi]) rfl rfl rfl rfl (by kernel_rfl) (by kernel_rfl) (hst.blkN 0 rfl 0 2) ?_
  obtain ⟨r34, hr35, ho32⟩ := bind_some' ho32
  refine OW.fn rfl rfl rfl rfl (by kernel_rfl) (span_Right_ok _ p1 r34 hr35 (hst.part [] rfl)) ?_
  rintro e w36 ⟨rfl, hst37⟩
  refine ⟨_, rfl, ?_⟩
  have hst := hst.join (idx := []) (rest := [0, 1, 2]) rfl hst37
  refine OW.pure 3 [(26, .bool (!r34))] (by kernel_rfl) ?_
  refine OW.split 26 rfl (fun hc38 => ?_) (fun hc38 => ?_)
  ·have ho32 := ite_t ho32 hc38
   refine OW.pure 4 [(30, .bool true)] (by kernel_rfl) (OW.nil rfl ?_)
   obtain rfl := Option.some.inj ho32
   exact QW.meet (fun a ha => ⟨ha.agrees (by kernel_rfl), hst.keep [0, 1, 2] rfl⟩)
  have ho32 := ite_f ho32 hc38
  refine OW.ldN (cs := [.int .u64 p2.Lo, .int .u64 p2.Hi]) rfl rfl rfl rfl (by kernel_rfl) (by kernel_rfl) (hst.blkN 1 rfl 0 2) ?_
  obtain ⟨r39, hr40, ho32⟩ := bind_some' ho32
  refine OW.fn rfl rfl rfl rfl (by kernel_rfl) (span_Right_ok _ p2 r39 hr40 (hst.part [] rfl)) ?_
  rintro e w41 ⟨rfl, hst42⟩
  refine ⟨_, rfl, ?_⟩
  have hst := hst.join (idx := []) (rest := [0, 1, 2]) rfl hst42
  refine OW.pure 2 [(30, .bool (!r39))] (by kernel_rfl) (OW.nil rfl ?_)
  obtain rfl := Option.some.inj ho32
  exact QW.meet (fun a ha => ⟨ha.agrees (by kernel_rfl), hst.keep [0, 1, 2] rfl⟩)
 rintro a w1 ⟨ha, hst⟩
 refine CW.go ?_ ha
 rcases Bool.eq_false_or_eq_true (o31) with hc43 | hc43
 ·have hF := ite_t hF hc43
  refine CW.cond_t rfl hc43 (CW.seq (CW.region ?_))
  refine OW.pure 1 [(31, .agg [.int .u64 0, .int .u64 0].toArray)] (by kernel_rfl) ?_
  refine OW.stB hst 2 rfl rfl rfl rfl rfl (by kernel_rfl) rfl rfl [.int .u64 0, .int .u64 0] rfl ?_
  intro w45 hst
  refine OW.pure 1 [(7, .bool false)] (by kernel_rfl) (OW.nil rfl (QW.next (CW.ret (QW.then_ret ?_))))
  obtain rfl := Option.some.inj hF
  refine QW.ret_ct rfl rfl (run_loadN (cs := [.int .u64 0, .int .u64 0]) (by kernel_rfl) (by kernel_rfl) (hst.blkN 2 rfl 0 2)) rfl ?_
  exact ⟨rfl, hst.keep [] rfl⟩
 have hF := ite_f hF hc43
 refine CW.cond_f rfl hc43 (CW.skip (QW.next (CW.seq (CW.seq ?_))))
 obtain ⟨o59, ho60, hF⟩ := bind_some' hF
 refine CW.cutK (fun a w1 => Rep 127 [(0, .int .i64 p0), (4, .pointer (some ⟨b7, 0, none⟩)), (5, .pointer (some ⟨b9, 0, none⟩)), (6, .pointer (some ⟨b11, 0, none⟩)), (8, .int .u64 r17.1), (37, .bool o59)] a ∧ St w (fp []) w1 [blkI b7 154 [.int .u64 p1.Lo, .int .u64 p1.Hi], blkI b9 154 [.int .u64 p2.Lo, .int .u64 p2.Hi], blkI b11 154 [.int .u64 0, .int .u64 0]]) ?_ ?_
 ·refine CW.region ?_
  refine OW.ldN (cs := [.int .u64 p1.Lo, .int .u64 p1.Hi]) rfl rfl rfl rfl (by kernel_rfl) (by kernel_rfl) (hst.blkN 0 rfl 0 2) ?_
  obtain ⟨r61, hr62, ho60⟩ := bind_some' ho60
  refine OW.fn rfl rfl rfl rfl (by kernel_rfl) (span_single_ok _ p1 r61 hr62 (hst.part [] rfl)) ?_
  rintro e w63 ⟨rfl, hst64⟩
  refine ⟨_, rfl, ?_⟩
  have hst := hst.join (idx := []) (rest := [0, 1, 2]) rfl hst64
  refine OW.pure 1 [(34, .bool r61)] (by kernel_rfl) ?_
  refine OW.split 34 rfl (fun hc65 => ?_) (fun hc65 => ?_)
  ·have ho60 := ite_t ho60 hc65
   refine OW.ldN (cs := [.int .u64 p2.Lo, .int .u64 p2.Hi]) rfl rfl rfl rfl (by kernel_rfl) (by kernel_rfl) (hst.blkN 1 rfl 0 2) ?_
   obtain ⟨r66, hr67, ho60⟩ := bind_some' ho60
   refine OW.fn rfl rfl rfl rfl (by kernel_rfl) (span_single_ok _ p2 r66 hr67 (hst.part [] rfl)) ?_
   rintro e w68 ⟨rfl, hst69⟩
   refine ⟨_, rfl, ?_⟩
   have hst := hst.join (idx := []) (rest := [0, 1, 2]) rfl hst69
   refine OW.pure 1 [(37, .bool r66)] (by kernel_rfl) (OW.nil rfl ?_)
   obtain rfl := Option.some.inj ho60
   exact QW.meet (fun a ha => ⟨ha.agrees (by kernel_rfl), hst.keep [0, 1, 2] rfl⟩)
  have ho60 := ite_f ho60 hc65
  refine OW.pure 3 [(37, .bool false)] (by kernel_rfl) (OW.nil rfl ?_)
  obtain rfl := Option.some.inj ho60
  exact QW.meet (fun a ha => ⟨ha.agrees (by kernel_rfl), hst.keep [0, 1, 2] rfl⟩)
 rintro a w1 ⟨ha, hst⟩
 refine CW.go ?_ ha
 rcases Bool.eq_false_or_eq_true (o59) with hc70 | hc70
 ·have hF := ite_t hF hc70
  refine CW.cond_t rfl hc70 (CW.seq (CW.region ?_))
  refine OW.pure 1 [(38, .int .u64 r17.1)] (by kernel_rfl) ?_
  obtain ⟨r76, hr77, hF⟩ := bind_some' hF
  refine OW.fn rfl rfl rfl rfl (by kernel_rfl) (span_Single_ok _ r17.1 r76 hr77 (hst.part [] rfl)) ?_
  rintro e w78 ⟨rfl, hst79⟩
  refine ⟨_, rfl, ?_⟩
  have hst := hst.join (idx := []) (rest := [0, 1, 2]) rfl hst79
  refine OW.stB hst 2 rfl rfl rfl rfl rfl (by kernel_rfl) rfl rfl [.int .u64 r76.Lo, .int .u64 r76.Hi] rfl ?_
  intro w80 hst
  refine OW.pure 1 [(7, .bool true)] (by kernel_rfl) (OW.nil rfl (QW.next (CW.ret (QW.then_ret ?_))))
  obtain rfl := Option.some.inj hF
  refine QW.ret_ct rfl rfl (run_loadN (cs := [.int .u64 r76.Lo, .int .u64 r76.Hi]) (by kernel_rfl) (by kernel_rfl) (hst.blkN 2 rfl 0 2)) rfl ?_
  exact ⟨rfl, hst.keep [] rfl⟩
 have hF := ite_f hF hc70
 refine CW.cond_f rfl hc70 (CW.skip (QW.next (CW.seq (CW.seq (CW.region ?_)))))
 refine OW.pure 1 [(40, .int .i64 p0)] (by kernel_rfl) (OW.nil rfl (QW.next (CW.block (CW.seq (CW.region ?_)))))
 refine OW.pure 2 [(41, .bool (p0 == 1))] (by kernel_rfl) (OW.nil rfl (QW.next ?_))
 rcases Bool.eq_false_or_eq_true ((p0 == 1)) with hc81 | hc81
 ·have hF := ite_t hF hc81
  refine CW.cond_t rfl hc81 (CW.seq (CW.region ?_))
  refine OW.ldN (cs := [.int .u64 p1.Lo, .int .u64 p1.Hi]) rfl rfl rfl rfl (by kernel_rfl) (by kernel_rfl) (hst.blkN 0 rfl 0 2) ?_
  refine OW.ldN (cs := [.int .u64 p2.Lo, .int .u64 p2.Hi]) rfl rfl rfl rfl (by kernel_rfl) (by kernel_rfl) (hst.blkN 1 rfl 0 2) ?_
  obtain ⟨r87, hr88, hF⟩ := bind_some' hF
  refine OW.fn rfl rfl rfl rfl (by kernel_rfl) (span_sum_ok _ p1 p2 r87 hr88 (hst.part [] rfl)) ?_
  rintro e w89 ⟨rfl, hst90⟩
  refine ⟨_, rfl, ?_⟩
  have hst := hst.join (idx := []) (rest := [0, 1, 2]) rfl hst90
  refine OW.stB hst 2 rfl rfl rfl rfl rfl (by kernel_rfl) rfl rfl [.int .u64 r87.Lo, .int .u64 r87.Hi] rfl ?_
  intro w91 hst
  refine OW.pure 1 [(7, .bool true)] (by kernel_rfl) (OW.nil rfl (QW.next (CW.ret (QW.block_ret (QW.then_ret ?_)))))
  obtain rfl := Option.some.inj hF
  refine QW.ret_ct rfl rfl (run_loadN (cs := [.int .u64 r87.Lo, .int .u64 r87.Hi]) (by kernel_rfl) (by kernel_rfl) (hst.blkN 2 rfl 0 2)) rfl ?_
  exact ⟨rfl, hst.keep [] rfl⟩
 have hF := ite_f hF hc81
 refine CW.cond_f rfl hc81 (CW.seq (CW.region ?_))
 refine OW.pure 2 [(46, .bool (p0 == 2))] (by kernel_rfl) (OW.nil rfl (QW.next ?_))
 rcases Bool.eq_false_or_eq_true ((p0 == 2)) with hc92 | hc92
 ·have hF := ite_t hF hc92
  refine CW.cond_t rfl hc92 (CW.seq (CW.seq (CW.region ?_)))
  refine OW.pure 1 [(48, .pointer (some ⟨b7, 0, none⟩))] (by kernel_rfl) ?_
  refine OW.ld rfl rfl rfl rfl (by kernel_rfl) (hst.blk 0 rfl rfl) ?_
  refine OW.pure 1 [(50, .pointer (some ⟨b9, 1, none⟩))] (by kernel_rfl) ?_
  refine OW.ld rfl rfl rfl rfl (by kernel_rfl) (hst.blk 1 rfl rfl) ?_
  refine OW.pure 1 [(52, .bool (decide (p1.Lo < p2.Hi)))] (by kernel_rfl) (OW.nil rfl (QW.next ?_))
  rcases Bool.eq_false_or_eq_true (decide (p1.Lo < p2.Hi)) with hc93 | hc93
  ·have hF := ite_t hF hc93
   refine CW.cond_t rfl hc93 (CW.seq (CW.region ?_))
   obtain ⟨r99, hr100, hF⟩ := bind_some' hF
   refine OW.fn rfl rfl rfl rfl (by kernel_rfl) (span_Full_ok _ r99 hr100 (hst.part [] rfl)) ?_
   rintro e w101 ⟨rfl, hst102⟩
   refine ⟨_, rfl, ?_⟩
   have hst := hst.join (idx := []) (rest := [0, 1, 2]) rfl hst102
   refine OW.stB hst 2 rfl rfl rfl rfl rfl (by kernel_rfl) rfl rfl [.int .u64 r99.Lo, .int .u64 r99.Hi] rfl ?_
   intro w103 hst
   refine OW.pure 1 [(7, .bool true)] (by kernel_rfl) (OW.nil rfl (QW.next (CW.ret (QW.then_ret (QW.block_ret (QW.then_ret ?_))))))
   obtain rfl := Option.some.inj hF
   refine QW.ret_ct rfl rfl (run_loadN (cs := [.int .u64 r99.Lo, .int .u64 r99.Hi]) (by kernel_rfl) (by kernel_rfl) (hst.blkN 2 rfl 0 2)) rfl ?_
   exact ⟨rfl, hst.keep [] rfl⟩
  have hF := ite_f hF hc93
  refine CW.cond_f rfl hc93 (CW.skip (QW.next (CW.seq (CW.region ?_))))
  refine OW.pure 1 [(54, .pointer (some ⟨b7, 0, none⟩))] (by kernel_rfl) ?_
  refine OW.ld rfl rfl rfl rfl (by kernel_rfl) (hst.blk 0 rfl rfl) ?_
  refine OW.pure 1 [(56, .pointer (some ⟨b9, 1, none⟩))] (by kernel_rfl) ?_
  refine OW.ld rfl rfl rfl rfl (by kernel_rfl) (hst.blk 1 rfl rfl) ?_
  refine OW.pure 2 [(58, .int .u64 (wu64 (p1.Lo - p2.Hi))), (59, .pointer (some ⟨b7, 1, none⟩))] (by kernel_rfl) ?_
  refine OW.ld rfl rfl rfl rfl (by kernel_rfl) (hst.blk 0 rfl rfl) ?_
  refine OW.pure 1 [(61, .pointer (some ⟨b9, 0, none⟩))] (by kernel_rfl) ?_
  refine OW.ld rfl rfl rfl rfl (by kernel_rfl) (hst.blk 1 rfl rfl) ?_
  refine OW.pure 2 [(64, .agg [.int .u64 (wu64 (p1.Lo - p2.Hi)), .int .u64 (wu64 (p1.Hi - p2.Lo))].toArray)] (by kernel_rfl) ?_
  refine OW.stB hst 2 rfl rfl rfl rfl rfl (by kernel_rfl) rfl rfl [.int .u64 (wu64 (p1.Lo - p2.Hi)), .int .u64 (wu64 (p1.Hi - p2.Lo))] rfl ?_
  intro w105 hst
  refine OW.pure 1 [(7, .bool true)] (by kernel_rfl) (OW.nil rfl (QW.next (CW.ret (QW.block_ret (QW.then_ret ?_)))))
  obtain rfl := Option.some.inj hF
  refine QW.ret_ct rfl rfl (run_loadN (cs := [.int .u64 (wu64 (p1.Lo - p2.Hi)), .int .u64 (wu64 (p1.Hi - p2.Lo))]) (by kernel_rfl) (by kernel_rfl) (hst.blkN 2 rfl 0 2)) rfl ?_
  exact ⟨rfl, hst.keep [] rfl⟩
 have hF := ite_f hF hc92
 refine CW.cond_f rfl hc92 (CW.seq (CW.region ?_))
 refine OW.pure 2 [(65, .bool (p0 == 3))] (by kernel_rfl) (OW.nil rfl (QW.next ?_))
 rcases Bool.eq_false_or_eq_true ((p0 == 3)) with hc106 | hc106
 ·have hF := ite_t hF hc106
  refine CW.cond_t rfl hc106 (CW.seq (CW.region ?_))
  refine OW.ldN (cs := [.int .u64 p1.Lo, .int .u64 p1.Hi]) rfl rfl rfl rfl (by kernel_rfl) (by kernel_rfl) (hst.blkN 0 rfl 0 2) ?_
  refine OW.ldN (cs := [.int .u64 p2.Lo, .int .u64 p2.Hi]) rfl rfl rfl rfl (by kernel_rfl) (by kernel_rfl) (hst.blkN 1 rfl 0 2) ?_
  obtain ⟨r112, hr113, hF⟩ := bind_some' hF
  refine OW.fn rfl rfl rfl rfl (by kernel_rfl) (span_product_ok _ p1 p2 r112 hr113 (hst.part [] rfl)) ?_
  rintro e w114 ⟨rfl, hst115⟩
  refine ⟨_, rfl, ?_⟩
  have hst := hst.join (idx := []) (rest := [0, 1, 2]) rfl hst115
  refine OW.stB hst 2 rfl rfl rfl rfl rfl (by kernel_rfl) rfl rfl [.int .u64 r112.Lo, .int .u64 r112.Hi] rfl ?_
  intro w116 hst
  refine OW.pure 1 [(7, .bool true)] (by kernel_rfl) (OW.nil rfl (QW.next (CW.ret (QW.block_ret (QW.then_ret ?_)))))
  obtain rfl := Option.some.inj hF
  refine QW.ret_ct rfl rfl (run_loadN (cs := [.int .u64 r112.Lo, .int .u64 r112.Hi]) (by kernel_rfl) (by kernel_rfl) (hst.blkN 2 rfl 0 2)) rfl ?_
  exact ⟨rfl, hst.keep [] rfl⟩
 have hF := ite_f hF hc106
 refine CW.cond_f rfl hc106 (CW.seq (CW.region ?_))
 refine OW.pure 2 [(70, .bool (p0 == 4))] (by kernel_rfl) (OW.nil rfl (QW.next ?_))
 rcases Bool.eq_false_or_eq_true ((p0 == 4)) with hc117 | hc117
 ·have hF := ite_t hF hc117
  refine CW.cond_t rfl hc117 (CW.seq (CW.region ?_))
  refine OW.ldN (cs := [.int .u64 p1.Lo, .int .u64 p1.Hi]) rfl rfl rfl rfl (by kernel_rfl) (by kernel_rfl) (hst.blkN 0 rfl 0 2) ?_
  refine OW.ldN (cs := [.int .u64 p2.Lo, .int .u64 p2.Hi]) rfl rfl rfl rfl (by kernel_rfl) (by kernel_rfl) (hst.blkN 1 rfl 0 2) ?_
  obtain ⟨r123, hr124, hF⟩ := bind_some' hF
  refine OW.fn rfl rfl rfl rfl (by kernel_rfl) (span_divided_ok _ p1 p2 r123 hr124 (hst.part [] rfl)) ?_
  rintro e w125 ⟨rfl, hst126⟩
  refine ⟨_, rfl, ?_⟩
  have hst := hst.join (idx := []) (rest := [0, 1, 2]) rfl hst126
  refine OW.stB hst 2 rfl rfl rfl rfl rfl (by kernel_rfl) rfl rfl [.int .u64 r123.Lo, .int .u64 r123.Hi] rfl ?_
  intro w127 hst
  refine OW.pure 1 [(7, .bool true)] (by kernel_rfl) (OW.nil rfl (QW.next (CW.ret (QW.block_ret (QW.then_ret ?_)))))
  obtain rfl := Option.some.inj hF
  refine QW.ret_ct rfl rfl (run_loadN (cs := [.int .u64 r123.Lo, .int .u64 r123.Hi]) (by kernel_rfl) (by kernel_rfl) (hst.blkN 2 rfl 0 2)) rfl ?_
  exact ⟨rfl, hst.keep [] rfl⟩
 have hF := ite_f hF hc117
 refine CW.cond_f rfl hc117 (CW.seq (CW.region ?_))
 refine OW.pure 2 [(75, .bool (p0 == 5))] (by kernel_rfl) (OW.nil rfl (QW.next ?_))
 rcases Bool.eq_false_or_eq_true ((p0 == 5)) with hc128 | hc128
 ·have hF := ite_t hF hc128
  refine CW.cond_t rfl hc128 (CW.seq (CW.region ?_))
  refine OW.ldN (cs := [.int .u64 p1.Lo, .int .u64 p1.Hi]) rfl rfl rfl rfl (by kernel_rfl) (by kernel_rfl) (hst.blkN 0 rfl 0 2) ?_
  refine OW.ldN (cs := [.int .u64 p2.Lo, .int .u64 p2.Hi]) rfl rfl rfl rfl (by kernel_rfl) (by kernel_rfl) (hst.blkN 1 rfl 0 2) ?_
  obtain ⟨r134, hr135, hF⟩ := bind_some' hF
  refine OW.fn rfl rfl rfl rfl (by kernel_rfl) (span_rest_ok _ p1 p2 r134 hr135 (hst.part [] rfl)) ?_
  rintro e w136 ⟨rfl, hst137⟩
  refine ⟨_, rfl, ?_⟩
  have hst := hst.join (idx := []) (rest := [0, 1, 2]) rfl hst137
  refine OW.stB hst 2 rfl rfl rfl rfl rfl (by kernel_rfl) rfl rfl [.int .u64 r134.Lo, .int .u64 r134.Hi] rfl ?_
  intro w138 hst
  refine OW.pure 1 [(7, .bool true)] (by kernel_rfl) (OW.nil rfl (QW.next (CW.ret (QW.block_ret (QW.then_ret ?_)))))
  obtain rfl := Option.some.inj hF
  refine QW.ret_ct rfl rfl (run_loadN (cs := [.int .u64 r134.Lo, .int .u64 r134.Hi]) (by kernel_rfl) (by kernel_rfl) (hst.blkN 2 rfl 0 2)) rfl ?_
  exact ⟨rfl, hst.keep [] rfl⟩
 have hF := ite_f hF hc128
 refine CW.cond_f rfl hc128 (CW.seq (CW.region ?_))
 refine OW.pure 2 [(80, .bool (p0 == 6))] (by kernel_rfl) (OW.nil rfl (QW.next ?_))
 rcases Bool.eq_false_or_eq_true ((p0 == 6)) with hc139 | hc139
 ·have hF := ite_t hF hc139
  refine CW.cond_t rfl hc139 (CW.seq (CW.region ?_))
  refine OW.pure 1 [(82, .pointer (some ⟨b7, 1, none⟩))] (by kernel_rfl) ?_
  refine OW.ld rfl rfl rfl rfl (by kernel_rfl) (hst.blk 0 rfl rfl) ?_
  refine OW.pure 1 [(84, .pointer (some ⟨b9, 1, none⟩))] (by kernel_rfl) ?_
  refine OW.ld rfl rfl rfl rfl (by kernel_rfl) (hst.blk 1 rfl rfl) ?_
  refine OW.pure 2 [(87, .agg [.int .u64 0, .int .u64 (imin p1.Hi p2.Hi)].toArray)] (by kernel_rfl) ?_
  refine OW.stB hst 2 rfl rfl rfl rfl rfl (by kernel_rfl) rfl rfl [.int .u64 0, .int .u64 (imin p1.Hi p2.Hi)] rfl ?_
  intro w141 hst
  refine OW.pure 1 [(7, .bool true)] (by kernel_rfl) (OW.nil rfl (QW.next (CW.ret (QW.block_ret (QW.then_ret ?_)))))
  obtain rfl := Option.some.inj hF
  refine QW.ret_ct rfl rfl (run_loadN (cs := [.int .u64 0, .int .u64 (imin p1.Hi p2.Hi)]) (by kernel_rfl) (by kernel_rfl) (hst.blkN 2 rfl 0 2)) rfl ?_
  exact ⟨rfl, hst.keep [] rfl⟩
 have hF := ite_f hF hc139
 refine CW.cond_f rfl hc139 (CW.seq (CW.region ?_))
 refine OW.pure 2 [(88, .bool (p0 == 7))] (by kernel_rfl) (OW.nil rfl (QW.next ?_))
 rcases Bool.eq_false_or_eq_true ((p0 == 7)) with hc142 | hc142
 ·have hF := ite_t hF hc142
  refine CW.cond_t rfl hc142 (CW.seq ?_)
  refine CW.plan (by kernel_rfl) ?_
  intro w150 hch151
  have hst := hst.same hch151
  refine OA.pure [0] [(90, .pointer (some ⟨b7, 0, none⟩))] (by kernel_rfl) ?_
  refine OA.ld (i := 1) rfl (by kernel_rfl) rfl rfl rfl (by kernel_rfl) (hst.blk 0 rfl rfl) ?_
  refine OA.pure [2] [(92, .pointer (some ⟨b9, 0, none⟩))] (by kernel_rfl) ?_
  refine OA.ld (i := 3) rfl (by kernel_rfl) rfl rfl rfl (by kernel_rfl) (hst.blk 1 rfl rfl) ?_
  refine OA.pure [4, 5] [(94, .int .u64 (imax p1.Lo p2.Lo)), (95, .pointer (some ⟨b7, 1, none⟩))] (by kernel_rfl) ?_
  refine OA.ld (i := 6) rfl (by kernel_rfl) rfl rfl rfl (by kernel_rfl) (hst.blk 0 rfl rfl) ?_
  refine OA.pure [7] [(97, .pointer (some ⟨b9, 1, none⟩))] (by kernel_rfl) ?_
  refine OA.ld (i := 8) rfl (by kernel_rfl) rfl rfl rfl (by kernel_rfl) (hst.blk 1 rfl rfl) ?_
  refine OA.pure [9] [(99, .int .u64 (bOr .u64 p1.Hi p2.Hi))] (by kernel_rfl) ?_
  refine OA.act (i := 10) [3, 1] (by kernel_rfl) rfl rfl (by kernel_rfl) (by kernel_rfl) ?_
  obtain ⟨r152, hr153, hF⟩ := bind_some' hF
  refine OW.fn rfl rfl rfl rfl (by kernel_rfl) (span_ones_ok _ (bOr .u64 p1.Hi p2.Hi) r152 hr153 (hst.part [] rfl)) ?_
  rintro e w154 ⟨rfl, hst155⟩
  refine ⟨_, rfl, ?_⟩
  have hst := hst.join (idx := []) (rest := [0, 1, 2]) rfl hst155
  refine OA.next ⟨(hst.blk 1 rfl rfl), (hst.blk 0 rfl rfl), trivial⟩ ?_
  refine OA.pure [11] [(101, .agg [.int .u64 (imax p1.Lo p2.Lo), .int .u64 r152].toArray)] (by kernel_rfl) ?_
  refine OA.act (i := 12) [] (by kernel_rfl) rfl rfl (by kernel_rfl) (by kernel_rfl) ?_
  refine OW.stB hst 2 rfl rfl rfl rfl rfl (by kernel_rfl) rfl rfl [.int .u64 (imax p1.Lo p2.Lo), .int .u64 r152] rfl ?_
  intro w156 hst
  refine OA.next trivial ?_
  refine OA.act (i := 13) [] (by kernel_rfl) rfl rfl (by kernel_rfl) (by kernel_rfl) ?_
  refine OW.pure 1 [(7, .bool true)] (by kernel_rfl) (OA.next trivial ?_)
  refine OA.fin (by kernel_rfl) (by kernel_rfl) (QW.next (CW.ret (QW.block_ret (QW.then_ret ?_))))
  obtain rfl := Option.some.inj hF
  refine QW.ret_ct rfl rfl (run_loadN (cs := [.int .u64 (imax p1.Lo p2.Lo), .int .u64 r152]) (by kernel_rfl) (by kernel_rfl) (hst.blkN 2 rfl 0 2)) rfl ?_
  exact ⟨rfl, hst.keep [] rfl⟩
 have hF := ite_f hF hc142
 refine CW.cond_f rfl hc142 (CW.seq (CW.region ?_))
 refine OW.pure 2 [(102, .bool (p0 == 8))] (by kernel_rfl) (OW.nil rfl (QW.next ?_))
 rcases Bool.eq_false_or_eq_true ((p0 == 8)) with hc157 | hc157
 ·have hF := ite_t hF hc157
  refine CW.cond_t rfl hc157 (CW.seq (CW.region ?_))
  refine OW.pure 1 [(104, .pointer (some ⟨b7, 1, none⟩))] (by kernel_rfl) ?_
  refine OW.ld rfl rfl rfl rfl (by kernel_rfl) (hst.blk 0 rfl rfl) ?_
  refine OW.pure 1 [(106, .pointer (some ⟨b9, 1, none⟩))] (by kernel_rfl) ?_
  refine OW.ld rfl rfl rfl rfl (by kernel_rfl) (hst.blk 1 rfl rfl) ?_
  refine OW.pure 1 [(108, .int .u64 (bOr .u64 p1.Hi p2.Hi))] (by kernel_rfl) ?_
  obtain ⟨r163, hr164, hF⟩ := bind_some' hF
  refine OW.fn rfl rfl rfl rfl (by kernel_rfl) (span_ones_ok _ (bOr .u64 p1.Hi p2.Hi) r163 hr164 (hst.part [] rfl)) ?_
  rintro e w165 ⟨rfl, hst166⟩
  refine ⟨_, rfl, ?_⟩
  have hst := hst.join (idx := []) (rest := [0, 1, 2]) rfl hst166
  refine OW.pure 1 [(110, .agg [.int .u64 0, .int .u64 r163].toArray)] (by kernel_rfl) ?_
  refine OW.stB hst 2 rfl rfl rfl rfl rfl (by kernel_rfl) rfl rfl [.int .u64 0, .int .u64 r163] rfl ?_
  intro w167 hst
  refine OW.pure 1 [(7, .bool true)] (by kernel_rfl) (OW.nil rfl (QW.next (CW.ret (QW.block_ret (QW.then_ret ?_)))))
  obtain rfl := Option.some.inj hF
  refine QW.ret_ct rfl rfl (run_loadN (cs := [.int .u64 0, .int .u64 r163]) (by kernel_rfl) (by kernel_rfl) (hst.blkN 2 rfl 0 2)) rfl ?_
  exact ⟨rfl, hst.keep [] rfl⟩
 have hF := ite_f hF hc157
 refine CW.cond_f rfl hc157 (CW.seq (CW.region ?_))
 refine OW.pure 2 [(111, .bool (p0 == 9))] (by kernel_rfl) (OW.nil rfl (QW.next ?_))
 rcases Bool.eq_false_or_eq_true ((p0 == 9)) with hc168 | hc168
 ·have hF := ite_t hF hc168
  refine CW.cond_t rfl hc168 (CW.seq (CW.region ?_))
  refine OW.ldN (cs := [.int .u64 p1.Lo, .int .u64 p1.Hi]) rfl rfl rfl rfl (by kernel_rfl) (by kernel_rfl) (hst.blkN 0 rfl 0 2) ?_
  refine OW.ldN (cs := [.int .u64 p2.Lo, .int .u64 p2.Hi]) rfl rfl rfl rfl (by kernel_rfl) (by kernel_rfl) (hst.blkN 1 rfl 0 2) ?_
  obtain ⟨r174, hr175, hF⟩ := bind_some' hF
  refine OW.fn rfl rfl rfl rfl (by kernel_rfl) (span_left_ok _ p1 p2 r174 hr175 (hst.part [] rfl)) ?_
  rintro e w176 ⟨rfl, hst177⟩
  refine ⟨_, rfl, ?_⟩
  have hst := hst.join (idx := []) (rest := [0, 1, 2]) rfl hst177
  refine OW.stB hst 2 rfl rfl rfl rfl rfl (by kernel_rfl) rfl rfl [.int .u64 r174.Lo, .int .u64 r174.Hi] rfl ?_
  intro w178 hst
  refine OW.pure 1 [(7, .bool true)] (by kernel_rfl) (OW.nil rfl (QW.next (CW.ret (QW.block_ret (QW.then_ret ?_)))))
  obtain rfl := Option.some.inj hF
  refine QW.ret_ct rfl rfl (run_loadN (cs := [.int .u64 r174.Lo, .int .u64 r174.Hi]) (by kernel_rfl) (by kernel_rfl) (hst.blkN 2 rfl 0 2)) rfl ?_
  exact ⟨rfl, hst.keep [] rfl⟩
 have hF := ite_f hF hc168
 refine CW.cond_f rfl hc168 (CW.skip (QW.block_normal (QW.next (CW.seq (CW.region ?_)))))
 refine OW.pure 1 [(116, .pointer (some ⟨b7, 0, none⟩))] (by kernel_rfl) ?_
 refine OW.ld rfl rfl rfl rfl (by kernel_rfl) (hst.blk 0 rfl rfl) ?_
 refine OW.pure 1 [(118, .pointer (some ⟨b9, 1, none⟩))] (by kernel_rfl) ?_
 refine OW.ld rfl rfl rfl rfl (by kernel_rfl) (hst.blk 1 rfl rfl) ?_
 obtain ⟨u184, hz185, hF⟩ := bind_some' hF
 refine OW.op (v := .int .u64 (bShr .u64 p1.Lo p2.Hi)) rfl rfl rfl rfl (fun a ha => shr_run rfl rfl rfl (nn_ge hz185) a _ ha) ?_
 refine OW.pure 1 [(121, .pointer (some ⟨b7, 1, none⟩))] (by kernel_rfl) ?_
 refine OW.ld rfl rfl rfl rfl (by kernel_rfl) (hst.blk 0 rfl rfl) ?_
 refine OW.pure 1 [(123, .pointer (some ⟨b9, 0, none⟩))] (by kernel_rfl) ?_
 refine OW.ld rfl rfl rfl rfl (by kernel_rfl) (hst.blk 1 rfl rfl) ?_
 obtain ⟨u186, hz187, hF⟩ := bind_some' hF
 refine OW.op (v := .int .u64 (bShr .u64 p1.Hi p2.Lo)) rfl rfl rfl rfl (fun a ha => shr_run rfl rfl rfl (nn_ge hz187) a _ ha) ?_
 refine OW.pure 1 [(126, .agg [.int .u64 (bShr .u64 p1.Lo p2.Hi), .int .u64 (bShr .u64 p1.Hi p2.Lo)].toArray)] (by kernel_rfl) ?_
 refine OW.stB hst 2 rfl rfl rfl rfl rfl (by kernel_rfl) rfl rfl [.int .u64 (bShr .u64 p1.Lo p2.Hi), .int .u64 (bShr .u64 p1.Hi p2.Lo)] rfl ?_
 intro w188 hst
 refine OW.pure 1 [(7, .bool true)] (by kernel_rfl) (OW.nil rfl (QW.next (CW.ret ?_)))
 obtain rfl := Option.some.inj hF
 refine QW.ret_ct rfl rfl (run_loadN (cs := [.int .u64 (bShr .u64 p1.Lo p2.Hi), .int .u64 (bShr .u64 p1.Hi p2.Lo)]) (by kernel_rfl) (by kernel_rfl) (hst.blkN 2 rfl 0 2)) rfl ?_
 exact ⟨rfl, hst.keep [] rfl⟩
theorem judge_judge_one_ok (w : World) (wb : World) (Sb : List Nat) (fu : Nat) (v0 : Value) (S0 : List Nat) (p0 : judge_judge) (p1 : Int) (r : (Nat → api_Type) × Int) (hF : judge_judge_one fu p0 p1 = some r)
    (hst : St w (fp [itI (R_t116 wb Sb) [v0] S0 p0]) w [itI (R_t116 wb Sb) [v0] S0 p0]) (hb : Bor wb Sb w (fp [itI (R_t116 wb Sb) [v0] S0 p0])) (hT0 : Rd w (fp [itI (R_t116 wb Sb) [v0] S0 p0]) (.slice (some ⟨0, 0, none⟩) 23 23) enc_ops_form 2 tab_g0) (hT1 : Rd w (fp [itI (R_t116 wb Sb) [v0] S0 p0]) (.slice (some ⟨1, 0, none⟩) 7 7) enc_sigs_sig 5 tab_g1) :
    Calls Tryz.prog 76 [v0, .int .i64 p1].toArray w (fun e w' => ∃ (s0 : List Nat), e = .returned (.tuple #[.agg [.int .i64 (r.1 0).Kind, .int .u64 (r.1 0).Span.Lo, .int .u64 (r.1 0).Span.Hi, .int .i64 (r.1 0).Map, .int .i64 (r.1 1).Kind, .int .u64 (r.1 1).Span.Lo, .int .u64 (r.1 1).Span.Hi, .int .i64 (r.1 1).Map, .int .i64 (r.1 2).Kind, .int .u64 (r.1 2).Span.Lo, .int .u64 (r.1 2).Span.Hi, .int .i64 (r.1 2).Map, .int .i64 (r.1 3).Kind, .int .u64 (r.1 3).Span.Lo, .int .u64 (r.1 3).Span.Hi, .int .i64 (r.1 3).Map, .int .i64 (r.1 4).Kind, .int .u64 (r.1 4).Span.Lo, .int .u64 (r.1 4).Span.Hi, .int .i64 (r.1 4).Map, .int .i64 (r.1 5).Kind, .int .u64 (r.1 5).Span.Lo, .int .u64 (r.1 5).Span.Hi, .int .i64 (r.1 5).Map, .int .i64 (r.1 6).Kind, .int .u64 (r.1 6).Span.Lo, .int .u64 (r.1 6).Span.Hi, .int .i64 (r.1 6).Map, .int .i64 (r.1 7).Kind, .int .u64 (r.1 7).Span.Lo, .int .u64 (r.1 7).Span.Hi, .int .i64 (r.1 7).Map].toArray, .int .i64 r.2]) ∧ St w (fp [itI (R_t116 wb Sb) [v0] S0 p0]) w' [itI (R_t116 wb Sb) [v0] s0 p0]) := by
 refine CW.start (N := 194) Tryz.func76 rfl rfl rfl ?_
 obtain ⟨b1, rfl⟩ := hst.fptr 0 rfl
 refine CW.seq (CW.region ?_)
 refine OW.alloc hst rfl rfl rfl [.int .i64 0, .int .u64 0, .int .u64 0, .int .i64 0, .int .i64 0, .int .u64 0, .int .u64 0, .int .i64 0, .int .i64 0, .int .u64 0, .int .u64 0, .int .i64 0, .int .i64 0, .int .u64 0, .int .u64 0, .int .i64 0, .int .i64 0, .int .u64 0, .int .u64 0, .int .i64 0, .int .i64 0, .int .u64 0, .int .u64 0, .int .i64 0, .int .i64 0, .int .u64 0, .int .u64 0, .int .i64 0, .int .i64 0, .int .u64 0, .int .u64 0, .int .i64 0] (by kernel_rfl) ?_
 intro b4 w5 hst
 refine OW.pure 1 [] (by kernel_rfl) (OW.nil rfl (QW.next (CW.seq ?_)))
 obtain ⟨v6, S7, v8, S9, v10, S11, v12, S13, v14, S15, hst⟩ := hst.openQ5 0 rfl rfl rfl rfl rfl rfl
 have hbo16 := hst.borOut 2 rfl
 have hbr17 := hbo16.bor hb
 have hbo18 := hst.borOut 3 rfl
 have hbr19 := hbo18.bor hb
 have hst := hst.toRow1 4 rfl
 have hst := hst.toRow1 5 rfl
 have hst := hst.toRow1 6 rfl
 have hst := hst.keep [0, 1, 4, 5, 6] rfl
 obtain ⟨l20, a21, c22, rfl⟩ := hbr17.len
 obtain ⟨l23, a24, c25, rfl⟩ := hbr19.len
 obtain ⟨l26, a27, c28, rfl⟩ := hst.len 2 rfl
 obtain ⟨l29, a30, c31, rfl⟩ := hst.len 3 rfl
 obtain ⟨l32, a33, c34, rfl⟩ := hst.len 4 rfl
 have hst : St _ _ _ [blkI b1 148 [.slice a21 (p0.Module.Maps).length c22, .slice a24 (p0.Module.Code).length c25, .slice a27 (p0.came).length c28, .slice a30 (p0.any).length c31, .slice a33 (p0.loops).length c34], _, _, _, _] := hst
 obtain ⟨o80, ho81, hF⟩ := bind_some' hF
 refine CW.cutK (fun a w1 => ∃ (S77 : List Nat) (b78 : Nat) (b79 : Nat), Rep 194 [(0, .pointer (some ⟨b1, 0, none⟩)), (1, .int .i64 p1), (4, .pointer (some ⟨b4, 0, none⟩)), (6, .pointer (some ⟨b78, 0, none⟩)), (7, .pointer (some ⟨b79, 0, none⟩))] a ∧ St w (fp [itI (R_t116 wb Sb) [.pointer (some ⟨b1, 0, none⟩)] S0 p0]) w1 [itI (R_t116 wb Sb) [.pointer (some ⟨b1, 0, none⟩)] S77 p0, blkI b4 158 [.int .i64 0, .int .u64 0, .int .u64 0, .int .i64 0, .int .i64 0, .int .u64 0, .int .u64 0, .int .i64 0, .int .i64 0, .int .u64 0, .int .u64 0, .int .i64 0, .int .i64 0, .int .u64 0, .int .u64 0, .int .i64 0, .int .i64 0, .int .u64 0, .int .u64 0, .int .i64 0, .int .i64 0, .int .u64 0, .int .u64 0, .int .i64 0, .int .i64 0, .int .u64 0, .int .u64 0, .int .i64 0, .int .i64 0, .int .u64 0, .int .u64 0, .int .i64 0], blkI b78 43 [.int .i64 o80.1.Op, .int .i64 o80.1.D, .int .i64 o80.1.A, .int .i64 o80.1.B, .int .i64 o80.1.Imm], blkI b79 158 [.int .i64 (o80.2 0).Kind, .int .u64 (o80.2 0).Span.Lo, .int .u64 (o80.2 0).Span.Hi, .int .i64 (o80.2 0).Map, .int .i64 (o80.2 1).Kind, .int .u64 (o80.2 1).Span.Lo, .int .u64 (o80.2 1).Span.Hi, .int .i64 (o80.2 1).Map, .int .i64 (o80.2 2).Kind, .int .u64 (o80.2 2).Span.Lo, .int .u64 (o80.2 2).Span.Hi, .int .i64 (o80.2 2).Map, .int .i64 (o80.2 3).Kind, .int .u64 (o80.2 3).Span.Lo, .int .u64 (o80.2 3).Span.Hi, .int .i64 (o80.2 3).Map, .int .i64 (o80.2 4).Kind, .int .u64 (o80.2 4).Span.Lo, .int .u64 (o80.2 4).Span.Hi, .int .i64 (o80.2 4).Map, .int .i64 (o80.2 5).Kind, .int .u64 (o80.2 5).Span.Lo, .int .u64 (o80.2 5).Span.Hi, .int .i64 (o80.2 5).Map, .int .i64 (o80.2 6).Kind, .int .u64 (o80.2 6).Span.Lo, .int .u64 (o80.2 6).Span.Hi, .int .i64 (o80.2 6).Map, .int .i64 (o80.2 7).Kind, .int .u64 (o80.2 7).Span.Lo, .int .u64 (o80.2 7).Span.Hi, .int .i64 (o80.2 7).Map]]) ?_ ?_
 ·refine CW.plan (by kernel_rfl) ?_
  intro w82 hch83
  have hst := hst.same hch83
  refine OA.pure [0, 1, 2, 3] [(19, .pointer (some ⟨b1, 1, none⟩))] (by kernel_rfl) ?_
  refine OA.ld (i := 4) rfl (by kernel_rfl) rfl rfl rfl (by kernel_rfl) (hst.blk 0 rfl rfl) ?_
  refine OA.pure [5] [(21, .int .i64 p1)] (by kernel_rfl) ?_
  obtain ⟨x84, hx85, ho81⟩ := bind_some' ho81
  obtain ⟨g87, o88, c89, hv86⟩ := hbr19.formv (fun _ => ⟨_, rfl⟩) hx85
  refine OA.idx (i := 6) 43 5 rfl (by kernel_rfl) rfl rfl rfl hv86 rfl (idx_some hx85).1 (idx_some hx85).2.1 (by kernel_rfl) (by kernel_rfl) ?_
  refine OA.ldN (i := 7) (cs := enc_api_Inst x84) rfl (by kernel_rfl) rfl rfl rfl (by kernel_rfl) (by kernel_rfl) (hbr19.cellv hst hx85 hv86) ?_
  refine OA.pure [8, 9, 10] [(26, .pointer (some ⟨b1, 2, none⟩))] (by kernel_rfl) ?_
  refine OA.ld (i := 11) rfl (by kernel_rfl) rfl rfl rfl (by kernel_rfl) (hst.blk 0 rfl rfl) ?_
  refine OA.pure [12] [(28, .int .i64 p1)] (by kernel_rfl) ?_
  obtain ⟨x90, hx91, ho81⟩ := bind_some' ho81
  obtain ⟨g93, o94, c95, hv92⟩ := hst.rowv 2 rfl hx91
  refine OA.idx (i := 13) 158 32 rfl (by kernel_rfl) rfl rfl rfl hv92 rfl (idx_some hx91).1 (idx_some hx91).2.1 (by kernel_rfl) (by kernel_rfl) ?_
  refine OA.ldN (i := 14) (cs := arrC (enc_api_Type) 8 x90) rfl (by kernel_rfl) rfl rfl rfl (by kernel_rfl) (by kernel_rfl) (hst.rowc 2 rfl (fun _ => rfl) hx91 hv92) ?_
  refine OA.acts [15, 16] 15 (by kernel_rfl) (by kernel_rfl) (by kernel_rfl) (alts_cons ?_ (alts_cons ?_ alts_nil))
  ·refine Alt.of (i := 15) [14, 11, 7, 4] rfl rfl (by kernel_rfl) (by kernel_rfl) ?_
   refine OW.alloc hst rfl rfl rfl [.int .i64 0, .int .i64 0, .int .i64 0, .int .i64 0, .int .i64 0] (by kernel_rfl) ?_
   intro b96 w97 hst
   refine OA.next ⟨(hst.rowc 2 rfl (fun _ => rfl) hx91 hv92), (hst.blk 0 rfl rfl), (hbr19.cellv hst hx85 hv86), (hst.blk 0 rfl rfl), trivial⟩ ?_
   refine OA.act (i := 16) [14, 11, 7, 4] (by kernel_rfl) rfl rfl (by kernel_rfl) (by kernel_rfl) ?_
   refine OW.alloc hst rfl rfl rfl [.int .i64 0, .int .u64 0, .int .u64 0, .int .i64 0, .int .i64 0, .int .u64 0, .int .u64 0, .int .i64 0, .int .i64 0, .int .u64 0, .int .u64 0, .int .i64 0, .int .i64 0, .int .u64 0, .int .u64 0, .int .i64 0, .int .i64 0, .int .u64 0, .int .u64 0, .int .i64 0, .int .i64 0, .int .u64 0, .int .u64 0, .int .i64 0, .int .i64 0, .int .u64 0, .int .u64 0, .int .i64 0, .int .i64 0, .int .u64 0, .int .u64 0, .int .i64 0] (by kernel_rfl) ?_
   intro b98 w99 hst
   refine OA.next ⟨(hst.rowc 2 rfl (fun _ => rfl) hx91 hv92), (hst.blk 0 rfl rfl), (hbr19.cellv hst hx85 hv86), (hst.blk 0 rfl rfl), trivial⟩ ?_
   refine OA.act (i := 17) [14, 11] (by kernel_rfl) rfl rfl (by kernel_rfl) (by kernel_rfl) ?_
   refine OW.stB hst 5 rfl rfl rfl rfl rfl (by kernel_rfl) rfl rfl [.int .i64 x84.Op, .int .i64 x84.D, .int .i64 x84.A, .int .i64 x84.B, .int .i64 x84.Imm] rfl ?_
   intro w100 hst
   refine OA.next ⟨(hst.rowc 2 rfl (fun _ => rfl) hx91 hv92), (hst.blk 0 rfl rfl), trivial⟩ ?_
   refine OA.act (i := 18) [] (by kernel_rfl) rfl rfl (by kernel_rfl) (by kernel_rfl) ?_
   refine OW.stB hst 6 rfl rfl rfl rfl rfl (by kernel_rfl) rfl rfl [.int .i64 (x90 0).Kind, .int .u64 (x90 0).Span.Lo, .int .u64 (x90 0).Span.Hi, .int .i64 (x90 0).Map, .int .i64 (x90 1).Kind, .int .u64 (x90 1).Span.Lo, .int .u64 (x90 1).Span.Hi, .int .i64 (x90 1).Map, .int .i64 (x90 2).Kind, .int .u64 (x90 2).Span.Lo, .int .u64 (x90 2).Span.Hi, .int .i64 (x90 2).Map, .int .i64 (x90 3).Kind, .int .u64 (x90 3).Span.Lo, .int .u64 (x90 3).Span.Hi, .int .i64 (x90 3).Map, .int .i64 (x90 4).Kind, .int .u64 (x90 4).Span.Lo, .int .u64 (x90 4).Span.Hi, .int .i64 (x90 4).Map, .int .i64 (x90 5).Kind, .int .u64 (x90 5).Span.Lo, .int .u64 (x90 5).Span.Hi, .int .i64 (x90 5).Map, .int .i64 (x90 6).Kind, .int .u64 (x90 6).Span.Lo, .int .u64 (x90 6).Span.Hi, .int .i64 (x90 6).Map, .int .i64 (x90 7).Kind, .int .u64 (x90 7).Span.Lo, .int .u64 (x90 7).Span.Hi, .int .i64 (x90 7).Map] rfl ?_
   intro w101 hst
   refine OA.next trivial ?_
   refine OA.fin (by kernel_rfl) (by kernel_rfl) ?_
   have hst := hst.borIn hbo16
   have hst := hst.borIn hbo18
   have hst := hst.toIt 2 rfl (fun _ => rfl) (by decide)
   have hst := hst.toIt 3 rfl (fun _ => rfl) (by decide)
   have hst := hst.toIt 4 rfl (fun _ => rfl) (by decide)
   obtain ⟨S102, hst⟩ := hst.shutP5 (R_t148 wb Sb) rfl 0 7 8 2 3 4 [1, 5, 6] rfl rfl rfl rfl rfl rfl rfl p0 rfl rfl
   obtain rfl := Option.some.inj ho81
   exact QW.meet (fun a ha => ⟨S102, b96, b98, ha.agrees (by kernel_rfl), hst.keep [3, 0, 1, 2] rfl⟩)
  refine Alt.of (i := 16) [14, 11, 7, 4] rfl rfl (by kernel_rfl) (by kernel_rfl) ?_
  refine OW.alloc hst rfl rfl rfl [.int .i64 0, .int .u64 0, .int .u64 0, .int .i64 0, .int .i64 0, .int .u64 0, .int .u64 0, .int .i64 0, .int .i64 0, .int .u64 0, .int .u64 0, .int .i64 0, .int .i64 0, .int .u64 0, .int .u64 0, .int .i64 0, .int .i64 0, .int .u64 0, .int .u64 0, .int .i64 0, .int .i64 0, .int .u64 0, .int .u64 0, .int .i64 0, .int .i64 0, .int .u64 0, .int .u64 0, .int .i64 0, .int .i64 0, .int .u64 0, .int .u64 0, .int .i64 0] (by kernel_rfl) ?_
  intro b103 w104 hst
  refine OA.next ⟨(hst.rowc 2 rfl (fun _ => rfl) hx91 hv92), (hst.blk 0 rfl rfl), (hbr19.cellv hst hx85 hv86), (hst.blk 0 rfl rfl), trivial⟩ ?_
  refine OA.act (i := 15) [14, 11, 7, 4] (by kernel_rfl) rfl rfl (by kernel_rfl) (by kernel_rfl) ?_
  refine OW.alloc hst rfl rfl rfl [.int .i64 0, .int .i64 0, .int .i64 0, .int .i64 0, .int .i64 0] (by kernel_rfl) ?_
  intro b105 w106 hst
  refine OA.next ⟨(hst.rowc 2 rfl (fun _ => rfl) hx91 hv92), (hst.blk 0 rfl rfl), (hbr19.cellv hst hx85 hv86), (hst.blk 0 rfl rfl), trivial⟩ ?_
  refine OA.act (i := 17) [14, 11] (by kernel_rfl) rfl rfl (by kernel_rfl) (by kernel_rfl) ?_
  refine OW.stB hst 6 rfl rfl rfl rfl rfl (by kernel_rfl) rfl rfl [.int .i64 x84.Op, .int .i64 x84.D, .int .i64 x84.A, .int .i64 x84.B, .int .i64 x84.Imm] rfl ?_
  intro w107 hst
  refine OA.next ⟨(hst.rowc 2 rfl (fun _ => rfl) hx91 hv92), (hst.blk 0 rfl rfl), trivial⟩ ?_
  refine OA.act (i := 18) [] (by kernel_rfl) rfl rfl (by kernel_rfl) (by kernel_rfl) ?_
  refine OW.stB hst 5 rfl rfl rfl rfl rfl (by kernel_rfl) rfl rfl [.int .i64 (x90 0).Kind, .int .u64 (x90 0).Span.Lo, .int .u64 (x90 0).Span.Hi, .int .i64 (x90 0).Map, .int .i64 (x90 1).Kind, .int .u64 (x90 1).Span.Lo, .int .u64 (x90 1).Span.Hi, .int .i64 (x90 1).Map, .int .i64 (x90 2).Kind, .int .u64 (x90 2).Span.Lo, .int .u64 (x90 2).Span.Hi, .int .i64 (x90 2).Map, .int .i64 (x90 3).Kind, .int .u64 (x90 3).Span.Lo, .int .u64 (x90 3).Span.Hi, .int .i64 (x90 3).Map, .int .i64 (x90 4).Kind, .int .u64 (x90 4).Span.Lo, .int .u64 (x90 4).Span.Hi, .int .i64 (x90 4).Map, .int .i64 (x90 5).Kind, .int .u64 (x90 5).Span.Lo, .int .u64 (x90 5).Span.Hi, .int .i64 (x90 5).Map, .int .i64 (x90 6).Kind, .int .u64 (x90 6).Span.Lo, .int .u64 (x90 6).Span.Hi, .int .i64 (x90 6).Map, .int .i64 (x90 7).Kind, .int .u64 (x90 7).Span.Lo, .int .u64 (x90 7).Span.Hi, .int .i64 (x90 7).Map] rfl ?_
  intro w108 hst
  refine OA.next trivial ?_
  refine OA.fin (by kernel_rfl) (by kernel_rfl) ?_
  have hst := hst.borIn hbo16
  have hst := hst.borIn hbo18
  have hst := hst.toIt 2 rfl (fun _ => rfl) (by decide)
  have hst := hst.toIt 3 rfl (fun _ => rfl) (by decide)
  have hst := hst.toIt 4 rfl (fun _ => rfl) (by decide)
  obtain ⟨S109, hst⟩ := hst.shutP5 (R_t148 wb Sb) rfl 0 7 8 2 3 4 [1, 5, 6] rfl rfl rfl rfl rfl rfl rfl p0 rfl rfl
  obtain rfl := Option.some.inj ho81
  exact QW.meet (fun a ha => ⟨S109, b105, b103, ha.agrees (by kernel_rfl), hst.keep [3, 0, 2, 1] rfl⟩)
 rintro a w1 ⟨S77, b78, b79, ha, hst⟩
 refine CW.go ?_ ha
 refine CW.seq (CW.region ?_)
 refine OW.pure 2 [(31, .agg [.int .i64 0, .int .u64 0, .int .u64 0, .int .i64 0].toArray), (32, .agg [.int .i64 0, .int .u64 0, .int .u64 0, .int .i64 0].toArray)] (by kernel_rfl) ?_
 refine OW.alloc hst rfl rfl rfl [.int .i64 0, .int .u64 0, .int .u64 0, .int .i64 0] (by kernel_rfl) ?_
 intro b116 w117 hst
 refine OW.alloc hst rfl rfl rfl [.int .i64 0, .int .u64 0, .int .u64 0, .int .i64 0] (by kernel_rfl) ?_
 intro b118 w119 hst
 refine OW.stB hst 4 rfl rfl rfl rfl rfl (by kernel_rfl) rfl rfl [.int .i64 0, .int .u64 0, .int .u64 0, .int .i64 0] rfl ?_
 intro w120 hst
 refine OW.stB hst 5 rfl rfl rfl rfl rfl (by kernel_rfl) rfl rfl [.int .i64 0, .int .u64 0, .int .u64 0, .int .i64 0] rfl ?_
 intro w121 hst
 refine OW.nil rfl (QW.next (CW.seq (CW.seq (CW.region ?_))))
 refine OW.ldN (cs := [.int .i64 o80.1.Op, .int .i64 o80.1.D, .int .i64 o80.1.A, .int .i64 o80.1.B, .int .i64 o80.1.Imm]) rfl rfl rfl rfl (by kernel_rfl) (by kernel_rfl) (hst.blkN 2 rfl 0 5) ?_
 obtain ⟨r126, hr127, hF⟩ := bind_some' hF
 refine OW.fn rfl rfl rfl rfl (by kernel_rfl) (ops_Source_ok _ o80.1 r126 hr127 (hst.part [] rfl) (hT0.give hst [])) ?_
 rintro e w128 ⟨rfl, hst129⟩
 refine ⟨_, rfl, ?_⟩
 have hst := hst.join (idx := []) (rest := [0, 1, 2, 3, 4, 5]) rfl hst129
 refine OW.nil rfl (QW.next ?_)
 obtain ⟨o141, ho142, hF⟩ := bind_some' hF
 refine CW.cutK (fun a w1 => Rep 194 [(0, .pointer (some ⟨b1, 0, none⟩)), (1, .int .i64 p1), (4, .pointer (some ⟨b4, 0, none⟩)), (6, .pointer (some ⟨b78, 0, none⟩)), (7, .pointer (some ⟨b79, 0, none⟩)), (8, .pointer (some ⟨b116, 0, none⟩)), (9, .pointer (some ⟨b118, 0, none⟩))] a ∧ St w (fp [itI (R_t116 wb Sb) [.pointer (some ⟨b1, 0, none⟩)] S0 p0]) w1 [itI (R_t116 wb Sb) [.pointer (some ⟨b1, 0, none⟩)] S77 p0, blkI b4 158 [.int .i64 0, .int .u64 0, .int .u64 0, .int .i64 0, .int .i64 0, .int .u64 0, .int .u64 0, .int .i64 0, .int .i64 0, .int .u64 0, .int .u64 0, .int .i64 0, .int .i64 0, .int .u64 0, .int .u64 0, .int .i64 0, .int .i64 0, .int .u64 0, .int .u64 0, .int .i64 0, .int .i64 0, .int .u64 0, .int .u64 0, .int .i64 0, .int .i64 0, .int .u64 0, .int .u64 0, .int .i64 0, .int .i64 0, .int .u64 0, .int .u64 0, .int .i64 0], blkI b78 43 [.int .i64 o80.1.Op, .int .i64 o80.1.D, .int .i64 o80.1.A, .int .i64 o80.1.B, .int .i64 o80.1.Imm], blkI b79 158 [.int .i64 (o80.2 0).Kind, .int .u64 (o80.2 0).Span.Lo, .int .u64 (o80.2 0).Span.Hi, .int .i64 (o80.2 0).Map, .int .i64 (o80.2 1).Kind, .int .u64 (o80.2 1).Span.Lo, .int .u64 (o80.2 1).Span.Hi, .int .i64 (o80.2 1).Map, .int .i64 (o80.2 2).Kind, .int .u64 (o80.2 2).Span.Lo, .int .u64 (o80.2 2).Span.Hi, .int .i64 (o80.2 2).Map, .int .i64 (o80.2 3).Kind, .int .u64 (o80.2 3).Span.Lo, .int .u64 (o80.2 3).Span.Hi, .int .i64 (o80.2 3).Map, .int .i64 (o80.2 4).Kind, .int .u64 (o80.2 4).Span.Lo, .int .u64 (o80.2 4).Span.Hi, .int .i64 (o80.2 4).Map, .int .i64 (o80.2 5).Kind, .int .u64 (o80.2 5).Span.Lo, .int .u64 (o80.2 5).Span.Hi, .int .i64 (o80.2 5).Map, .int .i64 (o80.2 6).Kind, .int .u64 (o80.2 6).Span.Lo, .int .u64 (o80.2 6).Span.Hi, .int .i64 (o80.2 6).Map, .int .i64 (o80.2 7).Kind, .int .u64 (o80.2 7).Span.Lo, .int .u64 (o80.2 7).Span.Hi, .int .i64 (o80.2 7).Map], blkI b116 156 [.int .i64 0, .int .u64 0, .int .u64 0, .int .i64 0], blkI b118 156 [.int .i64 o141.Kind, .int .u64 o141.Span.Lo, .int .u64 o141.Span.Hi, .int .i64 o141.Map]]) ?_ ?_
 ·rcases Bool.eq_false_or_eq_true (r126) with hc143 | hc143
  ·have ho142 := ite_t ho142 hc143
   refine CW.cond_t rfl hc143 (CW.region ?_)
   refine OW.ldN (cs := [.int .i64 o80.1.Op, .int .i64 o80.1.D, .int .i64 o80.1.A, .int .i64 o80.1.B, .int .i64 o80.1.Imm]) rfl rfl rfl rfl (by kernel_rfl) (by kernel_rfl) (hst.blkN 2 rfl 0 5) ?_
   refine OW.ldN (cs := [.int .i64 (o80.2 0).Kind, .int .u64 (o80.2 0).Span.Lo, .int .u64 (o80.2 0).Span.Hi, .int .i64 (o80.2 0).Map, .int .i64 (o80.2 1).Kind, .int .u64 (o80.2 1).Span.Lo, .int .u64 (o80.2 1).Span.Hi, .int .i64 (o80.2 1).Map, .int .i64 (o80.2 2).Kind, .int .u64 (o80.2 2).Span.Lo, .int .u64 (o80.2 2).Span.Hi, .int .i64 (o80.2 2).Map, .int .i64 (o80.2 3).Kind, .int .u64 (o80.2 3).Span.Lo, .int .u64 (o80.2 3).Span.Hi, .int .i64 (o80.2 3).Map, .int .i64 (o80.2 4).Kind, .int .u64 (o80.2 4).Span.Lo, .int .u64 (o80.2 4).Span.Hi, .int .i64 (o80.2 4).Map, .int .i64 (o80.2 5).Kind, .int .u64 (o80.2 5).Span.Lo, .int .u64 (o80.2 5).Span.Hi, .int .i64 (o80.2 5).Map, .int .i64 (o80.2 6).Kind, .int .u64 (o80.2 6).Span.Lo, .int .u64 (o80.2 6).Span.Hi, .int .i64 (o80.2 6).Map, .int .i64 (o80.2 7).Kind, .int .u64 (o80.2 7).Span.Lo, .int .u64 (o80.2 7).Span.Hi, .int .i64 (o80.2 7).Map]) rfl rfl rfl rfl (by kernel_rfl) (by kernel_rfl) (hst.blkN 3 rfl 0 32) ?_
   obtain ⟨r149, hr150, ho142⟩ := bind_some' ho142
   refine OW.fn rfl rfl rfl rfl (by kernel_rfl) (judge_source_ok _ o80.1 o80.2 r149 hr150 (hst.part [] rfl)) ?_
   rintro e w151 ⟨rfl, hst152⟩
   refine ⟨_, rfl, ?_⟩
   have hst := hst.join (idx := []) (rest := [0, 1, 2, 3, 4, 5]) rfl hst152
   refine OW.stB hst 5 rfl rfl rfl rfl rfl (by kernel_rfl) rfl rfl [.int .i64 r149.Kind, .int .u64 r149.Span.Lo, .int .u64 r149.Span.Hi, .int .i64 r149.Map] rfl ?_
   intro w153 hst
   refine OW.nil rfl ?_
   obtain rfl := Option.some.inj ho142
   exact QW.meet (fun a ha => ⟨ha.agrees (by kernel_rfl), hst.keep [0, 1, 2, 3, 4, 5] rfl⟩)
  have ho142 := ite_f ho142 hc143
  refine CW.cond_f rfl hc143 (CW.skip ?_)
  obtain rfl := Option.some.inj ho142
  exact QW.meet (fun a ha => ⟨ha.agrees (by kernel_rfl), hst.keep [0, 1, 2, 3, 4, 5] rfl⟩)
 rintro a w1 ⟨ha, hst⟩
 refine CW.go ?_ ha
 refine CW.seq (CW.region ?_)
 refine OW.pure 1 [(38, .pointer (some ⟨b78, 2, none⟩))] (by kernel_rfl) ?_
 refine OW.ld rfl rfl rfl rfl (by kernel_rfl) (hst.blk 2 rfl rfl) ?_
 obtain ⟨i157, hi158, hF⟩ := bind_some' hF
 refine OW.op (v := .pointer (some ⟨b79, 0 + Int.toNat o80.1.A * 4, none⟩)) rfl rfl rfl rfl (fun a ha => aidx_run (n := 8) 156 4 rfl rfl rfl (ain_some hi158).1 (ain_some hi158).2.1 (by kernel_rfl) (by kernel_rfl) a _ ha) ?_
 refine OW.ldN (cs := enc_api_Type (o80.2 i157)) rfl rfl rfl rfl (by kernel_rfl) (by kernel_rfl) (hst.arrB 3 rfl enc_api_Type (fun _ => rfl) 8 o80.2 0 rfl rfl hi158) ?_
 refine OW.stB hst 4 rfl rfl rfl rfl rfl (by kernel_rfl) rfl rfl [.int .i64 (o80.2 i157).Kind, .int .u64 (o80.2 i157).Span.Lo, .int .u64 (o80.2 i157).Span.Hi, .int .i64 (o80.2 i157).Map] rfl ?_
 intro w159 hst
 refine OW.nil rfl (QW.next (CW.seq (CW.seq (CW.region ?_))))
 refine OW.pure 1 [(42, .pointer (some ⟨b78, 0, none⟩))] (by kernel_rfl) ?_
 refine OW.ld rfl rfl rfl rfl (by kernel_rfl) (hst.blk 2 rfl rfl) (OW.nil rfl (QW.next (CW.block (CW.seq (CW.region ?_)))))
 refine OW.pure 2 [(64, .bool (o80.1.Op == 0))] (by kernel_rfl) (OW.nil rfl (QW.next ?_))
 rcases Bool.eq_false_or_eq_true ((o80.1.Op == 0)) with hc160 | hc160
 ·have hF := ite_t hF hc160
  refine CW.cond_t rfl hc160 (CW.seq (CW.seq (CW.region ?_)))
  refine OW.pure 1 [(66, .pointer (some ⟨b118, 0, none⟩))] (by kernel_rfl) ?_
  refine OW.ld rfl rfl rfl rfl (by kernel_rfl) (hst.blk 5 rfl rfl) ?_
  refine OW.pure 1 [(68, .bool (o141.Kind == 0))] (by kernel_rfl) (OW.nil rfl (QW.next ?_))
  rcases Bool.eq_false_or_eq_true ((o141.Kind == 0)) with hc161 | hc161
  ·have hF := ite_t hF hc161
   refine CW.cond_t rfl hc161 (CW.seq (CW.region ?_))
   refine OW.ldN (cs := [.int .i64 (o80.2 0).Kind, .int .u64 (o80.2 0).Span.Lo, .int .u64 (o80.2 0).Span.Hi, .int .i64 (o80.2 0).Map, .int .i64 (o80.2 1).Kind, .int .u64 (o80.2 1).Span.Lo, .int .u64 (o80.2 1).Span.Hi, .int .i64 (o80.2 1).Map, .int .i64 (o80.2 2).Kind, .int .u64 (o80.2 2).Span.Lo, .int .u64 (o80.2 2).Span.Hi, .int .i64 (o80.2 2).Map, .int .i64 (o80.2 3).Kind, .int .u64 (o80.2 3).Span.Lo, .int .u64 (o80.2 3).Span.Hi, .int .i64 (o80.2 3).Map, .int .i64 (o80.2 4).Kind, .int .u64 (o80.2 4).Span.Lo, .int .u64 (o80.2 4).Span.Hi, .int .i64 (o80.2 4).Map, .int .i64 (o80.2 5).Kind, .int .u64 (o80.2 5).Span.Lo, .int .u64 (o80.2 5).Span.Hi, .int .i64 (o80.2 5).Map, .int .i64 (o80.2 6).Kind, .int .u64 (o80.2 6).Span.Lo, .int .u64 (o80.2 6).Span.Hi, .int .i64 (o80.2 6).Map, .int .i64 (o80.2 7).Kind, .int .u64 (o80.2 7).Span.Lo, .int .u64 (o80.2 7).Span.Hi, .int .i64 (o80.2 7).Map]) rfl rfl rfl rfl (by kernel_rfl) (by kernel_rfl) (hst.blkN 3 rfl 0 32) ?_
   refine OW.stB hst 1 rfl rfl rfl rfl rfl (by kernel_rfl) rfl rfl [.int .i64 (o80.2 0).Kind, .int .u64 (o80.2 0).Span.Lo, .int .u64 (o80.2 0).Span.Hi, .int .i64 (o80.2 0).Map, .int .i64 (o80.2 1).Kind, .int .u64 (o80.2 1).Span.Lo, .int .u64 (o80.2 1).Span.Hi, .int .i64 (o80.2 1).Map, .int .i64 (o80.2 2).Kind, .int .u64 (o80.2 2).Span.Lo, .int .u64 (o80.2 2).Span.Hi, .int .i64 (o80.2 2).Map, .int .i64 (o80.2 3).Kind, .int .u64 (o80.2 3).Span.Lo, .int .u64 (o80.2 3).Span.Hi, .int .i64 (o80.2 3).Map, .int .i64 (o80.2 4).Kind, .int .u64 (o80.2 4).Span.Lo, .int .u64 (o80.2 4).Span.Hi, .int .i64 (o80.2 4).Map, .int .i64 (o80.2 5).Kind, .int .u64 (o80.2 5).Span.Lo, .int .u64 (o80.2 5).Span.Hi, .int .i64 (o80.2 5).Map, .int .i64 (o80.2 6).Kind, .int .u64 (o80.2 6).Span.Lo, .int .u64 (o80.2 6).Span.Hi, .int .i64 (o80.2 6).Map, .int .i64 (o80.2 7).Kind, .int .u64 (o80.2 7).Span.Lo, .int .u64 (o80.2 7).Span.Hi, .int .i64 (o80.2 7).Map] rfl ?_
   intro w163 hst
   refine OW.pure 1 [(5, .int .i64 33)] (by kernel_rfl) (OW.nil rfl (QW.next (CW.ret (QW.then_ret (QW.block_ret (QW.then_ret ?_))))))
   obtain rfl := Option.some.inj hF
   refine QW.ret_ct rfl rfl (run_loadN (cs := [.int .i64 (o80.2 0).Kind, .int .u64 (o80.2 0).Span.Lo, .int .u64 (o80.2 0).Span.Hi, .int .i64 (o80.2 0).Map, .int .i64 (o80.2 1).Kind, .int .u64 (o80.2 1).Span.Lo, .int .u64 (o80.2 1).Span.Hi, .int .i64 (o80.2 1).Map, .int .i64 (o80.2 2).Kind, .int .u64 (o80.2 2).Span.Lo, .int .u64 (o80.2 2).Span.Hi, .int .i64 (o80.2 2).Map, .int .i64 (o80.2 3).Kind, .int .u64 (o80.2 3).Span.Lo, .int .u64 (o80.2 3).Span.Hi, .int .i64 (o80.2 3).Map, .int .i64 (o80.2 4).Kind, .int .u64 (o80.2 4).Span.Lo, .int .u64 (o80.2 4).Span.Hi, .int .i64 (o80.2 4).Map, .int .i64 (o80.2 5).Kind, .int .u64 (o80.2 5).Span.Lo, .int .u64 (o80.2 5).Span.Hi, .int .i64 (o80.2 5).Map, .int .i64 (o80.2 6).Kind, .int .u64 (o80.2 6).Span.Lo, .int .u64 (o80.2 6).Span.Hi, .int .i64 (o80.2 6).Map, .int .i64 (o80.2 7).Kind, .int .u64 (o80.2 7).Span.Lo, .int .u64 (o80.2 7).Span.Hi, .int .i64 (o80.2 7).Map]) (by kernel_rfl) (by kernel_rfl) (hst.blkN 1 rfl 0 32)) rfl ?_
   exact ⟨S77, rfl, hst.keep [0] rfl⟩
  have hF := ite_f hF hc161
  refine CW.cond_f rfl hc161 (CW.skip (QW.next (CW.region ?_)))
  refine OW.pure 1 [(70, .pointer (some ⟨b78, 1, none⟩))] (by kernel_rfl) ?_
  refine OW.ld rfl rfl rfl rfl (by kernel_rfl) (hst.blk 2 rfl rfl) ?_
  refine OW.ldN (cs := [.int .i64 o141.Kind, .int .u64 o141.Span.Lo, .int .u64 o141.Span.Hi, .int .i64 o141.Map]) rfl rfl rfl rfl (by kernel_rfl) (by kernel_rfl) (hst.blkN 5 rfl 0 4) ?_
  obtain ⟨i167, hi168, hF⟩ := bind_some' hF
  refine OW.op (v := .pointer (some ⟨b79, 0 + Int.toNat o80.1.D * 4, none⟩)) rfl rfl rfl rfl (fun a ha => aidx_run (n := 8) 156 4 rfl rfl rfl (ain_some hi168).1 (ain_some hi168).2.1 (by kernel_rfl) (by kernel_rfl) a _ ha) ?_
  refine OW.stA hst 3 rfl rfl rfl rfl rfl (by kernel_rfl) rfl enc_api_Type (fun _ => rfl) 8 o80.2 0 rfl rfl hi168 0 rfl rfl o141 rfl [.int .i64 ((aset o80.2 i167 o141) 0).Kind, .int .u64 ((aset o80.2 i167 o141) 0).Span.Lo, .int .u64 ((aset o80.2 i167 o141) 0).Span.Hi, .int .i64 ((aset o80.2 i167 o141) 0).Map, .int .i64 ((aset o80.2 i167 o141) 1).Kind, .int .u64 ((aset o80.2 i167 o141) 1).Span.Lo, .int .u64 ((aset o80.2 i167 o141) 1).Span.Hi, .int .i64 ((aset o80.2 i167 o141) 1).Map, .int .i64 ((aset o80.2 i167 o141) 2).Kind, .int .u64 ((aset o80.2 i167 o141) 2).Span.Lo, .int .u64 ((aset o80.2 i167 o141) 2).Span.Hi, .int .i64 ((aset o80.2 i167 o141) 2).Map, .int .i64 ((aset o80.2 i167 o141) 3).Kind, .int .u64 ((aset o80.2 i167 o141) 3).Span.Lo, .int .u64 ((aset o80.2 i167 o141) 3).Span.Hi, .int .i64 ((aset o80.2 i167 o141) 3).Map, .int .i64 ((aset o80.2 i167 o141) 4).Kind, .int .u64 ((aset o80.2 i167 o141) 4).Span.Lo, .int .u64 ((aset o80.2 i167 o141) 4).Span.Hi, .int .i64 ((aset o80.2 i167 o141) 4).Map, .int .i64 ((aset o80.2 i167 o141) 5).Kind, .int .u64 ((aset o80.2 i167 o141) 5).Span.Lo, .int .u64 ((aset o80.2 i167 o141) 5).Span.Hi, .int .i64 ((aset o80.2 i167 o141) 5).Map, .int .i64 ((aset o80.2 i167 o141) 6).Kind, .int .u64 ((aset o80.2 i167 o141) 6).Span.Lo, .int .u64 ((aset o80.2 i167 o141) 6).Span.Hi, .int .i64 ((aset o80.2 i167 o141) 6).Map, .int .i64 ((aset o80.2 i167 o141) 7).Kind, .int .u64 ((aset o80.2 i167 o141) 7).Span.Lo, .int .u64 ((aset o80.2 i167 o141) 7).Span.Hi, .int .i64 ((aset o80.2 i167 o141) 7).Map] rfl ?_
  intro w169 hst
  refine OW.nil rfl (QW.block_normal (QW.next (CW.seq (CW.region ?_))))
  refine OW.ldN (cs := [.int .i64 ((aset o80.2 i167 o141) 0).Kind, .int .u64 ((aset o80.2 i167 o141) 0).Span.Lo, .int .u64 ((aset o80.2 i167 o141) 0).Span.Hi, .int .i64 ((aset o80.2 i167 o141) 0).Map, .int .i64 ((aset o80.2 i167 o141) 1).Kind, .int .u64 ((aset o80.2 i167 o141) 1).Span.Lo, .int .u64 ((aset o80.2 i167 o141) 1).Span.Hi, .int .i64 ((aset o80.2 i167 o141) 1).Map, .int .i64 ((aset o80.2 i167 o141) 2).Kind, .int .u64 ((aset o80.2 i167 o141) 2).Span.Lo, .int .u64 ((aset o80.2 i167 o141) 2).Span.Hi, .int .i64 ((aset o80.2 i167 o141) 2).Map, .int .i64 ((aset o80.2 i167 o141) 3).Kind, .int .u64 ((aset o80.2 i167 o141) 3).Span.Lo, .int .u64 ((aset o80.2 i167 o141) 3).Span.Hi, .int .i64 ((aset o80.2 i167 o141) 3).Map, .int .i64 ((aset o80.2 i167 o141) 4).Kind, .int .u64 ((aset o80.2 i167 o141) 4).Span.Lo, .int .u64 ((aset o80.2 i167 o141) 4).Span.Hi, .int .i64 ((aset o80.2 i167 o141) 4).Map, .int .i64 ((aset o80.2 i167 o141) 5).Kind, .int .u64 ((aset o80.2 i167 o141) 5).Span.Lo, .int .u64 ((aset o80.2 i167 o141) 5).Span.Hi, .int .i64 ((aset o80.2 i167 o141) 5).Map, .int .i64 ((aset o80.2 i167 o141) 6).Kind, .int .u64 ((aset o80.2 i167 o141) 6).Span.Lo, .int .u64 ((aset o80.2 i167 o141) 6).Span.Hi, .int .i64 ((aset o80.2 i167 o141) 6).Map, .int .i64 ((aset o80.2 i167 o141) 7).Kind, .int .u64 ((aset o80.2 i167 o141) 7).Span.Lo, .int .u64 ((aset o80.2 i167 o141) 7).Span.Hi, .int .i64 ((aset o80.2 i167 o141) 7).Map]) rfl rfl rfl rfl (by kernel_rfl) (by kernel_rfl) (hst.blkN 3 rfl 0 32) ?_
  refine OW.stB hst 1 rfl rfl rfl rfl rfl (by kernel_rfl) rfl rfl [.int .i64 ((aset o80.2 i167 o141) 0).Kind, .int .u64 ((aset o80.2 i167 o141) 0).Span.Lo, .int .u64 ((aset o80.2 i167 o141) 0).Span.Hi, .int .i64 ((aset o80.2 i167 o141) 0).Map, .int .i64 ((aset o80.2 i167 o141) 1).Kind, .int .u64 ((aset o80.2 i167 o141) 1).Span.Lo, .int .u64 ((aset o80.2 i167 o141) 1).Span.Hi, .int .i64 ((aset o80.2 i167 o141) 1).Map, .int .i64 ((aset o80.2 i167 o141) 2).Kind, .int .u64 ((aset o80.2 i167 o141) 2).Span.Lo, .int .u64 ((aset o80.2 i167 o141) 2).Span.Hi, .int .i64 ((aset o80.2 i167 o141) 2).Map, .int .i64 ((aset o80.2 i167 o141) 3).Kind, .int .u64 ((aset o80.2 i167 o141) 3).Span.Lo, .int .u64 ((aset o80.2 i167 o141) 3).Span.Hi, .int .i64 ((aset o80.2 i167 o141) 3).Map, .int .i64 ((aset o80.2 i167 o141) 4).Kind, .int .u64 ((aset o80.2 i167 o141) 4).Span.Lo, .int .u64 ((aset o80.2 i167 o141) 4).Span.Hi, .int .i64 ((aset o80.2 i167 o141) 4).Map, .int .i64 ((aset o80.2 i167 o141) 5).Kind, .int .u64 ((aset o80.2 i167 o141) 5).Span.Lo, .int .u64 ((aset o80.2 i167 o141) 5).Span.Hi, .int .i64 ((aset o80.2 i167 o141) 5).Map, .int .i64 ((aset o80.2 i167 o141) 6).Kind, .int .u64 ((aset o80.2 i167 o141) 6).Span.Lo, .int .u64 ((aset o80.2 i167 o141) 6).Span.Hi, .int .i64 ((aset o80.2 i167 o141) 6).Map, .int .i64 ((aset o80.2 i167 o141) 7).Kind, .int .u64 ((aset o80.2 i167 o141) 7).Span.Lo, .int .u64 ((aset o80.2 i167 o141) 7).Span.Hi, .int .i64 ((aset o80.2 i167 o141) 7).Map] rfl ?_
  intro w171 hst
  refine OW.pure 1 [(5, .int .i64 0)] (by kernel_rfl) (OW.nil rfl (QW.next (CW.ret ?_)))
  obtain rfl := Option.some.inj hF
  refine QW.ret_ct rfl rfl (run_loadN (cs := [.int .i64 ((aset o80.2 i167 o141) 0).Kind, .int .u64 ((aset o80.2 i167 o141) 0).Span.Lo, .int .u64 ((aset o80.2 i167 o141) 0).Span.Hi, .int .i64 ((aset o80.2 i167 o141) 0).Map, .int .i64 ((aset o80.2 i167 o141) 1).Kind, .int .u64 ((aset o80.2 i167 o141) 1).Span.Lo, .int .u64 ((aset o80.2 i167 o141) 1).Span.Hi, .int .i64 ((aset o80.2 i167 o141) 1).Map, .int .i64 ((aset o80.2 i167 o141) 2).Kind, .int .u64 ((aset o80.2 i167 o141) 2).Span.Lo, .int .u64 ((aset o80.2 i167 o141) 2).Span.Hi, .int .i64 ((aset o80.2 i167 o141) 2).Map, .int .i64 ((aset o80.2 i167 o141) 3).Kind, .int .u64 ((aset o80.2 i167 o141) 3).Span.Lo, .int .u64 ((aset o80.2 i167 o141) 3).Span.Hi, .int .i64 ((aset o80.2 i167 o141) 3).Map, .int .i64 ((aset o80.2 i167 o141) 4).Kind, .int .u64 ((aset o80.2 i167 o141) 4).Span.Lo, .int .u64 ((aset o80.2 i167 o141) 4).Span.Hi, .int .i64 ((aset o80.2 i167 o141) 4).Map, .int .i64 ((aset o80.2 i167 o141) 5).Kind, .int .u64 ((aset o80.2 i167 o141) 5).Span.Lo, .int .u64 ((aset o80.2 i167 o141) 5).Span.Hi, .int .i64 ((aset o80.2 i167 o141) 5).Map, .int .i64 ((aset o80.2 i167 o141) 6).Kind, .int .u64 ((aset o80.2 i167 o141) 6).Span.Lo, .int .u64 ((aset o80.2 i167 o141) 6).Span.Hi, .int .i64 ((aset o80.2 i167 o141) 6).Map, .int .i64 ((aset o80.2 i167 o141) 7).Kind, .int .u64 ((aset o80.2 i167 o141) 7).Span.Lo, .int .u64 ((aset o80.2 i167 o141) 7).Span.Hi, .int .i64 ((aset o80.2 i167 o141) 7).Map]) (by kernel_rfl) (by kernel_rfl) (hst.blkN 1 rfl 0 32)) rfl ?_
  exact ⟨S77, rfl, hst.keep [0] rfl⟩
 have hF := ite_f hF hc160
 refine CW.cond_f rfl hc160 (CW.seq (CW.region ?_))
 refine OW.pure 2 [(74, .bool (o80.1.Op == 11))] (by kernel_rfl) (OW.nil rfl (QW.next ?_))
 rcases Bool.eq_false_or_eq_true ((o80.1.Op == 11)) with hc172 | hc172
 ·have hF := ite_t hF hc172
  refine CW.cond_t rfl hc172 (CW.seq ?_)
  refine CW.plan (by kernel_rfl) ?_
  intro w186 hch187
  have hst := hst.same hch187
  refine OA.pure [0] [(76, .pointer (some ⟨b78, 1, none⟩))] (by kernel_rfl) ?_
  refine OA.ld (i := 1) rfl (by kernel_rfl) rfl rfl rfl (by kernel_rfl) (hst.blk 2 rfl rfl) ?_
  refine OA.act (i := 2) [1] (by kernel_rfl) rfl rfl (by kernel_rfl) (by kernel_rfl) ?_
  obtain ⟨r188, hr189, hF⟩ := bind_some' hF
  refine OW.fn rfl rfl rfl rfl (by kernel_rfl) (span_Full_ok _ r188 hr189 (hst.part [] rfl)) ?_
  rintro e w190 ⟨rfl, hst191⟩
  refine ⟨_, rfl, ?_⟩
  have hst := hst.join (idx := []) (rest := [0, 1, 2, 3, 4, 5]) rfl hst191
  refine OA.next ⟨(hst.blk 2 rfl rfl), trivial⟩ ?_
  refine OA.act (i := 3) [1] (by kernel_rfl) rfl rfl (by kernel_rfl) (by kernel_rfl) ?_
  obtain ⟨r192, hr193, hF⟩ := bind_some' hF
  refine OW.fn rfl rfl rfl rfl (by kernel_rfl) (judge_number_ok _ r188 r192 hr193 (hst.part [] rfl)) ?_
  rintro e w194 ⟨rfl, hst195⟩
  refine ⟨_, rfl, ?_⟩
  have hst := hst.join (idx := []) (rest := [0, 1, 2, 3, 4, 5]) rfl hst195
  refine OA.next ⟨(hst.blk 2 rfl rfl), trivial⟩ ?_
  obtain ⟨i196, hi197, hF⟩ := bind_some' hF
  refine OA.val (i := 4) (v := .pointer (some ⟨b79, 0 + Int.toNat o80.1.D * 4, none⟩)) rfl (by kernel_rfl) rfl rfl rfl rfl (fun a w ha => aidx_run (n := 8) 156 4 rfl rfl rfl (ain_some hi197).1 (ain_some hi197).2.1 (by kernel_rfl) (by kernel_rfl) a w ha) ?_
  refine OA.act (i := 5) [] (by kernel_rfl) rfl rfl (by kernel_rfl) (by kernel_rfl) ?_
  refine OW.stA hst 3 rfl rfl rfl rfl rfl (by kernel_rfl) rfl enc_api_Type (fun _ => rfl) 8 o80.2 0 rfl rfl hi197 0 rfl rfl r192 rfl [.int .i64 ((aset o80.2 i196 r192) 0).Kind, .int .u64 ((aset o80.2 i196 r192) 0).Span.Lo, .int .u64 ((aset o80.2 i196 r192) 0).Span.Hi, .int .i64 ((aset o80.2 i196 r192) 0).Map, .int .i64 ((aset o80.2 i196 r192) 1).Kind, .int .u64 ((aset o80.2 i196 r192) 1).Span.Lo, .int .u64 ((aset o80.2 i196 r192) 1).Span.Hi, .int .i64 ((aset o80.2 i196 r192) 1).Map, .int .i64 ((aset o80.2 i196 r192) 2).Kind, .int .u64 ((aset o80.2 i196 r192) 2).Span.Lo, .int .u64 ((aset o80.2 i196 r192) 2).Span.Hi, .int .i64 ((aset o80.2 i196 r192) 2).Map, .int .i64 ((aset o80.2 i196 r192) 3).Kind, .int .u64 ((aset o80.2 i196 r192) 3).Span.Lo, .int .u64 ((aset o80.2 i196 r192) 3).Span.Hi, .int .i64 ((aset o80.2 i196 r192) 3).Map, .int .i64 ((aset o80.2 i196 r192) 4).Kind, .int .u64 ((aset o80.2 i196 r192) 4).Span.Lo, .int .u64 ((aset o80.2 i196 r192) 4).Span.Hi, .int .i64 ((aset o80.2 i196 r192) 4).Map, .int .i64 ((aset o80.2 i196 r192) 5).Kind, .int .u64 ((aset o80.2 i196 r192) 5).Span.Lo, .int .u64 ((aset o80.2 i196 r192) 5).Span.Hi, .int .i64 ((aset o80.2 i196 r192) 5).Map, .int .i64 ((aset o80.2 i196 r192) 6).Kind, .int .u64 ((aset o80.2 i196 r192) 6).Span.Lo, .int .u64 ((aset o80.2 i196 r192) 6).Span.Hi, .int .i64 ((aset o80.2 i196 r192) 6).Map, .int .i64 ((aset o80.2 i196 r192) 7).Kind, .int .u64 ((aset o80.2 i196 r192) 7).Span.Lo, .int .u64 ((aset o80.2 i196 r192) 7).Span.Hi, .int .i64 ((aset o80.2 i196 r192) 7).Map] rfl ?_
  intro w198 hst
  refine OA.next trivial ?_
  refine OA.fin (by kernel_rfl) (by kernel_rfl) (QW.next (CW.seq ?_))
  refine CW.plan (by kernel_rfl) ?_
  intro w218 hch219
  have hst := hst.same hch219
  refine OA.ldN (i := 0) (cs := [.int .i64 ((aset o80.2 i196 r192) 0).Kind, .int .u64 ((aset o80.2 i196 r192) 0).Span.Lo, .int .u64 ((aset o80.2 i196 r192) 0).Span.Hi, .int .i64 ((aset o80.2 i196 r192) 0).Map, .int .i64 ((aset o80.2 i196 r192) 1).Kind, .int .u64 ((aset o80.2 i196 r192) 1).Span.Lo, .int .u64 ((aset o80.2 i196 r192) 1).Span.Hi, .int .i64 ((aset o80.2 i196 r192) 1).Map, .int .i64 ((aset o80.2 i196 r192) 2).Kind, .int .u64 ((aset o80.2 i196 r192) 2).Span.Lo, .int .u64 ((aset o80.2 i196 r192) 2).Span.Hi, .int .i64 ((aset o80.2 i196 r192) 2).Map, .int .i64 ((aset o80.2 i196 r192) 3).Kind, .int .u64 ((aset o80.2 i196 r192) 3).Span.Lo, .int .u64 ((aset o80.2 i196 r192) 3).Span.Hi, .int .i64 ((aset o80.2 i196 r192) 3).Map, .int .i64 ((aset o80.2 i196 r192) 4).Kind, .int .u64 ((aset o80.2 i196 r192) 4).Span.Lo, .int .u64 ((aset o80.2 i196 r192) 4).Span.Hi, .int .i64 ((aset o80.2 i196 r192) 4).Map, .int .i64 ((aset o80.2 i196 r192) 5).Kind, .int .u64 ((aset o80.2 i196 r192) 5).Span.Lo, .int .u64 ((aset o80.2 i196 r192) 5).Span.Hi, .int .i64 ((aset o80.2 i196 r192) 5).Map, .int .i64 ((aset o80.2 i196 r192) 6).Kind, .int .u64 ((aset o80.2 i196 r192) 6).Span.Lo, .int .u64 ((aset o80.2 i196 r192) 6).Span.Hi, .int .i64 ((aset o80.2 i196 r192) 6).Map, .int .i64 ((aset o80.2 i196 r192) 7).Kind, .int .u64 ((aset o80.2 i196 r192) 7).Span.Lo, .int .u64 ((aset o80.2 i196 r192) 7).Span.Hi, .int .i64 ((aset o80.2 i196 r192) 7).Map]) rfl (by kernel_rfl) rfl rfl rfl (by kernel_rfl) (by kernel_rfl) (hst.blkN 3 rfl 0 32) ?_
  refine OA.ldN (i := 1) (cs := [.int .i64 o141.Kind, .int .u64 o141.Span.Lo, .int .u64 o141.Span.Hi, .int .i64 o141.Map]) rfl (by kernel_rfl) rfl rfl rfl (by kernel_rfl) (by kernel_rfl) (hst.blkN 5 rfl 0 4) ?_
  refine OA.ldN (i := 4) (cs := [.int .i64 o141.Kind, .int .u64 o141.Span.Lo, .int .u64 o141.Span.Hi, .int .i64 o141.Map]) rfl (by kernel_rfl) rfl rfl rfl (by kernel_rfl) (by kernel_rfl) (hst.blkN 5 rfl 0 4) ?_
  refine OA.act (i := 2) [4, 0] (by kernel_rfl) rfl rfl (by kernel_rfl) (by kernel_rfl) ?_
  refine OW.row (α := api_Type) (e := 156) (enc := enc_api_Type) (sz := 4) hst rfl rfl rfl [o141] rfl (fun _ => rfl) rfl rfl (fun _ => by kernel_rfl) ?_
  intro g220 w221 hst
  refine OA.next ⟨(hst.blkN 5 rfl 0 4), (hst.blkN 3 rfl 0 32), trivial⟩ ?_
  refine OA.act (i := 3) [4, 0] (by kernel_rfl) rfl rfl (by kernel_rfl) (by kernel_rfl) ?_
  obtain ⟨r222, hr223, hF⟩ := bind_some' hF
  refine OW.fn rfl rfl rfl rfl (by kernel_rfl) (judge_nums_ok _ (.slice (some ⟨g220, 0, none⟩) 1 1) ([o141]) r222 hr223 (hst.part [] rfl) (hst.rd 6 rfl (fun _ => rfl) [] rfl (hst.len 6 rfl).1)) ?_
  rintro e w224 ⟨rfl, hst225⟩
  refine ⟨_, rfl, ?_⟩
  have hst := hst.join (idx := []) (rest := [0, 1, 2, 3, 4, 5, 6]) rfl hst225
  refine OA.next ⟨(hst.blkN 5 rfl 0 4), (hst.blkN 3 rfl 0 32), trivial⟩ ?_
  refine OA.act (i := 5) [0] (by kernel_rfl) rfl rfl (by kernel_rfl) (by kernel_rfl) ?_
  obtain ⟨r226, hr227, hF⟩ := bind_some' hF
  refine OW.fn rfl rfl rfl rfl (by kernel_rfl) (judge_word_ok _ o141 r226 hr227 (hst.part [] rfl)) ?_
  rintro e w228 ⟨rfl, hst229⟩
  refine ⟨_, rfl, ?_⟩
  have hst := hst.join (idx := []) (rest := [0, 1, 2, 3, 4, 5, 6]) rfl hst229
  refine OA.next ⟨(hst.blkN 3 rfl 0 32), trivial⟩ ?_
  refine OA.act (i := 6) [0] (by kernel_rfl) rfl rfl (by kernel_rfl) (by kernel_rfl) ?_
  refine OW.row (α := Int) (e := 35) (enc := encInt .i64) (sz := 1) hst rfl rfl rfl [r222, r226] rfl (fun _ => rfl) rfl rfl (fun _ => by kernel_rfl) ?_
  intro g230 w231 hst
  refine OA.next ⟨(hst.blkN 3 rfl 0 32), trivial⟩ ?_
  refine OA.act (i := 7) [0] (by kernel_rfl) rfl rfl (by kernel_rfl) (by kernel_rfl) ?_
  obtain ⟨r232, hr233, hF⟩ := bind_some' hF
  refine OW.fn rfl rfl rfl rfl (by kernel_rfl) (judge_first_ok _ (.slice (some ⟨g230, 0, none⟩) 2 2) ([r222, r226]) r232 hr233 (hst.part [] rfl) (hst.rd 7 rfl (fun _ => rfl) [] rfl (hst.len 7 rfl).1)) ?_
  rintro e w234 ⟨rfl, hst235⟩
  refine ⟨_, rfl, ?_⟩
  have hst := hst.join (idx := []) (rest := [0, 1, 2, 3, 4, 5, 6, 7]) rfl hst235
  refine OA.next ⟨(hst.blkN 3 rfl 0 32), trivial⟩ ?_
  refine OA.act (i := 8) [] (by kernel_rfl) rfl rfl (by kernel_rfl) (by kernel_rfl) ?_
  refine OW.stB hst 1 rfl rfl rfl rfl rfl (by kernel_rfl) rfl rfl [.int .i64 ((aset o80.2 i196 r192) 0).Kind, .int .u64 ((aset o80.2 i196 r192) 0).Span.Lo, .int .u64 ((aset o80.2 i196 r192) 0).Span.Hi, .int .i64 ((aset o80.2 i196 r192) 0).Map, .int .i64 ((aset o80.2 i196 r192) 1).Kind, .int .u64 ((aset o80.2 i196 r192) 1).Span.Lo, .int .u64 ((aset o80.2 i196 r192) 1).Span.Hi, .int .i64 ((aset o80.2 i196 r192) 1).Map, .int .i64 ((aset o80.2 i196 r192) 2).Kind, .int .u64 ((aset o80.2 i196 r192) 2).Span.Lo, .int .u64 ((aset o80.2 i196 r192) 2).Span.Hi, .int .i64 ((aset o80.2 i196 r192) 2).Map, .int .i64 ((aset o80.2 i196 r192) 3).Kind, .int .u64 ((aset o80.2 i196 r192) 3).Span.Lo, .int .u64 ((aset o80.2 i196 r192) 3).Span.Hi, .int .i64 ((aset o80.2 i196 r192) 3).Map, .int .i64 ((aset o80.2 i196 r192) 4).Kind, .int .u64 ((aset o80.2 i196 r192) 4).Span.Lo, .int .u64 ((aset o80.2 i196 r192) 4).Span.Hi, .int .i64 ((aset o80.2 i196 r192) 4).Map, .int .i64 ((aset o80.2 i196 r192) 5).Kind, .int .u64 ((aset o80.2 i196 r192) 5).Span.Lo, .int .u64 ((aset o80.2 i196 r192) 5).Span.Hi, .int .i64 ((aset o80.2 i196 r192) 5).Map, .int .i64 ((aset o80.2 i196 r192) 6).Kind, .int .u64 ((aset o80.2 i196 r192) 6).Span.Lo, .int .u64 ((aset o80.2 i196 r192) 6).Span.Hi, .int .i64 ((aset o80.2 i196 r192) 6).Map, .int .i64 ((aset o80.2 i196 r192) 7).Kind, .int .u64 ((aset o80.2 i196 r192) 7).Span.Lo, .int .u64 ((aset o80.2 i196 r192) 7).Span.Hi, .int .i64 ((aset o80.2 i196 r192) 7).Map] rfl ?_
  intro w236 hst
  refine OA.next trivial ?_
  refine OA.act (i := 9) [] (by kernel_rfl) rfl rfl (by kernel_rfl) (by kernel_rfl) ?_
  refine OW.pure 1 [(5, .int .i64 r232)] (by kernel_rfl) (OA.next trivial ?_)
  refine OA.fin (by kernel_rfl) (by kernel_rfl) (QW.next (CW.ret (QW.block_ret (QW.then_ret ?_))))
  obtain rfl := Option.some.inj hF
  refine QW.ret_ct rfl rfl (run_loadN (cs := [.int .i64 ((aset o80.2 i196 r192) 0).Kind, .int .u64 ((aset o80.2 i196 r192) 0).Span.Lo, .int .u64 ((aset o80.2 i196 r192) 0).Span.Hi, .int .i64 ((aset o80.2 i196 r192) 0).Map, .int .i64 ((aset o80.2 i196 r192) 1).Kind, .int .u64 ((aset o80.2 i196 r192) 1).Span.Lo, .int .u64 ((aset o80.2 i196 r192) 1).Span.Hi, .int .i64 ((aset o80.2 i196 r192) 1).Map, .int .i64 ((aset o80.2 i196 r192) 2).Kind, .int .u64 ((aset o80.2 i196 r192) 2).Span.Lo, .int .u64 ((aset o80.2 i196 r192) 2).Span.Hi, .int .i64 ((aset o80.2 i196 r192) 2).Map, .int .i64 ((aset o80.2 i196 r192) 3).Kind, .int .u64 ((aset o80.2 i196 r192) 3).Span.Lo, .int .u64 ((aset o80.2 i196 r192) 3).Span.Hi, .int .i64 ((aset o80.2 i196 r192) 3).Map, .int .i64 ((aset o80.2 i196 r192) 4).Kind, .int .u64 ((aset o80.2 i196 r192) 4).Span.Lo, .int .u64 ((aset o80.2 i196 r192) 4).Span.Hi, .int .i64 ((aset o80.2 i196 r192) 4).Map, .int .i64 ((aset o80.2 i196 r192) 5).Kind, .int .u64 ((aset o80.2 i196 r192) 5).Span.Lo, .int .u64 ((aset o80.2 i196 r192) 5).Span.Hi, .int .i64 ((aset o80.2 i196 r192) 5).Map, .int .i64 ((aset o80.2 i196 r192) 6).Kind, .int .u64 ((aset o80.2 i196 r192) 6).Span.Lo, .int .u64 ((aset o80.2 i196 r192) 6).Span.Hi, .int .i64 ((aset o80.2 i196 r192) 6).Map, .int .i64 ((aset o80.2 i196 r192) 7).Kind, .int .u64 ((aset o80.2 i196 r192) 7).Span.Lo, .int .u64 ((aset o80.2 i196 r192) 7).Span.Hi, .int .i64 ((aset o80.2 i196 r192) 7).Map]) (by kernel_rfl) (by kernel_rfl) (hst.blkN 1 rfl 0 32)) rfl ?_
  exact ⟨S77, rfl, hst.keep [0] rfl⟩
 have hF := ite_f hF hc172
 refine CW.cond_f rfl hc172 (CW.seq (CW.region ?_))
 refine OW.pure 2 [(89, .bool (o80.1.Op == 12))] (by kernel_rfl) (OW.nil rfl (QW.next ?_))
 rcases Bool.eq_false_or_eq_true ((o80.1.Op == 12)) with hc237 | hc237
 ·have hF := ite_t hF hc237
  refine CW.cond_t rfl hc237 (CW.seq ?_)
  refine CW.plan (by kernel_rfl) ?_
  intro w257 hch258
  have hst := hst.same hch258
  refine OA.ldN (i := 0) (cs := [.int .i64 (o80.2 0).Kind, .int .u64 (o80.2 0).Span.Lo, .int .u64 (o80.2 0).Span.Hi, .int .i64 (o80.2 0).Map, .int .i64 (o80.2 1).Kind, .int .u64 (o80.2 1).Span.Lo, .int .u64 (o80.2 1).Span.Hi, .int .i64 (o80.2 1).Map, .int .i64 (o80.2 2).Kind, .int .u64 (o80.2 2).Span.Lo, .int .u64 (o80.2 2).Span.Hi, .int .i64 (o80.2 2).Map, .int .i64 (o80.2 3).Kind, .int .u64 (o80.2 3).Span.Lo, .int .u64 (o80.2 3).Span.Hi, .int .i64 (o80.2 3).Map, .int .i64 (o80.2 4).Kind, .int .u64 (o80.2 4).Span.Lo, .int .u64 (o80.2 4).Span.Hi, .int .i64 (o80.2 4).Map, .int .i64 (o80.2 5).Kind, .int .u64 (o80.2 5).Span.Lo, .int .u64 (o80.2 5).Span.Hi, .int .i64 (o80.2 5).Map, .int .i64 (o80.2 6).Kind, .int .u64 (o80.2 6).Span.Lo, .int .u64 (o80.2 6).Span.Hi, .int .i64 (o80.2 6).Map, .int .i64 (o80.2 7).Kind, .int .u64 (o80.2 7).Span.Lo, .int .u64 (o80.2 7).Span.Hi, .int .i64 (o80.2 7).Map]) rfl (by kernel_rfl) rfl rfl rfl (by kernel_rfl) (by kernel_rfl) (hst.blkN 3 rfl 0 32) ?_
  refine OA.ldN (i := 1) (cs := [.int .i64 (o80.2 i157).Kind, .int .u64 (o80.2 i157).Span.Lo, .int .u64 (o80.2 i157).Span.Hi, .int .i64 (o80.2 i157).Map]) rfl (by kernel_rfl) rfl rfl rfl (by kernel_rfl) (by kernel_rfl) (hst.blkN 4 rfl 0 4) ?_
  refine OA.ldN (i := 2) (cs := [.int .i64 o141.Kind, .int .u64 o141.Span.Lo, .int .u64 o141.Span.Hi, .int .i64 o141.Map]) rfl (by kernel_rfl) rfl rfl rfl (by kernel_rfl) (by kernel_rfl) (hst.blkN 5 rfl 0 4) ?_
  refine OA.ldN (i := 5) (cs := [.int .i64 o141.Kind, .int .u64 o141.Span.Lo, .int .u64 o141.Span.Hi, .int .i64 o141.Map]) rfl (by kernel_rfl) rfl rfl rfl (by kernel_rfl) (by kernel_rfl) (hst.blkN 5 rfl 0 4) ?_
  refine OA.act (i := 3) [5, 0] (by kernel_rfl) rfl rfl (by kernel_rfl) (by kernel_rfl) ?_
  refine OW.row (α := api_Type) (e := 156) (enc := enc_api_Type) (sz := 4) hst rfl rfl rfl [(o80.2 i157), o141] rfl (fun _ => rfl) rfl rfl (fun _ => by kernel_rfl) ?_
  intro g259 w260 hst
  refine OA.next ⟨(hst.blkN 5 rfl 0 4), (hst.blkN 3 rfl 0 32), trivial⟩ ?_
  refine OA.act (i := 4) [5, 0] (by kernel_rfl) rfl rfl (by kernel_rfl) (by kernel_rfl) ?_
  obtain ⟨r261, hr262, hF⟩ := bind_some' hF
  refine OW.fn rfl rfl rfl rfl (by kernel_rfl) (judge_nums_ok _ (.slice (some ⟨g259, 0, none⟩) 2 2) ([(o80.2 i157), o141]) r261 hr262 (hst.part [] rfl) (hst.rd 6 rfl (fun _ => rfl) [] rfl (hst.len 6 rfl).1)) ?_
  rintro e w263 ⟨rfl, hst264⟩
  refine ⟨_, rfl, ?_⟩
  have hst := hst.join (idx := []) (rest := [0, 1, 2, 3, 4, 5, 6]) rfl hst264
  refine OA.next ⟨(hst.blkN 5 rfl 0 4), (hst.blkN 3 rfl 0 32), trivial⟩ ?_
  refine OA.act (i := 6) [0] (by kernel_rfl) rfl rfl (by kernel_rfl) (by kernel_rfl) ?_
  obtain ⟨r265, hr266, hF⟩ := bind_some' hF
  refine OW.fn rfl rfl rfl rfl (by kernel_rfl) (judge_word_ok _ o141 r265 hr266 (hst.part [] rfl)) ?_
  rintro e w267 ⟨rfl, hst268⟩
  refine ⟨_, rfl, ?_⟩
  have hst := hst.join (idx := []) (rest := [0, 1, 2, 3, 4, 5, 6]) rfl hst268
  refine OA.next ⟨(hst.blkN 3 rfl 0 32), trivial⟩ ?_
  refine OA.act (i := 7) [0] (by kernel_rfl) rfl rfl (by kernel_rfl) (by kernel_rfl) ?_
  refine OW.row (α := Int) (e := 35) (enc := encInt .i64) (sz := 1) hst rfl rfl rfl [r261, r265] rfl (fun _ => rfl) rfl rfl (fun _ => by kernel_rfl) ?_
  intro g269 w270 hst
  refine OA.next ⟨(hst.blkN 3 rfl 0 32), trivial⟩ ?_
  refine OA.act (i := 8) [0] (by kernel_rfl) rfl rfl (by kernel_rfl) (by kernel_rfl) ?_
  obtain ⟨r271, hr272, hF⟩ := bind_some' hF
  refine OW.fn rfl rfl rfl rfl (by kernel_rfl) (judge_first_ok _ (.slice (some ⟨g269, 0, none⟩) 2 2) ([r261, r265]) r271 hr272 (hst.part [] rfl) (hst.rd 7 rfl (fun _ => rfl) [] rfl (hst.len 7 rfl).1)) ?_
  rintro e w273 ⟨rfl, hst274⟩
  refine ⟨_, rfl, ?_⟩
  have hst := hst.join (idx := []) (rest := [0, 1, 2, 3, 4, 5, 6, 7]) rfl hst274
  refine OA.next ⟨(hst.blkN 3 rfl 0 32), trivial⟩ ?_
  refine OA.act (i := 9) [] (by kernel_rfl) rfl rfl (by kernel_rfl) (by kernel_rfl) ?_
  refine OW.stB hst 1 rfl rfl rfl rfl rfl (by kernel_rfl) rfl rfl [.int .i64 (o80.2 0).Kind, .int .u64 (o80.2 0).Span.Lo, .int .u64 (o80.2 0).Span.Hi, .int .i64 (o80.2 0).Map, .int .i64 (o80.2 1).Kind, .int .u64 (o80.2 1).Span.Lo, .int .u64 (o80.2 1).Span.Hi, .int .i64 (o80.2 1).Map, .int .i64 (o80.2 2).Kind, .int .u64 (o80.2 2).Span.Lo, .int .u64 (o80.2 2).Span.Hi, .int .i64 (o80.2 2).Map, .int .i64 (o80.2 3).Kind, .int .u64 (o80.2 3).Span.Lo, .int .u64 (o80.2 3).Span.Hi, .int .i64 (o80.2 3).Map, .int .i64 (o80.2 4).Kind, .int .u64 (o80.2 4).Span.Lo, .int .u64 (o80.2 4).Span.Hi, .int .i64 (o80.2 4).Map, .int .i64 (o80.2 5).Kind, .int .u64 (o80.2 5).Span.Lo, .int .u64 (o80.2 5).Span.Hi, .int .i64 (o80.2 5).Map, .int .i64 (o80.2 6).Kind, .int .u64 (o80.2 6).Span.Lo, .int .u64 (o80.2 6).Span.Hi, .int .i64 (o80.2 6).Map, .int .i64 (o80.2 7).Kind, .int .u64 (o80.2 7).Span.Lo, .int .u64 (o80.2 7).Span.Hi, .int .i64 (o80.2 7).Map] rfl ?_
  intro w275 hst
  refine OA.next trivial ?_
  refine OA.act (i := 10) [] (by kernel_rfl) rfl rfl (by kernel_rfl) (by kernel_rfl) ?_
  refine OW.pure 1 [(5, .int .i64 r271)] (by kernel_rfl) (OA.next trivial ?_)
  refine OA.fin (by kernel_rfl) (by kernel_rfl) (QW.next (CW.ret (QW.block_ret (QW.then_ret ?_))))
  obtain rfl := Option.some.inj hF
  refine QW.ret_ct rfl rfl (run_loadN (cs := [.int .i64 (o80.2 0).Kind, .int .u64 (o80.2 0).Span.Lo, .int .u64 (o80.2 0).Span.Hi, .int .i64 (o80.2 0).Map, .int .i64 (o80.2 1).Kind, .int .u64 (o80.2 1).Span.Lo, .int .u64 (o80.2 1).Span.Hi, .int .i64 (o80.2 1).Map, .int .i64 (o80.2 2).Kind, .int .u64 (o80.2 2).Span.Lo, .int .u64 (o80.2 2).Span.Hi, .int .i64 (o80.2 2).Map, .int .i64 (o80.2 3).Kind, .int .u64 (o80.2 3).Span.Lo, .int .u64 (o80.2 3).Span.Hi, .int .i64 (o80.2 3).Map, .int .i64 (o80.2 4).Kind, .int .u64 (o80.2 4).Span.Lo, .int .u64 (o80.2 4).Span.Hi, .int .i64 (o80.2 4).Map, .int .i64 (o80.2 5).Kind, .int .u64 (o80.2 5).Span.Lo, .int .u64 (o80.2 5).Span.Hi, .int .i64 (o80.2 5).Map, .int .i64 (o80.2 6).Kind, .int .u64 (o80.2 6).Span.Lo, .int .u64 (o80.2 6).Span.Hi, .int .i64 (o80.2 6).Map, .int .i64 (o80.2 7).Kind, .int .u64 (o80.2 7).Span.Lo, .int .u64 (o80.2 7).Span.Hi, .int .i64 (o80.2 7).Map]) (by kernel_rfl) (by kernel_rfl) (hst.blkN 1 rfl 0 32)) rfl ?_
  exact ⟨S77, rfl, hst.keep [0] rfl⟩
 have hF := ite_f hF hc237
 refine CW.cond_f rfl hc237 (CW.seq (CW.region ?_))
 refine OW.pure 2 [(100, .bool (o80.1.Op == 13))] (by kernel_rfl) (OW.nil rfl (QW.next ?_))
 rcases Bool.eq_false_or_eq_true ((o80.1.Op == 13)) with hc276 | hc276
 ·have hF := ite_t hF hc276
  refine CW.cond_t rfl hc276 ?_
  refine CW.plan (by kernel_rfl) ?_
  intro w290 hch291
  have hst := hst.same hch291
  refine OA.pure [0] [(102, .pointer (some ⟨b78, 1, none⟩))] (by kernel_rfl) ?_
  refine OA.ld (i := 1) rfl (by kernel_rfl) rfl rfl rfl (by kernel_rfl) (hst.blk 2 rfl rfl) ?_
  refine OA.act (i := 2) [1] (by kernel_rfl) rfl rfl (by kernel_rfl) (by kernel_rfl) ?_
  obtain ⟨r292, hr293, hF⟩ := bind_some' hF
  refine OW.fn rfl rfl rfl rfl (by kernel_rfl) (span_Full_ok _ r292 hr293 (hst.part [] rfl)) ?_
  rintro e w294 ⟨rfl, hst295⟩
  refine ⟨_, rfl, ?_⟩
  have hst := hst.join (idx := []) (rest := [0, 1, 2, 3, 4, 5]) rfl hst295
  refine OA.next ⟨(hst.blk 2 rfl rfl), trivial⟩ ?_
  refine OA.act (i := 3) [1] (by kernel_rfl) rfl rfl (by kernel_rfl) (by kernel_rfl) ?_
  obtain ⟨r296, hr297, hF⟩ := bind_some' hF
  refine OW.fn rfl rfl rfl rfl (by kernel_rfl) (judge_number_ok _ r292 r296 hr297 (hst.part [] rfl)) ?_
  rintro e w298 ⟨rfl, hst299⟩
  refine ⟨_, rfl, ?_⟩
  have hst := hst.join (idx := []) (rest := [0, 1, 2, 3, 4, 5]) rfl hst299
  refine OA.next ⟨(hst.blk 2 rfl rfl), trivial⟩ ?_
  obtain ⟨i300, hi301, hF⟩ := bind_some' hF
  refine OA.val (i := 4) (v := .pointer (some ⟨b79, 0 + Int.toNat o80.1.D * 4, none⟩)) rfl (by kernel_rfl) rfl rfl rfl rfl (fun a w ha => aidx_run (n := 8) 156 4 rfl rfl rfl (ain_some hi301).1 (ain_some hi301).2.1 (by kernel_rfl) (by kernel_rfl) a w ha) ?_
  refine OA.act (i := 5) [] (by kernel_rfl) rfl rfl (by kernel_rfl) (by kernel_rfl) ?_
  refine OW.stA hst 3 rfl rfl rfl rfl rfl (by kernel_rfl) rfl enc_api_Type (fun _ => rfl) 8 o80.2 0 rfl rfl hi301 0 rfl rfl r296 rfl [.int .i64 ((aset o80.2 i300 r296) 0).Kind, .int .u64 ((aset o80.2 i300 r296) 0).Span.Lo, .int .u64 ((aset o80.2 i300 r296) 0).Span.Hi, .int .i64 ((aset o80.2 i300 r296) 0).Map, .int .i64 ((aset o80.2 i300 r296) 1).Kind, .int .u64 ((aset o80.2 i300 r296) 1).Span.Lo, .int .u64 ((aset o80.2 i300 r296) 1).Span.Hi, .int .i64 ((aset o80.2 i300 r296) 1).Map, .int .i64 ((aset o80.2 i300 r296) 2).Kind, .int .u64 ((aset o80.2 i300 r296) 2).Span.Lo, .int .u64 ((aset o80.2 i300 r296) 2).Span.Hi, .int .i64 ((aset o80.2 i300 r296) 2).Map, .int .i64 ((aset o80.2 i300 r296) 3).Kind, .int .u64 ((aset o80.2 i300 r296) 3).Span.Lo, .int .u64 ((aset o80.2 i300 r296) 3).Span.Hi, .int .i64 ((aset o80.2 i300 r296) 3).Map, .int .i64 ((aset o80.2 i300 r296) 4).Kind, .int .u64 ((aset o80.2 i300 r296) 4).Span.Lo, .int .u64 ((aset o80.2 i300 r296) 4).Span.Hi, .int .i64 ((aset o80.2 i300 r296) 4).Map, .int .i64 ((aset o80.2 i300 r296) 5).Kind, .int .u64 ((aset o80.2 i300 r296) 5).Span.Lo, .int .u64 ((aset o80.2 i300 r296) 5).Span.Hi, .int .i64 ((aset o80.2 i300 r296) 5).Map, .int .i64 ((aset o80.2 i300 r296) 6).Kind, .int .u64 ((aset o80.2 i300 r296) 6).Span.Lo, .int .u64 ((aset o80.2 i300 r296) 6).Span.Hi, .int .i64 ((aset o80.2 i300 r296) 6).Map, .int .i64 ((aset o80.2 i300 r296) 7).Kind, .int .u64 ((aset o80.2 i300 r296) 7).Span.Lo, .int .u64 ((aset o80.2 i300 r296) 7).Span.Hi, .int .i64 ((aset o80.2 i300 r296) 7).Map] rfl ?_
  intro w302 hst
  refine OA.next trivial ?_
  refine OA.fin (by kernel_rfl) (by kernel_rfl) (QW.block_normal (QW.next (CW.seq (CW.region ?_))))
  refine OW.ldN (cs := [.int .i64 ((aset o80.2 i300 r296) 0).Kind, .int .u64 ((aset o80.2 i300 r296) 0).Span.Lo, .int .u64 ((aset o80.2 i300 r296) 0).Span.Hi, .int .i64 ((aset o80.2 i300 r296) 0).Map, .int .i64 ((aset o80.2 i300 r296) 1).Kind, .int .u64 ((aset o80.2 i300 r296) 1).Span.Lo, .int .u64 ((aset o80.2 i300 r296) 1).Span.Hi, .int .i64 ((aset o80.2 i300 r296) 1).Map, .int .i64 ((aset o80.2 i300 r296) 2).Kind, .int .u64 ((aset o80.2 i300 r296) 2).Span.Lo, .int .u64 ((aset o80.2 i300 r296) 2).Span.Hi, .int .i64 ((aset o80.2 i300 r296) 2).Map, .int .i64 ((aset o80.2 i300 r296) 3).Kind, .int .u64 ((aset o80.2 i300 r296) 3).Span.Lo, .int .u64 ((aset o80.2 i300 r296) 3).Span.Hi, .int .i64 ((aset o80.2 i300 r296) 3).Map, .int .i64 ((aset o80.2 i300 r296) 4).Kind, .int .u64 ((aset o80.2 i300 r296) 4).Span.Lo, .int .u64 ((aset o80.2 i300 r296) 4).Span.Hi, .int .i64 ((aset o80.2 i300 r296) 4).Map, .int .i64 ((aset o80.2 i300 r296) 5).Kind, .int .u64 ((aset o80.2 i300 r296) 5).Span.Lo, .int .u64 ((aset o80.2 i300 r296) 5).Span.Hi, .int .i64 ((aset o80.2 i300 r296) 5).Map, .int .i64 ((aset o80.2 i300 r296) 6).Kind, .int .u64 ((aset o80.2 i300 r296) 6).Span.Lo, .int .u64 ((aset o80.2 i300 r296) 6).Span.Hi, .int .i64 ((aset o80.2 i300 r296) 6).Map, .int .i64 ((aset o80.2 i300 r296) 7).Kind, .int .u64 ((aset o80.2 i300 r296) 7).Span.Lo, .int .u64 ((aset o80.2 i300 r296) 7).Span.Hi, .int .i64 ((aset o80.2 i300 r296) 7).Map]) rfl rfl rfl rfl (by kernel_rfl) (by kernel_rfl) (hst.blkN 3 rfl 0 32) ?_
  refine OW.stB hst 1 rfl rfl rfl rfl rfl (by kernel_rfl) rfl rfl [.int .i64 ((aset o80.2 i300 r296) 0).Kind, .int .u64 ((aset o80.2 i300 r296) 0).Span.Lo, .int .u64 ((aset o80.2 i300 r296) 0).Span.Hi, .int .i64 ((aset o80.2 i300 r296) 0).Map, .int .i64 ((aset o80.2 i300 r296) 1).Kind, .int .u64 ((aset o80.2 i300 r296) 1).Span.Lo, .int .u64 ((aset o80.2 i300 r296) 1).Span.Hi, .int .i64 ((aset o80.2 i300 r296) 1).Map, .int .i64 ((aset o80.2 i300 r296) 2).Kind, .int .u64 ((aset o80.2 i300 r296) 2).Span.Lo, .int .u64 ((aset o80.2 i300 r296) 2).Span.Hi, .int .i64 ((aset o80.2 i300 r296) 2).Map, .int .i64 ((aset o80.2 i300 r296) 3).Kind, .int .u64 ((aset o80.2 i300 r296) 3).Span.Lo, .int .u64 ((aset o80.2 i300 r296) 3).Span.Hi, .int .i64 ((aset o80.2 i300 r296) 3).Map, .int .i64 ((aset o80.2 i300 r296) 4).Kind, .int .u64 ((aset o80.2 i300 r296) 4).Span.Lo, .int .u64 ((aset o80.2 i300 r296) 4).Span.Hi, .int .i64 ((aset o80.2 i300 r296) 4).Map, .int .i64 ((aset o80.2 i300 r296) 5).Kind, .int .u64 ((aset o80.2 i300 r296) 5).Span.Lo, .int .u64 ((aset o80.2 i300 r296) 5).Span.Hi, .int .i64 ((aset o80.2 i300 r296) 5).Map, .int .i64 ((aset o80.2 i300 r296) 6).Kind, .int .u64 ((aset o80.2 i300 r296) 6).Span.Lo, .int .u64 ((aset o80.2 i300 r296) 6).Span.Hi, .int .i64 ((aset o80.2 i300 r296) 6).Map, .int .i64 ((aset o80.2 i300 r296) 7).Kind, .int .u64 ((aset o80.2 i300 r296) 7).Span.Lo, .int .u64 ((aset o80.2 i300 r296) 7).Span.Hi, .int .i64 ((aset o80.2 i300 r296) 7).Map] rfl ?_
  intro w304 hst
  refine OW.pure 1 [(5, .int .i64 0)] (by kernel_rfl) (OW.nil rfl (QW.next (CW.ret ?_)))
  obtain rfl := Option.some.inj hF
  refine QW.ret_ct rfl rfl (run_loadN (cs := [.int .i64 ((aset o80.2 i300 r296) 0).Kind, .int .u64 ((aset o80.2 i300 r296) 0).Span.Lo, .int .u64 ((aset o80.2 i300 r296) 0).Span.Hi, .int .i64 ((aset o80.2 i300 r296) 0).Map, .int .i64 ((aset o80.2 i300 r296) 1).Kind, .int .u64 ((aset o80.2 i300 r296) 1).Span.Lo, .int .u64 ((aset o80.2 i300 r296) 1).Span.Hi, .int .i64 ((aset o80.2 i300 r296) 1).Map, .int .i64 ((aset o80.2 i300 r296) 2).Kind, .int .u64 ((aset o80.2 i300 r296) 2).Span.Lo, .int .u64 ((aset o80.2 i300 r296) 2).Span.Hi, .int .i64 ((aset o80.2 i300 r296) 2).Map, .int .i64 ((aset o80.2 i300 r296) 3).Kind, .int .u64 ((aset o80.2 i300 r296) 3).Span.Lo, .int .u64 ((aset o80.2 i300 r296) 3).Span.Hi, .int .i64 ((aset o80.2 i300 r296) 3).Map, .int .i64 ((aset o80.2 i300 r296) 4).Kind, .int .u64 ((aset o80.2 i300 r296) 4).Span.Lo, .int .u64 ((aset o80.2 i300 r296) 4).Span.Hi, .int .i64 ((aset o80.2 i300 r296) 4).Map, .int .i64 ((aset o80.2 i300 r296) 5).Kind, .int .u64 ((aset o80.2 i300 r296) 5).Span.Lo, .int .u64 ((aset o80.2 i300 r296) 5).Span.Hi, .int .i64 ((aset o80.2 i300 r296) 5).Map, .int .i64 ((aset o80.2 i300 r296) 6).Kind, .int .u64 ((aset o80.2 i300 r296) 6).Span.Lo, .int .u64 ((aset o80.2 i300 r296) 6).Span.Hi, .int .i64 ((aset o80.2 i300 r296) 6).Map, .int .i64 ((aset o80.2 i300 r296) 7).Kind, .int .u64 ((aset o80.2 i300 r296) 7).Span.Lo, .int .u64 ((aset o80.2 i300 r296) 7).Span.Hi, .int .i64 ((aset o80.2 i300 r296) 7).Map]) (by kernel_rfl) (by kernel_rfl) (hst.blkN 1 rfl 0 32)) rfl ?_
  exact ⟨S77, rfl, hst.keep [0] rfl⟩
 have hF := ite_f hF hc276
 refine CW.cond_f rfl hc276 (CW.seq (CW.region ?_))
 refine OW.pure 2 [(107, .bool (o80.1.Op == 14))] (by kernel_rfl) (OW.nil rfl (QW.next ?_))
 rcases Bool.eq_false_or_eq_true ((o80.1.Op == 14)) with hc305 | hc305
 ·have hF := ite_t hF hc305
  refine CW.cond_t rfl hc305 (CW.seq (CW.region ?_))
  refine OW.pure 1 [(109, .pointer (some ⟨b78, 1, none⟩))] (by kernel_rfl) ?_
  refine OW.ld rfl rfl rfl rfl (by kernel_rfl) (hst.blk 2 rfl rfl) ?_
  refine OW.pure 1 [(111, .pointer (some ⟨b78, 4, none⟩))] (by kernel_rfl) ?_
  refine OW.ld rfl rfl rfl rfl (by kernel_rfl) (hst.blk 2 rfl rfl) ?_
  refine OW.pure 1 [(113, .agg [.int .i64 2, .int .u64 0, .int .u64 0, .int .i64 o80.1.Imm].toArray)] (by kernel_rfl) ?_
  obtain ⟨i309, hi310, hF⟩ := bind_some' hF
  refine OW.op (v := .pointer (some ⟨b79, 0 + Int.toNat o80.1.D * 4, none⟩)) rfl rfl rfl rfl (fun a ha => aidx_run (n := 8) 156 4 rfl rfl rfl (ain_some hi310).1 (ain_some hi310).2.1 (by kernel_rfl) (by kernel_rfl) a _ ha) ?_
  refine OW.stA hst 3 rfl rfl rfl rfl rfl (by kernel_rfl) rfl enc_api_Type (fun _ => rfl) 8 o80.2 0 rfl rfl hi310 0 rfl rfl (api_Type.mk 2 (api_Span.mk 0 0) o80.1.Imm) rfl [.int .i64 ((aset o80.2 i309 (api_Type.mk 2 (api_Span.mk 0 0) o80.1.Imm)) 0).Kind, .int .u64 ((aset o80.2 i309 (api_Type.mk 2 (api_Span.mk 0 0) o80.1.Imm)) 0).Span.Lo, .int .u64 ((aset o80.2 i309 (api_Type.mk 2 (api_Span.mk 0 0) o80.1.Imm)) 0).Span.Hi, .int .i64 ((aset o80.2 i309 (api_Type.mk 2 (api_Span.mk 0 0) o80.1.Imm)) 0).Map, .int .i64 ((aset o80.2 i309 (api_Type.mk 2 (api_Span.mk 0 0) o80.1.Imm)) 1).Kind, .int .u64 ((aset o80.2 i309 (api_Type.mk 2 (api_Span.mk 0 0) o80.1.Imm)) 1).Span.Lo, .int .u64 ((aset o80.2 i309 (api_Type.mk 2 (api_Span.mk 0 0) o80.1.Imm)) 1).Span.Hi, .int .i64 ((aset o80.2 i309 (api_Type.mk 2 (api_Span.mk 0 0) o80.1.Imm)) 1).Map, .int .i64 ((aset o80.2 i309 (api_Type.mk 2 (api_Span.mk 0 0) o80.1.Imm)) 2).Kind, .int .u64 ((aset o80.2 i309 (api_Type.mk 2 (api_Span.mk 0 0) o80.1.Imm)) 2).Span.Lo, .int .u64 ((aset o80.2 i309 (api_Type.mk 2 (api_Span.mk 0 0) o80.1.Imm)) 2).Span.Hi, .int .i64 ((aset o80.2 i309 (api_Type.mk 2 (api_Span.mk 0 0) o80.1.Imm)) 2).Map, .int .i64 ((aset o80.2 i309 (api_Type.mk 2 (api_Span.mk 0 0) o80.1.Imm)) 3).Kind, .int .u64 ((aset o80.2 i309 (api_Type.mk 2 (api_Span.mk 0 0) o80.1.Imm)) 3).Span.Lo, .int .u64 ((aset o80.2 i309 (api_Type.mk 2 (api_Span.mk 0 0) o80.1.Imm)) 3).Span.Hi, .int .i64 ((aset o80.2 i309 (api_Type.mk 2 (api_Span.mk 0 0) o80.1.Imm)) 3).Map, .int .i64 ((aset o80.2 i309 (api_Type.mk 2 (api_Span.mk 0 0) o80.1.Imm)) 4).Kind, .int .u64 ((aset o80.2 i309 (api_Type.mk 2 (api_Span.mk 0 0) o80.1.Imm)) 4).Span.Lo, .int .u64 ((aset o80.2 i309 (api_Type.mk 2 (api_Span.mk 0 0) o80.1.Imm)) 4).Span.Hi, .int .i64 ((aset o80.2 i309 (api_Type.mk 2 (api_Span.mk 0 0) o80.1.Imm)) 4).Map, .int .i64 ((aset o80.2 i309 (api_Type.mk 2 (api_Span.mk 0 0) o80.1.Imm)) 5).Kind, .int .u64 ((aset o80.2 i309 (api_Type.mk 2 (api_Span.mk 0 0) o80.1.Imm)) 5).Span.Lo, .int .u64 ((aset o80.2 i309 (api_Type.mk 2 (api_Span.mk 0 0) o80.1.Imm)) 5).Span.Hi, .int .i64 ((aset o80.2 i309 (api_Type.mk 2 (api_Span.mk 0 0) o80.1.Imm)) 5).Map, .int .i64 ((aset o80.2 i309 (api_Type.mk 2 (api_Span.mk 0 0) o80.1.Imm)) 6).Kind, .int .u64 ((aset o80.2 i309 (api_Type.mk 2 (api_Span.mk 0 0) o80.1.Imm)) 6).Span.Lo, .int .u64 ((aset o80.2 i309 (api_Type.mk 2 (api_Span.mk 0 0) o80.1.Imm)) 6).Span.Hi, .int .i64 ((aset o80.2 i309 (api_Type.mk 2 (api_Span.mk 0 0) o80.1.Imm)) 6).Map, .int .i64 ((aset o80.2 i309 (api_Type.mk 2 (api_Span.mk 0 0) o80.1.Imm)) 7).Kind, .int .u64 ((aset o80.2 i309 (api_Type.mk 2 (api_Span.mk 0 0) o80.1.Imm)) 7).Span.Lo, .int .u64 ((aset o80.2 i309 (api_Type.mk 2 (api_Span.mk 0 0) o80.1.Imm)) 7).Span.Hi, .int .i64 ((aset o80.2 i309 (api_Type.mk 2 (api_Span.mk 0 0) o80.1.Imm)) 7).Map] rfl ?_
  intro w311 hst
  refine OW.nil rfl (QW.next (CW.seq ?_))
  obtain ⟨v312, S313, v314, S315, v316, S317, v318, S319, v320, S321, hst⟩ := hst.openQ5 0 rfl rfl rfl rfl rfl rfl
  have hbo322 := hst.borOut 6 rfl
  have hbr323 := hbo322.bor hb
  have hbo324 := hst.borOut 7 rfl
  have hbr325 := hbo324.bor hb
  have hst := hst.toRow1 8 rfl
  have hst := hst.toRow1 9 rfl
  have hst := hst.toRow1 10 rfl
  have hst := hst.keep [0, 1, 2, 3, 4, 5, 8, 9, 10] rfl
  obtain ⟨l326, a327, c328, rfl⟩ := hbr323.len
  obtain ⟨l329, a330, c331, rfl⟩ := hbr325.len
  obtain ⟨l332, a333, c334, rfl⟩ := hst.len 6 rfl
  obtain ⟨l335, a336, c337, rfl⟩ := hst.len 7 rfl
  obtain ⟨l338, a339, c340, rfl⟩ := hst.len 8 rfl
  have hst : St _ _ _ [blkI b1 148 [.slice a327 (p0.Module.Maps).length c328, .slice a330 (p0.Module.Code).length c331, .slice a333 (p0.came).length c334, .slice a336 (p0.any).length c337, .slice a339 (p0.loops).length c340], _, _, _, _, _, _, _, _] := hst
  refine CW.still (by kernel_rfl) (by kernel_rfl) ?_
  intro w343 hch344
  have hst := hst.same hch344
  refine OS.pure 1 [(115, .pointer (some ⟨b78, 4, none⟩))] rfl (by kernel_rfl) ?_
  refine OS.ld rfl rfl rfl rfl rfl (by kernel_rfl) (hst.blk 2 rfl rfl) ?_
  refine OS.pure 4 [(120, .pointer (some ⟨b1, 0, none⟩))] rfl (by kernel_rfl) ?_
  refine OS.ld rfl rfl rfl rfl rfl (by kernel_rfl) (hst.blk 0 rfl rfl) ?_
  refine OS.pure 2 [(123, .bool (decide (o80.1.Imm ≥ ((p0.Module.Maps).length : Int))))] rfl (by kernel_rfl) ?_
  refine OS.fin rfl (QW.next ?_)
  rcases Bool.eq_false_or_eq_true (decide (o80.1.Imm ≥ ((p0.Module.Maps).length : Int))) with hc345 | hc345
  ·have hF := ite_t hF hc345
   refine CW.cond_t rfl hc345 (CW.seq (CW.region ?_))
   refine OW.ldN (cs := [.int .i64 ((aset o80.2 i309 (api_Type.mk 2 (api_Span.mk 0 0) o80.1.Imm)) 0).Kind, .int .u64 ((aset o80.2 i309 (api_Type.mk 2 (api_Span.mk 0 0) o80.1.Imm)) 0).Span.Lo, .int .u64 ((aset o80.2 i309 (api_Type.mk 2 (api_Span.mk 0 0) o80.1.Imm)) 0).Span.Hi, .int .i64 ((aset o80.2 i309 (api_Type.mk 2 (api_Span.mk 0 0) o80.1.Imm)) 0).Map, .int .i64 ((aset o80.2 i309 (api_Type.mk 2 (api_Span.mk 0 0) o80.1.Imm)) 1).Kind, .int .u64 ((aset o80.2 i309 (api_Type.mk 2 (api_Span.mk 0 0) o80.1.Imm)) 1).Span.Lo, .int .u64 ((aset o80.2 i309 (api_Type.mk 2 (api_Span.mk 0 0) o80.1.Imm)) 1).Span.Hi, .int .i64 ((aset o80.2 i309 (api_Type.mk 2 (api_Span.mk 0 0) o80.1.Imm)) 1).Map, .int .i64 ((aset o80.2 i309 (api_Type.mk 2 (api_Span.mk 0 0) o80.1.Imm)) 2).Kind, .int .u64 ((aset o80.2 i309 (api_Type.mk 2 (api_Span.mk 0 0) o80.1.Imm)) 2).Span.Lo, .int .u64 ((aset o80.2 i309 (api_Type.mk 2 (api_Span.mk 0 0) o80.1.Imm)) 2).Span.Hi, .int .i64 ((aset o80.2 i309 (api_Type.mk 2 (api_Span.mk 0 0) o80.1.Imm)) 2).Map, .int .i64 ((aset o80.2 i309 (api_Type.mk 2 (api_Span.mk 0 0) o80.1.Imm)) 3).Kind, .int .u64 ((aset o80.2 i309 (api_Type.mk 2 (api_Span.mk 0 0) o80.1.Imm)) 3).Span.Lo, .int .u64 ((aset o80.2 i309 (api_Type.mk 2 (api_Span.mk 0 0) o80.1.Imm)) 3).Span.Hi, .int .i64 ((aset o80.2 i309 (api_Type.mk 2 (api_Span.mk 0 0) o80.1.Imm)) 3).Map, .int .i64 ((aset o80.2 i309 (api_Type.mk 2 (api_Span.mk 0 0) o80.1.Imm)) 4).Kind, .int .u64 ((aset o80.2 i309 (api_Type.mk 2 (api_Span.mk 0 0) o80.1.Imm)) 4).Span.Lo, .int .u64 ((aset o80.2 i309 (api_Type.mk 2 (api_Span.mk 0 0) o80.1.Imm)) 4).Span.Hi, .int .i64 ((aset o80.2 i309 (api_Type.mk 2 (api_Span.mk 0 0) o80.1.Imm)) 4).Map, .int .i64 ((aset o80.2 i309 (api_Type.mk 2 (api_Span.mk 0 0) o80.1.Imm)) 5).Kind, .int .u64 ((aset o80.2 i309 (api_Type.mk 2 (api_Span.mk 0 0) o80.1.Imm)) 5).Span.Lo, .int .u64 ((aset o80.2 i309 (api_Type.mk 2 (api_Span.mk 0 0) o80.1.Imm)) 5).Span.Hi, .int .i64 ((aset o80.2 i309 (api_Type.mk 2 (api_Span.mk 0 0) o80.1.Imm)) 5).Map, .int .i64 ((aset o80.2 i309 (api_Type.mk 2 (api_Span.mk 0 0) o80.1.Imm)) 6).Kind, .int .u64 ((aset o80.2 i309 (api_Type.mk 2 (api_Span.mk 0 0) o80.1.Imm)) 6).Span.Lo, .int .u64 ((aset o80.2 i309 (api_Type.mk 2 (api_Span.mk 0 0) o80.1.Imm)) 6).Span.Hi, .int .i64 ((aset o80.2 i309 (api_Type.mk 2 (api_Span.mk 0 0) o80.1.Imm)) 6).Map, .int .i64 ((aset o80.2 i309 (api_Type.mk 2 (api_Span.mk 0 0) o80.1.Imm)) 7).Kind, .int .u64 ((aset o80.2 i309 (api_Type.mk 2 (api_Span.mk 0 0) o80.1.Imm)) 7).Span.Lo, .int .u64 ((aset o80.2 i309 (api_Type.mk 2 (api_Span.mk 0 0) o80.1.Imm)) 7).Span.Hi, .int .i64 ((aset o80.2 i309 (api_Type.mk 2 (api_Span.mk 0 0) o80.1.Imm)) 7).Map]) rfl rfl rfl rfl (by kernel_rfl) (by kernel_rfl) (hst.blkN 3 rfl 0 32) ?_
   refine OW.stB hst 1 rfl rfl rfl rfl rfl (by kernel_rfl) rfl rfl [.int .i64 ((aset o80.2 i309 (api_Type.mk 2 (api_Span.mk 0 0) o80.1.Imm)) 0).Kind, .int .u64 ((aset o80.2 i309 (api_Type.mk 2 (api_Span.mk 0 0) o80.1.Imm)) 0).Span.Lo, .int .u64 ((aset o80.2 i309 (api_Type.mk 2 (api_Span.mk 0 0) o80.1.Imm)) 0).Span.Hi, .int .i64 ((aset o80.2 i309 (api_Type.mk 2 (api_Span.mk 0 0) o80.1.Imm)) 0).Map, .int .i64 ((aset o80.2 i309 (api_Type.mk 2 (api_Span.mk 0 0) o80.1.Imm)) 1).Kind, .int .u64 ((aset o80.2 i309 (api_Type.mk 2 (api_Span.mk 0 0) o80.1.Imm)) 1).Span.Lo, .int .u64 ((aset o80.2 i309 (api_Type.mk 2 (api_Span.mk 0 0) o80.1.Imm)) 1).Span.Hi, .int .i64 ((aset o80.2 i309 (api_Type.mk 2 (api_Span.mk 0 0) o80.1.Imm)) 1).Map, .int .i64 ((aset o80.2 i309 (api_Type.mk 2 (api_Span.mk 0 0) o80.1.Imm)) 2).Kind, .int .u64 ((aset o80.2 i309 (api_Type.mk 2 (api_Span.mk 0 0) o80.1.Imm)) 2).Span.Lo, .int .u64 ((aset o80.2 i309 (api_Type.mk 2 (api_Span.mk 0 0) o80.1.Imm)) 2).Span.Hi, .int .i64 ((aset o80.2 i309 (api_Type.mk 2 (api_Span.mk 0 0) o80.1.Imm)) 2).Map, .int .i64 ((aset o80.2 i309 (api_Type.mk 2 (api_Span.mk 0 0) o80.1.Imm)) 3).Kind, .int .u64 ((aset o80.2 i309 (api_Type.mk 2 (api_Span.mk 0 0) o80.1.Imm)) 3).Span.Lo, .int .u64 ((aset o80.2 i309 (api_Type.mk 2 (api_Span.mk 0 0) o80.1.Imm)) 3).Span.Hi, .int .i64 ((aset o80.2 i309 (api_Type.mk 2 (api_Span.mk 0 0) o80.1.Imm)) 3).Map, .int .i64 ((aset o80.2 i309 (api_Type.mk 2 (api_Span.mk 0 0) o80.1.Imm)) 4).Kind, .int .u64 ((aset o80.2 i309 (api_Type.mk 2 (api_Span.mk 0 0) o80.1.Imm)) 4).Span.Lo, .int .u64 ((aset o80.2 i309 (api_Type.mk 2 (api_Span.mk 0 0) o80.1.Imm)) 4).Span.Hi, .int .i64 ((aset o80.2 i309 (api_Type.mk 2 (api_Span.mk 0 0) o80.1.Imm)) 4).Map, .int .i64 ((aset o80.2 i309 (api_Type.mk 2 (api_Span.mk 0 0) o80.1.Imm)) 5).Kind, .int .u64 ((aset o80.2 i309 (api_Type.mk 2 (api_Span.mk 0 0) o80.1.Imm)) 5).Span.Lo, .int .u64 ((aset o80.2 i309 (api_Type.mk 2 (api_Span.mk 0 0) o80.1.Imm)) 5).Span.Hi, .int .i64 ((aset o80.2 i309 (api_Type.mk 2 (api_Span.mk 0 0) o80.1.Imm)) 5).Map, .int .i64 ((aset o80.2 i309 (api_Type.mk 2 (api_Span.mk 0 0) o80.1.Imm)) 6).Kind, .int .u64 ((aset o80.2 i309 (api_Type.mk 2 (api_Span.mk 0 0) o80.1.Imm)) 6).Span.Lo, .int .u64 ((aset o80.2 i309 (api_Type.mk 2 (api_Span.mk 0 0) o80.1.Imm)) 6).Span.Hi, .int .i64 ((aset o80.2 i309 (api_Type.mk 2 (api_Span.mk 0 0) o80.1.Imm)) 6).Map, .int .i64 ((aset o80.2 i309 (api_Type.mk 2 (api_Span.mk 0 0) o80.1.Imm)) 7).Kind, .int .u64 ((aset o80.2 i309 (api_Type.mk 2 (api_Span.mk 0 0) o80.1.Imm)) 7).Span.Lo, .int .u64 ((aset o80.2 i309 (api_Type.mk 2 (api_Span.mk 0 0) o80.1.Imm)) 7).Span.Hi, .int .i64 ((aset o80.2 i309 (api_Type.mk 2 (api_Span.mk 0 0) o80.1.Imm)) 7).Map] rfl ?_
   intro w347 hst
   refine OW.pure 1 [(5, .int .i64 35)] (by kernel_rfl) (OW.nil rfl (QW.next (CW.ret (QW.block_ret (QW.then_ret ?_)))))
   have hst := hst.borIn hbo322
   have hst := hst.borIn hbo324
   have hst := hst.toIt 6 rfl (fun _ => rfl) (by decide)
   have hst := hst.toIt 7 rfl (fun _ => rfl) (by decide)
   have hst := hst.toIt 8 rfl (fun _ => rfl) (by decide)
   obtain ⟨S348, hst⟩ := hst.shutP5 (R_t148 wb Sb) rfl 0 9 10 6 7 8 [1, 2, 3, 4, 5] rfl rfl rfl rfl rfl rfl rfl p0 rfl rfl
   obtain rfl := Option.some.inj hF
   refine QW.ret_ct rfl rfl (run_loadN (cs := [.int .i64 ((aset o80.2 i309 (api_Type.mk 2 (api_Span.mk 0 0) o80.1.Imm)) 0).Kind, .int .u64 ((aset o80.2 i309 (api_Type.mk 2 (api_Span.mk 0 0) o80.1.Imm)) 0).Span.Lo, .int .u64 ((aset o80.2 i309 (api_Type.mk 2 (api_Span.mk 0 0) o80.1.Imm)) 0).Span.Hi, .int .i64 ((aset o80.2 i309 (api_Type.mk 2 (api_Span.mk 0 0) o80.1.Imm)) 0).Map, .int .i64 ((aset o80.2 i309 (api_Type.mk 2 (api_Span.mk 0 0) o80.1.Imm)) 1).Kind, .int .u64 ((aset o80.2 i309 (api_Type.mk 2 (api_Span.mk 0 0) o80.1.Imm)) 1).Span.Lo, .int .u64 ((aset o80.2 i309 (api_Type.mk 2 (api_Span.mk 0 0) o80.1.Imm)) 1).Span.Hi, .int .i64 ((aset o80.2 i309 (api_Type.mk 2 (api_Span.mk 0 0) o80.1.Imm)) 1).Map, .int .i64 ((aset o80.2 i309 (api_Type.mk 2 (api_Span.mk 0 0) o80.1.Imm)) 2).Kind, .int .u64 ((aset o80.2 i309 (api_Type.mk 2 (api_Span.mk 0 0) o80.1.Imm)) 2).Span.Lo, .int .u64 ((aset o80.2 i309 (api_Type.mk 2 (api_Span.mk 0 0) o80.1.Imm)) 2).Span.Hi, .int .i64 ((aset o80.2 i309 (api_Type.mk 2 (api_Span.mk 0 0) o80.1.Imm)) 2).Map, .int .i64 ((aset o80.2 i309 (api_Type.mk 2 (api_Span.mk 0 0) o80.1.Imm)) 3).Kind, .int .u64 ((aset o80.2 i309 (api_Type.mk 2 (api_Span.mk 0 0) o80.1.Imm)) 3).Span.Lo, .int .u64 ((aset o80.2 i309 (api_Type.mk 2 (api_Span.mk 0 0) o80.1.Imm)) 3).Span.Hi, .int .i64 ((aset o80.2 i309 (api_Type.mk 2 (api_Span.mk 0 0) o80.1.Imm)) 3).Map, .int .i64 ((aset o80.2 i309 (api_Type.mk 2 (api_Span.mk 0 0) o80.1.Imm)) 4).Kind, .int .u64 ((aset o80.2 i309 (api_Type.mk 2 (api_Span.mk 0 0) o80.1.Imm)) 4).Span.Lo, .int .u64 ((aset o80.2 i309 (api_Type.mk 2 (api_Span.mk 0 0) o80.1.Imm)) 4).Span.Hi, .int .i64 ((aset o80.2 i309 (api_Type.mk 2 (api_Span.mk 0 0) o80.1.Imm)) 4).Map, .int .i64 ((aset o80.2 i309 (api_Type.mk 2 (api_Span.mk 0 0) o80.1.Imm)) 5).Kind, .int .u64 ((aset o80.2 i309 (api_Type.mk 2 (api_Span.mk 0 0) o80.1.Imm)) 5).Span.Lo, .int .u64 ((aset o80.2 i309 (api_Type.mk 2 (api_Span.mk 0 0) o80.1.Imm)) 5).Span.Hi, .int .i64 ((aset o80.2 i309 (api_Type.mk 2 (api_Span.mk 0 0) o80.1.Imm)) 5).Map, .int .i64 ((aset o80.2 i309 (api_Type.mk 2 (api_Span.mk 0 0) o80.1.Imm)) 6).Kind, .int .u64 ((aset o80.2 i309 (api_Type.mk 2 (api_Span.mk 0 0) o80.1.Imm)) 6).Span.Lo, .int .u64 ((aset o80.2 i309 (api_Type.mk 2 (api_Span.mk 0 0) o80.1.Imm)) 6).Span.Hi, .int .i64 ((aset o80.2 i309 (api_Type.mk 2 (api_Span.mk 0 0) o80.1.Imm)) 6).Map, .int .i64 ((aset o80.2 i309 (api_Type.mk 2 (api_Span.mk 0 0) o80.1.Imm)) 7).Kind, .int .u64 ((aset o80.2 i309 (api_Type.mk 2 (api_Span.mk 0 0) o80.1.Imm)) 7).Span.Lo, .int .u64 ((aset o80.2 i309 (api_Type.mk 2 (api_Span.mk 0 0) o80.1.Imm)) 7).Span.Hi, .int .i64 ((aset o80.2 i309 (api_Type.mk 2 (api_Span.mk 0 0) o80.1.Imm)) 7).Map]) (by kernel_rfl) (by kernel_rfl) (hst.blkN 0 rfl 0 32)) rfl ?_
   exact ⟨S348, rfl, hst.keep [5] rfl⟩
  have hF := ite_f hF hc345
  refine CW.cond_f rfl hc345 (CW.skip (QW.block_normal (QW.next (CW.seq (CW.region ?_)))))
  refine OW.ldN (cs := [.int .i64 ((aset o80.2 i309 (api_Type.mk 2 (api_Span.mk 0 0) o80.1.Imm)) 0).Kind, .int .u64 ((aset o80.2 i309 (api_Type.mk 2 (api_Span.mk 0 0) o80.1.Imm)) 0).Span.Lo, .int .u64 ((aset o80.2 i309 (api_Type.mk 2 (api_Span.mk 0 0) o80.1.Imm)) 0).Span.Hi, .int .i64 ((aset o80.2 i309 (api_Type.mk 2 (api_Span.mk 0 0) o80.1.Imm)) 0).Map, .int .i64 ((aset o80.2 i309 (api_Type.mk 2 (api_Span.mk 0 0) o80.1.Imm)) 1).Kind, .int .u64 ((aset o80.2 i309 (api_Type.mk 2 (api_Span.mk 0 0) o80.1.Imm)) 1).Span.Lo, .int .u64 ((aset o80.2 i309 (api_Type.mk 2 (api_Span.mk 0 0) o80.1.Imm)) 1).Span.Hi, .int .i64 ((aset o80.2 i309 (api_Type.mk 2 (api_Span.mk 0 0) o80.1.Imm)) 1).Map, .int .i64 ((aset o80.2 i309 (api_Type.mk 2 (api_Span.mk 0 0) o80.1.Imm)) 2).Kind, .int .u64 ((aset o80.2 i309 (api_Type.mk 2 (api_Span.mk 0 0) o80.1.Imm)) 2).Span.Lo, .int .u64 ((aset o80.2 i309 (api_Type.mk 2 (api_Span.mk 0 0) o80.1.Imm)) 2).Span.Hi, .int .i64 ((aset o80.2 i309 (api_Type.mk 2 (api_Span.mk 0 0) o80.1.Imm)) 2).Map, .int .i64 ((aset o80.2 i309 (api_Type.mk 2 (api_Span.mk 0 0) o80.1.Imm)) 3).Kind, .int .u64 ((aset o80.2 i309 (api_Type.mk 2 (api_Span.mk 0 0) o80.1.Imm)) 3).Span.Lo, .int .u64 ((aset o80.2 i309 (api_Type.mk 2 (api_Span.mk 0 0) o80.1.Imm)) 3).Span.Hi, .int .i64 ((aset o80.2 i309 (api_Type.mk 2 (api_Span.mk 0 0) o80.1.Imm)) 3).Map, .int .i64 ((aset o80.2 i309 (api_Type.mk 2 (api_Span.mk 0 0) o80.1.Imm)) 4).Kind, .int .u64 ((aset o80.2 i309 (api_Type.mk 2 (api_Span.mk 0 0) o80.1.Imm)) 4).Span.Lo, .int .u64 ((aset o80.2 i309 (api_Type.mk 2 (api_Span.mk 0 0) o80.1.Imm)) 4).Span.Hi, .int .i64 ((aset o80.2 i309 (api_Type.mk 2 (api_Span.mk 0 0) o80.1.Imm)) 4).Map, .int .i64 ((aset o80.2 i309 (api_Type.mk 2 (api_Span.mk 0 0) o80.1.Imm)) 5).Kind, .int .u64 ((aset o80.2 i309 (api_Type.mk 2 (api_Span.mk 0 0) o80.1.Imm)) 5).Span.Lo, .int .u64 ((aset o80.2 i309 (api_Type.mk 2 (api_Span.mk 0 0) o80.1.Imm)) 5).Span.Hi, .int .i64 ((aset o80.2 i309 (api_Type.mk 2 (api_Span.mk 0 0) o80.1.Imm)) 5).Map, .int .i64 ((aset o80.2 i309 (api_Type.mk 2 (api_Span.mk 0 0) o80.1.Imm)) 6).Kind, .int .u64 ((aset o80.2 i309 (api_Type.mk 2 (api_Span.mk 0 0) o80.1.Imm)) 6).Span.Lo, .int .u64 ((aset o80.2 i309 (api_Type.mk 2 (api_Span.mk 0 0) o80.1.Imm)) 6).Span.Hi, .int .i64 ((aset o80.2 i309 (api_Type.mk 2 (api_Span.mk 0 0) o80.1.Imm)) 6).Map, .int .i64 ((aset o80.2 i309 (api_Type.mk 2 (api_Span.mk 0 0) o80.1.Imm)) 7).Kind, .int .u64 ((aset o80.2 i309 (api_Type.mk 2 (api_Span.mk 0 0) o80.1.Imm)) 7).Span.Lo, .int .u64 ((aset o80.2 i309 (api_Type.mk 2 (api_Span.mk 0 0) o80.1.Imm)) 7).Span.Hi, .int .i64 ((aset o80.2 i309 (api_Type.mk 2 (api_Span.mk 0 0) o80.1.Imm)) 7).Map]) rfl rfl rfl rfl (by kernel_rfl) (by kernel_rfl) (hst.blkN 3 rfl 0 32) ?_
  refine OW.stB hst 1 rfl rfl rfl rfl rfl (by kernel_rfl) rfl rfl [.int .i64 ((aset o80.2 i309 (api_Type.mk 2 (api_Span.mk 0 0) o80.1.Imm)) 0).Kind, .int .u64 ((aset o80.2 i309 (api_Type.mk 2 (api_Span.mk 0 0) o80.1.Imm)) 0).Span.Lo, .int .u64 ((aset o80.2 i309 (api_Type.mk 2 (api_Span.mk 0 0) o80.1.Imm)) 0).Span.Hi, .int .i64 ((aset o80.2 i309 (api_Type.mk 2 (api_Span.mk 0 0) o80.1.Imm)) 0).Map, .int .i64 ((aset o80.2 i309 (api_Type.mk 2 (api_Span.mk 0 0) o80.1.Imm)) 1).Kind, .int .u64 ((aset o80.2 i309 (api_Type.mk 2 (api_Span.mk 0 0) o80.1.Imm)) 1).Span.Lo, .int .u64 ((aset o80.2 i309 (api_Type.mk 2 (api_Span.mk 0 0) o80.1.Imm)) 1).Span.Hi, .int .i64 ((aset o80.2 i309 (api_Type.mk 2 (api_Span.mk 0 0) o80.1.Imm)) 1).Map, .int .i64 ((aset o80.2 i309 (api_Type.mk 2 (api_Span.mk 0 0) o80.1.Imm)) 2).Kind, .int .u64 ((aset o80.2 i309 (api_Type.mk 2 (api_Span.mk 0 0) o80.1.Imm)) 2).Span.Lo, .int .u64 ((aset o80.2 i309 (api_Type.mk 2 (api_Span.mk 0 0) o80.1.Imm)) 2).Span.Hi, .int .i64 ((aset o80.2 i309 (api_Type.mk 2 (api_Span.mk 0 0) o80.1.Imm)) 2).Map, .int .i64 ((aset o80.2 i309 (api_Type.mk 2 (api_Span.mk 0 0) o80.1.Imm)) 3).Kind, .int .u64 ((aset o80.2 i309 (api_Type.mk 2 (api_Span.mk 0 0) o80.1.Imm)) 3).Span.Lo, .int .u64 ((aset o80.2 i309 (api_Type.mk 2 (api_Span.mk 0 0) o80.1.Imm)) 3).Span.Hi, .int .i64 ((aset o80.2 i309 (api_Type.mk 2 (api_Span.mk 0 0) o80.1.Imm)) 3).Map, .int .i64 ((aset o80.2 i309 (api_Type.mk 2 (api_Span.mk 0 0) o80.1.Imm)) 4).Kind, .int .u64 ((aset o80.2 i309 (api_Type.mk 2 (api_Span.mk 0 0) o80.1.Imm)) 4).Span.Lo, .int .u64 ((aset o80.2 i309 (api_Type.mk 2 (api_Span.mk 0 0) o80.1.Imm)) 4).Span.Hi, .int .i64 ((aset o80.2 i309 (api_Type.mk 2 (api_Span.mk 0 0) o80.1.Imm)) 4).Map, .int .i64 ((aset o80.2 i309 (api_Type.mk 2 (api_Span.mk 0 0) o80.1.Imm)) 5).Kind, .int .u64 ((aset o80.2 i309 (api_Type.mk 2 (api_Span.mk 0 0) o80.1.Imm)) 5).Span.Lo, .int .u64 ((aset o80.2 i309 (api_Type.mk 2 (api_Span.mk 0 0) o80.1.Imm)) 5).Span.Hi, .int .i64 ((aset o80.2 i309 (api_Type.mk 2 (api_Span.mk 0 0) o80.1.Imm)) 5).Map, .int .i64 ((aset o80.2 i309 (api_Type.mk 2 (api_Span.mk 0 0) o80.1.Imm)) 6).Kind, .int .u64 ((aset o80.2 i309 (api_Type.mk 2 (api_Span.mk 0 0) o80.1.Imm)) 6).Span.Lo, .int .u64 ((aset o80.2 i309 (api_Type.mk 2 (api_Span.mk 0 0) o80.1.Imm)) 6).Span.Hi, .int .i64 ((aset o80.2 i309 (api_Type.mk 2 (api_Span.mk 0 0) o80.1.Imm)) 6).Map, .int .i64 ((aset o80.2 i309 (api_Type.mk 2 (api_Span.mk 0 0) o80.1.Imm)) 7).Kind, .int .u64 ((aset o80.2 i309 (api_Type.mk 2 (api_Span.mk 0 0) o80.1.Imm)) 7).Span.Lo, .int .u64 ((aset o80.2 i309 (api_Type.mk 2 (api_Span.mk 0 0) o80.1.Imm)) 7).Span.Hi, .int .i64 ((aset o80.2 i309 (api_Type.mk 2 (api_Span.mk 0 0) o80.1.Imm)) 7).Map] rfl ?_
  intro w350 hst
  refine OW.pure 1 [(5, .int .i64 0)] (by kernel_rfl) (OW.nil rfl (QW.next (CW.ret ?_)))
  have hst := hst.borIn hbo322
  have hst := hst.borIn hbo324
  have hst := hst.toIt 6 rfl (fun _ => rfl) (by decide)
  have hst := hst.toIt 7 rfl (fun _ => rfl) (by decide)
  have hst := hst.toIt 8 rfl (fun _ => rfl) (by decide)
  obtain ⟨S351, hst⟩ := hst.shutP5 (R_t148 wb Sb) rfl 0 9 10 6 7 8 [1, 2, 3, 4, 5] rfl rfl rfl rfl rfl rfl rfl p0 rfl rfl
  obtain rfl := Option.some.inj hF
  refine QW.ret_ct rfl rfl (run_loadN (cs := [.int .i64 ((aset o80.2 i309 (api_Type.mk 2 (api_Span.mk 0 0) o80.1.Imm)) 0).Kind, .int .u64 ((aset o80.2 i309 (api_Type.mk 2 (api_Span.mk 0 0) o80.1.Imm)) 0).Span.Lo, .int .u64 ((aset o80.2 i309 (api_Type.mk 2 (api_Span.mk 0 0) o80.1.Imm)) 0).Span.Hi, .int .i64 ((aset o80.2 i309 (api_Type.mk 2 (api_Span.mk 0 0) o80.1.Imm)) 0).Map, .int .i64 ((aset o80.2 i309 (api_Type.mk 2 (api_Span.mk 0 0) o80.1.Imm)) 1).Kind, .int .u64 ((aset o80.2 i309 (api_Type.mk 2 (api_Span.mk 0 0) o80.1.Imm)) 1).Span.Lo, .int .u64 ((aset o80.2 i309 (api_Type.mk 2 (api_Span.mk 0 0) o80.1.Imm)) 1).Span.Hi, .int .i64 ((aset o80.2 i309 (api_Type.mk 2 (api_Span.mk 0 0) o80.1.Imm)) 1).Map, .int .i64 ((aset o80.2 i309 (api_Type.mk 2 (api_Span.mk 0 0) o80.1.Imm)) 2).Kind, .int .u64 ((aset o80.2 i309 (api_Type.mk 2 (api_Span.mk 0 0) o80.1.Imm)) 2).Span.Lo, .int .u64 ((aset o80.2 i309 (api_Type.mk 2 (api_Span.mk 0 0) o80.1.Imm)) 2).Span.Hi, .int .i64 ((aset o80.2 i309 (api_Type.mk 2 (api_Span.mk 0 0) o80.1.Imm)) 2).Map, .int .i64 ((aset o80.2 i309 (api_Type.mk 2 (api_Span.mk 0 0) o80.1.Imm)) 3).Kind, .int .u64 ((aset o80.2 i309 (api_Type.mk 2 (api_Span.mk 0 0) o80.1.Imm)) 3).Span.Lo, .int .u64 ((aset o80.2 i309 (api_Type.mk 2 (api_Span.mk 0 0) o80.1.Imm)) 3).Span.Hi, .int .i64 ((aset o80.2 i309 (api_Type.mk 2 (api_Span.mk 0 0) o80.1.Imm)) 3).Map, .int .i64 ((aset o80.2 i309 (api_Type.mk 2 (api_Span.mk 0 0) o80.1.Imm)) 4).Kind, .int .u64 ((aset o80.2 i309 (api_Type.mk 2 (api_Span.mk 0 0) o80.1.Imm)) 4).Span.Lo, .int .u64 ((aset o80.2 i309 (api_Type.mk 2 (api_Span.mk 0 0) o80.1.Imm)) 4).Span.Hi, .int .i64 ((aset o80.2 i309 (api_Type.mk 2 (api_Span.mk 0 0) o80.1.Imm)) 4).Map, .int .i64 ((aset o80.2 i309 (api_Type.mk 2 (api_Span.mk 0 0) o80.1.Imm)) 5).Kind, .int .u64 ((aset o80.2 i309 (api_Type.mk 2 (api_Span.mk 0 0) o80.1.Imm)) 5).Span.Lo, .int .u64 ((aset o80.2 i309 (api_Type.mk 2 (api_Span.mk 0 0) o80.1.Imm)) 5).Span.Hi, .int .i64 ((aset o80.2 i309 (api_Type.mk 2 (api_Span.mk 0 0) o80.1.Imm)) 5).Map, .int .i64 ((aset o80.2 i309 (api_Type.mk 2 (api_Span.mk 0 0) o80.1.Imm)) 6).Kind, .int .u64 ((aset o80.2 i309 (api_Type.mk 2 (api_Span.mk 0 0) o80.1.Imm)) 6).Span.Lo, .int .u64 ((aset o80.2 i309 (api_Type.mk 2 (api_Span.mk 0 0) o80.1.Imm)) 6).Span.Hi, .int .i64 ((aset o80.2 i309 (api_Type.mk 2 (api_Span.mk 0 0) o80.1.Imm)) 6).Map, .int .i64 ((aset o80.2 i309 (api_Type.mk 2 (api_Span.mk 0 0) o80.1.Imm)) 7).Kind, .int .u64 ((aset o80.2 i309 (api_Type.mk 2 (api_Span.mk 0 0) o80.1.Imm)) 7).Span.Lo, .int .u64 ((aset o80.2 i309 (api_Type.mk 2 (api_Span.mk 0 0) o80.1.Imm)) 7).Span.Hi, .int .i64 ((aset o80.2 i309 (api_Type.mk 2 (api_Span.mk 0 0) o80.1.Imm)) 7).Map]) (by kernel_rfl) (by kernel_rfl) (hst.blkN 0 rfl 0 32)) rfl ?_
  exact ⟨S351, rfl, hst.keep [5] rfl⟩
 have hF := ite_f hF hc305
 refine CW.cond_f rfl hc305 (CW.seq (CW.region ?_))
 refine OW.pure 2 [(125, .bool (o80.1.Op == 15))] (by kernel_rfl) (OW.nil rfl (QW.next ?_))
 rcases Bool.eq_false_or_eq_true ((o80.1.Op == 15)) with hc352 | hc352
 ·have hF := ite_t hF hc352
  refine CW.cond_t rfl hc352 (CW.skip (QW.block_normal (QW.next (CW.seq (CW.region ?_)))))
  refine OW.ldN (cs := [.int .i64 (o80.2 0).Kind, .int .u64 (o80.2 0).Span.Lo, .int .u64 (o80.2 0).Span.Hi, .int .i64 (o80.2 0).Map, .int .i64 (o80.2 1).Kind, .int .u64 (o80.2 1).Span.Lo, .int .u64 (o80.2 1).Span.Hi, .int .i64 (o80.2 1).Map, .int .i64 (o80.2 2).Kind, .int .u64 (o80.2 2).Span.Lo, .int .u64 (o80.2 2).Span.Hi, .int .i64 (o80.2 2).Map, .int .i64 (o80.2 3).Kind, .int .u64 (o80.2 3).Span.Lo, .int .u64 (o80.2 3).Span.Hi, .int .i64 (o80.2 3).Map, .int .i64 (o80.2 4).Kind, .int .u64 (o80.2 4).Span.Lo, .int .u64 (o80.2 4).Span.Hi, .int .i64 (o80.2 4).Map, .int .i64 (o80.2 5).Kind, .int .u64 (o80.2 5).Span.Lo, .int .u64 (o80.2 5).Span.Hi, .int .i64 (o80.2 5).Map, .int .i64 (o80.2 6).Kind, .int .u64 (o80.2 6).Span.Lo, .int .u64 (o80.2 6).Span.Hi, .int .i64 (o80.2 6).Map, .int .i64 (o80.2 7).Kind, .int .u64 (o80.2 7).Span.Lo, .int .u64 (o80.2 7).Span.Hi, .int .i64 (o80.2 7).Map]) rfl rfl rfl rfl (by kernel_rfl) (by kernel_rfl) (hst.blkN 3 rfl 0 32) ?_
  refine OW.stB hst 1 rfl rfl rfl rfl rfl (by kernel_rfl) rfl rfl [.int .i64 (o80.2 0).Kind, .int .u64 (o80.2 0).Span.Lo, .int .u64 (o80.2 0).Span.Hi, .int .i64 (o80.2 0).Map, .int .i64 (o80.2 1).Kind, .int .u64 (o80.2 1).Span.Lo, .int .u64 (o80.2 1).Span.Hi, .int .i64 (o80.2 1).Map, .int .i64 (o80.2 2).Kind, .int .u64 (o80.2 2).Span.Lo, .int .u64 (o80.2 2).Span.Hi, .int .i64 (o80.2 2).Map, .int .i64 (o80.2 3).Kind, .int .u64 (o80.2 3).Span.Lo, .int .u64 (o80.2 3).Span.Hi, .int .i64 (o80.2 3).Map, .int .i64 (o80.2 4).Kind, .int .u64 (o80.2 4).Span.Lo, .int .u64 (o80.2 4).Span.Hi, .int .i64 (o80.2 4).Map, .int .i64 (o80.2 5).Kind, .int .u64 (o80.2 5).Span.Lo, .int .u64 (o80.2 5).Span.Hi, .int .i64 (o80.2 5).Map, .int .i64 (o80.2 6).Kind, .int .u64 (o80.2 6).Span.Lo, .int .u64 (o80.2 6).Span.Hi, .int .i64 (o80.2 6).Map, .int .i64 (o80.2 7).Kind, .int .u64 (o80.2 7).Span.Lo, .int .u64 (o80.2 7).Span.Hi, .int .i64 (o80.2 7).Map] rfl ?_
  intro w354 hst
  refine OW.pure 1 [(5, .int .i64 0)] (by kernel_rfl) (OW.nil rfl (QW.next (CW.ret ?_)))
  obtain rfl := Option.some.inj hF
  refine QW.ret_ct rfl rfl (run_loadN (cs := [.int .i64 (o80.2 0).Kind, .int .u64 (o80.2 0).Span.Lo, .int .u64 (o80.2 0).Span.Hi, .int .i64 (o80.2 0).Map, .int .i64 (o80.2 1).Kind, .int .u64 (o80.2 1).Span.Lo, .int .u64 (o80.2 1).Span.Hi, .int .i64 (o80.2 1).Map, .int .i64 (o80.2 2).Kind, .int .u64 (o80.2 2).Span.Lo, .int .u64 (o80.2 2).Span.Hi, .int .i64 (o80.2 2).Map, .int .i64 (o80.2 3).Kind, .int .u64 (o80.2 3).Span.Lo, .int .u64 (o80.2 3).Span.Hi, .int .i64 (o80.2 3).Map, .int .i64 (o80.2 4).Kind, .int .u64 (o80.2 4).Span.Lo, .int .u64 (o80.2 4).Span.Hi, .int .i64 (o80.2 4).Map, .int .i64 (o80.2 5).Kind, .int .u64 (o80.2 5).Span.Lo, .int .u64 (o80.2 5).Span.Hi, .int .i64 (o80.2 5).Map, .int .i64 (o80.2 6).Kind, .int .u64 (o80.2 6).Span.Lo, .int .u64 (o80.2 6).Span.Hi, .int .i64 (o80.2 6).Map, .int .i64 (o80.2 7).Kind, .int .u64 (o80.2 7).Span.Lo, .int .u64 (o80.2 7).Span.Hi, .int .i64 (o80.2 7).Map]) (by kernel_rfl) (by kernel_rfl) (hst.blkN 1 rfl 0 32)) rfl ?_
  exact ⟨S77, rfl, hst.keep [0] rfl⟩
 have hF := ite_f hF hc352
 refine CW.cond_f rfl hc352 (CW.seq (CW.seq (CW.region ?_)))
 refine OW.pure 2 [(127, .bool (o80.1.Op == 16))] (by kernel_rfl) (OW.nil rfl (QW.next ?_))
 obtain ⟨o358, ho359, hF⟩ := bind_some' hF
 refine CW.cutK (fun a w1 => Rep 194 [(0, .pointer (some ⟨b1, 0, none⟩)), (1, .int .i64 p1), (4, .pointer (some ⟨b4, 0, none⟩)), (6, .pointer (some ⟨b78, 0, none⟩)), (7, .pointer (some ⟨b79, 0, none⟩)), (8, .pointer (some ⟨b116, 0, none⟩)), (9, .pointer (some ⟨b118, 0, none⟩)), (43, .int .i64 o80.1.Op), (127, .bool o358)] a ∧ St w (fp [itI (R_t116 wb Sb) [.pointer (some ⟨b1, 0, none⟩)] S0 p0]) w1 [itI (R_t116 wb Sb) [.pointer (some ⟨b1, 0, none⟩)] S77 p0, blkI b4 158 [.int .i64 0, .int .u64 0, .int .u64 0, .int .i64 0, .int .i64 0, .int .u64 0, .int .u64 0, .int .i64 0, .int .i64 0, .int .u64 0, .int .u64 0, .int .i64 0, .int .i64 0, .int .u64 0, .int .u64 0, .int .i64 0, .int .i64 0, .int .u64 0, .int .u64 0, .int .i64 0, .int .i64 0, .int .u64 0, .int .u64 0, .int .i64 0, .int .i64 0, .int .u64 0, .int .u64 0, .int .i64 0, .int .i64 0, .int .u64 0, .int .u64 0, .int .i64 0], blkI b78 43 [.int .i64 o80.1.Op, .int .i64 o80.1.D, .int .i64 o80.1.A, .int .i64 o80.1.B, .int .i64 o80.1.Imm], blkI b79 158 [.int .i64 (o80.2 0).Kind, .int .u64 (o80.2 0).Span.Lo, .int .u64 (o80.2 0).Span.Hi, .int .i64 (o80.2 0).Map, .int .i64 (o80.2 1).Kind, .int .u64 (o80.2 1).Span.Lo, .int .u64 (o80.2 1).Span.Hi, .int .i64 (o80.2 1).Map, .int .i64 (o80.2 2).Kind, .int .u64 (o80.2 2).Span.Lo, .int .u64 (o80.2 2).Span.Hi, .int .i64 (o80.2 2).Map, .int .i64 (o80.2 3).Kind, .int .u64 (o80.2 3).Span.Lo, .int .u64 (o80.2 3).Span.Hi, .int .i64 (o80.2 3).Map, .int .i64 (o80.2 4).Kind, .int .u64 (o80.2 4).Span.Lo, .int .u64 (o80.2 4).Span.Hi, .int .i64 (o80.2 4).Map, .int .i64 (o80.2 5).Kind, .int .u64 (o80.2 5).Span.Lo, .int .u64 (o80.2 5).Span.Hi, .int .i64 (o80.2 5).Map, .int .i64 (o80.2 6).Kind, .int .u64 (o80.2 6).Span.Lo, .int .u64 (o80.2 6).Span.Hi, .int .i64 (o80.2 6).Map, .int .i64 (o80.2 7).Kind, .int .u64 (o80.2 7).Span.Lo, .int .u64 (o80.2 7).Span.Hi, .int .i64 (o80.2 7).Map], blkI b116 156 [.int .i64 (o80.2 i157).Kind, .int .u64 (o80.2 i157).Span.Lo, .int .u64 (o80.2 i157).Span.Hi, .int .i64 (o80.2 i157).Map], blkI b118 156 [.int .i64 o141.Kind, .int .u64 o141.Span.Lo, .int .u64 o141.Span.Hi, .int .i64 o141.Map]]) ?_ ?_
 ·rcases Bool.eq_false_or_eq_true ((o80.1.Op == 16)) with hc360 | hc360
  ·have ho359 := ite_t ho359 hc360
   refine CW.cond_t rfl hc360 (CW.skip ?_)
   obtain rfl := Option.some.inj ho359
   exact QW.meet (fun a ha => ⟨ha.agrees (by kernel_rfl), hst.keep [0, 1, 2, 3, 4, 5] rfl⟩)
  have ho359 := ite_f ho359 hc360
  refine CW.cond_f rfl hc360 (CW.seq (CW.region ?_))
  refine OW.pure 2 [(127, .bool (o80.1.Op == 17))] (by kernel_rfl) (OW.nil rfl (QW.next ?_))
  rcases Bool.eq_false_or_eq_true ((o80.1.Op == 17)) with hc361 | hc361
  ·have ho359 := ite_t ho359 hc361
   refine CW.cond_t rfl hc361 (CW.skip ?_)
   obtain rfl := Option.some.inj ho359
   exact QW.meet (fun a ha => ⟨ha.agrees (by kernel_rfl), hst.keep [0, 1, 2, 3, 4, 5] rfl⟩)
  have ho359 := ite_f ho359 hc361
  refine CW.cond_f rfl hc361 (CW.seq (CW.region ?_))
  refine OW.pure 2 [(127, .bool (o80.1.Op == 18))] (by kernel_rfl) (OW.nil rfl (QW.next ?_))
  rcases Bool.eq_false_or_eq_true ((o80.1.Op == 18)) with hc362 | hc362
  ·have ho359 := ite_t ho359 hc362
   refine CW.cond_t rfl hc362 (CW.skip ?_)
   obtain rfl := Option.some.inj ho359
   exact QW.meet (fun a ha => ⟨ha.agrees (by kernel_rfl), hst.keep [0, 1, 2, 3, 4, 5] rfl⟩)
  have ho359 := ite_f ho359 hc362
  refine CW.cond_f rfl hc362 (CW.region ?_)
  refine OW.pure 2 [(127, .bool (o80.1.Op == 19))] (by kernel_rfl) (OW.nil rfl ?_)
  obtain rfl := Option.some.inj ho359
  exact QW.meet (fun a ha => ⟨ha.agrees (by kernel_rfl), hst.keep [0, 1, 2, 3, 4, 5] rfl⟩)
 rintro a w1 ⟨ha, hst⟩
 refine CW.go ?_ ha
 rcases Bool.eq_false_or_eq_true (o358) with hc363 | hc363
 ·have hF := ite_t hF hc363
  refine CW.cond_t rfl hc363 (CW.seq ?_)
  refine CW.plan (by kernel_rfl) ?_
  intro w373 hch374
  have hst := hst.same hch374
  refine OA.ldN (i := 0) (cs := [.int .i64 (o80.2 0).Kind, .int .u64 (o80.2 0).Span.Lo, .int .u64 (o80.2 0).Span.Hi, .int .i64 (o80.2 0).Map, .int .i64 (o80.2 1).Kind, .int .u64 (o80.2 1).Span.Lo, .int .u64 (o80.2 1).Span.Hi, .int .i64 (o80.2 1).Map, .int .i64 (o80.2 2).Kind, .int .u64 (o80.2 2).Span.Lo, .int .u64 (o80.2 2).Span.Hi, .int .i64 (o80.2 2).Map, .int .i64 (o80.2 3).Kind, .int .u64 (o80.2 3).Span.Lo, .int .u64 (o80.2 3).Span.Hi, .int .i64 (o80.2 3).Map, .int .i64 (o80.2 4).Kind, .int .u64 (o80.2 4).Span.Lo, .int .u64 (o80.2 4).Span.Hi, .int .i64 (o80.2 4).Map, .int .i64 (o80.2 5).Kind, .int .u64 (o80.2 5).Span.Lo, .int .u64 (o80.2 5).Span.Hi, .int .i64 (o80.2 5).Map, .int .i64 (o80.2 6).Kind, .int .u64 (o80.2 6).Span.Lo, .int .u64 (o80.2 6).Span.Hi, .int .i64 (o80.2 6).Map, .int .i64 (o80.2 7).Kind, .int .u64 (o80.2 7).Span.Lo, .int .u64 (o80.2 7).Span.Hi, .int .i64 (o80.2 7).Map]) rfl (by kernel_rfl) rfl rfl rfl (by kernel_rfl) (by kernel_rfl) (hst.blkN 3 rfl 0 32) ?_
  refine OA.ldN (i := 1) (cs := [.int .i64 (o80.2 i157).Kind, .int .u64 (o80.2 i157).Span.Lo, .int .u64 (o80.2 i157).Span.Hi, .int .i64 (o80.2 i157).Map]) rfl (by kernel_rfl) rfl rfl rfl (by kernel_rfl) (by kernel_rfl) (hst.blkN 4 rfl 0 4) ?_
  refine OA.ldN (i := 2) (cs := [.int .i64 o141.Kind, .int .u64 o141.Span.Lo, .int .u64 o141.Span.Hi, .int .i64 o141.Map]) rfl (by kernel_rfl) rfl rfl rfl (by kernel_rfl) (by kernel_rfl) (hst.blkN 5 rfl 0 4) ?_
  refine OA.act (i := 3) [0] (by kernel_rfl) rfl rfl (by kernel_rfl) (by kernel_rfl) ?_
  refine OW.row (α := api_Type) (e := 156) (enc := enc_api_Type) (sz := 4) hst rfl rfl rfl [(o80.2 i157), o141] rfl (fun _ => rfl) rfl rfl (fun _ => by kernel_rfl) ?_
  intro g375 w376 hst
  refine OA.next ⟨(hst.blkN 3 rfl 0 32), trivial⟩ ?_
  refine OA.act (i := 4) [0] (by kernel_rfl) rfl rfl (by kernel_rfl) (by kernel_rfl) ?_
  obtain ⟨r377, hr378, hF⟩ := bind_some' hF
  refine OW.fn rfl rfl rfl rfl (by kernel_rfl) (judge_nums_ok _ (.slice (some ⟨g375, 0, none⟩) 2 2) ([(o80.2 i157), o141]) r377 hr378 (hst.part [] rfl) (hst.rd 6 rfl (fun _ => rfl) [] rfl (hst.len 6 rfl).1)) ?_
  rintro e w379 ⟨rfl, hst380⟩
  refine ⟨_, rfl, ?_⟩
  have hst := hst.join (idx := []) (rest := [0, 1, 2, 3, 4, 5, 6]) rfl hst380
  refine OA.next ⟨(hst.blkN 3 rfl 0 32), trivial⟩ ?_
  refine OA.act (i := 5) [] (by kernel_rfl) rfl rfl (by kernel_rfl) (by kernel_rfl) ?_
  refine OW.stB hst 1 rfl rfl rfl rfl rfl (by kernel_rfl) rfl rfl [.int .i64 (o80.2 0).Kind, .int .u64 (o80.2 0).Span.Lo, .int .u64 (o80.2 0).Span.Hi, .int .i64 (o80.2 0).Map, .int .i64 (o80.2 1).Kind, .int .u64 (o80.2 1).Span.Lo, .int .u64 (o80.2 1).Span.Hi, .int .i64 (o80.2 1).Map, .int .i64 (o80.2 2).Kind, .int .u64 (o80.2 2).Span.Lo, .int .u64 (o80.2 2).Span.Hi, .int .i64 (o80.2 2).Map, .int .i64 (o80.2 3).Kind, .int .u64 (o80.2 3).Span.Lo, .int .u64 (o80.2 3).Span.Hi, .int .i64 (o80.2 3).Map, .int .i64 (o80.2 4).Kind, .int .u64 (o80.2 4).Span.Lo, .int .u64 (o80.2 4).Span.Hi, .int .i64 (o80.2 4).Map, .int .i64 (o80.2 5).Kind, .int .u64 (o80.2 5).Span.Lo, .int .u64 (o80.2 5).Span.Hi, .int .i64 (o80.2 5).Map, .int .i64 (o80.2 6).Kind, .int .u64 (o80.2 6).Span.Lo, .int .u64 (o80.2 6).Span.Hi, .int .i64 (o80.2 6).Map, .int .i64 (o80.2 7).Kind, .int .u64 (o80.2 7).Span.Lo, .int .u64 (o80.2 7).Span.Hi, .int .i64 (o80.2 7).Map] rfl ?_
  intro w381 hst
  refine OA.next trivial ?_
  refine OA.act (i := 6) [] (by kernel_rfl) rfl rfl (by kernel_rfl) (by kernel_rfl) ?_
  refine OW.pure 1 [(5, .int .i64 r377)] (by kernel_rfl) (OA.next trivial ?_)
  refine OA.fin (by kernel_rfl) (by kernel_rfl) (QW.next (CW.ret (QW.block_ret (QW.then_ret ?_))))
  obtain rfl := Option.some.inj hF
  refine QW.ret_ct rfl rfl (run_loadN (cs := [.int .i64 (o80.2 0).Kind, .int .u64 (o80.2 0).Span.Lo, .int .u64 (o80.2 0).Span.Hi, .int .i64 (o80.2 0).Map, .int .i64 (o80.2 1).Kind, .int .u64 (o80.2 1).Span.Lo, .int .u64 (o80.2 1).Span.Hi, .int .i64 (o80.2 1).Map, .int .i64 (o80.2 2).Kind, .int .u64 (o80.2 2).Span.Lo, .int .u64 (o80.2 2).Span.Hi, .int .i64 (o80.2 2).Map, .int .i64 (o80.2 3).Kind, .int .u64 (o80.2 3).Span.Lo, .int .u64 (o80.2 3).Span.Hi, .int .i64 (o80.2 3).Map, .int .i64 (o80.2 4).Kind, .int .u64 (o80.2 4).Span.Lo, .int .u64 (o80.2 4).Span.Hi, .int .i64 (o80.2 4).Map, .int .i64 (o80.2 5).Kind, .int .u64 (o80.2 5).Span.Lo, .int .u64 (o80.2 5).Span.Hi, .int .i64 (o80.2 5).Map, .int .i64 (o80.2 6).Kind, .int .u64 (o80.2 6).Span.Lo, .int .u64 (o80.2 6).Span.Hi, .int .i64 (o80.2 6).Map, .int .i64 (o80.2 7).Kind, .int .u64 (o80.2 7).Span.Lo, .int .u64 (o80.2 7).Span.Hi, .int .i64 (o80.2 7).Map]) (by kernel_rfl) (by kernel_rfl) (hst.blkN 1 rfl 0 32)) rfl ?_
  exact ⟨S77, rfl, hst.keep [0] rfl⟩
 have hF := ite_f hF hc363
 refine CW.cond_f rfl hc363 (CW.seq (CW.region ?_))
 refine OW.pure 2 [(137, .bool (o80.1.Op == 20))] (by kernel_rfl) (OW.nil rfl (QW.next ?_))
 rcases Bool.eq_false_or_eq_true ((o80.1.Op == 20)) with hc382 | hc382
 ·have hF := ite_t hF hc382
  refine CW.cond_t rfl hc382 (CW.seq (CW.seq (CW.region ?_)))
  refine OW.ldN (cs := [.int .i64 (o80.2 i157).Kind, .int .u64 (o80.2 i157).Span.Lo, .int .u64 (o80.2 i157).Span.Hi, .int .i64 (o80.2 i157).Map]) rfl rfl rfl rfl (by kernel_rfl) (by kernel_rfl) (hst.blkN 4 rfl 0 4) ?_
  refine OW.row (α := api_Type) (e := 156) (enc := enc_api_Type) (sz := 4) hst rfl rfl rfl [(o80.2 i157)] rfl (fun _ => rfl) rfl rfl (fun _ => by kernel_rfl) ?_
  intro g389 w390 hst
  obtain ⟨r391, hr392, hF⟩ := bind_some' hF
  refine OW.fn rfl rfl rfl rfl (by kernel_rfl) (judge_nums_ok _ (.slice (some ⟨g389, 0, none⟩) 1 1) ([(o80.2 i157)]) r391 hr392 (hst.part [] rfl) (hst.rd 6 rfl (fun _ => rfl) [] rfl (hst.len 6 rfl).1)) ?_
  rintro e w393 ⟨rfl, hst394⟩
  refine ⟨_, rfl, ?_⟩
  have hst := hst.join (idx := []) (rest := [0, 1, 2, 3, 4, 5, 6]) rfl hst394
  refine OW.pure 1 [(10, .int .i64 r391)] (by kernel_rfl) (OW.nil rfl (QW.next (CW.seq (CW.region ?_))))
  refine OW.pure 2 [(143, .bool (r391 != 0))] (by kernel_rfl) (OW.nil rfl (QW.next ?_))
  rcases Bool.eq_false_or_eq_true ((r391 != 0)) with hc395 | hc395
  ·have hF := ite_t hF hc395
   refine CW.cond_t rfl hc395 (CW.seq (CW.region ?_))
   refine OW.ldN (cs := [.int .i64 (o80.2 0).Kind, .int .u64 (o80.2 0).Span.Lo, .int .u64 (o80.2 0).Span.Hi, .int .i64 (o80.2 0).Map, .int .i64 (o80.2 1).Kind, .int .u64 (o80.2 1).Span.Lo, .int .u64 (o80.2 1).Span.Hi, .int .i64 (o80.2 1).Map, .int .i64 (o80.2 2).Kind, .int .u64 (o80.2 2).Span.Lo, .int .u64 (o80.2 2).Span.Hi, .int .i64 (o80.2 2).Map, .int .i64 (o80.2 3).Kind, .int .u64 (o80.2 3).Span.Lo, .int .u64 (o80.2 3).Span.Hi, .int .i64 (o80.2 3).Map, .int .i64 (o80.2 4).Kind, .int .u64 (o80.2 4).Span.Lo, .int .u64 (o80.2 4).Span.Hi, .int .i64 (o80.2 4).Map, .int .i64 (o80.2 5).Kind, .int .u64 (o80.2 5).Span.Lo, .int .u64 (o80.2 5).Span.Hi, .int .i64 (o80.2 5).Map, .int .i64 (o80.2 6).Kind, .int .u64 (o80.2 6).Span.Lo, .int .u64 (o80.2 6).Span.Hi, .int .i64 (o80.2 6).Map, .int .i64 (o80.2 7).Kind, .int .u64 (o80.2 7).Span.Lo, .int .u64 (o80.2 7).Span.Hi, .int .i64 (o80.2 7).Map]) rfl rfl rfl rfl (by kernel_rfl) (by kernel_rfl) (hst.blkN 3 rfl 0 32) ?_
   refine OW.pure 1 [(145, .int .i64 r391)] (by kernel_rfl) ?_
   refine OW.stB hst 1 rfl rfl rfl rfl rfl (by kernel_rfl) rfl rfl [.int .i64 (o80.2 0).Kind, .int .u64 (o80.2 0).Span.Lo, .int .u64 (o80.2 0).Span.Hi, .int .i64 (o80.2 0).Map, .int .i64 (o80.2 1).Kind, .int .u64 (o80.2 1).Span.Lo, .int .u64 (o80.2 1).Span.Hi, .int .i64 (o80.2 1).Map, .int .i64 (o80.2 2).Kind, .int .u64 (o80.2 2).Span.Lo, .int .u64 (o80.2 2).Span.Hi, .int .i64 (o80.2 2).Map, .int .i64 (o80.2 3).Kind, .int .u64 (o80.2 3).Span.Lo, .int .u64 (o80.2 3).Span.Hi, .int .i64 (o80.2 3).Map, .int .i64 (o80.2 4).Kind, .int .u64 (o80.2 4).Span.Lo, .int .u64 (o80.2 4).Span.Hi, .int .i64 (o80.2 4).Map, .int .i64 (o80.2 5).Kind, .int .u64 (o80.2 5).Span.Lo, .int .u64 (o80.2 5).Span.Hi, .int .i64 (o80.2 5).Map, .int .i64 (o80.2 6).Kind, .int .u64 (o80.2 6).Span.Lo, .int .u64 (o80.2 6).Span.Hi, .int .i64 (o80.2 6).Map, .int .i64 (o80.2 7).Kind, .int .u64 (o80.2 7).Span.Lo, .int .u64 (o80.2 7).Span.Hi, .int .i64 (o80.2 7).Map] rfl ?_
   intro w397 hst
   refine OW.pure 1 [(5, .int .i64 r391)] (by kernel_rfl) (OW.nil rfl (QW.next (CW.ret (QW.then_ret (QW.block_ret (QW.then_ret ?_))))))
   obtain rfl := Option.some.inj hF
   refine QW.ret_ct rfl rfl (run_loadN (cs := [.int .i64 (o80.2 0).Kind, .int .u64 (o80.2 0).Span.Lo, .int .u64 (o80.2 0).Span.Hi, .int .i64 (o80.2 0).Map, .int .i64 (o80.2 1).Kind, .int .u64 (o80.2 1).Span.Lo, .int .u64 (o80.2 1).Span.Hi, .int .i64 (o80.2 1).Map, .int .i64 (o80.2 2).Kind, .int .u64 (o80.2 2).Span.Lo, .int .u64 (o80.2 2).Span.Hi, .int .i64 (o80.2 2).Map, .int .i64 (o80.2 3).Kind, .int .u64 (o80.2 3).Span.Lo, .int .u64 (o80.2 3).Span.Hi, .int .i64 (o80.2 3).Map, .int .i64 (o80.2 4).Kind, .int .u64 (o80.2 4).Span.Lo, .int .u64 (o80.2 4).Span.Hi, .int .i64 (o80.2 4).Map, .int .i64 (o80.2 5).Kind, .int .u64 (o80.2 5).Span.Lo, .int .u64 (o80.2 5).Span.Hi, .int .i64 (o80.2 5).Map, .int .i64 (o80.2 6).Kind, .int .u64 (o80.2 6).Span.Lo, .int .u64 (o80.2 6).Span.Hi, .int .i64 (o80.2 6).Map, .int .i64 (o80.2 7).Kind, .int .u64 (o80.2 7).Span.Lo, .int .u64 (o80.2 7).Span.Hi, .int .i64 (o80.2 7).Map]) (by kernel_rfl) (by kernel_rfl) (hst.blkN 1 rfl 0 32)) rfl ?_
   exact ⟨S77, rfl, hst.keep [0] rfl⟩
  have hF := ite_f hF hc395
  refine CW.cond_f rfl hc395 (CW.skip (QW.next (CW.seq (CW.region ?_))))
  refine OW.pure 1 [(146, .int .i64 0)] (by kernel_rfl) (OW.nil rfl (QW.next ?_))
  obtain ⟨o592, ho593, hF⟩ := bind_some' hF
  refine CW.cutQ (fun a w1 => ∃ (t594 : Unit) (S591 : List Nat), o592 = .inl t594 ∧ Rep 194 [(4, .pointer (some ⟨b4, 0, none⟩)), (7, .pointer (some ⟨b79, 0, none⟩))] a ∧ St w (fp [itI (R_t116 wb Sb) [.pointer (some ⟨b1, 0, none⟩)] S0 p0]) w1 [blkI b4 158 [.int .i64 0, .int .u64 0, .int .u64 0, .int .i64 0, .int .i64 0, .int .u64 0, .int .u64 0, .int .i64 0, .int .i64 0, .int .u64 0, .int .u64 0, .int .i64 0, .int .i64 0, .int .u64 0, .int .u64 0, .int .i64 0, .int .i64 0, .int .u64 0, .int .u64 0, .int .i64 0, .int .i64 0, .int .u64 0, .int .u64 0, .int .i64 0, .int .i64 0, .int .u64 0, .int .u64 0, .int .i64 0, .int .i64 0, .int .u64 0, .int .u64 0, .int .i64 0], blkI b79 158 [.int .i64 (o80.2 0).Kind, .int .u64 (o80.2 0).Span.Lo, .int .u64 (o80.2 0).Span.Hi, .int .i64 (o80.2 0).Map, .int .i64 (o80.2 1).Kind, .int .u64 (o80.2 1).Span.Lo, .int .u64 (o80.2 1).Span.Hi, .int .i64 (o80.2 1).Map, .int .i64 (o80.2 2).Kind, .int .u64 (o80.2 2).Span.Lo, .int .u64 (o80.2 2).Span.Hi, .int .i64 (o80.2 2).Map, .int .i64 (o80.2 3).Kind, .int .u64 (o80.2 3).Span.Lo, .int .u64 (o80.2 3).Span.Hi, .int .i64 (o80.2 3).Map, .int .i64 (o80.2 4).Kind, .int .u64 (o80.2 4).Span.Lo, .int .u64 (o80.2 4).Span.Hi, .int .i64 (o80.2 4).Map, .int .i64 (o80.2 5).Kind, .int .u64 (o80.2 5).Span.Lo, .int .u64 (o80.2 5).Span.Hi, .int .i64 (o80.2 5).Map, .int .i64 (o80.2 6).Kind, .int .u64 (o80.2 6).Span.Lo, .int .u64 (o80.2 6).Span.Hi, .int .i64 (o80.2 6).Map, .int .i64 (o80.2 7).Kind, .int .u64 (o80.2 7).Span.Lo, .int .u64 (o80.2 7).Span.Hi, .int .i64 (o80.2 7).Map], itI (R_t116 wb Sb) [.pointer (some ⟨b1, 0, none⟩)] S591 p0]) ?_ ?_
  ·refine CW.block ?_
   refine CW.loop (fun n a w1 => ∃ (i723 : Nat) (s721 : Unit) (S722 : List Nat), i723 + n = 8 ∧ Rep 194 [(0, .pointer (some ⟨b1, 0, none⟩)), (1, .int .i64 p1), (4, .pointer (some ⟨b4, 0, none⟩)), (6, .pointer (some ⟨b78, 0, none⟩)), (7, .pointer (some ⟨b79, 0, none⟩)), (146, .int .i64 (i723 : Int))] a ∧ St w (fp [itI (R_t116 wb Sb) [.pointer (some ⟨b1, 0, none⟩)] S0 p0]) w1 [itI (R_t116 wb Sb) [.pointer (some ⟨b1, 0, none⟩)] S722 p0, blkI b4 158 [.int .i64 0, .int .u64 0, .int .u64 0, .int .i64 0, .int .i64 0, .int .u64 0, .int .u64 0, .int .i64 0, .int .i64 0, .int .u64 0, .int .u64 0, .int .i64 0, .int .i64 0, .int .u64 0, .int .u64 0, .int .i64 0, .int .i64 0, .int .u64 0, .int .u64 0, .int .i64 0, .int .i64 0, .int .u64 0, .int .u64 0, .int .i64 0, .int .i64 0, .int .u64 0, .int .u64 0, .int .i64 0, .int .i64 0, .int .u64 0, .int .u64 0, .int .i64 0], blkI b78 43 [.int .i64 o80.1.Op, .int .i64 o80.1.D, .int .i64 o80.1.A, .int .i64 o80.1.B, .int .i64 o80.1.Imm], blkI b79 158 [.int .i64 (o80.2 0).Kind, .int .u64 (o80.2 0).Span.Lo, .int .u64 (o80.2 0).Span.Hi, .int .i64 (o80.2 0).Map, .int .i64 (o80.2 1).Kind, .int .u64 (o80.2 1).Span.Lo, .int .u64 (o80.2 1).Span.Hi, .int .i64 (o80.2 1).Map, .int .i64 (o80.2 2).Kind, .int .u64 (o80.2 2).Span.Lo, .int .u64 (o80.2 2).Span.Hi, .int .i64 (o80.2 2).Map, .int .i64 (o80.2 3).Kind, .int .u64 (o80.2 3).Span.Lo, .int .u64 (o80.2 3).Span.Hi, .int .i64 (o80.2 3).Map, .int .i64 (o80.2 4).Kind, .int .u64 (o80.2 4).Span.Lo, .int .u64 (o80.2 4).Span.Hi, .int .i64 (o80.2 4).Map, .int .i64 (o80.2 5).Kind, .int .u64 (o80.2 5).Span.Lo, .int .u64 (o80.2 5).Span.Hi, .int .i64 (o80.2 5).Map, .int .i64 (o80.2 6).Kind, .int .u64 (o80.2 6).Span.Lo, .int .u64 (o80.2 6).Span.Hi, .int .i64 (o80.2 6).Map, .int .i64 (o80.2 7).Kind, .int .u64 (o80.2 7).Span.Lo, .int .u64 (o80.2 7).Span.Hi, .int .i64 (o80.2 7).Map]] ∧ forN (judge_judge_one_l1 p0 p1 o80) (fun (s721 : Unit) => (.inl ())) n i723 s721 = some o592) 8 (fun a ha => ⟨0, (), S77, Nat.zero_add _, ha.agrees (by kernel_rfl), hst.keep [0, 1, 2, 3] rfl, ho593⟩) ?_
   rintro n719 a w1 ⟨i723, s721, S722, hi724, ha, hst, hl720⟩
   refine CW.go ?_ ha
   refine CW.seq (CW.region ?_)
   refine OW.pure 1 [(147, .bool (decide ((i723 : Int) < 8)))] (by kernel_rfl) (OW.nil rfl (QW.next (CW.seq ?_)))
   rcases Bool.eq_false_or_eq_true (decide ((i723 : Int) < 8)) with hc725 | hc725
   ·rcases n719 with _ | n719
    ·exact (cnt0 hi724 hc725).elim
    refine CW.cond_t rfl hc725 (CW.skip (QW.next (CW.seq (CW.block (CW.seq (CW.region ?_))))))
    refine OW.pure 2 [(11, .int .i64 (i723 : Int))] (by kernel_rfl) (OW.nil rfl (QW.next (CW.seq ?_)))
    obtain ⟨v726, S727, v728, S729, v730, S731, v732, S733, v734, S735, hst⟩ := hst.openQ5 0 rfl rfl rfl rfl rfl rfl
    have hbo736 := hst.borOut 4 rfl
    have hbr737 := hbo736.bor hb
    have hbo738 := hst.borOut 5 rfl
    have hbr739 := hbo738.bor hb
    have hst := hst.toRow1 6 rfl
    have hst := hst.toRow1 7 rfl
    have hst := hst.toRow1 8 rfl
    have hst := hst.keep [0, 1, 2, 3, 6, 7, 8] rfl
    obtain ⟨l740, a741, c742, rfl⟩ := hbr737.len
    obtain ⟨l743, a744, c745, rfl⟩ := hbr739.len
    obtain ⟨l746, a747, c748, rfl⟩ := hst.len 4 rfl
    obtain ⟨l749, a750, c751, rfl⟩ := hst.len 5 rfl
    obtain ⟨l752, a753, c754, rfl⟩ := hst.len 6 rfl
    have hst : St _ _ _ [blkI b1 148 [.slice a741 (p0.Module.Maps).length c742, .slice a744 (p0.Module.Code).length c745, .slice a747 (p0.came).length c748, .slice a750 (p0.any).length c751, .slice a753 (p0.loops).length c754], _, _, _, _, _, _] := hst
    refine CW.tail 15 (by kernel_rfl) (by kernel_rfl) ?_
    intro w769 hch770
    have hst := hst.same hch770
    refine OS.pure 1 [(149, .int .i64 (i723 : Int))] rfl (by kernel_rfl) ?_
    obtain ⟨i771, hi772, hl720⟩ := bind_some' hl720
    refine OS.op (v := .pointer (some ⟨b79, 0 + Int.toNat (i723 : Int) * 4, none⟩)) rfl rfl rfl rfl rfl (fun a ha => aidx_run (n := 8) 156 4 rfl rfl rfl (ain_some hi772).1 (ain_some hi772).2.1 (by kernel_rfl) (by kernel_rfl) a _ ha) ?_
    refine OS.ldN (cs := enc_api_Type (o80.2 i771)) rfl rfl rfl rfl rfl (by kernel_rfl) (by kernel_rfl) (hst.arrB 3 rfl enc_api_Type (fun _ => rfl) 8 o80.2 0 rfl rfl hi772) ?_
    refine OS.pure 3 [(154, .pointer (some ⟨b1, 2, none⟩))] rfl (by kernel_rfl) ?_
    refine OS.ld rfl rfl rfl rfl rfl (by kernel_rfl) (hst.blk 0 rfl rfl) ?_
    refine OS.pure 2 [(156, .int .i64 p1), (157, .pointer (some ⟨b78, 1, none⟩))] rfl (by kernel_rfl) ?_
    refine OS.ld rfl rfl rfl rfl rfl (by kernel_rfl) (hst.blk 2 rfl rfl) ?_
    refine OS.pure 2 [(159, .int .i64 (w64 (p1 - o80.1.D))), (160, .int .i64 (i723 : Int))] rfl (by kernel_rfl) ?_
    obtain ⟨x773, hx774, hl720⟩ := bind_some' hl720
    obtain ⟨g776, o777, c778, hv775⟩ := hst.rowv 4 rfl hx774
    refine OS.idx 158 32 rfl rfl rfl rfl rfl hv775 rfl (idx_some hx774).1 (idx_some hx774).2.1 (by kernel_rfl) (by kernel_rfl) ?_
    refine OS.op (v := .pointer (some ⟨g776, o777 + Int.toNat (w64 (p1 - o80.1.D)) * 32 + 0 + Int.toNat (i723 : Int) * 4, none⟩)) rfl rfl rfl rfl rfl (fun a ha => aidx_run (n := 8) 156 4 rfl rfl rfl (ain_some hi772).1 (ain_some hi772).2.1 (by kernel_rfl) (by kernel_rfl) a _ ha) ?_
    refine OS.ldN (cs := enc_api_Type (x773 i771)) rfl rfl rfl rfl rfl (by kernel_rfl) (by kernel_rfl) (cell_arr (hst.rowc 4 rfl (fun _ => rfl) hx774 hv775) enc_api_Type (fun _ => rfl) 8 x773 0 rfl rfl hi772) ?_
    refine OS.on ?_
    obtain ⟨r779, hr780, hl720⟩ := bind_some' hl720
    refine OW.fn rfl rfl rfl rfl (by kernel_rfl) (judge_fits_ok _ (o80.2 i771) (x773 i771) r779 hr780 (hst.part [] rfl)) ?_
    rintro e w781 ⟨rfl, hst782⟩
    refine ⟨_, rfl, ?_⟩
    have hst := hst.join (idx := []) (rest := [0, 1, 2, 3, 4, 5, 6]) rfl hst782
    refine OW.pure 1 [(165, .bool (!r779))] (by kernel_rfl) (OW.nil rfl (QW.next ?_))
    rcases Bool.eq_false_or_eq_true ((!r779)) with hc783 | hc783
    ·have hl720 := ite_t hl720 hc783
     refine CW.cond_t rfl hc783 (CW.seq (CW.region ?_))
     refine OW.ldN (cs := [.int .i64 (o80.2 0).Kind, .int .u64 (o80.2 0).Span.Lo, .int .u64 (o80.2 0).Span.Hi, .int .i64 (o80.2 0).Map, .int .i64 (o80.2 1).Kind, .int .u64 (o80.2 1).Span.Lo, .int .u64 (o80.2 1).Span.Hi, .int .i64 (o80.2 1).Map, .int .i64 (o80.2 2).Kind, .int .u64 (o80.2 2).Span.Lo, .int .u64 (o80.2 2).Span.Hi, .int .i64 (o80.2 2).Map, .int .i64 (o80.2 3).Kind, .int .u64 (o80.2 3).Span.Lo, .int .u64 (o80.2 3).Span.Hi, .int .i64 (o80.2 3).Map, .int .i64 (o80.2 4).Kind, .int .u64 (o80.2 4).Span.Lo, .int .u64 (o80.2 4).Span.Hi, .int .i64 (o80.2 4).Map, .int .i64 (o80.2 5).Kind, .int .u64 (o80.2 5).Span.Lo, .int .u64 (o80.2 5).Span.Hi, .int .i64 (o80.2 5).Map, .int .i64 (o80.2 6).Kind, .int .u64 (o80.2 6).Span.Lo, .int .u64 (o80.2 6).Span.Hi, .int .i64 (o80.2 6).Map, .int .i64 (o80.2 7).Kind, .int .u64 (o80.2 7).Span.Lo, .int .u64 (o80.2 7).Span.Hi, .int .i64 (o80.2 7).Map]) rfl rfl rfl rfl (by kernel_rfl) (by kernel_rfl) (hst.blkN 3 rfl 0 32) ?_
     refine OW.stB hst 1 rfl rfl rfl rfl rfl (by kernel_rfl) rfl rfl [.int .i64 (o80.2 0).Kind, .int .u64 (o80.2 0).Span.Lo, .int .u64 (o80.2 0).Span.Hi, .int .i64 (o80.2 0).Map, .int .i64 (o80.2 1).Kind, .int .u64 (o80.2 1).Span.Lo, .int .u64 (o80.2 1).Span.Hi, .int .i64 (o80.2 1).Map, .int .i64 (o80.2 2).Kind, .int .u64 (o80.2 2).Span.Lo, .int .u64 (o80.2 2).Span.Hi, .int .i64 (o80.2 2).Map, .int .i64 (o80.2 3).Kind, .int .u64 (o80.2 3).Span.Lo, .int .u64 (o80.2 3).Span.Hi, .int .i64 (o80.2 3).Map, .int .i64 (o80.2 4).Kind, .int .u64 (o80.2 4).Span.Lo, .int .u64 (o80.2 4).Span.Hi, .int .i64 (o80.2 4).Map, .int .i64 (o80.2 5).Kind, .int .u64 (o80.2 5).Span.Lo, .int .u64 (o80.2 5).Span.Hi, .int .i64 (o80.2 5).Map, .int .i64 (o80.2 6).Kind, .int .u64 (o80.2 6).Span.Lo, .int .u64 (o80.2 6).Span.Hi, .int .i64 (o80.2 6).Map, .int .i64 (o80.2 7).Kind, .int .u64 (o80.2 7).Span.Lo, .int .u64 (o80.2 7).Span.Hi, .int .i64 (o80.2 7).Map] rfl ?_
     intro w785 hst
     refine OW.pure 1 [(5, .int .i64 33)] (by kernel_rfl) (OW.nil rfl (QW.next (CW.ret (QW.block_ret (QW.then_ret (QW.then_ret (QW.block_ret (QW.then_ret (QW.block_ret (QW.then_ret ?_))))))))))
     have hst := hst.borIn hbo736
     have hst := hst.borIn hbo738
     have hst := hst.toIt 4 rfl (fun _ => rfl) (by decide)
     have hst := hst.toIt 5 rfl (fun _ => rfl) (by decide)
     have hst := hst.toIt 6 rfl (fun _ => rfl) (by decide)
     obtain ⟨S786, hst⟩ := hst.shutP5 (R_t148 wb Sb) rfl 0 7 8 4 5 6 [1, 2, 3] rfl rfl rfl rfl rfl rfl rfl p0 rfl rfl
     obtain rfl := Option.some.inj hl720
     obtain rfl := Option.some.inj hF
     refine QW.ret_ct rfl rfl (run_loadN (cs := [.int .i64 (o80.2 0).Kind, .int .u64 (o80.2 0).Span.Lo, .int .u64 (o80.2 0).Span.Hi, .int .i64 (o80.2 0).Map, .int .i64 (o80.2 1).Kind, .int .u64 (o80.2 1).Span.Lo, .int .u64 (o80.2 1).Span.Hi, .int .i64 (o80.2 1).Map, .int .i64 (o80.2 2).Kind, .int .u64 (o80.2 2).Span.Lo, .int .u64 (o80.2 2).Span.Hi, .int .i64 (o80.2 2).Map, .int .i64 (o80.2 3).Kind, .int .u64 (o80.2 3).Span.Lo, .int .u64 (o80.2 3).Span.Hi, .int .i64 (o80.2 3).Map, .int .i64 (o80.2 4).Kind, .int .u64 (o80.2 4).Span.Lo, .int .u64 (o80.2 4).Span.Hi, .int .i64 (o80.2 4).Map, .int .i64 (o80.2 5).Kind, .int .u64 (o80.2 5).Span.Lo, .int .u64 (o80.2 5).Span.Hi, .int .i64 (o80.2 5).Map, .int .i64 (o80.2 6).Kind, .int .u64 (o80.2 6).Span.Lo, .int .u64 (o80.2 6).Span.Hi, .int .i64 (o80.2 6).Map, .int .i64 (o80.2 7).Kind, .int .u64 (o80.2 7).Span.Lo, .int .u64 (o80.2 7).Span.Hi, .int .i64 (o80.2 7).Map]) (by kernel_rfl) (by kernel_rfl) (hst.blkN 0 rfl 0 32)) rfl ?_
     exact ⟨S786, rfl, hst.keep [3] rfl⟩
    have hl720 := ite_f hl720 hc783
    refine CW.cond_f rfl hc783 (CW.skip (QW.block_normal (QW.next (CW.region ?_))))
    refine OW.pure 2 [(146, .int .i64 (w64 ((i723 : Int) + 1)))] (by kernel_rfl) (OW.nil rfl ?_)
    have hst := hst.borIn hbo736
    have hst := hst.borIn hbo738
    have hst := hst.toIt 4 rfl (fun _ => rfl) (by decide)
    have hst := hst.toIt 5 rfl (fun _ => rfl) (by decide)
    have hst := hst.toIt 6 rfl (fun _ => rfl) (by decide)
    obtain ⟨S787, hst⟩ := hst.shutP5 (R_t148 wb Sb) rfl 0 7 8 4 5 6 [1, 2, 3] rfl rfl rfl rfl rfl rfl rfl p0 rfl rfl
    refine QW.say 146 rfl (congrArg (Value.int .i64) (w64_cnt hc725 (by decide))) ?_
    exact QW.meet (fun a ha => ⟨n719, Nat.lt_succ_self _, i723 + 1, (), S787, cnt_next hi724, ha.agrees (by kernel_rfl), hst.keep [3, 0, 1, 2] rfl, hl720⟩)
   rcases n719 with _ | n719
   ·refine CW.cond_f rfl hc725 ?_
    refine CW.exit (QW.then_exit (QW.then_exit ?_))
    refine QW.block_here ?_
    obtain rfl := Option.some.inj hl720
    exact QW.meet (fun a ha => ⟨(), S722, rfl, ha.agrees (by kernel_rfl), hst.keep [1, 3, 0] rfl⟩)
   exact (cnt1 hi724 hc725).elim
  rintro a w1 ⟨t594, S591, rfl, ha, hst⟩
  refine QW.go ?_ ha
  refine QW.block_normal (QW.next (CW.seq (CW.region ?_)))
  refine OW.ldN (cs := [.int .i64 (o80.2 0).Kind, .int .u64 (o80.2 0).Span.Lo, .int .u64 (o80.2 0).Span.Hi, .int .i64 (o80.2 0).Map, .int .i64 (o80.2 1).Kind, .int .u64 (o80.2 1).Span.Lo, .int .u64 (o80.2 1).Span.Hi, .int .i64 (o80.2 1).Map, .int .i64 (o80.2 2).Kind, .int .u64 (o80.2 2).Span.Lo, .int .u64 (o80.2 2).Span.Hi, .int .i64 (o80.2 2).Map, .int .i64 (o80.2 3).Kind, .int .u64 (o80.2 3).Span.Lo, .int .u64 (o80.2 3).Span.Hi, .int .i64 (o80.2 3).Map, .int .i64 (o80.2 4).Kind, .int .u64 (o80.2 4).Span.Lo, .int .u64 (o80.2 4).Span.Hi, .int .i64 (o80.2 4).Map, .int .i64 (o80.2 5).Kind, .int .u64 (o80.2 5).Span.Lo, .int .u64 (o80.2 5).Span.Hi, .int .i64 (o80.2 5).Map, .int .i64 (o80.2 6).Kind, .int .u64 (o80.2 6).Span.Lo, .int .u64 (o80.2 6).Span.Hi, .int .i64 (o80.2 6).Map, .int .i64 (o80.2 7).Kind, .int .u64 (o80.2 7).Span.Lo, .int .u64 (o80.2 7).Span.Hi, .int .i64 (o80.2 7).Map]) rfl rfl rfl rfl (by kernel_rfl) (by kernel_rfl) (hst.blkN 1 rfl 0 32) ?_
  refine OW.stB hst 0 rfl rfl rfl rfl rfl (by kernel_rfl) rfl rfl [.int .i64 (o80.2 0).Kind, .int .u64 (o80.2 0).Span.Lo, .int .u64 (o80.2 0).Span.Hi, .int .i64 (o80.2 0).Map, .int .i64 (o80.2 1).Kind, .int .u64 (o80.2 1).Span.Lo, .int .u64 (o80.2 1).Span.Hi, .int .i64 (o80.2 1).Map, .int .i64 (o80.2 2).Kind, .int .u64 (o80.2 2).Span.Lo, .int .u64 (o80.2 2).Span.Hi, .int .i64 (o80.2 2).Map, .int .i64 (o80.2 3).Kind, .int .u64 (o80.2 3).Span.Lo, .int .u64 (o80.2 3).Span.Hi, .int .i64 (o80.2 3).Map, .int .i64 (o80.2 4).Kind, .int .u64 (o80.2 4).Span.Lo, .int .u64 (o80.2 4).Span.Hi, .int .i64 (o80.2 4).Map, .int .i64 (o80.2 5).Kind, .int .u64 (o80.2 5).Span.Lo, .int .u64 (o80.2 5).Span.Hi, .int .i64 (o80.2 5).Map, .int .i64 (o80.2 6).Kind, .int .u64 (o80.2 6).Span.Lo, .int .u64 (o80.2 6).Span.Hi, .int .i64 (o80.2 6).Map, .int .i64 (o80.2 7).Kind, .int .u64 (o80.2 7).Span.Lo, .int .u64 (o80.2 7).Span.Hi, .int .i64 (o80.2 7).Map] rfl ?_
  intro w789 hst
  refine OW.pure 1 [(5, .int .i64 0)] (by kernel_rfl) (OW.nil rfl (QW.next (CW.ret ?_)))
  obtain rfl := Option.some.inj hF
  refine QW.ret_ct rfl rfl (run_loadN (cs := [.int .i64 (o80.2 0).Kind, .int .u64 (o80.2 0).Span.Lo, .int .u64 (o80.2 0).Span.Hi, .int .i64 (o80.2 0).Map, .int .i64 (o80.2 1).Kind, .int .u64 (o80.2 1).Span.Lo, .int .u64 (o80.2 1).Span.Hi, .int .i64 (o80.2 1).Map, .int .i64 (o80.2 2).Kind, .int .u64 (o80.2 2).Span.Lo, .int .u64 (o80.2 2).Span.Hi, .int .i64 (o80.2 2).Map, .int .i64 (o80.2 3).Kind, .int .u64 (o80.2 3).Span.Lo, .int .u64 (o80.2 3).Span.Hi, .int .i64 (o80.2 3).Map, .int .i64 (o80.2 4).Kind, .int .u64 (o80.2 4).Span.Lo, .int .u64 (o80.2 4).Span.Hi, .int .i64 (o80.2 4).Map, .int .i64 (o80.2 5).Kind, .int .u64 (o80.2 5).Span.Lo, .int .u64 (o80.2 5).Span.Hi, .int .i64 (o80.2 5).Map, .int .i64 (o80.2 6).Kind, .int .u64 (o80.2 6).Span.Lo, .int .u64 (o80.2 6).Span.Hi, .int .i64 (o80.2 6).Map, .int .i64 (o80.2 7).Kind, .int .u64 (o80.2 7).Span.Lo, .int .u64 (o80.2 7).Span.Hi, .int .i64 (o80.2 7).Map]) (by kernel_rfl) (by kernel_rfl) (hst.blkN 0 rfl 0 32)) rfl ?_
  exact ⟨S591, rfl, hst.keep [2] rfl⟩
 have hF := ite_f hF hc382
 refine CW.cond_f rfl hc382 (CW.seq (CW.region ?_))
 refine OW.pure 2 [(168, .bool (o80.1.Op == 21))] (by kernel_rfl) (OW.nil rfl (QW.next ?_))
 rcases Bool.eq_false_or_eq_true ((o80.1.Op == 21)) with hc790 | hc790
 ·have hF := ite_t hF hc790
  refine CW.cond_t rfl hc790 (CW.seq (CW.region ?_))
  refine OW.pure 1 [(170, .pointer (some ⟨b78, 4, none⟩))] (by kernel_rfl) ?_
  refine OW.ld rfl rfl rfl rfl (by kernel_rfl) (hst.blk 2 rfl rfl) ?_
  refine OW.pure 1 [(12, .int .i64 o80.1.Imm)] (by kernel_rfl) (OW.nil rfl (QW.next (CW.seq (CW.region ?_))))
  refine OW.pure 2 [(172, .int .i64 o80.1.Imm), (173, .int .i64 o80.1.Imm)] (by kernel_rfl) ?_
  obtain ⟨r805, hr806, hF⟩ := bind_some' hF
  refine OW.fn rfl rfl rfl rfl (by kernel_rfl) (sigs_Args_ok _ fu o80.1.Imm r805 hr806 (hst.part [] rfl) (hT1.give hst [])) ?_
  rintro e w807 ⟨v809, rfl, hst808⟩
  refine ⟨_, rfl, ?_⟩
  have hst := hst.join (idx := []) (rest := [0, 1, 2, 3, 4, 5]) rfl hst808
  obtain ⟨l810, a811, c812, rfl⟩ := hst.len 0 rfl
  refine OW.pure 2 [(176, .int .i64 (w64 (1 + ((r805).length : Int))))] (by kernel_rfl) ?_
  obtain ⟨ys813, hcut814, hF⟩ := bind_some' hF
  refine OW.op (v := .slice (shd (some ⟨b79, 0, none⟩) 8 (Int.toNat 1) 4) (ys813).length (8 - Int.toNat 1)) rfl rfl rfl rfl (fun a ha => asl_sub (e := 156) (xs := arrL 8 o80.2) 4 rfl rfl rfl rfl rfl hcut814 (by kernel_rfl) (by kernel_rfl) a _ ha) ?_
  obtain ⟨r815, hr816, hF⟩ := bind_some' hF
  refine OW.fn rfl rfl rfl rfl (by kernel_rfl) (sigs_Check_ok _ fu o80.1.Imm (.slice (shd (some ⟨b79, 0, none⟩) 8 (Int.toNat 1) 4) (ys813).length (8 - Int.toNat 1)) ys813 r815 hr816 (hst.part [] rfl) ((hst.arrRd 4 rfl enc_api_Type (fun _ => rfl) 8 o80.2 0 rfl rfl rfl [] rfl).part hcut814) (hT1.give hst [])) ?_
  rintro e w817 ⟨rfl, hst818⟩
  refine ⟨_, rfl, ?_⟩
  have hst := hst.join (idx := []) (rest := [0, 1, 2, 3, 4, 5, 6]) rfl hst818
  refine OW.pure 1 [(13, .int .i64 r815)] (by kernel_rfl) (OW.nil rfl (QW.next (CW.seq (CW.region ?_))))
  refine OW.pure 1 [(180, .int .i64 o80.1.Imm)] (by kernel_rfl) ?_
  obtain ⟨r824, hr825, hF⟩ := bind_some' hF
  refine OW.fn rfl rfl rfl rfl (by kernel_rfl) (sigs_Result_ok _ o80.1.Imm r824 hr825 (hst.part [] rfl) (hT1.give hst [])) ?_
  rintro e w826 ⟨rfl, hst827⟩
  refine ⟨_, rfl, ?_⟩
  have hst := hst.join (idx := []) (rest := [0, 1, 2, 3, 4, 5, 6]) rfl hst827
  refine OW.pure 3 [(182, .agg [.int .i64 r824.1.Kind, .int .u64 r824.1.Span.Lo, .int .u64 r824.1.Span.Hi, .int .i64 r824.1.Map].toArray)] (by kernel_rfl) ?_
  refine OW.op (v := .pointer (some ⟨b79, 0, none⟩)) rfl rfl rfl rfl (fun a ha => aidx_run (n := 8) (q := 0) 156 4 rfl rfl rfl (by decide) (by decide) (by kernel_rfl) (by kernel_rfl) a _ ha) ?_
  refine OW.stB hst 4 rfl rfl rfl rfl rfl (by kernel_rfl) rfl rfl [.int .i64 r824.1.Kind, .int .u64 r824.1.Span.Lo, .int .u64 r824.1.Span.Hi, .int .i64 r824.1.Map, .int .i64 (o80.2 1).Kind, .int .u64 (o80.2 1).Span.Lo, .int .u64 (o80.2 1).Span.Hi, .int .i64 (o80.2 1).Map, .int .i64 (o80.2 2).Kind, .int .u64 (o80.2 2).Span.Lo, .int .u64 (o80.2 2).Span.Hi, .int .i64 (o80.2 2).Map, .int .i64 (o80.2 3).Kind, .int .u64 (o80.2 3).Span.Lo, .int .u64 (o80.2 3).Span.Hi, .int .i64 (o80.2 3).Map, .int .i64 (o80.2 4).Kind, .int .u64 (o80.2 4).Span.Lo, .int .u64 (o80.2 4).Span.Hi, .int .i64 (o80.2 4).Map, .int .i64 (o80.2 5).Kind, .int .u64 (o80.2 5).Span.Lo, .int .u64 (o80.2 5).Span.Hi, .int .i64 (o80.2 5).Map, .int .i64 (o80.2 6).Kind, .int .u64 (o80.2 6).Span.Lo, .int .u64 (o80.2 6).Span.Hi, .int .i64 (o80.2 6).Map, .int .i64 (o80.2 7).Kind, .int .u64 (o80.2 7).Span.Lo, .int .u64 (o80.2 7).Span.Hi, .int .i64 (o80.2 7).Map] rfl ?_
  intro w828 hst
  refine OW.nil rfl (QW.next (CW.seq (CW.region ?_)))
  refine OW.ldN (cs := [.int .i64 r824.1.Kind, .int .u64 r824.1.Span.Lo, .int .u64 r824.1.Span.Hi, .int .i64 r824.1.Map, .int .i64 (o80.2 1).Kind, .int .u64 (o80.2 1).Span.Lo, .int .u64 (o80.2 1).Span.Hi, .int .i64 (o80.2 1).Map, .int .i64 (o80.2 2).Kind, .int .u64 (o80.2 2).Span.Lo, .int .u64 (o80.2 2).Span.Hi, .int .i64 (o80.2 2).Map, .int .i64 (o80.2 3).Kind, .int .u64 (o80.2 3).Span.Lo, .int .u64 (o80.2 3).Span.Hi, .int .i64 (o80.2 3).Map, .int .i64 (o80.2 4).Kind, .int .u64 (o80.2 4).Span.Lo, .int .u64 (o80.2 4).Span.Hi, .int .i64 (o80.2 4).Map, .int .i64 (o80.2 5).Kind, .int .u64 (o80.2 5).Span.Lo, .int .u64 (o80.2 5).Span.Hi, .int .i64 (o80.2 5).Map, .int .i64 (o80.2 6).Kind, .int .u64 (o80.2 6).Span.Lo, .int .u64 (o80.2 6).Span.Hi, .int .i64 (o80.2 6).Map, .int .i64 (o80.2 7).Kind, .int .u64 (o80.2 7).Span.Lo, .int .u64 (o80.2 7).Span.Hi, .int .i64 (o80.2 7).Map]) rfl rfl rfl rfl (by kernel_rfl) (by kernel_rfl) (hst.blkN 4 rfl 0 32) ?_
  refine OW.pure 1 [(186, .int .i64 r815)] (by kernel_rfl) ?_
  refine OW.stB hst 2 rfl rfl rfl rfl rfl (by kernel_rfl) rfl rfl [.int .i64 r824.1.Kind, .int .u64 r824.1.Span.Lo, .int .u64 r824.1.Span.Hi, .int .i64 r824.1.Map, .int .i64 (o80.2 1).Kind, .int .u64 (o80.2 1).Span.Lo, .int .u64 (o80.2 1).Span.Hi, .int .i64 (o80.2 1).Map, .int .i64 (o80.2 2).Kind, .int .u64 (o80.2 2).Span.Lo, .int .u64 (o80.2 2).Span.Hi, .int .i64 (o80.2 2).Map, .int .i64 (o80.2 3).Kind, .int .u64 (o80.2 3).Span.Lo, .int .u64 (o80.2 3).Span.Hi, .int .i64 (o80.2 3).Map, .int .i64 (o80.2 4).Kind, .int .u64 (o80.2 4).Span.Lo, .int .u64 (o80.2 4).Span.Hi, .int .i64 (o80.2 4).Map, .int .i64 (o80.2 5).Kind, .int .u64 (o80.2 5).Span.Lo, .int .u64 (o80.2 5).Span.Hi, .int .i64 (o80.2 5).Map, .int .i64 (o80.2 6).Kind, .int .u64 (o80.2 6).Span.Lo, .int .u64 (o80.2 6).Span.Hi, .int .i64 (o80.2 6).Map, .int .i64 (o80.2 7).Kind, .int .u64 (o80.2 7).Span.Lo, .int .u64 (o80.2 7).Span.Hi, .int .i64 (o80.2 7).Map] rfl ?_
  intro w830 hst
  refine OW.pure 1 [(5, .int .i64 r815)] (by kernel_rfl) (OW.nil rfl (QW.next (CW.ret (QW.block_ret (QW.then_ret ?_)))))
  obtain rfl := Option.some.inj hF
  refine QW.ret_ct rfl rfl (run_loadN (cs := [.int .i64 r824.1.Kind, .int .u64 r824.1.Span.Lo, .int .u64 r824.1.Span.Hi, .int .i64 r824.1.Map, .int .i64 (o80.2 1).Kind, .int .u64 (o80.2 1).Span.Lo, .int .u64 (o80.2 1).Span.Hi, .int .i64 (o80.2 1).Map, .int .i64 (o80.2 2).Kind, .int .u64 (o80.2 2).Span.Lo, .int .u64 (o80.2 2).Span.Hi, .int .i64 (o80.2 2).Map, .int .i64 (o80.2 3).Kind, .int .u64 (o80.2 3).Span.Lo, .int .u64 (o80.2 3).Span.Hi, .int .i64 (o80.2 3).Map, .int .i64 (o80.2 4).Kind, .int .u64 (o80.2 4).Span.Lo, .int .u64 (o80.2 4).Span.Hi, .int .i64 (o80.2 4).Map, .int .i64 (o80.2 5).Kind, .int .u64 (o80.2 5).Span.Lo, .int .u64 (o80.2 5).Span.Hi, .int .i64 (o80.2 5).Map, .int .i64 (o80.2 6).Kind, .int .u64 (o80.2 6).Span.Lo, .int .u64 (o80.2 6).Span.Hi, .int .i64 (o80.2 6).Map, .int .i64 (o80.2 7).Kind, .int .u64 (o80.2 7).Span.Lo, .int .u64 (o80.2 7).Span.Hi, .int .i64 (o80.2 7).Map]) (by kernel_rfl) (by kernel_rfl) (hst.blkN 2 rfl 0 32)) rfl ?_
  exact ⟨S77, rfl, hst.keep [1] rfl⟩
 have hF := ite_f hF hc790
 refine CW.cond_f rfl hc790 (CW.seq (CW.region ?_))
 refine OW.pure 2 [(187, .bool (o80.1.Op == 22))] (by kernel_rfl) (OW.nil rfl (QW.next ?_))
 rcases Bool.eq_false_or_eq_true ((o80.1.Op == 22)) with hc831 | hc831
 ·have hF := ite_t hF hc831
  refine CW.cond_t rfl hc831 (CW.seq ?_)
  refine CW.plan (by kernel_rfl) ?_
  intro w841 hch842
  have hst := hst.same hch842
  refine OA.ldN (i := 0) (cs := [.int .i64 (o80.2 0).Kind, .int .u64 (o80.2 0).Span.Lo, .int .u64 (o80.2 0).Span.Hi, .int .i64 (o80.2 0).Map, .int .i64 (o80.2 1).Kind, .int .u64 (o80.2 1).Span.Lo, .int .u64 (o80.2 1).Span.Hi, .int .i64 (o80.2 1).Map, .int .i64 (o80.2 2).Kind, .int .u64 (o80.2 2).Span.Lo, .int .u64 (o80.2 2).Span.Hi, .int .i64 (o80.2 2).Map, .int .i64 (o80.2 3).Kind, .int .u64 (o80.2 3).Span.Lo, .int .u64 (o80.2 3).Span.Hi, .int .i64 (o80.2 3).Map, .int .i64 (o80.2 4).Kind, .int .u64 (o80.2 4).Span.Lo, .int .u64 (o80.2 4).Span.Hi, .int .i64 (o80.2 4).Map, .int .i64 (o80.2 5).Kind, .int .u64 (o80.2 5).Span.Lo, .int .u64 (o80.2 5).Span.Hi, .int .i64 (o80.2 5).Map, .int .i64 (o80.2 6).Kind, .int .u64 (o80.2 6).Span.Lo, .int .u64 (o80.2 6).Span.Hi, .int .i64 (o80.2 6).Map, .int .i64 (o80.2 7).Kind, .int .u64 (o80.2 7).Span.Lo, .int .u64 (o80.2 7).Span.Hi, .int .i64 (o80.2 7).Map]) rfl (by kernel_rfl) rfl rfl rfl (by kernel_rfl) (by kernel_rfl) (hst.blkN 3 rfl 0 32) ?_
  refine OA.ldN (i := 1) (cs := [.int .i64 (o80.2 i157).Kind, .int .u64 (o80.2 i157).Span.Lo, .int .u64 (o80.2 i157).Span.Hi, .int .i64 (o80.2 i157).Map]) rfl (by kernel_rfl) rfl rfl rfl (by kernel_rfl) (by kernel_rfl) (hst.blkN 4 rfl 0 4) ?_
  refine OA.act (i := 2) [0] (by kernel_rfl) rfl rfl (by kernel_rfl) (by kernel_rfl) ?_
  refine OW.row (α := api_Type) (e := 156) (enc := enc_api_Type) (sz := 4) hst rfl rfl rfl [(o80.2 i157)] rfl (fun _ => rfl) rfl rfl (fun _ => by kernel_rfl) ?_
  intro g843 w844 hst
  refine OA.next ⟨(hst.blkN 3 rfl 0 32), trivial⟩ ?_
  refine OA.act (i := 3) [0] (by kernel_rfl) rfl rfl (by kernel_rfl) (by kernel_rfl) ?_
  obtain ⟨r845, hr846, hF⟩ := bind_some' hF
  refine OW.fn rfl rfl rfl rfl (by kernel_rfl) (judge_nums_ok _ (.slice (some ⟨g843, 0, none⟩) 1 1) ([(o80.2 i157)]) r845 hr846 (hst.part [] rfl) (hst.rd 6 rfl (fun _ => rfl) [] rfl (hst.len 6 rfl).1)) ?_
  rintro e w847 ⟨rfl, hst848⟩
  refine ⟨_, rfl, ?_⟩
  have hst := hst.join (idx := []) (rest := [0, 1, 2, 3, 4, 5, 6]) rfl hst848
  refine OA.next ⟨(hst.blkN 3 rfl 0 32), trivial⟩ ?_
  refine OA.act (i := 4) [] (by kernel_rfl) rfl rfl (by kernel_rfl) (by kernel_rfl) ?_
  refine OW.stB hst 1 rfl rfl rfl rfl rfl (by kernel_rfl) rfl rfl [.int .i64 (o80.2 0).Kind, .int .u64 (o80.2 0).Span.Lo, .int .u64 (o80.2 0).Span.Hi, .int .i64 (o80.2 0).Map, .int .i64 (o80.2 1).Kind, .int .u64 (o80.2 1).Span.Lo, .int .u64 (o80.2 1).Span.Hi, .int .i64 (o80.2 1).Map, .int .i64 (o80.2 2).Kind, .int .u64 (o80.2 2).Span.Lo, .int .u64 (o80.2 2).Span.Hi, .int .i64 (o80.2 2).Map, .int .i64 (o80.2 3).Kind, .int .u64 (o80.2 3).Span.Lo, .int .u64 (o80.2 3).Span.Hi, .int .i64 (o80.2 3).Map, .int .i64 (o80.2 4).Kind, .int .u64 (o80.2 4).Span.Lo, .int .u64 (o80.2 4).Span.Hi, .int .i64 (o80.2 4).Map, .int .i64 (o80.2 5).Kind, .int .u64 (o80.2 5).Span.Lo, .int .u64 (o80.2 5).Span.Hi, .int .i64 (o80.2 5).Map, .int .i64 (o80.2 6).Kind, .int .u64 (o80.2 6).Span.Lo, .int .u64 (o80.2 6).Span.Hi, .int .i64 (o80.2 6).Map, .int .i64 (o80.2 7).Kind, .int .u64 (o80.2 7).Span.Lo, .int .u64 (o80.2 7).Span.Hi, .int .i64 (o80.2 7).Map] rfl ?_
  intro w849 hst
  refine OA.next trivial ?_
  refine OA.act (i := 5) [] (by kernel_rfl) rfl rfl (by kernel_rfl) (by kernel_rfl) ?_
  refine OW.pure 1 [(5, .int .i64 r845)] (by kernel_rfl) (OA.next trivial ?_)
  refine OA.fin (by kernel_rfl) (by kernel_rfl) (QW.next (CW.ret (QW.block_ret (QW.then_ret ?_))))
  obtain rfl := Option.some.inj hF
  refine QW.ret_ct rfl rfl (run_loadN (cs := [.int .i64 (o80.2 0).Kind, .int .u64 (o80.2 0).Span.Lo, .int .u64 (o80.2 0).Span.Hi, .int .i64 (o80.2 0).Map, .int .i64 (o80.2 1).Kind, .int .u64 (o80.2 1).Span.Lo, .int .u64 (o80.2 1).Span.Hi, .int .i64 (o80.2 1).Map, .int .i64 (o80.2 2).Kind, .int .u64 (o80.2 2).Span.Lo, .int .u64 (o80.2 2).Span.Hi, .int .i64 (o80.2 2).Map, .int .i64 (o80.2 3).Kind, .int .u64 (o80.2 3).Span.Lo, .int .u64 (o80.2 3).Span.Hi, .int .i64 (o80.2 3).Map, .int .i64 (o80.2 4).Kind, .int .u64 (o80.2 4).Span.Lo, .int .u64 (o80.2 4).Span.Hi, .int .i64 (o80.2 4).Map, .int .i64 (o80.2 5).Kind, .int .u64 (o80.2 5).Span.Lo, .int .u64 (o80.2 5).Span.Hi, .int .i64 (o80.2 5).Map, .int .i64 (o80.2 6).Kind, .int .u64 (o80.2 6).Span.Lo, .int .u64 (o80.2 6).Span.Hi, .int .i64 (o80.2 6).Map, .int .i64 (o80.2 7).Kind, .int .u64 (o80.2 7).Span.Lo, .int .u64 (o80.2 7).Span.Hi, .int .i64 (o80.2 7).Map]) (by kernel_rfl) (by kernel_rfl) (hst.blkN 1 rfl 0 32)) rfl ?_
  exact ⟨S77, rfl, hst.keep [0] rfl⟩
 have hF := ite_f hF hc831
 refine CW.cond_f rfl hc831 (CW.seq (CW.region ?_))
 refine OW.pure 1 [(45, .pointer (some ⟨b78, 0, none⟩))] (by kernel_rfl) ?_
 refine OW.ld rfl rfl rfl rfl (by kernel_rfl) (hst.blk 2 rfl rfl) ?_
 refine OW.pure 1 [(47, .pointer (some ⟨b116, 1, none⟩))] (by kernel_rfl) ?_
 refine OW.ldN (cs := [.int .u64 (o80.2 i157).Span.Lo, .int .u64 (o80.2 i157).Span.Hi]) rfl rfl rfl rfl (by kernel_rfl) (by kernel_rfl) (hst.blkN 4 rfl 1 2) ?_
 refine OW.pure 1 [(49, .pointer (some ⟨b118, 1, none⟩))] (by kernel_rfl) ?_
 refine OW.ldN (cs := [.int .u64 o141.Span.Lo, .int .u64 o141.Span.Hi]) rfl rfl rfl rfl (by kernel_rfl) (by kernel_rfl) (hst.blkN 5 rfl 1 2) ?_
 obtain ⟨r857, hr858, hF⟩ := bind_some' hF
 refine OW.fn rfl rfl rfl rfl (by kernel_rfl) (span_Do_ok _ o80.1.Op (o80.2 i157).Span o141.Span r857 hr858 (hst.part [] rfl)) ?_
 rintro e w859 ⟨rfl, hst860⟩
 refine ⟨_, rfl, ?_⟩
 have hst := hst.join (idx := []) (rest := [0, 1, 2, 3, 4, 5]) rfl hst860
 refine OW.pure 3 [(52, .agg [.int .u64 r857.1.Lo, .int .u64 r857.1.Hi].toArray), (53, .bool r857.2)] (by kernel_rfl) ?_
 refine OW.alloc hst rfl rfl rfl [.int .u64 0, .int .u64 0] (by kernel_rfl) ?_
 intro b861 w862 hst
 refine OW.stB hst 6 rfl rfl rfl rfl rfl (by kernel_rfl) rfl rfl [.int .u64 r857.1.Lo, .int .u64 r857.1.Hi] rfl ?_
 intro w863 hst
 refine OW.pure 1 [] (by kernel_rfl) (OW.nil rfl (QW.next (CW.seq ?_)))
 refine CW.plan (by kernel_rfl) ?_
 intro w873 hch874
 have hst := hst.same hch874
 refine OA.pure [0] [(54, .pointer (some ⟨b78, 1, none⟩))] (by kernel_rfl) ?_
 refine OA.ld (i := 1) rfl (by kernel_rfl) rfl rfl rfl (by kernel_rfl) (hst.blk 2 rfl rfl) ?_
 refine OA.ldN (i := 2) (cs := [.int .u64 r857.1.Lo, .int .u64 r857.1.Hi]) rfl (by kernel_rfl) rfl rfl rfl (by kernel_rfl) (by kernel_rfl) (hst.blkN 6 rfl 0 2) ?_
 refine OA.act (i := 3) [1] (by kernel_rfl) rfl rfl (by kernel_rfl) (by kernel_rfl) ?_
 obtain ⟨r875, hr876, hF⟩ := bind_some' hF
 refine OW.fn rfl rfl rfl rfl (by kernel_rfl) (judge_number_ok _ r857.1 r875 hr876 (hst.part [] rfl)) ?_
 rintro e w877 ⟨rfl, hst878⟩
 refine ⟨_, rfl, ?_⟩
 have hst := hst.join (idx := []) (rest := [0, 1, 2, 3, 4, 5, 6]) rfl hst878
 refine OA.next ⟨(hst.blk 2 rfl rfl), trivial⟩ ?_
 obtain ⟨i879, hi880, hF⟩ := bind_some' hF
 refine OA.val (i := 4) (v := .pointer (some ⟨b79, 0 + Int.toNat o80.1.D * 4, none⟩)) rfl (by kernel_rfl) rfl rfl rfl rfl (fun a w ha => aidx_run (n := 8) 156 4 rfl rfl rfl (ain_some hi880).1 (ain_some hi880).2.1 (by kernel_rfl) (by kernel_rfl) a w ha) ?_
 refine OA.act (i := 5) [] (by kernel_rfl) rfl rfl (by kernel_rfl) (by kernel_rfl) ?_
 refine OW.stA hst 3 rfl rfl rfl rfl rfl (by kernel_rfl) rfl enc_api_Type (fun _ => rfl) 8 o80.2 0 rfl rfl hi880 0 rfl rfl r875 rfl [.int .i64 ((aset o80.2 i879 r875) 0).Kind, .int .u64 ((aset o80.2 i879 r875) 0).Span.Lo, .int .u64 ((aset o80.2 i879 r875) 0).Span.Hi, .int .i64 ((aset o80.2 i879 r875) 0).Map, .int .i64 ((aset o80.2 i879 r875) 1).Kind, .int .u64 ((aset o80.2 i879 r875) 1).Span.Lo, .int .u64 ((aset o80.2 i879 r875) 1).Span.Hi, .int .i64 ((aset o80.2 i879 r875) 1).Map, .int .i64 ((aset o80.2 i879 r875) 2).Kind, .int .u64 ((aset o80.2 i879 r875) 2).Span.Lo, .int .u64 ((aset o80.2 i879 r875) 2).Span.Hi, .int .i64 ((aset o80.2 i879 r875) 2).Map, .int .i64 ((aset o80.2 i879 r875) 3).Kind, .int .u64 ((aset o80.2 i879 r875) 3).Span.Lo, .int .u64 ((aset o80.2 i879 r875) 3).Span.Hi, .int .i64 ((aset o80.2 i879 r875) 3).Map, .int .i64 ((aset o80.2 i879 r875) 4).Kind, .int .u64 ((aset o80.2 i879 r875) 4).Span.Lo, .int .u64 ((aset o80.2 i879 r875) 4).Span.Hi, .int .i64 ((aset o80.2 i879 r875) 4).Map, .int .i64 ((aset o80.2 i879 r875) 5).Kind, .int .u64 ((aset o80.2 i879 r875) 5).Span.Lo, .int .u64 ((aset o80.2 i879 r875) 5).Span.Hi, .int .i64 ((aset o80.2 i879 r875) 5).Map, .int .i64 ((aset o80.2 i879 r875) 6).Kind, .int .u64 ((aset o80.2 i879 r875) 6).Span.Lo, .int .u64 ((aset o80.2 i879 r875) 6).Span.Hi, .int .i64 ((aset o80.2 i879 r875) 6).Map, .int .i64 ((aset o80.2 i879 r875) 7).Kind, .int .u64 ((aset o80.2 i879 r875) 7).Span.Lo, .int .u64 ((aset o80.2 i879 r875) 7).Span.Hi, .int .i64 ((aset o80.2 i879 r875) 7).Map] rfl ?_
 intro w881 hst
 refine OA.next trivial ?_
 refine OA.fin (by kernel_rfl) (by kernel_rfl) (QW.next (CW.seq ?_))
 refine CW.plan (by kernel_rfl) ?_
 intro w891 hch892
 have hst := hst.same hch892
 refine OA.ldN (i := 0) (cs := [.int .i64 ((aset o80.2 i879 r875) 0).Kind, .int .u64 ((aset o80.2 i879 r875) 0).Span.Lo, .int .u64 ((aset o80.2 i879 r875) 0).Span.Hi, .int .i64 ((aset o80.2 i879 r875) 0).Map, .int .i64 ((aset o80.2 i879 r875) 1).Kind, .int .u64 ((aset o80.2 i879 r875) 1).Span.Lo, .int .u64 ((aset o80.2 i879 r875) 1).Span.Hi, .int .i64 ((aset o80.2 i879 r875) 1).Map, .int .i64 ((aset o80.2 i879 r875) 2).Kind, .int .u64 ((aset o80.2 i879 r875) 2).Span.Lo, .int .u64 ((aset o80.2 i879 r875) 2).Span.Hi, .int .i64 ((aset o80.2 i879 r875) 2).Map, .int .i64 ((aset o80.2 i879 r875) 3).Kind, .int .u64 ((aset o80.2 i879 r875) 3).Span.Lo, .int .u64 ((aset o80.2 i879 r875) 3).Span.Hi, .int .i64 ((aset o80.2 i879 r875) 3).Map, .int .i64 ((aset o80.2 i879 r875) 4).Kind, .int .u64 ((aset o80.2 i879 r875) 4).Span.Lo, .int .u64 ((aset o80.2 i879 r875) 4).Span.Hi, .int .i64 ((aset o80.2 i879 r875) 4).Map, .int .i64 ((aset o80.2 i879 r875) 5).Kind, .int .u64 ((aset o80.2 i879 r875) 5).Span.Lo, .int .u64 ((aset o80.2 i879 r875) 5).Span.Hi, .int .i64 ((aset o80.2 i879 r875) 5).Map, .int .i64 ((aset o80.2 i879 r875) 6).Kind, .int .u64 ((aset o80.2 i879 r875) 6).Span.Lo, .int .u64 ((aset o80.2 i879 r875) 6).Span.Hi, .int .i64 ((aset o80.2 i879 r875) 6).Map, .int .i64 ((aset o80.2 i879 r875) 7).Kind, .int .u64 ((aset o80.2 i879 r875) 7).Span.Lo, .int .u64 ((aset o80.2 i879 r875) 7).Span.Hi, .int .i64 ((aset o80.2 i879 r875) 7).Map]) rfl (by kernel_rfl) rfl rfl rfl (by kernel_rfl) (by kernel_rfl) (hst.blkN 3 rfl 0 32) ?_
 refine OA.ldN (i := 1) (cs := [.int .i64 (o80.2 i157).Kind, .int .u64 (o80.2 i157).Span.Lo, .int .u64 (o80.2 i157).Span.Hi, .int .i64 (o80.2 i157).Map]) rfl (by kernel_rfl) rfl rfl rfl (by kernel_rfl) (by kernel_rfl) (hst.blkN 4 rfl 0 4) ?_
 refine OA.ldN (i := 2) (cs := [.int .i64 o141.Kind, .int .u64 o141.Span.Lo, .int .u64 o141.Span.Hi, .int .i64 o141.Map]) rfl (by kernel_rfl) rfl rfl rfl (by kernel_rfl) (by kernel_rfl) (hst.blkN 5 rfl 0 4) ?_
 refine OA.act (i := 3) [0] (by kernel_rfl) rfl rfl (by kernel_rfl) (by kernel_rfl) ?_
 refine OW.row (α := api_Type) (e := 156) (enc := enc_api_Type) (sz := 4) hst rfl rfl rfl [(o80.2 i157), o141] rfl (fun _ => rfl) rfl rfl (fun _ => by kernel_rfl) ?_
 intro g893 w894 hst
 refine OA.next ⟨(hst.blkN 3 rfl 0 32), trivial⟩ ?_
 refine OA.act (i := 4) [0] (by kernel_rfl) rfl rfl (by kernel_rfl) (by kernel_rfl) ?_
 obtain ⟨r895, hr896, hF⟩ := bind_some' hF
 refine OW.fn rfl rfl rfl rfl (by kernel_rfl) (judge_nums_ok _ (.slice (some ⟨g893, 0, none⟩) 2 2) ([(o80.2 i157), o141]) r895 hr896 (hst.part [] rfl) (hst.rd 7 rfl (fun _ => rfl) [] rfl (hst.len 7 rfl).1)) ?_
 rintro e w897 ⟨rfl, hst898⟩
 refine ⟨_, rfl, ?_⟩
 have hst := hst.join (idx := []) (rest := [0, 1, 2, 3, 4, 5, 6, 7]) rfl hst898
 refine OA.next ⟨(hst.blkN 3 rfl 0 32), trivial⟩ ?_
 refine OA.act (i := 5) [] (by kernel_rfl) rfl rfl (by kernel_rfl) (by kernel_rfl) ?_
 refine OW.stB hst 1 rfl rfl rfl rfl rfl (by kernel_rfl) rfl rfl [.int .i64 ((aset o80.2 i879 r875) 0).Kind, .int .u64 ((aset o80.2 i879 r875) 0).Span.Lo, .int .u64 ((aset o80.2 i879 r875) 0).Span.Hi, .int .i64 ((aset o80.2 i879 r875) 0).Map, .int .i64 ((aset o80.2 i879 r875) 1).Kind, .int .u64 ((aset o80.2 i879 r875) 1).Span.Lo, .int .u64 ((aset o80.2 i879 r875) 1).Span.Hi, .int .i64 ((aset o80.2 i879 r875) 1).Map, .int .i64 ((aset o80.2 i879 r875) 2).Kind, .int .u64 ((aset o80.2 i879 r875) 2).Span.Lo, .int .u64 ((aset o80.2 i879 r875) 2).Span.Hi, .int .i64 ((aset o80.2 i879 r875) 2).Map, .int .i64 ((aset o80.2 i879 r875) 3).Kind, .int .u64 ((aset o80.2 i879 r875) 3).Span.Lo, .int .u64 ((aset o80.2 i879 r875) 3).Span.Hi, .int .i64 ((aset o80.2 i879 r875) 3).Map, .int .i64 ((aset o80.2 i879 r875) 4).Kind, .int .u64 ((aset o80.2 i879 r875) 4).Span.Lo, .int .u64 ((aset o80.2 i879 r875) 4).Span.Hi, .int .i64 ((aset o80.2 i879 r875) 4).Map, .int .i64 ((aset o80.2 i879 r875) 5).Kind, .int .u64 ((aset o80.2 i879 r875) 5).Span.Lo, .int .u64 ((aset o80.2 i879 r875) 5).Span.Hi, .int .i64 ((aset o80.2 i879 r875) 5).Map, .int .i64 ((aset o80.2 i879 r875) 6).Kind, .int .u64 ((aset o80.2 i879 r875) 6).Span.Lo, .int .u64 ((aset o80.2 i879 r875) 6).Span.Hi, .int .i64 ((aset o80.2 i879 r875) 6).Map, .int .i64 ((aset o80.2 i879 r875) 7).Kind, .int .u64 ((aset o80.2 i879 r875) 7).Span.Lo, .int .u64 ((aset o80.2 i879 r875) 7).Span.Hi, .int .i64 ((aset o80.2 i879 r875) 7).Map] rfl ?_
 intro w899 hst
 refine OA.next trivial ?_
 refine OA.act (i := 6) [] (by kernel_rfl) rfl rfl (by kernel_rfl) (by kernel_rfl) ?_
 refine OW.pure 1 [(5, .int .i64 r895)] (by kernel_rfl) (OA.next trivial ?_)
 refine OA.fin (by kernel_rfl) (by kernel_rfl) (QW.next (CW.ret (QW.block_ret (QW.then_ret ?_))))
 obtain rfl := Option.some.inj hF
 refine QW.ret_ct rfl rfl (run_loadN (cs := [.int .i64 ((aset o80.2 i879 r875) 0).Kind, .int .u64 ((aset o80.2 i879 r875) 0).Span.Lo, .int .u64 ((aset o80.2 i879 r875) 0).Span.Hi, .int .i64 ((aset o80.2 i879 r875) 0).Map, .int .i64 ((aset o80.2 i879 r875) 1).Kind, .int .u64 ((aset o80.2 i879 r875) 1).Span.Lo, .int .u64 ((aset o80.2 i879 r875) 1).Span.Hi, .int .i64 ((aset o80.2 i879 r875) 1).Map, .int .i64 ((aset o80.2 i879 r875) 2).Kind, .int .u64 ((aset o80.2 i879 r875) 2).Span.Lo, .int .u64 ((aset o80.2 i879 r875) 2).Span.Hi, .int .i64 ((aset o80.2 i879 r875) 2).Map, .int .i64 ((aset o80.2 i879 r875) 3).Kind, .int .u64 ((aset o80.2 i879 r875) 3).Span.Lo, .int .u64 ((aset o80.2 i879 r875) 3).Span.Hi, .int .i64 ((aset o80.2 i879 r875) 3).Map, .int .i64 ((aset o80.2 i879 r875) 4).Kind, .int .u64 ((aset o80.2 i879 r875) 4).Span.Lo, .int .u64 ((aset o80.2 i879 r875) 4).Span.Hi, .int .i64 ((aset o80.2 i879 r875) 4).Map, .int .i64 ((aset o80.2 i879 r875) 5).Kind, .int .u64 ((aset o80.2 i879 r875) 5).Span.Lo, .int .u64 ((aset o80.2 i879 r875) 5).Span.Hi, .int .i64 ((aset o80.2 i879 r875) 5).Map, .int .i64 ((aset o80.2 i879 r875) 6).Kind, .int .u64 ((aset o80.2 i879 r875) 6).Span.Lo, .int .u64 ((aset o80.2 i879 r875) 6).Span.Hi, .int .i64 ((aset o80.2 i879 r875) 6).Map, .int .i64 ((aset o80.2 i879 r875) 7).Kind, .int .u64 ((aset o80.2 i879 r875) 7).Span.Lo, .int .u64 ((aset o80.2 i879 r875) 7).Span.Hi, .int .i64 ((aset o80.2 i879 r875) 7).Map]) (by kernel_rfl) (by kernel_rfl) (hst.blkN 1 rfl 0 32)) rfl ?_
 exact ⟨S77, rfl, hst.keep [0] rfl⟩
theorem span_Join_ok (w : World) (v0 : Value) (p0 : List api_Span) (r : api_Span × Bool) (hF : span_Join p0 = some r)
    (hst : St w (fp []) w []) (h0 : Rd w (fp []) v0 enc_api_Span 2 p0) :
    Calls Tryz.prog 170 [v0].toArray w (fun e w' => e = .returned (.tuple #[.agg [.int .u64 r.1.Lo, .int .u64 r.1.Hi].toArray, .bool r.2]) ∧ St w (fp []) w' []) := by
 refine CW.start (N := 35) Tryz.func170 rfl rfl rfl ?_
 obtain ⟨l1, a2, c3, rfl⟩ := h0.len
 refine CW.seq (CW.region ?_)
 refine OW.alloc hst rfl rfl rfl [.int .u64 0, .int .u64 0] (by kernel_rfl) ?_
 intro b6 w7 hst
 refine OW.pure 1 [] (by kernel_rfl) (OW.nil rfl (QW.next (CW.seq (CW.region ?_))))
 refine OW.pure 1 [(7, .agg [.int .u64 18446744073709551615, .int .u64 0].toArray)] (by kernel_rfl) ?_
 refine OW.alloc hst rfl rfl rfl [.int .u64 0, .int .u64 0] (by kernel_rfl) ?_
 intro b11 w12 hst
 refine OW.stB hst 1 rfl rfl rfl rfl rfl (by kernel_rfl) rfl rfl [.int .u64 18446744073709551615, .int .u64 0] rfl ?_
 intro w13 hst
 refine OW.nil rfl (QW.next (CW.seq (CW.seq (CW.region ?_))))
 refine OW.pure 3 [(8, .slice a2 (p0).length c3), (9, .int .i64 ((p0).length : Int)), (10, .int .i64 0)] (by kernel_rfl) (OW.nil rfl (QW.next ?_))
 obtain ⟨o116, ho117, hF⟩ := bind_some' hF
 refine CW.cutK (fun a w1 => ∃ (t118 : api_Span), o116 = .inl t118 ∧ Rep 35 [(0, .slice a2 (p0).length c3), (2, .pointer (some ⟨b6, 0, none⟩)), (4, .pointer (some ⟨b11, 0, none⟩))] a ∧ St w (fp []) w1 [blkI b6 154 [.int .u64 0, .int .u64 0], blkI b11 154 [.int .u64 t118.Lo, .int .u64 t118.Hi]]) ?_ ?_
 ·refine CW.block ?_
  refine CW.loop (fun n a w1 => ∃ (i187 : Nat) (s186 : api_Span), i187 + n = (p0).length ∧ Rep 35 [(0, .slice a2 (p0).length c3), (2, .pointer (some ⟨b6, 0, none⟩)), (4, .pointer (some ⟨b11, 0, none⟩)), (8, .slice a2 (p0).length c3), (9, .int .i64 ((p0).length : Int)), (10, .int .i64 (i187 : Int))] a ∧ St w (fp []) w1 [blkI b6 154 [.int .u64 0, .int .u64 0], blkI b11 154 [.int .u64 s186.Lo, .int .u64 s186.Hi]] ∧ forN (span_Join_l1 p0) (fun (s186 : api_Span) => (.inl s186)) n i187 s186 = some o116) (p0).length (fun a ha => ⟨0, (api_Span.mk 18446744073709551615 0), Nat.zero_add _, ha.agrees (by kernel_rfl), hst.keep [0, 1] rfl, ho117⟩) ?_
  rintro n184 a w1 ⟨i187, s186, hi188, ha, hst, hl185⟩
  refine CW.go ?_ ha
  refine CW.seq (CW.region ?_)
  refine OW.pure 1 [(11, .bool (decide ((i187 : Int) < ((p0).length : Int))))] (by kernel_rfl) (OW.nil rfl (QW.next (CW.seq ?_)))
  rcases Bool.eq_false_or_eq_true (decide ((i187 : Int) < ((p0).length : Int))) with hc189 | hc189
  ·rcases n184 with _ | n184
   ·exact (cnt0 hi188 hc189).elim
   refine CW.cond_t rfl hc189 (CW.skip (QW.next (CW.seq (CW.block (CW.seq (CW.region ?_))))))
   obtain ⟨x199, hx200, hl185⟩ := bind_some' hl185
   obtain ⟨g202, o203, c204, hv201⟩ := h0.formv (fun _ => ⟨_, rfl⟩) hx200
   refine OW.idx 154 2 rfl rfl rfl rfl hv201 rfl (idx_some hx200).1 (idx_some hx200).2.1 (by kernel_rfl) (by kernel_rfl) ?_
   refine OW.ldN (cs := enc_api_Span x199) rfl rfl rfl rfl (by kernel_rfl) (by kernel_rfl) (h0.cellv hst hx200 hv201) ?_
   refine OW.alloc hst rfl rfl rfl [.int .u64 0, .int .u64 0] (by kernel_rfl) ?_
   intro b205 w206 hst
   refine OW.stB hst 2 rfl rfl rfl rfl rfl (by kernel_rfl) rfl rfl [.int .u64 x199.Lo, .int .u64 x199.Hi] rfl ?_
   intro w207 hst
   refine OW.nil rfl (QW.next (CW.seq (CW.seq (CW.region ?_))))
   refine OW.ldN (cs := [.int .u64 x199.Lo, .int .u64 x199.Hi]) rfl rfl rfl rfl (by kernel_rfl) (by kernel_rfl) (hst.blkN 2 rfl 0 2) ?_
   obtain ⟨r212, hr213, hl185⟩ := bind_some' hl185
   refine OW.fn rfl rfl rfl rfl (by kernel_rfl) (span_Right_ok _ x199 r212 hr213 (hst.part [] rfl)) ?_
   rintro e w214 ⟨rfl, hst215⟩
   refine ⟨_, rfl, ?_⟩
   have hst := hst.join (idx := []) (rest := [0, 1, 2]) rfl hst215
   refine OW.pure 1 [(16, .bool (!r212))] (by kernel_rfl) (OW.nil rfl (QW.next ?_))
   rcases Bool.eq_false_or_eq_true ((!r212)) with hc216 | hc216
   ·have hl185 := ite_t hl185 hc216
    refine CW.cond_t rfl hc216 (CW.seq (CW.region ?_))
    refine OW.pure 1 [(17, .agg [.int .u64 0, .int .u64 0].toArray)] (by kernel_rfl) ?_
    refine OW.stB hst 0 rfl rfl rfl rfl rfl (by kernel_rfl) rfl rfl [.int .u64 0, .int .u64 0] rfl ?_
    intro w218 hst
    refine OW.pure 1 [(3, .bool false)] (by kernel_rfl) (OW.nil rfl (QW.next (CW.ret (QW.then_ret (QW.block_ret (QW.then_ret (QW.then_ret (QW.block_ret (QW.then_ret ?_)))))))))
    obtain rfl := Option.some.inj hl185
    obtain rfl := Option.some.inj hF
    refine QW.ret_ct rfl rfl (run_loadN (cs := [.int .u64 0, .int .u64 0]) (by kernel_rfl) (by kernel_rfl) (hst.blkN 0 rfl 0 2)) rfl ?_
    exact ⟨rfl, hst.keep [] rfl⟩
   have hl185 := ite_f hl185 hc216
   refine CW.cond_f rfl hc216 (CW.skip (QW.next (CW.region ?_)))
   refine OW.pure 1 [(18, .pointer (some ⟨b11, 0, none⟩))] (by kernel_rfl) ?_
   refine OW.ld rfl rfl rfl rfl (by kernel_rfl) (hst.blk 1 rfl rfl) ?_
   refine OW.pure 1 [(20, .pointer (some ⟨b205, 0, none⟩))] (by kernel_rfl) ?_
   refine OW.ld rfl rfl rfl rfl (by kernel_rfl) (hst.blk 2 rfl rfl) ?_
   refine OW.pure 2 [(22, .int .u64 (imin s186.Lo x199.Lo)), (23, .pointer (some ⟨b11, 1, none⟩))] (by kernel_rfl) ?_
   refine OW.ld rfl rfl rfl rfl (by kernel_rfl) (hst.blk 1 rfl rfl) ?_
   refine OW.pure 1 [(25, .pointer (some ⟨b205, 1, none⟩))] (by kernel_rfl) ?_
   refine OW.ld rfl rfl rfl rfl (by kernel_rfl) (hst.blk 2 rfl rfl) ?_
   refine OW.pure 2 [(28, .agg [.int .u64 (imin s186.Lo x199.Lo), .int .u64 (imax s186.Hi x199.Hi)].toArray)] (by kernel_rfl) ?_
   refine OW.stB hst 1 rfl rfl rfl rfl rfl (by kernel_rfl) rfl rfl [.int .u64 (imin s186.Lo x199.Lo), .int .u64 (imax s186.Hi x199.Hi)] rfl ?_
   intro w220 hst
   refine OW.nil rfl (QW.block_normal (QW.next (CW.region ?_)))
   refine OW.pure 2 [(10, .int .i64 (w64 ((i187 : Int) + 1)))] (by kernel_rfl) (OW.nil rfl ?_)
   refine QW.say 10 rfl (congrArg (Value.int .i64) (w64_cnt hc189 l1)) ?_
   exact QW.meet (fun a ha => ⟨n184, Nat.lt_succ_self _, i187 + 1, (api_Span.mk (imin s186.Lo x199.Lo) (imax s186.Hi x199.Hi)), cnt_next hi188, ha.agrees (by kernel_rfl), hst.keep [0, 1] rfl, hl185⟩)
  rcases n184 with _ | n184
  ·refine CW.cond_f rfl hc189 ?_
   refine CW.exit (QW.then_exit (QW.then_exit ?_))
   refine QW.block_here ?_
   obtain rfl := Option.some.inj hl185
   exact QW.meet (fun a ha => ⟨s186, rfl, ha.agrees (by kernel_rfl), hst.keep [0, 1] rfl⟩)
  exact (cnt1 hi188 hc189).elim
 rintro a w1 ⟨t118, rfl, ha, hst⟩
 refine CW.go ?_ ha
 refine CW.seq (CW.seq (CW.region ?_))
 refine OW.pure 3 [(32, .bool (((p0).length : Int) == 0))] (by kernel_rfl) (OW.nil rfl (QW.next ?_))
 rcases Bool.eq_false_or_eq_true ((((p0).length : Int) == 0)) with hc221 | hc221
 ·have hF := ite_t hF hc221
  refine CW.cond_t rfl hc221 (CW.seq (CW.region ?_))
  refine OW.pure 1 [(33, .agg [.int .u64 0, .int .u64 0].toArray)] (by kernel_rfl) ?_
  refine OW.stB hst 0 rfl rfl rfl rfl rfl (by kernel_rfl) rfl rfl [.int .u64 0, .int .u64 0] rfl ?_
  intro w223 hst
  refine OW.pure 1 [(3, .bool false)] (by kernel_rfl) (OW.nil rfl (QW.next (CW.ret (QW.then_ret ?_))))
  obtain rfl := Option.some.inj hF
  refine QW.ret_ct rfl rfl (run_loadN (cs := [.int .u64 0, .int .u64 0]) (by kernel_rfl) (by kernel_rfl) (hst.blkN 0 rfl 0 2)) rfl ?_
  exact ⟨rfl, hst.keep [] rfl⟩
 have hF := ite_f hF hc221
 refine CW.cond_f rfl hc221 (CW.skip (QW.next (CW.seq (CW.region ?_))))
 refine OW.ldN (cs := [.int .u64 t118.Lo, .int .u64 t118.Hi]) rfl rfl rfl rfl (by kernel_rfl) (by kernel_rfl) (hst.blkN 1 rfl 0 2) ?_
 refine OW.stB hst 0 rfl rfl rfl rfl rfl (by kernel_rfl) rfl rfl [.int .u64 t118.Lo, .int .u64 t118.Hi] rfl ?_
 intro w225 hst
 refine OW.pure 1 [(3, .bool true)] (by kernel_rfl) (OW.nil rfl (QW.next (CW.ret ?_)))
 obtain rfl := Option.some.inj hF
 refine QW.ret_ct rfl rfl (run_loadN (cs := [.int .u64 t118.Lo, .int .u64 t118.Hi]) (by kernel_rfl) (by kernel_rfl) (hst.blkN 0 rfl 0 2)) rfl ?_
 exact ⟨rfl, hst.keep [] rfl⟩
theorem judge_joined_ok (w : World) (p0 : api_Type) (p1 : api_Type) (r : api_Type) (hF : judge_joined p0 p1 = some r)
    (hst : St w (fp []) w []) :
    Calls Tryz.prog 155 [.agg [.int .i64 p0.Kind, .int .u64 p0.Span.Lo, .int .u64 p0.Span.Hi, .int .i64 p0.Map].toArray, .agg [.int .i64 p1.Kind, .int .u64 p1.Span.Lo, .int .u64 p1.Span.Hi, .int .i64 p1.Map].toArray].toArray w (fun e w' => e = .returned (.agg [.int .i64 r.Kind, .int .u64 r.Span.Lo, .int .u64 r.Span.Hi, .int .i64 r.Map].toArray) ∧ St w (fp []) w' []) := by
 refine CW.start (N := 37) Tryz.func155 rfl rfl rfl (CW.seq (CW.region ?_))
 refine OW.box hst rfl rfl rfl rfl [.int .i64 p0.Kind, .int .u64 p0.Span.Lo, .int .u64 p0.Span.Hi, .int .i64 p0.Map] rfl ?_
 intro b7 w8 hst
 refine OW.box hst rfl rfl rfl rfl [.int .i64 p1.Kind, .int .u64 p1.Span.Lo, .int .u64 p1.Span.Hi, .int .i64 p1.Map] rfl ?_
 intro b9 w10 hst
 refine OW.alloc hst rfl rfl rfl [.int .i64 0, .int .u64 0, .int .u64 0, .int .i64 0] (by kernel_rfl) ?_
 intro b11 w12 hst
 refine OW.nil rfl (QW.next (CW.seq (CW.block (CW.seq ?_))))
 refine CW.cutK (fun a w1 => Rep 37 [(2, .pointer (some ⟨b7, 0, none⟩)), (3, .pointer (some ⟨b9, 0, none⟩)), (4, .pointer (some ⟨b11, 0, none⟩)), (7, .bool ((p0.Kind != p1.Kind) || (p0.Map != p1.Map)))] a ∧ St w (fp []) w1 [blkI b7 156 [.int .i64 p0.Kind, .int .u64 p0.Span.Lo, .int .u64 p0.Span.Hi, .int .i64 p0.Map], blkI b9 156 [.int .i64 p1.Kind, .int .u64 p1.Span.Lo, .int .u64 p1.Span.Hi, .int .i64 p1.Map], blkI b11 156 [.int .i64 0, .int .u64 0, .int .u64 0, .int .i64 0]]) ?_ ?_
 ·refine CW.region ?_
  refine OW.pure 1 [(8, .pointer (some ⟨b7, 0, none⟩))] (by kernel_rfl) ?_
  refine OW.ld rfl rfl rfl rfl (by kernel_rfl) (hst.blk 0 rfl rfl) ?_
  refine OW.pure 1 [(10, .pointer (some ⟨b9, 0, none⟩))] (by kernel_rfl) ?_
  refine OW.ld rfl rfl rfl rfl (by kernel_rfl) (hst.blk 1 rfl rfl) ?_
  refine OW.pure 2 [(13, .bool (p0.Kind != p1.Kind))] (by kernel_rfl) ?_
  refine OW.split 13 rfl (fun hc13 => ?_) (fun hc13 => ?_)
  ·refine OW.pure 7 [(7, .bool true)] (by kernel_rfl) (OW.nil rfl ?_)
   refine QW.say 7 (v := .bool ((p0.Kind != p1.Kind) || (p0.Map != p1.Map))) rfl (by first | (rw [hc13]; done) | (rw [hc13]; rfl) | simp [hc13]) ?_
   exact QW.meet (fun a ha => ⟨ha.agrees (by kernel_rfl), hst.keep [0, 1, 2] rfl⟩)
  refine OW.pure 1 [(14, .pointer (some ⟨b7, 3, none⟩))] (by kernel_rfl) ?_
  refine OW.ld rfl rfl rfl rfl (by kernel_rfl) (hst.blk 0 rfl rfl) ?_
  refine OW.pure 1 [(16, .pointer (some ⟨b9, 3, none⟩))] (by kernel_rfl) ?_
  refine OW.ld rfl rfl rfl rfl (by kernel_rfl) (hst.blk 1 rfl rfl) ?_
  refine OW.pure 3 [(7, .bool (p0.Map != p1.Map))] (by kernel_rfl) (OW.nil rfl ?_)
  refine QW.say 7 (v := .bool ((p0.Kind != p1.Kind) || (p0.Map != p1.Map))) rfl (by first | (rw [hc13]; done) | (rw [hc13]; rfl) | simp [hc13]) ?_
  exact QW.meet (fun a ha => ⟨ha.agrees (by kernel_rfl), hst.keep [0, 1, 2] rfl⟩)
 rintro a w1 ⟨ha, hst⟩
 refine CW.go ?_ ha
 rcases Bool.eq_false_or_eq_true (((p0.Kind != p1.Kind) || (p0.Map != p1.Map))) with hc14 | hc14
 ·have hF := ite_t hF hc14
  refine CW.cond_t rfl hc14 (CW.seq (CW.region ?_))
  refine OW.pure 1 [(20, .agg [.int .i64 0, .int .u64 0, .int .u64 0, .int .i64 0].toArray)] (by kernel_rfl) ?_
  refine OW.stB hst 2 rfl rfl rfl rfl rfl (by kernel_rfl) rfl rfl [.int .i64 0, .int .u64 0, .int .u64 0, .int .i64 0] rfl ?_
  intro w16 hst
  refine OW.nil rfl (QW.next (CW.ret (QW.block_ret (QW.then_ret ?_))))
  obtain rfl := Option.some.inj hF
  refine QW.ret_c rfl rfl (run_loadN (cs := [.int .i64 0, .int .u64 0, .int .u64 0, .int .i64 0]) (by kernel_rfl) (by kernel_rfl) (hst.blkN 2 rfl 0 4)) ?_
  exact ⟨rfl, hst.keep [] rfl⟩
 have hF := ite_f hF hc14
 refine CW.cond_f rfl hc14 (CW.seq (CW.region ?_))
 refine OW.pure 1 [(22, .pointer (some ⟨b7, 0, none⟩))] (by kernel_rfl) ?_
 refine OW.ld rfl rfl rfl rfl (by kernel_rfl) (hst.blk 0 rfl rfl) ?_
 refine OW.pure 2 [(21, .bool (p0.Kind == 1))] (by kernel_rfl) (OW.nil rfl (QW.next ?_))
 rcases Bool.eq_false_or_eq_true ((p0.Kind == 1)) with hc17 | hc17
 ·have hF := ite_t hF hc17
  refine CW.cond_t rfl hc17 (CW.seq (CW.region ?_))
  refine OW.pure 1 [(26, .pointer (some ⟨b7, 1, none⟩))] (by kernel_rfl) ?_
  refine OW.ldN (cs := [.int .u64 p0.Span.Lo, .int .u64 p0.Span.Hi]) rfl rfl rfl rfl (by kernel_rfl) (by kernel_rfl) (hst.blkN 0 rfl 1 2) ?_
  refine OW.pure 1 [(28, .pointer (some ⟨b9, 1, none⟩))] (by kernel_rfl) ?_
  refine OW.ldN (cs := [.int .u64 p1.Span.Lo, .int .u64 p1.Span.Hi]) rfl rfl rfl rfl (by kernel_rfl) (by kernel_rfl) (hst.blkN 1 rfl 1 2) ?_
  refine OW.row (α := api_Span) (e := 154) (enc := enc_api_Span) (sz := 2) hst rfl rfl rfl [p0.Span, p1.Span] rfl (fun _ => rfl) rfl rfl (fun _ => by kernel_rfl) ?_
  intro g27 w28 hst
  obtain ⟨r29, hr30, hF⟩ := bind_some' hF
  refine OW.fn rfl rfl rfl rfl (by kernel_rfl) (span_Join_ok _ (.slice (some ⟨g27, 0, none⟩) 2 2) ([p0.Span, p1.Span]) r29 hr30 (hst.part [] rfl) (hst.rd 3 rfl (fun _ => rfl) [] rfl (hst.len 3 rfl).1)) ?_
  rintro e w31 ⟨rfl, hst32⟩
  refine ⟨_, rfl, ?_⟩
  have hst := hst.join (idx := []) (rest := [0, 1, 2, 3]) rfl hst32
  refine OW.pure 3 [(32, .agg [.int .u64 r29.1.Lo, .int .u64 r29.1.Hi].toArray), (33, .bool r29.2)] (by kernel_rfl) ?_
  refine OW.alloc hst rfl rfl rfl [.int .u64 0, .int .u64 0] (by kernel_rfl) ?_
  intro b33 w34 hst
  refine OW.stB hst 4 rfl rfl rfl rfl rfl (by kernel_rfl) rfl rfl [.int .u64 r29.1.Lo, .int .u64 r29.1.Hi] rfl ?_
  intro w35 hst
  refine OW.pure 1 [] (by kernel_rfl) (OW.nil rfl (QW.next (CW.seq (CW.region ?_))))
  refine OW.ldN (cs := [.int .u64 r29.1.Lo, .int .u64 r29.1.Hi]) rfl rfl rfl rfl (by kernel_rfl) (by kernel_rfl) (hst.blkN 4 rfl 0 2) ?_
  obtain ⟨r41, hr42, hF⟩ := bind_some' hF
  refine OW.fn rfl rfl rfl rfl (by kernel_rfl) (judge_number_ok _ r29.1 r41 hr42 (hst.part [] rfl)) ?_
  rintro e w43 ⟨rfl, hst44⟩
  refine ⟨_, rfl, ?_⟩
  have hst := hst.join (idx := []) (rest := [0, 1, 2, 3, 4]) rfl hst44
  refine OW.stB hst 2 rfl rfl rfl rfl rfl (by kernel_rfl) rfl rfl [.int .i64 r41.Kind, .int .u64 r41.Span.Lo, .int .u64 r41.Span.Hi, .int .i64 r41.Map] rfl ?_
  intro w45 hst
  refine OW.nil rfl (QW.next (CW.ret (QW.block_ret (QW.then_ret ?_))))
  obtain rfl := Option.some.inj hF
  refine QW.ret_c rfl rfl (run_loadN (cs := [.int .i64 r41.Kind, .int .u64 r41.Span.Lo, .int .u64 r41.Span.Hi, .int .i64 r41.Map]) (by kernel_rfl) (by kernel_rfl) (hst.blkN 2 rfl 0 4)) ?_
  exact ⟨rfl, hst.keep [] rfl⟩
 have hF := ite_f hF hc17
 refine CW.cond_f rfl hc17 (CW.skip (QW.block_normal (QW.next (CW.seq (CW.region ?_)))))
 refine OW.ldN (cs := [.int .i64 p0.Kind, .int .u64 p0.Span.Lo, .int .u64 p0.Span.Hi, .int .i64 p0.Map]) rfl rfl rfl rfl (by kernel_rfl) (by kernel_rfl) (hst.blkN 0 rfl 0 4) ?_
 refine OW.stB hst 2 rfl rfl rfl rfl rfl (by kernel_rfl) rfl rfl [.int .i64 p0.Kind, .int .u64 p0.Span.Lo, .int .u64 p0.Span.Hi, .int .i64 p0.Map] rfl ?_
 intro w47 hst
 refine OW.nil rfl (QW.next (CW.ret ?_))
 obtain rfl := Option.some.inj hF
 refine QW.ret_c rfl rfl (run_loadN (cs := [.int .i64 p0.Kind, .int .u64 p0.Span.Lo, .int .u64 p0.Span.Hi, .int .i64 p0.Map]) (by kernel_rfl) (by kernel_rfl) (hst.blkN 2 rfl 0 4)) ?_
 exact ⟨rfl, hst.keep [] rfl⟩
theorem judge_judge_come_ok (w : World) (wb : World) (Sb : List Nat) (v0 : Value) (S0 : List Nat) (p0 : judge_judge) (p1 : Int) (p2 : Nat → api_Type) (r : judge_judge) (hF : judge_judge_come p0 p1 p2 = some r)
    (hst : St w (fp [itI (R_t116 wb Sb) [v0] S0 p0]) w [itI (R_t116 wb Sb) [v0] S0 p0]) (hb : Bor wb Sb w (fp [itI (R_t116 wb Sb) [v0] S0 p0])) :
    Calls Tryz.prog 122 [v0, .int .i64 p1, .agg [.int .i64 (p2 0).Kind, .int .u64 (p2 0).Span.Lo, .int .u64 (p2 0).Span.Hi, .int .i64 (p2 0).Map, .int .i64 (p2 1).Kind, .int .u64 (p2 1).Span.Lo, .int .u64 (p2 1).Span.Hi, .int .i64 (p2 1).Map, .int .i64 (p2 2).Kind, .int .u64 (p2 2).Span.Lo, .int .u64 (p2 2).Span.Hi, .int .i64 (p2 2).Map, .int .i64 (p2 3).Kind, .int .u64 (p2 3).Span.Lo, .int .u64 (p2 3).Span.Hi, .int .i64 (p2 3).Map, .int .i64 (p2 4).Kind, .int .u64 (p2 4).Span.Lo, .int .u64 (p2 4).Span.Hi, .int .i64 (p2 4).Map, .int .i64 (p2 5).Kind, .int .u64 (p2 5).Span.Lo, .int .u64 (p2 5).Span.Hi, .int .i64 (p2 5).Map, .int .i64 (p2 6).Kind, .int .u64 (p2 6).Span.Lo, .int .u64 (p2 6).Span.Hi, .int .i64 (p2 6).Map, .int .i64 (p2 7).Kind, .int .u64 (p2 7).Span.Lo, .int .u64 (p2 7).Span.Hi, .int .i64 (p2 7).Map].toArray].toArray w (fun e w' => ∃ (s0 : List Nat), e = .returned (.tuple #[]) ∧ St w (fp [itI (R_t116 wb Sb) [v0] S0 p0]) w' [itI (R_t116 wb Sb) [v0] s0 r]) := by
 refine CW.start (N := 53) Tryz.func122 rfl rfl rfl ?_
 obtain ⟨b1, rfl⟩ := hst.fptr 0 rfl
 refine CW.seq (CW.region ?_)
 refine OW.box hst rfl rfl rfl rfl [.int .i64 (p2 0).Kind, .int .u64 (p2 0).Span.Lo, .int .u64 (p2 0).Span.Hi, .int .i64 (p2 0).Map, .int .i64 (p2 1).Kind, .int .u64 (p2 1).Span.Lo, .int .u64 (p2 1).Span.Hi, .int .i64 (p2 1).Map, .int .i64 (p2 2).Kind, .int .u64 (p2 2).Span.Lo, .int .u64 (p2 2).Span.Hi, .int .i64 (p2 2).Map, .int .i64 (p2 3).Kind, .int .u64 (p2 3).Span.Lo, .int .u64 (p2 3).Span.Hi, .int .i64 (p2 3).Map, .int .i64 (p2 4).Kind, .int .u64 (p2 4).Span.Lo, .int .u64 (p2 4).Span.Hi, .int .i64 (p2 4).Map, .int .i64 (p2 5).Kind, .int .u64 (p2 5).Span.Lo, .int .u64 (p2 5).Span.Hi, .int .i64 (p2 5).Map, .int .i64 (p2 6).Kind, .int .u64 (p2 6).Span.Lo, .int .u64 (p2 6).Span.Hi, .int .i64 (p2 6).Map, .int .i64 (p2 7).Kind, .int .u64 (p2 7).Span.Lo, .int .u64 (p2 7).Span.Hi, .int .i64 (p2 7).Map] rfl ?_
 intro b4 w5 hst
 refine OW.nil rfl (QW.next (CW.seq (CW.seq ?_)))
 obtain ⟨v6, S7, v8, S9, v10, S11, v12, S13, v14, S15, hst⟩ := hst.openQ5 0 rfl rfl rfl rfl rfl rfl
 have hbo16 := hst.borOut 2 rfl
 have hbr17 := hbo16.bor hb
 have hbo18 := hst.borOut 3 rfl
 have hbr19 := hbo18.bor hb
 have hst := hst.toRow1 4 rfl
 have hst := hst.toRow1 5 rfl
 have hst := hst.toRow1 6 rfl
 have hst := hst.keep [0, 1, 4, 5, 6] rfl
 obtain ⟨l20, a21, c22, rfl⟩ := hbr17.len
 obtain ⟨l23, a24, c25, rfl⟩ := hbr19.len
 obtain ⟨l26, a27, c28, rfl⟩ := hst.len 2 rfl
 obtain ⟨l29, a30, c31, rfl⟩ := hst.len 3 rfl
 obtain ⟨l32, a33, c34, rfl⟩ := hst.len 4 rfl
 have hst : St _ _ _ [blkI b1 148 [.slice a21 (p0.Module.Maps).length c22, .slice a24 (p0.Module.Code).length c25, .slice a27 (p0.came).length c28, .slice a30 (p0.any).length c31, .slice a33 (p0.loops).length c34], _, _, _, _] := hst
 refine CW.region ?_
 refine OW.pure 3 [(9, .pointer (some ⟨b1, 3, none⟩))] (by kernel_rfl) ?_
 refine OW.ld rfl rfl rfl rfl (by kernel_rfl) (hst.blk 0 rfl rfl) ?_
 refine OW.pure 1 [(11, .int .i64 p1)] (by kernel_rfl) ?_
 obtain ⟨x41, hx42, hF⟩ := bind_some' hF
 obtain ⟨g44, o45, c46, hv43⟩ := hst.rowv 3 rfl hx42
 refine OW.idx 4 1 rfl rfl rfl rfl hv43 rfl (idx_some hx42).1 (idx_some hx42).2.1 (by kernel_rfl) (by kernel_rfl) ?_
 refine OW.ld rfl rfl rfl rfl (by kernel_rfl) (hst.rowc 3 rfl (fun _ => rfl) hx42 hv43 0 _ rfl) ?_
 refine OW.pure 1 [(14, .bool (!x41))] (by kernel_rfl) (OW.nil rfl (QW.next ?_))
 rcases Bool.eq_false_or_eq_true ((!x41)) with hc47 | hc47
 ·have hF := ite_t hF hc47
  refine CW.cond_t rfl hc47 (CW.seq ?_)
  refine CW.plan (by kernel_rfl) ?_
  intro w62 hch63
  have hst := hst.same hch63
  refine OA.pure [0, 1, 2] [(17, .pointer (some ⟨b1, 3, none⟩))] (by kernel_rfl) ?_
  refine OA.ld (i := 3) rfl (by kernel_rfl) rfl rfl rfl (by kernel_rfl) (hst.blk 0 rfl rfl) ?_
  refine OA.pure [4, 5, 6, 7] [(19, .int .i64 p1), (22, .pointer (some ⟨b1, 2, none⟩))] (by kernel_rfl) ?_
  refine OA.ld (i := 8) rfl (by kernel_rfl) rfl rfl rfl (by kernel_rfl) (hst.blk 0 rfl rfl) ?_
  refine OA.pure [9] [(24, .int .i64 p1)] (by kernel_rfl) ?_
  refine OA.ldN (i := 10) (cs := [.int .i64 (p2 0).Kind, .int .u64 (p2 0).Span.Lo, .int .u64 (p2 0).Span.Hi, .int .i64 (p2 0).Map, .int .i64 (p2 1).Kind, .int .u64 (p2 1).Span.Lo, .int .u64 (p2 1).Span.Hi, .int .i64 (p2 1).Map, .int .i64 (p2 2).Kind, .int .u64 (p2 2).Span.Lo, .int .u64 (p2 2).Span.Hi, .int .i64 (p2 2).Map, .int .i64 (p2 3).Kind, .int .u64 (p2 3).Span.Lo, .int .u64 (p2 3).Span.Hi, .int .i64 (p2 3).Map, .int .i64 (p2 4).Kind, .int .u64 (p2 4).Span.Lo, .int .u64 (p2 4).Span.Hi, .int .i64 (p2 4).Map, .int .i64 (p2 5).Kind, .int .u64 (p2 5).Span.Lo, .int .u64 (p2 5).Span.Hi, .int .i64 (p2 5).Map, .int .i64 (p2 6).Kind, .int .u64 (p2 6).Span.Lo, .int .u64 (p2 6).Span.Hi, .int .i64 (p2 6).Map, .int .i64 (p2 7).Kind, .int .u64 (p2 7).Span.Lo, .int .u64 (p2 7).Span.Hi, .int .i64 (p2 7).Map]) rfl (by kernel_rfl) rfl rfl rfl (by kernel_rfl) (by kernel_rfl) (hst.blkN 1 rfl 0 32) ?_
  obtain ⟨g65, o66, c67, hv64⟩ := hst.rowv 3 rfl hx42
  refine OA.idx (i := 11) 4 1 rfl (by kernel_rfl) rfl rfl rfl hv64 rfl (idx_some hx42).1 (idx_some hx42).2.1 (by kernel_rfl) (by kernel_rfl) ?_
  refine OA.act (i := 12) [10] (by kernel_rfl) rfl rfl (by kernel_rfl) (by kernel_rfl) ?_
  refine OW.stR hst 3 rfl hv64 (fun _ => rfl) rfl rfl hx42 0 rfl rfl rfl (by kernel_rfl) rfl rfl true rfl ?_
  intro w68 hst
  refine OA.next ⟨(hst.blkN 1 rfl 0 32), trivial⟩ ?_
  obtain ⟨x69, hx70, hF⟩ := bind_some' hF
  obtain ⟨g72, o73, c74, hv71⟩ := hst.rowv 2 rfl hx70
  refine OA.idx (i := 13) 158 32 rfl (by kernel_rfl) rfl rfl rfl hv71 rfl (idx_some hx70).1 (idx_some hx70).2.1 (by kernel_rfl) (by kernel_rfl) ?_
  refine OA.act (i := 14) [] (by kernel_rfl) rfl rfl (by kernel_rfl) (by kernel_rfl) ?_
  refine OW.stR hst 2 rfl hv71 (fun _ => rfl) rfl rfl hx70 0 rfl rfl rfl (by kernel_rfl) rfl rfl p2 rfl ?_
  intro w75 hst
  refine OA.next trivial ?_
  refine OA.fin (by kernel_rfl) (by kernel_rfl) (QW.next (CW.ret (QW.then_ret ?_)))
  have hst := hst.borIn hbo16
  have hst := hst.borIn hbo18
  have hst := hst.toIt 2 rfl (fun _ => rfl) (by decide)
  have hst := hst.toIt 3 rfl (fun _ => rfl) (by decide)
  have hst := hst.toIt 4 rfl (fun _ => rfl) (by decide)
  obtain ⟨S76, hst⟩ := hst.shutP5 (R_t148 wb Sb) rfl 0 5 6 2 3 4 [1] rfl rfl rfl rfl rfl rfl rfl (judge_judge.mk p0.Module (p0.came.set (Int.toNat p1) p2) (p0.any.set (Int.toNat p1) true) p0.loops) rfl rfl
  obtain rfl := Option.some.inj hF
  refine QW.ret0 rfl ?_
  exact ⟨S76, rfl, hst.keep [1] rfl⟩
 have hF := ite_f hF hc47
 refine CW.cond_f rfl hc47 (CW.skip (QW.next (CW.seq (CW.region ?_))))
 refine OW.pure 1 [(28, .int .i64 0)] (by kernel_rfl) (OW.nil rfl (QW.next ?_))
 obtain ⟨o290, ho291, hF⟩ := bind_some' hF
 refine CW.cutQ (fun a w1 => ∃ (S289 : List Nat), Rep 53 [] a ∧ St w (fp [itI (R_t116 wb Sb) [.pointer (some ⟨b1, 0, none⟩)] S0 p0]) w1 [itI (R_t116 wb Sb) [.pointer (some ⟨b1, 0, none⟩)] S289 o290]) ?_ ?_
 ·refine CW.block ?_
  have hst := hst.borIn hbo16
  have hst := hst.borIn hbo18
  have hst := hst.toIt 2 rfl (fun _ => rfl) (by decide)
  have hst := hst.toIt 3 rfl (fun _ => rfl) (by decide)
  have hst := hst.toIt 4 rfl (fun _ => rfl) (by decide)
  obtain ⟨S292, hst⟩ := hst.shutP5 (R_t148 wb Sb) rfl 0 5 6 2 3 4 [1] rfl rfl rfl rfl rfl rfl rfl p0 rfl rfl
  refine CW.loop (fun n a w1 => ∃ (i433 : Nat) (s431 : judge_judge) (S432 : List Nat), i433 + n = 8 ∧ Rep 53 [(0, .pointer (some ⟨b1, 0, none⟩)), (1, .int .i64 p1), (5, .pointer (some ⟨b4, 0, none⟩)), (28, .int .i64 (i433 : Int))] a ∧ St w (fp [itI (R_t116 wb Sb) [.pointer (some ⟨b1, 0, none⟩)] S0 p0]) w1 [itI (R_t116 wb Sb) [.pointer (some ⟨b1, 0, none⟩)] S432 s431, blkI b4 158 [.int .i64 (p2 0).Kind, .int .u64 (p2 0).Span.Lo, .int .u64 (p2 0).Span.Hi, .int .i64 (p2 0).Map, .int .i64 (p2 1).Kind, .int .u64 (p2 1).Span.Lo, .int .u64 (p2 1).Span.Hi, .int .i64 (p2 1).Map, .int .i64 (p2 2).Kind, .int .u64 (p2 2).Span.Lo, .int .u64 (p2 2).Span.Hi, .int .i64 (p2 2).Map, .int .i64 (p2 3).Kind, .int .u64 (p2 3).Span.Lo, .int .u64 (p2 3).Span.Hi, .int .i64 (p2 3).Map, .int .i64 (p2 4).Kind, .int .u64 (p2 4).Span.Lo, .int .u64 (p2 4).Span.Hi, .int .i64 (p2 4).Map, .int .i64 (p2 5).Kind, .int .u64 (p2 5).Span.Lo, .int .u64 (p2 5).Span.Hi, .int .i64 (p2 5).Map, .int .i64 (p2 6).Kind, .int .u64 (p2 6).Span.Lo, .int .u64 (p2 6).Span.Hi, .int .i64 (p2 6).Map, .int .i64 (p2 7).Kind, .int .u64 (p2 7).Span.Lo, .int .u64 (p2 7).Span.Hi, .int .i64 (p2 7).Map]] ∧ forN (judge_judge_come_l1 p1 p2) (fun (s431 : judge_judge) => s431) n i433 s431 = some o290) 8 (fun a ha => ⟨0, p0, S292, Nat.zero_add _, ha.agrees (by kernel_rfl), hst.keep [1, 0] rfl, ho291⟩) ?_
  rintro n429 a w1 ⟨i433, s431, S432, hi434, ha, hst, hl430⟩
  refine CW.go ?_ ha
  refine CW.seq (CW.region ?_)
  refine OW.pure 1 [(29, .bool (decide ((i433 : Int) < 8)))] (by kernel_rfl) (OW.nil rfl (QW.next (CW.seq ?_)))
  rcases Bool.eq_false_or_eq_true (decide ((i433 : Int) < 8)) with hc435 | hc435
  ·rcases n429 with _ | n429
   ·exact (cnt0 hi434 hc435).elim
   refine CW.cond_t rfl hc435 (CW.skip (QW.next (CW.seq (CW.block (CW.seq (CW.region ?_))))))
   refine OW.pure 2 [(6, .int .i64 (i433 : Int))] (by kernel_rfl) (OW.nil rfl (QW.next ?_))
   obtain ⟨v436, S437, v438, S439, v440, S441, v442, S443, v444, S445, hst⟩ := hst.openQ5 0 rfl rfl rfl rfl rfl rfl
   have hbo446 := hst.borOut 2 rfl
   have hbr447 := hbo446.bor hb
   have hbo448 := hst.borOut 3 rfl
   have hbr449 := hbo448.bor hb
   have hst := hst.toRow1 4 rfl
   have hst := hst.toRow1 5 rfl
   have hst := hst.toRow1 6 rfl
   have hst := hst.keep [0, 1, 4, 5, 6] rfl
   obtain ⟨l450, a451, c452, rfl⟩ := hbr447.len
   obtain ⟨l453, a454, c455, rfl⟩ := hbr449.len
   obtain ⟨l456, a457, c458, rfl⟩ := hst.len 2 rfl
   obtain ⟨l459, a460, c461, rfl⟩ := hst.len 3 rfl
   obtain ⟨l462, a463, c464, rfl⟩ := hst.len 4 rfl
   have hst : St _ _ _ [blkI b1 148 [.slice a451 (s431.Module.Maps).length c452, .slice a454 (s431.Module.Code).length c455, .slice a457 (s431.came).length c458, .slice a460 (s431.any).length c461, .slice a463 (s431.loops).length c464], _, _, _, _] := hst
   refine CW.plan (by kernel_rfl) ?_
   intro w484 hch485
   have hst := hst.same hch485
   refine OA.pure [0, 1, 2] [(33, .pointer (some ⟨b1, 2, none⟩))] (by kernel_rfl) ?_
   refine OA.ld (i := 3) rfl (by kernel_rfl) rfl rfl rfl (by kernel_rfl) (hst.blk 0 rfl rfl) ?_
   refine OA.pure [4, 5, 6, 7, 8] [(35, .int .i64 p1), (36, .int .i64 (i433 : Int)), (39, .pointer (some ⟨b1, 2, none⟩))] (by kernel_rfl) ?_
   refine OA.ld (i := 9) rfl (by kernel_rfl) rfl rfl rfl (by kernel_rfl) (hst.blk 0 rfl rfl) ?_
   refine OA.pure [10, 11] [(41, .int .i64 p1), (42, .int .i64 (i433 : Int))] (by kernel_rfl) ?_
   obtain ⟨x486, hx487, hl430⟩ := bind_some' hl430
   obtain ⟨g489, o490, c491, hv488⟩ := hst.rowv 2 rfl hx487
   refine OA.idx (i := 12) 158 32 rfl (by kernel_rfl) rfl rfl rfl hv488 rfl (idx_some hx487).1 (idx_some hx487).2.1 (by kernel_rfl) (by kernel_rfl) ?_
   obtain ⟨i492, hi493, hl430⟩ := bind_some' hl430
   refine OA.val (i := 13) (v := .pointer (some ⟨g489, o490 + Int.toNat p1 * 32 + 0 + Int.toNat (i433 : Int) * 4, none⟩)) rfl (by kernel_rfl) rfl rfl rfl rfl (fun a w ha => aidx_run (n := 8) 156 4 rfl rfl rfl (ain_some hi493).1 (ain_some hi493).2.1 (by kernel_rfl) (by kernel_rfl) a w ha) ?_
   refine OA.ldN (i := 14) (cs := enc_api_Type (x486 i492)) rfl (by kernel_rfl) rfl rfl rfl (by kernel_rfl) (by kernel_rfl) (cell_arr (hst.rowc 2 rfl (fun _ => rfl) hx487 hv488) enc_api_Type (fun _ => rfl) 8 x486 0 rfl rfl hi493) ?_
   refine OA.pure [15] [(46, .int .i64 (i433 : Int))] (by kernel_rfl) ?_
   refine OA.val (i := 16) (v := .pointer (some ⟨b4, 0 + Int.toNat (i433 : Int) * 4, none⟩)) rfl (by kernel_rfl) rfl rfl rfl rfl (fun a w ha => aidx_run (n := 8) 156 4 rfl rfl rfl (ain_some hi493).1 (ain_some hi493).2.1 (by kernel_rfl) (by kernel_rfl) a w ha) ?_
   refine OA.ldN (i := 17) (cs := enc_api_Type (p2 i492)) rfl (by kernel_rfl) rfl rfl rfl (by kernel_rfl) (by kernel_rfl) (hst.arrB 1 rfl enc_api_Type (fun _ => rfl) 8 p2 0 rfl rfl hi493) ?_
   obtain ⟨g495, o496, c497, hv494⟩ := hst.rowv 2 rfl hx487
   refine OA.idx (i := 19) 158 32 rfl (by kernel_rfl) rfl rfl rfl hv494 rfl (idx_some hx487).1 (idx_some hx487).2.1 (by kernel_rfl) (by kernel_rfl) ?_
   refine OA.act (i := 18) [3] (by kernel_rfl) rfl rfl (by kernel_rfl) (by kernel_rfl) ?_
   obtain ⟨r498, hr499, hl430⟩ := bind_some' hl430
   refine OW.fn rfl rfl rfl rfl (by kernel_rfl) (judge_joined_ok _ (x486 i492) (p2 i492) r498 hr499 (hst.part [] rfl)) ?_
   rintro e w500 ⟨rfl, hst501⟩
   refine ⟨_, rfl, ?_⟩
   have hst := hst.join (idx := []) (rest := [0, 1, 2, 3, 4]) rfl hst501
   refine OA.next ⟨(hst.blk 0 rfl rfl), trivial⟩ ?_
   refine OA.val (i := 20) (v := .pointer (some ⟨g495, o496 + Int.toNat p1 * 32 + 0 + Int.toNat (i433 : Int) * 4, none⟩)) rfl (by kernel_rfl) rfl rfl rfl rfl (fun a w ha => aidx_run (n := 8) 156 4 rfl rfl rfl (ain_some hi493).1 (ain_some hi493).2.1 (by kernel_rfl) (by kernel_rfl) a w ha) ?_
   refine OA.act (i := 21) [] (by kernel_rfl) rfl rfl (by kernel_rfl) (by kernel_rfl) ?_
   refine OW.stRA hst 2 rfl hv494 (fun _ => rfl) rfl rfl hx487 rfl rfl (by kernel_rfl) rfl enc_api_Type (fun _ => rfl) 8 x486 0 rfl rfl hi493 0 rfl rfl r498 rfl (aset x486 i492 r498) rfl ?_
   intro w502 hst
   refine OA.next trivial ?_
   refine OA.fin (by kernel_rfl) (by kernel_rfl) (QW.block_normal (QW.next (CW.region ?_)))
   refine OW.pure 2 [(28, .int .i64 (w64 ((i433 : Int) + 1)))] (by kernel_rfl) (OW.nil rfl ?_)
   have hst := hst.borIn hbo446
   have hst := hst.borIn hbo448
   have hst := hst.toIt 2 rfl (fun _ => rfl) (by decide)
   have hst := hst.toIt 3 rfl (fun _ => rfl) (by decide)
   have hst := hst.toIt 4 rfl (fun _ => rfl) (by decide)
   obtain ⟨S503, hst⟩ := hst.shutP5 (R_t148 wb Sb) rfl 0 5 6 2 3 4 [1] rfl rfl rfl rfl rfl rfl rfl (judge_judge.mk s431.Module (s431.came.set (Int.toNat p1) (aset x486 i492 r498)) s431.any s431.loops) rfl rfl
   refine QW.say 28 rfl (congrArg (Value.int .i64) (w64_cnt hc435 (by decide))) ?_
   exact QW.meet (fun a ha => ⟨n429, Nat.lt_succ_self _, i433 + 1, (judge_judge.mk s431.Module (s431.came.set (Int.toNat p1) (aset x486 i492 r498)) s431.any s431.loops), S503, cnt_next hi434, ha.agrees (by kernel_rfl), hst.keep [1, 0] rfl, hl430⟩)
  rcases n429 with _ | n429
  ·refine CW.cond_f rfl hc435 ?_
   refine CW.exit (QW.then_exit (QW.then_exit ?_))
   refine QW.block_here ?_
   obtain rfl := Option.some.inj hl430
   exact QW.meet (fun a ha => ⟨S432, ha.agrees (by kernel_rfl), hst.keep [0] rfl⟩)
  exact (cnt1 hi434 hc435).elim
 rintro a w1 ⟨S289, ha, hst⟩
 refine QW.go ?_ ha
 obtain rfl := Option.some.inj hF
 refine QW.end0 rfl ?_
 exact ⟨S289, rfl, hst.keep [0] rfl⟩
theorem arith_Holds_ok (w : World) (p0 : Int) (p1 : Int) (p2 : Int) (r : Bool × Bool) (hF : arith_Holds p0 p1 p2 = some r)
    (hst : St w (fp []) w []) :
    Calls Tryz.prog 63 [.int .i64 p0, .int .u64 p1, .int .u64 p2].toArray w (fun e w' => e = .returned (.tuple #[.bool r.1, .bool r.2]) ∧ St w (fp []) w' []) := by
 refine CW.start (N := 29) Tryz.func63 rfl rfl rfl (CW.seq (CW.region ?_))
 refine OW.pure 2 [] (by kernel_rfl) (OW.nil rfl (QW.next (CW.seq (CW.seq (CW.region ?_)))))
 refine OW.pure 1 [(8, .int .i64 p0)] (by kernel_rfl) (OW.nil rfl (QW.next (CW.block (CW.seq (CW.region ?_)))))
 refine OW.pure 2 [(9, .bool (p0 == 16))] (by kernel_rfl) (OW.nil rfl (QW.next ?_))
 rcases Bool.eq_false_or_eq_true ((p0 == 16)) with hc1 | hc1
 ·have hF := ite_t hF hc1
  refine CW.cond_t rfl hc1 (CW.seq (CW.region ?_))
  refine OW.pure 5 [(6, .bool (p1 == p2)), (7, .bool true)] (by kernel_rfl) (OW.nil rfl (QW.next (CW.ret (QW.block_ret (QW.then_ret ?_)))))
  obtain rfl := Option.some.inj hF
  refine QW.ret2 rfl rfl rfl ?_
  exact ⟨rfl, hst.keep [] rfl⟩
 have hF := ite_f hF hc1
 refine CW.cond_f rfl hc1 (CW.seq (CW.region ?_))
 refine OW.pure 2 [(14, .bool (p0 == 17))] (by kernel_rfl) (OW.nil rfl (QW.next ?_))
 rcases Bool.eq_false_or_eq_true ((p0 == 17)) with hc2 | hc2
 ·have hF := ite_t hF hc2
  refine CW.cond_t rfl hc2 (CW.seq (CW.region ?_))
  refine OW.pure 5 [(6, .bool (p1 != p2)), (7, .bool true)] (by kernel_rfl) (OW.nil rfl (QW.next (CW.ret (QW.block_ret (QW.then_ret ?_)))))
  obtain rfl := Option.some.inj hF
  refine QW.ret2 rfl rfl rfl ?_
  exact ⟨rfl, hst.keep [] rfl⟩
 have hF := ite_f hF hc2
 refine CW.cond_f rfl hc2 (CW.seq (CW.region ?_))
 refine OW.pure 2 [(19, .bool (p0 == 18))] (by kernel_rfl) (OW.nil rfl (QW.next ?_))
 rcases Bool.eq_false_or_eq_true ((p0 == 18)) with hc3 | hc3
 ·have hF := ite_t hF hc3
  refine CW.cond_t rfl hc3 (CW.seq (CW.region ?_))
  refine OW.pure 5 [(6, .bool (decide (p1 < p2))), (7, .bool true)] (by kernel_rfl) (OW.nil rfl (QW.next (CW.ret (QW.block_ret (QW.then_ret ?_)))))
  obtain rfl := Option.some.inj hF
  refine QW.ret2 rfl rfl rfl ?_
  exact ⟨rfl, hst.keep [] rfl⟩
 have hF := ite_f hF hc3
 refine CW.cond_f rfl hc3 (CW.seq (CW.region ?_))
 refine OW.pure 2 [(24, .bool (p0 == 19))] (by kernel_rfl) (OW.nil rfl (QW.next ?_))
 rcases Bool.eq_false_or_eq_true ((p0 == 19)) with hc4 | hc4
 ·have hF := ite_t hF hc4
  refine CW.cond_t rfl hc4 (CW.seq (CW.region ?_))
  refine OW.pure 5 [(6, .bool (decide (p1 ≥ p2))), (7, .bool true)] (by kernel_rfl) (OW.nil rfl (QW.next (CW.ret (QW.block_ret (QW.then_ret ?_)))))
  obtain rfl := Option.some.inj hF
  refine QW.ret2 rfl rfl rfl ?_
  exact ⟨rfl, hst.keep [] rfl⟩
 have hF := ite_f hF hc4
 refine CW.cond_f rfl hc4 (CW.skip (QW.block_normal (QW.next (CW.seq (CW.region ?_)))))
 refine OW.pure 2 [(6, .bool false), (7, .bool false)] (by kernel_rfl) (OW.nil rfl (QW.next (CW.ret ?_)))
 obtain rfl := Option.some.inj hF
 refine QW.ret2 rfl rfl rfl ?_
 exact ⟨rfl, hst.keep [] rfl⟩
theorem span_Meet_ok (w : World) (v0 : Value) (p0 : List api_Span) (r : api_Span × Bool) (hF : span_Meet p0 = some r)
    (hst : St w (fp []) w []) (h0 : Rd w (fp []) v0 enc_api_Span 2 p0) :
    Calls Tryz.prog 156 [v0].toArray w (fun e w' => e = .returned (.tuple #[.agg [.int .u64 r.1.Lo, .int .u64 r.1.Hi].toArray, .bool r.2]) ∧ St w (fp []) w' []) := by
 refine CW.start (N := 40) Tryz.func156 rfl rfl rfl ?_
 obtain ⟨l1, a2, c3, rfl⟩ := h0.len
 refine CW.seq (CW.region ?_)
 refine OW.alloc hst rfl rfl rfl [.int .u64 0, .int .u64 0] (by kernel_rfl) ?_
 intro b6 w7 hst
 refine OW.pure 1 [] (by kernel_rfl) (OW.nil rfl (QW.next (CW.seq (CW.region ?_))))
 obtain ⟨r15, hr16, hF⟩ := bind_some' hF
 refine OW.fn rfl rfl rfl rfl (by kernel_rfl) (span_Full_ok _ r15 hr16 (hst.part [] rfl)) ?_
 rintro e w17 ⟨rfl, hst18⟩
 refine ⟨_, rfl, ?_⟩
 have hst := hst.join (idx := []) (rest := [0]) rfl hst18
 refine OW.alloc hst rfl rfl rfl [.int .u64 0, .int .u64 0] (by kernel_rfl) ?_
 intro b19 w20 hst
 refine OW.stB hst 1 rfl rfl rfl rfl rfl (by kernel_rfl) rfl rfl [.int .u64 r15.Lo, .int .u64 r15.Hi] rfl ?_
 intro w21 hst
 refine OW.nil rfl (QW.next (CW.seq (CW.seq (CW.region ?_))))
 refine OW.pure 3 [(8, .slice a2 (p0).length c3), (9, .int .i64 ((p0).length : Int)), (10, .int .i64 0)] (by kernel_rfl) (OW.nil rfl (QW.next ?_))
 obtain ⟨o124, ho125, hF⟩ := bind_some' hF
 refine CW.cutK (fun a w1 => ∃ (t126 : api_Span), o124 = .inl t126 ∧ Rep 40 [(0, .slice a2 (p0).length c3), (2, .pointer (some ⟨b6, 0, none⟩)), (4, .pointer (some ⟨b19, 0, none⟩))] a ∧ St w (fp []) w1 [blkI b6 154 [.int .u64 0, .int .u64 0], blkI b19 154 [.int .u64 t126.Lo, .int .u64 t126.Hi]]) ?_ ?_
 ·refine CW.block ?_
  refine CW.loop (fun n a w1 => ∃ (i195 : Nat) (s194 : api_Span), i195 + n = (p0).length ∧ Rep 40 [(0, .slice a2 (p0).length c3), (2, .pointer (some ⟨b6, 0, none⟩)), (4, .pointer (some ⟨b19, 0, none⟩)), (8, .slice a2 (p0).length c3), (9, .int .i64 ((p0).length : Int)), (10, .int .i64 (i195 : Int))] a ∧ St w (fp []) w1 [blkI b6 154 [.int .u64 0, .int .u64 0], blkI b19 154 [.int .u64 s194.Lo, .int .u64 s194.Hi]] ∧ forN (span_Meet_l1 p0) (fun (s194 : api_Span) => (.inl s194)) n i195 s194 = some o124) (p0).length (fun a ha => ⟨0, r15, Nat.zero_add _, ha.agrees (by kernel_rfl), hst.keep [0, 1] rfl, ho125⟩) ?_
  rintro n192 a w1 ⟨i195, s194, hi196, ha, hst, hl193⟩
  refine CW.go ?_ ha
  refine CW.seq (CW.region ?_)
  refine OW.pure 1 [(11, .bool (decide ((i195 : Int) < ((p0).length : Int))))] (by kernel_rfl) (OW.nil rfl (QW.next (CW.seq ?_)))
  rcases Bool.eq_false_or_eq_true (decide ((i195 : Int) < ((p0).length : Int))) with hc197 | hc197
  ·rcases n192 with _ | n192
   ·exact (cnt0 hi196 hc197).elim
   refine CW.cond_t rfl hc197 (CW.skip (QW.next (CW.seq (CW.block (CW.seq (CW.region ?_))))))
   obtain ⟨x207, hx208, hl193⟩ := bind_some' hl193
   obtain ⟨g210, o211, c212, hv209⟩ := h0.formv (fun _ => ⟨_, rfl⟩) hx208
   refine OW.idx 154 2 rfl rfl rfl rfl hv209 rfl (idx_some hx208).1 (idx_some hx208).2.1 (by kernel_rfl) (by kernel_rfl) ?_
   refine OW.ldN (cs := enc_api_Span x207) rfl rfl rfl rfl (by kernel_rfl) (by kernel_rfl) (h0.cellv hst hx208 hv209) ?_
   refine OW.alloc hst rfl rfl rfl [.int .u64 0, .int .u64 0] (by kernel_rfl) ?_
   intro b213 w214 hst
   refine OW.stB hst 2 rfl rfl rfl rfl rfl (by kernel_rfl) rfl rfl [.int .u64 x207.Lo, .int .u64 x207.Hi] rfl ?_
   intro w215 hst
   refine OW.nil rfl (QW.next (CW.seq (CW.seq (CW.region ?_))))
   refine OW.ldN (cs := [.int .u64 x207.Lo, .int .u64 x207.Hi]) rfl rfl rfl rfl (by kernel_rfl) (by kernel_rfl) (hst.blkN 2 rfl 0 2) ?_
   obtain ⟨r220, hr221, hl193⟩ := bind_some' hl193
   refine OW.fn rfl rfl rfl rfl (by kernel_rfl) (span_Right_ok _ x207 r220 hr221 (hst.part [] rfl)) ?_
   rintro e w222 ⟨rfl, hst223⟩
   refine ⟨_, rfl, ?_⟩
   have hst := hst.join (idx := []) (rest := [0, 1, 2]) rfl hst223
   refine OW.pure 1 [(16, .bool (!r220))] (by kernel_rfl) (OW.nil rfl (QW.next ?_))
   rcases Bool.eq_false_or_eq_true ((!r220)) with hc224 | hc224
   ·have hl193 := ite_t hl193 hc224
    refine CW.cond_t rfl hc224 (CW.seq (CW.region ?_))
    refine OW.pure 1 [(17, .agg [.int .u64 0, .int .u64 0].toArray)] (by kernel_rfl) ?_
    refine OW.stB hst 0 rfl rfl rfl rfl rfl (by kernel_rfl) rfl rfl [.int .u64 0, .int .u64 0] rfl ?_
    intro w226 hst
    refine OW.pure 1 [(3, .bool false)] (by kernel_rfl) (OW.nil rfl (QW.next (CW.ret (QW.then_ret (QW.block_ret (QW.then_ret (QW.then_ret (QW.block_ret (QW.then_ret ?_)))))))))
    obtain rfl := Option.some.inj hl193
    obtain rfl := Option.some.inj hF
    refine QW.ret_ct rfl rfl (run_loadN (cs := [.int .u64 0, .int .u64 0]) (by kernel_rfl) (by kernel_rfl) (hst.blkN 0 rfl 0 2)) rfl ?_
    exact ⟨rfl, hst.keep [] rfl⟩
   have hl193 := ite_f hl193 hc224
   refine CW.cond_f rfl hc224 (CW.skip (QW.next (CW.region ?_)))
   refine OW.pure 1 [(18, .pointer (some ⟨b19, 0, none⟩))] (by kernel_rfl) ?_
   refine OW.ld rfl rfl rfl rfl (by kernel_rfl) (hst.blk 1 rfl rfl) ?_
   refine OW.pure 1 [(20, .pointer (some ⟨b213, 0, none⟩))] (by kernel_rfl) ?_
   refine OW.ld rfl rfl rfl rfl (by kernel_rfl) (hst.blk 2 rfl rfl) ?_
   refine OW.pure 2 [(22, .int .u64 (imax s194.Lo x207.Lo)), (23, .pointer (some ⟨b19, 1, none⟩))] (by kernel_rfl) ?_
   refine OW.ld rfl rfl rfl rfl (by kernel_rfl) (hst.blk 1 rfl rfl) ?_
   refine OW.pure 1 [(25, .pointer (some ⟨b213, 1, none⟩))] (by kernel_rfl) ?_
   refine OW.ld rfl rfl rfl rfl (by kernel_rfl) (hst.blk 2 rfl rfl) ?_
   refine OW.pure 2 [(28, .agg [.int .u64 (imax s194.Lo x207.Lo), .int .u64 (imin s194.Hi x207.Hi)].toArray)] (by kernel_rfl) ?_
   refine OW.stB hst 1 rfl rfl rfl rfl rfl (by kernel_rfl) rfl rfl [.int .u64 (imax s194.Lo x207.Lo), .int .u64 (imin s194.Hi x207.Hi)] rfl ?_
   intro w228 hst
   refine OW.nil rfl (QW.block_normal (QW.next (CW.region ?_)))
   refine OW.pure 2 [(10, .int .i64 (w64 ((i195 : Int) + 1)))] (by kernel_rfl) (OW.nil rfl ?_)
   refine QW.say 10 rfl (congrArg (Value.int .i64) (w64_cnt hc197 l1)) ?_
   exact QW.meet (fun a ha => ⟨n192, Nat.lt_succ_self _, i195 + 1, (api_Span.mk (imax s194.Lo x207.Lo) (imin s194.Hi x207.Hi)), cnt_next hi196, ha.agrees (by kernel_rfl), hst.keep [0, 1] rfl, hl193⟩)
  rcases n192 with _ | n192
  ·refine CW.cond_f rfl hc197 ?_
   refine CW.exit (QW.then_exit (QW.then_exit ?_))
   refine QW.block_here ?_
   obtain rfl := Option.some.inj hl193
   exact QW.meet (fun a ha => ⟨s194, rfl, ha.agrees (by kernel_rfl), hst.keep [0, 1] rfl⟩)
  exact (cnt1 hi196 hc197).elim
 rintro a w1 ⟨t126, rfl, ha, hst⟩
 refine CW.go ?_ ha
 refine CW.seq (CW.seq ?_)
 obtain ⟨o234, ho235, hF⟩ := bind_some' hF
 refine CW.cutK (fun a w1 => Rep 40 [(2, .pointer (some ⟨b6, 0, none⟩)), (4, .pointer (some ⟨b19, 0, none⟩)), (37, .bool o234)] a ∧ St w (fp []) w1 [blkI b6 154 [.int .u64 0, .int .u64 0], blkI b19 154 [.int .u64 t126.Lo, .int .u64 t126.Hi]]) ?_ ?_
 ·refine CW.region ?_
  refine OW.pure 4 [(33, .bool (((p0).length : Int) == 0))] (by kernel_rfl) ?_
  refine OW.split 33 rfl (fun hc236 => ?_) (fun hc236 => ?_)
  ·have ho235 := ite_t ho235 hc236
   refine OW.pure 4 [(37, .bool true)] (by kernel_rfl) (OW.nil rfl ?_)
   obtain rfl := Option.some.inj ho235
   exact QW.meet (fun a ha => ⟨ha.agrees (by kernel_rfl), hst.keep [0, 1] rfl⟩)
  have ho235 := ite_f ho235 hc236
  refine OW.ldN (cs := [.int .u64 t126.Lo, .int .u64 t126.Hi]) rfl rfl rfl rfl (by kernel_rfl) (by kernel_rfl) (hst.blkN 1 rfl 0 2) ?_
  obtain ⟨r237, hr238, ho235⟩ := bind_some' ho235
  refine OW.fn rfl rfl rfl rfl (by kernel_rfl) (span_Right_ok _ t126 r237 hr238 (hst.part [] rfl)) ?_
  rintro e w239 ⟨rfl, hst240⟩
  refine ⟨_, rfl, ?_⟩
  have hst := hst.join (idx := []) (rest := [0, 1]) rfl hst240
  refine OW.pure 2 [(37, .bool (!r237))] (by kernel_rfl) (OW.nil rfl ?_)
  obtain rfl := Option.some.inj ho235
  exact QW.meet (fun a ha => ⟨ha.agrees (by kernel_rfl), hst.keep [0, 1] rfl⟩)
 rintro a w1 ⟨ha, hst⟩
 refine CW.go ?_ ha
 rcases Bool.eq_false_or_eq_true (o234) with hc241 | hc241
 ·have hF := ite_t hF hc241
  refine CW.cond_t rfl hc241 (CW.seq (CW.region ?_))
  refine OW.pure 1 [(38, .agg [.int .u64 0, .int .u64 0].toArray)] (by kernel_rfl) ?_
  refine OW.stB hst 0 rfl rfl rfl rfl rfl (by kernel_rfl) rfl rfl [.int .u64 0, .int .u64 0] rfl ?_
  intro w243 hst
  refine OW.pure 1 [(3, .bool false)] (by kernel_rfl) (OW.nil rfl (QW.next (CW.ret (QW.then_ret ?_))))
  obtain rfl := Option.some.inj hF
  refine QW.ret_ct rfl rfl (run_loadN (cs := [.int .u64 0, .int .u64 0]) (by kernel_rfl) (by kernel_rfl) (hst.blkN 0 rfl 0 2)) rfl ?_
  exact ⟨rfl, hst.keep [] rfl⟩
 have hF := ite_f hF hc241
 refine CW.cond_f rfl hc241 (CW.skip (QW.next (CW.seq (CW.region ?_))))
 refine OW.ldN (cs := [.int .u64 t126.Lo, .int .u64 t126.Hi]) rfl rfl rfl rfl (by kernel_rfl) (by kernel_rfl) (hst.blkN 1 rfl 0 2) ?_
 refine OW.stB hst 0 rfl rfl rfl rfl rfl (by kernel_rfl) rfl rfl [.int .u64 t126.Lo, .int .u64 t126.Hi] rfl ?_
 intro w245 hst
 refine OW.pure 1 [(3, .bool true)] (by kernel_rfl) (OW.nil rfl (QW.next (CW.ret ?_)))
 obtain rfl := Option.some.inj hF
 refine QW.ret_ct rfl rfl (run_loadN (cs := [.int .u64 t126.Lo, .int .u64 t126.Hi]) (by kernel_rfl) (by kernel_rfl) (hst.blkN 0 rfl 0 2)) rfl ?_
 exact ⟨rfl, hst.keep [] rfl⟩
theorem span_Refine_ok (w : World) (p0 : Int) (p1 : api_Span) (p2 : api_Span) (p3 : Bool) (r : api_Span × Bool) (hF : span_Refine p0 p1 p2 p3 = some r)
    (hst : St w (fp []) w []) :
    Calls Tryz.prog 123 [.int .i64 p0, .agg [.int .u64 p1.Lo, .int .u64 p1.Hi].toArray, .agg [.int .u64 p2.Lo, .int .u64 p2.Hi].toArray, .bool p3].toArray w (fun e w' => e = .returned (.tuple #[.agg [.int .u64 r.1.Lo, .int .u64 r.1.Hi].toArray, .bool r.2]) ∧ St w (fp []) w' []) := by
 refine CW.start (N := 116) Tryz.func123 rfl rfl rfl (CW.seq (CW.region ?_))
 refine OW.box hst rfl rfl rfl rfl [.int .u64 p1.Lo, .int .u64 p1.Hi] rfl ?_
 intro b7 w8 hst
 refine OW.box hst rfl rfl rfl rfl [.int .u64 p2.Lo, .int .u64 p2.Hi] rfl ?_
 intro b9 w10 hst
 refine OW.alloc hst rfl rfl rfl [.int .u64 0, .int .u64 0] (by kernel_rfl) ?_
 intro b11 w12 hst
 refine OW.pure 1 [] (by kernel_rfl) (OW.nil rfl (QW.next (CW.seq (CW.region ?_))))
 refine OW.pure 1 [(14, .int .i64 p0)] (by kernel_rfl) ?_
 obtain ⟨r17, hr18, hF⟩ := bind_some' hF
 refine OW.fn rfl rfl rfl rfl (by kernel_rfl) (arith_Holds_ok _ p0 0 0 r17 hr18 (hst.part [] rfl)) ?_
 rintro e w19 ⟨rfl, hst20⟩
 refine ⟨_, rfl, ?_⟩
 have hst := hst.join (idx := []) (rest := [0, 1, 2]) rfl hst20
 refine OW.pure 5 [(11, .bool r17.2)] (by kernel_rfl) (OW.nil rfl (QW.next (CW.seq (CW.block (CW.seq ?_)))))
 obtain ⟨o31, ho32, hF⟩ := bind_some' hF
 refine CW.cutK (fun a w1 => Rep 116 [(0, .int .i64 p0), (3, .bool p3), (5, .pointer (some ⟨b7, 0, none⟩)), (6, .pointer (some ⟨b9, 0, none⟩)), (8, .pointer (some ⟨b11, 0, none⟩)), (18, .bool o31)] a ∧ St w (fp []) w1 [blkI b7 154 [.int .u64 p1.Lo, .int .u64 p1.Hi], blkI b9 154 [.int .u64 p2.Lo, .int .u64 p2.Hi], blkI b11 154 [.int .u64 0, .int .u64 0]]) ?_ ?_
 ·refine CW.region ?_
  refine OW.pure 3 [(21, .bool (!r17.2))] (by kernel_rfl) ?_
  refine OW.split 21 rfl (fun hc33 => ?_) (fun hc33 => ?_)
  ·have ho32 := ite_t ho32 hc33
   refine OW.pure 10 [(18, .bool true)] (by kernel_rfl) (OW.nil rfl ?_)
   obtain rfl := Option.some.inj ho32
   exact QW.meet (fun a ha => ⟨ha.agrees (by kernel_rfl), hst.keep [0, 1, 2] rfl⟩)
  have ho32 := ite_f ho32 hc33
  refine OW.ldN (cs := [.int .u64 p1.Lo, .int .u64 p1.Hi]) rfl rfl rfl rfl (by kernel_rfl) (by kernel_rfl) (hst.blkN 0 rfl 0 2) ?_
  obtain ⟨r34, hr35, ho32⟩ := bind_some' ho32
  refine OW.fn rfl rfl rfl rfl (by kernel_rfl) (span_Right_ok _ p1 r34 hr35 (hst.part [] rfl)) ?_
  rintro e w36 ⟨rfl, hst37⟩
  refine ⟨_, rfl, ?_⟩
  have hst := hst.join (idx := []) (rest := [0, 1, 2]) rfl hst37
  refine OW.pure 3 [(26, .bool (!r34))] (by kernel_rfl) ?_
  refine OW.split 26 rfl (fun hc38 => ?_) (fun hc38 => ?_)
  ·have ho32 := ite_t ho32 hc38
   refine OW.pure 5 [(18, .bool true)] (by kernel_rfl) (OW.nil rfl ?_)
   obtain rfl := Option.some.inj ho32
   exact QW.meet (fun a ha => ⟨ha.agrees (by kernel_rfl), hst.keep [0, 1, 2] rfl⟩)
  have ho32 := ite_f ho32 hc38
  refine OW.ldN (cs := [.int .u64 p2.Lo, .int .u64 p2.Hi]) rfl rfl rfl rfl (by kernel_rfl) (by kernel_rfl) (hst.blkN 1 rfl 0 2) ?_
  obtain ⟨r39, hr40, ho32⟩ := bind_some' ho32
  refine OW.fn rfl rfl rfl rfl (by kernel_rfl) (span_Right_ok _ p2 r39 hr40 (hst.part [] rfl)) ?_
  rintro e w41 ⟨rfl, hst42⟩
  refine ⟨_, rfl, ?_⟩
  have hst := hst.join (idx := []) (rest := [0, 1, 2]) rfl hst42
  refine OW.pure 3 [(18, .bool (!r39))] (by kernel_rfl) (OW.nil rfl ?_)
  obtain rfl := Option.some.inj ho32
  exact QW.meet (fun a ha => ⟨ha.agrees (by kernel_rfl), hst.keep [0, 1, 2] rfl⟩)
 rintro a w1 ⟨ha, hst⟩
 refine CW.go ?_ ha
 rcases Bool.eq_false_or_eq_true (o31) with hc43 | hc43
 ·have hF := ite_t hF hc43
  refine CW.cond_t rfl hc43 (CW.seq (CW.region ?_))
  refine OW.pure 1 [(31, .agg [.int .u64 0, .int .u64 0].toArray)] (by kernel_rfl) ?_
  refine OW.stB hst 2 rfl rfl rfl rfl rfl (by kernel_rfl) rfl rfl [.int .u64 0, .int .u64 0] rfl ?_
  intro w45 hst
  refine OW.pure 1 [(9, .bool false)] (by kernel_rfl) (OW.nil rfl (QW.next (CW.ret (QW.block_ret (QW.then_ret ?_)))))
  obtain rfl := Option.some.inj hF
  refine QW.ret_ct rfl rfl (run_loadN (cs := [.int .u64 0, .int .u64 0]) (by kernel_rfl) (by kernel_rfl) (hst.blkN 2 rfl 0 2)) rfl ?_
  exact ⟨rfl, hst.keep [] rfl⟩
 have hF := ite_f hF hc43
 refine CW.cond_f rfl hc43 (CW.seq (CW.region ?_))
 refine OW.ldN (cs := [.int .u64 p2.Lo, .int .u64 p2.Hi]) rfl rfl rfl rfl (by kernel_rfl) (by kernel_rfl) (hst.blkN 1 rfl 0 2) ?_
 obtain ⟨r50, hr51, hF⟩ := bind_some' hF
 refine OW.fn rfl rfl rfl rfl (by kernel_rfl) (span_single_ok _ p2 r50 hr51 (hst.part [] rfl)) ?_
 rintro e w52 ⟨rfl, hst53⟩
 refine ⟨_, rfl, ?_⟩
 have hst := hst.join (idx := []) (rest := [0, 1, 2]) rfl hst53
 refine OW.pure 2 [(32, .bool (!r50))] (by kernel_rfl) (OW.nil rfl (QW.next ?_))
 rcases Bool.eq_false_or_eq_true ((!r50)) with hc54 | hc54
 ·have hF := ite_t hF hc54
  refine CW.cond_t rfl hc54 (CW.seq (CW.region ?_))
  refine OW.ldN (cs := [.int .u64 p1.Lo, .int .u64 p1.Hi]) rfl rfl rfl rfl (by kernel_rfl) (by kernel_rfl) (hst.blkN 0 rfl 0 2) ?_
  refine OW.stB hst 2 rfl rfl rfl rfl rfl (by kernel_rfl) rfl rfl [.int .u64 p1.Lo, .int .u64 p1.Hi] rfl ?_
  intro w56 hst
  refine OW.pure 1 [(9, .bool true)] (by kernel_rfl) (OW.nil rfl (QW.next (CW.ret (QW.block_ret (QW.then_ret ?_)))))
  obtain rfl := Option.some.inj hF
  refine QW.ret_ct rfl rfl (run_loadN (cs := [.int .u64 p1.Lo, .int .u64 p1.Hi]) (by kernel_rfl) (by kernel_rfl) (hst.blkN 2 rfl 0 2)) rfl ?_
  exact ⟨rfl, hst.keep [] rfl⟩
 have hF := ite_f hF hc54
 refine CW.cond_f rfl hc54 (CW.skip (QW.block_normal (QW.next (CW.seq (CW.region ?_)))))
 refine OW.pure 1 [(37, .pointer (some ⟨b9, 0, none⟩))] (by kernel_rfl) ?_
 refine OW.ld rfl rfl rfl rfl (by kernel_rfl) (hst.blk 1 rfl rfl) ?_
 refine OW.pure 1 [(12, .int .u64 p2.Lo)] (by kernel_rfl) (OW.nil rfl (QW.next (CW.seq (CW.block (CW.seq (CW.seq ?_))))))
 refine CW.cutK (fun a w1 => Rep 116 [(0, .int .i64 p0), (3, .bool p3), (5, .pointer (some ⟨b7, 0, none⟩)), (6, .pointer (some ⟨b9, 0, none⟩)), (8, .pointer (some ⟨b11, 0, none⟩)), (12, .int .u64 p2.Lo), (39, .bool ((p0 == 18) && p3))] a ∧ St w (fp []) w1 [blkI b7 154 [.int .u64 p1.Lo, .int .u64 p1.Hi], blkI b9 154 [.int .u64 p2.Lo, .int .u64 p2.Hi], blkI b11 154 [.int .u64 0, .int .u64 0]]) ?_ ?_
 ·refine CW.region ?_
  refine OW.pure 3 [(42, .bool (p0 == 18))] (by kernel_rfl) ?_
  refine OW.split 42 rfl (fun hc57 => ?_) (fun hc57 => ?_)
  ·refine OW.pure 3 [(39, .bool p3)] (by kernel_rfl) (OW.nil rfl ?_)
   refine QW.say 39 (v := .bool ((p0 == 18) && p3)) rfl (by first | (rw [hc57]; done) | (rw [hc57]; rfl) | simp [hc57]) ?_
   exact QW.meet (fun a ha => ⟨ha.agrees (by kernel_rfl), hst.keep [0, 1, 2] rfl⟩)
  refine OW.pure 3 [(39, .bool false)] (by kernel_rfl) (OW.nil rfl ?_)
  refine QW.say 39 (v := .bool ((p0 == 18) && p3)) rfl (by first | (rw [hc57]; done) | (rw [hc57]; rfl) | simp [hc57]) ?_
  exact QW.meet (fun a ha => ⟨ha.agrees (by kernel_rfl), hst.keep [0, 1, 2] rfl⟩)
 rintro a w1 ⟨ha, hst⟩
 refine CW.go ?_ ha
 obtain ⟨o60, ho61, hF⟩ := bind_some' hF
 refine CW.cutK (fun a w1 => Rep 116 [(0, .int .i64 p0), (3, .bool p3), (5, .pointer (some ⟨b7, 0, none⟩)), (6, .pointer (some ⟨b9, 0, none⟩)), (8, .pointer (some ⟨b11, 0, none⟩)), (12, .int .u64 p2.Lo), (39, .bool o60)] a ∧ St w (fp []) w1 [blkI b7 154 [.int .u64 p1.Lo, .int .u64 p1.Hi], blkI b9 154 [.int .u64 p2.Lo, .int .u64 p2.Hi], blkI b11 154 [.int .u64 0, .int .u64 0]]) ?_ ?_
 ·rcases Bool.eq_false_or_eq_true (((p0 == 18) && p3)) with hc62 | hc62
  ·have ho61 := ite_t ho61 hc62
   refine CW.cond_t rfl hc62 (CW.skip ?_)
   obtain rfl := Option.some.inj ho61
   exact QW.meet (fun a ha => ⟨ha.agrees (by kernel_rfl), hst.keep [0, 1, 2] rfl⟩)
  have ho61 := ite_f ho61 hc62
  refine CW.cond_f rfl hc62 (CW.region ?_)
  refine OW.pure 3 [(47, .bool (p0 == 19))] (by kernel_rfl) ?_
  refine OW.split 47 rfl (fun hc63 => ?_) (fun hc63 => ?_)
  ·have ho61 := ite_t ho61 hc63
   refine OW.pure 4 [(39, .bool (!p3))] (by kernel_rfl) (OW.nil rfl ?_)
   obtain rfl := Option.some.inj ho61
   exact QW.meet (fun a ha => ⟨ha.agrees (by kernel_rfl), hst.keep [0, 1, 2] rfl⟩)
  have ho61 := ite_f ho61 hc63
  refine OW.pure 4 [(39, .bool false)] (by kernel_rfl) (OW.nil rfl ?_)
  obtain rfl := Option.some.inj ho61
  exact QW.meet (fun a ha => ⟨ha.agrees (by kernel_rfl), hst.keep [0, 1, 2] rfl⟩)
 rintro a w1 ⟨ha, hst⟩
 refine CW.go ?_ ha
 rcases Bool.eq_false_or_eq_true (o60) with hc64 | hc64
 ·have hF := ite_t hF hc64
  refine CW.cond_t rfl hc64 (CW.seq (CW.seq (CW.region ?_)))
  refine OW.pure 2 [(52, .bool (p2.Lo == 0))] (by kernel_rfl) (OW.nil rfl (QW.next ?_))
  rcases Bool.eq_false_or_eq_true ((p2.Lo == 0)) with hc65 | hc65
  ·have hF := ite_t hF hc65
   refine CW.cond_t rfl hc65 (CW.seq (CW.region ?_))
   refine OW.pure 1 [(53, .agg [.int .u64 0, .int .u64 0].toArray)] (by kernel_rfl) ?_
   refine OW.stB hst 2 rfl rfl rfl rfl rfl (by kernel_rfl) rfl rfl [.int .u64 0, .int .u64 0] rfl ?_
   intro w67 hst
   refine OW.pure 1 [(9, .bool false)] (by kernel_rfl) (OW.nil rfl (QW.next (CW.ret (QW.then_ret (QW.block_ret (QW.then_ret ?_))))))
   obtain rfl := Option.some.inj hF
   refine QW.ret_ct rfl rfl (run_loadN (cs := [.int .u64 0, .int .u64 0]) (by kernel_rfl) (by kernel_rfl) (hst.blkN 2 rfl 0 2)) rfl ?_
   exact ⟨rfl, hst.keep [] rfl⟩
  have hF := ite_f hF hc65
  refine CW.cond_f rfl hc65 (CW.skip (QW.next (CW.seq (CW.region ?_))))
  refine OW.ldN (cs := [.int .u64 p1.Lo, .int .u64 p1.Hi]) rfl rfl rfl rfl (by kernel_rfl) (by kernel_rfl) (hst.blkN 0 rfl 0 2) ?_
  refine OW.pure 3 [(57, .agg [.int .u64 0, .int .u64 (wu64 (p2.Lo - 1))].toArray)] (by kernel_rfl) ?_
  refine OW.row (α := api_Span) (e := 154) (enc := enc_api_Span) (sz := 2) hst rfl rfl rfl [p1, (api_Span.mk 0 (wu64 (p2.Lo - 1)))] rfl (fun _ => rfl) rfl rfl (fun _ => by kernel_rfl) ?_
  intro g75 w76 hst
  obtain ⟨r77, hr78, hF⟩ := bind_some' hF
  refine OW.fn rfl rfl rfl rfl (by kernel_rfl) (span_Meet_ok _ (.slice (some ⟨g75, 0, none⟩) 2 2) ([p1, (api_Span.mk 0 (wu64 (p2.Lo - 1)))]) r77 hr78 (hst.part [] rfl) (hst.rd 3 rfl (fun _ => rfl) [] rfl (hst.len 3 rfl).1)) ?_
  rintro e w79 ⟨rfl, hst80⟩
  refine ⟨_, rfl, ?_⟩
  have hst := hst.join (idx := []) (rest := [0, 1, 2, 3]) rfl hst80
  refine OW.pure 2 [(60, .agg [.int .u64 r77.1.Lo, .int .u64 r77.1.Hi].toArray), (61, .bool r77.2)] (by kernel_rfl) ?_
  refine OW.stB hst 2 rfl rfl rfl rfl rfl (by kernel_rfl) rfl rfl [.int .u64 r77.1.Lo, .int .u64 r77.1.Hi] rfl ?_
  intro w81 hst
  refine OW.pure 1 [(9, .bool r77.2)] (by kernel_rfl) (OW.nil rfl (QW.next (CW.ret (QW.block_ret (QW.then_ret ?_)))))
  obtain rfl := Option.some.inj hF
  refine QW.ret_ct rfl rfl (run_loadN (cs := [.int .u64 r77.1.Lo, .int .u64 r77.1.Hi]) (by kernel_rfl) (by kernel_rfl) (hst.blkN 2 rfl 0 2)) rfl ?_
  exact ⟨rfl, hst.keep [] rfl⟩
 have hF := ite_f hF hc64
 refine CW.cond_f rfl hc64 (CW.seq (CW.seq (CW.region ?_)))
 refine OW.pure 3 [(62, .bool (p0 == 18))] (by kernel_rfl) (OW.nil rfl (QW.next ?_))
 obtain ⟨o83, ho84, hF⟩ := bind_some' hF
 refine CW.cutK (fun a w1 => Rep 116 [(0, .int .i64 p0), (3, .bool p3), (5, .pointer (some ⟨b7, 0, none⟩)), (6, .pointer (some ⟨b9, 0, none⟩)), (8, .pointer (some ⟨b11, 0, none⟩)), (12, .int .u64 p2.Lo), (62, .bool o83)] a ∧ St w (fp []) w1 [blkI b7 154 [.int .u64 p1.Lo, .int .u64 p1.Hi], blkI b9 154 [.int .u64 p2.Lo, .int .u64 p2.Hi], blkI b11 154 [.int .u64 0, .int .u64 0]]) ?_ ?_
 ·rcases Bool.eq_false_or_eq_true ((p0 == 18)) with hc85 | hc85
  ·have ho84 := ite_t ho84 hc85
   refine CW.cond_t rfl hc85 (CW.skip ?_)
   obtain rfl := Option.some.inj ho84
   exact QW.meet (fun a ha => ⟨ha.agrees (by kernel_rfl), hst.keep [0, 1, 2] rfl⟩)
  have ho84 := ite_f ho84 hc85
  refine CW.cond_f rfl hc85 (CW.region ?_)
  refine OW.pure 3 [(62, .bool (p0 == 19))] (by kernel_rfl) (OW.nil rfl ?_)
  obtain rfl := Option.some.inj ho84
  exact QW.meet (fun a ha => ⟨ha.agrees (by kernel_rfl), hst.keep [0, 1, 2] rfl⟩)
 rintro a w1 ⟨ha, hst⟩
 refine CW.go ?_ ha
 rcases Bool.eq_false_or_eq_true (o83) with hc86 | hc86
 ·have hF := ite_t hF hc86
  refine CW.cond_t rfl hc86 (CW.seq (CW.region ?_))
  refine OW.ldN (cs := [.int .u64 p1.Lo, .int .u64 p1.Hi]) rfl rfl rfl rfl (by kernel_rfl) (by kernel_rfl) (hst.blkN 0 rfl 0 2) ?_
  refine OW.pure 2 [(69, .agg [.int .u64 p2.Lo, .int .u64 18446744073709551615].toArray)] (by kernel_rfl) ?_
  refine OW.row (α := api_Span) (e := 154) (enc := enc_api_Span) (sz := 2) hst rfl rfl rfl [p1, (api_Span.mk p2.Lo 18446744073709551615)] rfl (fun _ => rfl) rfl rfl (fun _ => by kernel_rfl) ?_
  intro g94 w95 hst
  obtain ⟨r96, hr97, hF⟩ := bind_some' hF
  refine OW.fn rfl rfl rfl rfl (by kernel_rfl) (span_Meet_ok _ (.slice (some ⟨g94, 0, none⟩) 2 2) ([p1, (api_Span.mk p2.Lo 18446744073709551615)]) r96 hr97 (hst.part [] rfl) (hst.rd 3 rfl (fun _ => rfl) [] rfl (hst.len 3 rfl).1)) ?_
  rintro e w98 ⟨rfl, hst99⟩
  refine ⟨_, rfl, ?_⟩
  have hst := hst.join (idx := []) (rest := [0, 1, 2, 3]) rfl hst99
  refine OW.pure 2 [(72, .agg [.int .u64 r96.1.Lo, .int .u64 r96.1.Hi].toArray), (73, .bool r96.2)] (by kernel_rfl) ?_
  refine OW.stB hst 2 rfl rfl rfl rfl rfl (by kernel_rfl) rfl rfl [.int .u64 r96.1.Lo, .int .u64 r96.1.Hi] rfl ?_
  intro w100 hst
  refine OW.pure 1 [(9, .bool r96.2)] (by kernel_rfl) (OW.nil rfl (QW.next (CW.ret (QW.block_ret (QW.then_ret ?_)))))
  obtain rfl := Option.some.inj hF
  refine QW.ret_ct rfl rfl (run_loadN (cs := [.int .u64 r96.1.Lo, .int .u64 r96.1.Hi]) (by kernel_rfl) (by kernel_rfl) (hst.blkN 2 rfl 0 2)) rfl ?_
  exact ⟨rfl, hst.keep [] rfl⟩
 have hF := ite_f hF hc86
 refine CW.cond_f rfl hc86 (CW.seq (CW.seq ?_))
 refine CW.cutK (fun a w1 => Rep 116 [(0, .int .i64 p0), (3, .bool p3), (5, .pointer (some ⟨b7, 0, none⟩)), (6, .pointer (some ⟨b9, 0, none⟩)), (8, .pointer (some ⟨b11, 0, none⟩)), (12, .int .u64 p2.Lo), (74, .bool ((p0 == 16) && p3))] a ∧ St w (fp []) w1 [blkI b7 154 [.int .u64 p1.Lo, .int .u64 p1.Hi], blkI b9 154 [.int .u64 p2.Lo, .int .u64 p2.Hi], blkI b11 154 [.int .u64 0, .int .u64 0]]) ?_ ?_
 ·refine CW.region ?_
  refine OW.pure 3 [(77, .bool (p0 == 16))] (by kernel_rfl) ?_
  refine OW.split 77 rfl (fun hc101 => ?_) (fun hc101 => ?_)
  ·refine OW.pure 3 [(74, .bool p3)] (by kernel_rfl) (OW.nil rfl ?_)
   refine QW.say 74 (v := .bool ((p0 == 16) && p3)) rfl (by first | (rw [hc101]; done) | (rw [hc101]; rfl) | simp [hc101]) ?_
   exact QW.meet (fun a ha => ⟨ha.agrees (by kernel_rfl), hst.keep [0, 1, 2] rfl⟩)
  refine OW.pure 3 [(74, .bool false)] (by kernel_rfl) (OW.nil rfl ?_)
  refine QW.say 74 (v := .bool ((p0 == 16) && p3)) rfl (by first | (rw [hc101]; done) | (rw [hc101]; rfl) | simp [hc101]) ?_
  exact QW.meet (fun a ha => ⟨ha.agrees (by kernel_rfl), hst.keep [0, 1, 2] rfl⟩)
 rintro a w1 ⟨ha, hst⟩
 refine CW.go ?_ ha
 obtain ⟨o104, ho105, hF⟩ := bind_some' hF
 refine CW.cutK (fun a w1 => Rep 116 [(5, .pointer (some ⟨b7, 0, none⟩)), (6, .pointer (some ⟨b9, 0, none⟩)), (8, .pointer (some ⟨b11, 0, none⟩)), (12, .int .u64 p2.Lo), (74, .bool o104)] a ∧ St w (fp []) w1 [blkI b7 154 [.int .u64 p1.Lo, .int .u64 p1.Hi], blkI b9 154 [.int .u64 p2.Lo, .int .u64 p2.Hi], blkI b11 154 [.int .u64 0, .int .u64 0]]) ?_ ?_
 ·rcases Bool.eq_false_or_eq_true (((p0 == 16) && p3)) with hc106 | hc106
  ·have ho105 := ite_t ho105 hc106
   refine CW.cond_t rfl hc106 (CW.skip ?_)
   obtain rfl := Option.some.inj ho105
   exact QW.meet (fun a ha => ⟨ha.agrees (by kernel_rfl), hst.keep [0, 1, 2] rfl⟩)
  have ho105 := ite_f ho105 hc106
  refine CW.cond_f rfl hc106 (CW.region ?_)
  refine OW.pure 3 [(82, .bool (p0 == 17))] (by kernel_rfl) ?_
  refine OW.split 82 rfl (fun hc107 => ?_) (fun hc107 => ?_)
  ·have ho105 := ite_t ho105 hc107
   refine OW.pure 4 [(74, .bool (!p3))] (by kernel_rfl) (OW.nil rfl ?_)
   obtain rfl := Option.some.inj ho105
   exact QW.meet (fun a ha => ⟨ha.agrees (by kernel_rfl), hst.keep [0, 1, 2] rfl⟩)
  have ho105 := ite_f ho105 hc107
  refine OW.pure 4 [(74, .bool false)] (by kernel_rfl) (OW.nil rfl ?_)
  obtain rfl := Option.some.inj ho105
  exact QW.meet (fun a ha => ⟨ha.agrees (by kernel_rfl), hst.keep [0, 1, 2] rfl⟩)
 rintro a w1 ⟨ha, hst⟩
 refine CW.go ?_ ha
 rcases Bool.eq_false_or_eq_true (o104) with hc108 | hc108
 ·have hF := ite_t hF hc108
  refine CW.cond_t rfl hc108 (CW.seq (CW.region ?_))
  refine OW.ldN (cs := [.int .u64 p1.Lo, .int .u64 p1.Hi]) rfl rfl rfl rfl (by kernel_rfl) (by kernel_rfl) (hst.blkN 0 rfl 0 2) ?_
  refine OW.ldN (cs := [.int .u64 p2.Lo, .int .u64 p2.Hi]) rfl rfl rfl rfl (by kernel_rfl) (by kernel_rfl) (hst.blkN 1 rfl 0 2) ?_
  refine OW.row (α := api_Span) (e := 154) (enc := enc_api_Span) (sz := 2) hst rfl rfl rfl [p1, p2] rfl (fun _ => rfl) rfl rfl (fun _ => by kernel_rfl) ?_
  intro g116 w117 hst
  obtain ⟨r118, hr119, hF⟩ := bind_some' hF
  refine OW.fn rfl rfl rfl rfl (by kernel_rfl) (span_Meet_ok _ (.slice (some ⟨g116, 0, none⟩) 2 2) ([p1, p2]) r118 hr119 (hst.part [] rfl) (hst.rd 3 rfl (fun _ => rfl) [] rfl (hst.len 3 rfl).1)) ?_
  rintro e w120 ⟨rfl, hst121⟩
  refine ⟨_, rfl, ?_⟩
  have hst := hst.join (idx := []) (rest := [0, 1, 2, 3]) rfl hst121
  refine OW.pure 2 [(90, .agg [.int .u64 r118.1.Lo, .int .u64 r118.1.Hi].toArray), (91, .bool r118.2)] (by kernel_rfl) ?_
  refine OW.stB hst 2 rfl rfl rfl rfl rfl (by kernel_rfl) rfl rfl [.int .u64 r118.1.Lo, .int .u64 r118.1.Hi] rfl ?_
  intro w122 hst
  refine OW.pure 1 [(9, .bool r118.2)] (by kernel_rfl) (OW.nil rfl (QW.next (CW.ret (QW.block_ret (QW.then_ret ?_)))))
  obtain rfl := Option.some.inj hF
  refine QW.ret_ct rfl rfl (run_loadN (cs := [.int .u64 r118.1.Lo, .int .u64 r118.1.Hi]) (by kernel_rfl) (by kernel_rfl) (hst.blkN 2 rfl 0 2)) rfl ?_
  exact ⟨rfl, hst.keep [] rfl⟩
 have hF := ite_f hF hc108
 refine CW.cond_f rfl hc108 (CW.seq (CW.region ?_))
 refine OW.ldN (cs := [.int .u64 p1.Lo, .int .u64 p1.Hi]) rfl rfl rfl rfl (by kernel_rfl) (by kernel_rfl) (hst.blkN 0 rfl 0 2) ?_
 refine OW.ldN (cs := [.int .u64 p2.Lo, .int .u64 p2.Hi]) rfl rfl rfl rfl (by kernel_rfl) (by kernel_rfl) (hst.blkN 1 rfl 0 2) ?_
 refine OW.op (v := .bool ((p1.Lo == p2.Lo) && ((p1.Hi == p2.Hi) && true))) rfl rfl rfl rfl (fun a ha => seq_run rfl rfl rfl (by kernel_rfl) (by kernel_rfl) a _ ha) ?_
 refine OW.pure 1 [(92, .bool ((p1.Lo == p2.Lo) && ((p1.Hi == p2.Hi) && true)))] (by kernel_rfl) (OW.nil rfl (QW.next ?_))
 rcases Bool.eq_false_or_eq_true (((p1.Lo == p2.Lo) && ((p1.Hi == p2.Hi) && true))) with hc123 | hc123
 ·have hF := ite_t hF hc123
  refine CW.cond_t rfl hc123 (CW.seq (CW.region ?_))
  refine OW.pure 1 [(96, .agg [.int .u64 0, .int .u64 0].toArray)] (by kernel_rfl) ?_
  refine OW.stB hst 2 rfl rfl rfl rfl rfl (by kernel_rfl) rfl rfl [.int .u64 0, .int .u64 0] rfl ?_
  intro w125 hst
  refine OW.pure 1 [(9, .bool false)] (by kernel_rfl) (OW.nil rfl (QW.next (CW.ret (QW.block_ret (QW.then_ret ?_)))))
  obtain rfl := Option.some.inj hF
  refine QW.ret_ct rfl rfl (run_loadN (cs := [.int .u64 0, .int .u64 0]) (by kernel_rfl) (by kernel_rfl) (hst.blkN 2 rfl 0 2)) rfl ?_
  exact ⟨rfl, hst.keep [] rfl⟩
 have hF := ite_f hF hc123
 refine CW.cond_f rfl hc123 (CW.seq (CW.region ?_))
 refine OW.pure 1 [(98, .pointer (some ⟨b7, 0, none⟩))] (by kernel_rfl) ?_
 refine OW.ld rfl rfl rfl rfl (by kernel_rfl) (hst.blk 0 rfl rfl) ?_
 refine OW.pure 3 [(97, .bool (p1.Lo == p2.Lo))] (by kernel_rfl) (OW.nil rfl (QW.next ?_))
 rcases Bool.eq_false_or_eq_true ((p1.Lo == p2.Lo)) with hc126 | hc126
 ·have hF := ite_t hF hc126
  refine CW.cond_t rfl hc126 (CW.region ?_)
  refine OW.pure 1 [(102, .pointer (some ⟨b7, 0, none⟩))] (by kernel_rfl) ?_
  refine OW.ld rfl rfl rfl rfl (by kernel_rfl) (hst.blk 0 rfl rfl) ?_
  refine OW.pure 2 [(104, .int .u64 (wu64 (p1.Lo + 1))), (105, .pointer (some ⟨b7, 0, none⟩))] (by kernel_rfl) ?_
  refine OW.stB hst 0 rfl rfl rfl rfl rfl (by kernel_rfl) rfl rfl [.int .u64 (wu64 (p1.Lo + 1)), .int .u64 p1.Hi] rfl ?_
  intro w128 hst
  refine OW.nil rfl (QW.block_normal (QW.next (CW.seq (CW.region ?_))))
  refine OW.ldN (cs := [.int .u64 (wu64 (p1.Lo + 1)), .int .u64 p1.Hi]) rfl rfl rfl rfl (by kernel_rfl) (by kernel_rfl) (hst.blkN 0 rfl 0 2) ?_
  refine OW.stB hst 2 rfl rfl rfl rfl rfl (by kernel_rfl) rfl rfl [.int .u64 (wu64 (p1.Lo + 1)), .int .u64 p1.Hi] rfl ?_
  intro w130 hst
  refine OW.pure 1 [(9, .bool true)] (by kernel_rfl) (OW.nil rfl (QW.next (CW.ret ?_)))
  obtain rfl := Option.some.inj hF
  refine QW.ret_ct rfl rfl (run_loadN (cs := [.int .u64 (wu64 (p1.Lo + 1)), .int .u64 p1.Hi]) (by kernel_rfl) (by kernel_rfl) (hst.blkN 2 rfl 0 2)) rfl ?_
  exact ⟨rfl, hst.keep [] rfl⟩
 have hF := ite_f hF hc126
 refine CW.cond_f rfl hc126 (CW.seq (CW.region ?_))
 refine OW.pure 1 [(107, .pointer (some ⟨b7, 1, none⟩))] (by kernel_rfl) ?_
 refine OW.ld rfl rfl rfl rfl (by kernel_rfl) (hst.blk 0 rfl rfl) ?_
 refine OW.pure 3 [(106, .bool (p1.Hi == p2.Lo))] (by kernel_rfl) (OW.nil rfl (QW.next ?_))
 rcases Bool.eq_false_or_eq_true ((p1.Hi == p2.Lo)) with hc131 | hc131
 ·have hF := ite_t hF hc131
  refine CW.cond_t rfl hc131 (CW.region ?_)
  refine OW.pure 1 [(111, .pointer (some ⟨b7, 1, none⟩))] (by kernel_rfl) ?_
  refine OW.ld rfl rfl rfl rfl (by kernel_rfl) (hst.blk 0 rfl rfl) ?_
  refine OW.pure 2 [(113, .int .u64 (wu64 (p1.Hi - 1))), (114, .pointer (some ⟨b7, 1, none⟩))] (by kernel_rfl) ?_
  refine OW.stB hst 0 rfl rfl rfl rfl rfl (by kernel_rfl) rfl rfl [.int .u64 p1.Lo, .int .u64 (wu64 (p1.Hi - 1))] rfl ?_
  intro w133 hst
  refine OW.nil rfl (QW.block_normal (QW.next (CW.seq (CW.region ?_))))
  refine OW.ldN (cs := [.int .u64 p1.Lo, .int .u64 (wu64 (p1.Hi - 1))]) rfl rfl rfl rfl (by kernel_rfl) (by kernel_rfl) (hst.blkN 0 rfl 0 2) ?_
  refine OW.stB hst 2 rfl rfl rfl rfl rfl (by kernel_rfl) rfl rfl [.int .u64 p1.Lo, .int .u64 (wu64 (p1.Hi - 1))] rfl ?_
  intro w135 hst
  refine OW.pure 1 [(9, .bool true)] (by kernel_rfl) (OW.nil rfl (QW.next (CW.ret ?_)))
  obtain rfl := Option.some.inj hF
  refine QW.ret_ct rfl rfl (run_loadN (cs := [.int .u64 p1.Lo, .int .u64 (wu64 (p1.Hi - 1))]) (by kernel_rfl) (by kernel_rfl) (hst.blkN 2 rfl 0 2)) rfl ?_
  exact ⟨rfl, hst.keep [] rfl⟩
 have hF := ite_f hF hc131
 refine CW.cond_f rfl hc131 (CW.skip (QW.block_normal (QW.next (CW.seq (CW.region ?_)))))
 refine OW.ldN (cs := [.int .u64 p1.Lo, .int .u64 p1.Hi]) rfl rfl rfl rfl (by kernel_rfl) (by kernel_rfl) (hst.blkN 0 rfl 0 2) ?_
 refine OW.stB hst 2 rfl rfl rfl rfl rfl (by kernel_rfl) rfl rfl [.int .u64 p1.Lo, .int .u64 p1.Hi] rfl ?_
 intro w137 hst
 refine OW.pure 1 [(9, .bool true)] (by kernel_rfl) (OW.nil rfl (QW.next (CW.ret ?_)))
 obtain rfl := Option.some.inj hF
 refine QW.ret_ct rfl rfl (run_loadN (cs := [.int .u64 p1.Lo, .int .u64 p1.Hi]) (by kernel_rfl) (by kernel_rfl) (hst.blkN 2 rfl 0 2)) rfl ?_
 exact ⟨rfl, hst.keep [] rfl⟩
end Go.Proofs.YtgmmfjpmahcocaaGreatDoor

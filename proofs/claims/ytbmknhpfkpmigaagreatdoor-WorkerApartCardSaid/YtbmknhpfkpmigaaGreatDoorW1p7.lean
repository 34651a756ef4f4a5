/- Texts W1p7 of this proof. -/
import Derived.Test.YtbmknhpfkpmigaaGreatDoorW1p6
set_option linter.unusedVariables false
set_option linter.unusedSimpArgs false
set_option maxRecDepth 10000
set_option maxHeartbeats 4000000
namespace Go.Proofs.YtbmknhpfkpmigaaGreatDoor
open Go.Sx
set_option maxRecDepth 10000 in
set_option maxHeartbeats 4000000 in
theorem zaH (w : World) (fu : Nat) (v0 : Value) (S0 : List Nat) (p0 : zg) (r : zA × Bool × zg) (hF : qi fu p0 = some r)
    (hst : St w (fp [itI qF [v0] S0 p0]) w [itI qF [v0] S0 p0]) (hT0 : Rd w (fp [itI qF [v0] S0 p0]) (.slice (some ⟨0, 0, none⟩) 7 7) zM 5 zaq) :
    Calls Tryz.prog 19 [v0].toArray w (fun e w' => ∃ (s0 : List Nat), e = .returned (.tuple #[.agg [.int .i64 r.1.Ki, .int .i64 r.1.Pc, .int .i64 r.1.It.Map, .int .i64 r.1.It.Op, .int .u64 r.1.It.Key, .int .u64 r.1.It.Val, .int .u64 r.1.Val].toArray, .bool r.2.1]) /\ St w (fp [itI qF [v0] S0 p0]) w' [itI qF [v0] s0 r.2.2]) := by
 refine CW.start (N := 62) Tryz.func19 rfl rfl rfl ?_
 obtain ⟨b1, rfl⟩ := hst.fptr 0 rfl
 refine CW.seq ?_
 refine CW.region ?_
 refine OW.alloc hst rfl rfl rfl [.int .i64 0, .int .i64 0, .int .i64 0, .int .i64 0, .int .u64 0, .int .u64 0, .int .u64 0] (by kernel_rfl) ?_
 intro b4 w5 hst
 refine OW.pure 1 [] (by kernel_rfl) ?_
 refine OW.nil rfl ?_
 refine QW.next ?_
 refine CW.seq ?_
 refine CW.seq ?_
 obtain ⟨v6, S7, v8, S9, v10, S11, hst⟩ := hst.openD3 0 rfl rfl rfl rfl
 obtain ⟨b12, rfl⟩ := hst.fptr 2 rfl
 obtain ⟨b13, rfl⟩ := hst.fptr 3 rfl
 have hst : St _ _ _ [jD b1 84 [.pointer (some ⟨b12, 0, none⟩), .pointer (some ⟨b13, 0, none⟩), .int .i64 p0.mode_, .int .i64 p0.job.hook, .int .i64 p0.job.event.N, .int .u64 p0.job.event.Ev.A, .int .u64 p0.job.event.Ev.B, .int .i64 p0.job.version, .int .i64 p0.job.prog, .int .u64 p0.job.calls, v10], _, _, _, _] := hst
 refine CW.region ?_
 refine OW.pure 3 [(7, .pointer (some ⟨b1, 2, none⟩))] (by kernel_rfl) ?_
 refine OW.ld rfl rfl rfl rfl (by kernel_rfl) (hst.blk 0 rfl rfl) ?_
 refine OW.pure 1 [(9, .bool (p0.mode_ != 2))] (by kernel_rfl) ?_
 refine OW.nil rfl ?_
 refine QW.next ?_
 rcases zft ((p0.mode_ != 2)) with hc14 | hc14
 ·have hF := zaS hF hc14
  refine CW.cond_t rfl hc14 ?_
  refine CW.seq ?_
  refine CW.region ?_
  refine OW.pure 1 [(10, .agg [.int .i64 0, .int .i64 0, .int .i64 0, .int .i64 0, .int .u64 0, .int .u64 0, .int .u64 0].toArray)] (by kernel_rfl) ?_
  refine OW.stB hst 1 rfl rfl rfl rfl rfl (by kernel_rfl) rfl rfl [.int .i64 0, .int .i64 0, .int .i64 0, .int .i64 0, .int .u64 0, .int .u64 0, .int .u64 0] rfl ?_
  intro w16 hst
  refine OW.pure 1 [(3, .bool false)] (by kernel_rfl) ?_
  refine OW.nil rfl ?_
  refine QW.next ?_
  refine CW.ret ?_
  refine QW.then_ret ?_
  obtain ⟨S17, hst⟩ := hst.shutD3 zbm rfl 0 2 3 4 [1] rfl rfl rfl rfl rfl p0 rfl rfl
  obtain rfl := Option.some.inj hF
  refine QW.ret_ct rfl rfl (zan (cs := [.int .i64 0, .int .i64 0, .int .i64 0, .int .i64 0, .int .u64 0, .int .u64 0, .int .u64 0]) (by kernel_rfl) (by kernel_rfl) (hst.blkN 0 rfl 0 7)) rfl ?_
  exact ⟨S17, rfl, hst.keep [1] rfl⟩
 ·have hF := zaT hF hc14
  refine CW.cond_f rfl hc14 ?_
  refine CW.skip ?_
  refine QW.next ?_
  refine CW.seq ?_
  refine CW.region ?_
  refine OW.pure 4 [(14, .pointer (some ⟨b1, 10, none⟩))] (by kernel_rfl) ?_
  refine OW.ld rfl rfl rfl rfl (by kernel_rfl) (hst.blk 0 rfl rfl) ?_
  obtain ⟨y30, hy31, hF⟩ := zn hF
  have hst := hst.optSome 4 rfl hy31
  obtain ⟨b32, rfl⟩ := hst.fptr 4 rfl
  obtain ⟨r33, hr34, hF⟩ := zn hF
  refine OW.fn rfl rfl rfl rfl (by kernel_rfl) (zd6 _ fu (.pointer (some ⟨b32, 0, none⟩)) S11 y30 (.pointer (some ⟨b12, 0, none⟩)) S7 p0.Scratch r33 hr34 (hst.part [4, 2] rfl) (hT0.give hst [4, 2])) ?_
  rintro e w35 ⟨S37, S38, rfl, hst36⟩
  refine ⟨_, rfl, ?_⟩
  have hst := hst.join (idx := [4, 2]) (rest := [0, 1, 3]) rfl hst36
  refine OW.alloc hst rfl rfl rfl [.int .i64 0, .int .i64 0, .int .i64 0, .int .i64 0, .int .u64 0, .int .u64 0, .int .u64 0] (by kernel_rfl) ?_
  intro b39 w40 hst
  refine OW.stB hst 5 rfl rfl rfl rfl rfl (by kernel_rfl) rfl rfl [.int .i64 r33.1.Ki, .int .i64 r33.1.Pc, .int .i64 r33.1.It.Map, .int .i64 r33.1.It.Op, .int .u64 r33.1.It.Key, .int .u64 r33.1.It.Val, .int .u64 r33.1.Val] rfl ?_
  intro w41 hst
  refine OW.nil rfl ?_
  refine QW.next ?_
  refine CW.seq ?_
  refine CW.seq ?_
  refine CW.region ?_
  refine OW.pure 1 [(17, .pointer (some ⟨b39, 0, none⟩))] (by kernel_rfl) ?_
  refine OW.ld rfl rfl rfl rfl (by kernel_rfl) (hst.blk 5 rfl rfl) ?_
  refine OW.nil rfl ?_
  refine QW.next ?_
  refine CW.block ?_
  refine CW.seq ?_
  refine CW.region ?_
  refine OW.pure 2 [(19, .bool (r33.1.Ki == 2))] (by kernel_rfl) ?_
  refine OW.nil rfl ?_
  refine QW.next ?_
  rcases zft ((r33.1.Ki == 2)) with hc42 | hc42
  ·have hF := zaS hF hc42
   refine CW.cond_t rfl hc42 ?_
   refine CW.seq ?_
   refine CW.region ?_
   refine OW.pure 4 [(21, .pointer (some ⟨b1, 0, none⟩)), (24, .pointer (some ⟨b1, 9, none⟩))] (by kernel_rfl) ?_
   refine OW.ld rfl rfl rfl rfl (by kernel_rfl) (hst.blk 2 rfl rfl) ?_
   refine OW.pure 4 [(26, .int .u64 (qf (p0.job.calls + 1))), (29, .pointer (some ⟨b1, 9, none⟩))] (by kernel_rfl) ?_
   refine OW.stB hst 2 rfl rfl rfl rfl rfl (by kernel_rfl) rfl rfl [.pointer (some ⟨b12, 0, none⟩), .pointer (some ⟨b13, 0, none⟩), .int .i64 p0.mode_, .int .i64 p0.job.hook, .int .i64 p0.job.event.N, .int .u64 p0.job.event.Ev.A, .int .u64 p0.job.event.Ev.B, .int .i64 p0.job.version, .int .i64 p0.job.prog, .int .u64 (qf (p0.job.calls + 1)), .pointer (some ⟨b32, 0, none⟩)] rfl ?_
   intro w44 hst
   refine OW.nil rfl ?_
   refine QW.next ?_
   refine CW.region ?_
   refine OW.pure 3 [(32, .pointer (some ⟨b1, 2, none⟩))] (by kernel_rfl) ?_
   refine OW.stB hst 2 rfl rfl rfl rfl rfl (by kernel_rfl) rfl rfl [.pointer (some ⟨b12, 0, none⟩), .pointer (some ⟨b13, 0, none⟩), .int .i64 3, .int .i64 p0.job.hook, .int .i64 p0.job.event.N, .int .u64 p0.job.event.Ev.A, .int .u64 p0.job.event.Ev.B, .int .i64 p0.job.version, .int .i64 p0.job.prog, .int .u64 (qf (p0.job.calls + 1)), .pointer (some ⟨b32, 0, none⟩)] rfl ?_
   intro w46 hst
   refine OW.nil rfl ?_
   refine QW.block_normal ?_
   refine QW.next ?_
   refine CW.seq ?_
   refine CW.region ?_
   refine OW.ldN (cs := [.int .i64 r33.1.Ki, .int .i64 r33.1.Pc, .int .i64 r33.1.It.Map, .int .i64 r33.1.It.Op, .int .u64 r33.1.It.Key, .int .u64 r33.1.It.Val, .int .u64 r33.1.Val]) rfl rfl rfl rfl (by kernel_rfl) (by kernel_rfl) (hst.blkN 5 rfl 0 7) ?_
   refine OW.stB hst 3 rfl rfl rfl rfl rfl (by kernel_rfl) rfl rfl [.int .i64 r33.1.Ki, .int .i64 r33.1.Pc, .int .i64 r33.1.It.Map, .int .i64 r33.1.It.Op, .int .u64 r33.1.It.Key, .int .u64 r33.1.It.Val, .int .u64 r33.1.Val] rfl ?_
   intro w48 hst
   refine OW.pure 1 [(3, .bool true)] (by kernel_rfl) ?_
   refine OW.nil rfl ?_
   refine QW.next ?_
   refine CW.ret ?_
   have hst := hst.toOpt 0 rfl
   obtain ⟨S49, hst⟩ := hst.shutD3 zbm rfl 2 1 4 0 [3, 5] rfl rfl rfl rfl rfl (zg.mk r33.2.2 p0.Stats 3 (xF.mk p0.job.hook p0.job.event p0.job.version p0.job.prog (qf (p0.job.calls + 1)) (some r33.2.1))) rfl rfl
   obtain rfl := Option.some.inj hF
   refine QW.ret_ct rfl rfl (zan (cs := [.int .i64 r33.1.Ki, .int .i64 r33.1.Pc, .int .i64 r33.1.It.Map, .int .i64 r33.1.It.Op, .int .u64 r33.1.It.Key, .int .u64 r33.1.It.Val, .int .u64 r33.1.Val]) (by kernel_rfl) (by kernel_rfl) (hst.blkN 0 rfl 0 7)) rfl ?_
   exact ⟨S49, rfl, hst.keep [2] rfl⟩
  ·have hF := zaT hF hc42
   refine CW.cond_f rfl hc42 ?_
   refine CW.seq ?_
   refine CW.region ?_
   refine OW.pure 2 [(33, .bool (r33.1.Ki == 4))] (by kernel_rfl) ?_
   refine OW.nil rfl ?_
   refine QW.next ?_
   rcases zft ((r33.1.Ki == 4)) with hc50 | hc50
   ·have hF := zaS hF hc50
    refine CW.cond_t rfl hc50 ?_
    refine CW.seq ?_
    refine CW.plan (by kernel_rfl) ?_
    intro w72 hch73
    have hst := hst.same hch73
    refine OA.pure [0, 1, 2] [(37, .pointer (some ⟨b1, 1, none⟩))] (by kernel_rfl) ?_
    refine OA.ld (i := 3) rfl (by kernel_rfl) rfl rfl rfl (by kernel_rfl) (hst.blk 2 rfl rfl) ?_
    refine OA.pure [4, 5, 6, 7] [(42, .pointer (some ⟨b1, 3, none⟩))] (by kernel_rfl) ?_
    refine OA.ld (i := 8) rfl (by kernel_rfl) rfl rfl rfl (by kernel_rfl) (hst.blk 2 rfl rfl) ?_
    refine OA.pure [9, 10, 11, 12] [(47, .pointer (some ⟨b1, 10, none⟩))] (by kernel_rfl) ?_
    refine OA.ld (i := 13) rfl (by kernel_rfl) rfl rfl rfl (by kernel_rfl) (hst.blk 2 rfl rfl) ?_
    refine OA.pure [16, 17, 18, 19] [(54, .pointer (some ⟨b1, 9, none⟩))] (by kernel_rfl) ?_
    refine OA.ld (i := 20) rfl (by kernel_rfl) rfl rfl rfl (by kernel_rfl) (hst.blk 2 rfl rfl) ?_
    refine OA.pure [21] [(56, .pointer (some ⟨b39, 6, none⟩))] (by kernel_rfl) ?_
    refine OA.ld (i := 22) rfl (by kernel_rfl) rfl rfl rfl (by kernel_rfl) (hst.blk 5 rfl rfl) ?_
    refine OA.act (i := 14) [22, 20, 8, 3] (by kernel_rfl) rfl rfl (by kernel_rfl) (by kernel_rfl) ?_
    obtain ⟨v74, S75, v76, S77, hst⟩ := hst.openQ2 0 rfl rfl rfl
    have hst := hst.toRow1 6 rfl
    have hst := hst.toRow1 7 rfl
    obtain ⟨l78, a79, c80, rfl⟩ := hst.len 6 rfl
    obtain ⟨l81, a82, c83, rfl⟩ := hst.len 7 rfl
    have hst : St _ _ _ [jD b32 226 [.int .u64 r33.2.1.Ev.A, .int .u64 r33.2.1.Ev.B, .slice a79 (r33.2.1.mo.Ms).length c80, .slice a82 (r33.2.1.mo.Co).length c83, .pointer (some ⟨b12, 0, none⟩), .int .u64 (r33.2.1.rg 0), .int .u64 (r33.2.1.rg 1), .int .u64 (r33.2.1.rg 2), .int .u64 (r33.2.1.rg 3), .int .u64 (r33.2.1.rg 4), .int .u64 (r33.2.1.rg 5), .int .u64 (r33.2.1.rg 6), .int .u64 (r33.2.1.rg 7), .int .i64 (r33.2.1.tu 0), .int .i64 (r33.2.1.tu 1), .int .i64 (r33.2.1.tu 2), .int .i64 (r33.2.1.tu 3), .int .i64 (r33.2.1.tu 4), .int .i64 (r33.2.1.tu 5), .int .i64 (r33.2.1.tu 6), .int .i64 (r33.2.1.tu 7), .int .i64 (r33.2.1.tu 8), .int .i64 (r33.2.1.tu 9), .int .i64 (r33.2.1.tu 10), .int .i64 (r33.2.1.tu 11), .int .i64 (r33.2.1.tu 12), .int .i64 (r33.2.1.tu 13), .int .i64 (r33.2.1.tu 14), .int .i64 (r33.2.1.tu 15), .int .i64 (r33.2.1.tu 16), .int .i64 (r33.2.1.tu 17), .int .i64 (r33.2.1.tu 18), .int .i64 (r33.2.1.tu 19), .int .i64 (r33.2.1.tu 20), .int .i64 (r33.2.1.tu 21), .int .i64 (r33.2.1.tu 22), .int .i64 (r33.2.1.tu 23), .int .i64 (r33.2.1.tu 24), .int .i64 (r33.2.1.tu 25), .int .i64 (r33.2.1.tu 26), .int .i64 (r33.2.1.tu 27), .int .i64 (r33.2.1.tu 28), .int .i64 (r33.2.1.tu 29), .int .i64 (r33.2.1.tu 30), .int .i64 (r33.2.1.tu 31), .int .i64 (r33.2.1.tu 32), .int .i64 (r33.2.1.tu 33), .int .i64 (r33.2.1.tu 34), .int .i64 (r33.2.1.tu 35), .int .i64 (r33.2.1.tu 36), .int .i64 (r33.2.1.tu 37), .int .i64 (r33.2.1.tu 38), .int .i64 (r33.2.1.tu 39), .int .i64 (r33.2.1.tu 40), .int .i64 (r33.2.1.tu 41), .int .i64 (r33.2.1.tu 42), .int .i64 (r33.2.1.tu 43), .int .i64 (r33.2.1.tu 44), .int .i64 (r33.2.1.tu 45), .int .i64 (r33.2.1.tu 46), .int .i64 (r33.2.1.tu 47), .int .i64 (r33.2.1.tu 48), .int .i64 (r33.2.1.tu 49), .int .i64 (r33.2.1.tu 50), .int .i64 (r33.2.1.tu 51), .int .i64 (r33.2.1.tu 52), .int .i64 (r33.2.1.tu 53), .int .i64 (r33.2.1.tu 54), .int .i64 (r33.2.1.tu 55), .int .i64 (r33.2.1.tu 56), .int .i64 (r33.2.1.tu 57), .int .i64 (r33.2.1.tu 58), .int .i64 (r33.2.1.tu 59), .int .i64 (r33.2.1.tu 60), .int .i64 (r33.2.1.tu 61), .int .i64 (r33.2.1.tu 62), .int .i64 (r33.2.1.tu 63), .int .i64 r33.2.1.at_, .int .i64 r33.2.1.sp, .int .i64 r33.2.1.sa], _, _, _, _, _, _, _] := hst
    obtain ⟨r84, hr85, hF⟩ := zn hF
    refine OW.fn rfl rfl rfl rfl (by kernel_rfl) (zdS _ b32 (.slice a79 (r33.2.1.mo.Ms).length c80) (.slice a82 (r33.2.1.mo.Co).length c83) (.pointer (some ⟨b12, 0, none⟩)) (zh.mk r33.2.1.Ev r33.2.1.mo r33.2.1.rg r33.2.1.tu r33.2.1.at_ r33.2.1.sp r33.2.1.sa) r84 hr85 (hst.part [] rfl) (hst.rdB 0 rfl [] rfl)) ?_
    rintro e w86 ⟨rfl, hst87⟩
    refine ⟨_, rfl, ?_⟩
    have hst := hst.join (idx := []) (rest := [0, 1, 2, 3, 4, 5, 6, 7]) rfl hst87
    refine OA.next ⟨(hst.blk 5 rfl rfl), (hst.blk 2 rfl rfl), (hst.blk 2 rfl rfl), (hst.blk 2 rfl rfl), trivial⟩ ?_
    refine OA.pure [15] [(50, .int .u64 (qf r84))] (by kernel_rfl) ?_
    refine OA.act (i := 23) [] (by kernel_rfl) rfl rfl (by kernel_rfl) (by kernel_rfl) ?_
    obtain ⟨r88, hr89, hF⟩ := zn hF
    refine OW.fn rfl rfl rfl rfl (by kernel_rfl) (zfR _ (.pointer (some ⟨b13, 0, none⟩)) S9 p0.Stats p0.job.hook (qf r84) p0.job.calls r33.1.Val r88 hr89 (hst.part [4] rfl)) ?_
    rintro e w90 ⟨S92, rfl, hst91⟩
    refine ⟨_, rfl, ?_⟩
    have hst := hst.join (idx := [4]) (rest := [0, 1, 2, 3, 5, 6, 7]) rfl hst91
    refine OA.next trivial ?_
    refine OA.fin (by kernel_rfl) (by kernel_rfl) ?_
    refine QW.next ?_
    refine CW.region ?_
    refine OW.pure 1 [(59, .pointer (some ⟨b1, 0, none⟩))] (by kernel_rfl) ?_
    have hst := hst.toIt 6 rfl (fun _ => rfl) (by decide)
    have hst := hst.toIt 7 rfl (fun _ => rfl) (by decide)
    obtain ⟨S100, hst⟩ := hst.shutP2 (vi (.pointer (some ⟨b12, 0, none⟩))) rfl 1 6 7 [0, 2, 3, 4, 5] rfl rfl rfl rfl (zh.mk r33.2.1.Ev r33.2.1.mo r33.2.1.rg r33.2.1.tu r33.2.1.at_ r33.2.1.sp r33.2.1.sa) rfl rfl
    have hst := hst.toOpt 5 rfl
    obtain ⟨S101, hst⟩ := hst.shutD3 zbm rfl 2 1 0 5 [3, 4] rfl rfl rfl rfl rfl (zg.mk r33.2.2 r88.2 p0.mode_ (xF.mk p0.job.hook p0.job.event p0.job.version p0.job.prog p0.job.calls (some (zh.mk r33.2.1.Ev r33.2.1.mo r33.2.1.rg r33.2.1.tu r33.2.1.at_ r33.2.1.sp r33.2.1.sa)))) rfl rfl
    obtain ⟨r102, hr103, hF⟩ := zn hF
    refine OW.fn rfl rfl rfl rfl (by kernel_rfl) (zeA _ (.pointer (some ⟨b1, 0, none⟩)) S101 (zg.mk r33.2.2 r88.2 p0.mode_ (xF.mk p0.job.hook p0.job.event p0.job.version p0.job.prog p0.job.calls (some (zh.mk r33.2.1.Ev r33.2.1.mo r33.2.1.rg r33.2.1.tu r33.2.1.at_ r33.2.1.sp r33.2.1.sa)))) r102 hr103 (hst.part [2] rfl)) ?_
    rintro e w104 ⟨S106, rfl, hst105⟩
    refine ⟨_, rfl, ?_⟩
    have hst := hst.join (idx := [2]) (rest := [0, 1]) rfl hst105
    refine OW.nil rfl ?_
    refine QW.block_normal ?_
    refine QW.next ?_
    refine CW.seq ?_
    refine CW.region ?_
    refine OW.ldN (cs := [.int .i64 r33.1.Ki, .int .i64 r33.1.Pc, .int .i64 r33.1.It.Map, .int .i64 r33.1.It.Op, .int .u64 r33.1.It.Key, .int .u64 r33.1.It.Val, .int .u64 r33.1.Val]) rfl rfl rfl rfl (by kernel_rfl) (by kernel_rfl) (hst.blkN 2 rfl 0 7) ?_
    refine OW.stB hst 1 rfl rfl rfl rfl rfl (by kernel_rfl) rfl rfl [.int .i64 r33.1.Ki, .int .i64 r33.1.Pc, .int .i64 r33.1.It.Map, .int .i64 r33.1.It.Op, .int .u64 r33.1.It.Key, .int .u64 r33.1.It.Val, .int .u64 r33.1.Val] rfl ?_
    intro w108 hst
    refine OW.pure 1 [(3, .bool true)] (by kernel_rfl) ?_
    refine OW.nil rfl ?_
    refine QW.next ?_
    refine CW.ret ?_
    obtain rfl := Option.some.inj hF
    refine QW.ret_ct rfl rfl (zan (cs := [.int .i64 r33.1.Ki, .int .i64 r33.1.Pc, .int .i64 r33.1.It.Map, .int .i64 r33.1.It.Op, .int .u64 r33.1.It.Key, .int .u64 r33.1.It.Val, .int .u64 r33.1.Val]) (by kernel_rfl) (by kernel_rfl) (hst.blkN 1 rfl 0 7)) rfl ?_
    exact ⟨S106, rfl, hst.keep [0] rfl⟩
   ·have hF := zaT hF hc50
    refine CW.cond_f rfl hc50 ?_
    refine CW.skip ?_
    refine QW.block_normal ?_
    refine QW.next ?_
    refine CW.seq ?_
    refine CW.region ?_
    refine OW.ldN (cs := [.int .i64 r33.1.Ki, .int .i64 r33.1.Pc, .int .i64 r33.1.It.Map, .int .i64 r33.1.It.Op, .int .u64 r33.1.It.Key, .int .u64 r33.1.It.Val, .int .u64 r33.1.Val]) rfl rfl rfl rfl (by kernel_rfl) (by kernel_rfl) (hst.blkN 5 rfl 0 7) ?_
    refine OW.stB hst 3 rfl rfl rfl rfl rfl (by kernel_rfl) rfl rfl [.int .i64 r33.1.Ki, .int .i64 r33.1.Pc, .int .i64 r33.1.It.Map, .int .i64 r33.1.It.Op, .int .u64 r33.1.It.Key, .int .u64 r33.1.It.Val, .int .u64 r33.1.Val] rfl ?_
    intro w110 hst
    refine OW.pure 1 [(3, .bool true)] (by kernel_rfl) ?_
    refine OW.nil rfl ?_
    refine QW.next ?_
    refine CW.ret ?_
    have hst := hst.toOpt 0 rfl
    obtain ⟨S111, hst⟩ := hst.shutD3 zbm rfl 2 1 4 0 [3, 5] rfl rfl rfl rfl rfl (zg.mk r33.2.2 p0.Stats p0.mode_ (xF.mk p0.job.hook p0.job.event p0.job.version p0.job.prog p0.job.calls (some r33.2.1))) rfl rfl
    obtain rfl := Option.some.inj hF
    refine QW.ret_ct rfl rfl (zan (cs := [.int .i64 r33.1.Ki, .int .i64 r33.1.Pc, .int .i64 r33.1.It.Map, .int .i64 r33.1.It.Op, .int .u64 r33.1.It.Key, .int .u64 r33.1.It.Val, .int .u64 r33.1.Val]) (by kernel_rfl) (by kernel_rfl) (hst.blkN 0 rfl 0 7)) rfl ?_
    exact ⟨S111, rfl, hst.keep [2] rfl⟩
instance worker_Worker_Step_g {fu : Nat} {p0 : zg} : HasC (qi fu p0) (∀ (b1 : Nat) (S0 : List Nat), Ctr Tryz.prog 19 [.pointer (some ⟨b1, 0, none⟩)] [.rd (.slice (some ⟨0, 0, none⟩) 7 7) zM 5 zaq] [itI qF [.pointer (some ⟨b1, 0, none⟩)] S0 p0] (qi fu p0) (fun (r : zA × Bool × zg) (i : (List Nat) × Unit) => (.tuple #[.agg [.int .i64 r.1.Ki, .int .i64 r.1.Pc, .int .i64 r.1.It.Map, .int .i64 r.1.It.Op, .int .u64 r.1.It.Key, .int .u64 r.1.It.Val, .int .u64 r.1.Val].toArray, .bool r.2.1], [itI qF [.pointer (some ⟨b1, 0, none⟩)] i.1 r.2.2]))) := ⟨fun b1 S0 => ⟨fun w r a hst hF => by
  refine (zaH w fu _ _ _ r hF hst (a.1)).mono ?_
  rintro e w' ⟨s0, rfl, hst⟩
  exact ⟨(s0, ()), rfl, hst⟩⟩⟩
instance stats_Stats_Of_g {p0 : zt} {p1 : Int} : HasC (vB p0 p1) (∀ (b1 : Nat) (S0 : List Nat), Ctr Tryz.prog 20 [.pointer (some ⟨b1, 0, none⟩), .int .i64 p1] [] [itI zdT [.pointer (some ⟨b1, 0, none⟩)] S0 p0] (vB p0 p1) (fun (r : zu × Int) (i : (List Nat) × Unit) => (.tuple #[.agg [.int .u64 r.1.Runs, .int .u64 r.1.Missed, .int .u64 r.1.Steps, .int .u64 r.1.Calls, .int .u64 r.1.Sum].toArray, .int .i64 r.2], [itI zdT [.pointer (some ⟨b1, 0, none⟩)] i.1 p0]))) := ⟨fun b1 S0 => .w (wk Tryz.func20 [.al 75 [.int .u64 0, .int .u64 0, .int .u64 0, .int .u64 0, .int .u64 0], .p 1, .fi, .p 1, .ca [] [] [0, 1], .p 1, .fi, .br [.p 1, .st 1 0 5, .p 1, .fi, .rtc [0] [⟨1, 0, 5⟩, ⟨0, 0, 0⟩]] [.o0 0, .p 4, .be, .kv (.af 0), .km (.cA (.o 0) 0 0 0 5 5 vX), .st 1 0 5, .p 1, .fi, .s0 0 zaz 20, .rtc [0] [⟨1, 0, 5⟩, ⟨0, 0, 0⟩]]])⟩
set_option maxRecDepth 10000 in
set_option maxHeartbeats 4000000 in
theorem zf7 (w : World) (v0 : Value) (S0 : List Nat) (p0 : zt) (p1 : Int) (r : zu × Int) (hF : vB p0 p1 = some r)
    (hst : St w (fp [itI zdT [v0] S0 p0]) w [itI zdT [v0] S0 p0]) :
    Calls Tryz.prog 20 [v0, .int .i64 p1].toArray w (fun e w' => ∃ (s0 : List Nat), e = .returned (.tuple #[.agg [.int .u64 r.1.Runs, .int .u64 r.1.Missed, .int .u64 r.1.Steps, .int .u64 r.1.Calls, .int .u64 r.1.Sum].toArray, .int .i64 r.2]) /\ St w (fp [itI zdT [v0] S0 p0]) w' [itI zdT [v0] s0 p0]) := by
  obtain ⟨b1, rfl⟩ := hst.fptr 0 rfl
  refine (((stats_Stats_Of_g (p0 := p0) (p1 := p1)).c b1 S0).c w r trivial hst hF).mono ?_
  rintro e w' ⟨i, rfl, hst'⟩
  exact ⟨_, rfl, hst'⟩
end Go.Proofs.YtbmknhpfkpmigaaGreatDoor

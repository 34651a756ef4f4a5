/- Written by a program (wip/gen): the walks: each Go function returns what its plain function computes. -/
import Derived.Test.YtkgajppghpmkbaaDoorProg
import Derived.Test.YtkgajppghpmkbaaDoorF1
import Derived.Test.YtkgajppghpmkbaaDoorSq
import Derived.Test.YtkgajppghpmkbaaDoorPart
import Derived.Test.YtkgajppghpmkbaaDoorO1
set_option linter.unusedSimpArgs false
namespace Go.Proofs.YtkgajppghpmkbaaDoor
open Go.Sx
set_option linter.unusedVariables false
set_option maxRecDepth 10000
set_option maxHeartbeats 4000000
theorem el138 : Elem Tryd.prog 138 3 24 := Elem.of (i := Tryd.t138) (by kernel_rfl) (by kernel_rfl) (by kernel_rfl) (by kernel_rfl) (by kernel_rfl) (by decide) (by decide)
theorem el117 : Elem Tryd.prog 117 4 32 := Elem.of (i := Tryd.t117) (by kernel_rfl) (by kernel_rfl) (by kernel_rfl) (by kernel_rfl) (by kernel_rfl) (by decide) (by decide)
theorem el119 : Elem Tryd.prog 119 32 256 := Elem.of (i := Tryd.t119) (by kernel_rfl) (by kernel_rfl) (by kernel_rfl) (by kernel_rfl) (by kernel_rfl) (by decide) (by decide)
theorem el4 : Elem Tryd.prog 4 1 1 := Elem.of (i := Tryd.t4) (by kernel_rfl) (by kernel_rfl) (by kernel_rfl) (by kernel_rfl) (by kernel_rfl) (by decide) (by decide)
theorem el3 : Elem Tryd.prog 3 1 8 := Elem.of (i := Tryd.t3) (by kernel_rfl) (by kernel_rfl) (by kernel_rfl) (by kernel_rfl) (by kernel_rfl) (by decide) (by decide)
theorem el76 : Elem Tryd.prog 76 5 40 := Elem.of (i := Tryd.t76) (by kernel_rfl) (by kernel_rfl) (by kernel_rfl) (by kernel_rfl) (by kernel_rfl) (by decide) (by decide)
theorem el58 : Elem Tryd.prog 58 7 56 := Elem.of (i := Tryd.t58) (by kernel_rfl) (by kernel_rfl) (by kernel_rfl) (by kernel_rfl) (by kernel_rfl) (by decide) (by decide)
theorem el52 : Elem Tryd.prog 52 6 48 := Elem.of (i := Tryd.t52) (by kernel_rfl) (by kernel_rfl) (by kernel_rfl) (by kernel_rfl) (by kernel_rfl) (by decide) (by decide)
theorem scratch_New_ok (w : World)  (r : scratch_Scratch) (hF : scratch_New  = some r)
    (hst : St w (fp []) w []) :
    Calls Tryd.prog 19 [].toArray w (fun e w' => ∃ (y0 : Value) (z0 : List Nat), e = .returned (y0) ∧ St w (fp []) w' [itI R_t67 [y0] z0 r]) := by
 refine CW.start (N := 3) Tryd.func19 rfl rfl rfl (rg ?_)
 refine pu 1 [] (nx (rg ?_))
 refine pu 1 [(1, .agg [U 0, U 0, U 0, U 0, U 0, U 0, U 0, U 0, U 0, U 0, U 0, U 0, U 0, U 0, U 0, U 0, U 0, U 0, U 0, U 0, U 0, U 0, U 0, U 0, U 0, U 0, U 0, U 0, U 0, U 0, U 0, U 0].toArray)] ?_
 refine OW.box hst rfl rfl rfl rfl [U 0, U 0, U 0, U 0, U 0, U 0, U 0, U 0, U 0, U 0, U 0, U 0, U 0, U 0, U 0, U 0, U 0, U 0, U 0, U 0, U 0, U 0, U 0, U 0, U 0, U 0, U 0, U 0, U 0, U 0, U 0, U 0] rfl ?_
 intro b3 w4 hst
 refine pu 1 [(0, Pt b3)] (nx (CW.ret ?_))
 have hst := hst.shutP0 (enc := enc_scratch_Scratch) (sz := 32) (he := fun _ => rfl) 0 rfl (scratch_Scratch.mk (scratch_Words.mk (fun _ => 0)) (scratch_Counters.mk (fun _ => 0))) rfl
 obtain rfl := inj hF
 refine QW.ret1 rfl rfl ?_
 exact ⟨(Pt b3), ([b3]), rfl, hst.keep [0] rfl⟩
theorem stats_New_ok (w : World)  (r : stats_Stats) (hF : stats_New  = some r)
    (hst : St w (fp []) w []) :
    Calls Tryd.prog 20 [].toArray w (fun e w' => ∃ (y0 : Value) (z0 : List Nat), e = .returned (y0) ∧ St w (fp []) w' [itI R_t68 [y0] z0 r]) := by
 refine CW.start (N := 3) Tryd.func20 rfl rfl rfl (rg ?_)
 refine pu 1 [] (nx (rg ?_))
 refine pu 1 [(1, .agg [U 0, U 0, U 0, U 0, U 0, U 0, U 0, U 0, U 0, U 0, U 0, U 0, U 0, U 0, U 0, U 0, U 0, U 0, U 0, U 0].toArray)] ?_
 refine OW.box hst rfl rfl rfl rfl [U 0, U 0, U 0, U 0, U 0, U 0, U 0, U 0, U 0, U 0, U 0, U 0, U 0, U 0, U 0, U 0, U 0, U 0, U 0, U 0] rfl ?_
 intro b3 w4 hst
 refine pu 1 [(0, Pt b3)] (nx (CW.ret ?_))
 have hst := hst.shutP0 (enc := enc_stats_Stats) (sz := 20) (he := fun _ => rfl) 0 rfl (stats_Stats.mk (fun _ => (api_Tally.mk 0 0 0 0 0))) rfl
 obtain rfl := inj hF
 refine QW.ret1 rfl rfl ?_
 exact ⟨(Pt b3), ([b3]), rfl, hst.keep [0] rfl⟩
theorem worker_New_ok (w : World)  (r : worker_Worker) (hF : worker_New  = some r)
    (hst : St w (fp []) w []) :
    Calls Tryd.prog 6 [].toArray w (fun e w' => ∃ (y0 : Value) (z0 : List Nat), e = .returned (y0) ∧ St w (fp []) w' [itI R_t33 [y0] z0 r]) := by
 refine CW.start (N := 5) Tryd.func6 rfl rfl rfl (rg ?_)
 refine pu 1 [] (nx (rg ?_))
 obtain ⟨r17, hr18, hF⟩ := bs hF
 refine OW.fn rfl rfl rfl rfl (by kernel_rfl) (scratch_New_ok _ r17 hr18 (hst.part [] rfl)) ?_
 rintro e w19 ⟨v21, S22, rfl, hst20⟩
 refine ⟨_, rfl, ?_⟩
 have hst := hst.join (idx := []) (rest := []) rfl hst20
 obtain ⟨b23, rfl⟩ := hst.fptr 0 rfl
 obtain ⟨r24, hr25, hF⟩ := bs hF
 refine OW.fn rfl rfl rfl rfl (by kernel_rfl) (stats_New_ok _ r24 hr25 (hst.part [] rfl)) ?_
 rintro e w26 ⟨v28, S29, rfl, hst27⟩
 refine ⟨_, rfl, ?_⟩
 have hst := hst.join (idx := []) (rest := [0]) rfl hst27
 obtain ⟨b30, rfl⟩ := hst.fptr 0 rfl
 refine pu 1 [(3, .agg [Pt b23, Pt b30, I 0, I 0, I 0, U 0, U 0, I 0, I 0, U 0, .pointer none].toArray)] ?_
 refine OW.box hst rfl rfl rfl rfl [Pt b23, Pt b30, I 0, I 0, I 0, U 0, U 0, I 0, I 0, U 0, .pointer none] rfl ?_
 intro b31 w33 hst
 refine pu 1 [(0, Pt b31)] (nx (CW.ret ?_))
 have hst := hst.optNil 129 (R_t129 (Pt b23))
 obtain ⟨S34, hst⟩ := hst.shutD3 R_t73 rfl 2 1 0 3 [] rfl rfl rfl rfl rfl (worker_Worker.mk r17 r24 0 (worker_job.mk 0 (api_Queued.mk 0 (api_Event.mk 0 0)) 0 0 0 none)) rfl rfl
 obtain rfl := inj hF
 refine QW.ret1 rfl rfl ?_
 exact ⟨(Pt b31), S34, rfl, hst.keep [0] rfl⟩
theorem worker_Worker_Take_ok (w : World) (v0 : Value) (S0 : List Nat) (p0 : worker_Worker) (p1 : Int) (p2 : api_Queued) (r : Int × worker_Worker) (hF : worker_Worker_Take p0 p1 p2 = some r)
    (hst : St w (fp [itI R_t33 [v0] S0 p0]) w [itI R_t33 [v0] S0 p0]) :
    Calls Tryd.prog 10 [v0, I p1, .agg [I p2.N, U p2.Event.A, U p2.Event.B].toArray].toArray w (fun e w' => ∃ (s0 : List Nat), e = .returned (I r.1) ∧ St w (fp [itI R_t33 [v0] S0 p0]) w' [itI R_t33 [v0] s0 r.2]) := by
 refine CW.start (N := 29) Tryd.func10 rfl rfl rfl ?_
 obtain ⟨b1, rfl⟩ := hst.fptr 0 rfl
 refine rg ?_
 refine OW.box hst rfl rfl rfl rfl [I p2.N, U p2.Event.A, U p2.Event.B] rfl ?_
 intro b4 w5 hst
 refine pu 1 [] (nx (CW.seq (CW.block (CW.seq ?_))))
 refine CW.cutK (fun a w1 => Rep 29 [(0, Pt b1), (1, I p1), (5, Pt b4), (7, .bool (decide (p1 < 0) || decide (p1 ≥ 4)))] a ∧ St w (fp [itI R_t33 [Pt b1] S0 p0]) w1 [itI R_t33 [Pt b1] S0 p0, blkI b4 36 [I p2.N, U p2.Event.A, U p2.Event.B]]) ?_ ?_
 ·refine CW.region ?_
  refine pu 3 [(10, .bool (decide (p1 < 0)))] ?_
  refine OW.split 10 rfl (fun hc6 => ?_) (fun hc6 => ?_)
  ·refine pu 4 [(7, .bool true)] (OW.nil rfl ?_)
   refine QW.say 7 (v := .bool (decide (p1 < 0) || decide (p1 ≥ 4))) rfl (by first | (rw [hc6]; done) | (rw [hc6]; rfl) | simp [hc6]) ?_
   exact QW.meet (fun a ha => ⟨ha.ag, hst.keep [0, 1] rfl⟩)
  refine pu 4 [(7, .bool (decide (p1 ≥ 4)))] (OW.nil rfl ?_)
  refine QW.say 7 (v := .bool (decide (p1 < 0) || decide (p1 ≥ 4))) rfl (by first | (rw [hc6]; done) | (rw [hc6]; rfl) | simp [hc6]) ?_
  exact QW.meet (fun a ha => ⟨ha.ag, hst.keep [0, 1] rfl⟩)
 rintro a w1 ⟨ha, hst⟩
 refine CW.go ?_ ha
 refine br ((decide (p1 < 0) || decide (p1 ≥ 4))) hF (fun hF hc7 => ?_) (fun hF hc7 => ?_)
 ·refine rg ?_
  refine pu 1 [(6, I 2)] (nx (CW.ret (QW.block_ret (QW.then_ret ?_))))
  obtain rfl := inj hF
  refine QW.ret1 rfl rfl ?_
  exact ⟨S0, rfl, hst.keep [0] rfl⟩
 refine CW.seq ?_
 obtain ⟨v8, S9, v10, S11, v12, S13, hst⟩ := hst.openD3 0 rfl rfl rfl rfl
 obtain ⟨b14, rfl⟩ := hst.fptr 2 rfl
 obtain ⟨b15, rfl⟩ := hst.fptr 3 rfl
 have hst : St _ _ _ [blkI b1 73 [Pt b14, Pt b15, I p0.mode_, I p0.job.hook, I p0.job.event.N, U p0.job.event.Event.A, U p0.job.event.Event.B, I p0.job.version, I p0.job.prog, U p0.job.calls, v12], _, _, _, _] := hst
 refine CW.region ?_
 refine pu 3 [(17, .pointer (some ⟨b1, 2, none⟩))] ?_
 refine OW.ld rfl rfl rfl rfl (by kernel_rfl) (hst.blk 0 rfl rfl) ?_
 refine pu 2 [(14, .bool (p0.mode_ != 0))] (nx ?_)
 refine br ((p0.mode_ != 0)) hF (fun hF hc16 => ?_) (fun hF hc16 => ?_)
 ·refine rg ?_
  refine pu 1 [(6, I 42)] (nx (CW.ret (QW.block_ret (QW.then_ret ?_))))
  obtain ⟨S17, hst⟩ := hst.shutD3 R_t73 rfl 0 2 3 4 [1] rfl rfl rfl rfl rfl p0 rfl rfl
  obtain rfl := inj hF
  refine QW.ret1 rfl rfl ?_
  exact ⟨S17, rfl, hst.keep [1] rfl⟩
 refine CW.skip (QW.block_normal (QW.next (CW.seq ?_)))
 refine CW.plan (by kernel_rfl) ?_
 intro w22 hch23
 have hst := hst.same hch23
 refine OA.pure [0, 1, 2] [(20, Pt b1), (21, Pt b1), (22, I p1)] (by kernel_rfl) ?_
 refine OA.ldN (i := 3) (cs := [I p2.N, U p2.Event.A, U p2.Event.B]) rfl (by kernel_rfl) rfl rfl rfl (by kernel_rfl) (by kernel_rfl) (hst.blkN 1 rfl 0 3) ?_
 refine OA.pure [4, 5, 6] [(24, .agg [I p1, I p2.N, U p2.Event.A, U p2.Event.B, I 0, I 0, U 0, .pointer none].toArray), (26, .pointer (some ⟨b1, 2, none⟩))] (by kernel_rfl) ?_
 refine OA.act (i := 7) [3] (by kernel_rfl) rfl rfl (by kernel_rfl) (by kernel_rfl) ?_
 refine OW.stB hst 0 rfl rfl rfl rfl rfl (by kernel_rfl) rfl rfl [Pt b14, Pt b15, I 1, I p0.job.hook, I p0.job.event.N, U p0.job.event.Event.A, U p0.job.event.Event.B, I p0.job.version, I p0.job.prog, U p0.job.calls, v12] rfl ?_
 intro w24 hst
 refine OA.next ⟨(hst.blkN 1 rfl 0 3), trivial⟩ ?_
 refine OA.pure [8, 9] [(28, .pointer (some ⟨b1, 3, none⟩))] (by kernel_rfl) ?_
 refine OA.act (i := 10) [] (by kernel_rfl) rfl rfl (by kernel_rfl) (by kernel_rfl) ?_
 refine OW.stB hst 0 rfl rfl rfl rfl rfl (by kernel_rfl) rfl rfl [Pt b14, Pt b15, I 1, I p1, I p2.N, U p2.Event.A, U p2.Event.B, I 0, I 0, U 0, .pointer none] rfl ?_
 intro w25 hst
 refine OA.next trivial ?_
 refine OA.fin (by kernel_rfl) (by kernel_rfl) (QW.next (rg ?_))
 refine pu 1 [(6, I 0)] (nx (CW.ret ?_))
 have hst := hst.optNil 129 (R_t129 (Pt b14))
 obtain ⟨S26, hst⟩ := hst.shutD3 R_t73 rfl 0 2 3 5 [1, 4] rfl rfl rfl rfl rfl (worker_Worker.mk p0.Scratch p0.Stats 1 (worker_job.mk p1 p2 0 0 0 none)) rfl rfl
 obtain rfl := inj hF
 refine QW.ret1 rfl rfl ?_
 exact ⟨S26, rfl, hst.keep [2] rfl⟩
theorem worker_Worker_Mode_ok (w : World) (v0 : Value) (S0 : List Nat) (p0 : worker_Worker) (r : Int) (hF : worker_Worker_Mode p0 = some r)
    (hst : St w (fp [itI R_t33 [v0] S0 p0]) w [itI R_t33 [v0] S0 p0]) :
    Calls Tryd.prog 7 [v0].toArray w (fun e w' => ∃ (s0 : List Nat), e = .returned (I r) ∧ St w (fp [itI R_t33 [v0] S0 p0]) w' [itI R_t33 [v0] s0 p0]) := by
 refine CW.start (N := 7) Tryd.func7 rfl rfl rfl ?_
 obtain ⟨b1, rfl⟩ := hst.fptr 0 rfl
 refine rg ?_
 refine pu 1 [] (nx (CW.seq ?_))
 obtain ⟨v2, S3, v4, S5, v6, S7, hst⟩ := hst.openD3 0 rfl rfl rfl rfl
 obtain ⟨b8, rfl⟩ := hst.fptr 1 rfl
 obtain ⟨b9, rfl⟩ := hst.fptr 2 rfl
 have hst : St _ _ _ [blkI b1 73 [Pt b8, Pt b9, I p0.mode_, I p0.job.hook, I p0.job.event.N, U p0.job.event.Event.A, U p0.job.event.Event.B, I p0.job.version, I p0.job.prog, U p0.job.calls, v6], _, _, _] := hst
 refine CW.region ?_
 refine pu 3 [(5, .pointer (some ⟨b1, 2, none⟩))] ?_
 refine OW.ld rfl rfl rfl rfl (by kernel_rfl) (hst.blk 0 rfl rfl) ?_
 refine pu 1 [(2, I p0.mode_)] (nx (CW.ret ?_))
 obtain ⟨S10, hst⟩ := hst.shutD3 R_t73 rfl 0 1 2 3 [] rfl rfl rfl rfl rfl p0 rfl rfl
 obtain rfl := inj hF
 refine QW.ret1 rfl rfl ?_
 exact ⟨S10, rfl, hst.keep [0] rfl⟩
theorem slices_Index_int_int_ok (w : World) (v0 : Value) (p0 : List Int) (p1 : Int) (r : Int) (hF : slices_Index_int_int p0 p1 = some r)
    (hst : St w (fp []) w []) (h0 : Rd w (fp []) v0 (encInt .i64) 1 p0) :
    Calls Tryd.prog 71 [v0, I p1].toArray w (fun e w' => e = .returned (I r) ∧ St w (fp []) w' []) := by
 refine CW.start (N := 19) Tryd.func71 rfl rfl rfl ?_
 obtain ⟨l1, a2, c3, rfl⟩ := h0.len
 refine rg ?_
 refine pu 1 [] (nx (CW.seq (rg ?_)))
 refine pu 3 [(7, I ((p0).length : Int)), (8, I 0)] (nx ?_)
 obtain ⟨o52, ho53, hF⟩ := bs hF
 refine CW.cutK (fun a w1 => ∃ (t54 : Unit), o52 = .inl t54 ∧ Rep 19 [] a ∧ St w (fp []) w1 []) ?_ ?_
 ·refine CW.block ?_
  refine CW.loop (fun n a w1 => ∃ (i87 : Nat) (s86 : Unit), i87 + n = (p0).length ∧ Rep 19 [(0, .slice a2 (p0).length c3), (1, I p1), (7, I ((p0).length : Int)), (8, I (i87 : Int))] a ∧ St w (fp []) w1 [] ∧ forN (slices_Index_int_int_l1 p0 p1) (fun (s86 : Unit) => (.inl ())) n i87 s86 = some o52) (p0).length (fun a ha => ⟨0, (), Nat.zero_add _, ha.ag, hst.keep [] rfl, ho53⟩) ?_
  rintro n84 a w1 ⟨i87, s86, hi88, ha, hst, hl85⟩
  refine CW.go ?_ ha
  refine rg ?_
  refine pu 1 [(9, .bool (decide ((i87 : Int) < ((p0).length : Int))))] (nx (CW.seq ?_))
  rcases bft (decide ((i87 : Int) < ((p0).length : Int))) with hc89 | hc89
  ·rcases n84 with _ | n84
   ·exact (cnt0 hi88 hc89).elim
   refine CW.cond_t rfl hc89 (CW.skip (QW.next (CW.seq (CW.block (rg ?_)))))
   refine pu 2 [(5, I (i87 : Int))] (nx (rg ?_))
   refine pu 3 [(11, I p1), (12, .slice a2 (p0).length c3), (13, I (i87 : Int))] ?_
   obtain ⟨x96, hx97, hl85⟩ := bs hl85
   obtain ⟨g99, o100, c101, hv98⟩ := h0.formv (fun _ => ⟨_, rfl⟩) hx97
   refine OW.idx 3 1 rfl rfl rfl rfl hv98 rfl (idx_some hx97).1 (idx_some hx97).2.1 (by kernel_rfl) (by kernel_rfl) ?_
   refine OW.ld rfl rfl rfl rfl (by kernel_rfl) (h0.cellv hst hx97 hv98 0 _ rfl) ?_
   refine pu 1 [(16, .bool (p1 == x96))] (nx ?_)
   refine br ((p1 == x96)) hl85 (fun hl85 hc102 => ?_) (fun hl85 hc102 => ?_)
   ·refine rg ?_
    refine pu 2 [(4, I (i87 : Int))] (nx (CW.ret (QW.block_ret (QW.then_ret (QW.then_ret (QW.block_ret (QW.then_ret ?_)))))))
    obtain rfl := inj hl85
    obtain rfl := inj hF
    refine QW.ret1 rfl rfl ?_
    exact ⟨rfl, hst.keep [] rfl⟩
   refine CW.skip (QW.block_normal (QW.next (CW.region ?_)))
   refine pu 2 [(8, I (w64 ((i87 : Int) + 1)))] (OW.nil rfl ?_)
   refine QW.say 8 rfl (congrArg (Value.int .i64) (w64_cnt hc89 l1)) ?_
   exact QW.meet (fun a ha => ⟨n84, Nat.lt_succ_self _, i87 + 1, (), cnt_next hi88, ha.ag, hst.keep [] rfl, hl85⟩)
  rcases n84 with _ | n84
  ·refine CW.cond_f rfl hc89 ?_
   refine CW.exit (QW.then_exit (QW.then_exit ?_))
   refine QW.block_here ?_
   obtain rfl := inj hl85
   exact QW.meet (fun a ha => ⟨(), rfl, ha.ag, hst.keep [] rfl⟩)
  exact (cnt1 hi88 hc89).elim
 rintro a w1 ⟨t54, rfl, ha, hst⟩
 refine CW.go ?_ ha
 refine rg ?_
 refine pu 1 [(4, I (-1))] (nx (CW.ret ?_))
 obtain rfl := inj hF
 refine QW.ret1 rfl rfl ?_
 exact ⟨rfl, hst.keep [] rfl⟩
theorem slices_Contains_int_int_ok (w : World) (v0 : Value) (p0 : List Int) (p1 : Int) (r : Bool) (hF : slices_Contains_int_int p0 p1 = some r)
    (hst : St w (fp []) w []) (h0 : Rd w (fp []) v0 (encInt .i64) 1 p0) :
    Calls Tryd.prog 43 [v0, I p1].toArray w (fun e w' => e = .returned (.bool r) ∧ St w (fp []) w' []) := by
 refine CW.start (N := 9) Tryd.func43 rfl rfl rfl ?_
 obtain ⟨l1, a2, c3, rfl⟩ := h0.len
 refine rg ?_
 refine pu 1 [] (nx (rg ?_))
 refine pu 2 [(5, .slice a2 (p0).length c3), (6, I p1)] ?_
 obtain ⟨r8, hr9, hF⟩ := bs hF
 refine OW.fn rfl rfl rfl rfl (by kernel_rfl) (slices_Index_int_int_ok _ (.slice a2 (p0).length c3) p0 p1 r8 hr9 (hst.part [] rfl) (h0.give hst [])) ?_
 rintro e w10 ⟨rfl, hst11⟩
 refine ⟨_, rfl, ?_⟩
 have hst := hst.join (idx := []) (rest := []) rfl hst11
 refine pu 2 [(4, .bool (decide (r8 ≥ 0)))] (nx (CW.ret ?_))
 obtain rfl := inj hF
 refine QW.ret1 rfl rfl ?_
 exact ⟨rfl, hst.keep [] rfl⟩
theorem judge_good_ok (w : World) (v0 : Value) (p0 : List Int) (r : Bool) (hF : judge_good p0 = some r)
    (hst : St w (fp []) w []) (h0 : Rd w (fp []) v0 (encInt .i64) 1 p0) :
    Calls Tryd.prog 30 [v0].toArray w (fun e w' => e = .returned (.bool r) ∧ St w (fp []) w' []) := by
 refine CW.start (N := 29) Tryd.func30 rfl rfl rfl ?_
 obtain ⟨l1, a2, c3, rfl⟩ := h0.len
 refine rg ?_
 refine pu 1 [] (nx (CW.seq (rg ?_)))
 refine pu 3 [(5, .slice a2 (p0).length c3), (6, I ((p0).length : Int)), (7, I 0)] (nx ?_)
 obtain ⟨o112, ho113, hF⟩ := bs hF
 refine CW.cutK (fun a w1 => ∃ (t114 : Unit), o112 = .inl t114 ∧ Rep 29 [(0, .slice a2 (p0).length c3)] a ∧ St w (fp []) w1 []) ?_ ?_
 ·refine CW.block ?_
  refine CW.loop (fun n a w1 => ∃ (i187 : Nat) (s186 : Unit), i187 + n = (p0).length ∧ Rep 29 [(0, .slice a2 (p0).length c3), (5, .slice a2 (p0).length c3), (6, I ((p0).length : Int)), (7, I (i187 : Int))] a ∧ St w (fp []) w1 [] ∧ forN (judge_good_l1 p0) (fun (s186 : Unit) => (.inl ())) n i187 s186 = some o112) (p0).length (fun a ha => ⟨0, (), Nat.zero_add _, ha.ag, hst.keep [] rfl, ho113⟩) ?_
  rintro n184 a w1 ⟨i187, s186, hi188, ha, hst, hl185⟩
  refine CW.go ?_ ha
  refine rg ?_
  refine pu 1 [(8, .bool (decide ((i187 : Int) < ((p0).length : Int))))] (nx (CW.seq ?_))
  rcases bft (decide ((i187 : Int) < ((p0).length : Int))) with hc189 | hc189
  ·rcases n184 with _ | n184
   ·exact (cnt0 hi188 hc189).elim
   refine CW.cond_t rfl hc189 (CW.skip (QW.next (CW.seq (CW.block (rg ?_)))))
   refine pu 1 [(9, I (i187 : Int))] ?_
   obtain ⟨x196, hx197, hl185⟩ := bs hl185
   obtain ⟨g199, o200, c201, hv198⟩ := h0.formv (fun _ => ⟨_, rfl⟩) hx197
   refine OW.idx 3 1 rfl rfl rfl rfl hv198 rfl (idx_some hx197).1 (idx_some hx197).2.1 (by kernel_rfl) (by kernel_rfl) ?_
   refine OW.ld rfl rfl rfl rfl (by kernel_rfl) (h0.cellv hst hx197 hv198 0 _ rfl) ?_
   refine pu 2 [(3, I (i187 : Int)), (4, I x196)] (nx (CW.seq ?_))
   obtain ⟨o211, ho212, hl185⟩ := bs hl185
   refine CW.cutK (fun a w1 => Rep 29 [(0, .slice a2 (p0).length c3), (5, .slice a2 (p0).length c3), (6, I ((p0).length : Int)), (7, I (i187 : Int)), (24, .bool o211)] a ∧ St w (fp []) w1 []) ?_ ?_
   ·refine CW.region ?_
    refine pu 3 [(14, .bool (decide (x196 < 0)))] ?_
    refine OW.split 14 rfl (fun hc213 => ?_) (fun hc213 => ?_)
    ·have ho212 := ite_t ho212 hc213
     refine pu 10 [(24, .bool true)] (OW.nil rfl ?_)
     obtain rfl := inj ho212
     exact QW.meet (fun a ha => ⟨ha.ag, hst.keep [] rfl⟩)
    have ho212 := ite_f ho212 hc213
    refine pu 4 [(18, .bool (decide (x196 ≥ 4)))] ?_
    refine OW.split 18 rfl (fun hc214 => ?_) (fun hc214 => ?_)
    ·have ho212 := ite_t ho212 hc214
     refine pu 6 [(24, .bool true)] (OW.nil rfl ?_)
     obtain rfl := inj ho212
     exact QW.meet (fun a ha => ⟨ha.ag, hst.keep [] rfl⟩)
    have ho212 := ite_f ho212 hc214
    refine pu 2 [(19, .slice a2 (p0).length c3), (20, I (i187 : Int))] ?_
    obtain ⟨ys215, hcut216, ho212⟩ := bs ho212
    refine OW.op (v := .slice a2 (ys215).length c3) rfl rfl rfl rfl (fun a ha => pre_run (e := 3) 1 rfl rfl rfl hcut216 h0.cap (by kernel_rfl) (by kernel_rfl) a _ ha) ?_
    have hp217 := h0.pre hcut216
    refine pu 1 [(22, I x196)] ?_
    obtain ⟨r218, hr219, ho212⟩ := bs ho212
    refine OW.fn rfl rfl rfl rfl (by kernel_rfl) (slices_Contains_int_int_ok _ (.slice a2 (ys215).length c3) ys215 x196 r218 hr219 (hst.part [] rfl) (hp217.give hst [])) ?_
    rintro e w220 ⟨rfl, hst221⟩
    refine ⟨_, rfl, ?_⟩
    have hst := hst.join (idx := []) (rest := []) rfl hst221
    refine pu 1 [(24, .bool r218)] (OW.nil rfl ?_)
    obtain rfl := inj ho212
    exact QW.meet (fun a ha => ⟨ha.ag, hst.keep [] rfl⟩)
   rintro a w1 ⟨ha, hst⟩
   refine CW.go ?_ ha
   refine br (o211) hl185 (fun hl185 hc222 => ?_) (fun hl185 hc222 => ?_)
   ·refine rg ?_
    refine pu 1 [(2, .bool false)] (nx (CW.ret (QW.block_ret (QW.then_ret (QW.then_ret (QW.block_ret (QW.then_ret ?_)))))))
    obtain rfl := inj hl185
    obtain rfl := inj hF
    refine QW.ret1 rfl rfl ?_
    exact ⟨rfl, hst.keep [] rfl⟩
   refine CW.skip (QW.block_normal (QW.next (CW.region ?_)))
   refine pu 2 [(7, I (w64 ((i187 : Int) + 1)))] (OW.nil rfl ?_)
   refine QW.say 7 rfl (congrArg (Value.int .i64) (w64_cnt hc189 l1)) ?_
   exact QW.meet (fun a ha => ⟨n184, Nat.lt_succ_self _, i187 + 1, (), cnt_next hi188, ha.ag, hst.keep [] rfl, hl185⟩)
  rcases n184 with _ | n184
  ·refine CW.cond_f rfl hc189 ?_
   refine CW.exit (QW.then_exit (QW.then_exit ?_))
   refine QW.block_here ?_
   obtain rfl := inj hl185
   exact QW.meet (fun a ha => ⟨(), rfl, ha.ag, hst.keep [] rfl⟩)
  exact (cnt1 hi188 hc189).elim
 rintro a w1 ⟨t114, rfl, ha, hst⟩
 refine CW.go ?_ ha
 refine rg ?_
 refine pu 4 [(2, .bool (decide (((p0).length : Int) ≤ 4)))] (nx (CW.ret ?_))
 obtain rfl := inj hF
 refine QW.ret1 rfl rfl ?_
 exact ⟨rfl, hst.keep [] rfl⟩
theorem ops_of_ok (w : World) (p0 : Int) (r : ops_form × Bool) (hF : ops_of p0 = some r)
    (hst : St w (fp []) w []) (hT0 : Rd w (fp []) (.slice (some ⟨0, 0, none⟩) 23 23) enc_ops_form 2 tab_g0) :
    Calls Tryd.prog 75 [I p0].toArray w (fun e w' => e = .returned (.tuple #[.agg [.string r.1.name, .string r.1.fields].toArray, .bool r.2]) ∧ St w (fp []) w' []) := by
 refine CW.start (N := 14) Tryd.func75 rfl rfl rfl (rg ?_)
 refine OW.alloc hst rfl rfl rfl [.string ByteArray.empty, .string ByteArray.empty] (by kernel_rfl) ?_
 intro b3 w4 hst
 refine pu 1 [] (nx (CW.seq (CW.seq ?_)))
 refine CW.cutK (fun a w1 => Rep 14 [(0, I p0), (2, Pt b3), (9, .bool (decide (p0 < 0) || decide (p0 ≥ 23)))] a ∧ St w (fp []) w1 [blkI b3 176 [.string ByteArray.empty, .string ByteArray.empty]]) ?_ ?_
 ·refine CW.region ?_
  refine pu 3 [(6, .bool (decide (p0 < 0)))] ?_
  refine OW.split 6 rfl (fun hc5 => ?_) (fun hc5 => ?_)
  ·refine pu 3 [(9, .bool true)] (OW.nil rfl ?_)
   refine QW.say 9 (v := .bool (decide (p0 < 0) || decide (p0 ≥ 23))) rfl (by first | (rw [hc5]; done) | (rw [hc5]; rfl) | simp [hc5]) ?_
   exact QW.meet (fun a ha => ⟨ha.ag, hst.keep [0] rfl⟩)
  refine pu 3 [(9, .bool (decide (p0 ≥ 23)))] (OW.nil rfl ?_)
  refine QW.say 9 (v := .bool (decide (p0 < 0) || decide (p0 ≥ 23))) rfl (by first | (rw [hc5]; done) | (rw [hc5]; rfl) | simp [hc5]) ?_
  exact QW.meet (fun a ha => ⟨ha.ag, hst.keep [0] rfl⟩)
 rintro a w1 ⟨ha, hst⟩
 refine CW.go ?_ ha
 refine br ((decide (p0 < 0) || decide (p0 ≥ 23))) hF (fun hF hc6 => ?_) (fun hF hc6 => ?_)
 ·refine rg ?_
  refine pu 1 [(10, .agg [.string ByteArray.empty, .string ByteArray.empty].toArray)] ?_
  refine OW.stB hst 0 rfl rfl rfl rfl rfl (by kernel_rfl) rfl rfl [.string ByteArray.empty, .string ByteArray.empty] rfl ?_
  intro w8 hst
  refine pu 1 [(3, .bool false)] (nx (CW.ret (QW.then_ret ?_)))
  obtain rfl := inj hF
  refine QW.ret_ct rfl rfl (run_loadN (cs := [.string ByteArray.empty, .string ByteArray.empty]) (by kernel_rfl) (by kernel_rfl) (hst.blkN 0 rfl 0 2)) rfl ?_
  exact ⟨rfl, hst.keep [] rfl⟩
 refine CW.skip (QW.next (rg ?_))
 refine pu 1 [(11, I p0)] ?_
 obtain ⟨x12, hx13, hF⟩ := bs hF
 refine OW.op (v := .pointer (some ⟨0, 0 + Int.toNat p0 * 2, none⟩)) rfl rfl rfl rfl (fun a ha => aidx_run (n := tab_g0.length) 176 2 rfl rfl rfl (idx_some hx13).1 (idx_some hx13).2.1 (by kernel_rfl) (by kernel_rfl) a _ ha) ?_
 refine OW.ldN (cs := enc_ops_form x12) rfl rfl rfl rfl (by kernel_rfl) (by kernel_rfl) (hT0.cellv hst hx13 (show Value.slice (some ⟨0, 0, none⟩) 23 23 = .slice (some ⟨0, 0, none⟩) tab_g0.length 23 from rfl)) ?_
 refine OW.stB hst 0 rfl rfl rfl rfl rfl (by kernel_rfl) rfl rfl [.string x12.name, .string x12.fields] rfl ?_
 intro w14 hst
 refine pu 1 [(3, .bool true)] (nx (CW.ret ?_))
 obtain rfl := inj hF
 refine QW.ret_ct rfl rfl (run_loadN (cs := [.string x12.name, .string x12.fields]) (by kernel_rfl) (by kernel_rfl) (hst.blkN 0 rfl 0 2)) rfl ?_
 exact ⟨rfl, hst.keep [] rfl⟩
theorem ops_register_ok (w : World) (p0 : Int) (r : Bool) (hF : ops_register p0 = some r)
    (hst : St w (fp []) w []) :
    Calls Tryd.prog 91 [I p0].toArray w (fun e w' => e = .returned (.bool r) ∧ St w (fp []) w' []) := by
 refine CW.start (N := 9) Tryd.func91 rfl rfl rfl (rg ?_)
 refine pu 1 [] (nx (CW.seq ?_))
 refine CW.cutK (fun a w1 => Rep 9 [(2, .bool (decide (p0 ≥ 0) && decide (p0 < 8)))] a ∧ St w (fp []) w1 []) ?_ ?_
 ·refine CW.region ?_
  refine pu 3 [(5, .bool (decide (p0 ≥ 0)))] ?_
  refine OW.split 5 rfl (fun hc1 => ?_) (fun hc1 => ?_)
  ·refine pu 4 [(2, .bool (decide (p0 < 8)))] (OW.nil rfl ?_)
   refine QW.say 2 (v := .bool (decide (p0 ≥ 0) && decide (p0 < 8))) rfl (by first | (rw [hc1]; done) | (rw [hc1]; rfl) | simp [hc1]) ?_
   exact QW.meet (fun a ha => ⟨ha.ag, hst.keep [] rfl⟩)
  refine pu 4 [(2, .bool false)] (OW.nil rfl ?_)
  refine QW.say 2 (v := .bool (decide (p0 ≥ 0) && decide (p0 < 8))) rfl (by first | (rw [hc1]; done) | (rw [hc1]; rfl) | simp [hc1]) ?_
  exact QW.meet (fun a ha => ⟨ha.ag, hst.keep [] rfl⟩)
 rintro a w1 ⟨ha, hst⟩
 refine CW.go ?_ ha
 refine CW.ret ?_
 obtain rfl := inj hF
 refine QW.ret1 rfl rfl ?_
 exact ⟨rfl, hst.keep [] rfl⟩
theorem ops_within_ok (w : World) (p0 : Int) (p1 : Int) (p2 : Int) (r : Bool) (hF : ops_within p0 p1 p2 = some r)
    (hst : St w (fp []) w []) :
    Calls Tryd.prog 92 [I p0, I p1, I p2].toArray w (fun e w' => e = .returned (.bool r) ∧ St w (fp []) w' []) := by
 refine CW.start (N := 15) Tryd.func92 rfl rfl rfl (rg ?_)
 refine pu 1 [] (nx (CW.seq ?_))
 refine CW.cutK (fun a w1 => Rep 15 [(6, .bool (decide (p0 ≥ p1) && decide (p0 ≤ p2)))] a ∧ St w (fp []) w1 []) ?_ ?_
 ·refine CW.region ?_
  refine pu 4 [(10, .bool (decide (p0 ≥ p1)))] ?_
  refine OW.split 10 rfl (fun hc1 => ?_) (fun hc1 => ?_)
  ·refine pu 5 [(6, .bool (decide (p0 ≤ p2)))] (OW.nil rfl ?_)
   refine QW.say 6 (v := .bool (decide (p0 ≥ p1) && decide (p0 ≤ p2))) rfl (by first | (rw [hc1]; done) | (rw [hc1]; rfl) | simp [hc1]) ?_
   exact QW.meet (fun a ha => ⟨ha.ag, hst.keep [] rfl⟩)
  refine pu 5 [(6, .bool false)] (OW.nil rfl ?_)
  refine QW.say 6 (v := .bool (decide (p0 ≥ p1) && decide (p0 ≤ p2))) rfl (by first | (rw [hc1]; done) | (rw [hc1]; rfl) | simp [hc1]) ?_
  exact QW.meet (fun a ha => ⟨ha.ag, hst.keep [] rfl⟩)
 rintro a w1 ⟨ha, hst⟩
 refine CW.go ?_ ha
 refine CW.ret ?_
 obtain rfl := inj hF
 refine QW.ret1 rfl rfl ?_
 exact ⟨rfl, hst.keep [] rfl⟩
theorem ops_right_ok (w : World) (p0 : api_Inst) (r : Bool) (hF : ops_right p0 = some r)
    (hst : St w (fp []) w []) (hT0 : Rd w (fp []) (.slice (some ⟨0, 0, none⟩) 23 23) enc_ops_form 2 tab_g0) :
    Calls Tryd.prog 74 [.agg [I p0.Op, I p0.D, I p0.A, I p0.B, I p0.Imm].toArray].toArray w (fun e w' => e = .returned (.bool r) ∧ St w (fp []) w' []) := by
 refine CW.start (N := 129) Tryd.func74 rfl rfl rfl (rg ?_)
 refine OW.box hst rfl rfl rfl rfl [I p0.Op, I p0.D, I p0.A, I p0.B, I p0.Imm] rfl ?_
 intro b3 w4 hst
 refine pu 1 [] (nx (rg ?_))
 refine pu 1 [(8, Pt b3)] ?_
 refine OW.ld rfl rfl rfl rfl (by kernel_rfl) (hst.blk 0 rfl rfl) ?_
 obtain ⟨r12, hr13, hF⟩ := bs hF
 refine OW.fn rfl rfl rfl rfl (by kernel_rfl) (ops_of_ok _ p0.Op r12 hr13 (hst.part [] rfl) (hT0.give hst [])) ?_
 rintro e w14 ⟨rfl, hst15⟩
 refine ⟨_, rfl, ?_⟩
 have hst := hst.join (idx := []) (rest := [0]) rfl hst15
 refine pu 3 [(11, .agg [.string r12.1.name, .string r12.1.fields].toArray), (12, .bool r12.2)] ?_
 refine OW.alloc hst rfl rfl rfl [.string ByteArray.empty, .string ByteArray.empty] (by kernel_rfl) ?_
 intro b16 w17 hst
 refine OW.stB hst 1 rfl rfl rfl rfl rfl (by kernel_rfl) rfl rfl [.string r12.1.name, .string r12.1.fields] rfl ?_
 intro w18 hst
 refine pu 1 [(4, .bool r12.2)] (nx (CW.seq (rg ?_)))
 refine pu 2 [(14, .bool (!r12.2))] (nx ?_)
 refine br ((!r12.2)) hF (fun hF hc19 => ?_) (fun hF hc19 => ?_)
 ·refine rg ?_
  refine pu 1 [(2, .bool false)] (nx (CW.ret (QW.then_ret ?_)))
  obtain rfl := inj hF
  refine QW.ret1 rfl rfl ?_
  exact ⟨rfl, hst.keep [] rfl⟩
 refine CW.skip (QW.next (rg ?_))
 refine OW.alloc hst rfl rfl rfl [I 0, I 0, I 0, I 0, I 0] (by kernel_rfl) ?_
 intro b22 w23 hst
 refine nx (CW.seq ?_)
 refine CW.plan (by kernel_rfl) ?_
 intro w30 hch31
 have hst := hst.same hch31
 refine OA.pure [0] [(15, .pointer (some ⟨b3, 1, none⟩))] (by kernel_rfl) ?_
 refine OA.ld (i := 1) rfl (by kernel_rfl) rfl rfl rfl (by kernel_rfl) (hst.blk 0 rfl rfl) ?_
 refine OA.pure [2] [(17, .pointer (some ⟨b3, 2, none⟩))] (by kernel_rfl) ?_
 refine OA.ld (i := 3) rfl (by kernel_rfl) rfl rfl rfl (by kernel_rfl) (hst.blk 0 rfl rfl) ?_
 refine OA.pure [4] [(19, .pointer (some ⟨b3, 3, none⟩))] (by kernel_rfl) ?_
 refine OA.ld (i := 5) rfl (by kernel_rfl) rfl rfl rfl (by kernel_rfl) (hst.blk 0 rfl rfl) ?_
 refine OA.pure [6] [(21, .pointer (some ⟨b3, 4, none⟩))] (by kernel_rfl) ?_
 refine OA.ld (i := 7) rfl (by kernel_rfl) rfl rfl rfl (by kernel_rfl) (hst.blk 0 rfl rfl) ?_
 refine OA.pure [8] [(23, .pointer (some ⟨b22, 1, none⟩))] (by kernel_rfl) ?_
 refine OA.act (i := 9) [7, 5, 3] (by kernel_rfl) rfl rfl (by kernel_rfl) (by kernel_rfl) ?_
 refine OW.stB hst 2 rfl rfl rfl rfl rfl (by kernel_rfl) rfl rfl [I 0, I p0.D, I 0, I 0, I 0] rfl ?_
 intro w33 hst
 refine OA.next ⟨(hst.blk 0 rfl rfl), (hst.blk 0 rfl rfl), (hst.blk 0 rfl rfl), trivial⟩ ?_
 refine OA.pure [10] [(24, .pointer (some ⟨b22, 2, none⟩))] (by kernel_rfl) ?_
 refine OA.act (i := 11) [7, 5] (by kernel_rfl) rfl rfl (by kernel_rfl) (by kernel_rfl) ?_
 refine OW.stB hst 2 rfl rfl rfl rfl rfl (by kernel_rfl) rfl rfl [I 0, I p0.D, I p0.A, I 0, I 0] rfl ?_
 intro w34 hst
 refine OA.next ⟨(hst.blk 0 rfl rfl), (hst.blk 0 rfl rfl), trivial⟩ ?_
 refine OA.pure [12] [(25, .pointer (some ⟨b22, 3, none⟩))] (by kernel_rfl) ?_
 refine OA.act (i := 13) [7] (by kernel_rfl) rfl rfl (by kernel_rfl) (by kernel_rfl) ?_
 refine OW.stB hst 2 rfl rfl rfl rfl rfl (by kernel_rfl) rfl rfl [I 0, I p0.D, I p0.A, I p0.B, I 0] rfl ?_
 intro w35 hst
 refine OA.next ⟨(hst.blk 0 rfl rfl), trivial⟩ ?_
 refine OA.pure [14] [(26, .pointer (some ⟨b22, 4, none⟩))] (by kernel_rfl) ?_
 refine OA.act (i := 15) [] (by kernel_rfl) rfl rfl (by kernel_rfl) (by kernel_rfl) ?_
 refine OW.stB hst 2 rfl rfl rfl rfl rfl (by kernel_rfl) rfl rfl [I 0, I p0.D, I p0.A, I p0.B, I p0.Imm] rfl ?_
 intro w36 hst
 refine OA.next trivial ?_
 refine OA.fin (by kernel_rfl) (by kernel_rfl) (QW.next (CW.seq (rg ?_)))
 refine pu 1 [(27, .pointer (some ⟨b16, 1, none⟩))] ?_
 refine OW.ld rfl rfl rfl rfl (by kernel_rfl) (hst.blk 1 rfl rfl) ?_
 refine pu 2 [(29, I (r12.1.fields.size : Int)), (30, I 0)] (nx ?_)
 obtain ⟨o366, ho367, hF⟩ := bs hF
 refine CW.cutK (fun a w1 => Rep 129 [(4, .bool o366.1), (5, Pt b22)] a ∧ St w (fp []) w1 [blkI b22 76 [I o366.2.Op, I o366.2.D, I o366.2.A, I o366.2.B, I o366.2.Imm]]) ?_ ?_
 ·refine CW.block ?_
  obtain ⟨u614, hr615, ho367⟩ := bs ho367
  refine CW.loop (fun n a w1 => ∃ (i612 : Nat) (s611 : Bool × api_Inst), i612 + n = r12.1.fields.size ∧ Rep 129 [(1, Pt b3), (3, Pt b16), (4, .bool s611.1), (5, Pt b22), (29, I (r12.1.fields.size : Int)), (30, I (i612 : Int))] a ∧ St w (fp []) w1 [blkI b3 76 [I p0.Op, I p0.D, I p0.A, I p0.B, I p0.Imm], blkI b16 176 [.string r12.1.name, .string r12.1.fields], blkI b22 76 [I s611.2.Op, I s611.2.D, I s611.2.A, I s611.2.B, I s611.2.Imm]] ∧ forN (ops_right_l1 p0 r12) (fun (s611 : Bool × api_Inst) => (s611.1, s611.2)) n i612 s611 = some o366) r12.1.fields.size (fun a ha => ⟨0, (r12.2, (api_Inst.mk 0 p0.D p0.A p0.B p0.Imm)), Nat.zero_add _, ha.ag, hst.keep [0, 1, 2] rfl, ho367⟩) ?_
  rintro n609 a w1 ⟨i612, s611, hi613, ha, hst, hl610⟩
  refine CW.go ?_ ha
  refine rg ?_
  refine pu 1 [(31, .bool (decide ((i612 : Int) < (r12.1.fields.size : Int))))] (nx (CW.seq ?_))
  rcases bft (decide ((i612 : Int) < (r12.1.fields.size : Int))) with hc616 | hc616
  ·rcases n609 with _ | n609
   ·exact (cnt0 hi613 hc616).elim
   refine CW.cond_t rfl hc616 (CW.skip (QW.next (CW.seq (CW.block (rg ?_)))))
   refine pu 2 [(6, I (i612 : Int))] (nx (rg ?_))
   refine pu 1 [(33, .pointer (some ⟨b16, 1, none⟩))] ?_
   refine OW.ld rfl rfl rfl rfl (by kernel_rfl) (hst.blk 1 rfl rfl) ?_
   refine pu 1 [(35, I (i612 : Int))] ?_
   obtain ⟨c619, hx620, hl610⟩ := bs hl610
   refine OW.op (v := .int .u8 c619) rfl rfl rfl rfl (fun a ha => sidx_run rfl rfl rfl (by kernel_rfl) hx620 a _ ha) (nx (CW.block (rg ?_)))
   refine pu 2 [(37, .bool (c619 == 100))] (nx ?_)
   refine br ((c619 == 100)) hl610 (fun hl610 hc621 => ?_) (fun hl610 hc621 => ?_)
   ·refine CW.region ?_
    refine pu 2 [(40, .bool s611.1)] ?_
    refine OW.split 40 rfl (fun hc622 => ?_) (fun hc622 => ?_)
    ·have hl610 := ite_t hl610 hc622
     refine pu 1 [(41, .pointer (some ⟨b3, 1, none⟩))] ?_
     refine OW.ld rfl rfl rfl rfl (by kernel_rfl) (hst.blk 0 rfl rfl) ?_
     obtain ⟨r623, hr624, hl610⟩ := bs hl610
     refine OW.fn rfl rfl rfl rfl (by kernel_rfl) (ops_register_ok _ p0.D r623 hr624 (hst.part [] rfl)) ?_
     rintro e w625 ⟨rfl, hst626⟩
     refine ⟨_, rfl, ?_⟩
     have hst := hst.join (idx := []) (rest := [0, 1, 2]) rfl hst626
     refine pu 3 [(4, .bool r623), (45, .pointer (some ⟨b22, 1, none⟩))] ?_
     refine OW.stB hst 2 rfl rfl rfl rfl rfl (by kernel_rfl) rfl rfl [I s611.2.Op, I 0, I s611.2.A, I s611.2.B, I s611.2.Imm] rfl ?_
     intro w627 hst
     refine OW.nil rfl (QW.block_normal (QW.block_normal (QW.next (CW.region ?_))))
     refine pu 2 [(30, I (w64 ((i612 : Int) + 1)))] (OW.nil rfl ?_)
     refine QW.say 30 rfl (congrArg (Value.int .i64) (w64_cnt hc616 (room_sz hr615))) ?_
     exact QW.meet (fun a ha => ⟨n609, Nat.lt_succ_self _, i612 + 1, (r623, (api_Inst.mk s611.2.Op 0 s611.2.A s611.2.B s611.2.Imm)), cnt_next hi613, ha.ag, hst.keep [0, 1, 2] rfl, hl610⟩)
    have hl610 := ite_f hl610 hc622
    refine pu 6 [(4, .bool false), (45, .pointer (some ⟨b22, 1, none⟩))] ?_
    refine OW.stB hst 2 rfl rfl rfl rfl rfl (by kernel_rfl) rfl rfl [I s611.2.Op, I 0, I s611.2.A, I s611.2.B, I s611.2.Imm] rfl ?_
    intro w628 hst
    refine OW.nil rfl (QW.block_normal (QW.block_normal (QW.next (CW.region ?_))))
    refine pu 2 [(30, I (w64 ((i612 : Int) + 1)))] (OW.nil rfl ?_)
    refine QW.say 30 rfl (congrArg (Value.int .i64) (w64_cnt hc616 (room_sz hr615))) ?_
    exact QW.meet (fun a ha => ⟨n609, Nat.lt_succ_self _, i612 + 1, (false, (api_Inst.mk s611.2.Op 0 s611.2.A s611.2.B s611.2.Imm)), cnt_next hi613, ha.ag, hst.keep [0, 1, 2] rfl, hl610⟩)
   refine rg ?_
   refine pu 2 [(46, .bool (c619 == 97))] (nx ?_)
   refine br ((c619 == 97)) hl610 (fun hl610 hc629 => ?_) (fun hl610 hc629 => ?_)
   ·refine CW.region ?_
    refine pu 2 [(49, .bool s611.1)] ?_
    refine OW.split 49 rfl (fun hc630 => ?_) (fun hc630 => ?_)
    ·have hl610 := ite_t hl610 hc630
     refine pu 1 [(50, .pointer (some ⟨b3, 2, none⟩))] ?_
     refine OW.ld rfl rfl rfl rfl (by kernel_rfl) (hst.blk 0 rfl rfl) ?_
     obtain ⟨r631, hr632, hl610⟩ := bs hl610
     refine OW.fn rfl rfl rfl rfl (by kernel_rfl) (ops_register_ok _ p0.A r631 hr632 (hst.part [] rfl)) ?_
     rintro e w633 ⟨rfl, hst634⟩
     refine ⟨_, rfl, ?_⟩
     have hst := hst.join (idx := []) (rest := [0, 1, 2]) rfl hst634
     refine pu 3 [(4, .bool r631), (54, .pointer (some ⟨b22, 2, none⟩))] ?_
     refine OW.stB hst 2 rfl rfl rfl rfl rfl (by kernel_rfl) rfl rfl [I s611.2.Op, I s611.2.D, I 0, I s611.2.B, I s611.2.Imm] rfl ?_
     intro w635 hst
     refine OW.nil rfl (QW.block_normal (QW.block_normal (QW.next (CW.region ?_))))
     refine pu 2 [(30, I (w64 ((i612 : Int) + 1)))] (OW.nil rfl ?_)
     refine QW.say 30 rfl (congrArg (Value.int .i64) (w64_cnt hc616 (room_sz hr615))) ?_
     exact QW.meet (fun a ha => ⟨n609, Nat.lt_succ_self _, i612 + 1, (r631, (api_Inst.mk s611.2.Op s611.2.D 0 s611.2.B s611.2.Imm)), cnt_next hi613, ha.ag, hst.keep [0, 1, 2] rfl, hl610⟩)
    have hl610 := ite_f hl610 hc630
    refine pu 6 [(4, .bool false), (54, .pointer (some ⟨b22, 2, none⟩))] ?_
    refine OW.stB hst 2 rfl rfl rfl rfl rfl (by kernel_rfl) rfl rfl [I s611.2.Op, I s611.2.D, I 0, I s611.2.B, I s611.2.Imm] rfl ?_
    intro w636 hst
    refine OW.nil rfl (QW.block_normal (QW.block_normal (QW.next (CW.region ?_))))
    refine pu 2 [(30, I (w64 ((i612 : Int) + 1)))] (OW.nil rfl ?_)
    refine QW.say 30 rfl (congrArg (Value.int .i64) (w64_cnt hc616 (room_sz hr615))) ?_
    exact QW.meet (fun a ha => ⟨n609, Nat.lt_succ_self _, i612 + 1, (false, (api_Inst.mk s611.2.Op s611.2.D 0 s611.2.B s611.2.Imm)), cnt_next hi613, ha.ag, hst.keep [0, 1, 2] rfl, hl610⟩)
   refine rg ?_
   refine pu 2 [(55, .bool (c619 == 115))] (nx ?_)
   refine br ((c619 == 115)) hl610 (fun hl610 hc637 => ?_) (fun hl610 hc637 => ?_)
   ·refine rg ?_
    refine pu 1 [(57, .pointer (some ⟨b22, 3, none⟩))] ?_
    refine OW.stB hst 2 rfl rfl rfl rfl rfl (by kernel_rfl) rfl rfl [I s611.2.Op, I s611.2.D, I s611.2.A, I 0, I s611.2.Imm] rfl ?_
    intro w639 hst
    refine nx (rg ?_)
    refine pu 1 [(58, .pointer (some ⟨b3, 3, none⟩))] ?_
    refine OW.ld rfl rfl rfl rfl (by kernel_rfl) (hst.blk 0 rfl rfl) ?_
    refine pu 1 [(60, .bool (p0.B == 8))] (nx ?_)
    refine br ((p0.B == 8)) hl610 (fun hl610 hc640 => ?_) (fun hl610 hc640 => ?_)
    ·refine CW.region ?_
     refine pu 1 [(61, .pointer (some ⟨b22, 4, none⟩))] ?_
     refine OW.stB hst 2 rfl rfl rfl rfl rfl (by kernel_rfl) rfl rfl [I s611.2.Op, I s611.2.D, I s611.2.A, I 0, I 0] rfl ?_
     intro w642 hst
     refine OW.nil rfl (QW.block_normal (QW.block_normal (QW.next (CW.region ?_))))
     refine pu 2 [(30, I (w64 ((i612 : Int) + 1)))] (OW.nil rfl ?_)
     refine QW.say 30 rfl (congrArg (Value.int .i64) (w64_cnt hc616 (room_sz hr615))) ?_
     exact QW.meet (fun a ha => ⟨n609, Nat.lt_succ_self _, i612 + 1, (s611.1, (api_Inst.mk s611.2.Op s611.2.D s611.2.A 0 0)), cnt_next hi613, ha.ag, hst.keep [0, 1, 2] rfl, hl610⟩)
    refine CW.region ?_
    refine pu 2 [(63, .bool s611.1)] ?_
    refine OW.split 63 rfl (fun hc643 => ?_) (fun hc643 => ?_)
    ·have hl610 := ite_t hl610 hc643
     refine pu 1 [(64, .pointer (some ⟨b3, 3, none⟩))] ?_
     refine OW.ld rfl rfl rfl rfl (by kernel_rfl) (hst.blk 0 rfl rfl) ?_
     obtain ⟨r644, hr645, hl610⟩ := bs hl610
     refine OW.fn rfl rfl rfl rfl (by kernel_rfl) (ops_register_ok _ p0.B r644 hr645 (hst.part [] rfl)) ?_
     rintro e w646 ⟨rfl, hst647⟩
     refine ⟨_, rfl, ?_⟩
     have hst := hst.join (idx := []) (rest := [0, 1, 2]) rfl hst647
     refine pu 2 [(4, .bool r644)] (OW.nil rfl (QW.block_normal (QW.block_normal (QW.next (CW.region ?_)))))
     refine pu 2 [(30, I (w64 ((i612 : Int) + 1)))] (OW.nil rfl ?_)
     refine QW.say 30 rfl (congrArg (Value.int .i64) (w64_cnt hc616 (room_sz hr615))) ?_
     exact QW.meet (fun a ha => ⟨n609, Nat.lt_succ_self _, i612 + 1, (r644, (api_Inst.mk s611.2.Op s611.2.D s611.2.A 0 s611.2.Imm)), cnt_next hi613, ha.ag, hst.keep [0, 1, 2] rfl, hl610⟩)
    have hl610 := ite_f hl610 hc643
    refine pu 5 [(4, .bool false)] (OW.nil rfl (QW.block_normal (QW.block_normal (QW.next (CW.region ?_)))))
    refine pu 2 [(30, I (w64 ((i612 : Int) + 1)))] (OW.nil rfl ?_)
    refine QW.say 30 rfl (congrArg (Value.int .i64) (w64_cnt hc616 (room_sz hr615))) ?_
    exact QW.meet (fun a ha => ⟨n609, Nat.lt_succ_self _, i612 + 1, (false, (api_Inst.mk s611.2.Op s611.2.D s611.2.A 0 s611.2.Imm)), cnt_next hi613, ha.ag, hst.keep [0, 1, 2] rfl, hl610⟩)
   refine rg ?_
   refine pu 2 [(68, .bool (c619 == 102))] (nx ?_)
   refine br ((c619 == 102)) hl610 (fun hl610 hc648 => ?_) (fun hl610 hc648 => ?_)
   ·refine CW.region ?_
    refine pu 2 [(71, .bool s611.1)] ?_
    refine OW.split 71 rfl (fun hc649 => ?_) (fun hc649 => ?_)
    ·have hl610 := ite_t hl610 hc649
     refine pu 1 [(72, .pointer (some ⟨b3, 4, none⟩))] ?_
     refine OW.ld rfl rfl rfl rfl (by kernel_rfl) (hst.blk 0 rfl rfl) ?_
     obtain ⟨r650, hr651, hl610⟩ := bs hl610
     refine OW.fn rfl rfl rfl rfl (by kernel_rfl) (ops_within_ok _ p0.Imm 0 1 r650 hr651 (hst.part [] rfl)) ?_
     rintro e w652 ⟨rfl, hst653⟩
     refine ⟨_, rfl, ?_⟩
     have hst := hst.join (idx := []) (rest := [0, 1, 2]) rfl hst653
     refine pu 3 [(4, .bool r650), (76, .pointer (some ⟨b22, 4, none⟩))] ?_
     refine OW.stB hst 2 rfl rfl rfl rfl rfl (by kernel_rfl) rfl rfl [I s611.2.Op, I s611.2.D, I s611.2.A, I s611.2.B, I 0] rfl ?_
     intro w654 hst
     refine OW.nil rfl (QW.block_normal (QW.block_normal (QW.next (CW.region ?_))))
     refine pu 2 [(30, I (w64 ((i612 : Int) + 1)))] (OW.nil rfl ?_)
     refine QW.say 30 rfl (congrArg (Value.int .i64) (w64_cnt hc616 (room_sz hr615))) ?_
     exact QW.meet (fun a ha => ⟨n609, Nat.lt_succ_self _, i612 + 1, (r650, (api_Inst.mk s611.2.Op s611.2.D s611.2.A s611.2.B 0)), cnt_next hi613, ha.ag, hst.keep [0, 1, 2] rfl, hl610⟩)
    have hl610 := ite_f hl610 hc649
    refine pu 6 [(4, .bool false), (76, .pointer (some ⟨b22, 4, none⟩))] ?_
    refine OW.stB hst 2 rfl rfl rfl rfl rfl (by kernel_rfl) rfl rfl [I s611.2.Op, I s611.2.D, I s611.2.A, I s611.2.B, I 0] rfl ?_
    intro w655 hst
    refine OW.nil rfl (QW.block_normal (QW.block_normal (QW.next (CW.region ?_))))
    refine pu 2 [(30, I (w64 ((i612 : Int) + 1)))] (OW.nil rfl ?_)
    refine QW.say 30 rfl (congrArg (Value.int .i64) (w64_cnt hc616 (room_sz hr615))) ?_
    exact QW.meet (fun a ha => ⟨n609, Nat.lt_succ_self _, i612 + 1, (false, (api_Inst.mk s611.2.Op s611.2.D s611.2.A s611.2.B 0)), cnt_next hi613, ha.ag, hst.keep [0, 1, 2] rfl, hl610⟩)
   refine rg ?_
   refine pu 2 [(77, .bool (c619 == 109))] (nx ?_)
   refine br ((c619 == 109)) hl610 (fun hl610 hc656 => ?_) (fun hl610 hc656 => ?_)
   ·refine CW.region ?_
    refine pu 2 [(80, .bool s611.1)] ?_
    refine OW.split 80 rfl (fun hc657 => ?_) (fun hc657 => ?_)
    ·have hl610 := ite_t hl610 hc657
     refine pu 1 [(81, .pointer (some ⟨b3, 4, none⟩))] ?_
     refine OW.ld rfl rfl rfl rfl (by kernel_rfl) (hst.blk 0 rfl rfl) ?_
     obtain ⟨r658, hr659, hl610⟩ := bs hl610
     refine OW.fn rfl rfl rfl rfl (by kernel_rfl) (ops_within_ok _ p0.Imm 0 3 r658 hr659 (hst.part [] rfl)) ?_
     rintro e w660 ⟨rfl, hst661⟩
     refine ⟨_, rfl, ?_⟩
     have hst := hst.join (idx := []) (rest := [0, 1, 2]) rfl hst661
     refine pu 3 [(4, .bool r658), (85, .pointer (some ⟨b22, 4, none⟩))] ?_
     refine OW.stB hst 2 rfl rfl rfl rfl rfl (by kernel_rfl) rfl rfl [I s611.2.Op, I s611.2.D, I s611.2.A, I s611.2.B, I 0] rfl ?_
     intro w662 hst
     refine OW.nil rfl (QW.block_normal (QW.block_normal (QW.next (CW.region ?_))))
     refine pu 2 [(30, I (w64 ((i612 : Int) + 1)))] (OW.nil rfl ?_)
     refine QW.say 30 rfl (congrArg (Value.int .i64) (w64_cnt hc616 (room_sz hr615))) ?_
     exact QW.meet (fun a ha => ⟨n609, Nat.lt_succ_self _, i612 + 1, (r658, (api_Inst.mk s611.2.Op s611.2.D s611.2.A s611.2.B 0)), cnt_next hi613, ha.ag, hst.keep [0, 1, 2] rfl, hl610⟩)
    have hl610 := ite_f hl610 hc657
    refine pu 6 [(4, .bool false), (85, .pointer (some ⟨b22, 4, none⟩))] ?_
    refine OW.stB hst 2 rfl rfl rfl rfl rfl (by kernel_rfl) rfl rfl [I s611.2.Op, I s611.2.D, I s611.2.A, I s611.2.B, I 0] rfl ?_
    intro w663 hst
    refine OW.nil rfl (QW.block_normal (QW.block_normal (QW.next (CW.region ?_))))
    refine pu 2 [(30, I (w64 ((i612 : Int) + 1)))] (OW.nil rfl ?_)
    refine QW.say 30 rfl (congrArg (Value.int .i64) (w64_cnt hc616 (room_sz hr615))) ?_
    exact QW.meet (fun a ha => ⟨n609, Nat.lt_succ_self _, i612 + 1, (false, (api_Inst.mk s611.2.Op s611.2.D s611.2.A s611.2.B 0)), cnt_next hi613, ha.ag, hst.keep [0, 1, 2] rfl, hl610⟩)
   refine rg ?_
   refine pu 2 [(86, .bool (c619 == 104))] (nx ?_)
   refine br ((c619 == 104)) hl610 (fun hl610 hc664 => ?_) (fun hl610 hc664 => ?_)
   ·refine CW.region ?_
    refine pu 2 [(89, .bool s611.1)] ?_
    refine OW.split 89 rfl (fun hc665 => ?_) (fun hc665 => ?_)
    ·have hl610 := ite_t hl610 hc665
     refine pu 1 [(90, .pointer (some ⟨b3, 4, none⟩))] ?_
     refine OW.ld rfl rfl rfl rfl (by kernel_rfl) (hst.blk 0 rfl rfl) ?_
     obtain ⟨r666, hr667, hl610⟩ := bs hl610
     refine OW.fn rfl rfl rfl rfl (by kernel_rfl) (ops_within_ok _ p0.Imm 0 6 r666 hr667 (hst.part [] rfl)) ?_
     rintro e w668 ⟨rfl, hst669⟩
     refine ⟨_, rfl, ?_⟩
     have hst := hst.join (idx := []) (rest := [0, 1, 2]) rfl hst669
     refine pu 3 [(4, .bool r666), (94, .pointer (some ⟨b22, 4, none⟩))] ?_
     refine OW.stB hst 2 rfl rfl rfl rfl rfl (by kernel_rfl) rfl rfl [I s611.2.Op, I s611.2.D, I s611.2.A, I s611.2.B, I 0] rfl ?_
     intro w670 hst
     refine OW.nil rfl (QW.block_normal (QW.block_normal (QW.next (CW.region ?_))))
     refine pu 2 [(30, I (w64 ((i612 : Int) + 1)))] (OW.nil rfl ?_)
     refine QW.say 30 rfl (congrArg (Value.int .i64) (w64_cnt hc616 (room_sz hr615))) ?_
     exact QW.meet (fun a ha => ⟨n609, Nat.lt_succ_self _, i612 + 1, (r666, (api_Inst.mk s611.2.Op s611.2.D s611.2.A s611.2.B 0)), cnt_next hi613, ha.ag, hst.keep [0, 1, 2] rfl, hl610⟩)
    have hl610 := ite_f hl610 hc665
    refine pu 6 [(4, .bool false), (94, .pointer (some ⟨b22, 4, none⟩))] ?_
    refine OW.stB hst 2 rfl rfl rfl rfl rfl (by kernel_rfl) rfl rfl [I s611.2.Op, I s611.2.D, I s611.2.A, I s611.2.B, I 0] rfl ?_
    intro w671 hst
    refine OW.nil rfl (QW.block_normal (QW.block_normal (QW.next (CW.region ?_))))
    refine pu 2 [(30, I (w64 ((i612 : Int) + 1)))] (OW.nil rfl ?_)
    refine QW.say 30 rfl (congrArg (Value.int .i64) (w64_cnt hc616 (room_sz hr615))) ?_
    exact QW.meet (fun a ha => ⟨n609, Nat.lt_succ_self _, i612 + 1, (false, (api_Inst.mk s611.2.Op s611.2.D s611.2.A s611.2.B 0)), cnt_next hi613, ha.ag, hst.keep [0, 1, 2] rfl, hl610⟩)
   refine rg ?_
   refine pu 2 [(95, .bool (c619 == 110))] (nx ?_)
   refine br ((c619 == 110)) hl610 (fun hl610 hc672 => ?_) (fun hl610 hc672 => ?_)
   ·refine CW.region ?_
    refine pu 2 [(98, .bool s611.1)] ?_
    refine OW.split 98 rfl (fun hc673 => ?_) (fun hc673 => ?_)
    ·have hl610 := ite_t hl610 hc673
     refine pu 1 [(99, .pointer (some ⟨b3, 4, none⟩))] ?_
     refine OW.ld rfl rfl rfl rfl (by kernel_rfl) (hst.blk 0 rfl rfl) ?_
     obtain ⟨r674, hr675, hl610⟩ := bs hl610
     refine OW.fn rfl rfl rfl rfl (by kernel_rfl) (ops_within_ok _ p0.Imm 1 255 r674 hr675 (hst.part [] rfl)) ?_
     rintro e w676 ⟨rfl, hst677⟩
     refine ⟨_, rfl, ?_⟩
     have hst := hst.join (idx := []) (rest := [0, 1, 2]) rfl hst677
     refine pu 3 [(4, .bool r674), (103, .pointer (some ⟨b22, 4, none⟩))] ?_
     refine OW.stB hst 2 rfl rfl rfl rfl rfl (by kernel_rfl) rfl rfl [I s611.2.Op, I s611.2.D, I s611.2.A, I s611.2.B, I 0] rfl ?_
     intro w678 hst
     refine OW.nil rfl (QW.block_normal (QW.block_normal (QW.next (CW.region ?_))))
     refine pu 2 [(30, I (w64 ((i612 : Int) + 1)))] (OW.nil rfl ?_)
     refine QW.say 30 rfl (congrArg (Value.int .i64) (w64_cnt hc616 (room_sz hr615))) ?_
     exact QW.meet (fun a ha => ⟨n609, Nat.lt_succ_self _, i612 + 1, (r674, (api_Inst.mk s611.2.Op s611.2.D s611.2.A s611.2.B 0)), cnt_next hi613, ha.ag, hst.keep [0, 1, 2] rfl, hl610⟩)
    have hl610 := ite_f hl610 hc673
    refine pu 6 [(4, .bool false), (103, .pointer (some ⟨b22, 4, none⟩))] ?_
    refine OW.stB hst 2 rfl rfl rfl rfl rfl (by kernel_rfl) rfl rfl [I s611.2.Op, I s611.2.D, I s611.2.A, I s611.2.B, I 0] rfl ?_
    intro w679 hst
    refine OW.nil rfl (QW.block_normal (QW.block_normal (QW.next (CW.region ?_))))
    refine pu 2 [(30, I (w64 ((i612 : Int) + 1)))] (OW.nil rfl ?_)
    refine QW.say 30 rfl (congrArg (Value.int .i64) (w64_cnt hc616 (room_sz hr615))) ?_
    exact QW.meet (fun a ha => ⟨n609, Nat.lt_succ_self _, i612 + 1, (false, (api_Inst.mk s611.2.Op s611.2.D s611.2.A s611.2.B 0)), cnt_next hi613, ha.ag, hst.keep [0, 1, 2] rfl, hl610⟩)
   refine rg ?_
   refine pu 2 [(104, .bool (c619 == 106))] (nx ?_)
   refine br ((c619 == 106)) hl610 (fun hl610 hc680 => ?_) (fun hl610 hc680 => ?_)
   ·refine CW.region ?_
    refine pu 2 [(107, .bool s611.1)] ?_
    refine OW.split 107 rfl (fun hc681 => ?_) (fun hc681 => ?_)
    ·have hl610 := ite_t hl610 hc681
     refine pu 1 [(108, .pointer (some ⟨b3, 1, none⟩))] ?_
     refine OW.ld rfl rfl rfl rfl (by kernel_rfl) (hst.blk 0 rfl rfl) ?_
     obtain ⟨r682, hr683, hl610⟩ := bs hl610
     refine OW.fn rfl rfl rfl rfl (by kernel_rfl) (ops_within_ok _ p0.D 0 63 r682 hr683 (hst.part [] rfl)) ?_
     rintro e w684 ⟨rfl, hst685⟩
     refine ⟨_, rfl, ?_⟩
     have hst := hst.join (idx := []) (rest := [0, 1, 2]) rfl hst685
     refine pu 3 [(4, .bool r682), (112, .pointer (some ⟨b22, 1, none⟩))] ?_
     refine OW.stB hst 2 rfl rfl rfl rfl rfl (by kernel_rfl) rfl rfl [I s611.2.Op, I 0, I s611.2.A, I s611.2.B, I s611.2.Imm] rfl ?_
     intro w686 hst
     refine OW.nil rfl (QW.block_normal (QW.block_normal (QW.next (CW.region ?_))))
     refine pu 2 [(30, I (w64 ((i612 : Int) + 1)))] (OW.nil rfl ?_)
     refine QW.say 30 rfl (congrArg (Value.int .i64) (w64_cnt hc616 (room_sz hr615))) ?_
     exact QW.meet (fun a ha => ⟨n609, Nat.lt_succ_self _, i612 + 1, (r682, (api_Inst.mk s611.2.Op 0 s611.2.A s611.2.B s611.2.Imm)), cnt_next hi613, ha.ag, hst.keep [0, 1, 2] rfl, hl610⟩)
    have hl610 := ite_f hl610 hc681
    refine pu 6 [(4, .bool false), (112, .pointer (some ⟨b22, 1, none⟩))] ?_
    refine OW.stB hst 2 rfl rfl rfl rfl rfl (by kernel_rfl) rfl rfl [I s611.2.Op, I 0, I s611.2.A, I s611.2.B, I s611.2.Imm] rfl ?_
    intro w687 hst
    refine OW.nil rfl (QW.block_normal (QW.block_normal (QW.next (CW.region ?_))))
    refine pu 2 [(30, I (w64 ((i612 : Int) + 1)))] (OW.nil rfl ?_)
    refine QW.say 30 rfl (congrArg (Value.int .i64) (w64_cnt hc616 (room_sz hr615))) ?_
    exact QW.meet (fun a ha => ⟨n609, Nat.lt_succ_self _, i612 + 1, (false, (api_Inst.mk s611.2.Op 0 s611.2.A s611.2.B s611.2.Imm)), cnt_next hi613, ha.ag, hst.keep [0, 1, 2] rfl, hl610⟩)
   refine rg ?_
   refine pu 2 [(113, .bool (c619 == 98))] (nx ?_)
   refine br ((c619 == 98)) hl610 (fun hl610 hc688 => ?_) (fun hl610 hc688 => ?_)
   ·refine CW.region ?_
    refine pu 2 [(116, .bool s611.1)] ?_
    refine OW.split 116 rfl (fun hc689 => ?_) (fun hc689 => ?_)
    ·have hl610 := ite_t hl610 hc689
     refine pu 1 [(117, .pointer (some ⟨b3, 1, none⟩))] ?_
     refine OW.ld rfl rfl rfl rfl (by kernel_rfl) (hst.blk 0 rfl rfl) ?_
     obtain ⟨r690, hr691, hl610⟩ := bs hl610
     refine OW.fn rfl rfl rfl rfl (by kernel_rfl) (ops_within_ok _ p0.D 1 63 r690 hr691 (hst.part [] rfl)) ?_
     rintro e w692 ⟨rfl, hst693⟩
     refine ⟨_, rfl, ?_⟩
     have hst := hst.join (idx := []) (rest := [0, 1, 2]) rfl hst693
     refine pu 3 [(4, .bool r690), (121, .pointer (some ⟨b22, 1, none⟩))] ?_
     refine OW.stB hst 2 rfl rfl rfl rfl rfl (by kernel_rfl) rfl rfl [I s611.2.Op, I 0, I s611.2.A, I s611.2.B, I s611.2.Imm] rfl ?_
     intro w694 hst
     refine OW.nil rfl (QW.block_normal (QW.block_normal (QW.next (CW.region ?_))))
     refine pu 2 [(30, I (w64 ((i612 : Int) + 1)))] (OW.nil rfl ?_)
     refine QW.say 30 rfl (congrArg (Value.int .i64) (w64_cnt hc616 (room_sz hr615))) ?_
     exact QW.meet (fun a ha => ⟨n609, Nat.lt_succ_self _, i612 + 1, (r690, (api_Inst.mk s611.2.Op 0 s611.2.A s611.2.B s611.2.Imm)), cnt_next hi613, ha.ag, hst.keep [0, 1, 2] rfl, hl610⟩)
    have hl610 := ite_f hl610 hc689
    refine pu 6 [(4, .bool false), (121, .pointer (some ⟨b22, 1, none⟩))] ?_
    refine OW.stB hst 2 rfl rfl rfl rfl rfl (by kernel_rfl) rfl rfl [I s611.2.Op, I 0, I s611.2.A, I s611.2.B, I s611.2.Imm] rfl ?_
    intro w695 hst
    refine OW.nil rfl (QW.block_normal (QW.block_normal (QW.next (CW.region ?_))))
    refine pu 2 [(30, I (w64 ((i612 : Int) + 1)))] (OW.nil rfl ?_)
    refine QW.say 30 rfl (congrArg (Value.int .i64) (w64_cnt hc616 (room_sz hr615))) ?_
    exact QW.meet (fun a ha => ⟨n609, Nat.lt_succ_self _, i612 + 1, (false, (api_Inst.mk s611.2.Op 0 s611.2.A s611.2.B s611.2.Imm)), cnt_next hi613, ha.ag, hst.keep [0, 1, 2] rfl, hl610⟩)
   refine CW.skip (QW.block_normal (QW.block_normal (QW.next (CW.region ?_))))
   refine pu 2 [(30, I (w64 ((i612 : Int) + 1)))] (OW.nil rfl ?_)
   refine QW.say 30 rfl (congrArg (Value.int .i64) (w64_cnt hc616 (room_sz hr615))) ?_
   exact QW.meet (fun a ha => ⟨n609, Nat.lt_succ_self _, i612 + 1, (s611.1, s611.2), cnt_next hi613, ha.ag, hst.keep [0, 1, 2] rfl, hl610⟩)
  rcases n609 with _ | n609
  ·refine CW.cond_f rfl hc616 ?_
   refine CW.exit (QW.then_exit (QW.then_exit ?_))
   refine QW.block_here ?_
   obtain rfl := inj hl610
   exact QW.meet (fun a ha => ⟨ha.ag, hst.keep [2] rfl⟩)
  exact (cnt1 hi613 hc616).elim
 rintro a w1 ⟨ha, hst⟩
 refine CW.go ?_ ha
 refine CW.seq ?_
 obtain ⟨o697, ho698, hF⟩ := bs hF
 refine CW.cutK (fun a w1 => Rep 129 [(2, .bool o697)] a ∧ St w (fp []) w1 []) ?_ ?_
 ·refine CW.region ?_
  refine pu 2 [(124, .bool o366.1)] ?_
  refine OW.split 124 rfl (fun hc699 => ?_) (fun hc699 => ?_)
  ·have ho698 := ite_t ho698 hc699
   refine OW.ldN (cs := [I o366.2.Op, I o366.2.D, I o366.2.A, I o366.2.B, I o366.2.Imm]) rfl rfl rfl rfl (by kernel_rfl) (by kernel_rfl) (hst.blkN 0 rfl 0 5) ?_
   refine pu 1 [(126, .agg [I 0, I 0, I 0, I 0, I 0].toArray)] ?_
   refine OW.op (v := .bool ((o366.2.Op == 0) && ((o366.2.D == 0) && ((o366.2.A == 0) && ((o366.2.B == 0) && ((o366.2.Imm == 0) && true)))))) rfl rfl rfl rfl (fun a ha => seq_run rfl rfl rfl (by kernel_rfl) (by kernel_rfl) a _ ha) ?_
   refine pu 2 [(2, .bool ((o366.2.Op == 0) && ((o366.2.D == 0) && ((o366.2.A == 0) && ((o366.2.B == 0) && ((o366.2.Imm == 0) && true))))))] (OW.nil rfl ?_)
   obtain rfl := inj ho698
   exact QW.meet (fun a ha => ⟨ha.ag, hst.keep [] rfl⟩)
  have ho698 := ite_f ho698 hc699
  refine pu 5 [(2, .bool false)] (OW.nil rfl ?_)
  obtain rfl := inj ho698
  exact QW.meet (fun a ha => ⟨ha.ag, hst.keep [] rfl⟩)
 rintro a w1 ⟨ha, hst⟩
 refine CW.go ?_ ha
 refine CW.ret ?_
 obtain rfl := inj hF
 refine QW.ret1 rfl rfl ?_
 exact ⟨rfl, hst.keep [] rfl⟩
theorem ops_form_uses_ok (w : World) (p0 : ops_form) (p1 : Int) (r : Bool) (hF : ops_form_uses p0 p1 = some r)
    (hst : St w (fp []) w []) :
    Calls Tryd.prog 76 [.agg [.string p0.name, .string p0.fields].toArray, .int .u8 p1].toArray w (fun e w' => e = .returned (.bool r) ∧ St w (fp []) w' []) := by
 refine CW.start (N := 19) Tryd.func76 rfl rfl rfl (rg ?_)
 refine OW.box hst rfl rfl rfl rfl [.string p0.name, .string p0.fields] rfl ?_
 intro b3 w4 hst
 refine pu 1 [] (nx (CW.seq (rg ?_)))
 refine pu 1 [(6, .pointer (some ⟨b3, 1, none⟩))] ?_
 refine OW.ld rfl rfl rfl rfl (by kernel_rfl) (hst.blk 0 rfl rfl) ?_
 refine pu 2 [(8, I (p0.fields.size : Int)), (9, I 0)] (nx ?_)
 obtain ⟨o31, ho32, hF⟩ := bs hF
 refine CW.cutK (fun a w1 => ∃ (t33 : Unit), o31 = .inl t33 ∧ Rep 19 [] a ∧ St w (fp []) w1 []) ?_ ?_
 ·refine CW.block ?_
  obtain ⟨u52, hr53, ho32⟩ := bs ho32
  refine CW.loop (fun n a w1 => ∃ (i50 : Nat) (s49 : Unit), i50 + n = p0.fields.size ∧ Rep 19 [(1, .int .u8 p1), (2, Pt b3), (8, I (p0.fields.size : Int)), (9, I (i50 : Int))] a ∧ St w (fp []) w1 [blkI b3 176 [.string p0.name, .string p0.fields]] ∧ forN (ops_form_uses_l1 p0 p1) (fun (s49 : Unit) => (.inl ())) n i50 s49 = some o31) p0.fields.size (fun a ha => ⟨0, (), Nat.zero_add _, ha.ag, hst.keep [0] rfl, ho32⟩) ?_
  rintro n47 a w1 ⟨i50, s49, hi51, ha, hst, hl48⟩
  refine CW.go ?_ ha
  refine rg ?_
  refine pu 1 [(10, .bool (decide ((i50 : Int) < (p0.fields.size : Int))))] (nx (CW.seq ?_))
  rcases bft (decide ((i50 : Int) < (p0.fields.size : Int))) with hc54 | hc54
  ·rcases n47 with _ | n47
   ·exact (cnt0 hi51 hc54).elim
   refine CW.cond_t rfl hc54 (CW.skip (QW.next (CW.seq (CW.block (rg ?_)))))
   refine pu 2 [(5, I (i50 : Int))] (nx (rg ?_))
   refine pu 1 [(12, .pointer (some ⟨b3, 1, none⟩))] ?_
   refine OW.ld rfl rfl rfl rfl (by kernel_rfl) (hst.blk 0 rfl rfl) ?_
   refine pu 1 [(14, I (i50 : Int))] ?_
   obtain ⟨c57, hx58, hl48⟩ := bs hl48
   refine OW.op (v := .int .u8 c57) rfl rfl rfl rfl (fun a ha => sidx_run rfl rfl rfl (by kernel_rfl) hx58 a _ ha) ?_
   refine pu 2 [(17, .bool (c57 == p1))] (nx ?_)
   refine br ((c57 == p1)) hl48 (fun hl48 hc59 => ?_) (fun hl48 hc59 => ?_)
   ·refine rg ?_
    refine pu 1 [(4, .bool true)] (nx (CW.ret (QW.block_ret (QW.then_ret (QW.then_ret (QW.block_ret (QW.then_ret ?_)))))))
    obtain rfl := inj hl48
    obtain rfl := inj hF
    refine QW.ret1 rfl rfl ?_
    exact ⟨rfl, hst.keep [] rfl⟩
   refine CW.skip (QW.block_normal (QW.next (CW.region ?_)))
   refine pu 2 [(9, I (w64 ((i50 : Int) + 1)))] (OW.nil rfl ?_)
   refine QW.say 9 rfl (congrArg (Value.int .i64) (w64_cnt hc54 (room_sz hr53))) ?_
   exact QW.meet (fun a ha => ⟨n47, Nat.lt_succ_self _, i50 + 1, (), cnt_next hi51, ha.ag, hst.keep [0] rfl, hl48⟩)
  rcases n47 with _ | n47
  ·refine CW.cond_f rfl hc54 ?_
   refine CW.exit (QW.then_exit (QW.then_exit ?_))
   refine QW.block_here ?_
   obtain rfl := inj hl48
   exact QW.meet (fun a ha => ⟨(), rfl, ha.ag, hst.keep [] rfl⟩)
  exact (cnt1 hi51 hc54).elim
 rintro a w1 ⟨t33, rfl, ha, hst⟩
 refine CW.go ?_ ha
 refine rg ?_
 refine pu 1 [(4, .bool false)] (nx (CW.ret ?_))
 obtain rfl := inj hF
 refine QW.ret1 rfl rfl ?_
 exact ⟨rfl, hst.keep [] rfl⟩
theorem ops_Goes_ok (w : World) (p0 : api_Inst) (r : Int × Bool × Bool) (hF : ops_Goes p0 = some r)
    (hst : St w (fp []) w []) (hT0 : Rd w (fp []) (.slice (some ⟨0, 0, none⟩) 23 23) enc_ops_form 2 tab_g0) :
    Calls Tryd.prog 61 [.agg [I p0.Op, I p0.D, I p0.A, I p0.B, I p0.Imm].toArray].toArray w (fun e w' => e = .returned (.tuple #[I r.1, .bool r.2.1, .bool r.2.2]) ∧ St w (fp []) w' []) := by
 refine CW.start (N := 34) Tryd.func61 rfl rfl rfl (rg ?_)
 refine OW.box hst rfl rfl rfl rfl [I p0.Op, I p0.D, I p0.A, I p0.B, I p0.Imm] rfl ?_
 intro b3 w4 hst
 refine pu 3 [] (nx (CW.seq (rg ?_)))
 refine OW.ldN (cs := [I p0.Op, I p0.D, I p0.A, I p0.B, I p0.Imm]) rfl rfl rfl rfl (by kernel_rfl) (by kernel_rfl) (hst.blkN 0 rfl 0 5) ?_
 obtain ⟨r9, hr10, hF⟩ := bs hF
 refine OW.fn rfl rfl rfl rfl (by kernel_rfl) (ops_right_ok _ p0 r9 hr10 (hst.part [] rfl) (hT0.give hst [])) ?_
 rintro e w11 ⟨rfl, hst12⟩
 refine ⟨_, rfl, ?_⟩
 have hst := hst.join (idx := []) (rest := [0]) rfl hst12
 refine pu 1 [(9, .bool (!r9))] (nx ?_)
 refine br ((!r9)) hF (fun hF hc13 => ?_) (fun hF hc13 => ?_)
 ·refine rg ?_
  refine pu 3 [(2, I 0), (3, .bool false), (4, .bool false)] (nx (CW.ret (QW.then_ret ?_)))
  obtain rfl := inj hF
  refine QW.ret3 rfl rfl rfl rfl ?_
  exact ⟨rfl, hst.keep [] rfl⟩
 refine CW.skip (QW.next (rg ?_))
 refine pu 1 [(11, Pt b3)] ?_
 refine OW.ld rfl rfl rfl rfl (by kernel_rfl) (hst.blk 0 rfl rfl) ?_
 obtain ⟨r21, hr22, hF⟩ := bs hF
 refine OW.fn rfl rfl rfl rfl (by kernel_rfl) (ops_of_ok _ p0.Op r21 hr22 (hst.part [] rfl) (hT0.give hst [])) ?_
 rintro e w23 ⟨rfl, hst24⟩
 refine ⟨_, rfl, ?_⟩
 have hst := hst.join (idx := []) (rest := [0]) rfl hst24
 refine pu 3 [(14, .agg [.string r21.1.name, .string r21.1.fields].toArray), (15, .bool r21.2)] ?_
 refine OW.alloc hst rfl rfl rfl [.string ByteArray.empty, .string ByteArray.empty] (by kernel_rfl) ?_
 intro b25 w26 hst
 refine OW.stB hst 1 rfl rfl rfl rfl rfl (by kernel_rfl) rfl rfl [.string r21.1.name, .string r21.1.fields] rfl ?_
 intro w27 hst
 refine pu 1 [] (nx (CW.seq (CW.block (rg ?_))))
 refine OW.ldN (cs := [.string r21.1.name, .string r21.1.fields]) rfl rfl rfl rfl (by kernel_rfl) (by kernel_rfl) (hst.blkN 1 rfl 0 2) ?_
 obtain ⟨r32, hr33, hF⟩ := bs hF
 refine OW.fn rfl rfl rfl rfl (by kernel_rfl) (ops_form_uses_ok _ r21.1 106 r32 hr33 (hst.part [] rfl)) ?_
 rintro e w34 ⟨rfl, hst35⟩
 refine ⟨_, rfl, ?_⟩
 have hst := hst.join (idx := []) (rest := [0, 1]) rfl hst35
 refine pu 1 [(16, .bool r32)] (nx ?_)
 refine br (r32) hF (fun hF hc36 => ?_) (fun hF hc36 => ?_)
 ·refine CW.seq ?_
  refine CW.still (by kernel_rfl) (by kernel_rfl) ?_
  intro w39 hch40
  have hst := hst.same hch40
  refine OS.pure 1 [(19, .pointer (some ⟨b3, 1, none⟩))] rfl (by kernel_rfl) ?_
  refine OS.ld rfl rfl rfl rfl rfl (by kernel_rfl) (hst.blk 0 rfl rfl) ?_
  refine OS.pure 2 [(21, I (w64 (p0.D + 1))), (22, Pt b3)] rfl (by kernel_rfl) ?_
  refine OS.ld rfl rfl rfl rfl rfl (by kernel_rfl) (hst.blk 0 rfl rfl) ?_
  refine OS.pure 4 [(2, I (w64 (p0.D + 1))), (3, .bool true), (4, .bool (p0.Op != 15))] rfl (by kernel_rfl) ?_
  refine OS.fin rfl (QW.next (CW.ret (QW.block_ret (QW.then_ret ?_))))
  obtain rfl := inj hF
  refine QW.ret3 rfl rfl rfl rfl ?_
  exact ⟨rfl, hst.keep [] rfl⟩
 refine rg ?_
 refine OW.ldN (cs := [.string r21.1.name, .string r21.1.fields]) rfl rfl rfl rfl (by kernel_rfl) (by kernel_rfl) (hst.blkN 1 rfl 0 2) ?_
 obtain ⟨r45, hr46, hF⟩ := bs hF
 refine OW.fn rfl rfl rfl rfl (by kernel_rfl) (ops_form_uses_ok _ r21.1 98 r45 hr46 (hst.part [] rfl)) ?_
 rintro e w47 ⟨rfl, hst48⟩
 refine ⟨_, rfl, ?_⟩
 have hst := hst.join (idx := []) (rest := [0, 1]) rfl hst48
 refine pu 1 [(25, .bool r45)] (nx ?_)
 refine br (r45) hF (fun hF hc49 => ?_) (fun hF hc49 => ?_)
 ·refine rg ?_
  refine pu 1 [(28, .pointer (some ⟨b3, 1, none⟩))] ?_
  refine OW.ld rfl rfl rfl rfl (by kernel_rfl) (hst.blk 0 rfl rfl) ?_
  refine pu 4 [(2, I (w64 (0 - p0.D))), (3, .bool true), (4, .bool true)] (nx (CW.ret (QW.block_ret (QW.then_ret ?_))))
  obtain rfl := inj hF
  refine QW.ret3 rfl rfl rfl rfl ?_
  exact ⟨rfl, hst.keep [] rfl⟩
 refine CW.skip (QW.block_normal (QW.next (CW.seq ?_)))
 refine CW.still (by kernel_rfl) (by kernel_rfl) ?_
 intro w52 hch53
 have hst := hst.same hch53
 refine OS.pure 1 [(31, Pt b3)] rfl (by kernel_rfl) ?_
 refine OS.ld rfl rfl rfl rfl rfl (by kernel_rfl) (hst.blk 0 rfl rfl) ?_
 refine OS.pure 4 [(2, I 0), (3, .bool false), (4, .bool (p0.Op != 22))] rfl (by kernel_rfl) ?_
 refine OS.fin rfl (QW.next (CW.ret ?_))
 obtain rfl := inj hF
 refine QW.ret3 rfl rfl rfl rfl ?_
 exact ⟨rfl, hst.keep [] rfl⟩
theorem ops_Right_ok (w : World) (v0 : Value) (p0 : List api_Inst) (r : Bool) (hF : ops_Right p0 = some r)
    (hst : St w (fp []) w []) (h0 : Rd w (fp []) v0 enc_api_Inst 5 p0) (hT0 : Rd w (fp []) (.slice (some ⟨0, 0, none⟩) 23 23) enc_ops_form 2 tab_g0) :
    Calls Tryd.prog 72 [v0].toArray w (fun e w' => e = .returned (.bool r) ∧ St w (fp []) w' []) := by
 refine CW.start (N := 15) Tryd.func72 rfl rfl rfl ?_
 obtain ⟨l1, a2, c3, rfl⟩ := h0.len
 refine rg ?_
 refine pu 1 [] (nx (CW.seq (rg ?_)))
 refine pu 3 [(5, .slice a2 (p0).length c3), (6, I ((p0).length : Int)), (7, I 0)] (nx ?_)
 obtain ⟨o95, ho96, hF⟩ := bs hF
 refine CW.cutK (fun a w1 => ∃ (t97 : Unit), o95 = .inl t97 ∧ Rep 15 [] a ∧ St w (fp []) w1 []) ?_ ?_
 ·refine CW.block ?_
  refine CW.loop (fun n a w1 => ∃ (i158 : Nat) (s157 : Unit), i158 + n = (p0).length ∧ Rep 15 [(5, .slice a2 (p0).length c3), (6, I ((p0).length : Int)), (7, I (i158 : Int))] a ∧ St w (fp []) w1 [] ∧ forN (ops_Right_l1 p0) (fun (s157 : Unit) => (.inl ())) n i158 s157 = some o95) (p0).length (fun a ha => ⟨0, (), Nat.zero_add _, ha.ag, hst.keep [] rfl, ho96⟩) ?_
  rintro n155 a w1 ⟨i158, s157, hi159, ha, hst, hl156⟩
  refine CW.go ?_ ha
  refine rg ?_
  refine pu 1 [(8, .bool (decide ((i158 : Int) < ((p0).length : Int))))] (nx (CW.seq ?_))
  rcases bft (decide ((i158 : Int) < ((p0).length : Int))) with hc160 | hc160
  ·rcases n155 with _ | n155
   ·exact (cnt0 hi159 hc160).elim
   refine CW.cond_t rfl hc160 (CW.skip (QW.next (CW.seq (CW.block (rg ?_)))))
   obtain ⟨x170, hx171, hl156⟩ := bs hl156
   obtain ⟨g173, o174, c175, hv172⟩ := h0.formv (fun _ => ⟨_, rfl⟩) hx171
   refine OW.idx 76 5 rfl rfl rfl rfl hv172 rfl (idx_some hx171).1 (idx_some hx171).2.1 (by kernel_rfl) (by kernel_rfl) ?_
   refine OW.ldN (cs := enc_api_Inst x170) rfl rfl rfl rfl (by kernel_rfl) (by kernel_rfl) (h0.cellv hst hx171 hv172) ?_
   refine OW.alloc hst rfl rfl rfl [I 0, I 0, I 0, I 0, I 0] (by kernel_rfl) ?_
   intro b176 w177 hst
   refine OW.stB hst 0 rfl rfl rfl rfl rfl (by kernel_rfl) rfl rfl [I x170.Op, I x170.D, I x170.A, I x170.B, I x170.Imm] rfl ?_
   intro w178 hst
   refine nx (rg ?_)
   refine OW.ldN (cs := [I x170.Op, I x170.D, I x170.A, I x170.B, I x170.Imm]) rfl rfl rfl rfl (by kernel_rfl) (by kernel_rfl) (hst.blkN 0 rfl 0 5) ?_
   obtain ⟨r183, hr184, hl156⟩ := bs hl156
   refine OW.fn rfl rfl rfl rfl (by kernel_rfl) (ops_right_ok _ x170 r183 hr184 (hst.part [] rfl) (hT0.give hst [])) ?_
   rintro e w185 ⟨rfl, hst186⟩
   refine ⟨_, rfl, ?_⟩
   have hst := hst.join (idx := []) (rest := [0]) rfl hst186
   refine pu 1 [(13, .bool (!r183))] (nx ?_)
   refine br ((!r183)) hl156 (fun hl156 hc187 => ?_) (fun hl156 hc187 => ?_)
   ·refine rg ?_
    refine pu 1 [(2, .bool false)] (nx (CW.ret (QW.block_ret (QW.then_ret (QW.then_ret (QW.block_ret (QW.then_ret ?_)))))))
    obtain rfl := inj hl156
    obtain rfl := inj hF
    refine QW.ret1 rfl rfl ?_
    exact ⟨rfl, hst.keep [] rfl⟩
   refine CW.skip (QW.block_normal (QW.next (CW.region ?_)))
   refine pu 2 [(7, I (w64 ((i158 : Int) + 1)))] (OW.nil rfl ?_)
   refine QW.say 7 rfl (congrArg (Value.int .i64) (w64_cnt hc160 l1)) ?_
   exact QW.meet (fun a ha => ⟨n155, Nat.lt_succ_self _, i158 + 1, (), cnt_next hi159, ha.ag, hst.keep [] rfl, hl156⟩)
  rcases n155 with _ | n155
  ·refine CW.cond_f rfl hc160 ?_
   refine CW.exit (QW.then_exit (QW.then_exit ?_))
   refine QW.block_here ?_
   obtain rfl := inj hl156
   exact QW.meet (fun a ha => ⟨(), rfl, ha.ag, hst.keep [] rfl⟩)
  exact (cnt1 hi159 hc160).elim
 rintro a w1 ⟨t97, rfl, ha, hst⟩
 refine CW.go ?_ ha
 refine rg ?_
 refine pu 1 [(2, .bool true)] (nx (CW.ret ?_))
 obtain rfl := inj hF
 refine QW.ret1 rfl rfl ?_
 exact ⟨rfl, hst.keep [] rfl⟩
theorem flow_places_ok (w : World) (v0 : Value) (p0 : List api_Inst) (r : Int × Int) (hF : flow_places p0 = some r)
    (hst : St w (fp []) w []) (h0 : Rd w (fp []) v0 enc_api_Inst 5 p0) (hT0 : Rd w (fp []) (.slice (some ⟨0, 0, none⟩) 23 23) enc_ops_form 2 tab_g0) :
    Calls Tryd.prog 44 [v0].toArray w (fun e w' => e = .returned (.tuple #[I r.1, I r.2]) ∧ St w (fp []) w' []) := by
 refine CW.start (N := 56) Tryd.func44 rfl rfl rfl ?_
 obtain ⟨l1, a2, c3, rfl⟩ := h0.len
 refine rg ?_
 refine pu 2 [] (nx (CW.seq (rg ?_)))
 refine pu 3 [(9, .slice a2 (p0).length c3), (10, I ((p0).length : Int)), (11, I 0)] (nx ?_)
 obtain ⟨o145, ho146, hF⟩ := bs hF
 refine CW.cutK (fun a w1 => ∃ (t147 : Unit), o145 = .inl t147 ∧ Rep 56 [] a ∧ St w (fp []) w1 []) ?_ ?_
 ·refine CW.block ?_
  refine CW.loop (fun n a w1 => ∃ (i242 : Nat) (s241 : Unit), i242 + n = (p0).length ∧ Rep 56 [(0, .slice a2 (p0).length c3), (9, .slice a2 (p0).length c3), (10, I ((p0).length : Int)), (11, I (i242 : Int))] a ∧ St w (fp []) w1 [] ∧ forN (flow_places_l1 p0) (fun (s241 : Unit) => (.inl ())) n i242 s241 = some o145) (p0).length (fun a ha => ⟨0, (), Nat.zero_add _, ha.ag, hst.keep [] rfl, ho146⟩) ?_
  rintro n239 a w1 ⟨i242, s241, hi243, ha, hst, hl240⟩
  refine CW.go ?_ ha
  refine rg ?_
  refine pu 1 [(12, .bool (decide ((i242 : Int) < ((p0).length : Int))))] (nx (CW.seq ?_))
  rcases bft (decide ((i242 : Int) < ((p0).length : Int))) with hc244 | hc244
  ·rcases n239 with _ | n239
   ·exact (cnt0 hi243 hc244).elim
   refine CW.cond_t rfl hc244 (CW.skip (QW.next (CW.seq (CW.block (rg ?_)))))
   refine pu 1 [(13, I (i242 : Int))] ?_
   obtain ⟨x254, hx255, hl240⟩ := bs hl240
   obtain ⟨g257, o258, c259, hv256⟩ := h0.formv (fun _ => ⟨_, rfl⟩) hx255
   refine OW.idx 76 5 rfl rfl rfl rfl hv256 rfl (idx_some hx255).1 (idx_some hx255).2.1 (by kernel_rfl) (by kernel_rfl) ?_
   refine OW.ldN (cs := enc_api_Inst x254) rfl rfl rfl rfl (by kernel_rfl) (by kernel_rfl) (h0.cellv hst hx255 hv256) ?_
   refine OW.alloc hst rfl rfl rfl [I 0, I 0, I 0, I 0, I 0] (by kernel_rfl) ?_
   intro b260 w261 hst
   refine pu 1 [(4, I (i242 : Int))] ?_
   refine OW.stB hst 0 rfl rfl rfl rfl rfl (by kernel_rfl) rfl rfl [I x254.Op, I x254.D, I x254.A, I x254.B, I x254.Imm] rfl ?_
   intro w262 hst
   refine nx (rg ?_)
   refine OW.ldN (cs := [I x254.Op, I x254.D, I x254.A, I x254.B, I x254.Imm]) rfl rfl rfl rfl (by kernel_rfl) (by kernel_rfl) (hst.blkN 0 rfl 0 5) ?_
   obtain ⟨r267, hr268, hl240⟩ := bs hl240
   refine OW.fn rfl rfl rfl rfl (by kernel_rfl) (ops_Goes_ok _ x254 r267 hr268 (hst.part [] rfl) (hT0.give hst [])) ?_
   rintro e w269 ⟨rfl, hst270⟩
   refine ⟨_, rfl, ?_⟩
   have hst := hst.join (idx := []) (rest := [0]) rfl hst270
   refine pu 7 [(6, I r267.1), (7, .bool r267.2.1), (8, .bool r267.2.2)] (nx (CW.block (rg ?_)))
   refine OW.ldN (cs := [I x254.Op, I x254.D, I x254.A, I x254.B, I x254.Imm]) rfl rfl rfl rfl (by kernel_rfl) (by kernel_rfl) (hst.blkN 0 rfl 0 5) ?_
   refine OW.row (α := api_Inst) (e := 76) (enc := enc_api_Inst) (sz := 5) hst rfl rfl rfl [x254] rfl (fun _ => rfl) rfl rfl (fun _ => by kernel_rfl) ?_
   intro g277 w278 hst
   obtain ⟨r279, hr280, hl240⟩ := bs hl240
   refine OW.fn rfl rfl rfl rfl (by kernel_rfl) (ops_Right_ok _ (.slice (some ⟨g277, 0, none⟩) 1 1) ([x254]) r279 hr280 (hst.part [] rfl) (hst.rd 1 rfl (fun _ => rfl) [] rfl (hst.len 1 rfl).1) (hT0.give hst [])) ?_
   rintro e w281 ⟨rfl, hst282⟩
   refine ⟨_, rfl, ?_⟩
   have hst := hst.join (idx := []) (rest := [0, 1]) rfl hst282
   refine pu 2 [(22, .bool (!r279))] (nx ?_)
   refine br ((!r279)) hl240 (fun hl240 hc283 => ?_) (fun hl240 hc283 => ?_)
   ·refine rg ?_
    refine pu 3 [(2, I (i242 : Int)), (3, I 12)] (nx (CW.ret (QW.block_ret (QW.block_ret (QW.then_ret (QW.then_ret (QW.block_ret (QW.then_ret ?_))))))))
    obtain rfl := inj hl240
    obtain rfl := inj hF
    refine QW.ret2 rfl rfl rfl ?_
    exact ⟨rfl, hst.keep [] rfl⟩
   refine CW.seq ?_
   refine CW.cutK (fun a w1 => Rep 56 [(0, .slice a2 (p0).length c3), (4, I (i242 : Int)), (8, .bool r267.2.2), (9, .slice a2 (p0).length c3), (10, I ((p0).length : Int)), (11, I (i242 : Int)), (28, .bool (r267.2.1 && (decide ((w64 ((i242 : Int) + r267.1)) < 0) || decide ((w64 ((i242 : Int) + r267.1)) ≥ ((p0).length : Int)))))] a ∧ St w (fp []) w1 []) ?_ ?_
   ·refine CW.region ?_
    refine pu 2 [(30, .bool r267.2.1)] ?_
    refine OW.split 30 rfl (fun hc284 => ?_) (fun hc284 => ?_)
    ·refine pu 5 [(35, .bool (decide ((w64 ((i242 : Int) + r267.1)) < 0)))] ?_
     refine OW.split 35 rfl (fun hc285 => ?_) (fun hc285 => ?_)
     ·refine pu 9 [(28, .bool true)] (OW.nil rfl ?_)
      refine QW.say 28 (v := .bool (r267.2.1 && (decide ((w64 ((i242 : Int) + r267.1)) < 0) || decide ((w64 ((i242 : Int) + r267.1)) ≥ ((p0).length : Int))))) rfl (by first | (rw [hc284, hc285]; done) | (rw [hc284, hc285]; rfl) | simp [hc284, hc285]) ?_
      exact QW.meet (fun a ha => ⟨ha.ag, hst.keep [] rfl⟩)
     refine pu 9 [(28, .bool (decide ((w64 ((i242 : Int) + r267.1)) ≥ ((p0).length : Int))))] (OW.nil rfl ?_)
     refine QW.say 28 (v := .bool (r267.2.1 && (decide ((w64 ((i242 : Int) + r267.1)) < 0) || decide ((w64 ((i242 : Int) + r267.1)) ≥ ((p0).length : Int))))) rfl (by first | (rw [hc284, hc285]; done) | (rw [hc284, hc285]; rfl) | simp [hc284, hc285]) ?_
     exact QW.meet (fun a ha => ⟨ha.ag, hst.keep [] rfl⟩)
    refine pu 14 [(28, .bool false)] (OW.nil rfl ?_)
    refine QW.say 28 (v := .bool (r267.2.1 && (decide ((w64 ((i242 : Int) + r267.1)) < 0) || decide ((w64 ((i242 : Int) + r267.1)) ≥ ((p0).length : Int))))) rfl (by first | (rw [hc284]; done) | (rw [hc284]; rfl) | simp [hc284]) ?_
    exact QW.meet (fun a ha => ⟨ha.ag, hst.keep [] rfl⟩)
   rintro a w1 ⟨ha, hst⟩
   refine CW.go ?_ ha
   refine br ((r267.2.1 && (decide ((w64 ((i242 : Int) + r267.1)) < 0) || decide ((w64 ((i242 : Int) + r267.1)) ≥ ((p0).length : Int))))) hl240 (fun hl240 hc286 => ?_) (fun hl240 hc286 => ?_)
   ·refine rg ?_
    refine pu 3 [(2, I (i242 : Int)), (3, I 30)] (nx (CW.ret (QW.block_ret (QW.block_ret (QW.then_ret (QW.then_ret (QW.block_ret (QW.then_ret ?_))))))))
    obtain rfl := inj hl240
    obtain rfl := inj hF
    refine QW.ret2 rfl rfl rfl ?_
    exact ⟨rfl, hst.keep [] rfl⟩
   refine CW.seq ?_
   refine CW.cutK (fun a w1 => Rep 56 [(0, .slice a2 (p0).length c3), (4, I (i242 : Int)), (9, .slice a2 (p0).length c3), (10, I ((p0).length : Int)), (11, I (i242 : Int)), (45, .bool (r267.2.2 && ((i242 : Int) == (w64 (((p0).length : Int) - 1)))))] a ∧ St w (fp []) w1 []) ?_ ?_
   ·refine CW.region ?_
    refine pu 2 [(47, .bool r267.2.2)] ?_
    refine OW.split 47 rfl (fun hc287 => ?_) (fun hc287 => ?_)
    ·refine pu 7 [(45, .bool ((i242 : Int) == (w64 (((p0).length : Int) - 1))))] (OW.nil rfl ?_)
     refine QW.say 45 (v := .bool (r267.2.2 && ((i242 : Int) == (w64 (((p0).length : Int) - 1))))) rfl (by first | (rw [hc287]; done) | (rw [hc287]; rfl) | simp [hc287]) ?_
     exact QW.meet (fun a ha => ⟨ha.ag, hst.keep [] rfl⟩)
    refine pu 7 [(45, .bool false)] (OW.nil rfl ?_)
    refine QW.say 45 (v := .bool (r267.2.2 && ((i242 : Int) == (w64 (((p0).length : Int) - 1))))) rfl (by first | (rw [hc287]; done) | (rw [hc287]; rfl) | simp [hc287]) ?_
    exact QW.meet (fun a ha => ⟨ha.ag, hst.keep [] rfl⟩)
   rintro a w1 ⟨ha, hst⟩
   refine CW.go ?_ ha
   refine br ((r267.2.2 && ((i242 : Int) == (w64 (((p0).length : Int) - 1))))) hl240 (fun hl240 hc288 => ?_) (fun hl240 hc288 => ?_)
   ·refine rg ?_
    refine pu 3 [(2, I (i242 : Int)), (3, I 36)] (nx (CW.ret (QW.block_ret (QW.block_ret (QW.then_ret (QW.then_ret (QW.block_ret (QW.then_ret ?_))))))))
    obtain rfl := inj hl240
    obtain rfl := inj hF
    refine QW.ret2 rfl rfl rfl ?_
    exact ⟨rfl, hst.keep [] rfl⟩
   refine CW.skip (QW.block_normal (QW.block_normal (QW.next (CW.region ?_))))
   refine pu 2 [(11, I (w64 ((i242 : Int) + 1)))] (OW.nil rfl ?_)
   refine QW.say 11 rfl (congrArg (Value.int .i64) (w64_cnt hc244 l1)) ?_
   exact QW.meet (fun a ha => ⟨n239, Nat.lt_succ_self _, i242 + 1, (), cnt_next hi243, ha.ag, hst.keep [] rfl, hl240⟩)
  rcases n239 with _ | n239
  ·refine CW.cond_f rfl hc244 ?_
   refine CW.exit (QW.then_exit (QW.then_exit ?_))
   refine QW.block_here ?_
   obtain rfl := inj hl240
   exact QW.meet (fun a ha => ⟨(), rfl, ha.ag, hst.keep [] rfl⟩)
  exact (cnt1 hi243 hc244).elim
 rintro a w1 ⟨t147, rfl, ha, hst⟩
 refine CW.go ?_ ha
 refine rg ?_
 refine pu 2 [(2, I 0), (3, I 0)] (nx (CW.ret ?_))
 obtain rfl := inj hF
 refine QW.ret2 rfl rfl rfl ?_
 exact ⟨rfl, hst.keep [] rfl⟩
theorem flow_loops_ok (w : World) (v0 : Value) (p0 : List api_Inst) (r : (List api_Loop)) (hF : flow_loops p0 = some r)
    (hst : St w (fp []) w []) (h0 : Rd w (fp []) v0 enc_api_Inst 5 p0) :
    Calls Tryd.prog 47 [v0].toArray w (fun e w' => ∃ (x0 : Value), e = .returned (x0) ∧ St w (fp []) w' [rowI x0 138 enc_api_Loop 3 r]) := by
 refine CW.start (N := 29) Tryd.func47 rfl rfl rfl ?_
 obtain ⟨l1, a2, c3, rfl⟩ := h0.len
 refine rg ?_
 refine pu 1 [] (nx (rg ?_))
 refine pu 1 [(3, .slice none 0 0)] (nx (CW.seq (rg ?_)))
 refine pu 3 [(6, .slice a2 (p0).length c3), (7, I ((p0).length : Int)), (8, I 0)] (nx ?_)
 obtain ⟨o140, ho141, hF⟩ := bs hF
 refine CW.cutK (fun a w1 => ∃ (v139 : Value), Rep 29 [(3, v139)] a ∧ St w (fp []) w1 [rowI v139 138 enc_api_Loop 3 o140]) ?_ ?_
 ·refine CW.block ?_
  have hst := hst.nilRow api_Loop 138 enc_api_Loop 3
  refine CW.loop (fun n a w1 => ∃ (i232 : Nat) (s230 : (List api_Loop)) (v231 : Value), i232 + n = (p0).length ∧ Rep 29 [(3, v231), (6, .slice a2 (p0).length c3), (7, I ((p0).length : Int)), (8, I (i232 : Int))] a ∧ St w (fp []) w1 [rowI v231 138 enc_api_Loop 3 s230] ∧ forN (flow_loops_l1 p0) (fun (s230 : (List api_Loop)) => s230) n i232 s230 = some o140) (p0).length (fun a ha => ⟨0, ([] : List api_Loop), (.slice none 0 0), Nat.zero_add _, ha.ag, hst.keep [0] rfl, ho141⟩) ?_
  rintro n228 a w1 ⟨i232, s230, v231, hi233, ha, hst, hl229⟩
  refine CW.go ?_ ha
  obtain ⟨l234, a235, c236, rfl⟩ := hst.len 0 rfl
  refine rg ?_
  refine pu 1 [(9, .bool (decide ((i232 : Int) < ((p0).length : Int))))] (nx (CW.seq ?_))
  rcases bft (decide ((i232 : Int) < ((p0).length : Int))) with hc237 | hc237
  ·rcases n228 with _ | n228
   ·exact (cnt0 hi233 hc237).elim
   refine CW.cond_t rfl hc237 (CW.skip (QW.next (CW.seq (CW.block (rg ?_)))))
   refine pu 1 [(10, I (i232 : Int))] ?_
   obtain ⟨x247, hx248, hl229⟩ := bs hl229
   obtain ⟨g250, o251, c252, hv249⟩ := h0.formv (fun _ => ⟨_, rfl⟩) hx248
   refine OW.idx 76 5 rfl rfl rfl rfl hv249 rfl (idx_some hx248).1 (idx_some hx248).2.1 (by kernel_rfl) (by kernel_rfl) ?_
   refine OW.ldN (cs := enc_api_Inst x247) rfl rfl rfl rfl (by kernel_rfl) (by kernel_rfl) (h0.cellv hst hx248 hv249) ?_
   refine OW.alloc hst rfl rfl rfl [I 0, I 0, I 0, I 0, I 0] (by kernel_rfl) ?_
   intro b253 w254 hst
   refine pu 1 [(4, I (i232 : Int))] ?_
   refine OW.stB hst 1 rfl rfl rfl rfl rfl (by kernel_rfl) rfl rfl [I x247.Op, I x247.D, I x247.A, I x247.B, I x247.Imm] rfl ?_
   intro w255 hst
   refine nx (rg ?_)
   refine pu 1 [(13, Pt b253)] ?_
   refine OW.ld rfl rfl rfl rfl (by kernel_rfl) (hst.blk 1 rfl rfl) ?_
   refine pu 1 [(15, .bool (x247.Op == 20))] (nx ?_)
   refine br ((x247.Op == 20)) hl229 (fun hl229 hc256 => ?_) (fun hl229 hc256 => ?_)
   ·refine CW.region ?_
    refine pu 3 [(16, .slice a235 (s230).length c236), (17, I (i232 : Int)), (18, .pointer (some ⟨b253, 1, none⟩))] ?_
    refine OW.ld rfl rfl rfl rfl (by kernel_rfl) (hst.blk 1 rfl rfl) ?_
    refine pu 3 [(20, I (w64 ((i232 : Int) - x247.D))), (21, I (i232 : Int)), (22, .pointer (some ⟨b253, 4, none⟩))] ?_
    refine OW.ld rfl rfl rfl rfl (by kernel_rfl) (hst.blk 1 rfl rfl) ?_
    refine pu 1 [(24, .agg [I (w64 ((i232 : Int) - x247.D)), I (i232 : Int), I x247.Imm].toArray)] ?_
    refine OW.row (α := api_Loop) (e := 138) (enc := enc_api_Loop) (sz := 3) hst rfl rfl rfl [(api_Loop.mk (w64 ((i232 : Int) - x247.D)) (i232 : Int) x247.Imm)] rfl (fun _ => rfl) rfl rfl (fun _ => by kernel_rfl) ?_
    intro g266 w267 hst
    obtain ⟨u268, hr269, hl229⟩ := bs hl229
    refine OW.app hst 0 rfl (fun _ => rfl) (fun _ => rfl) rfl rfl rfl rfl rfl rfl (by kernel_rfl) el138 (hst.rd 2 rfl (fun _ => rfl) [] rfl (hst.len 2 rfl).1) (room_le hr269) ?_
    intro v270 w271 hst
    obtain ⟨l272, a273, c274, rfl⟩ := hst.len 0 rfl
    refine pu 1 [(3, .slice a273 ((s230 ++ [(api_Loop.mk (w64 ((i232 : Int) - x247.D)) (i232 : Int) x247.Imm)])).length c274)] (OW.nil rfl (QW.block_normal (QW.next (CW.region ?_))))
    refine pu 2 [(8, I (w64 ((i232 : Int) + 1)))] (OW.nil rfl ?_)
    refine QW.say 8 rfl (congrArg (Value.int .i64) (w64_cnt hc237 l1)) ?_
    exact QW.meet (fun a ha => ⟨n228, Nat.lt_succ_self _, i232 + 1, (s230 ++ [(api_Loop.mk (w64 ((i232 : Int) - x247.D)) (i232 : Int) x247.Imm)]), (.slice a273 ((s230 ++ [(api_Loop.mk (w64 ((i232 : Int) - x247.D)) (i232 : Int) x247.Imm)])).length c274), cnt_next hi233, ha.ag, hst.keep [0] rfl, hl229⟩)
   refine CW.skip (QW.block_normal (QW.next (CW.region ?_)))
   refine pu 2 [(8, I (w64 ((i232 : Int) + 1)))] (OW.nil rfl ?_)
   refine QW.say 8 rfl (congrArg (Value.int .i64) (w64_cnt hc237 l1)) ?_
   exact QW.meet (fun a ha => ⟨n228, Nat.lt_succ_self _, i232 + 1, s230, (.slice a235 (s230).length c236), cnt_next hi233, ha.ag, hst.keep [0] rfl, hl229⟩)
  rcases n228 with _ | n228
  ·refine CW.cond_f rfl hc237 ?_
   refine CW.exit (QW.then_exit (QW.then_exit ?_))
   refine QW.block_here ?_
   obtain rfl := inj hl229
   exact QW.meet (fun a ha => ⟨(.slice a235 (s230).length c236), ha.ag, hst.keep [0] rfl⟩)
  exact (cnt1 hi233 hc237).elim
 rintro a w1 ⟨v139, ha, hst⟩
 refine CW.go ?_ ha
 obtain ⟨l278, a279, c280, rfl⟩ := hst.len 0 rfl
 refine rg ?_
 refine pu 2 [(2, .slice a279 (o140).length c280)] (nx (CW.ret ?_))
 obtain rfl := inj hF
 refine QW.ret1 rfl rfl ?_
 exact ⟨(.slice a279 (o140).length c280), rfl, hst.keep [0] rfl⟩
theorem flow_in_ok (w : World) (p0 : api_Loop) (p1 : Int) (r : Bool) (hF : flow_in p0 p1 = some r)
    (hst : St w (fp []) w []) :
    Calls Tryd.prog 73 [.agg [I p0.Head, I p0.At, I p0.Bound].toArray, I p1].toArray w (fun e w' => e = .returned (.bool r) ∧ St w (fp []) w' []) := by
 refine CW.start (N := 15) Tryd.func73 rfl rfl rfl (rg ?_)
 refine OW.box hst rfl rfl rfl rfl [I p0.Head, I p0.At, I p0.Bound] rfl ?_
 intro b3 w4 hst
 refine pu 1 [] (nx (CW.seq ?_))
 refine CW.cutK (fun a w1 => Rep 15 [(4, .bool (decide (p1 ≥ p0.Head) && decide (p1 ≤ p0.At)))] a ∧ St w (fp []) w1 []) ?_ ?_
 ·refine CW.region ?_
  refine pu 2 [(5, I p1), (6, Pt b3)] ?_
  refine OW.ld rfl rfl rfl rfl (by kernel_rfl) (hst.blk 0 rfl rfl) ?_
  refine pu 2 [(9, .bool (decide (p1 ≥ p0.Head)))] ?_
  refine OW.split 9 rfl (fun hc5 => ?_) (fun hc5 => ?_)
  ·refine pu 2 [(10, I p1), (11, .pointer (some ⟨b3, 1, none⟩))] ?_
   refine OW.ld rfl rfl rfl rfl (by kernel_rfl) (hst.blk 0 rfl rfl) ?_
   refine pu 3 [(4, .bool (decide (p1 ≤ p0.At)))] (OW.nil rfl ?_)
   refine QW.say 4 (v := .bool (decide (p1 ≥ p0.Head) && decide (p1 ≤ p0.At))) rfl (by first | (rw [hc5]; done) | (rw [hc5]; rfl) | simp [hc5]) ?_
   exact QW.meet (fun a ha => ⟨ha.ag, hst.keep [] rfl⟩)
  refine pu 6 [(4, .bool false)] (OW.nil rfl ?_)
  refine QW.say 4 (v := .bool (decide (p1 ≥ p0.Head) && decide (p1 ≤ p0.At))) rfl (by first | (rw [hc5]; done) | (rw [hc5]; rfl) | simp [hc5]) ?_
  exact QW.meet (fun a ha => ⟨ha.ag, hst.keep [] rfl⟩)
 rintro a w1 ⟨ha, hst⟩
 refine CW.go ?_ ha
 refine CW.ret ?_
 obtain rfl := inj hF
 refine QW.ret1 rfl rfl ?_
 exact ⟨rfl, hst.keep [] rfl⟩
theorem flow_nested_ok (w : World) (v0 : Value) (p0 : List api_Inst) (r : Int × Int) (hF : flow_nested p0 = some r)
    (hst : St w (fp []) w []) (h0 : Rd w (fp []) v0 enc_api_Inst 5 p0) (hT0 : Rd w (fp []) (.slice (some ⟨0, 0, none⟩) 23 23) enc_ops_form 2 tab_g0) :
    Calls Tryd.prog 45 [v0].toArray w (fun e w' => e = .returned (.tuple #[I r.1, I r.2]) ∧ St w (fp []) w' []) := by
 refine CW.start (N := 97) Tryd.func45 rfl rfl rfl ?_
 obtain ⟨l1, a2, c3, rfl⟩ := h0.len
 refine rg ?_
 refine pu 2 [] (nx (rg ?_))
 refine pu 1 [(16, .slice a2 (p0).length c3)] ?_
 obtain ⟨r12, hr13, hF⟩ := bs hF
 refine OW.fn rfl rfl rfl rfl (by kernel_rfl) (flow_loops_ok _ (.slice a2 (p0).length c3) p0 r12 hr13 (hst.part [] rfl) (h0.give hst [])) ?_
 rintro e w14 ⟨v16, rfl, hst15⟩
 refine ⟨_, rfl, ?_⟩
 have hst := hst.join (idx := []) (rest := []) rfl hst15
 obtain ⟨l17, a18, c19, rfl⟩ := hst.len 0 rfl
 refine pu 1 [(4, .slice a18 (r12).length c19)] (nx (CW.seq (rg ?_)))
 refine pu 3 [(18, .slice a18 (r12).length c19), (19, I ((r12).length : Int)), (20, I 0)] (nx ?_)
 obtain ⟨o590, ho591, hF⟩ := bs hF
 refine CW.cutK (fun a w1 => ∃ (t592 : Unit), o590 = .inl t592 ∧ Rep 97 [(0, .slice a2 (p0).length c3), (4, .slice a18 (r12).length c19)] a ∧ St w (fp []) w1 [rowI (.slice a18 (r12).length c19) 138 enc_api_Loop 3 r12]) ?_ ?_
 ·refine CW.block ?_
  refine CW.loop (fun n a w1 => ∃ (i973 : Nat) (s972 : Unit), i973 + n = (r12).length ∧ Rep 97 [(0, .slice a2 (p0).length c3), (4, .slice a18 (r12).length c19), (18, .slice a18 (r12).length c19), (19, I ((r12).length : Int)), (20, I (i973 : Int))] a ∧ St w (fp []) w1 [rowI (.slice a18 (r12).length c19) 138 enc_api_Loop 3 r12] ∧ forN (flow_nested_l1 r12) (fun (s972 : Unit) => (.inl ())) n i973 s972 = some o590) (r12).length (fun a ha => ⟨0, (), Nat.zero_add _, ha.ag, hst.keep [0] rfl, ho591⟩) ?_
  rintro n970 a w1 ⟨i973, s972, hi974, ha, hst, hl971⟩
  refine CW.go ?_ ha
  refine rg ?_
  refine pu 1 [(21, .bool (decide ((i973 : Int) < ((r12).length : Int))))] (nx (CW.seq ?_))
  rcases bft (decide ((i973 : Int) < ((r12).length : Int))) with hc975 | hc975
  ·rcases n970 with _ | n970
   ·exact (cnt0 hi974 hc975).elim
   refine CW.cond_t rfl hc975 (CW.skip (QW.next (CW.seq (CW.block (rg ?_)))))
   refine pu 1 [(22, I (i973 : Int))] ?_
   obtain ⟨x985, hx986, hl971⟩ := bs hl971
   obtain ⟨g988, o989, c990, hv987⟩ := hst.rowv 0 rfl hx986
   refine OW.idx 138 3 rfl rfl rfl rfl hv987 rfl (idx_some hx986).1 (idx_some hx986).2.1 (by kernel_rfl) (by kernel_rfl) ?_
   refine OW.ldN (cs := enc_api_Loop x985) rfl rfl rfl rfl (by kernel_rfl) (by kernel_rfl) (hst.rowc 0 rfl (fun _ => rfl) hx986 hv987) ?_
   refine OW.alloc hst rfl rfl rfl [I 0, I 0, I 0] (by kernel_rfl) ?_
   intro b991 w992 hst
   refine pu 1 [(5, I (i973 : Int))] ?_
   refine OW.stB hst 1 rfl rfl rfl rfl rfl (by kernel_rfl) rfl rfl [I x985.Head, I x985.At, I x985.Bound] rfl ?_
   intro w993 hst
   refine nx (rg ?_)
   refine pu 2 [(25, .slice a18 (r12).length c19), (26, I (i973 : Int))] ?_
   obtain ⟨ys996, hcut997, hl971⟩ := bs hl971
   refine OW.op (v := .slice a18 (ys996).length c19) rfl rfl rfl rfl (fun a ha => pre_run (e := 138) 3 rfl rfl rfl hcut997 (hst.cap 0 rfl) (by kernel_rfl) (by kernel_rfl) a _ ha) ?_
   refine pu 2 [(28, I ((ys996).length : Int)), (29, I 0)] (nx ?_)
   obtain ⟨o1079, ho1080, hl971⟩ := bs hl971
   refine CW.cutQ (fun a w1 => ∃ (t1081 : Unit), o1079 = .inl t1081 ∧ Rep 97 [(0, .slice a2 (p0).length c3), (4, .slice a18 (r12).length c19), (18, .slice a18 (r12).length c19), (19, I ((r12).length : Int)), (20, I (i973 : Int))] a ∧ St w (fp []) w1 [rowI (.slice a18 (r12).length c19) 138 enc_api_Loop 3 r12]) ?_ ?_
   ·refine CW.block ?_
    refine CW.loop (fun n a w1 => ∃ (i1136 : Nat) (s1135 : Unit), i1136 + n = (ys996).length ∧ Rep 97 [(0, .slice a2 (p0).length c3), (4, .slice a18 (r12).length c19), (6, Pt b991), (18, .slice a18 (r12).length c19), (19, I ((r12).length : Int)), (20, I (i973 : Int)), (27, .slice a18 (ys996).length c19), (28, I ((ys996).length : Int)), (29, I (i1136 : Int))] a ∧ St w (fp []) w1 [rowI (.slice a18 (r12).length c19) 138 enc_api_Loop 3 r12, blkI b991 138 [I x985.Head, I x985.At, I x985.Bound]] ∧ forN (flow_nested_l2 x985 ys996) (fun (s1135 : Unit) => (.inl ())) n i1136 s1135 = some o1079) (ys996).length (fun a ha => ⟨0, (), Nat.zero_add _, ha.ag, hst.keep [0, 1] rfl, ho1080⟩) ?_
    rintro n1133 a w1 ⟨i1136, s1135, hi1137, ha, hst, hl1134⟩
    refine CW.go ?_ ha
    refine rg ?_
    refine pu 1 [(30, .bool (decide ((i1136 : Int) < ((ys996).length : Int))))] (nx (CW.seq ?_))
    rcases bft (decide ((i1136 : Int) < ((ys996).length : Int))) with hc1138 | hc1138
    ·rcases n1133 with _ | n1133
     ·exact (cnt0 hi1137 hc1138).elim
     refine CW.cond_t rfl hc1138 (CW.skip (QW.next (CW.seq (CW.block (rg ?_)))))
     obtain ⟨x1150, hx1151, hl1134⟩ := bs hl1134
     have hx1156 := pre_idx hcut997 hx1151
     obtain ⟨g1153, o1154, c1155, hv1152⟩ := hst.rowv 0 rfl hx1156
     refine OW.idx 138 3 rfl rfl rfl rfl (pre_hv hv1152) rfl (idx_some hx1151).1 (idx_some hx1151).2.1 (by kernel_rfl) (by kernel_rfl) ?_
     refine OW.ldN (cs := enc_api_Loop x1150) rfl rfl rfl rfl (by kernel_rfl) (by kernel_rfl) (hst.rowc 0 rfl (fun _ => rfl) hx1156 hv1152) ?_
     refine OW.alloc hst rfl rfl rfl [I 0, I 0, I 0] (by kernel_rfl) ?_
     intro b1158 w1159 hst
     refine OW.stB hst 2 rfl rfl rfl rfl rfl (by kernel_rfl) rfl rfl [I x1150.Head, I x1150.At, I x1150.Bound] rfl ?_
     intro w1160 hst
     refine nx (CW.seq ?_)
     refine CW.cutK (fun a w1 => Rep 97 [(0, .slice a2 (p0).length c3), (4, .slice a18 (r12).length c19), (6, Pt b991), (18, .slice a18 (r12).length c19), (19, I ((r12).length : Int)), (20, I (i973 : Int)), (27, .slice a18 (ys996).length c19), (28, I ((ys996).length : Int)), (29, I (i1136 : Int)), (44, .bool (decide (x1150.At ≥ x985.Head) && decide (x1150.Head < x985.Head)))] a ∧ St w (fp []) w1 [rowI (.slice a18 (r12).length c19) 138 enc_api_Loop 3 r12, blkI b991 138 [I x985.Head, I x985.At, I x985.Bound]]) ?_ ?_
     ·refine CW.region ?_
      refine pu 1 [(33, .pointer (some ⟨b1158, 1, none⟩))] ?_
      refine OW.ld rfl rfl rfl rfl (by kernel_rfl) (hst.blk 2 rfl rfl) ?_
      refine pu 1 [(35, Pt b991)] ?_
      refine OW.ld rfl rfl rfl rfl (by kernel_rfl) (hst.blk 1 rfl rfl) ?_
      refine pu 2 [(38, .bool (decide (x1150.At ≥ x985.Head)))] ?_
      refine OW.split 38 rfl (fun hc1161 => ?_) (fun hc1161 => ?_)
      ·refine pu 1 [(39, Pt b1158)] ?_
       refine OW.ld rfl rfl rfl rfl (by kernel_rfl) (hst.blk 2 rfl rfl) ?_
       refine pu 1 [(41, Pt b991)] ?_
       refine OW.ld rfl rfl rfl rfl (by kernel_rfl) (hst.blk 1 rfl rfl) ?_
       refine pu 2 [(44, .bool (decide (x1150.Head < x985.Head)))] (OW.nil rfl ?_)
       refine QW.say 44 (v := .bool (decide (x1150.At ≥ x985.Head) && decide (x1150.Head < x985.Head))) rfl (by first | (rw [hc1161]; done) | (rw [hc1161]; rfl) | simp [hc1161]) ?_
       exact QW.meet (fun a ha => ⟨ha.ag, hst.keep [0, 1] rfl⟩)
      refine pu 6 [(44, .bool false)] (OW.nil rfl ?_)
      refine QW.say 44 (v := .bool (decide (x1150.At ≥ x985.Head) && decide (x1150.Head < x985.Head))) rfl (by first | (rw [hc1161]; done) | (rw [hc1161]; rfl) | simp [hc1161]) ?_
      exact QW.meet (fun a ha => ⟨ha.ag, hst.keep [0, 1] rfl⟩)
     rintro a w1 ⟨ha, hst⟩
     refine CW.go ?_ ha
     refine br ((decide (x1150.At ≥ x985.Head) && decide (x1150.Head < x985.Head))) hl1134 (fun hl1134 hc1162 => ?_) (fun hl1134 hc1162 => ?_)
     ·refine rg ?_
      refine pu 1 [(45, .pointer (some ⟨b991, 1, none⟩))] ?_
      refine OW.ld rfl rfl rfl rfl (by kernel_rfl) (hst.blk 1 rfl rfl) ?_
      refine pu 2 [(2, I x985.At), (3, I 31)] (nx (CW.ret (QW.block_ret (QW.then_ret (QW.then_ret (QW.block_ret (QW.then_ret (QW.block_ret (QW.then_ret (QW.then_ret (QW.block_ret (QW.then_ret ?_))))))))))))
      obtain rfl := inj hl1134
      obtain rfl := inj hl971
      obtain rfl := inj hF
      refine QW.ret2 rfl rfl rfl ?_
      exact ⟨rfl, hst.keep [] rfl⟩
     refine CW.skip (QW.block_normal (QW.next (CW.region ?_)))
     refine pu 2 [(29, I (w64 ((i1136 : Int) + 1)))] (OW.nil rfl ?_)
     refine QW.say 29 rfl (congrArg (Value.int .i64) (w64_cnt hc1138 (Nat.le_trans (cut_le hcut997) l17))) ?_
     exact QW.meet (fun a ha => ⟨n1133, Nat.lt_succ_self _, i1136 + 1, (), cnt_next hi1137, ha.ag, hst.keep [0, 1] rfl, hl1134⟩)
    rcases n1133 with _ | n1133
    ·refine CW.cond_f rfl hc1138 ?_
     refine CW.exit (QW.then_exit (QW.then_exit ?_))
     refine QW.block_here ?_
     obtain rfl := inj hl1134
     exact QW.meet (fun a ha => ⟨(), rfl, ha.ag, hst.keep [0] rfl⟩)
    exact (cnt1 hi1137 hc1138).elim
   rintro a w1 ⟨t1081, rfl, ha, hst⟩
   refine QW.go ?_ ha
   refine QW.block_normal (QW.next (CW.region ?_))
   refine pu 2 [(20, I (w64 ((i973 : Int) + 1)))] (OW.nil rfl ?_)
   refine QW.say 20 rfl (congrArg (Value.int .i64) (w64_cnt hc975 l17)) ?_
   exact QW.meet (fun a ha => ⟨n970, Nat.lt_succ_self _, i973 + 1, (), cnt_next hi974, ha.ag, hst.keep [0] rfl, hl971⟩)
  rcases n970 with _ | n970
  ·refine CW.cond_f rfl hc975 ?_
   refine CW.exit (QW.then_exit (QW.then_exit ?_))
   refine QW.block_here ?_
   obtain rfl := inj hl971
   exact QW.meet (fun a ha => ⟨(), rfl, ha.ag, hst.keep [0] rfl⟩)
  exact (cnt1 hi974 hc975).elim
 rintro a w1 ⟨t592, rfl, ha, hst⟩
 refine CW.go ?_ ha
 refine CW.seq (rg ?_)
 refine pu 3 [(49, .slice a2 (p0).length c3), (50, I ((p0).length : Int)), (51, I 0)] (nx ?_)
 obtain ⟨o2123, ho2124, hF⟩ := bs hF
 refine CW.cutK (fun a w1 => ∃ (t2125 : Unit), o2123 = .inl t2125 ∧ Rep 97 [] a ∧ St w (fp []) w1 []) ?_ ?_
 ·refine CW.block ?_
  refine CW.loop (fun n a w1 => ∃ (i2766 : Nat) (s2765 : Unit), i2766 + n = (p0).length ∧ Rep 97 [(4, .slice a18 (r12).length c19), (49, .slice a2 (p0).length c3), (50, I ((p0).length : Int)), (51, I (i2766 : Int))] a ∧ St w (fp []) w1 [rowI (.slice a18 (r12).length c19) 138 enc_api_Loop 3 r12] ∧ forN (flow_nested_l3 p0 r12) (fun (s2765 : Unit) => (.inl ())) n i2766 s2765 = some o2123) (p0).length (fun a ha => ⟨0, (), Nat.zero_add _, ha.ag, hst.keep [0] rfl, ho2124⟩) ?_
  rintro n2763 a w1 ⟨i2766, s2765, hi2767, ha, hst, hl2764⟩
  refine CW.go ?_ ha
  refine rg ?_
  refine pu 1 [(52, .bool (decide ((i2766 : Int) < ((p0).length : Int))))] (nx (CW.seq ?_))
  rcases bft (decide ((i2766 : Int) < ((p0).length : Int))) with hc2768 | hc2768
  ·rcases n2763 with _ | n2763
   ·exact (cnt0 hi2767 hc2768).elim
   refine CW.cond_t rfl hc2768 (CW.skip (QW.next (CW.seq (CW.block (rg ?_)))))
   refine pu 1 [(53, I (i2766 : Int))] ?_
   obtain ⟨x2778, hx2779, hl2764⟩ := bs hl2764
   obtain ⟨g2781, o2782, c2783, hv2780⟩ := h0.formv (fun _ => ⟨_, rfl⟩) hx2779
   refine OW.idx 76 5 rfl rfl rfl rfl hv2780 rfl (idx_some hx2779).1 (idx_some hx2779).2.1 (by kernel_rfl) (by kernel_rfl) ?_
   refine OW.ldN (cs := enc_api_Inst x2778) rfl rfl rfl rfl (by kernel_rfl) (by kernel_rfl) (h0.cellv hst hx2779 hv2780) ?_
   refine OW.alloc hst rfl rfl rfl [I 0, I 0, I 0, I 0, I 0] (by kernel_rfl) ?_
   intro b2784 w2785 hst
   refine pu 1 [(9, I (i2766 : Int))] ?_
   refine OW.stB hst 1 rfl rfl rfl rfl rfl (by kernel_rfl) rfl rfl [I x2778.Op, I x2778.D, I x2778.A, I x2778.B, I x2778.Imm] rfl ?_
   intro w2786 hst
   refine nx (rg ?_)
   refine OW.ldN (cs := [I x2778.Op, I x2778.D, I x2778.A, I x2778.B, I x2778.Imm]) rfl rfl rfl rfl (by kernel_rfl) (by kernel_rfl) (hst.blkN 1 rfl 0 5) ?_
   obtain ⟨r2791, hr2792, hl2764⟩ := bs hl2764
   refine OW.fn rfl rfl rfl rfl (by kernel_rfl) (ops_Goes_ok _ x2778 r2791 hr2792 (hst.part [] rfl) (hT0.give hst [])) ?_
   rintro e w2793 ⟨rfl, hst2794⟩
   refine ⟨_, rfl, ?_⟩
   have hst := hst.join (idx := []) (rest := [0, 1]) rfl hst2794
   refine pu 7 [(11, I r2791.1), (12, .bool r2791.2.1)] (nx (rg ?_))
   refine pu 3 [(62, .slice a18 (r12).length c19), (63, I ((r12).length : Int)), (64, I 0)] (nx ?_)
   obtain ⟨o2939, ho2940, hl2764⟩ := bs hl2764
   refine CW.cutQ (fun a w1 => ∃ (t2941 : Unit), o2939 = .inl t2941 ∧ Rep 97 [(4, .slice a18 (r12).length c19), (49, .slice a2 (p0).length c3), (50, I ((p0).length : Int)), (51, I (i2766 : Int))] a ∧ St w (fp []) w1 [rowI (.slice a18 (r12).length c19) 138 enc_api_Loop 3 r12]) ?_ ?_
   ·refine CW.block ?_
    refine CW.loop (fun n a w1 => ∃ (i3038 : Nat) (s3037 : Unit), i3038 + n = (r12).length ∧ Rep 97 [(4, .slice a18 (r12).length c19), (9, I (i2766 : Int)), (11, I r2791.1), (12, .bool r2791.2.1), (49, .slice a2 (p0).length c3), (50, I ((p0).length : Int)), (51, I (i2766 : Int)), (62, .slice a18 (r12).length c19), (63, I ((r12).length : Int)), (64, I (i3038 : Int))] a ∧ St w (fp []) w1 [rowI (.slice a18 (r12).length c19) 138 enc_api_Loop 3 r12] ∧ forN (flow_nested_l4 r12 i2766 r2791) (fun (s3037 : Unit) => (.inl ())) n i3038 s3037 = some o2939) (r12).length (fun a ha => ⟨0, (), Nat.zero_add _, ha.ag, hst.keep [0] rfl, ho2940⟩) ?_
    rintro n3035 a w1 ⟨i3038, s3037, hi3039, ha, hst, hl3036⟩
    refine CW.go ?_ ha
    refine rg ?_
    refine pu 1 [(65, .bool (decide ((i3038 : Int) < ((r12).length : Int))))] (nx (CW.seq ?_))
    rcases bft (decide ((i3038 : Int) < ((r12).length : Int))) with hc3040 | hc3040
    ·rcases n3035 with _ | n3035
     ·exact (cnt0 hi3039 hc3040).elim
     refine CW.cond_t rfl hc3040 (CW.skip (QW.next (CW.seq (CW.block (rg ?_)))))
     obtain ⟨x3050, hx3051, hl3036⟩ := bs hl3036
     obtain ⟨g3053, o3054, c3055, hv3052⟩ := hst.rowv 0 rfl hx3051
     refine OW.idx 138 3 rfl rfl rfl rfl hv3052 rfl (idx_some hx3051).1 (idx_some hx3051).2.1 (by kernel_rfl) (by kernel_rfl) ?_
     refine OW.ldN (cs := enc_api_Loop x3050) rfl rfl rfl rfl (by kernel_rfl) (by kernel_rfl) (hst.rowc 0 rfl (fun _ => rfl) hx3051 hv3052) ?_
     refine OW.alloc hst rfl rfl rfl [I 0, I 0, I 0] (by kernel_rfl) ?_
     intro b3056 w3057 hst
     refine OW.stB hst 1 rfl rfl rfl rfl rfl (by kernel_rfl) rfl rfl [I x3050.Head, I x3050.At, I x3050.Bound] rfl ?_
     intro w3058 hst
     refine nx (CW.seq ?_)
     obtain ⟨o3071, ho3072, hl3036⟩ := bs hl3036
     refine CW.cutK (fun a w1 => Rep 97 [(4, .slice a18 (r12).length c19), (9, I (i2766 : Int)), (11, I r2791.1), (12, .bool r2791.2.1), (49, .slice a2 (p0).length c3), (50, I ((p0).length : Int)), (51, I (i2766 : Int)), (62, .slice a18 (r12).length c19), (63, I ((r12).length : Int)), (64, I (i3038 : Int)), (93, .bool o3071)] a ∧ St w (fp []) w1 [rowI (.slice a18 (r12).length c19) 138 enc_api_Loop 3 r12]) ?_ ?_
     ·refine CW.region ?_
      refine pu 2 [(69, .bool r2791.2.1)] ?_
      refine OW.split 69 rfl (fun hc3073 => ?_) (fun hc3073 => ?_)
      ·have ho3072 := ite_t ho3072 hc3073
       refine pu 4 [(73, .bool (decide (r2791.1 > 0)))] ?_
       refine OW.split 73 rfl (fun hc3074 => ?_) (fun hc3074 => ?_)
       ·have ho3072 := ite_t ho3072 hc3074
        refine OW.ldN (cs := [I x3050.Head, I x3050.At, I x3050.Bound]) rfl rfl rfl rfl (by kernel_rfl) (by kernel_rfl) (hst.blkN 1 rfl 0 3) ?_
        refine pu 1 [(75, I (i2766 : Int))] ?_
        obtain ⟨r3075, hr3076, ho3072⟩ := bs ho3072
        refine OW.fn rfl rfl rfl rfl (by kernel_rfl) (flow_in_ok _ x3050 (i2766 : Int) r3075 hr3076 (hst.part [] rfl)) ?_
        rintro e w3077 ⟨rfl, hst3078⟩
        refine ⟨_, rfl, ?_⟩
        have hst := hst.join (idx := []) (rest := [0, 1]) rfl hst3078
        refine pu 3 [(79, .bool (!r3075))] ?_
        refine OW.split 79 rfl (fun hc3079 => ?_) (fun hc3079 => ?_)
        ·have ho3072 := ite_t ho3072 hc3079
         refine OW.ldN (cs := [I x3050.Head, I x3050.At, I x3050.Bound]) rfl rfl rfl rfl (by kernel_rfl) (by kernel_rfl) (hst.blkN 1 rfl 0 3) ?_
         refine pu 3 [(83, I (w64 ((i2766 : Int) + r2791.1)))] ?_
         obtain ⟨r3080, hr3081, ho3072⟩ := bs ho3072
         refine OW.fn rfl rfl rfl rfl (by kernel_rfl) (flow_in_ok _ x3050 (w64 ((i2766 : Int) + r2791.1)) r3080 hr3081 (hst.part [] rfl)) ?_
         rintro e w3082 ⟨rfl, hst3083⟩
         refine ⟨_, rfl, ?_⟩
         have hst := hst.join (idx := []) (rest := [0, 1]) rfl hst3083
         refine pu 2 [(86, .bool r3080)] ?_
         refine OW.split 86 rfl (fun hc3084 => ?_) (fun hc3084 => ?_)
         ·have ho3072 := ite_t ho3072 hc3084
          refine pu 4 [(89, I (w64 ((i2766 : Int) + r2791.1))), (90, Pt b3056)] ?_
          refine OW.ld rfl rfl rfl rfl (by kernel_rfl) (hst.blk 1 rfl rfl) ?_
          refine pu 2 [(93, .bool ((w64 ((i2766 : Int) + r2791.1)) != x3050.Head))] (OW.nil rfl ?_)
          obtain rfl := inj ho3072
          exact QW.meet (fun a ha => ⟨ha.ag, hst.keep [0] rfl⟩)
         have ho3072 := ite_f ho3072 hc3084
         refine pu 7 [(93, .bool false)] (OW.nil rfl ?_)
         obtain rfl := inj ho3072
         exact QW.meet (fun a ha => ⟨ha.ag, hst.keep [0] rfl⟩)
        have ho3072 := ite_f ho3072 hc3079
        refine pu 14 [(93, .bool false)] (OW.nil rfl ?_)
        obtain rfl := inj ho3072
        exact QW.meet (fun a ha => ⟨ha.ag, hst.keep [0] rfl⟩)
       have ho3072 := ite_f ho3072 hc3074
       refine pu 20 [(93, .bool false)] (OW.nil rfl ?_)
       obtain rfl := inj ho3072
       exact QW.meet (fun a ha => ⟨ha.ag, hst.keep [0] rfl⟩)
      have ho3072 := ite_f ho3072 hc3073
      refine pu 24 [(93, .bool false)] (OW.nil rfl ?_)
      obtain rfl := inj ho3072
      exact QW.meet (fun a ha => ⟨ha.ag, hst.keep [0] rfl⟩)
     rintro a w1 ⟨ha, hst⟩
     refine CW.go ?_ ha
     refine br (o3071) hl3036 (fun hl3036 hc3085 => ?_) (fun hl3036 hc3085 => ?_)
     ·refine rg ?_
      refine pu 3 [(2, I (i2766 : Int)), (3, I 31)] (nx (CW.ret (QW.block_ret (QW.then_ret (QW.then_ret (QW.block_ret (QW.then_ret (QW.block_ret (QW.then_ret (QW.then_ret (QW.block_ret (QW.then_ret ?_))))))))))))
      obtain rfl := inj hl3036
      obtain rfl := inj hl2764
      obtain rfl := inj hF
      refine QW.ret2 rfl rfl rfl ?_
      exact ⟨rfl, hst.keep [] rfl⟩
     refine CW.skip (QW.block_normal (QW.next (CW.region ?_)))
     refine pu 2 [(64, I (w64 ((i3038 : Int) + 1)))] (OW.nil rfl ?_)
     refine QW.say 64 rfl (congrArg (Value.int .i64) (w64_cnt hc3040 l17)) ?_
     exact QW.meet (fun a ha => ⟨n3035, Nat.lt_succ_self _, i3038 + 1, (), cnt_next hi3039, ha.ag, hst.keep [0] rfl, hl3036⟩)
    rcases n3035 with _ | n3035
    ·refine CW.cond_f rfl hc3040 ?_
     refine CW.exit (QW.then_exit (QW.then_exit ?_))
     refine QW.block_here ?_
     obtain rfl := inj hl3036
     exact QW.meet (fun a ha => ⟨(), rfl, ha.ag, hst.keep [0] rfl⟩)
    exact (cnt1 hi3039 hc3040).elim
   rintro a w1 ⟨t2941, rfl, ha, hst⟩
   refine QW.go ?_ ha
   refine QW.block_normal (QW.next (CW.region ?_))
   refine pu 2 [(51, I (w64 ((i2766 : Int) + 1)))] (OW.nil rfl ?_)
   refine QW.say 51 rfl (congrArg (Value.int .i64) (w64_cnt hc2768 l1)) ?_
   exact QW.meet (fun a ha => ⟨n2763, Nat.lt_succ_self _, i2766 + 1, (), cnt_next hi2767, ha.ag, hst.keep [0] rfl, hl2764⟩)
  rcases n2763 with _ | n2763
  ·refine CW.cond_f rfl hc2768 ?_
   refine CW.exit (QW.then_exit (QW.then_exit ?_))
   refine QW.block_here ?_
   obtain rfl := inj hl2764
   exact QW.meet (fun a ha => ⟨(), rfl, ha.ag, hst.keep [] rfl⟩)
  exact (cnt1 hi2767 hc2768).elim
 rintro a w1 ⟨t2125, rfl, ha, hst⟩
 refine CW.go ?_ ha
 refine rg ?_
 refine pu 2 [(2, I 0), (3, I 0)] (nx (CW.ret ?_))
 obtain rfl := inj hF
 refine QW.ret2 rfl rfl rfl ?_
 exact ⟨rfl, hst.keep [] rfl⟩
theorem flow_cost_ok (w : World) (v0 : Value) (p0 : List api_Inst) (r : Int) (hF : flow_cost p0 = some r)
    (hst : St w (fp []) w []) (h0 : Rd w (fp []) v0 enc_api_Inst 5 p0) :
    Calls Tryd.prog 46 [v0].toArray w (fun e w' => e = .returned (I r) ∧ St w (fp []) w' []) := by
 refine CW.start (N := 38) Tryd.func46 rfl rfl rfl ?_
 obtain ⟨l1, a2, c3, rfl⟩ := h0.len
 refine rg ?_
 refine pu 1 [] (nx (rg ?_))
 refine pu 1 [(9, .slice a2 (p0).length c3)] ?_
 obtain ⟨r12, hr13, hF⟩ := bs hF
 refine OW.fn rfl rfl rfl rfl (by kernel_rfl) (flow_loops_ok _ (.slice a2 (p0).length c3) p0 r12 hr13 (hst.part [] rfl) (h0.give hst [])) ?_
 rintro e w14 ⟨v16, rfl, hst15⟩
 refine ⟨_, rfl, ?_⟩
 have hst := hst.join (idx := []) (rest := []) rfl hst15
 obtain ⟨l17, a18, c19, rfl⟩ := hst.len 0 rfl
 refine pu 1 [(3, .slice a18 (r12).length c19)] (nx (rg ?_))
 refine pu 1 [(4, I 0)] (nx (CW.seq (rg ?_)))
 refine pu 3 [(12, I ((p0).length : Int)), (13, I 0)] (nx ?_)
 obtain ⟨o576, ho577, hF⟩ := bs hF
 refine CW.cutK (fun a w1 => Rep 38 [(4, I o576)] a ∧ St w (fp []) w1 []) ?_ ?_
 ·refine CW.block ?_
  refine CW.loop (fun n a w1 => ∃ (i948 : Nat) (s947 : Int), i948 + n = (p0).length ∧ Rep 38 [(3, .slice a18 (r12).length c19), (4, I s947), (12, I ((p0).length : Int)), (13, I (i948 : Int))] a ∧ St w (fp []) w1 [rowI (.slice a18 (r12).length c19) 138 enc_api_Loop 3 r12] ∧ forN (flow_cost_l1 r12) (fun (s947 : Int) => s947) n i948 s947 = some o576) (p0).length (fun a ha => ⟨0, 0, Nat.zero_add _, ha.ag, hst.keep [0] rfl, ho577⟩) ?_
  rintro n945 a w1 ⟨i948, s947, hi949, ha, hst, hl946⟩
  refine CW.go ?_ ha
  refine rg ?_
  refine pu 1 [(14, .bool (decide ((i948 : Int) < ((p0).length : Int))))] (nx (CW.seq ?_))
  rcases bft (decide ((i948 : Int) < ((p0).length : Int))) with hc950 | hc950
  ·rcases n945 with _ | n945
   ·exact (cnt0 hi949 hc950).elim
   refine CW.cond_t rfl hc950 (CW.skip (QW.next (CW.seq (CW.block (rg ?_)))))
   refine pu 2 [(5, I (i948 : Int))] (nx (rg ?_))
   refine pu 1 [(6, I 1)] (nx (CW.seq (rg ?_)))
   refine pu 3 [(16, .slice a18 (r12).length c19), (17, I ((r12).length : Int)), (18, I 0)] (nx ?_)
   obtain ⟨o1041, ho1042, hl946⟩ := bs hl946
   refine CW.cutK (fun a w1 => Rep 38 [(3, .slice a18 (r12).length c19), (4, I s947), (6, I o1041), (12, I ((p0).length : Int)), (13, I (i948 : Int))] a ∧ St w (fp []) w1 [rowI (.slice a18 (r12).length c19) 138 enc_api_Loop 3 r12]) ?_ ?_
   ·refine CW.block ?_
    refine CW.loop (fun n a w1 => ∃ (i1103 : Nat) (s1102 : Int), i1103 + n = (r12).length ∧ Rep 38 [(3, .slice a18 (r12).length c19), (4, I s947), (5, I (i948 : Int)), (6, I s1102), (12, I ((p0).length : Int)), (13, I (i948 : Int)), (16, .slice a18 (r12).length c19), (17, I ((r12).length : Int)), (18, I (i1103 : Int))] a ∧ St w (fp []) w1 [rowI (.slice a18 (r12).length c19) 138 enc_api_Loop 3 r12] ∧ forN (flow_cost_l2 r12 i948) (fun (s1102 : Int) => s1102) n i1103 s1102 = some o1041) (r12).length (fun a ha => ⟨0, 1, Nat.zero_add _, ha.ag, hst.keep [0] rfl, ho1042⟩) ?_
    rintro n1100 a w1 ⟨i1103, s1102, hi1104, ha, hst, hl1101⟩
    refine CW.go ?_ ha
    refine rg ?_
    refine pu 1 [(19, .bool (decide ((i1103 : Int) < ((r12).length : Int))))] (nx (CW.seq ?_))
    rcases bft (decide ((i1103 : Int) < ((r12).length : Int))) with hc1105 | hc1105
    ·rcases n1100 with _ | n1100
     ·exact (cnt0 hi1104 hc1105).elim
     refine CW.cond_t rfl hc1105 (CW.skip (QW.next (CW.seq (CW.block (rg ?_)))))
     obtain ⟨x1115, hx1116, hl1101⟩ := bs hl1101
     obtain ⟨g1118, o1119, c1120, hv1117⟩ := hst.rowv 0 rfl hx1116
     refine OW.idx 138 3 rfl rfl rfl rfl hv1117 rfl (idx_some hx1116).1 (idx_some hx1116).2.1 (by kernel_rfl) (by kernel_rfl) ?_
     refine OW.ldN (cs := enc_api_Loop x1115) rfl rfl rfl rfl (by kernel_rfl) (by kernel_rfl) (hst.rowc 0 rfl (fun _ => rfl) hx1116 hv1117) ?_
     refine OW.alloc hst rfl rfl rfl [I 0, I 0, I 0] (by kernel_rfl) ?_
     intro b1121 w1122 hst
     refine OW.stB hst 1 rfl rfl rfl rfl rfl (by kernel_rfl) rfl rfl [I x1115.Head, I x1115.At, I x1115.Bound] rfl ?_
     intro w1123 hst
     refine nx (rg ?_)
     refine OW.ldN (cs := [I x1115.Head, I x1115.At, I x1115.Bound]) rfl rfl rfl rfl (by kernel_rfl) (by kernel_rfl) (hst.blkN 1 rfl 0 3) ?_
     refine pu 1 [(23, I (i948 : Int))] ?_
     obtain ⟨r1128, hr1129, hl1101⟩ := bs hl1101
     refine OW.fn rfl rfl rfl rfl (by kernel_rfl) (flow_in_ok _ x1115 (i948 : Int) r1128 hr1129 (hst.part [] rfl)) ?_
     rintro e w1130 ⟨rfl, hst1131⟩
     refine ⟨_, rfl, ?_⟩
     have hst := hst.join (idx := []) (rest := [0, 1]) rfl hst1131
     refine nx ?_
     refine br (r1128) hl1101 (fun hl1101 hc1132 => ?_) (fun hl1101 hc1132 => ?_)
     ·refine CW.region ?_
      refine pu 2 [(25, I s1102), (26, .pointer (some ⟨b1121, 2, none⟩))] ?_
      refine OW.ld rfl rfl rfl rfl (by kernel_rfl) (hst.blk 1 rfl rfl) ?_
      refine pu 4 [(6, I (imin (w64 (s1102 * (w64 (x1115.Bound + 1)))) 257))] (OW.nil rfl (QW.block_normal (QW.next (CW.region ?_))))
      refine pu 2 [(18, I (w64 ((i1103 : Int) + 1)))] (OW.nil rfl ?_)
      refine QW.say 18 rfl (congrArg (Value.int .i64) (w64_cnt hc1105 l17)) ?_
      exact QW.meet (fun a ha => ⟨n1100, Nat.lt_succ_self _, i1103 + 1, (imin (w64 (s1102 * (w64 (x1115.Bound + 1)))) 257), cnt_next hi1104, ha.ag, hst.keep [0] rfl, hl1101⟩)
     refine CW.skip (QW.block_normal (QW.next (CW.region ?_)))
     refine pu 2 [(18, I (w64 ((i1103 : Int) + 1)))] (OW.nil rfl ?_)
     refine QW.say 18 rfl (congrArg (Value.int .i64) (w64_cnt hc1105 l17)) ?_
     exact QW.meet (fun a ha => ⟨n1100, Nat.lt_succ_self _, i1103 + 1, s1102, cnt_next hi1104, ha.ag, hst.keep [0] rfl, hl1101⟩)
    rcases n1100 with _ | n1100
    ·refine CW.cond_f rfl hc1105 ?_
     refine CW.exit (QW.then_exit (QW.then_exit ?_))
     refine QW.block_here ?_
     obtain rfl := inj hl1101
     exact QW.meet (fun a ha => ⟨ha.ag, hst.keep [0] rfl⟩)
    exact (cnt1 hi1104 hc1105).elim
   rintro a w1 ⟨ha, hst⟩
   refine CW.go ?_ ha
   refine CW.region ?_
   refine pu 5 [(4, I (imin (w64 (s947 + o1041)) 257))] (OW.nil rfl (QW.block_normal (QW.next (CW.region ?_))))
   refine pu 2 [(13, I (w64 ((i948 : Int) + 1)))] (OW.nil rfl ?_)
   refine QW.say 13 rfl (congrArg (Value.int .i64) (w64_cnt hc950 l1)) ?_
   exact QW.meet (fun a ha => ⟨n945, Nat.lt_succ_self _, i948 + 1, (imin (w64 (s947 + o1041)) 257), cnt_next hi949, ha.ag, hst.keep [0] rfl, hl946⟩)
  rcases n945 with _ | n945
  ·refine CW.cond_f rfl hc950 ?_
   refine CW.exit (QW.then_exit (QW.then_exit ?_))
   refine QW.block_here ?_
   obtain rfl := inj hl946
   exact QW.meet (fun a ha => ⟨ha.ag, hst.keep [] rfl⟩)
  exact (cnt1 hi949 hc950).elim
 rintro a w1 ⟨ha, hst⟩
 refine CW.go ?_ ha
 refine rg ?_
 refine pu 2 [(2, I o576)] (nx (CW.ret ?_))
 obtain rfl := inj hF
 refine QW.ret1 rfl rfl ?_
 exact ⟨rfl, hst.keep [] rfl⟩
theorem flow_Check_ok (w : World) (v0 : Value) (p0 : List api_Inst) (r : Int × Int) (hF : flow_Check p0 = some r)
    (hst : St w (fp []) w []) (h0 : Rd w (fp []) v0 enc_api_Inst 5 p0) (hT0 : Rd w (fp []) (.slice (some ⟨0, 0, none⟩) 23 23) enc_ops_form 2 tab_g0) :
    Calls Tryd.prog 31 [v0].toArray w (fun e w' => e = .returned (.tuple #[I r.1, I r.2]) ∧ St w (fp []) w' []) := by
 refine CW.start (N := 37) Tryd.func31 rfl rfl rfl ?_
 obtain ⟨l1, a2, c3, rfl⟩ := h0.len
 refine rg ?_
 refine pu 2 [] (nx (CW.seq (CW.block (rg ?_))))
 refine pu 4 [(8, .bool (((p0).length : Int) == 0))] (nx ?_)
 refine br ((((p0).length : Int) == 0)) hF (fun hF hc4 => ?_) (fun hF hc4 => ?_)
 ·refine rg ?_
  refine pu 2 [(2, I 0), (3, I 10)] (nx (CW.ret (QW.block_ret (QW.then_ret ?_))))
  obtain rfl := inj hF
  refine QW.ret2 rfl rfl rfl ?_
  exact ⟨rfl, hst.keep [] rfl⟩
 refine rg ?_
 refine pu 4 [(12, .bool (decide (((p0).length : Int) > 64)))] (nx ?_)
 refine br (decide (((p0).length : Int) > 64)) hF (fun hF hc5 => ?_) (fun hF hc5 => ?_)
 ·refine rg ?_
  refine pu 2 [(2, I 0), (3, I 11)] (nx (CW.ret (QW.block_ret (QW.then_ret ?_))))
  obtain rfl := inj hF
  refine QW.ret2 rfl rfl rfl ?_
  exact ⟨rfl, hst.keep [] rfl⟩
 refine CW.skip (QW.block_normal (QW.next (CW.seq (rg ?_))))
 refine pu 1 [(17, .slice a2 (p0).length c3)] ?_
 obtain ⟨r10, hr11, hF⟩ := bs hF
 refine OW.fn rfl rfl rfl rfl (by kernel_rfl) (flow_places_ok _ (.slice a2 (p0).length c3) p0 r10 hr11 (hst.part [] rfl) (h0.give hst []) (hT0.give hst [])) ?_
 rintro e w12 ⟨rfl, hst13⟩
 refine ⟨_, rfl, ?_⟩
 have hst := hst.join (idx := []) (rest := []) rfl hst13
 refine pu 5 [(4, I r10.1), (5, I r10.2)] (nx (rg ?_))
 refine pu 2 [(22, .bool (r10.2 != 0))] (nx ?_)
 refine br ((r10.2 != 0)) hF (fun hF hc14 => ?_) (fun hF hc14 => ?_)
 ·refine rg ?_
  refine pu 4 [(2, I r10.1), (3, I r10.2)] (nx (CW.ret (QW.then_ret ?_)))
  obtain rfl := inj hF
  refine QW.ret2 rfl rfl rfl ?_
  exact ⟨rfl, hst.keep [] rfl⟩
 refine CW.skip (QW.next (CW.seq (rg ?_)))
 refine pu 1 [(26, .slice a2 (p0).length c3)] ?_
 obtain ⟨r19, hr20, hF⟩ := bs hF
 refine OW.fn rfl rfl rfl rfl (by kernel_rfl) (flow_nested_ok _ (.slice a2 (p0).length c3) p0 r19 hr20 (hst.part [] rfl) (h0.give hst []) (hT0.give hst [])) ?_
 rintro e w21 ⟨rfl, hst22⟩
 refine ⟨_, rfl, ?_⟩
 have hst := hst.join (idx := []) (rest := []) rfl hst22
 refine pu 5 [(6, I r19.1), (7, I r19.2)] (nx (rg ?_))
 refine pu 2 [(31, .bool (r19.2 != 0))] (nx ?_)
 refine br ((r19.2 != 0)) hF (fun hF hc23 => ?_) (fun hF hc23 => ?_)
 ·refine rg ?_
  refine pu 4 [(2, I r19.1), (3, I r19.2)] (nx (CW.ret (QW.then_ret ?_)))
  obtain rfl := inj hF
  refine QW.ret2 rfl rfl rfl ?_
  exact ⟨rfl, hst.keep [] rfl⟩
 refine CW.skip (QW.next (CW.seq (rg ?_)))
 refine pu 1 [(34, .slice a2 (p0).length c3)] ?_
 obtain ⟨r28, hr29, hF⟩ := bs hF
 refine OW.fn rfl rfl rfl rfl (by kernel_rfl) (flow_cost_ok _ (.slice a2 (p0).length c3) p0 r28 hr29 (hst.part [] rfl) (h0.give hst [])) ?_
 rintro e w30 ⟨rfl, hst31⟩
 refine ⟨_, rfl, ?_⟩
 have hst := hst.join (idx := []) (rest := []) rfl hst31
 refine pu 1 [(36, .bool (decide (r28 > 256)))] (nx ?_)
 refine br (decide (r28 > 256)) hF (fun hF hc32 => ?_) (fun hF hc32 => ?_)
 ·refine rg ?_
  refine pu 2 [(2, I 0), (3, I 32)] (nx (CW.ret (QW.then_ret ?_)))
  obtain rfl := inj hF
  refine QW.ret2 rfl rfl rfl ?_
  exact ⟨rfl, hst.keep [] rfl⟩
 refine CW.skip (QW.next (rg ?_))
 refine pu 2 [(2, I 0), (3, I 0)] (nx (CW.ret ?_))
 obtain rfl := inj hF
 refine QW.ret2 rfl rfl rfl ?_
 exact ⟨rfl, hst.keep [] rfl⟩
theorem flow_Loops_ok (w : World) (v0 : Value) (p0 : List api_Inst) (r : (List api_Loop) × Int) (hF : flow_Loops p0 = some r)
    (hst : St w (fp []) w []) (h0 : Rd w (fp []) v0 enc_api_Inst 5 p0) (hT0 : Rd w (fp []) (.slice (some ⟨0, 0, none⟩) 23 23) enc_ops_form 2 tab_g0) :
    Calls Tryd.prog 32 [v0].toArray w (fun e w' => ∃ (x0 : Value), e = .returned (.tuple #[x0, I r.2]) ∧ St w (fp []) w' [rowI x0 138 enc_api_Loop 3 r.1]) := by
 refine CW.start (N := 16) Tryd.func32 rfl rfl rfl ?_
 obtain ⟨l1, a2, c3, rfl⟩ := h0.len
 refine rg ?_
 refine pu 2 [] (nx (CW.seq (rg ?_)))
 refine pu 1 [(7, .slice a2 (p0).length c3)] ?_
 obtain ⟨r8, hr9, hF⟩ := bs hF
 refine OW.fn rfl rfl rfl rfl (by kernel_rfl) (flow_Check_ok _ (.slice a2 (p0).length c3) p0 r8 hr9 (hst.part [] rfl) (h0.give hst []) (hT0.give hst [])) ?_
 rintro e w10 ⟨rfl, hst11⟩
 refine ⟨_, rfl, ?_⟩
 have hst := hst.join (idx := []) (rest := []) rfl hst11
 refine pu 5 [(5, I r8.2)] (nx (rg ?_))
 refine pu 2 [(12, .bool (r8.2 != 0))] (nx ?_)
 refine br ((r8.2 != 0)) hF (fun hF hc12 => ?_) (fun hF hc12 => ?_)
 ·refine rg ?_
  refine pu 3 [(2, .slice none 0 0), (3, I r8.2)] (nx (CW.ret (QW.then_ret ?_)))
  have hst := hst.nilRow api_Loop 138 enc_api_Loop 3
  obtain rfl := inj hF
  refine QW.ret2 rfl rfl rfl ?_
  exact ⟨(.slice none 0 0), rfl, hst.keep [0] rfl⟩
 refine CW.skip (QW.next (rg ?_))
 refine pu 1 [(14, .slice a2 (p0).length c3)] ?_
 obtain ⟨r21, hr22, hF⟩ := bs hF
 refine OW.fn rfl rfl rfl rfl (by kernel_rfl) (flow_loops_ok _ (.slice a2 (p0).length c3) p0 r21 hr22 (hst.part [] rfl) (h0.give hst [])) ?_
 rintro e w23 ⟨v25, rfl, hst24⟩
 refine ⟨_, rfl, ?_⟩
 have hst := hst.join (idx := []) (rest := []) rfl hst24
 obtain ⟨l26, a27, c28, rfl⟩ := hst.len 0 rfl
 refine pu 2 [(2, .slice a27 (r21).length c28), (3, I 0)] (nx (CW.ret ?_))
 obtain rfl := inj hF
 refine QW.ret2 rfl rfl rfl ?_
 exact ⟨(.slice a27 (r21).length c28), rfl, hst.keep [0] rfl⟩
theorem ops_Writes_ok (w : World) (p0 : api_Inst) (r : Int × Bool) (hF : ops_Writes p0 = some r)
    (hst : St w (fp []) w []) (hT0 : Rd w (fp []) (.slice (some ⟨0, 0, none⟩) 23 23) enc_ops_form 2 tab_g0) :
    Calls Tryd.prog 48 [.agg [I p0.Op, I p0.D, I p0.A, I p0.B, I p0.Imm].toArray].toArray w (fun e w' => e = .returned (.tuple #[I r.1, .bool r.2]) ∧ St w (fp []) w' []) := by
 refine CW.start (N := 22) Tryd.func48 rfl rfl rfl (rg ?_)
 refine OW.box hst rfl rfl rfl rfl [I p0.Op, I p0.D, I p0.A, I p0.B, I p0.Imm] rfl ?_
 intro b3 w4 hst
 refine pu 2 [] (nx (CW.seq (rg ?_)))
 refine OW.ldN (cs := [I p0.Op, I p0.D, I p0.A, I p0.B, I p0.Imm]) rfl rfl rfl rfl (by kernel_rfl) (by kernel_rfl) (hst.blkN 0 rfl 0 5) ?_
 obtain ⟨r9, hr10, hF⟩ := bs hF
 refine OW.fn rfl rfl rfl rfl (by kernel_rfl) (ops_right_ok _ p0 r9 hr10 (hst.part [] rfl) (hT0.give hst [])) ?_
 rintro e w11 ⟨rfl, hst12⟩
 refine ⟨_, rfl, ?_⟩
 have hst := hst.join (idx := []) (rest := [0]) rfl hst12
 refine pu 1 [(8, .bool (!r9))] (nx ?_)
 refine br ((!r9)) hF (fun hF hc13 => ?_) (fun hF hc13 => ?_)
 ·refine rg ?_
  refine pu 2 [(2, I 0), (3, .bool false)] (nx (CW.ret (QW.then_ret ?_)))
  obtain rfl := inj hF
  refine QW.ret2 rfl rfl rfl ?_
  exact ⟨rfl, hst.keep [] rfl⟩
 refine CW.skip (QW.next (rg ?_))
 refine pu 1 [(10, Pt b3)] ?_
 refine OW.ld rfl rfl rfl rfl (by kernel_rfl) (hst.blk 0 rfl rfl) ?_
 obtain ⟨r21, hr22, hF⟩ := bs hF
 refine OW.fn rfl rfl rfl rfl (by kernel_rfl) (ops_of_ok _ p0.Op r21 hr22 (hst.part [] rfl) (hT0.give hst [])) ?_
 rintro e w23 ⟨rfl, hst24⟩
 refine ⟨_, rfl, ?_⟩
 have hst := hst.join (idx := []) (rest := [0]) rfl hst24
 refine pu 3 [(13, .agg [.string r21.1.name, .string r21.1.fields].toArray), (14, .bool r21.2)] ?_
 refine OW.alloc hst rfl rfl rfl [.string ByteArray.empty, .string ByteArray.empty] (by kernel_rfl) ?_
 intro b25 w26 hst
 refine OW.stB hst 1 rfl rfl rfl rfl rfl (by kernel_rfl) rfl rfl [.string r21.1.name, .string r21.1.fields] rfl ?_
 intro w27 hst
 refine pu 1 [] (nx (CW.seq (rg ?_)))
 refine OW.ldN (cs := [.string r21.1.name, .string r21.1.fields]) rfl rfl rfl rfl (by kernel_rfl) (by kernel_rfl) (hst.blkN 1 rfl 0 2) ?_
 obtain ⟨r32, hr33, hF⟩ := bs hF
 refine OW.fn rfl rfl rfl rfl (by kernel_rfl) (ops_form_uses_ok _ r21.1 100 r32 hr33 (hst.part [] rfl)) ?_
 rintro e w34 ⟨rfl, hst35⟩
 refine ⟨_, rfl, ?_⟩
 have hst := hst.join (idx := []) (rest := [0, 1]) rfl hst35
 refine nx ?_
 refine br (r32) hF (fun hF hc36 => ?_) (fun hF hc36 => ?_)
 ·refine rg ?_
  refine pu 1 [(17, .pointer (some ⟨b3, 1, none⟩))] ?_
  refine OW.ld rfl rfl rfl rfl (by kernel_rfl) (hst.blk 0 rfl rfl) ?_
  refine pu 2 [(2, I p0.D), (3, .bool true)] (nx (CW.ret (QW.then_ret ?_)))
  obtain rfl := inj hF
  refine QW.ret2 rfl rfl rfl ?_
  exact ⟨rfl, hst.keep [] rfl⟩
 refine CW.skip (QW.next (CW.seq ?_))
 refine CW.still (by kernel_rfl) (by kernel_rfl) ?_
 intro w39 hch40
 have hst := hst.same hch40
 refine OS.pure 1 [(19, Pt b3)] rfl (by kernel_rfl) ?_
 refine OS.ld rfl rfl rfl rfl rfl (by kernel_rfl) (hst.blk 0 rfl rfl) ?_
 refine OS.pure 3 [(2, I 0), (3, .bool (p0.Op == 21))] rfl (by kernel_rfl) ?_
 refine OS.fin rfl (QW.next (CW.ret ?_))
 obtain rfl := inj hF
 refine QW.ret2 rfl rfl rfl ?_
 exact ⟨rfl, hst.keep [] rfl⟩
theorem span_Full_ok (w : World)  (r : api_Span) (hF : span_Full  = some r)
    (hst : St w (fp []) w []) :
    Calls Tryd.prog 50 [].toArray w (fun e w' => e = .returned (.agg [U r.Lo, U r.Hi].toArray) ∧ St w (fp []) w' []) := by
 refine CW.start (N := 2) Tryd.func50 rfl rfl rfl (rg ?_)
 refine OW.alloc hst rfl rfl rfl [U 0, U 0] (by kernel_rfl) ?_
 intro b3 w4 hst
 refine nx (rg ?_)
 refine pu 1 [(1, .agg [U 0, U 18446744073709551615].toArray)] ?_
 refine OW.stB hst 0 rfl rfl rfl rfl rfl (by kernel_rfl) rfl rfl [U 0, U 18446744073709551615] rfl ?_
 intro w6 hst
 refine nx (CW.ret ?_)
 obtain rfl := inj hF
 refine QW.ret_c rfl rfl (run_loadN (cs := [U 0, U 18446744073709551615]) (by kernel_rfl) (by kernel_rfl) (hst.blkN 0 rfl 0 2)) ?_
 exact ⟨rfl, hst.keep [] rfl⟩
theorem judge_number_ok (w : World) (p0 : api_Span) (r : api_Type) (hF : judge_number p0 = some r)
    (hst : St w (fp []) w []) :
    Calls Tryd.prog 49 [.agg [U p0.Lo, U p0.Hi].toArray].toArray w (fun e w' => e = .returned (.agg [I r.Kind, U r.Span.Lo, U r.Span.Hi, I r.Map].toArray) ∧ St w (fp []) w' []) := by
 refine CW.start (N := 5) Tryd.func49 rfl rfl rfl (rg ?_)
 refine OW.box hst rfl rfl rfl rfl [U p0.Lo, U p0.Hi] rfl ?_
 intro b5 w6 hst
 refine OW.alloc hst rfl rfl rfl [I 0, U 0, U 0, I 0] (by kernel_rfl) ?_
 intro b7 w8 hst
 refine nx (rg ?_)
 refine OW.ldN (cs := [U p0.Lo, U p0.Hi]) rfl rfl rfl rfl (by kernel_rfl) (by kernel_rfl) (hst.blkN 0 rfl 0 2) ?_
 refine pu 1 [(4, .agg [I 1, U p0.Lo, U p0.Hi, I 0].toArray)] ?_
 refine OW.stB hst 1 rfl rfl rfl rfl rfl (by kernel_rfl) rfl rfl [I 1, U p0.Lo, U p0.Hi, I 0] rfl ?_
 intro w10 hst
 refine nx (CW.ret ?_)
 obtain rfl := inj hF
 refine QW.ret_c rfl rfl (run_loadN (cs := [I 1, U p0.Lo, U p0.Hi, I 0]) (by kernel_rfl) (by kernel_rfl) (hst.blkN 1 rfl 0 4)) ?_
 exact ⟨rfl, hst.keep [] rfl⟩
theorem judge_judge_widen_ok (w : World) (wb : World) (Sb : List Nat) (v0 : Value) (S0 : List Nat) (p0 : judge_judge) (p1 : Int) (r : judge_judge) (hF : judge_judge_widen p0 p1 = some r)
    (hst : St w (fp [itI (R_t83 wb Sb) [v0] S0 p0]) w [itI (R_t83 wb Sb) [v0] S0 p0]) (hb : Bor wb Sb w (fp [itI (R_t83 wb Sb) [v0] S0 p0])) (hT0 : Rd w (fp [itI (R_t83 wb Sb) [v0] S0 p0]) (.slice (some ⟨0, 0, none⟩) 23 23) enc_ops_form 2 tab_g0) :
    Calls Tryd.prog 33 [v0, I p1].toArray w (fun e w' => ∃ (s0 : List Nat), e = .returned (.tuple #[]) ∧ St w (fp [itI (R_t83 wb Sb) [v0] S0 p0]) w' [itI (R_t83 wb Sb) [v0] s0 r]) := by
 refine CW.start (N := 78) Tryd.func33 rfl rfl rfl ?_
 obtain ⟨b1, rfl⟩ := hst.fptr 0 rfl
 refine CW.seq ?_
 obtain ⟨v2, S3, v4, S5, v6, S7, v8, S9, v10, S11, hst⟩ := hst.openQ5 0 rfl rfl rfl rfl rfl rfl
 have hbo12 := hst.borOut 1 rfl
 have hbr13 := hbo12.bor hb
 have hbo14 := hst.borOut 2 rfl
 have hbr15 := hbo14.bor hb
 have hst := hst.toRow1 3 rfl
 have hst := hst.toRow1 4 rfl
 have hst := hst.toRow1 5 rfl
 have hst := hst.keep [0, 3, 4, 5] rfl
 obtain ⟨l16, a17, c18, rfl⟩ := hbr13.len
 obtain ⟨l19, a20, c21, rfl⟩ := hbr15.len
 obtain ⟨l22, a23, c24, rfl⟩ := hst.len 1 rfl
 obtain ⟨l25, a26, c27, rfl⟩ := hst.len 2 rfl
 obtain ⟨l28, a29, c30, rfl⟩ := hst.len 3 rfl
 have hst : St _ _ _ [blkI b1 109 [.slice a17 (p0.Module.Maps).length c18, .slice a20 (p0.Module.Code).length c21, .slice a23 (p0.came).length c24, .slice a26 (p0.any).length c27, .slice a29 (p0.loops).length c30], _, _, _] := hst
 refine CW.region ?_
 refine pu 3 [(12, .pointer (some ⟨b1, 4, none⟩))] ?_
 refine OW.ld rfl rfl rfl rfl (by kernel_rfl) (hst.blk 0 rfl rfl) ?_
 refine pu 2 [(14, I ((p0.loops).length : Int)), (15, I 0)] (nx ?_)
 obtain ⟨o1835, ho1836, hF⟩ := bs hF
 refine CW.cutQ (fun a w1 => ∃ (S1834 : List Nat), Rep 78 [] a ∧ St w (fp [itI (R_t83 wb Sb) [Pt b1] S0 p0]) w1 [itI (R_t83 wb Sb) [Pt b1] S1834 o1835]) ?_ ?_
 ·refine CW.block ?_
  refine CW.loop (fun n a w1 => ∃ (i3038 : Nat) (s3036 : (List (Nat → api_Type))) (v3037 : Value), i3038 + n = (p0.loops).length ∧ Rep 78 [(0, Pt b1), (1, I p1), (13, .slice a29 (p0.loops).length c30), (14, I ((p0.loops).length : Int)), (15, I (i3038 : Int))] a ∧ St w (fp [itI (R_t83 wb Sb) [Pt b1] S0 p0]) w1 [blkI b1 109 [.slice a17 (p0.Module.Maps).length c18, .slice a20 (p0.Module.Code).length c21, v3037, .slice a26 (p0.any).length c27, .slice a29 (p0.loops).length c30], rowI v3037 119 (arrC (enc_api_Type) 8) 32 s3036, rowI (.slice a26 (p0.any).length c27) 4 encBool 1 p0.any, rowI (.slice a29 (p0.loops).length c30) 138 enc_api_Loop 3 p0.loops] ∧ forN (judge_judge_widen_l1 p0 p1) (fun (s3036 : (List (Nat → api_Type))) => (judge_judge.mk p0.Module s3036 p0.any p0.loops)) n i3038 s3036 = some o1835) (p0.loops).length (fun a ha => ⟨0, p0.came, (.slice a23 (p0.came).length c24), Nat.zero_add _, ha.ag, hst.keep [0, 1, 2, 3] rfl, ho1836⟩) ?_
  rintro n3034 a w1 ⟨i3038, s3036, v3037, hi3039, ha, hst, hl3035⟩
  refine CW.go ?_ ha
  obtain ⟨l3040, a3041, c3042, rfl⟩ := hst.len 1 rfl
  refine rg ?_
  refine pu 1 [(16, .bool (decide ((i3038 : Int) < ((p0.loops).length : Int))))] (nx (CW.seq ?_))
  rcases bft (decide ((i3038 : Int) < ((p0.loops).length : Int))) with hc3043 | hc3043
  ·rcases n3034 with _ | n3034
   ·exact (cnt0 hi3039 hc3043).elim
   refine CW.cond_t rfl hc3043 (CW.skip (QW.next (CW.seq (CW.block (rg ?_)))))
   obtain ⟨x3053, hx3054, hl3035⟩ := bs hl3035
   obtain ⟨g3056, o3057, c3058, hv3055⟩ := hst.rowv 3 rfl hx3054
   refine OW.idx 138 3 rfl rfl rfl rfl hv3055 rfl (idx_some hx3054).1 (idx_some hx3054).2.1 (by kernel_rfl) (by kernel_rfl) ?_
   refine OW.ldN (cs := enc_api_Loop x3053) rfl rfl rfl rfl (by kernel_rfl) (by kernel_rfl) (hst.rowc 3 rfl (fun _ => rfl) hx3054 hv3055) ?_
   refine OW.alloc hst rfl rfl rfl [I 0, I 0, I 0] (by kernel_rfl) ?_
   intro b3059 w3060 hst
   refine OW.stB hst 4 rfl rfl rfl rfl rfl (by kernel_rfl) rfl rfl [I x3053.Head, I x3053.At, I x3053.Bound] rfl ?_
   intro w3061 hst
   refine nx (CW.seq (rg ?_))
   refine pu 1 [(19, Pt b3059)] ?_
   refine OW.ld rfl rfl rfl rfl (by kernel_rfl) (hst.blk 4 rfl rfl) ?_
   refine pu 2 [(22, .bool (x3053.Head != p1))] (nx ?_)
   refine br ((x3053.Head != p1)) hl3035 (fun hl3035 hc3062 => ?_) (fun hl3035 hc3062 => ?_)
   ·refine CW.exit (QW.then_exit ?_)
    refine QW.block_here (QW.next (CW.region ?_))
    refine pu 2 [(15, I (w64 ((i3038 : Int) + 1)))] (OW.nil rfl ?_)
    refine QW.say 15 rfl (congrArg (Value.int .i64) (w64_cnt hc3043 l28)) ?_
    exact QW.meet (fun a ha => ⟨n3034, Nat.lt_succ_self _, i3038 + 1, s3036, (.slice a3041 (s3036).length c3042), cnt_next hi3039, ha.ag, hst.keep [0, 1, 2, 3] rfl, hl3035⟩)
   refine CW.skip (QW.next (CW.seq ?_))
   refine CW.still (by kernel_rfl) (by kernel_rfl) ?_
   intro w3069 hch3070
   have hst := hst.same hch3070
   refine OS.pure 4 [(26, .pointer (some ⟨b1, 1, none⟩))] rfl (by kernel_rfl) ?_
   refine OS.ld rfl rfl rfl rfl rfl (by kernel_rfl) (hst.blk 0 rfl rfl) ?_
   refine OS.pure 1 [(28, Pt b3059)] rfl (by kernel_rfl) ?_
   refine OS.ld rfl rfl rfl rfl rfl (by kernel_rfl) (hst.blk 4 rfl rfl) ?_
   refine OS.pure 1 [(30, .pointer (some ⟨b3059, 1, none⟩))] rfl (by kernel_rfl) ?_
   refine OS.ld rfl rfl rfl rfl rfl (by kernel_rfl) (hst.blk 4 rfl rfl) ?_
   refine OS.pure 1 [(32, I (w64 (x3053.At + 1)))] rfl (by kernel_rfl) ?_
   obtain ⟨ys3071, hcut3072, hl3035⟩ := bs hl3035
   refine OS.op (v := .slice (shd a20 c21 (Int.toNat x3053.Head) 5) (ys3071).length (c21 - Int.toNat x3053.Head)) rfl rfl rfl rfl rfl (fun a ha => sub_run (e := 76) 5 rfl rfl rfl rfl hcut3072 hbr15.cap (by kernel_rfl) (by kernel_rfl) a _ ha) ?_
   have hp3073 := hbr15.part hcut3072
   refine OS.pure 2 [(34, I ((ys3071).length : Int)), (35, I 0)] rfl (by kernel_rfl) ?_
   refine OS.fin rfl (QW.next ?_)
   obtain ⟨o3352, ho3353, hl3035⟩ := bs hl3035
   refine CW.cutQ (fun a w1 => ∃ (v3351 : Value), Rep 78 [(0, Pt b1), (1, I p1), (13, .slice a29 (p0.loops).length c30), (14, I ((p0.loops).length : Int)), (15, I (i3038 : Int))] a ∧ St w (fp [itI (R_t83 wb Sb) [Pt b1] S0 p0]) w1 [blkI b1 109 [.slice a17 (p0.Module.Maps).length c18, .slice a20 (p0.Module.Code).length c21, v3351, .slice a26 (p0.any).length c27, .slice a29 (p0.loops).length c30], rowI v3351 119 (arrC (enc_api_Type) 8) 32 o3352, rowI (.slice a26 (p0.any).length c27) 4 encBool 1 p0.any, rowI (.slice a29 (p0.loops).length c30) 138 enc_api_Loop 3 p0.loops]) ?_ ?_
   ·refine CW.block ?_
    refine CW.loop (fun n a w1 => ∃ (i3539 : Nat) (s3537 : (List (Nat → api_Type))) (v3538 : Value), i3539 + n = (ys3071).length ∧ Rep 78 [(0, Pt b1), (1, I p1), (13, .slice a29 (p0.loops).length c30), (14, I ((p0.loops).length : Int)), (15, I (i3038 : Int)), (33, .slice (shd a20 c21 (Int.toNat x3053.Head) 5) (ys3071).length (c21 - Int.toNat x3053.Head)), (34, I ((ys3071).length : Int)), (35, I (i3539 : Int))] a ∧ St w (fp [itI (R_t83 wb Sb) [Pt b1] S0 p0]) w1 [blkI b1 109 [.slice a17 (p0.Module.Maps).length c18, .slice a20 (p0.Module.Code).length c21, v3538, .slice a26 (p0.any).length c27, .slice a29 (p0.loops).length c30], rowI v3538 119 (arrC (enc_api_Type) 8) 32 s3537, rowI (.slice a26 (p0.any).length c27) 4 encBool 1 p0.any, rowI (.slice a29 (p0.loops).length c30) 138 enc_api_Loop 3 p0.loops] ∧ forN (judge_judge_widen_l2 p1 ys3071) (fun (s3537 : (List (Nat → api_Type))) => s3537) n i3539 s3537 = some o3352) (ys3071).length (fun a ha => ⟨0, s3036, (.slice a3041 (s3036).length c3042), Nat.zero_add _, ha.ag, hst.keep [0, 1, 2, 3] rfl, ho3353⟩) ?_
    rintro n3535 a w1 ⟨i3539, s3537, v3538, hi3540, ha, hst, hl3536⟩
    refine CW.go ?_ ha
    obtain ⟨l3541, a3542, c3543, rfl⟩ := hst.len 1 rfl
    refine rg ?_
    refine pu 1 [(36, .bool (decide ((i3539 : Int) < ((ys3071).length : Int))))] (nx (CW.seq ?_))
    rcases bft (decide ((i3539 : Int) < ((ys3071).length : Int))) with hc3544 | hc3544
    ·rcases n3535 with _ | n3535
     ·exact (cnt0 hi3540 hc3544).elim
     refine CW.cond_t rfl hc3544 (CW.skip (QW.next (CW.seq (CW.block (rg ?_)))))
     obtain ⟨x3554, hx3555, hl3536⟩ := bs hl3536
     obtain ⟨g3557, o3558, c3559, hv3556⟩ := hp3073.formv (fun _ => ⟨_, rfl⟩) hx3555
     refine OW.idx 76 5 rfl rfl rfl rfl hv3556 rfl (idx_some hx3555).1 (idx_some hx3555).2.1 (by kernel_rfl) (by kernel_rfl) ?_
     refine OW.ldN (cs := enc_api_Inst x3554) rfl rfl rfl rfl (by kernel_rfl) (by kernel_rfl) (hp3073.cellv hst hx3555 hv3556) ?_
     refine OW.alloc hst rfl rfl rfl [I 0, I 0, I 0, I 0, I 0] (by kernel_rfl) ?_
     intro b3560 w3561 hst
     refine OW.stB hst 4 rfl rfl rfl rfl rfl (by kernel_rfl) rfl rfl [I x3554.Op, I x3554.D, I x3554.A, I x3554.B, I x3554.Imm] rfl ?_
     intro w3562 hst
     refine nx (rg ?_)
     refine OW.ldN (cs := [I x3554.Op, I x3554.D, I x3554.A, I x3554.B, I x3554.Imm]) rfl rfl rfl rfl (by kernel_rfl) (by kernel_rfl) (hst.blkN 4 rfl 0 5) ?_
     obtain ⟨r3567, hr3568, hl3536⟩ := bs hl3536
     refine OW.fn rfl rfl rfl rfl (by kernel_rfl) (ops_Writes_ok _ x3554 r3567 hr3568 (hst.part [] rfl) (hT0.give hst [])) ?_
     rintro e w3569 ⟨rfl, hst3570⟩
     refine ⟨_, rfl, ?_⟩
     have hst := hst.join (idx := []) (rest := [0, 1, 2, 3, 4]) rfl hst3570
     refine pu 5 [(8, I r3567.1), (9, .bool r3567.2)] (nx (CW.seq (rg ?_)))
     refine pu 2 [(45, .bool (!r3567.2))] (nx ?_)
     refine br ((!r3567.2)) hl3536 (fun hl3536 hc3571 => ?_) (fun hl3536 hc3571 => ?_)
     ·refine CW.exit (QW.then_exit ?_)
      refine QW.block_here (QW.next (CW.region ?_))
      refine pu 2 [(35, I (w64 ((i3539 : Int) + 1)))] (OW.nil rfl ?_)
      refine QW.say 35 rfl (congrArg (Value.int .i64) (w64_cnt hc3544 (Nat.le_trans (cut_le hcut3072) l19))) ?_
      exact QW.meet (fun a ha => ⟨n3535, Nat.lt_succ_self _, i3539 + 1, s3537, (.slice a3542 (s3537).length c3543), cnt_next hi3540, ha.ag, hst.keep [0, 1, 2, 3] rfl, hl3536⟩)
     refine CW.skip (QW.next (rg ?_))
     refine pu 3 [(48, .pointer (some ⟨b1, 2, none⟩))] ?_
     refine OW.ld rfl rfl rfl rfl (by kernel_rfl) (hst.blk 0 rfl rfl) ?_
     refine pu 2 [(50, I p1), (51, I r3567.1)] ?_
     obtain ⟨x3581, hx3582, hl3536⟩ := bs hl3536
     obtain ⟨g3584, o3585, c3586, hv3583⟩ := hst.rowv 1 rfl hx3582
     refine OW.idx 119 32 rfl rfl rfl rfl hv3583 rfl (idx_some hx3582).1 (idx_some hx3582).2.1 (by kernel_rfl) (by kernel_rfl) ?_
     obtain ⟨i3587, hi3588, hl3536⟩ := bs hl3536
     refine OW.op (v := .pointer (some ⟨g3584, o3585 + Int.toNat p1 * 32 + 0 + Int.toNat r3567.1 * 4, none⟩)) rfl rfl rfl rfl (fun a ha => aidx_run (n := 8) 117 4 rfl rfl rfl (ain_some hi3588).1 (ain_some hi3588).2.1 (by kernel_rfl) (by kernel_rfl) a _ ha) ?_
     refine pu 1 [(54, .pointer (some ⟨g3584, o3585 + Int.toNat p1 * 32 + 0 + Int.toNat r3567.1 * 4, none⟩))] ?_
     refine OW.ld rfl rfl rfl rfl (by kernel_rfl) (cell_arr (hst.rowc 1 rfl (fun _ => rfl) hx3582 hv3583) enc_api_Type (fun _ => rfl) 8 x3581 0 rfl rfl hi3588 0 _ rfl) ?_
     refine pu 1 [(56, .bool ((x3581 i3587).Kind == 1))] (nx ?_)
     refine br (((x3581 i3587).Kind == 1)) hl3536 (fun hl3536 hc3589 => ?_) (fun hl3536 hc3589 => ?_)
     ·refine CW.plan (by kernel_rfl) ?_
      intro w3605 hch3606
      have hst := hst.same hch3606
      refine OA.pure [0, 1, 2] [(59, .pointer (some ⟨b1, 2, none⟩))] (by kernel_rfl) ?_
      refine OA.ld (i := 3) rfl (by kernel_rfl) rfl rfl rfl (by kernel_rfl) (hst.blk 0 rfl rfl) ?_
      refine OA.pure [4, 5] [(61, I p1), (62, I r3567.1)] (by kernel_rfl) ?_
      obtain ⟨g3608, o3609, c3610, hv3607⟩ := hst.rowv 1 rfl hx3582
      refine OA.idx (i := 8) 119 32 rfl (by kernel_rfl) rfl rfl rfl hv3607 rfl (idx_some hx3582).1 (idx_some hx3582).2.1 (by kernel_rfl) (by kernel_rfl) ?_
      refine OA.act (i := 6) [3] (by kernel_rfl) rfl rfl (by kernel_rfl) (by kernel_rfl) ?_
      obtain ⟨r3611, hr3612, hl3536⟩ := bs hl3536
      refine OW.fn rfl rfl rfl rfl (by kernel_rfl) (span_Full_ok _ r3611 hr3612 (hst.part [] rfl)) ?_
      rintro e w3613 ⟨rfl, hst3614⟩
      refine ⟨_, rfl, ?_⟩
      have hst := hst.join (idx := []) (rest := [0, 1, 2, 3, 4]) rfl hst3614
      refine OA.next ⟨(hst.blk 0 rfl rfl), trivial⟩ ?_
      refine OA.act (i := 7) [3] (by kernel_rfl) rfl rfl (by kernel_rfl) (by kernel_rfl) ?_
      obtain ⟨r3615, hr3616, hl3536⟩ := bs hl3536
      refine OW.fn rfl rfl rfl rfl (by kernel_rfl) (judge_number_ok _ r3611 r3615 hr3616 (hst.part [] rfl)) ?_
      rintro e w3617 ⟨rfl, hst3618⟩
      refine ⟨_, rfl, ?_⟩
      have hst := hst.join (idx := []) (rest := [0, 1, 2, 3, 4]) rfl hst3618
      refine OA.next ⟨(hst.blk 0 rfl rfl), trivial⟩ ?_
      refine OA.val (i := 9) (v := .pointer (some ⟨g3608, o3609 + Int.toNat p1 * 32 + 0 + Int.toNat r3567.1 * 4, none⟩)) rfl (by kernel_rfl) rfl rfl rfl rfl (fun a w ha => aidx_run (n := 8) 117 4 rfl rfl rfl (ain_some hi3588).1 (ain_some hi3588).2.1 (by kernel_rfl) (by kernel_rfl) a w ha) ?_
      refine OA.act (i := 10) [] (by kernel_rfl) rfl rfl (by kernel_rfl) (by kernel_rfl) ?_
      refine OW.stRA hst 1 rfl hv3607 (fun _ => rfl) rfl rfl hx3582 rfl rfl (by kernel_rfl) rfl enc_api_Type (fun _ => rfl) 8 x3581 0 rfl rfl hi3588 0 rfl rfl r3615 rfl (aset x3581 i3587 r3615) rfl ?_
      intro w3619 hst
      refine OA.next trivial ?_
      refine OA.fin (by kernel_rfl) (by kernel_rfl) (QW.block_normal (QW.next (CW.region ?_)))
      refine pu 2 [(35, I (w64 ((i3539 : Int) + 1)))] (OW.nil rfl ?_)
      refine QW.say 35 rfl (congrArg (Value.int .i64) (w64_cnt hc3544 (Nat.le_trans (cut_le hcut3072) l19))) ?_
      exact QW.meet (fun a ha => ⟨n3535, Nat.lt_succ_self _, i3539 + 1, (s3537.set (Int.toNat p1) (aset x3581 i3587 r3615)), (.slice a3542 (s3537).length c3543), cnt_next hi3540, ha.ag, hst.keep [0, 1, 2, 3] rfl, hl3536⟩)
     refine CW.region ?_
     refine pu 3 [(69, .pointer (some ⟨b1, 2, none⟩))] ?_
     refine OW.ld rfl rfl rfl rfl (by kernel_rfl) (hst.blk 0 rfl rfl) ?_
     refine pu 3 [(71, I p1), (72, I r3567.1), (73, .agg [I 0, U 0, U 0, I 0].toArray)] ?_
     obtain ⟨g3627, o3628, c3629, hv3626⟩ := hst.rowv 1 rfl hx3582
     refine OW.idx 119 32 rfl rfl rfl rfl hv3626 rfl (idx_some hx3582).1 (idx_some hx3582).2.1 (by kernel_rfl) (by kernel_rfl) ?_
     refine OW.op (v := .pointer (some ⟨g3627, o3628 + Int.toNat p1 * 32 + 0 + Int.toNat r3567.1 * 4, none⟩)) rfl rfl rfl rfl (fun a ha => aidx_run (n := 8) 117 4 rfl rfl rfl (ain_some hi3588).1 (ain_some hi3588).2.1 (by kernel_rfl) (by kernel_rfl) a _ ha) ?_
     refine OW.stRA hst 1 rfl hv3626 (fun _ => rfl) rfl rfl hx3582 rfl rfl (by kernel_rfl) rfl enc_api_Type (fun _ => rfl) 8 x3581 0 rfl rfl hi3588 0 rfl rfl (api_Type.mk 0 (api_Span.mk 0 0) 0) rfl (aset x3581 i3587 (api_Type.mk 0 (api_Span.mk 0 0) 0)) rfl ?_
     intro w3630 hst
     refine OW.nil rfl (QW.block_normal (QW.next (CW.region ?_)))
     refine pu 2 [(35, I (w64 ((i3539 : Int) + 1)))] (OW.nil rfl ?_)
     refine QW.say 35 rfl (congrArg (Value.int .i64) (w64_cnt hc3544 (Nat.le_trans (cut_le hcut3072) l19))) ?_
     exact QW.meet (fun a ha => ⟨n3535, Nat.lt_succ_self _, i3539 + 1, (s3537.set (Int.toNat p1) (aset x3581 i3587 (api_Type.mk 0 (api_Span.mk 0 0) 0))), (.slice a3542 (s3537).length c3543), cnt_next hi3540, ha.ag, hst.keep [0, 1, 2, 3] rfl, hl3536⟩)
    rcases n3535 with _ | n3535
    ·refine CW.cond_f rfl hc3544 ?_
     refine CW.exit (QW.then_exit (QW.then_exit ?_))
     refine QW.block_here ?_
     obtain rfl := inj hl3536
     exact QW.meet (fun a ha => ⟨(.slice a3542 (s3537).length c3543), ha.ag, hst.keep [0, 1, 2, 3] rfl⟩)
    exact (cnt1 hi3540 hc3544).elim
   rintro a w1 ⟨v3351, ha, hst⟩
   refine QW.go ?_ ha
   obtain ⟨l3634, a3635, c3636, rfl⟩ := hst.len 1 rfl
   refine QW.block_normal (QW.next (CW.region ?_))
   refine pu 2 [(15, I (w64 ((i3038 : Int) + 1)))] (OW.nil rfl ?_)
   refine QW.say 15 rfl (congrArg (Value.int .i64) (w64_cnt hc3043 l28)) ?_
   exact QW.meet (fun a ha => ⟨n3034, Nat.lt_succ_self _, i3038 + 1, o3352, (.slice a3635 (o3352).length c3636), cnt_next hi3039, ha.ag, hst.keep [0, 1, 2, 3] rfl, hl3035⟩)
  rcases n3034 with _ | n3034
  ·refine CW.cond_f rfl hc3043 ?_
   refine CW.exit (QW.then_exit (QW.then_exit ?_))
   refine QW.block_here ?_
   have hst := hst.borIn hbo12
   have hst := hst.borIn hbo14
   have hst := hst.toIt 1 rfl (fun _ => rfl) (by decide)
   have hst := hst.toIt 2 rfl (fun _ => rfl) (by decide)
   have hst := hst.toIt 3 rfl (fun _ => rfl) (by decide)
   obtain ⟨S3638, hst⟩ := hst.shutP5 (R_t109 wb Sb) rfl 0 4 5 1 2 3 [] rfl rfl rfl rfl rfl rfl rfl (judge_judge.mk p0.Module s3036 p0.any p0.loops) rfl rfl
   obtain rfl := inj hl3035
   exact QW.meet (fun a ha => ⟨S3638, ha.ag, hst.keep [0] rfl⟩)
  exact (cnt1 hi3039 hc3043).elim
 rintro a w1 ⟨S1834, ha, hst⟩
 refine QW.go ?_ ha
 obtain rfl := inj hF
 refine QW.end0 rfl ?_
 exact ⟨S1834, rfl, hst.keep [0] rfl⟩
theorem ops_Source_ok (w : World) (p0 : api_Inst) (r : Bool) (hF : ops_Source p0 = some r)
    (hst : St w (fp []) w []) (hT0 : Rd w (fp []) (.slice (some ⟨0, 0, none⟩) 23 23) enc_ops_form 2 tab_g0) :
    Calls Tryd.prog 51 [.agg [I p0.Op, I p0.D, I p0.A, I p0.B, I p0.Imm].toArray].toArray w (fun e w' => e = .returned (.bool r) ∧ St w (fp []) w' []) := by
 refine CW.start (N := 17) Tryd.func51 rfl rfl rfl (rg ?_)
 refine OW.box hst rfl rfl rfl rfl [I p0.Op, I p0.D, I p0.A, I p0.B, I p0.Imm] rfl ?_
 intro b3 w4 hst
 refine pu 1 [] (nx (rg ?_))
 refine pu 1 [(6, Pt b3)] ?_
 refine OW.ld rfl rfl rfl rfl (by kernel_rfl) (hst.blk 0 rfl rfl) ?_
 obtain ⟨r12, hr13, hF⟩ := bs hF
 refine OW.fn rfl rfl rfl rfl (by kernel_rfl) (ops_of_ok _ p0.Op r12 hr13 (hst.part [] rfl) (hT0.give hst [])) ?_
 rintro e w14 ⟨rfl, hst15⟩
 refine ⟨_, rfl, ?_⟩
 have hst := hst.join (idx := []) (rest := [0]) rfl hst15
 refine pu 3 [(9, .agg [.string r12.1.name, .string r12.1.fields].toArray), (10, .bool r12.2)] ?_
 refine OW.alloc hst rfl rfl rfl [.string ByteArray.empty, .string ByteArray.empty] (by kernel_rfl) ?_
 intro b16 w17 hst
 refine OW.stB hst 1 rfl rfl rfl rfl rfl (by kernel_rfl) rfl rfl [.string r12.1.name, .string r12.1.fields] rfl ?_
 intro w18 hst
 refine pu 1 [] (nx (CW.seq ?_))
 obtain ⟨o32, ho33, hF⟩ := bs hF
 refine CW.cutK (fun a w1 => Rep 17 [(2, .bool o32)] a ∧ St w (fp []) w1 []) ?_ ?_
 ·refine CW.region ?_
  refine OW.ldN (cs := [I p0.Op, I p0.D, I p0.A, I p0.B, I p0.Imm]) rfl rfl rfl rfl (by kernel_rfl) (by kernel_rfl) (hst.blkN 0 rfl 0 5) ?_
  obtain ⟨r34, hr35, ho33⟩ := bs ho33
  refine OW.fn rfl rfl rfl rfl (by kernel_rfl) (ops_right_ok _ p0 r34 hr35 (hst.part [] rfl) (hT0.give hst [])) ?_
  rintro e w36 ⟨rfl, hst37⟩
  refine ⟨_, rfl, ?_⟩
  have hst := hst.join (idx := []) (rest := [0, 1]) rfl hst37
  refine pu 1 [(13, .bool r34)] ?_
  refine OW.split 13 rfl (fun hc38 => ?_) (fun hc38 => ?_)
  ·have ho33 := ite_t ho33 hc38
   refine OW.ldN (cs := [.string r12.1.name, .string r12.1.fields]) rfl rfl rfl rfl (by kernel_rfl) (by kernel_rfl) (hst.blkN 1 rfl 0 2) ?_
   obtain ⟨r39, hr40, ho33⟩ := bs ho33
   refine OW.fn rfl rfl rfl rfl (by kernel_rfl) (ops_form_uses_ok _ r12.1 115 r39 hr40 (hst.part [] rfl)) ?_
   rintro e w41 ⟨rfl, hst42⟩
   refine ⟨_, rfl, ?_⟩
   have hst := hst.join (idx := []) (rest := [0, 1]) rfl hst42
   refine pu 2 [(2, .bool r39)] (OW.nil rfl ?_)
   obtain rfl := inj ho33
   exact QW.meet (fun a ha => ⟨ha.ag, hst.keep [] rfl⟩)
  have ho33 := ite_f ho33 hc38
  refine pu 4 [(2, .bool false)] (OW.nil rfl ?_)
  obtain rfl := inj ho33
  exact QW.meet (fun a ha => ⟨ha.ag, hst.keep [] rfl⟩)
 rintro a w1 ⟨ha, hst⟩
 refine CW.go ?_ ha
 refine CW.ret ?_
 obtain rfl := inj hF
 refine QW.ret1 rfl rfl ?_
 exact ⟨rfl, hst.keep [] rfl⟩
theorem span_Single_ok (w : World) (p0 : Int) (r : api_Span) (hF : span_Single p0 = some r)
    (hst : St w (fp []) w []) :
    Calls Tryd.prog 77 [U p0].toArray w (fun e w' => e = .returned (.agg [U r.Lo, U r.Hi].toArray) ∧ St w (fp []) w' []) := by
 refine CW.start (N := 6) Tryd.func77 rfl rfl rfl (rg ?_)
 refine OW.alloc hst rfl rfl rfl [U 0, U 0] (by kernel_rfl) ?_
 intro b3 w4 hst
 refine nx (rg ?_)
 refine pu 3 [(5, .agg [U p0, U p0].toArray)] ?_
 refine OW.stB hst 0 rfl rfl rfl rfl rfl (by kernel_rfl) rfl rfl [U p0, U p0] rfl ?_
 intro w6 hst
 refine nx (CW.ret ?_)
 obtain rfl := inj hF
 refine QW.ret_c rfl rfl (run_loadN (cs := [U p0, U p0]) (by kernel_rfl) (by kernel_rfl) (hst.blkN 0 rfl 0 2)) ?_
 exact ⟨rfl, hst.keep [] rfl⟩
theorem judge_source_ok (w : World) (p0 : api_Inst) (p1 : Nat → api_Type) (r : api_Type) (hF : judge_source p0 p1 = some r)
    (hst : St w (fp []) w []) :
    Calls Tryd.prog 52 [.agg [I p0.Op, I p0.D, I p0.A, I p0.B, I p0.Imm].toArray, .agg (arrC (enc_api_Type) 8 p1).toArray].toArray w (fun e w' => e = .returned (.agg [I r.Kind, U r.Span.Lo, U r.Span.Hi, I r.Map].toArray) ∧ St w (fp []) w' []) := by
 refine CW.start (N := 17) Tryd.func52 rfl rfl rfl (rg ?_)
 refine OW.box hst rfl rfl rfl rfl [I p0.Op, I p0.D, I p0.A, I p0.B, I p0.Imm] rfl ?_
 intro b7 w8 hst
 refine OW.box hst rfl rfl rfl rfl (arrC (enc_api_Type) 8 p1) rfl ?_
 intro b9 w10 hst
 refine OW.alloc hst rfl rfl rfl [I 0, U 0, U 0, I 0] (by kernel_rfl) ?_
 intro b11 w12 hst
 refine nx (CW.seq (rg ?_))
 refine pu 1 [(5, .pointer (some ⟨b7, 3, none⟩))] ?_
 refine OW.ld rfl rfl rfl rfl (by kernel_rfl) (hst.blk 0 rfl rfl) ?_
 refine pu 1 [(7, .bool (p0.B == 8))] (nx ?_)
 refine br ((p0.B == 8)) hF (fun hF hc13 => ?_) (fun hF hc13 => ?_)
 ·refine rg ?_
  refine pu 1 [(8, .pointer (some ⟨b7, 4, none⟩))] ?_
  refine OW.ld rfl rfl rfl rfl (by kernel_rfl) (hst.blk 0 rfl rfl) ?_
  refine pu 1 [(10, U (wu64 p0.Imm))] ?_
  obtain ⟨r23, hr24, hF⟩ := bs hF
  refine OW.fn rfl rfl rfl rfl (by kernel_rfl) (span_Single_ok _ (wu64 p0.Imm) r23 hr24 (hst.part [] rfl)) ?_
  rintro e w25 ⟨rfl, hst26⟩
  refine ⟨_, rfl, ?_⟩
  have hst := hst.join (idx := []) (rest := [0, 1, 2]) rfl hst26
  obtain ⟨r27, hr28, hF⟩ := bs hF
  refine OW.fn rfl rfl rfl rfl (by kernel_rfl) (judge_number_ok _ r23 r27 hr28 (hst.part [] rfl)) ?_
  rintro e w29 ⟨rfl, hst30⟩
  refine ⟨_, rfl, ?_⟩
  have hst := hst.join (idx := []) (rest := [0, 1, 2]) rfl hst30
  refine OW.stB hst 2 rfl rfl rfl rfl rfl (by kernel_rfl) rfl rfl [I r27.Kind, U r27.Span.Lo, U r27.Span.Hi, I r27.Map] rfl ?_
  intro w31 hst
  refine nx (CW.ret (QW.then_ret ?_))
  obtain rfl := inj hF
  refine QW.ret_c rfl rfl (run_loadN (cs := [I r27.Kind, U r27.Span.Lo, U r27.Span.Hi, I r27.Map]) (by kernel_rfl) (by kernel_rfl) (hst.blkN 2 rfl 0 4)) ?_
  exact ⟨rfl, hst.keep [] rfl⟩
 refine CW.skip (QW.next (rg ?_))
 refine pu 1 [(13, .pointer (some ⟨b7, 3, none⟩))] ?_
 refine OW.ld rfl rfl rfl rfl (by kernel_rfl) (hst.blk 0 rfl rfl) ?_
 obtain ⟨i35, hi36, hF⟩ := bs hF
 refine OW.op (v := .pointer (some ⟨b9, 0 + Int.toNat p0.B * 4, none⟩)) rfl rfl rfl rfl (fun a ha => aidx_run (n := 8) 117 4 rfl rfl rfl (ain_some hi36).1 (ain_some hi36).2.1 (by kernel_rfl) (by kernel_rfl) a _ ha) ?_
 refine OW.ldN (cs := enc_api_Type (p1 i35)) rfl rfl rfl rfl (by kernel_rfl) (by kernel_rfl) (hst.arrB 1 rfl enc_api_Type (fun _ => rfl) 8 p1 0 rfl rfl hi36) ?_
 refine OW.stB hst 2 rfl rfl rfl rfl rfl (by kernel_rfl) rfl rfl [I (p1 i35).Kind, U (p1 i35).Span.Lo, U (p1 i35).Span.Hi, I (p1 i35).Map] rfl ?_
 intro w37 hst
 refine nx (CW.ret ?_)
 obtain rfl := inj hF
 refine QW.ret_c rfl rfl (run_loadN (cs := [I (p1 i35).Kind, U (p1 i35).Span.Lo, U (p1 i35).Span.Hi, I (p1 i35).Map]) (by kernel_rfl) (by kernel_rfl) (hst.blkN 2 rfl 0 4)) ?_
 exact ⟨rfl, hst.keep [] rfl⟩
theorem judge_nums_ok (w : World) (v0 : Value) (p0 : List api_Type) (r : Int) (hF : judge_nums p0 = some r)
    (hst : St w (fp []) w []) (h0 : Rd w (fp []) v0 enc_api_Type 4 p0) :
    Calls Tryd.prog 54 [v0].toArray w (fun e w' => e = .returned (I r) ∧ St w (fp []) w' []) := by
 refine CW.start (N := 15) Tryd.func54 rfl rfl rfl ?_
 obtain ⟨l1, a2, c3, rfl⟩ := h0.len
 refine rg ?_
 refine pu 1 [] (nx (CW.seq (rg ?_)))
 refine pu 3 [(5, .slice a2 (p0).length c3), (6, I ((p0).length : Int)), (7, I 0)] (nx ?_)
 obtain ⟨o70, ho71, hF⟩ := bs hF
 refine CW.cutK (fun a w1 => ∃ (t72 : Unit), o70 = .inl t72 ∧ Rep 15 [] a ∧ St w (fp []) w1 []) ?_ ?_
 ·refine CW.block ?_
  refine CW.loop (fun n a w1 => ∃ (i117 : Nat) (s116 : Unit), i117 + n = (p0).length ∧ Rep 15 [(5, .slice a2 (p0).length c3), (6, I ((p0).length : Int)), (7, I (i117 : Int))] a ∧ St w (fp []) w1 [] ∧ forN (judge_nums_l1 p0) (fun (s116 : Unit) => (.inl ())) n i117 s116 = some o70) (p0).length (fun a ha => ⟨0, (), Nat.zero_add _, ha.ag, hst.keep [] rfl, ho71⟩) ?_
  rintro n114 a w1 ⟨i117, s116, hi118, ha, hst, hl115⟩
  refine CW.go ?_ ha
  refine rg ?_
  refine pu 1 [(8, .bool (decide ((i117 : Int) < ((p0).length : Int))))] (nx (CW.seq ?_))
  rcases bft (decide ((i117 : Int) < ((p0).length : Int))) with hc119 | hc119
  ·rcases n114 with _ | n114
   ·exact (cnt0 hi118 hc119).elim
   refine CW.cond_t rfl hc119 (CW.skip (QW.next (CW.seq (CW.block (rg ?_)))))
   obtain ⟨x129, hx130, hl115⟩ := bs hl115
   obtain ⟨g132, o133, c134, hv131⟩ := h0.formv (fun _ => ⟨_, rfl⟩) hx130
   refine OW.idx 117 4 rfl rfl rfl rfl hv131 rfl (idx_some hx130).1 (idx_some hx130).2.1 (by kernel_rfl) (by kernel_rfl) ?_
   refine OW.ldN (cs := enc_api_Type x129) rfl rfl rfl rfl (by kernel_rfl) (by kernel_rfl) (h0.cellv hst hx130 hv131) ?_
   refine OW.alloc hst rfl rfl rfl [I 0, U 0, U 0, I 0] (by kernel_rfl) ?_
   intro b135 w136 hst
   refine OW.stB hst 0 rfl rfl rfl rfl rfl (by kernel_rfl) rfl rfl [I x129.Kind, U x129.Span.Lo, U x129.Span.Hi, I x129.Map] rfl ?_
   intro w137 hst
   refine nx (rg ?_)
   refine pu 1 [(11, Pt b135)] ?_
   refine OW.ld rfl rfl rfl rfl (by kernel_rfl) (hst.blk 0 rfl rfl) ?_
   refine pu 1 [(13, .bool (x129.Kind != 1))] (nx ?_)
   refine br ((x129.Kind != 1)) hl115 (fun hl115 hc138 => ?_) (fun hl115 hc138 => ?_)
   ·refine rg ?_
    refine pu 1 [(2, I 33)] (nx (CW.ret (QW.block_ret (QW.then_ret (QW.then_ret (QW.block_ret (QW.then_ret ?_)))))))
    obtain rfl := inj hl115
    obtain rfl := inj hF
    refine QW.ret1 rfl rfl ?_
    exact ⟨rfl, hst.keep [] rfl⟩
   refine CW.skip (QW.block_normal (QW.next (CW.region ?_)))
   refine pu 2 [(7, I (w64 ((i117 : Int) + 1)))] (OW.nil rfl ?_)
   refine QW.say 7 rfl (congrArg (Value.int .i64) (w64_cnt hc119 l1)) ?_
   exact QW.meet (fun a ha => ⟨n114, Nat.lt_succ_self _, i117 + 1, (), cnt_next hi118, ha.ag, hst.keep [] rfl, hl115⟩)
  rcases n114 with _ | n114
  ·refine CW.cond_f rfl hc119 ?_
   refine CW.exit (QW.then_exit (QW.then_exit ?_))
   refine QW.block_here ?_
   obtain rfl := inj hl115
   exact QW.meet (fun a ha => ⟨(), rfl, ha.ag, hst.keep [] rfl⟩)
  exact (cnt1 hi118 hc119).elim
 rintro a w1 ⟨t72, rfl, ha, hst⟩
 refine CW.go ?_ ha
 refine rg ?_
 refine pu 1 [(2, I 0)] (nx (CW.ret ?_))
 obtain rfl := inj hF
 refine QW.ret1 rfl rfl ?_
 exact ⟨rfl, hst.keep [] rfl⟩
theorem span_Right_ok (w : World) (p0 : api_Span) (r : Bool) (hF : span_Right p0 = some r)
    (hst : St w (fp []) w []) :
    Calls Tryd.prog 81 [.agg [U p0.Lo, U p0.Hi].toArray].toArray w (fun e w' => e = .returned (.bool r) ∧ St w (fp []) w' []) := by
 refine CW.start (N := 8) Tryd.func81 rfl rfl rfl (rg ?_)
 refine OW.box hst rfl rfl rfl rfl [U p0.Lo, U p0.Hi] rfl ?_
 intro b3 w4 hst
 refine pu 1 [] (nx (rg ?_))
 refine pu 1 [(3, Pt b3)] ?_
 refine OW.ld rfl rfl rfl rfl (by kernel_rfl) (hst.blk 0 rfl rfl) ?_
 refine pu 1 [(5, .pointer (some ⟨b3, 1, none⟩))] ?_
 refine OW.ld rfl rfl rfl rfl (by kernel_rfl) (hst.blk 0 rfl rfl) ?_
 refine pu 2 [(2, .bool (decide (p0.Lo ≤ p0.Hi)))] (nx (CW.ret ?_))
 obtain rfl := inj hF
 refine QW.ret1 rfl rfl ?_
 exact ⟨rfl, hst.keep [] rfl⟩
theorem span_Within_ok (w : World) (p0 : api_Span) (p1 : api_Span) (r : Bool) (hF : span_Within p0 p1 = some r)
    (hst : St w (fp []) w []) :
    Calls Tryd.prog 78 [.agg [U p0.Lo, U p0.Hi].toArray, .agg [U p1.Lo, U p1.Hi].toArray].toArray w (fun e w' => e = .returned (.bool r) ∧ St w (fp []) w' []) := by
 refine CW.start (N := 21) Tryd.func78 rfl rfl rfl (rg ?_)
 refine OW.box hst rfl rfl rfl rfl [U p0.Lo, U p0.Hi] rfl ?_
 intro b5 w6 hst
 refine OW.box hst rfl rfl rfl rfl [U p1.Lo, U p1.Hi] rfl ?_
 intro b7 w8 hst
 refine pu 1 [] (nx (CW.seq ?_))
 obtain ⟨o19, ho20, hF⟩ := bs hF
 refine CW.cutK (fun a w1 => Rep 21 [(4, .bool o19)] a ∧ St w (fp []) w1 []) ?_ ?_
 ·refine CW.region ?_
  refine OW.ldN (cs := [U p0.Lo, U p0.Hi]) rfl rfl rfl rfl (by kernel_rfl) (by kernel_rfl) (hst.blkN 0 rfl 0 2) ?_
  obtain ⟨r21, hr22, ho20⟩ := bs ho20
  refine OW.fn rfl rfl rfl rfl (by kernel_rfl) (span_Right_ok _ p0 r21 hr22 (hst.part [] rfl)) ?_
  rintro e w23 ⟨rfl, hst24⟩
  refine ⟨_, rfl, ?_⟩
  have hst := hst.join (idx := []) (rest := [0, 1]) rfl hst24
  refine pu 1 [(7, .bool r21)] ?_
  refine OW.split 7 rfl (fun hc25 => ?_) (fun hc25 => ?_)
  ·have ho20 := ite_t ho20 hc25
   refine pu 1 [(8, Pt b7)] ?_
   refine OW.ld rfl rfl rfl rfl (by kernel_rfl) (hst.blk 1 rfl rfl) ?_
   refine pu 1 [(10, Pt b5)] ?_
   refine OW.ld rfl rfl rfl rfl (by kernel_rfl) (hst.blk 0 rfl rfl) ?_
   refine pu 3 [(14, .bool (decide (p1.Lo ≤ p0.Lo)))] ?_
   refine OW.split 14 rfl (fun hc26 => ?_) (fun hc26 => ?_)
   ·have ho20 := ite_t ho20 hc26
    refine pu 1 [(15, .pointer (some ⟨b5, 1, none⟩))] ?_
    refine OW.ld rfl rfl rfl rfl (by kernel_rfl) (hst.blk 0 rfl rfl) ?_
    refine pu 1 [(17, .pointer (some ⟨b7, 1, none⟩))] ?_
    refine OW.ld rfl rfl rfl rfl (by kernel_rfl) (hst.blk 1 rfl rfl) ?_
    refine pu 3 [(4, .bool (decide (p0.Hi ≤ p1.Hi)))] (OW.nil rfl ?_)
    obtain rfl := inj ho20
    exact QW.meet (fun a ha => ⟨ha.ag, hst.keep [] rfl⟩)
   have ho20 := ite_f ho20 hc26
   refine pu 7 [(4, .bool false)] (OW.nil rfl ?_)
   obtain rfl := inj ho20
   exact QW.meet (fun a ha => ⟨ha.ag, hst.keep [] rfl⟩)
  have ho20 := ite_f ho20 hc25
  refine pu 14 [(4, .bool false)] (OW.nil rfl ?_)
  obtain rfl := inj ho20
  exact QW.meet (fun a ha => ⟨ha.ag, hst.keep [] rfl⟩)
 rintro a w1 ⟨ha, hst⟩
 refine CW.go ?_ ha
 refine CW.ret ?_
 obtain rfl := inj hF
 refine QW.ret1 rfl rfl ?_
 exact ⟨rfl, hst.keep [] rfl⟩
theorem judge_word_ok (w : World) (p0 : api_Type) (r : Int) (hF : judge_word p0 = some r)
    (hst : St w (fp []) w []) :
    Calls Tryd.prog 55 [.agg [I p0.Kind, U p0.Span.Lo, U p0.Span.Hi, I p0.Map].toArray].toArray w (fun e w' => e = .returned (I r) ∧ St w (fp []) w' []) := by
 refine CW.start (N := 8) Tryd.func55 rfl rfl rfl (rg ?_)
 refine OW.box hst rfl rfl rfl rfl [I p0.Kind, U p0.Span.Lo, U p0.Span.Hi, I p0.Map] rfl ?_
 intro b3 w4 hst
 refine pu 1 [] (nx (CW.seq (rg ?_)))
 refine pu 1 [(3, .pointer (some ⟨b3, 1, none⟩))] ?_
 refine OW.ldN (cs := [U p0.Span.Lo, U p0.Span.Hi]) rfl rfl rfl rfl (by kernel_rfl) (by kernel_rfl) (hst.blkN 0 rfl 1 2) ?_
 refine pu 1 [(5, .agg [U 0, U 15].toArray)] ?_
 obtain ⟨r9, hr10, hF⟩ := bs hF
 refine OW.fn rfl rfl rfl rfl (by kernel_rfl) (span_Within_ok _ p0.Span (api_Span.mk 0 15) r9 hr10 (hst.part [] rfl)) ?_
 rintro e w11 ⟨rfl, hst12⟩
 refine ⟨_, rfl, ?_⟩
 have hst := hst.join (idx := []) (rest := [0]) rfl hst12
 refine pu 1 [(7, .bool (!r9))] (nx ?_)
 refine br ((!r9)) hF (fun hF hc13 => ?_) (fun hF hc13 => ?_)
 ·refine rg ?_
  refine pu 1 [(2, I 35)] (nx (CW.ret (QW.then_ret ?_)))
  obtain rfl := inj hF
  refine QW.ret1 rfl rfl ?_
  exact ⟨rfl, hst.keep [] rfl⟩
 refine CW.skip (QW.next (rg ?_))
 refine pu 1 [(2, I 0)] (nx (CW.ret ?_))
 obtain rfl := inj hF
 refine QW.ret1 rfl rfl ?_
 exact ⟨rfl, hst.keep [] rfl⟩
theorem judge_first_ok (w : World) (v0 : Value) (p0 : List Int) (r : Int) (hF : judge_first p0 = some r)
    (hst : St w (fp []) w []) (h0 : Rd w (fp []) v0 (encInt .i64) 1 p0) :
    Calls Tryd.prog 53 [v0].toArray w (fun e w' => e = .returned (I r) ∧ St w (fp []) w' []) := by
 refine CW.start (N := 15) Tryd.func53 rfl rfl rfl ?_
 obtain ⟨l1, a2, c3, rfl⟩ := h0.len
 refine rg ?_
 refine pu 1 [] (nx (CW.seq (rg ?_)))
 refine pu 3 [(5, .slice a2 (p0).length c3), (6, I ((p0).length : Int)), (7, I 0)] (nx ?_)
 obtain ⟨o52, ho53, hF⟩ := bs hF
 refine CW.cutK (fun a w1 => ∃ (t54 : Unit), o52 = .inl t54 ∧ Rep 15 [] a ∧ St w (fp []) w1 []) ?_ ?_
 ·refine CW.block ?_
  refine CW.loop (fun n a w1 => ∃ (i87 : Nat) (s86 : Unit), i87 + n = (p0).length ∧ Rep 15 [(5, .slice a2 (p0).length c3), (6, I ((p0).length : Int)), (7, I (i87 : Int))] a ∧ St w (fp []) w1 [] ∧ forN (judge_first_l1 p0) (fun (s86 : Unit) => (.inl ())) n i87 s86 = some o52) (p0).length (fun a ha => ⟨0, (), Nat.zero_add _, ha.ag, hst.keep [] rfl, ho53⟩) ?_
  rintro n84 a w1 ⟨i87, s86, hi88, ha, hst, hl85⟩
  refine CW.go ?_ ha
  refine rg ?_
  refine pu 1 [(8, .bool (decide ((i87 : Int) < ((p0).length : Int))))] (nx (CW.seq ?_))
  rcases bft (decide ((i87 : Int) < ((p0).length : Int))) with hc89 | hc89
  ·rcases n84 with _ | n84
   ·exact (cnt0 hi88 hc89).elim
   refine CW.cond_t rfl hc89 (CW.skip (QW.next (CW.seq (CW.block (rg ?_)))))
   obtain ⟨x96, hx97, hl85⟩ := bs hl85
   obtain ⟨g99, o100, c101, hv98⟩ := h0.formv (fun _ => ⟨_, rfl⟩) hx97
   refine OW.idx 43 1 rfl rfl rfl rfl hv98 rfl (idx_some hx97).1 (idx_some hx97).2.1 (by kernel_rfl) (by kernel_rfl) ?_
   refine OW.ld rfl rfl rfl rfl (by kernel_rfl) (h0.cellv hst hx97 hv98 0 _ rfl) ?_
   refine pu 1 [(4, I x96)] (nx (rg ?_))
   refine pu 2 [(12, .bool (x96 != 0))] (nx ?_)
   refine br ((x96 != 0)) hl85 (fun hl85 hc102 => ?_) (fun hl85 hc102 => ?_)
   ·refine rg ?_
    refine pu 2 [(2, I x96)] (nx (CW.ret (QW.block_ret (QW.then_ret (QW.then_ret (QW.block_ret (QW.then_ret ?_)))))))
    obtain rfl := inj hl85
    obtain rfl := inj hF
    refine QW.ret1 rfl rfl ?_
    exact ⟨rfl, hst.keep [] rfl⟩
   refine CW.skip (QW.block_normal (QW.next (CW.region ?_)))
   refine pu 2 [(7, I (w64 ((i87 : Int) + 1)))] (OW.nil rfl ?_)
   refine QW.say 7 rfl (congrArg (Value.int .i64) (w64_cnt hc89 l1)) ?_
   exact QW.meet (fun a ha => ⟨n84, Nat.lt_succ_self _, i87 + 1, (), cnt_next hi88, ha.ag, hst.keep [] rfl, hl85⟩)
  rcases n84 with _ | n84
  ·refine CW.cond_f rfl hc89 ?_
   refine CW.exit (QW.then_exit (QW.then_exit ?_))
   refine QW.block_here ?_
   obtain rfl := inj hl85
   exact QW.meet (fun a ha => ⟨(), rfl, ha.ag, hst.keep [] rfl⟩)
  exact (cnt1 hi88 hc89).elim
 rintro a w1 ⟨t54, rfl, ha, hst⟩
 refine CW.go ?_ ha
 refine rg ?_
 refine pu 1 [(2, I 0)] (nx (CW.ret ?_))
 obtain rfl := inj hF
 refine QW.ret1 rfl rfl ?_
 exact ⟨rfl, hst.keep [] rfl⟩
theorem judge_fits_ok (w : World) (p0 : api_Type) (p1 : api_Type) (r : Bool) (hF : judge_fits p0 p1 = some r)
    (hst : St w (fp []) w []) :
    Calls Tryd.prog 56 [.agg [I p0.Kind, U p0.Span.Lo, U p0.Span.Hi, I p0.Map].toArray, .agg [I p1.Kind, U p1.Span.Lo, U p1.Span.Hi, I p1.Map].toArray].toArray w (fun e w' => e = .returned (.bool r) ∧ St w (fp []) w' []) := by
 refine CW.start (N := 24) Tryd.func56 rfl rfl rfl (rg ?_)
 refine OW.box hst rfl rfl rfl rfl [I p0.Kind, U p0.Span.Lo, U p0.Span.Hi, I p0.Map] rfl ?_
 intro b5 w6 hst
 refine OW.box hst rfl rfl rfl rfl [I p1.Kind, U p1.Span.Lo, U p1.Span.Hi, I p1.Map] rfl ?_
 intro b7 w8 hst
 refine pu 1 [] (nx (CW.seq (rg ?_)))
 refine pu 1 [(5, Pt b7)] ?_
 refine OW.ld rfl rfl rfl rfl (by kernel_rfl) (hst.blk 1 rfl rfl) (nx (CW.block (rg ?_)))
 refine pu 2 [(7, .bool (p1.Kind == 1))] (nx ?_)
 refine br ((p1.Kind == 1)) hF (fun hF hc9 => ?_) (fun hF hc9 => ?_)
 ·refine CW.seq ?_
  obtain ⟨o15, ho16, hF⟩ := bs hF
  refine CW.cutK (fun a w1 => Rep 24 [(4, .bool o15)] a ∧ St w (fp []) w1 []) ?_ ?_
  ·refine CW.region ?_
   refine pu 1 [(9, Pt b5)] ?_
   refine OW.ld rfl rfl rfl rfl (by kernel_rfl) (hst.blk 0 rfl rfl) ?_
   refine pu 2 [(12, .bool (p0.Kind == 1))] ?_
   refine OW.split 12 rfl (fun hc17 => ?_) (fun hc17 => ?_)
   ·have ho16 := ite_t ho16 hc17
    refine pu 1 [(13, .pointer (some ⟨b5, 1, none⟩))] ?_
    refine OW.ldN (cs := [U p0.Span.Lo, U p0.Span.Hi]) rfl rfl rfl rfl (by kernel_rfl) (by kernel_rfl) (hst.blkN 0 rfl 1 2) ?_
    refine pu 1 [(15, .pointer (some ⟨b7, 1, none⟩))] ?_
    refine OW.ldN (cs := [U p1.Span.Lo, U p1.Span.Hi]) rfl rfl rfl rfl (by kernel_rfl) (by kernel_rfl) (hst.blkN 1 rfl 1 2) ?_
    obtain ⟨r18, hr19, ho16⟩ := bs ho16
    refine OW.fn rfl rfl rfl rfl (by kernel_rfl) (span_Within_ok _ p0.Span p1.Span r18 hr19 (hst.part [] rfl)) ?_
    rintro e w20 ⟨rfl, hst21⟩
    refine ⟨_, rfl, ?_⟩
    have hst := hst.join (idx := []) (rest := [0, 1]) rfl hst21
    refine pu 2 [(4, .bool r18)] (OW.nil rfl ?_)
    obtain rfl := inj ho16
    exact QW.meet (fun a ha => ⟨ha.ag, hst.keep [] rfl⟩)
   have ho16 := ite_f ho16 hc17
   refine pu 7 [(4, .bool false)] (OW.nil rfl ?_)
   obtain rfl := inj ho16
   exact QW.meet (fun a ha => ⟨ha.ag, hst.keep [] rfl⟩)
  rintro a w1 ⟨ha, hst⟩
  refine CW.go ?_ ha
  refine CW.ret (QW.block_ret (QW.then_ret ?_))
  obtain rfl := inj hF
  refine QW.ret1 rfl rfl ?_
  exact ⟨rfl, hst.keep [] rfl⟩
 refine rg ?_
 refine pu 2 [(19, .bool (p1.Kind == 2))] (nx ?_)
 refine br ((p1.Kind == 2)) hF (fun hF hc22 => ?_) (fun hF hc22 => ?_)
 ·refine rg ?_
  refine OW.ldN (cs := [I p0.Kind, U p0.Span.Lo, U p0.Span.Hi, I p0.Map]) rfl rfl rfl rfl (by kernel_rfl) (by kernel_rfl) (hst.blkN 0 rfl 0 4) ?_
  refine OW.ldN (cs := [I p1.Kind, U p1.Span.Lo, U p1.Span.Hi, I p1.Map]) rfl rfl rfl rfl (by kernel_rfl) (by kernel_rfl) (hst.blkN 1 rfl 0 4) ?_
  refine OW.op (v := .bool ((p0.Kind == p1.Kind) && (((p0.Span.Lo == p1.Span.Lo) && ((p0.Span.Hi == p1.Span.Hi) && true)) && ((p0.Map == p1.Map) && true)))) rfl rfl rfl rfl (fun a ha => seq_run rfl rfl rfl (by kernel_rfl) (by kernel_rfl) a _ ha) ?_
  refine pu 1 [(4, .bool ((p0.Kind == p1.Kind) && (((p0.Span.Lo == p1.Span.Lo) && ((p0.Span.Hi == p1.Span.Hi) && true)) && ((p0.Map == p1.Map) && true))))] (nx (CW.ret (QW.block_ret (QW.then_ret ?_))))
  obtain rfl := inj hF
  refine QW.ret1 rfl rfl ?_
  exact ⟨rfl, hst.keep [] rfl⟩
 refine CW.skip (QW.block_normal (QW.next (rg ?_)))
 refine pu 1 [(4, .bool true)] (nx (CW.ret ?_))
 obtain rfl := inj hF
 refine QW.ret1 rfl rfl ?_
 exact ⟨rfl, hst.keep [] rfl⟩
theorem sigs_of_ok (w : World) (p0 : Int) (r : sigs_sig × Bool) (hF : sigs_of p0 = some r)
    (hst : St w (fp []) w []) (hT1 : Rd w (fp []) (.slice (some ⟨1, 0, none⟩) 7 7) enc_sigs_sig 5 tab_g1) :
    Calls Tryd.prog 79 [I p0].toArray w (fun e w' => e = .returned (.tuple #[.agg [.string r.1.name, .string r.1.wants, U r.1.most, I r.1.asks, .bool r.1.isAsked].toArray, .bool r.2]) ∧ St w (fp []) w' []) := by
 refine CW.start (N := 14) Tryd.func79 rfl rfl rfl (rg ?_)
 refine OW.alloc hst rfl rfl rfl [.string ByteArray.empty, .string ByteArray.empty, U 0, I 0, .bool false] (by kernel_rfl) ?_
 intro b3 w4 hst
 refine pu 1 [] (nx (CW.seq (CW.seq ?_)))
 refine CW.cutK (fun a w1 => Rep 14 [(0, I p0), (2, Pt b3), (9, .bool (decide (p0 < 0) || decide (p0 ≥ 7)))] a ∧ St w (fp []) w1 [blkI b3 184 [.string ByteArray.empty, .string ByteArray.empty, U 0, I 0, .bool false]]) ?_ ?_
 ·refine CW.region ?_
  refine pu 3 [(6, .bool (decide (p0 < 0)))] ?_
  refine OW.split 6 rfl (fun hc5 => ?_) (fun hc5 => ?_)
  ·refine pu 3 [(9, .bool true)] (OW.nil rfl ?_)
   refine QW.say 9 (v := .bool (decide (p0 < 0) || decide (p0 ≥ 7))) rfl (by first | (rw [hc5]; done) | (rw [hc5]; rfl) | simp [hc5]) ?_
   exact QW.meet (fun a ha => ⟨ha.ag, hst.keep [0] rfl⟩)
  refine pu 3 [(9, .bool (decide (p0 ≥ 7)))] (OW.nil rfl ?_)
  refine QW.say 9 (v := .bool (decide (p0 < 0) || decide (p0 ≥ 7))) rfl (by first | (rw [hc5]; done) | (rw [hc5]; rfl) | simp [hc5]) ?_
  exact QW.meet (fun a ha => ⟨ha.ag, hst.keep [0] rfl⟩)
 rintro a w1 ⟨ha, hst⟩
 refine CW.go ?_ ha
 refine br ((decide (p0 < 0) || decide (p0 ≥ 7))) hF (fun hF hc6 => ?_) (fun hF hc6 => ?_)
 ·refine rg ?_
  refine pu 1 [(10, .agg [.string ByteArray.empty, .string ByteArray.empty, U 0, I 0, .bool false].toArray)] ?_
  refine OW.stB hst 0 rfl rfl rfl rfl rfl (by kernel_rfl) rfl rfl [.string ByteArray.empty, .string ByteArray.empty, U 0, I 0, .bool false] rfl ?_
  intro w8 hst
  refine pu 1 [(3, .bool false)] (nx (CW.ret (QW.then_ret ?_)))
  obtain rfl := inj hF
  refine QW.ret_ct rfl rfl (run_loadN (cs := [.string ByteArray.empty, .string ByteArray.empty, U 0, I 0, .bool false]) (by kernel_rfl) (by kernel_rfl) (hst.blkN 0 rfl 0 5)) rfl ?_
  exact ⟨rfl, hst.keep [] rfl⟩
 refine CW.skip (QW.next (rg ?_))
 refine pu 1 [(11, I p0)] ?_
 obtain ⟨x12, hx13, hF⟩ := bs hF
 refine OW.op (v := .pointer (some ⟨1, 0 + Int.toNat p0 * 5, none⟩)) rfl rfl rfl rfl (fun a ha => aidx_run (n := tab_g1.length) 184 5 rfl rfl rfl (idx_some hx13).1 (idx_some hx13).2.1 (by kernel_rfl) (by kernel_rfl) a _ ha) ?_
 refine OW.ldN (cs := enc_sigs_sig x12) rfl rfl rfl rfl (by kernel_rfl) (by kernel_rfl) (hT1.cellv hst hx13 (show Value.slice (some ⟨1, 0, none⟩) 7 7 = .slice (some ⟨1, 0, none⟩) tab_g1.length 7 from rfl)) ?_
 refine OW.stB hst 0 rfl rfl rfl rfl rfl (by kernel_rfl) rfl rfl [.string x12.name, .string x12.wants, U x12.most, I x12.asks, .bool x12.isAsked] rfl ?_
 intro w14 hst
 refine pu 1 [(3, .bool true)] (nx (CW.ret ?_))
 obtain rfl := inj hF
 refine QW.ret_ct rfl rfl (run_loadN (cs := [.string x12.name, .string x12.wants, U x12.most, I x12.asks, .bool x12.isAsked]) (by kernel_rfl) (by kernel_rfl) (hst.blkN 0 rfl 0 5)) rfl ?_
 exact ⟨rfl, hst.keep [] rfl⟩
theorem sigs_number_ok (w : World) (p0 : Int) (r : api_Type) (hF : sigs_number p0 = some r)
    (hst : St w (fp []) w []) :
    Calls Tryd.prog 80 [U p0].toArray w (fun e w' => e = .returned (.agg [I r.Kind, U r.Span.Lo, U r.Span.Hi, I r.Map].toArray) ∧ St w (fp []) w' []) := by
 refine CW.start (N := 6) Tryd.func80 rfl rfl rfl (rg ?_)
 refine OW.alloc hst rfl rfl rfl [I 0, U 0, U 0, I 0] (by kernel_rfl) ?_
 intro b3 w4 hst
 refine nx (rg ?_)
 refine pu 3 [(5, .agg [I 1, U 0, U p0, I 0].toArray)] ?_
 refine OW.stB hst 0 rfl rfl rfl rfl rfl (by kernel_rfl) rfl rfl [I 1, U 0, U p0, I 0] rfl ?_
 intro w6 hst
 refine nx (CW.ret ?_)
 obtain rfl := inj hF
 refine QW.ret_c rfl rfl (run_loadN (cs := [I 1, U 0, U p0, I 0]) (by kernel_rfl) (by kernel_rfl) (hst.blkN 0 rfl 0 4)) ?_
 exact ⟨rfl, hst.keep [] rfl⟩
theorem sigs_Args_ok (w : World) (fu : Nat) (p0 : Int) (r : (List api_Type)) (hF : sigs_Args fu p0 = some r)
    (hst : St w (fp []) w []) (hT1 : Rd w (fp []) (.slice (some ⟨1, 0, none⟩) 7 7) enc_sigs_sig 5 tab_g1) :
    Calls Tryd.prog 58 [I p0].toArray w (fun e w' => ∃ (x0 : Value), e = .returned (x0) ∧ St w (fp []) w' [rowI x0 117 enc_api_Type 4 r]) := by
 refine CW.start (N := 37) Tryd.func58 rfl rfl rfl (rg ?_)
 refine pu 1 [] (nx (rg ?_))
 refine pu 1 [(9, I p0)] ?_
 obtain ⟨r8, hr9, hF⟩ := bs hF
 refine OW.fn rfl rfl rfl rfl (by kernel_rfl) (sigs_of_ok _ p0 r8 hr9 (hst.part [] rfl) (hT1.give hst [])) ?_
 rintro e w10 ⟨rfl, hst11⟩
 refine ⟨_, rfl, ?_⟩
 have hst := hst.join (idx := []) (rest := []) rfl hst11
 refine pu 3 [(11, .agg [.string r8.1.name, .string r8.1.wants, U r8.1.most, I r8.1.asks, .bool r8.1.isAsked].toArray), (12, .bool r8.2)] ?_
 refine OW.alloc hst rfl rfl rfl [.string ByteArray.empty, .string ByteArray.empty, U 0, I 0, .bool false] (by kernel_rfl) ?_
 intro b12 w13 hst
 refine OW.stB hst 0 rfl rfl rfl rfl rfl (by kernel_rfl) rfl rfl [.string r8.1.name, .string r8.1.wants, U r8.1.most, I r8.1.asks, .bool r8.1.isAsked] rfl ?_
 intro w14 hst
 refine pu 1 [] (nx (rg ?_))
 refine pu 1 [(5, .slice none 0 0)] (nx (CW.seq (rg ?_)))
 refine pu 1 [(13, .pointer (some ⟨b12, 1, none⟩))] ?_
 refine OW.ld rfl rfl rfl rfl (by kernel_rfl) (hst.blk 0 rfl rfl) ?_
 refine OW.srange (s := r8.1.wants) hst rfl rfl rfl rfl (by kernel_rfl) ?_
 intro it17 w18 hst
 refine nx ?_
 obtain ⟨o264, ho265, hF⟩ := bs hF
 refine CW.cutK (fun a w1 => ∃ (v263 : Value), Rep 37 [(5, v263)] a ∧ St w (fp []) w1 [rowI v263 117 enc_api_Type 4 o264]) ?_ ?_
 ·refine CW.block ?_
  have hst := hst.nilRow api_Type 117 enc_api_Type 4
  refine CW.loop (fun n a w1 => ∃ (s427 : (List api_Type) × Nat) (v428 : Value), Rep 37 [(5, v428), (15, Pt it17)] a ∧ St w (fp []) w1 [rowI v428 117 enc_api_Type 4 s427.1, sitI it17 r8.1.wants s427.2] ∧ loop (sigs_Args_l1 r8) n s427 = some o264) fu (fun a ha => ⟨(([] : List api_Type), 0), (.slice none 0 0), ha.ag, hst.keep [2, 1] rfl, ho265⟩) ?_
  rintro n425 a w1 ⟨s427, v428, ha, hst, hl426⟩
  rcases n425 with _ | n425
  ·exact (loop_zero hl426).elim
  refine CW.go ?_ ha
  obtain ⟨l429, a430, c431, rfl⟩ := hst.len 0 rfl
  refine rg ?_
  refine OW.snext hst 1 rfl rfl rfl rfl rfl ?_ ?_
  ·intro hp434 w435 hst
   have hl426 := ite_t hl426 hp434
   refine pu 1 [(17, .bool true)] (nx (CW.seq (CW.cond_t rfl rfl (CW.skip (QW.next (CW.block (rg ?_)))))))
   refine pu 2 [(7, .int .i32 (runeAt r8.1.wants s427.2))] (nx (rg ?_))
   refine pu 1 [(19, .int .i32 (runeAt r8.1.wants s427.2))] (nx (CW.block (rg ?_)))
   refine pu 2 [(24, .bool ((runeAt r8.1.wants s427.2) == 104))] (nx ?_)
   refine br (((runeAt r8.1.wants s427.2) == 104)) hl426 (fun hl426 hc436 => ?_) (fun hl426 hc436 => ?_)
   ·refine CW.region ?_
    refine pu 2 [(26, .slice a430 (s427.1).length c431), (27, .agg [I 2, U 0, U 0, I 0].toArray)] ?_
    refine OW.row (α := api_Type) (e := 117) (enc := enc_api_Type) (sz := 4) hst rfl rfl rfl [(api_Type.mk 2 (api_Span.mk 0 0) 0)] rfl (fun _ => rfl) rfl rfl (fun _ => by kernel_rfl) ?_
    intro g446 w447 hst
    obtain ⟨u448, hr449, hl426⟩ := bs hl426
    refine OW.app hst 0 rfl (fun _ => rfl) (fun _ => rfl) rfl rfl rfl rfl rfl rfl (by kernel_rfl) el117 (hst.rd 2 rfl (fun _ => rfl) [] rfl (hst.len 2 rfl).1) (room_le hr449) ?_
    intro v450 w451 hst
    obtain ⟨l452, a453, c454, rfl⟩ := hst.len 0 rfl
    refine pu 1 [(5, .slice a453 ((s427.1 ++ [(api_Type.mk 2 (api_Span.mk 0 0) 0)])).length c454)] (OW.nil rfl (QW.block_normal (QW.block_normal ?_)))
    exact QW.meet (fun a ha => ⟨n425, Nat.lt_succ_self _, ((s427.1 ++ [(api_Type.mk 2 (api_Span.mk 0 0) 0)]), (runeEnd r8.1.wants s427.2)), (.slice a453 ((s427.1 ++ [(api_Type.mk 2 (api_Span.mk 0 0) 0)])).length c454), ha.ag, hst.keep [0, 1] rfl, hl426⟩)
   refine rg ?_
   refine pu 2 [(30, .bool ((runeAt r8.1.wants s427.2) == 115))] (nx ?_)
   refine br (((runeAt r8.1.wants s427.2) == 115)) hl426 (fun hl426 hc456 => ?_) (fun hl426 hc456 => ?_)
   ·refine CW.region ?_
    refine pu 1 [(32, .slice a430 (s427.1).length c431)] ?_
    obtain ⟨r470, hr471, hl426⟩ := bs hl426
    refine OW.fn rfl rfl rfl rfl (by kernel_rfl) (sigs_number_ok _ 15 r470 hr471 (hst.part [] rfl)) ?_
    rintro e w472 ⟨rfl, hst473⟩
    refine ⟨_, rfl, ?_⟩
    have hst := hst.join (idx := []) (rest := [0, 1]) rfl hst473
    refine OW.row (α := api_Type) (e := 117) (enc := enc_api_Type) (sz := 4) hst rfl rfl rfl [r470] rfl (fun _ => rfl) rfl rfl (fun _ => by kernel_rfl) ?_
    intro g474 w475 hst
    obtain ⟨u476, hr477, hl426⟩ := bs hl426
    refine OW.app hst 0 rfl (fun _ => rfl) (fun _ => rfl) rfl rfl rfl rfl rfl rfl (by kernel_rfl) el117 (hst.rd 2 rfl (fun _ => rfl) [] rfl (hst.len 2 rfl).1) (room_le hr477) ?_
    intro v478 w479 hst
    obtain ⟨l480, a481, c482, rfl⟩ := hst.len 0 rfl
    refine pu 1 [(5, .slice a481 ((s427.1 ++ [r470])).length c482)] (OW.nil rfl (QW.block_normal (QW.block_normal ?_)))
    exact QW.meet (fun a ha => ⟨n425, Nat.lt_succ_self _, ((s427.1 ++ [r470]), (runeEnd r8.1.wants s427.2)), (.slice a481 ((s427.1 ++ [r470])).length c482), ha.ag, hst.keep [0, 1] rfl, hl426⟩)
   refine CW.region ?_
   refine pu 1 [(20, .slice a430 (s427.1).length c431)] ?_
   obtain ⟨r497, hr498, hl426⟩ := bs hl426
   refine OW.fn rfl rfl rfl rfl (by kernel_rfl) (sigs_number_ok _ 18446744073709551615 r497 hr498 (hst.part [] rfl)) ?_
   rintro e w499 ⟨rfl, hst500⟩
   refine ⟨_, rfl, ?_⟩
   have hst := hst.join (idx := []) (rest := [0, 1]) rfl hst500
   refine OW.row (α := api_Type) (e := 117) (enc := enc_api_Type) (sz := 4) hst rfl rfl rfl [r497] rfl (fun _ => rfl) rfl rfl (fun _ => by kernel_rfl) ?_
   intro g501 w502 hst
   obtain ⟨u503, hr504, hl426⟩ := bs hl426
   refine OW.app hst 0 rfl (fun _ => rfl) (fun _ => rfl) rfl rfl rfl rfl rfl rfl (by kernel_rfl) el117 (hst.rd 2 rfl (fun _ => rfl) [] rfl (hst.len 2 rfl).1) (room_le hr504) ?_
   intro v505 w506 hst
   obtain ⟨l507, a508, c509, rfl⟩ := hst.len 0 rfl
   refine pu 1 [(5, .slice a508 ((s427.1 ++ [r497])).length c509)] (OW.nil rfl (QW.block_normal (QW.block_normal ?_)))
   exact QW.meet (fun a ha => ⟨n425, Nat.lt_succ_self _, ((s427.1 ++ [r497]), (runeEnd r8.1.wants s427.2)), (.slice a508 ((s427.1 ++ [r497])).length c509), ha.ag, hst.keep [0, 1] rfl, hl426⟩)
  intro hp434
  have hl426 := ite_f hl426 hp434
  refine pu 1 [(17, .bool false)] (nx (CW.seq (CW.cond_f rfl rfl ?_)))
  refine CW.exit (QW.then_exit (QW.then_exit ?_))
  refine QW.block_here ?_
  obtain rfl := inj hl426
  exact QW.meet (fun a ha => ⟨(.slice a430 (s427.1).length c431), ha.ag, hst.keep [0] rfl⟩)
 rintro a w1 ⟨v263, ha, hst⟩
 refine CW.go ?_ ha
 obtain ⟨l512, a513, c514, rfl⟩ := hst.len 0 rfl
 refine rg ?_
 refine pu 2 [(2, .slice a513 (o264).length c514)] (nx (CW.ret ?_))
 obtain rfl := inj hF
 refine QW.ret1 rfl rfl ?_
 exact ⟨(.slice a513 (o264).length c514), rfl, hst.keep [0] rfl⟩
theorem sigs_Check_ok (w : World) (fu : Nat) (p0 : Int) (v1 : Value) (p1 : List api_Type) (r : Int) (hF : sigs_Check fu p0 p1 = some r)
    (hst : St w (fp []) w []) (h1 : Rd w (fp []) v1 enc_api_Type 4 p1) (hT1 : Rd w (fp []) (.slice (some ⟨1, 0, none⟩) 7 7) enc_sigs_sig 5 tab_g1) :
    Calls Tryd.prog 57 [I p0, v1].toArray w (fun e w' => e = .returned (I r) ∧ St w (fp []) w' []) := by
 refine CW.start (N := 56) Tryd.func57 rfl rfl rfl ?_
 obtain ⟨l1, a2, c3, rfl⟩ := h1.len
 refine rg ?_
 refine pu 1 [] (nx (CW.seq (rg ?_)))
 refine pu 1 [(11, I p0)] ?_
 obtain ⟨r11, hr12, hF⟩ := bs hF
 refine OW.fn rfl rfl rfl rfl (by kernel_rfl) (sigs_of_ok _ p0 r11 hr12 (hst.part [] rfl) (hT1.give hst [])) ?_
 rintro e w13 ⟨rfl, hst14⟩
 refine ⟨_, rfl, ?_⟩
 have hst := hst.join (idx := []) (rest := []) rfl hst14
 refine pu 3 [(13, .agg [.string r11.1.name, .string r11.1.wants, U r11.1.most, I r11.1.asks, .bool r11.1.isAsked].toArray), (14, .bool r11.2)] ?_
 refine OW.alloc hst rfl rfl rfl [.string ByteArray.empty, .string ByteArray.empty, U 0, I 0, .bool false] (by kernel_rfl) ?_
 intro b15 w16 hst
 refine OW.stB hst 0 rfl rfl rfl rfl rfl (by kernel_rfl) rfl rfl [.string r11.1.name, .string r11.1.wants, U r11.1.most, I r11.1.asks, .bool r11.1.isAsked] rfl ?_
 intro w17 hst
 refine pu 1 [(6, .bool r11.2)] (nx (rg ?_))
 refine pu 2 [(16, .bool (!r11.2))] (nx ?_)
 refine br ((!r11.2)) hF (fun hF hc18 => ?_) (fun hF hc18 => ?_)
 ·refine rg ?_
  refine pu 1 [(4, I 34)] (nx (CW.ret (QW.then_ret ?_)))
  obtain rfl := inj hF
  refine QW.ret1 rfl rfl ?_
  exact ⟨rfl, hst.keep [] rfl⟩
 refine CW.skip (QW.next (rg ?_))
 refine pu 1 [(17, I p0)] ?_
 obtain ⟨r27, hr28, hF⟩ := bs hF
 refine OW.fn rfl rfl rfl rfl (by kernel_rfl) (sigs_Args_ok _ fu p0 r27 hr28 (hst.part [] rfl) (hT1.give hst [])) ?_
 rintro e w29 ⟨v31, rfl, hst30⟩
 refine ⟨_, rfl, ?_⟩
 have hst := hst.join (idx := []) (rest := [0]) rfl hst30
 obtain ⟨l32, a33, c34, rfl⟩ := hst.len 0 rfl
 refine pu 1 [(7, .slice a33 (r27).length c34)] (nx (CW.seq (rg ?_)))
 refine pu 5 [(23, .bool (((r27).length : Int) != ((p1).length : Int)))] (nx ?_)
 refine br ((((r27).length : Int) != ((p1).length : Int))) hF (fun hF hc35 => ?_) (fun hF hc35 => ?_)
 ·refine rg ?_
  refine pu 1 [(4, I 2)] (nx (CW.ret (QW.then_ret ?_)))
  obtain rfl := inj hF
  refine QW.ret1 rfl rfl ?_
  exact ⟨rfl, hst.keep [] rfl⟩
 refine CW.skip (QW.next (CW.seq (rg ?_)))
 refine pu 3 [(24, .slice a33 (r27).length c34), (25, I ((r27).length : Int)), (26, I 0)] (nx ?_)
 obtain ⟨o232, ho233, hF⟩ := bs hF
 refine CW.cutK (fun a w1 => ∃ (t234 : Unit), o232 = .inl t234 ∧ Rep 56 [] a ∧ St w (fp []) w1 []) ?_ ?_
 ·refine CW.block ?_
  refine CW.loop (fun n a w1 => ∃ (i365 : Nat) (s364 : Unit), i365 + n = (r27).length ∧ Rep 56 [(1, .slice a2 (p1).length c3), (24, .slice a33 (r27).length c34), (25, I ((r27).length : Int)), (26, I (i365 : Int))] a ∧ St w (fp []) w1 [rowI (.slice a33 (r27).length c34) 117 enc_api_Type 4 r27] ∧ forN (sigs_Check_l1 p1 r27) (fun (s364 : Unit) => (.inl ())) n i365 s364 = some o232) (r27).length (fun a ha => ⟨0, (), Nat.zero_add _, ha.ag, hst.keep [0] rfl, ho233⟩) ?_
  rintro n362 a w1 ⟨i365, s364, hi366, ha, hst, hl363⟩
  refine CW.go ?_ ha
  refine rg ?_
  refine pu 1 [(27, .bool (decide ((i365 : Int) < ((r27).length : Int))))] (nx (CW.seq ?_))
  rcases bft (decide ((i365 : Int) < ((r27).length : Int))) with hc367 | hc367
  ·rcases n362 with _ | n362
   ·exact (cnt0 hi366 hc367).elim
   refine CW.cond_t rfl hc367 (CW.skip (QW.next (CW.seq (CW.block (rg ?_)))))
   refine pu 1 [(28, I (i365 : Int))] ?_
   obtain ⟨x377, hx378, hl363⟩ := bs hl363
   obtain ⟨g380, o381, c382, hv379⟩ := hst.rowv 0 rfl hx378
   refine OW.idx 117 4 rfl rfl rfl rfl hv379 rfl (idx_some hx378).1 (idx_some hx378).2.1 (by kernel_rfl) (by kernel_rfl) ?_
   refine OW.ldN (cs := enc_api_Type x377) rfl rfl rfl rfl (by kernel_rfl) (by kernel_rfl) (hst.rowc 0 rfl (fun _ => rfl) hx378 hv379) ?_
   refine OW.alloc hst rfl rfl rfl [I 0, U 0, U 0, I 0] (by kernel_rfl) ?_
   intro b383 w384 hst
   refine pu 1 [(8, I (i365 : Int))] ?_
   refine OW.stB hst 1 rfl rfl rfl rfl rfl (by kernel_rfl) rfl rfl [I x377.Kind, U x377.Span.Lo, U x377.Span.Hi, I x377.Map] rfl ?_
   intro w385 hst
   refine nx (CW.block (CW.seq ?_))
   refine CW.still (by kernel_rfl) (by kernel_rfl) ?_
   intro w394 hch395
   have hst := hst.same hch395
   refine OS.pure 1 [(32, Pt b383)] rfl (by kernel_rfl) ?_
   refine OS.ld rfl rfl rfl rfl rfl (by kernel_rfl) (hst.blk 1 rfl rfl) ?_
   refine OS.pure 2 [(34, .slice a2 (p1).length c3), (35, I (i365 : Int))] rfl (by kernel_rfl) ?_
   obtain ⟨x396, hx397, hl363⟩ := bs hl363
   obtain ⟨g399, o400, c401, hv398⟩ := h1.formv (fun _ => ⟨_, rfl⟩) hx397
   refine OS.idx 117 4 rfl rfl rfl rfl rfl hv398 rfl (idx_some hx397).1 (idx_some hx397).2.1 (by kernel_rfl) (by kernel_rfl) ?_
   refine OS.pure 1 [(37, .pointer (some ⟨g399, o400 + Int.toNat (i365 : Int) * 4, none⟩))] rfl (by kernel_rfl) ?_
   refine OS.ld rfl rfl rfl rfl rfl (by kernel_rfl) (h1.cellv hst hx397 hv398 0 _ rfl) ?_
   refine OS.pure 2 [(31, .bool (x377.Kind != x396.Kind))] rfl (by kernel_rfl) ?_
   refine OS.fin rfl (QW.next ?_)
   refine br ((x377.Kind != x396.Kind)) hl363 (fun hl363 hc402 => ?_) (fun hl363 hc402 => ?_)
   ·refine rg ?_
    refine pu 1 [(4, I 33)] (nx (CW.ret (QW.block_ret (QW.block_ret (QW.then_ret (QW.then_ret (QW.block_ret (QW.then_ret ?_))))))))
    obtain rfl := inj hl363
    obtain rfl := inj hF
    refine QW.ret1 rfl rfl ?_
    exact ⟨rfl, hst.keep [] rfl⟩
   refine CW.seq ?_
   obtain ⟨o416, ho417, hl363⟩ := bs hl363
   refine CW.cutK (fun a w1 => Rep 56 [(1, .slice a2 (p1).length c3), (24, .slice a33 (r27).length c34), (25, I ((r27).length : Int)), (26, I (i365 : Int)), (40, .bool o416)] a ∧ St w (fp []) w1 [rowI (.slice a33 (r27).length c34) 117 enc_api_Type 4 r27]) ?_ ?_
   ·refine CW.tail 11 (by kernel_rfl) (by kernel_rfl) ?_
    intro w418 hch419
    have hst := hst.same hch419
    refine OS.pure 1 [(41, Pt b383)] rfl (by kernel_rfl) ?_
    refine OS.ld rfl rfl rfl rfl rfl (by kernel_rfl) (hst.blk 1 rfl rfl) ?_
    refine OS.pure 2 [(44, .bool (x377.Kind == 1))] rfl (by kernel_rfl) ?_
    refine OS.split 44 rfl (fun hc420 => ?_) (fun hc420 => ?_)
    ·have ho417 := ite_t ho417 hc420
     refine OS.pure 2 [(45, .slice a2 (p1).length c3), (46, I (i365 : Int))] rfl (by kernel_rfl) ?_
     obtain ⟨g422, o423, c424, hv421⟩ := h1.formv (fun _ => ⟨_, rfl⟩) hx397
     refine OS.idx 117 4 rfl rfl rfl rfl rfl hv421 rfl (idx_some hx397).1 (idx_some hx397).2.1 (by kernel_rfl) (by kernel_rfl) ?_
     refine OS.pure 1 [(48, .pointer (some ⟨g422, o423 + Int.toNat (i365 : Int) * 4 + 1, none⟩))] rfl (by kernel_rfl) ?_
     refine OS.ldN (cs := [U x396.Span.Lo, U x396.Span.Hi]) rfl rfl rfl rfl rfl (by kernel_rfl) (by kernel_rfl) (elN (h1.cellv hst hx397 hv421) 1 2) ?_
     refine OS.pure 1 [(50, .pointer (some ⟨b383, 1, none⟩))] rfl (by kernel_rfl) ?_
     refine OS.ldN (cs := [U x377.Span.Lo, U x377.Span.Hi]) rfl rfl rfl rfl rfl (by kernel_rfl) (by kernel_rfl) (hst.blkN 1 rfl 1 2) ?_
     refine OS.on ?_
     obtain ⟨r425, hr426, ho417⟩ := bs ho417
     refine OW.fn rfl rfl rfl rfl (by kernel_rfl) (span_Within_ok _ x396.Span x377.Span r425 hr426 (hst.part [] rfl)) ?_
     rintro e w427 ⟨rfl, hst428⟩
     refine ⟨_, rfl, ?_⟩
     have hst := hst.join (idx := []) (rest := [0, 1]) rfl hst428
     refine pu 3 [(40, .bool (!r425))] (OW.nil rfl ?_)
     obtain rfl := inj ho417
     exact QW.meet (fun a ha => ⟨ha.ag, hst.keep [0] rfl⟩)
    have ho417 := ite_f ho417 hc420
    refine OS.pure 7 [(49, undef), (51, undef)] rfl (by kernel_rfl) ?_
    refine OS.on ?_
    refine pu 4 [(40, .bool false)] (OW.nil rfl ?_)
    obtain rfl := inj ho417
    exact QW.meet (fun a ha => ⟨ha.ag, hst.keep [0] rfl⟩)
   rintro a w1 ⟨ha, hst⟩
   refine CW.go ?_ ha
   refine br (o416) hl363 (fun hl363 hc429 => ?_) (fun hl363 hc429 => ?_)
   ·refine rg ?_
    refine pu 1 [(4, I 35)] (nx (CW.ret (QW.block_ret (QW.block_ret (QW.then_ret (QW.then_ret (QW.block_ret (QW.then_ret ?_))))))))
    obtain rfl := inj hl363
    obtain rfl := inj hF
    refine QW.ret1 rfl rfl ?_
    exact ⟨rfl, hst.keep [] rfl⟩
   refine CW.skip (QW.block_normal (QW.block_normal (QW.next (CW.region ?_))))
   refine pu 2 [(26, I (w64 ((i365 : Int) + 1)))] (OW.nil rfl ?_)
   refine QW.say 26 rfl (congrArg (Value.int .i64) (w64_cnt hc367 l32)) ?_
   exact QW.meet (fun a ha => ⟨n362, Nat.lt_succ_self _, i365 + 1, (), cnt_next hi366, ha.ag, hst.keep [0] rfl, hl363⟩)
  rcases n362 with _ | n362
  ·refine CW.cond_f rfl hc367 ?_
   refine CW.exit (QW.then_exit (QW.then_exit ?_))
   refine QW.block_here ?_
   obtain rfl := inj hl363
   exact QW.meet (fun a ha => ⟨(), rfl, ha.ag, hst.keep [] rfl⟩)
  exact (cnt1 hi366 hc367).elim
 rintro a w1 ⟨t234, rfl, ha, hst⟩
 refine CW.go ?_ ha
 refine rg ?_
 refine pu 1 [(4, I 0)] (nx (CW.ret ?_))
 obtain rfl := inj hF
 refine QW.ret1 rfl rfl ?_
 exact ⟨rfl, hst.keep [] rfl⟩
theorem sigs_Result_ok (w : World) (p0 : Int) (r : api_Type × Bool) (hF : sigs_Result p0 = some r)
    (hst : St w (fp []) w []) (hT1 : Rd w (fp []) (.slice (some ⟨1, 0, none⟩) 7 7) enc_sigs_sig 5 tab_g1) :
    Calls Tryd.prog 59 [I p0].toArray w (fun e w' => e = .returned (.tuple #[.agg [I r.1.Kind, U r.1.Span.Lo, U r.1.Span.Hi, I r.1.Map].toArray, .bool r.2]) ∧ St w (fp []) w' []) := by
 refine CW.start (N := 17) Tryd.func59 rfl rfl rfl (rg ?_)
 refine OW.alloc hst rfl rfl rfl [I 0, U 0, U 0, I 0] (by kernel_rfl) ?_
 intro b3 w4 hst
 refine pu 1 [] (nx (rg ?_))
 refine pu 1 [(7, I p0)] ?_
 obtain ⟨r12, hr13, hF⟩ := bs hF
 refine OW.fn rfl rfl rfl rfl (by kernel_rfl) (sigs_of_ok _ p0 r12 hr13 (hst.part [] rfl) (hT1.give hst [])) ?_
 rintro e w14 ⟨rfl, hst15⟩
 refine ⟨_, rfl, ?_⟩
 have hst := hst.join (idx := []) (rest := [0]) rfl hst15
 refine pu 3 [(9, .agg [.string r12.1.name, .string r12.1.wants, U r12.1.most, I r12.1.asks, .bool r12.1.isAsked].toArray), (10, .bool r12.2)] ?_
 refine OW.alloc hst rfl rfl rfl [.string ByteArray.empty, .string ByteArray.empty, U 0, I 0, .bool false] (by kernel_rfl) ?_
 intro b16 w17 hst
 refine OW.stB hst 1 rfl rfl rfl rfl rfl (by kernel_rfl) rfl rfl [.string r12.1.name, .string r12.1.wants, U r12.1.most, I r12.1.asks, .bool r12.1.isAsked] rfl ?_
 intro w18 hst
 refine pu 1 [(5, .bool r12.2)] (nx (CW.seq (rg ?_)))
 refine pu 2 [(12, .bool (!r12.2))] (nx ?_)
 refine br ((!r12.2)) hF (fun hF hc19 => ?_) (fun hF hc19 => ?_)
 ·refine rg ?_
  refine pu 1 [(13, .agg [I 0, U 0, U 0, I 0].toArray)] ?_
  refine OW.stB hst 0 rfl rfl rfl rfl rfl (by kernel_rfl) rfl rfl [I 0, U 0, U 0, I 0] rfl ?_
  intro w21 hst
  refine pu 1 [(3, .bool false)] (nx (CW.ret (QW.then_ret ?_)))
  obtain rfl := inj hF
  refine QW.ret_ct rfl rfl (run_loadN (cs := [I 0, U 0, U 0, I 0]) (by kernel_rfl) (by kernel_rfl) (hst.blkN 0 rfl 0 4)) rfl ?_
  exact ⟨rfl, hst.keep [] rfl⟩
 refine CW.skip (QW.next (rg ?_))
 refine pu 1 [(14, .pointer (some ⟨b16, 2, none⟩))] ?_
 refine OW.ld rfl rfl rfl rfl (by kernel_rfl) (hst.blk 1 rfl rfl) ?_
 obtain ⟨r27, hr28, hF⟩ := bs hF
 refine OW.fn rfl rfl rfl rfl (by kernel_rfl) (sigs_number_ok _ r12.1.most r27 hr28 (hst.part [] rfl)) ?_
 rintro e w29 ⟨rfl, hst30⟩
 refine ⟨_, rfl, ?_⟩
 have hst := hst.join (idx := []) (rest := [0, 1]) rfl hst30
 refine OW.stB hst 0 rfl rfl rfl rfl rfl (by kernel_rfl) rfl rfl [I r27.Kind, U r27.Span.Lo, U r27.Span.Hi, I r27.Map] rfl ?_
 intro w31 hst
 refine pu 1 [(3, .bool true)] (nx (CW.ret ?_))
 obtain rfl := inj hF
 refine QW.ret_ct rfl rfl (run_loadN (cs := [I r27.Kind, U r27.Span.Lo, U r27.Span.Hi, I r27.Map]) (by kernel_rfl) (by kernel_rfl) (hst.blkN 0 rfl 0 4)) rfl ?_
 exact ⟨rfl, hst.keep [] rfl⟩
theorem arith_Do_ok (w : World) (p0 : Int) (p1 : Int) (p2 : Int) (r : Int × Bool) (hF : arith_Do p0 p1 p2 = some r)
    (hst : St w (fp []) w []) :
    Calls Tryd.prog 69 [I p0, U p1, U p2].toArray w (fun e w' => e = .returned (.tuple #[U r.1, .bool r.2]) ∧ St w (fp []) w' []) := by
 refine CW.start (N := 64) Tryd.func69 rfl rfl rfl (rg ?_)
 refine pu 2 [] (nx (CW.seq (rg ?_)))
 refine pu 1 [(8, I p0)] (nx (CW.block (rg ?_)))
 refine pu 2 [(9, .bool (p0 == 1))] (nx ?_)
 refine br ((p0 == 1)) hF (fun hF hc1 => ?_) (fun hF hc1 => ?_)
 ·refine rg ?_
  refine pu 5 [(6, U (wu64 (p1 + p2))), (7, .bool true)] (nx (CW.ret (QW.block_ret (QW.then_ret ?_))))
  obtain rfl := inj hF
  refine QW.ret2 rfl rfl rfl ?_
  exact ⟨rfl, hst.keep [] rfl⟩
 refine rg ?_
 refine pu 2 [(14, .bool (p0 == 2))] (nx ?_)
 refine br ((p0 == 2)) hF (fun hF hc2 => ?_) (fun hF hc2 => ?_)
 ·refine rg ?_
  refine pu 5 [(6, U (wu64 (p1 - p2))), (7, .bool true)] (nx (CW.ret (QW.block_ret (QW.then_ret ?_))))
  obtain rfl := inj hF
  refine QW.ret2 rfl rfl rfl ?_
  exact ⟨rfl, hst.keep [] rfl⟩
 refine rg ?_
 refine pu 2 [(19, .bool (p0 == 3))] (nx ?_)
 refine br ((p0 == 3)) hF (fun hF hc3 => ?_) (fun hF hc3 => ?_)
 ·refine rg ?_
  refine pu 5 [(6, U (wu64 (p1 * p2))), (7, .bool true)] (nx (CW.ret (QW.block_ret (QW.then_ret ?_))))
  obtain rfl := inj hF
  refine QW.ret2 rfl rfl rfl ?_
  exact ⟨rfl, hst.keep [] rfl⟩
 refine rg ?_
 refine pu 2 [(24, .bool (p0 == 4))] (nx ?_)
 refine br ((p0 == 4)) hF (fun hF hc4 => ?_) (fun hF hc4 => ?_)
 ·refine CW.seq (rg ?_)
  refine pu 2 [(27, .bool (p2 == 0))] (nx ?_)
  refine br ((p2 == 0)) hF (fun hF hc5 => ?_) (fun hF hc5 => ?_)
  ·refine rg ?_
   refine pu 2 [(6, U 0), (7, .bool true)] (nx (CW.ret (QW.then_ret (QW.block_ret (QW.then_ret ?_)))))
   obtain rfl := inj hF
   refine QW.ret2 rfl rfl rfl ?_
   exact ⟨rfl, hst.keep [] rfl⟩
  refine CW.skip (QW.next (rg ?_))
  refine pu 2 [(28, U p1), (29, U p2)] ?_
  obtain ⟨u8, hz9, hF⟩ := bs hF
  refine OW.quo rfl rfl rfl rfl rfl (nz_ne hz9) ?_
  refine pu 2 [(6, U (wu64 (p1.tdiv p2))), (7, .bool true)] (nx (CW.ret (QW.block_ret (QW.then_ret ?_))))
  obtain rfl := inj hF
  refine QW.ret2 rfl rfl rfl ?_
  exact ⟨rfl, hst.keep [] rfl⟩
 refine rg ?_
 refine pu 2 [(31, .bool (p0 == 5))] (nx ?_)
 refine br ((p0 == 5)) hF (fun hF hc10 => ?_) (fun hF hc10 => ?_)
 ·refine CW.seq (rg ?_)
  refine pu 2 [(34, .bool (p2 == 0))] (nx ?_)
  refine br ((p2 == 0)) hF (fun hF hc11 => ?_) (fun hF hc11 => ?_)
  ·refine rg ?_
   refine pu 3 [(6, U p1), (7, .bool true)] (nx (CW.ret (QW.then_ret (QW.block_ret (QW.then_ret ?_)))))
   obtain rfl := inj hF
   refine QW.ret2 rfl rfl rfl ?_
   exact ⟨rfl, hst.keep [] rfl⟩
  refine CW.skip (QW.next (rg ?_))
  refine pu 2 [(36, U p1), (37, U p2)] ?_
  obtain ⟨u14, hz15, hF⟩ := bs hF
  refine OW.rem rfl rfl rfl rfl rfl (nz_ne hz15) ?_
  refine pu 2 [(6, U (p1.tmod p2)), (7, .bool true)] (nx (CW.ret (QW.block_ret (QW.then_ret ?_))))
  obtain rfl := inj hF
  refine QW.ret2 rfl rfl rfl ?_
  exact ⟨rfl, hst.keep [] rfl⟩
 refine rg ?_
 refine pu 2 [(39, .bool (p0 == 6))] (nx ?_)
 refine br ((p0 == 6)) hF (fun hF hc16 => ?_) (fun hF hc16 => ?_)
 ·refine rg ?_
  refine pu 5 [(6, U (bAnd .u64 p1 p2)), (7, .bool true)] (nx (CW.ret (QW.block_ret (QW.then_ret ?_))))
  obtain rfl := inj hF
  refine QW.ret2 rfl rfl rfl ?_
  exact ⟨rfl, hst.keep [] rfl⟩
 refine rg ?_
 refine pu 2 [(44, .bool (p0 == 7))] (nx ?_)
 refine br ((p0 == 7)) hF (fun hF hc17 => ?_) (fun hF hc17 => ?_)
 ·refine rg ?_
  refine pu 5 [(6, U (bOr .u64 p1 p2)), (7, .bool true)] (nx (CW.ret (QW.block_ret (QW.then_ret ?_))))
  obtain rfl := inj hF
  refine QW.ret2 rfl rfl rfl ?_
  exact ⟨rfl, hst.keep [] rfl⟩
 refine rg ?_
 refine pu 2 [(49, .bool (p0 == 8))] (nx ?_)
 refine br ((p0 == 8)) hF (fun hF hc18 => ?_) (fun hF hc18 => ?_)
 ·refine rg ?_
  refine pu 5 [(6, U (bXor .u64 p1 p2)), (7, .bool true)] (nx (CW.ret (QW.block_ret (QW.then_ret ?_))))
  obtain rfl := inj hF
  refine QW.ret2 rfl rfl rfl ?_
  exact ⟨rfl, hst.keep [] rfl⟩
 refine rg ?_
 refine pu 2 [(54, .bool (p0 == 9))] (nx ?_)
 refine br ((p0 == 9)) hF (fun hF hc19 => ?_) (fun hF hc19 => ?_)
 ·refine rg ?_
  refine pu 2 [(56, U p1), (57, U p2)] ?_
  obtain ⟨u22, hz23, hF⟩ := bs hF
  refine OW.op (v := U (bShl .u64 p1 p2)) rfl rfl rfl rfl (fun a ha => shl_run rfl rfl rfl (nn_ge hz23) a _ ha) ?_
  refine pu 2 [(6, U (bShl .u64 p1 p2)), (7, .bool true)] (nx (CW.ret (QW.block_ret (QW.then_ret ?_))))
  obtain rfl := inj hF
  refine QW.ret2 rfl rfl rfl ?_
  exact ⟨rfl, hst.keep [] rfl⟩
 refine rg ?_
 refine pu 2 [(59, .bool (p0 == 10))] (nx ?_)
 refine br ((p0 == 10)) hF (fun hF hc24 => ?_) (fun hF hc24 => ?_)
 ·refine rg ?_
  refine pu 2 [(61, U p1), (62, U p2)] ?_
  obtain ⟨u27, hz28, hF⟩ := bs hF
  refine OW.op (v := U (bShr .u64 p1 p2)) rfl rfl rfl rfl (fun a ha => shr_run rfl rfl rfl (nn_ge hz28) a _ ha) ?_
  refine pu 2 [(6, U (bShr .u64 p1 p2)), (7, .bool true)] (nx (CW.ret (QW.block_ret (QW.then_ret ?_))))
  obtain rfl := inj hF
  refine QW.ret2 rfl rfl rfl ?_
  exact ⟨rfl, hst.keep [] rfl⟩
 refine CW.skip (QW.block_normal (QW.next (rg ?_)))
 refine pu 2 [(6, U 0), (7, .bool false)] (nx (CW.ret ?_))
 obtain rfl := inj hF
 refine QW.ret2 rfl rfl rfl ?_
 exact ⟨rfl, hst.keep [] rfl⟩
theorem span_single_ok (w : World) (p0 : api_Span) (r : Bool) (hF : span_single p0 = some r)
    (hst : St w (fp []) w []) :
    Calls Tryd.prog 82 [.agg [U p0.Lo, U p0.Hi].toArray].toArray w (fun e w' => e = .returned (.bool r) ∧ St w (fp []) w' []) := by
 refine CW.start (N := 8) Tryd.func82 rfl rfl rfl (rg ?_)
 refine OW.box hst rfl rfl rfl rfl [U p0.Lo, U p0.Hi] rfl ?_
 intro b3 w4 hst
 refine pu 1 [] (nx (rg ?_))
 refine pu 1 [(3, Pt b3)] ?_
 refine OW.ld rfl rfl rfl rfl (by kernel_rfl) (hst.blk 0 rfl rfl) ?_
 refine pu 1 [(5, .pointer (some ⟨b3, 1, none⟩))] ?_
 refine OW.ld rfl rfl rfl rfl (by kernel_rfl) (hst.blk 0 rfl rfl) ?_
 refine pu 2 [(2, .bool (p0.Lo == p0.Hi))] (nx (CW.ret ?_))
 obtain rfl := inj hF
 refine QW.ret1 rfl rfl ?_
 exact ⟨rfl, hst.keep [] rfl⟩
theorem span_sum_ok (w : World) (p0 : api_Span) (p1 : api_Span) (r : api_Span) (hF : span_sum p0 p1 = some r)
    (hst : St w (fp []) w []) :
    Calls Tryd.prog 83 [.agg [U p0.Lo, U p0.Hi].toArray, .agg [U p1.Lo, U p1.Hi].toArray].toArray w (fun e w' => e = .returned (.agg [U r.Lo, U r.Hi].toArray) ∧ St w (fp []) w' []) := by
 refine CW.start (N := 25) Tryd.func83 rfl rfl rfl (rg ?_)
 refine OW.box hst rfl rfl rfl rfl [U p0.Lo, U p0.Hi] rfl ?_
 intro b7 w8 hst
 refine OW.box hst rfl rfl rfl rfl [U p1.Lo, U p1.Hi] rfl ?_
 intro b9 w10 hst
 refine OW.alloc hst rfl rfl rfl [U 0, U 0] (by kernel_rfl) ?_
 intro b11 w12 hst
 refine nx (rg ?_)
 refine pu 1 [(8, .pointer (some ⟨b7, 1, none⟩))] ?_
 refine OW.ld rfl rfl rfl rfl (by kernel_rfl) (hst.blk 0 rfl rfl) ?_
 refine pu 1 [(10, .pointer (some ⟨b9, 1, none⟩))] ?_
 refine OW.ld rfl rfl rfl rfl (by kernel_rfl) (hst.blk 1 rfl rfl) ?_
 obtain ⟨x15, hx16, hF⟩ := bs hF
 refine OW.op (v := .tuple [U x15.1, U x15.2].toArray) rfl rfl rfl rfl (fun a ha => add64_run rfl rfl rfl rfl Tryd.func93 (by kernel_rfl) (by kernel_rfl) (by kernel_rfl) (by kernel_rfl) hx16 a _ ha) ?_
 refine pu 5 [(5, U x15.1), (6, U x15.2)] (nx (CW.seq (rg ?_)))
 refine pu 2 [(16, .bool (decide (x15.2 > 0)))] (nx ?_)
 refine br (decide (x15.2 > 0)) hF (fun hF hc17 => ?_) (fun hF hc17 => ?_)
 ·refine rg ?_
  obtain ⟨r23, hr24, hF⟩ := bs hF
  refine OW.fn rfl rfl rfl rfl (by kernel_rfl) (span_Full_ok _ r23 hr24 (hst.part [] rfl)) ?_
  rintro e w25 ⟨rfl, hst26⟩
  refine ⟨_, rfl, ?_⟩
  have hst := hst.join (idx := []) (rest := [0, 1, 2]) rfl hst26
  refine OW.stB hst 2 rfl rfl rfl rfl rfl (by kernel_rfl) rfl rfl [U r23.Lo, U r23.Hi] rfl ?_
  intro w27 hst
  refine nx (CW.ret (QW.then_ret ?_))
  obtain rfl := inj hF
  refine QW.ret_c rfl rfl (run_loadN (cs := [U r23.Lo, U r23.Hi]) (by kernel_rfl) (by kernel_rfl) (hst.blkN 2 rfl 0 2)) ?_
  exact ⟨rfl, hst.keep [] rfl⟩
 refine CW.skip (QW.next (rg ?_))
 refine pu 1 [(18, Pt b7)] ?_
 refine OW.ld rfl rfl rfl rfl (by kernel_rfl) (hst.blk 0 rfl rfl) ?_
 refine pu 1 [(20, Pt b9)] ?_
 refine OW.ld rfl rfl rfl rfl (by kernel_rfl) (hst.blk 1 rfl rfl) ?_
 refine pu 3 [(24, .agg [U (wu64 (p0.Lo + p1.Lo)), U x15.1].toArray)] ?_
 refine OW.stB hst 2 rfl rfl rfl rfl rfl (by kernel_rfl) rfl rfl [U (wu64 (p0.Lo + p1.Lo)), U x15.1] rfl ?_
 intro w29 hst
 refine nx (CW.ret ?_)
 obtain rfl := inj hF
 refine QW.ret_c rfl rfl (run_loadN (cs := [U (wu64 (p0.Lo + p1.Lo)), U x15.1]) (by kernel_rfl) (by kernel_rfl) (hst.blkN 2 rfl 0 2)) ?_
 exact ⟨rfl, hst.keep [] rfl⟩
theorem bits_Mul64_ok (w : World) (p0 : Int) (p1 : Int) (r : Int × Int) (hF : bits_Mul64 p0 p1 = some r)
    (hst : St w (fp []) w []) :
    Calls Tryd.prog 94 [U p0, U p1].toArray w (fun e w' => e = .returned (.tuple #[U r.1, U r.2]) ∧ St w (fp []) w' []) := by
 refine CW.start (N := 51) Tryd.func94 rfl rfl rfl (rg ?_)
 refine pu 2 [] (nx (rg ?_))
 refine pu 3 [(6, U (bAnd .u64 p0 4294967295))] (nx (rg ?_))
 refine pu 3 [(7, U (bShr .u64 p0 32))] (nx (rg ?_))
 refine pu 3 [(8, U (bAnd .u64 p1 4294967295))] (nx (rg ?_))
 refine pu 3 [(9, U (bShr .u64 p1 32))] (nx (rg ?_))
 refine pu 4 [(10, U (wu64 ((bAnd .u64 p0 4294967295) * (bAnd .u64 p1 4294967295))))] (nx (rg ?_))
 refine pu 7 [(11, U (wu64 ((wu64 ((bShr .u64 p0 32) * (bAnd .u64 p1 4294967295))) + (bShr .u64 (wu64 ((bAnd .u64 p0 4294967295) * (bAnd .u64 p1 4294967295))) 32))))] (nx (rg ?_))
 refine pu 3 [(12, U (bAnd .u64 (wu64 ((wu64 ((bShr .u64 p0 32) * (bAnd .u64 p1 4294967295))) + (bShr .u64 (wu64 ((bAnd .u64 p0 4294967295) * (bAnd .u64 p1 4294967295))) 32))) 4294967295))] (nx (rg ?_))
 refine pu 3 [(13, U (bShr .u64 (wu64 ((wu64 ((bShr .u64 p0 32) * (bAnd .u64 p1 4294967295))) + (bShr .u64 (wu64 ((bAnd .u64 p0 4294967295) * (bAnd .u64 p1 4294967295))) 32))) 32))] (nx (rg ?_))
 refine pu 6 [(12, U (wu64 ((bAnd .u64 (wu64 ((wu64 ((bShr .u64 p0 32) * (bAnd .u64 p1 4294967295))) + (bShr .u64 (wu64 ((bAnd .u64 p0 4294967295) * (bAnd .u64 p1 4294967295))) 32))) 4294967295) + (wu64 ((bAnd .u64 p0 4294967295) * (bShr .u64 p1 32))))))] (nx (rg ?_))
 refine pu 9 [(4, U (wu64 ((wu64 ((wu64 ((bShr .u64 p0 32) * (bShr .u64 p1 32))) + (bShr .u64 (wu64 ((wu64 ((bShr .u64 p0 32) * (bAnd .u64 p1 4294967295))) + (bShr .u64 (wu64 ((bAnd .u64 p0 4294967295) * (bAnd .u64 p1 4294967295))) 32))) 32))) + (bShr .u64 (wu64 ((bAnd .u64 (wu64 ((wu64 ((bShr .u64 p0 32) * (bAnd .u64 p1 4294967295))) + (bShr .u64 (wu64 ((bAnd .u64 p0 4294967295) * (bAnd .u64 p1 4294967295))) 32))) 4294967295) + (wu64 ((bAnd .u64 p0 4294967295) * (bShr .u64 p1 32))))) 32))))] (nx (rg ?_))
 refine pu 4 [(5, U (wu64 (p0 * p1)))] (nx (CW.ret ?_))
 obtain rfl := inj hF
 refine QW.ret2 rfl rfl rfl ?_
 exact ⟨rfl, hst.keep [] rfl⟩
theorem span_product_ok (w : World) (p0 : api_Span) (p1 : api_Span) (r : api_Span) (hF : span_product p0 p1 = some r)
    (hst : St w (fp []) w []) :
    Calls Tryd.prog 84 [.agg [U p0.Lo, U p0.Hi].toArray, .agg [U p1.Lo, U p1.Hi].toArray].toArray w (fun e w' => e = .returned (.agg [U r.Lo, U r.Hi].toArray) ∧ St w (fp []) w' []) := by
 refine CW.start (N := 25) Tryd.func84 rfl rfl rfl (rg ?_)
 refine OW.box hst rfl rfl rfl rfl [U p0.Lo, U p0.Hi] rfl ?_
 intro b7 w8 hst
 refine OW.box hst rfl rfl rfl rfl [U p1.Lo, U p1.Hi] rfl ?_
 intro b9 w10 hst
 refine OW.alloc hst rfl rfl rfl [U 0, U 0] (by kernel_rfl) ?_
 intro b11 w12 hst
 refine nx (rg ?_)
 refine pu 1 [(8, .pointer (some ⟨b7, 1, none⟩))] ?_
 refine OW.ld rfl rfl rfl rfl (by kernel_rfl) (hst.blk 0 rfl rfl) ?_
 refine pu 1 [(10, .pointer (some ⟨b9, 1, none⟩))] ?_
 refine OW.ld rfl rfl rfl rfl (by kernel_rfl) (hst.blk 1 rfl rfl) ?_
 obtain ⟨r17, hr18, hF⟩ := bs hF
 refine OW.fn rfl rfl rfl rfl (by kernel_rfl) (bits_Mul64_ok _ p0.Hi p1.Hi r17 hr18 (hst.part [] rfl)) ?_
 rintro e w19 ⟨rfl, hst20⟩
 refine ⟨_, rfl, ?_⟩
 have hst := hst.join (idx := []) (rest := [0, 1, 2]) rfl hst20
 refine pu 5 [(5, U r17.1), (6, U r17.2)] (nx (CW.seq (rg ?_)))
 refine pu 2 [(16, .bool (decide (r17.1 > 0)))] (nx ?_)
 refine br (decide (r17.1 > 0)) hF (fun hF hc21 => ?_) (fun hF hc21 => ?_)
 ·refine rg ?_
  obtain ⟨r27, hr28, hF⟩ := bs hF
  refine OW.fn rfl rfl rfl rfl (by kernel_rfl) (span_Full_ok _ r27 hr28 (hst.part [] rfl)) ?_
  rintro e w29 ⟨rfl, hst30⟩
  refine ⟨_, rfl, ?_⟩
  have hst := hst.join (idx := []) (rest := [0, 1, 2]) rfl hst30
  refine OW.stB hst 2 rfl rfl rfl rfl rfl (by kernel_rfl) rfl rfl [U r27.Lo, U r27.Hi] rfl ?_
  intro w31 hst
  refine nx (CW.ret (QW.then_ret ?_))
  obtain rfl := inj hF
  refine QW.ret_c rfl rfl (run_loadN (cs := [U r27.Lo, U r27.Hi]) (by kernel_rfl) (by kernel_rfl) (hst.blkN 2 rfl 0 2)) ?_
  exact ⟨rfl, hst.keep [] rfl⟩
 refine CW.skip (QW.next (rg ?_))
 refine pu 1 [(18, Pt b7)] ?_
 refine OW.ld rfl rfl rfl rfl (by kernel_rfl) (hst.blk 0 rfl rfl) ?_
 refine pu 1 [(20, Pt b9)] ?_
 refine OW.ld rfl rfl rfl rfl (by kernel_rfl) (hst.blk 1 rfl rfl) ?_
 refine pu 3 [(24, .agg [U (wu64 (p0.Lo * p1.Lo)), U r17.2].toArray)] ?_
 refine OW.stB hst 2 rfl rfl rfl rfl rfl (by kernel_rfl) rfl rfl [U (wu64 (p0.Lo * p1.Lo)), U r17.2] rfl ?_
 intro w34 hst
 refine nx (CW.ret ?_)
 obtain rfl := inj hF
 refine QW.ret_c rfl rfl (run_loadN (cs := [U (wu64 (p0.Lo * p1.Lo)), U r17.2]) (by kernel_rfl) (by kernel_rfl) (hst.blkN 2 rfl 0 2)) ?_
 exact ⟨rfl, hst.keep [] rfl⟩
end Go.Proofs.YtkgajppghpmkbaaDoor

/- Written by a program (wip/gen): the walks: each Go function returns what its plain function computes. -/
import Derived.Test.YtkgajppghpmkbaaDoorProg
import Derived.Test.YtkgajppghpmkbaaDoorF1
import Derived.Test.YtkgajppghpmkbaaDoorSq
import Derived.Test.YtkgajppghpmkbaaDoorPart
import Derived.Test.YtkgajppghpmkbaaDoorO1
import Derived.Test.YtkgajppghpmkbaaDoorW1p4
set_option linter.unusedSimpArgs false
namespace Go.Proofs.YtkgajppghpmkbaaDoor
open Go.Sx
set_option linter.unusedVariables false
set_option maxRecDepth 10000 in
set_option maxHeartbeats 4000000 in
theorem tappetlaw23_WorkerRefuses_ok (w : World) (fu : Nat) (v0_0 : Value) (v0_1 : Value) (v0_2 : Value) (p0 : tappetlaw23_Event) (v1 : Value) (p1 : List Int) (r : Bool) (hF : tappetlaw23_WorkerRefuses fu p0 p1 = some r)
    (hst : St w (fp []) w []) (h0_0 : Rd w (fp []) v0_0 (encInt .i64) 1 p0.M.Maps) (h0_1 : Rd w (fp []) v0_1 enc_api_Inst 5 p0.M.Code) (h0_2 : Rd w (fp []) v0_2 enc_api_Res 6 p0.Res) (h1 : Rd w (fp []) v1 (encInt .i64) 1 p1) (hT0 : Rd w (fp []) (.slice (some ⟨0, 0, none⟩) 23 23) enc_ops_form 2 tab_g0) (hT1 : Rd w (fp []) (.slice (some ⟨1, 0, none⟩) 7 7) enc_sigs_sig 5 tab_g1) :
    Calls Tryd.prog 3 [.agg [I p0.Hook, U p0.E.A, U p0.E.B, v0_0, v0_1, v0_2].toArray, v1].toArray w (fun e w' => e = .returned (.bool r) ∧ St w (fp []) w' []) := by
 refine CW.start (N := 153) Tryd.func3 rfl rfl rfl ?_
 obtain ⟨l1, a2, c3, rfl⟩ := h0_0.len
 obtain ⟨l4, a5, c6, rfl⟩ := h0_1.len
 obtain ⟨l7, a8, c9, rfl⟩ := h0_2.len
 obtain ⟨l10, a11, c12, rfl⟩ := h1.len
 refine rg ?_
 refine OW.box hst rfl rfl rfl rfl [I p0.Hook, U p0.E.A, U p0.E.B, .slice a2 (p0.M.Maps).length c3, .slice a5 (p0.M.Code).length c6, .slice a8 (p0.Res).length c9] rfl ?_
 intro b15 w16 hst
 refine pu 1 [] (nx (CW.seq (rg ?_)))
 obtain ⟨r21, hr22, hF⟩ := bs hF
 refine OW.fn rfl rfl rfl rfl (by kernel_rfl) (tappetlaw23_awake_ok _ fu r21 hr22 (hst.part [] rfl) (hT0.give hst []) (hT1.give hst [])) ?_
 rintro e w23 ⟨rfl, hst24⟩
 refine ⟨_, rfl, ?_⟩
 have hst := hst.join (idx := []) (rest := [0]) rfl hst24
 refine pu 1 [(23, .bool (!r21))] (nx ?_)
 refine br ((!r21)) hF (fun hF hc25 => ?_) (fun hF hc25 => ?_)
 ·refine rg ?_
  refine pu 1 [(4, .bool false)] (nx (CW.ret (QW.then_ret ?_)))
  obtain rfl := inj hF
  refine QW.ret1 rfl rfl ?_
  exact ⟨rfl, hst.keep [] rfl⟩
 refine CW.skip (QW.next (rg ?_))
 obtain ⟨r33, hr34, hF⟩ := bs hF
 refine OW.fn rfl rfl rfl rfl (by kernel_rfl) (worker_New_ok _ r33 hr34 (hst.part [] rfl)) ?_
 rintro e w35 ⟨v37, S38, rfl, hst36⟩
 refine ⟨_, rfl, ?_⟩
 have hst := hst.join (idx := []) (rest := [0]) rfl hst36
 obtain ⟨b39, rfl⟩ := hst.fptr 0 rfl
 refine pu 1 [(5, Pt b39)] (nx (rg ?_))
 refine pu 1 [(25, .pointer (some ⟨b15, 1, none⟩))] ?_
 refine OW.ldN (cs := [U p0.E.A, U p0.E.B]) rfl rfl rfl rfl (by kernel_rfl) (by kernel_rfl) (hst.blkN 1 rfl 1 2) ?_
 refine pu 1 [(27, .agg [I 3, U p0.E.A, U p0.E.B].toArray)] ?_
 refine OW.alloc hst rfl rfl rfl [I 0, U 0, U 0] (by kernel_rfl) ?_
 intro b43 w44 hst
 refine OW.stB hst 2 rfl rfl rfl rfl rfl (by kernel_rfl) rfl rfl [I 3, U p0.E.A, U p0.E.B] rfl ?_
 intro w45 hst
 refine nx (CW.seq (rg ?_))
 refine pu 1 [(7, I 0)] (nx ?_)
 obtain ⟨o1479, ho1480, hF⟩ := bs hF
 refine CW.cutK (fun a w1 => ∃ (t1481 : worker_Worker) (S1478 : List Nat), o1479 = .inl t1481 ∧ Rep 153 [(5, Pt b39), (6, Pt b43)] a ∧ St w (fp []) w1 [itI R_t33 [Pt b39] S1478 t1481, blkI b43 36 [I 3, U p0.E.A, U p0.E.B]]) ?_ ?_
 ·refine CW.block ?_
  refine CW.loop (fun n a w1 => ∃ (s2437 : worker_Worker × Int) (S2438 : List Nat), Rep 153 [(1, .slice a11 (p1).length c12), (2, Pt b15), (5, Pt b39), (6, Pt b43), (7, I s2437.2)] a ∧ St w (fp []) w1 [blkI b15 31 [I p0.Hook, U p0.E.A, U p0.E.B, .slice a2 (p0.M.Maps).length c3, .slice a5 (p0.M.Code).length c6, .slice a8 (p0.Res).length c9], itI R_t33 [Pt b39] S2438 s2437.1, blkI b43 36 [I 3, U p0.E.A, U p0.E.B]] ∧ loop (tappetlaw23_WorkerRefuses_l1 fu p0 p1) n s2437 = some o1479) fu (fun a ha => ⟨(r33, 0), S38, ha.ag, hst.keep [1, 0, 2] rfl, ho1480⟩) ?_
  rintro n2435 a w1 ⟨s2437, S2438, ha, hst, hl2436⟩
  rcases n2435 with _ | n2435
  ·exact (loop_zero hl2436).elim
  refine CW.go ?_ ha
  refine CW.seq (CW.seq ?_)
  refine CW.cutK (fun a w1 => Rep 153 [(1, .slice a11 (p1).length c12), (2, Pt b15), (5, Pt b39), (6, Pt b43), (7, I s2437.2), (35, .bool (decide (s2437.2 < ((p1).length : Int)) && decide (s2437.2 < 200)))] a ∧ St w (fp []) w1 [blkI b15 31 [I p0.Hook, U p0.E.A, U p0.E.B, .slice a2 (p0.M.Maps).length c3, .slice a5 (p0.M.Code).length c6, .slice a8 (p0.Res).length c9], itI R_t33 [Pt b39] S2438 s2437.1, blkI b43 36 [I 3, U p0.E.A, U p0.E.B]]) ?_ ?_
  ·refine CW.region ?_
   refine pu 5 [(32, .bool (decide (s2437.2 < ((p1).length : Int))))] ?_
   refine OW.split 32 rfl (fun hc2439 => ?_) (fun hc2439 => ?_)
   ·refine pu 3 [(35, .bool (decide (s2437.2 < 200)))] (OW.nil rfl ?_)
    refine QW.say 35 (v := .bool (decide (s2437.2 < ((p1).length : Int)) && decide (s2437.2 < 200))) rfl (by first | (rw [hc2439]; done) | (rw [hc2439]; rfl) | simp [hc2439]) ?_
    exact QW.meet (fun a ha => ⟨ha.ag, hst.keep [0, 1, 2] rfl⟩)
   refine pu 3 [(35, .bool false)] (OW.nil rfl ?_)
   refine QW.say 35 (v := .bool (decide (s2437.2 < ((p1).length : Int)) && decide (s2437.2 < 200))) rfl (by first | (rw [hc2439]; done) | (rw [hc2439]; rfl) | simp [hc2439]) ?_
   exact QW.meet (fun a ha => ⟨ha.ag, hst.keep [0, 1, 2] rfl⟩)
  rintro a w1 ⟨ha, hst⟩
  refine CW.go ?_ ha
  refine br ((decide (s2437.2 < ((p1).length : Int)) && decide (s2437.2 < 200))) hl2436 (fun hl2436 hc2440 => ?_) (fun hl2436 hc2440 => ?_)
  ·refine CW.skip (QW.next (CW.seq (CW.block (rg ?_))))
   refine pu 1 [(38, Pt b39)] ?_
   obtain ⟨r2446, hr2447, hl2436⟩ := bs hl2436
   refine OW.fn rfl rfl rfl rfl (by kernel_rfl) (worker_Worker_Mode_ok _ (Pt b39) S2438 s2437.1 r2446 hr2447 (hst.part [1] rfl)) ?_
   rintro e w2448 ⟨S2450, rfl, hst2449⟩
   refine ⟨_, rfl, ?_⟩
   have hst := hst.join (idx := [1]) (rest := [0, 2]) rfl hst2449
   refine pu 1 [(8, I r2446)] (nx (rg ?_))
   refine pu 1 [(41, Pt b39)] ?_
   obtain ⟨r2459, hr2460, hl2436⟩ := bs hl2436
   refine OW.fn rfl rfl rfl rfl (by kernel_rfl) (worker_Worker_Has_ok _ (Pt b39) S2450 s2437.1 r2459 hr2460 (hst.part [0] rfl)) ?_
   rintro e w2461 ⟨S2463, rfl, hst2462⟩
   refine ⟨_, rfl, ?_⟩
   have hst := hst.join (idx := [0]) (rest := [1, 2]) rfl hst2462
   refine pu 3 [(43, I r2459.1), (44, .agg [I r2459.2.N, U r2459.2.Event.A, U r2459.2.Event.B].toArray)] ?_
   refine OW.alloc hst rfl rfl rfl [I 0, U 0, U 0] (by kernel_rfl) ?_
   intro b2464 w2465 hst
   refine pu 1 [(9, I r2459.1)] ?_
   refine OW.stB hst 3 rfl rfl rfl rfl rfl (by kernel_rfl) rfl rfl [I r2459.2.N, U r2459.2.Event.A, U r2459.2.Event.B] rfl ?_
   intro w2466 hst
   refine nx (rg ?_)
   refine pu 1 [(46, Pt b39)] ?_
   obtain ⟨r2472, hr2473, hl2436⟩ := bs hl2436
   refine OW.fn rfl rfl rfl rfl (by kernel_rfl) (worker_Worker_Runs_ok _ (Pt b39) S2463 s2437.1 r2472 hr2473 (hst.part [0] rfl)) ?_
   rintro e w2474 ⟨S2476, rfl, hst2475⟩
   refine ⟨_, rfl, ?_⟩
   have hst := hst.join (idx := [0]) (rest := [1, 2, 3]) rfl hst2475
   refine pu 5 [(11, I r2472.1), (12, I r2472.2)] (nx (rg ?_))
   refine pu 1 [(13, I 0)] (nx (rg ?_))
   refine pu 1 [(14, .bool true)] (nx (rg ?_))
   refine pu 1 [] (nx (CW.seq (rg ?_)))
   refine pu 2 [(50, .slice a11 (p1).length c12), (51, I s2437.2)] ?_
   obtain ⟨x2483, hx2484, hl2436⟩ := bs hl2436
   obtain ⟨g2486, o2487, c2488, hv2485⟩ := h1.formv (fun _ => ⟨_, rfl⟩) hx2484
   refine OW.idx 3 1 rfl rfl rfl rfl hv2485 rfl (idx_some hx2484).1 (idx_some hx2484).2.1 (by kernel_rfl) (by kernel_rfl) ?_
   refine OW.ld rfl rfl rfl rfl (by kernel_rfl) (h1.cellv hst hx2484 hv2485 0 _ rfl) (nx ?_)
   obtain ⟨o2673, ho2674, hl2436⟩ := bs hl2436
   refine CW.cutK (fun a w1 => ∃ (S2672 : List Nat), Rep 153 [(1, .slice a11 (p1).length c12), (2, Pt b15), (5, Pt b39), (6, Pt b43), (7, I s2437.2), (8, I r2446), (9, I r2459.1), (10, Pt b2464), (11, I r2472.1), (12, I r2472.2), (13, I o2673.2.1), (14, .bool o2673.2.2.1), (15, .bool o2673.2.2.2)] a ∧ St w (fp []) w1 [blkI b15 31 [I p0.Hook, U p0.E.A, U p0.E.B, .slice a2 (p0.M.Maps).length c3, .slice a5 (p0.M.Code).length c6, .slice a8 (p0.Res).length c9], itI R_t33 [Pt b39] S2672 o2673.1, blkI b43 36 [I 3, U p0.E.A, U p0.E.B], blkI b2464 36 [I r2459.2.N, U r2459.2.Event.A, U r2459.2.Event.B]]) ?_ ?_
   ·refine CW.block (rg ?_)
    refine pu 2 [(61, .bool (x2483 == 0))] (nx ?_)
    refine br ((x2483 == 0)) ho2674 (fun ho2674 hc2675 => ?_) (fun ho2674 hc2675 => ?_)
    ·refine rg ?_
     refine pu 1 [(63, Pt b39)] ?_
     refine OW.ldN (cs := [I 3, U p0.E.A, U p0.E.B]) rfl rfl rfl rfl (by kernel_rfl) (by kernel_rfl) (hst.blkN 2 rfl 0 3) ?_
     obtain ⟨r2681, hr2682, ho2674⟩ := bs ho2674
     refine OW.fn rfl rfl rfl rfl (by kernel_rfl) (worker_Worker_Take_ok _ (Pt b39) S2476 s2437.1 2 (api_Queued.mk 3 p0.E) r2681 hr2682 (hst.part [0] rfl)) ?_
     rintro e w2683 ⟨S2685, rfl, hst2684⟩
     refine ⟨_, rfl, ?_⟩
     have hst := hst.join (idx := [0]) (rest := [1, 2, 3]) rfl hst2684
     refine pu 1 [(13, I r2681.1)] (nx (CW.region ?_))
     refine pu 3 [(15, .bool (r2446 == 0))] (OW.nil rfl (QW.block_normal ?_))
     obtain rfl := inj ho2674
     exact QW.meet (fun a ha => ⟨S2685, ha.ag, hst.keep [1, 0, 2, 3] rfl⟩)
    refine rg ?_
    refine pu 2 [(68, .bool (x2483 == 1))] (nx ?_)
    refine br ((x2483 == 1)) ho2674 (fun ho2674 hc2686 => ?_) (fun ho2674 hc2686 => ?_)
    ·refine rg ?_
     refine pu 1 [(71, .pointer (some ⟨b15, 3, none⟩))] ?_
     refine OW.ldN (cs := [.slice a2 (p0.M.Maps).length c3, .slice a5 (p0.M.Code).length c6]) rfl rfl rfl rfl (by kernel_rfl) (by kernel_rfl) (hst.blkN 1 rfl 3 2) ?_
     obtain ⟨r2721, hr2722, ho2674⟩ := bs ho2674
     refine OW.fn rfl rfl rfl rfl (by kernel_rfl) (tappetlaw23_copied_ok _ (.slice a2 (p0.M.Maps).length c3) (.slice a5 (p0.M.Code).length c6) p0.M r2721 hr2722 (hst.part [] rfl) (h0_0.give hst []) (h0_1.give hst [])) ?_
     rintro e w2723 ⟨v2725, v2726, rfl, hst2724⟩
     refine ⟨_, rfl, ?_⟩
     have hst := hst.join (idx := []) (rest := [0, 1, 2, 3]) rfl hst2724
     obtain ⟨l2745, a2746, c2747, rfl⟩ := hst.len 0 rfl
     obtain ⟨l2748, a2749, c2750, rfl⟩ := hst.len 1 rfl
     obtain ⟨r2751, hr2752, ho2674⟩ := bs ho2674
     refine OW.fn rfl rfl rfl rfl (by kernel_rfl) (judge_Judge_ok _ _ _ fu (.slice a2746 (r2721.Maps).length c2747) (.slice a2749 (r2721.Code).length c2750) r2721 r2751 hr2752 (hst.part [] rfl) (Bor.refl _ _) (hst.rd 0 rfl (fun _ => rfl) [] rfl (hst.len 0 rfl).1) (hst.rd 1 rfl (fun _ => rfl) [] rfl (hst.len 1 rfl).1) (hT0.give hst []) (hT1.give hst [])) ?_
     rintro e w2753 ⟨rfl, hst2754⟩
     refine ⟨_, rfl, ?_⟩
     have hst := hst.join (idx := []) (rest := [0, 1, 2, 3, 4, 5]) rfl hst2754
     refine pu 5 [(17, I r2751.2)] (nx (rg ?_))
     refine pu 2 [(77, Pt b39), (78, .pointer (some ⟨b15, 3, none⟩))] ?_
     refine OW.ldN (cs := [.slice a2 (p0.M.Maps).length c3, .slice a5 (p0.M.Code).length c6]) rfl rfl rfl rfl (by kernel_rfl) (by kernel_rfl) (hst.blkN 3 rfl 3 2) ?_
     obtain ⟨r2790, hr2791, ho2674⟩ := bs ho2674
     refine OW.fn rfl rfl rfl rfl (by kernel_rfl) (tappetlaw23_copied_ok _ (.slice a2 (p0.M.Maps).length c3) (.slice a5 (p0.M.Code).length c6) p0.M r2790 hr2791 (hst.part [] rfl) (h0_0.give hst []) (h0_1.give hst [])) ?_
     rintro e w2792 ⟨v2794, v2795, rfl, hst2793⟩
     refine ⟨_, rfl, ?_⟩
     have hst := hst.join (idx := []) (rest := [0, 1, 2, 3, 4, 5]) rfl hst2793
     obtain ⟨l2814, a2815, c2816, rfl⟩ := hst.len 0 rfl
     obtain ⟨l2817, a2818, c2819, rfl⟩ := hst.len 1 rfl
     obtain ⟨r2820, hr2821, ho2674⟩ := bs ho2674
     refine OW.fn rfl rfl rfl rfl (by kernel_rfl) (worker_Worker_Enter_ok _ fu (Pt b39) S2476 s2437.1 1 2 (.slice a2815 (r2790.Maps).length c2816) (.slice a2818 (r2790.Code).length c2819) r2790 r2820 hr2821 (hst.part [4] rfl) (hst.rd 0 rfl (fun _ => rfl) [4] rfl (hst.len 0 rfl).1) (hst.rd 1 rfl (fun _ => rfl) [4] rfl (hst.len 1 rfl).1) (hT0.give hst [4]) (hT1.give hst [4])) ?_
     rintro e w2822 ⟨S2824, rfl, hst2823⟩
     refine ⟨_, rfl, ?_⟩
     have hst := hst.join (idx := [4]) (rest := [0, 1, 2, 3, 5, 6, 7]) rfl hst2823
     refine pu 1 [(13, I r2820.1)] (nx (CW.region ?_))
     refine pu 3 [(84, .bool (r2446 == 1))] ?_
     refine OW.split 84 rfl (fun hc2825 => ?_) (fun hc2825 => ?_)
     ·have ho2674 := ite_t ho2674 hc2825
      refine pu 4 [(15, .bool (r2751.2 == 0))] (OW.nil rfl (QW.block_normal ?_))
      obtain rfl := inj ho2674
      exact QW.meet (fun a ha => ⟨S2824, ha.ag, hst.keep [5, 0, 6, 7] rfl⟩)
     have ho2674 := ite_f ho2674 hc2825
     refine pu 4 [(15, .bool false)] (OW.nil rfl (QW.block_normal ?_))
     obtain rfl := inj ho2674
     exact QW.meet (fun a ha => ⟨S2824, ha.ag, hst.keep [5, 0, 6, 7] rfl⟩)
    refine rg ?_
    refine pu 2 [(88, .bool (x2483 == 2))] (nx ?_)
    refine br ((x2483 == 2)) ho2674 (fun ho2674 hc2826 => ?_) (fun ho2674 hc2826 => ?_)
    ·refine rg ?_
     refine pu 1 [(90, Pt b39)] ?_
     obtain ⟨r2832, hr2833, ho2674⟩ := bs ho2674
     refine OW.fn rfl rfl rfl rfl (by kernel_rfl) (worker_Worker_Skip_ok _ (Pt b39) S2476 s2437.1 r2832 hr2833 (hst.part [0] rfl)) ?_
     rintro e w2834 ⟨S2836, rfl, hst2835⟩
     refine ⟨_, rfl, ?_⟩
     have hst := hst.join (idx := [0]) (rest := [1, 2, 3]) rfl hst2835
     refine pu 1 [(13, I r2832.1)] (nx (CW.region ?_))
     refine pu 3 [(15, .bool (r2446 == 1))] (OW.nil rfl (QW.block_normal ?_))
     obtain rfl := inj ho2674
     exact QW.meet (fun a ha => ⟨S2836, ha.ag, hst.keep [1, 0, 2, 3] rfl⟩)
    refine rg ?_
    refine pu 2 [(94, .bool (x2483 == 3))] (nx ?_)
    refine br ((x2483 == 3)) ho2674 (fun ho2674 hc2837 => ?_) (fun ho2674 hc2837 => ?_)
    ·refine rg ?_
     refine pu 2 [(96, Pt b39), (97, .agg [I 0, .bool false, U 4, .bool false, U 0, U 0].toArray)] ?_
     obtain ⟨r2843, hr2844, ho2674⟩ := bs ho2674
     refine OW.fn rfl rfl rfl rfl (by kernel_rfl) (worker_Worker_Answer_ok _ (Pt b39) S2476 s2437.1 (api_Res.mk 0 false 4 false 0 0) r2843 hr2844 (hst.part [0] rfl)) ?_
     rintro e w2845 ⟨S2847, rfl, hst2846⟩
     refine ⟨_, rfl, ?_⟩
     have hst := hst.join (idx := [0]) (rest := [1, 2, 3]) rfl hst2846
     refine pu 1 [(13, I r2843.1)] (nx (CW.region ?_))
     refine pu 3 [(15, .bool (r2446 == 3))] (OW.nil rfl (QW.block_normal ?_))
     obtain rfl := inj ho2674
     exact QW.meet (fun a ha => ⟨S2847, ha.ag, hst.keep [1, 0, 2, 3] rfl⟩)
    refine rg ?_
    refine pu 1 [(55, Pt b39)] ?_
    obtain ⟨r2853, hr2854, ho2674⟩ := bs ho2674
    refine OW.fn rfl rfl rfl rfl (by kernel_rfl) (worker_Worker_Step_ok _ fu (Pt b39) S2476 s2437.1 r2853 hr2854 (hst.part [0] rfl) (hT1.give hst [0])) ?_
    rintro e w2855 ⟨S2857, rfl, hst2856⟩
    refine ⟨_, rfl, ?_⟩
    have hst := hst.join (idx := [0]) (rest := [1, 2, 3]) rfl hst2856
    refine pu 4 [(14, .bool r2853.2.1)] (nx (CW.region ?_))
    refine pu 3 [(15, .bool (r2446 == 2))] (OW.nil rfl (QW.block_normal ?_))
    obtain rfl := inj ho2674
    exact QW.meet (fun a ha => ⟨S2857, ha.ag, hst.keep [1, 0, 2, 3] rfl⟩)
   rintro a w1 ⟨S2672, ha, hst⟩
   refine CW.go ?_ ha
   refine CW.seq (CW.seq ?_)
   refine CW.cutK (fun a w1 => Rep 153 [(1, .slice a11 (p1).length c12), (2, Pt b15), (5, Pt b39), (6, Pt b43), (7, I s2437.2), (8, I r2446), (9, I r2459.1), (10, Pt b2464), (11, I r2472.1), (12, I r2472.2), (15, .bool o2673.2.2.2), (107, .bool (!((o2673.2.2.1 && (o2673.2.1 == 0)) == o2673.2.2.2)))] a ∧ St w (fp []) w1 [blkI b15 31 [I p0.Hook, U p0.E.A, U p0.E.B, .slice a2 (p0.M.Maps).length c3, .slice a5 (p0.M.Code).length c6, .slice a8 (p0.Res).length c9], itI R_t33 [Pt b39] S2672 o2673.1, blkI b43 36 [I 3, U p0.E.A, U p0.E.B], blkI b2464 36 [I r2459.2.N, U r2459.2.Event.A, U r2459.2.Event.B]]) ?_ ?_
   ·refine CW.region ?_
    refine pu 2 [(102, .bool o2673.2.2.1)] ?_
    refine OW.split 102 rfl (fun hc2858 => ?_) (fun hc2858 => ?_)
    ·refine pu 5 [(107, .bool (!((o2673.2.1 == 0) == o2673.2.2.2)))] (OW.nil rfl ?_)
     refine QW.say 107 (v := .bool (!((o2673.2.2.1 && (o2673.2.1 == 0)) == o2673.2.2.2))) rfl (by first | (rw [hc2858]; done) | (rw [hc2858]; rfl) | simp [hc2858]) ?_
     exact QW.meet (fun a ha => ⟨ha.ag, hst.keep [0, 1, 2, 3] rfl⟩)
    refine pu 5 [(107, .bool (!(false == o2673.2.2.2)))] (OW.nil rfl ?_)
    refine QW.say 107 (v := .bool (!((o2673.2.2.1 && (o2673.2.1 == 0)) == o2673.2.2.2))) rfl (by first | (rw [hc2858]; done) | (rw [hc2858]; rfl) | simp [hc2858]) ?_
    exact QW.meet (fun a ha => ⟨ha.ag, hst.keep [0, 1, 2, 3] rfl⟩)
   rintro a w1 ⟨ha, hst⟩
   refine CW.go ?_ ha
   refine br ((!((o2673.2.2.1 && (o2673.2.1 == 0)) == o2673.2.2.2))) hl2436 (fun hl2436 hc2859 => ?_) (fun hl2436 hc2859 => ?_)
   ·refine rg ?_
    refine pu 1 [(4, .bool false)] (nx (CW.ret (QW.then_ret (QW.block_ret (QW.then_ret (QW.then_ret (QW.block_ret (QW.then_ret ?_))))))))
    obtain rfl := inj hl2436
    obtain rfl := inj hF
    refine QW.ret1 rfl rfl ?_
    exact ⟨rfl, hst.keep [] rfl⟩
   refine CW.skip (QW.next (CW.seq (rg ?_)))
   refine pu 1 [(108, .bool o2673.2.2.2)] (nx ?_)
   refine br (o2673.2.2.2) hl2436 (fun hl2436 hc2860 => ?_) (fun hl2436 hc2860 => ?_)
   ·refine CW.exit (QW.then_exit ?_)
    refine QW.block_here (QW.next (CW.region ?_))
    refine pu 3 [(7, I (w64 (s2437.2 + 1)))] (OW.nil rfl ?_)
    exact QW.meet (fun a ha => ⟨n2435, Nat.lt_succ_self _, (o2673.1, w64 (s2437.2 + 1)), S2672, ha.ag, hst.keep [0, 1, 2] rfl, hl2436⟩)
   refine CW.skip (QW.next (rg ?_))
   refine pu 1 [(110, Pt b39)] ?_
   obtain ⟨r2869, hr2870, hl2436⟩ := bs hl2436
   refine OW.fn rfl rfl rfl rfl (by kernel_rfl) (worker_Worker_Has_ok _ (Pt b39) S2672 o2673.1 r2869 hr2870 (hst.part [1] rfl)) ?_
   rintro e w2871 ⟨S2873, rfl, hst2872⟩
   refine ⟨_, rfl, ?_⟩
   have hst := hst.join (idx := [1]) (rest := [0, 2, 3]) rfl hst2872
   refine pu 3 [(112, I r2869.1), (113, .agg [I r2869.2.N, U r2869.2.Event.A, U r2869.2.Event.B].toArray)] ?_
   refine OW.alloc hst rfl rfl rfl [I 0, U 0, U 0] (by kernel_rfl) ?_
   intro b2874 w2875 hst
   refine pu 1 [(18, I r2869.1)] ?_
   refine OW.stB hst 4 rfl rfl rfl rfl rfl (by kernel_rfl) rfl rfl [I r2869.2.N, U r2869.2.Event.A, U r2869.2.Event.B] rfl ?_
   intro w2876 hst
   refine nx (rg ?_)
   refine pu 1 [(115, Pt b39)] ?_
   obtain ⟨r2882, hr2883, hl2436⟩ := bs hl2436
   refine OW.fn rfl rfl rfl rfl (by kernel_rfl) (worker_Worker_Runs_ok _ (Pt b39) S2873 o2673.1 r2882 hr2883 (hst.part [0] rfl)) ?_
   rintro e w2884 ⟨S2886, rfl, hst2885⟩
   refine ⟨_, rfl, ?_⟩
   have hst := hst.join (idx := [0]) (rest := [1, 2, 3, 4]) rfl hst2885
   refine pu 5 [(20, I r2882.1), (21, I r2882.2)] (nx (CW.seq ?_))
   obtain ⟨o2902, ho2903, hl2436⟩ := bs hl2436
   refine CW.cutK (fun a w1 => ∃ (S2901 : List Nat), Rep 153 [(1, .slice a11 (p1).length c12), (2, Pt b15), (5, Pt b39), (6, Pt b43), (7, I s2437.2), (142, .bool o2902)] a ∧ St w (fp []) w1 [blkI b15 31 [I p0.Hook, U p0.E.A, U p0.E.B, .slice a2 (p0.M.Maps).length c3, .slice a5 (p0.M.Code).length c6, .slice a8 (p0.Res).length c9], itI R_t33 [Pt b39] S2901 o2673.1, blkI b43 36 [I 3, U p0.E.A, U p0.E.B]]) ?_ ?_
   ·refine CW.region ?_
    refine pu 1 [(119, Pt b39)] ?_
    obtain ⟨r2904, hr2905, ho2903⟩ := bs ho2903
    refine OW.fn rfl rfl rfl rfl (by kernel_rfl) (worker_Worker_Mode_ok _ (Pt b39) S2886 o2673.1 r2904 hr2905 (hst.part [0] rfl)) ?_
    rintro e w2906 ⟨S2908, rfl, hst2907⟩
    refine ⟨_, rfl, ?_⟩
    have hst := hst.join (idx := [0]) (rest := [1, 2, 3, 4]) rfl hst2907
    refine pu 3 [(123, .bool (r2904 != r2446))] ?_
    refine OW.split 123 rfl (fun hc2909 => ?_) (fun hc2909 => ?_)
    ·have ho2903 := ite_t ho2903 hc2909
     refine pu 19 [(142, .bool true)] (OW.nil rfl ?_)
     obtain rfl := inj ho2903
     exact QW.meet (fun a ha => ⟨S2908, ha.ag, hst.keep [1, 0, 2] rfl⟩)
    have ho2903 := ite_f ho2903 hc2909
    refine pu 5 [(128, .bool (r2869.1 != r2459.1))] ?_
    refine OW.split 128 rfl (fun hc2910 => ?_) (fun hc2910 => ?_)
    ·have ho2903 := ite_t ho2903 hc2910
     refine pu 14 [(142, .bool true)] (OW.nil rfl ?_)
     obtain rfl := inj ho2903
     exact QW.meet (fun a ha => ⟨S2908, ha.ag, hst.keep [1, 0, 2] rfl⟩)
    have ho2903 := ite_f ho2903 hc2910
    refine OW.ldN (cs := [I r2869.2.N, U r2869.2.Event.A, U r2869.2.Event.B]) rfl rfl rfl rfl (by kernel_rfl) (by kernel_rfl) (hst.blkN 4 rfl 0 3) ?_
    refine OW.ldN (cs := [I r2459.2.N, U r2459.2.Event.A, U r2459.2.Event.B]) rfl rfl rfl rfl (by kernel_rfl) (by kernel_rfl) (hst.blkN 3 rfl 0 3) ?_
    refine OW.op (v := .bool (!((r2869.2.N == r2459.2.N) && (((r2869.2.Event.A == r2459.2.Event.A) && ((r2869.2.Event.B == r2459.2.Event.B) && true)) && true)))) rfl rfl rfl rfl (fun a ha => sneq_run rfl rfl rfl (by kernel_rfl) (by kernel_rfl) a _ ha) ?_
    refine pu 2 [(133, .bool (!((r2869.2.N == r2459.2.N) && (((r2869.2.Event.A == r2459.2.Event.A) && ((r2869.2.Event.B == r2459.2.Event.B) && true)) && true))))] ?_
    refine OW.split 133 rfl (fun hc2911 => ?_) (fun hc2911 => ?_)
    ·have ho2903 := ite_t ho2903 hc2911
     refine pu 9 [(142, .bool true)] (OW.nil rfl ?_)
     obtain rfl := inj ho2903
     exact QW.meet (fun a ha => ⟨S2908, ha.ag, hst.keep [1, 0, 2] rfl⟩)
    have ho2903 := ite_f ho2903 hc2911
    refine pu 5 [(138, .bool (r2882.1 != r2472.1))] ?_
    refine OW.split 138 rfl (fun hc2912 => ?_) (fun hc2912 => ?_)
    ·have ho2903 := ite_t ho2903 hc2912
     refine pu 4 [(142, .bool true)] (OW.nil rfl ?_)
     obtain rfl := inj ho2903
     exact QW.meet (fun a ha => ⟨S2908, ha.ag, hst.keep [1, 0, 2] rfl⟩)
    have ho2903 := ite_f ho2903 hc2912
    refine pu 4 [(142, .bool (r2882.2 != r2472.2))] (OW.nil rfl ?_)
    obtain rfl := inj ho2903
    exact QW.meet (fun a ha => ⟨S2908, ha.ag, hst.keep [1, 0, 2] rfl⟩)
   rintro a w1 ⟨S2901, ha, hst⟩
   refine CW.go ?_ ha
   refine br (o2902) hl2436 (fun hl2436 hc2913 => ?_) (fun hl2436 hc2913 => ?_)
   ·refine rg ?_
    refine pu 1 [(4, .bool false)] (nx (CW.ret (QW.block_ret (QW.then_ret (QW.then_ret (QW.block_ret (QW.then_ret ?_)))))))
    obtain rfl := inj hl2436
    obtain rfl := inj hF
    refine QW.ret1 rfl rfl ?_
    exact ⟨rfl, hst.keep [] rfl⟩
   refine CW.skip (QW.block_normal (QW.next (CW.region ?_)))
   refine pu 3 [(7, I (w64 (s2437.2 + 1)))] (OW.nil rfl ?_)
   exact QW.meet (fun a ha => ⟨n2435, Nat.lt_succ_self _, (o2673.1, w64 (s2437.2 + 1)), S2901, ha.ag, hst.keep [0, 1, 2] rfl, hl2436⟩)
  refine CW.exit (QW.then_exit (QW.then_exit ?_))
  refine QW.block_here ?_
  obtain rfl := inj hl2436
  exact QW.meet (fun a ha => ⟨s2437.1, S2438, rfl, ha.ag, hst.keep [1, 2] rfl⟩)
 rintro a w1 ⟨t1481, S1478, rfl, ha, hst⟩
 refine CW.go ?_ ha
 refine CW.seq ?_
 obtain ⟨o2930, ho2931, hF⟩ := bs hF
 refine CW.cutK (fun a w1 => Rep 153 [(4, .bool o2930)] a ∧ St w (fp []) w1 []) ?_ ?_
 ·refine CW.region ?_
  refine pu 1 [(143, Pt b39)] ?_
  refine OW.ldN (cs := [I 3, U p0.E.A, U p0.E.B]) rfl rfl rfl rfl (by kernel_rfl) (by kernel_rfl) (hst.blkN 1 rfl 0 3) ?_
  obtain ⟨r2932, hr2933, ho2931⟩ := bs ho2931
  refine OW.fn rfl rfl rfl rfl (by kernel_rfl) (worker_Worker_Take_ok _ (Pt b39) S1478 t1481 4 (api_Queued.mk 3 p0.E) r2932 hr2933 (hst.part [0] rfl)) ?_
  rintro e w2934 ⟨S2936, rfl, hst2935⟩
  refine ⟨_, rfl, ?_⟩
  have hst := hst.join (idx := [0]) (rest := [1]) rfl hst2935
  refine pu 2 [(147, .bool (r2932.1 == 2))] ?_
  refine OW.split 147 rfl (fun hc2937 => ?_) (fun hc2937 => ?_)
  ·have ho2931 := ite_t ho2931 hc2937
   refine pu 1 [(148, Pt b39)] ?_
   refine OW.ldN (cs := [I 3, U p0.E.A, U p0.E.B]) rfl rfl rfl rfl (by kernel_rfl) (by kernel_rfl) (hst.blkN 1 rfl 0 3) ?_
   obtain ⟨r2938, hr2939, ho2931⟩ := bs ho2931
   refine OW.fn rfl rfl rfl rfl (by kernel_rfl) (worker_Worker_Take_ok _ (Pt b39) S2936 r2932.2 (-1) (api_Queued.mk 3 p0.E) r2938 hr2939 (hst.part [0] rfl)) ?_
   rintro e w2940 ⟨S2942, rfl, hst2941⟩
   refine ⟨_, rfl, ?_⟩
   have hst := hst.join (idx := [0]) (rest := [1]) rfl hst2941
   refine pu 3 [(4, .bool (r2938.1 == 2))] (OW.nil rfl ?_)
   obtain rfl := inj ho2931
   exact QW.meet (fun a ha => ⟨ha.ag, hst.keep [] rfl⟩)
  have ho2931 := ite_f ho2931 hc2937
  refine pu 6 [(4, .bool false)] (OW.nil rfl ?_)
  obtain rfl := inj ho2931
  exact QW.meet (fun a ha => ⟨ha.ag, hst.keep [] rfl⟩)
 rintro a w1 ⟨ha, hst⟩
 refine CW.go ?_ ha
 refine CW.ret ?_
 obtain rfl := inj hF
 refine QW.ret1 rfl rfl ?_
 exact ⟨rfl, hst.keep [] rfl⟩
end Go.Proofs.YtkgajppghpmkbaaDoor

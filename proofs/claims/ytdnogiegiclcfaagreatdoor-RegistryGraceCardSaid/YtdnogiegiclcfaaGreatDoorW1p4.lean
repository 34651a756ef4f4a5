/- Written by a program (wip/gen): the walks: each Go function returns what its plain function computes. -/
import Derived.Test.YtdnogiegiclcfaaGreatDoorProg
import Derived.Test.YtdnogiegiclcfaaGreatDoorF1
import Derived.Test.YtdnogiegiclcfaaGreatDoorSq
import Derived.Test.YtdnogiegiclcfaaGreatDoorPart
import Derived.Test.YtdnogiegiclcfaaGreatDoorExt
import Derived.Test.YtdnogiegiclcfaaGreatDoorSh
import Derived.Test.YtdnogiegiclcfaaGreatDoorO1
import Derived.Test.YtdnogiegiclcfaaGreatDoorW1p3
set_option linter.unusedSimpArgs false
namespace Go.Proofs.YtdnogiegiclcfaaGreatDoor
open Go.Sx
set_option linter.unusedVariables false
set_option maxRecDepth 10000
set_option maxHeartbeats 4000000
theorem judge_judged_ok (w : World) (wb : World) (Sb : List Nat) (fu : Nat) (v0_0 : Value) (v0_1 : Value) (p0 : api_Module) (r : (Option judge_judge) × Int × Int) (hF : judge_judged fu p0 = some r)
    (hst : St w (fp []) w []) (hb : Bor wb Sb w (fp [])) (h0_0 : Rd wb Sb v0_0 (encInt .i64) 1 p0.Maps) (h0_1 : Rd wb Sb v0_1 enc_api_Inst 5 p0.Code) (hT0 : Rd w (fp []) (.slice (some ⟨0, 0, none⟩) 23 23) enc_ops_form 2 tab_g0) (hT1 : Rd w (fp []) (.slice (some ⟨1, 0, none⟩) 7 7) enc_sigs_sig 5 tab_g1) :
    Calls Tryz.prog 38 [.agg [v0_0, v0_1].toArray].toArray w (fun e w' => (∃ (k0 : judge_judge) (y0 : Value) (z0 : List Nat), r.1 = some k0 ∧ e = .returned (.tuple #[y0, I r.2.1, I r.2.2]) ∧ St w (fp []) w' [itI (R_t92 wb Sb) [y0] z0 k0]) ∨ (r.1 = none ∧ e = .returned (.tuple #[.pointer none, I r.2.1, I r.2.2]) ∧ St w (fp []) w' [])) := by
 refine CW.start (N := 83) Tryz.func38 rfl rfl rfl ?_
 have h0_0b := h0_0.bor hb
 have h0_1b := h0_1.bor hb
 obtain ⟨l1, a2, c3, rfl⟩ := h0_0b.len
 obtain ⟨l4, a5, c6, rfl⟩ := h0_1b.len
 refine rg ?_
 refine OW.box hst rfl rfl rfl rfl [.slice a2 (p0.Maps).length c3, .slice a5 (p0.Code).length c6] rfl ?_
 intro b9 w10 hst
 refine pu 3 [] (nx (CW.seq (rg ?_)))
 refine pu 1 [(11, Pt b9)] ?_
 refine OW.ld rfl rfl rfl rfl (by kernel_rfl) (hst.blk 0 rfl rfl) ?_
 obtain ⟨r15, hr16, hF⟩ := bs hF
 refine OW.fn rfl rfl rfl rfl (by kernel_rfl) (judge_good_ok _ (.slice a2 (p0.Maps).length c3) p0.Maps r15 hr16 (hst.part [] rfl) (h0_0b.give hst [])) ?_
 rintro e w17 ⟨rfl, hst18⟩
 refine ⟨_, rfl, ?_⟩
 have hst := hst.join (idx := []) (rest := [0]) rfl hst18
 refine pu 1 [(14, .bool (!r15))] (nx ?_)
 refine br ((!r15)) hF (fun hF hc19 => ?_) (fun hF hc19 => ?_)
 ·refine rg ?_
  refine pu 3 [(2, .pointer none), (3, I 0), (4, I 2)] (nx (CW.ret (QW.then_ret ?_)))
  obtain rfl := inj hF
  refine QW.ret3 rfl rfl rfl rfl ?_
  exact .inr ⟨rfl, rfl, hst.keep [] rfl⟩
 refine CW.skip (QW.next (CW.seq (rg ?_)))
 refine pu 1 [(16, .pointer (some ⟨b9, 1, none⟩))] ?_
 refine OW.ld rfl rfl rfl rfl (by kernel_rfl) (hst.blk 0 rfl rfl) ?_
 obtain ⟨r24, hr25, hF⟩ := bs hF
 refine OW.fn rfl rfl rfl rfl (by kernel_rfl) (flow_Check_ok _ (.slice a5 (p0.Code).length c6) p0.Code r24 hr25 (hst.part [] rfl) (h0_1b.give hst []) (hT0.give hst [])) ?_
 rintro e w26 ⟨rfl, hst27⟩
 refine ⟨_, rfl, ?_⟩
 have hst := hst.join (idx := []) (rest := [0]) rfl hst27
 refine pu 5 [(5, I r24.1), (6, I r24.2)] (nx (rg ?_))
 refine pu 2 [(22, .bool (r24.2 != 0))] (nx ?_)
 refine br ((r24.2 != 0)) hF (fun hF hc28 => ?_) (fun hF hc28 => ?_)
 ·refine rg ?_
  refine pu 5 [(2, .pointer none), (3, I r24.1), (4, I r24.2)] (nx (CW.ret (QW.then_ret ?_)))
  obtain rfl := inj hF
  refine QW.ret3 rfl rfl rfl rfl ?_
  exact .inr ⟨rfl, rfl, hst.keep [] rfl⟩
 refine CW.skip (QW.next (CW.seq ?_))
 obtain ⟨o53, ho54, hF⟩ := bs hF
 refine CW.cutK (fun a w1 => ∃ (b51 : Nat) (S52 : List Nat), Rep 83 [(1, Pt b9), (7, Pt b51)] a ∧ St w (fp []) w1 [blkI b9 31 [.slice a2 (p0.Maps).length c3, .slice a5 (p0.Code).length c6], itI (R_t92 wb Sb) [Pt b51] S52 o53]) ?_ ?_
 ·refine CW.plan (by kernel_rfl) ?_
  intro w55 hch56
  have hst := hst.same hch56
  refine OA.ldN (i := 0) (cs := [.slice a2 (p0.Maps).length c3, .slice a5 (p0.Code).length c6]) rfl (by kernel_rfl) rfl rfl rfl (by kernel_rfl) (by kernel_rfl) (hst.blkN 0 rfl 0 2) ?_
  refine OA.pure [1] [(26, .pointer (some ⟨b9, 1, none⟩))] (by kernel_rfl) ?_
  refine OA.ld (i := 2) rfl (by kernel_rfl) rfl rfl rfl (by kernel_rfl) (hst.blk 0 rfl rfl) ?_
  refine OA.pure [3, 5] [(28, I ((p0.Code).length : Int)), (30, .pointer (some ⟨b9, 1, none⟩))] (by kernel_rfl) ?_
  refine OA.ld (i := 6) rfl (by kernel_rfl) rfl rfl rfl (by kernel_rfl) (hst.blk 0 rfl rfl) ?_
  refine OA.pure [7] [(32, I ((p0.Code).length : Int))] (by kernel_rfl) ?_
  refine OA.acts [4, 8] 4 (by kernel_rfl) (by kernel_rfl) (by kernel_rfl) (alts_cons ?_ (alts_cons ?_ alts_nil))
  ·refine Alt.of (i := 4) [6, 0] rfl rfl (by kernel_rfl) (by kernel_rfl) ?_
   obtain ⟨m57, hm58, ho54⟩ := bs ho54
   refine OW.make (enc := arrC (enc_api_Type) 8) (sz := 32) hst rfl rfl rfl rfl rfl (by kernel_rfl) el156 (fun _ => (api_Type.mk 0 (api_Span.mk 0 0) 0)) (by kernel_rfl) (fun _ => rfl) hm58 ?_
   intro g59 w60 hst
   refine OA.next ⟨(hst.blk 0 rfl rfl), (hst.blkN 0 rfl 0 2), trivial⟩ ?_
   refine OA.act (i := 8) [0] (by kernel_rfl) rfl rfl (by kernel_rfl) (by kernel_rfl) ?_
   obtain ⟨m61, hm62, ho54⟩ := bs ho54
   refine OW.make (enc := encBool) (sz := 1) hst rfl rfl rfl rfl rfl (by kernel_rfl) el4 false (by kernel_rfl) (fun _ => rfl) hm62 ?_
   intro g63 w64 hst
   refine OA.next ⟨(hst.blkN 0 rfl 0 2), trivial⟩ ?_
   refine OA.pure [9] [(34, .agg [.slice a2 (p0.Maps).length c3, .slice a5 (p0.Code).length c6, .slice (some ⟨g59, 0, none⟩) m57 m57, .slice (some ⟨g63, 0, none⟩) m61 m61, .slice none 0 0].toArray)] (by kernel_rfl) ?_
   refine OA.act (i := 10) [] (by kernel_rfl) rfl rfl (by kernel_rfl) (by kernel_rfl) ?_
   refine OW.box hst rfl rfl rfl rfl [.slice a2 (p0.Maps).length c3, .slice a5 (p0.Code).length c6, .slice (some ⟨g59, 0, none⟩) m57 m57, .slice (some ⟨g63, 0, none⟩) m61 m61, .slice none 0 0] rfl ?_
   intro b65 w66 hst
   refine OA.next trivial ?_
   refine OA.act (i := 11) [] (by kernel_rfl) rfl rfl (by kernel_rfl) (by kernel_rfl) ?_
   refine pu 1 [(7, Pt b65)] (OA.next trivial ?_)
   refine OA.fin (by kernel_rfl) (by kernel_rfl) ?_
   have hst := hst.borIn h0_0
   have hst := hst.borIn h0_1
   have hst := hst.nilRow api_Loop 180 enc_api_Loop 3
   have hst := hst.toIt 1 rfl (fun _ => rfl) (by decide)
   have hst := hst.toIt 2 rfl (fun _ => rfl) (by decide)
   have hst := hst.toIt 6 rfl (fun _ => rfl) (by decide)
   obtain ⟨S67, hst⟩ := hst.shutP5 (R_t146 wb Sb) rfl 3 4 5 1 2 6 [0] rfl rfl rfl rfl rfl rfl rfl (judge_judge.mk p0 (List.replicate m57 (fun _ => (api_Type.mk 0 (api_Span.mk 0 0) 0))) (List.replicate m61 false) ([] : List api_Loop)) rfl rfl
   obtain rfl := inj ho54
   exact QW.meet (fun a ha => ⟨b65, S67, ha.ag, hst.keep [0, 1] rfl⟩)
  obtain ⟨m57, hm58, ho54⟩ := bs ho54
  obtain ⟨m61, hm62, ho54⟩ := bs ho54
  refine Alt.of (i := 8) [2, 0] rfl rfl (by kernel_rfl) (by kernel_rfl) ?_
  refine OW.make (enc := encBool) (sz := 1) hst rfl rfl rfl rfl rfl (by kernel_rfl) el4 false (by kernel_rfl) (fun _ => rfl) hm62 ?_
  intro g68 w69 hst
  refine OA.next ⟨(hst.blk 0 rfl rfl), (hst.blkN 0 rfl 0 2), trivial⟩ ?_
  refine OA.act (i := 4) [0] (by kernel_rfl) rfl rfl (by kernel_rfl) (by kernel_rfl) ?_
  refine OW.make (enc := arrC (enc_api_Type) 8) (sz := 32) hst rfl rfl rfl rfl rfl (by kernel_rfl) el156 (fun _ => (api_Type.mk 0 (api_Span.mk 0 0) 0)) (by kernel_rfl) (fun _ => rfl) hm58 ?_
  intro g70 w71 hst
  refine OA.next ⟨(hst.blkN 0 rfl 0 2), trivial⟩ ?_
  refine OA.pure [9] [(34, .agg [.slice a2 (p0.Maps).length c3, .slice a5 (p0.Code).length c6, .slice (some ⟨g70, 0, none⟩) m57 m57, .slice (some ⟨g68, 0, none⟩) m61 m61, .slice none 0 0].toArray)] (by kernel_rfl) ?_
  refine OA.act (i := 10) [] (by kernel_rfl) rfl rfl (by kernel_rfl) (by kernel_rfl) ?_
  refine OW.box hst rfl rfl rfl rfl [.slice a2 (p0.Maps).length c3, .slice a5 (p0.Code).length c6, .slice (some ⟨g70, 0, none⟩) m57 m57, .slice (some ⟨g68, 0, none⟩) m61 m61, .slice none 0 0] rfl ?_
  intro b72 w73 hst
  refine OA.next trivial ?_
  refine OA.act (i := 11) [] (by kernel_rfl) rfl rfl (by kernel_rfl) (by kernel_rfl) ?_
  refine pu 1 [(7, Pt b72)] (OA.next trivial ?_)
  refine OA.fin (by kernel_rfl) (by kernel_rfl) ?_
  have hst := hst.borIn h0_0
  have hst := hst.borIn h0_1
  have hst := hst.nilRow api_Loop 180 enc_api_Loop 3
  have hst := hst.toIt 2 rfl (fun _ => rfl) (by decide)
  have hst := hst.toIt 1 rfl (fun _ => rfl) (by decide)
  have hst := hst.toIt 6 rfl (fun _ => rfl) (by decide)
  obtain ⟨S74, hst⟩ := hst.shutP5 (R_t146 wb Sb) rfl 3 4 5 2 1 6 [0] rfl rfl rfl rfl rfl rfl rfl (judge_judge.mk p0 (List.replicate m57 (fun _ => (api_Type.mk 0 (api_Span.mk 0 0) 0))) (List.replicate m61 false) ([] : List api_Loop)) rfl rfl
  obtain rfl := inj ho54
  exact QW.meet (fun a ha => ⟨b72, S74, ha.ag, hst.keep [0, 1] rfl⟩)
 rintro a w1 ⟨b51, S52, ha, hst⟩
 refine CW.go ?_ ha
 refine CW.seq ?_
 obtain ⟨v75, S76, v77, S78, v79, S80, v81, S82, v83, S84, hst⟩ := hst.openQ5 1 rfl rfl rfl rfl rfl rfl
 have hbo85 := hst.borOut 2 rfl
 have hbr86 := hbo85.bor hb
 have hbo87 := hst.borOut 3 rfl
 have hbr88 := hbo87.bor hb
 have hst := hst.toRow1 4 rfl
 have hst := hst.toRow1 5 rfl
 have hst := hst.toRow1 6 rfl
 have hst := hst.keep [0, 1, 4, 5, 6] rfl
 obtain ⟨l89, a90, c91, rfl⟩ := hbr86.len
 obtain ⟨l92, a93, c94, rfl⟩ := hbr88.len
 obtain ⟨l95, a96, c97, rfl⟩ := hst.len 2 rfl
 obtain ⟨l98, a99, c100, rfl⟩ := hst.len 3 rfl
 obtain ⟨l101, a102, c103, rfl⟩ := hst.len 4 rfl
 have hst : St _ _ _ [_, blkI b51 146 [.slice a90 (o53.Module.Maps).length c91, .slice a93 (o53.Module.Code).length c94, .slice a96 (o53.came).length c97, .slice a99 (o53.any).length c100, .slice a102 (o53.loops).length c103], _, _, _] := hst
 refine CW.region ?_
 refine pu 2 [(37, Pt b51), (38, .pointer (some ⟨b9, 1, none⟩))] ?_
 refine OW.ld rfl rfl rfl rfl (by kernel_rfl) (hst.blk 0 rfl rfl) ?_
 obtain ⟨r113, hr114, hF⟩ := bs hF
 refine OW.fn rfl rfl rfl rfl (by kernel_rfl) (flow_Loops_ok _ (.slice a5 (p0.Code).length c6) p0.Code r113 hr114 (hst.part [] rfl) (h0_1b.give hst []) (hT0.give hst [])) ?_
 rintro e w115 ⟨v117, rfl, hst116⟩
 refine ⟨_, rfl, ?_⟩
 have hst := hst.join (idx := []) (rest := [0, 1, 2, 3, 4]) rfl hst116
 obtain ⟨l118, a119, c120, rfl⟩ := hst.len 0 rfl
 refine pu 5 [(41, .slice a119 (r113.1).length c120), (44, .pointer (some ⟨b51, 4, none⟩))] ?_
 refine OW.stB hst 2 rfl rfl rfl rfl rfl (by kernel_rfl) rfl rfl [.slice a90 (o53.Module.Maps).length c91, .slice a93 (o53.Module.Code).length c94, .slice a96 (o53.came).length c97, .slice a99 (o53.any).length c100, .slice a119 (r113.1).length c120] rfl ?_
 intro w121 hst
 refine nx (rg ?_)
 refine pu 3 [(47, .pointer (some ⟨b51, 3, none⟩))] ?_
 refine OW.ld rfl rfl rfl rfl (by kernel_rfl) (hst.blk 2 rfl rfl) ?_
 obtain ⟨x129, hx130, hF⟩ := bs hF
 obtain ⟨g132, o133, c134, hv131⟩ := hst.rowv 4 rfl hx130
 refine OW.idx 4 1 rfl rfl rfl rfl hv131 rfl (idx_some hx130).1 (idx_some hx130).2.1 (by kernel_rfl) (by kernel_rfl) ?_
 refine OW.stR hst 4 rfl hv131 (fun _ => rfl) rfl rfl hx130 0 rfl rfl rfl (by kernel_rfl) rfl rfl true rfl ?_
 intro w135 hst
 refine nx (CW.seq (rg ?_))
 refine pu 1 [(50, .pointer (some ⟨b9, 1, none⟩))] ?_
 refine OW.ld rfl rfl rfl rfl (by kernel_rfl) (hst.blk 1 rfl rfl) ?_
 refine pu 2 [(52, I ((p0.Code).length : Int)), (53, I 0)] (nx ?_)
 obtain ⟨o396, ho397, hF⟩ := bs hF
 refine CW.cutK (fun a w1 => ∃ (t398 : judge_judge) (S395 : List Nat), o396 = .inl t398 ∧ Rep 83 [(7, Pt b51)] a ∧ St w (fp []) w1 [itI (R_t92 wb Sb) [Pt b51] S395 t398]) ?_ ?_
 ·refine CW.block ?_
  have hst := hst.borIn hbo85
  have hst := hst.borIn hbo87
  have hst := hst.toIt 3 rfl (fun _ => rfl) (by decide)
  have hst := hst.toIt 4 rfl (fun _ => rfl) (by decide)
  have hst := hst.toIt 0 rfl (fun _ => rfl) (by decide)
  obtain ⟨S399, hst⟩ := hst.shutP5 (R_t146 wb Sb) rfl 2 6 7 3 4 0 [1, 5] rfl rfl rfl rfl rfl rfl rfl (judge_judge.mk o53.Module o53.came (o53.any.set (Int.toNat 0) true) r113.1) rfl rfl
  refine CW.loop (fun n a w1 => ∃ (i573 : Nat) (s571 : judge_judge) (S572 : List Nat), i573 + n = (p0.Code).length ∧ Rep 83 [(7, Pt b51), (52, I ((p0.Code).length : Int)), (53, I (i573 : Int))] a ∧ St w (fp []) w1 [itI (R_t92 wb Sb) [Pt b51] S572 s571] ∧ forN (judge_judged_l1 fu) (fun (s571 : judge_judge) => (.inl s571)) n i573 s571 = some o396) (p0.Code).length (fun a ha => ⟨0, (judge_judge.mk o53.Module o53.came (o53.any.set (Int.toNat 0) true) r113.1), S399, Nat.zero_add _, ha.ag, hst.keep [2] rfl, ho397⟩) ?_
  rintro n569 a w1 ⟨i573, s571, S572, hi574, ha, hst, hl570⟩
  refine CW.go ?_ ha
  refine rg ?_
  refine pu 1 [(54, .bool (decide ((i573 : Int) < ((p0.Code).length : Int))))] (nx (CW.seq ?_))
  rcases bft (decide ((i573 : Int) < ((p0.Code).length : Int))) with hc575 | hc575
  ·rcases n569 with _ | n569
   ·exact (cnt0 hi574 hc575).elim
   refine CW.cond_t rfl hc575 (CW.skip (QW.next (CW.seq (CW.block (rg ?_)))))
   refine pu 2 [(8, I (i573 : Int))] (nx (CW.seq (CW.seq ?_)))
   obtain ⟨v576, S577, v578, S579, v580, S581, v582, S583, v584, S585, hst⟩ := hst.openQ5 0 rfl rfl rfl rfl rfl rfl
   have hbo586 := hst.borOut 1 rfl
   have hbr587 := hbo586.bor hb
   have hbo588 := hst.borOut 2 rfl
   have hbr589 := hbo588.bor hb
   have hst := hst.toRow1 3 rfl
   have hst := hst.toRow1 4 rfl
   have hst := hst.toRow1 5 rfl
   have hst := hst.keep [0, 3, 4, 5] rfl
   obtain ⟨l590, a591, c592, rfl⟩ := hbr587.len
   obtain ⟨l593, a594, c595, rfl⟩ := hbr589.len
   obtain ⟨l596, a597, c598, rfl⟩ := hst.len 1 rfl
   obtain ⟨l599, a600, c601, rfl⟩ := hst.len 2 rfl
   obtain ⟨l602, a603, c604, rfl⟩ := hst.len 3 rfl
   have hst : St _ _ _ [blkI b51 146 [.slice a591 (s571.Module.Maps).length c592, .slice a594 (s571.Module.Code).length c595, .slice a597 (s571.came).length c598, .slice a600 (s571.any).length c601, .slice a603 (s571.loops).length c604], _, _, _] := hst
   refine CW.region ?_
   refine pu 3 [(58, .pointer (some ⟨b51, 3, none⟩))] ?_
   refine OW.ld rfl rfl rfl rfl (by kernel_rfl) (hst.blk 0 rfl rfl) ?_
   refine pu 1 [(60, I (i573 : Int))] ?_
   obtain ⟨x611, hx612, hl570⟩ := bs hl570
   obtain ⟨g614, o615, c616, hv613⟩ := hst.rowv 2 rfl hx612
   refine OW.idx 4 1 rfl rfl rfl rfl hv613 rfl (idx_some hx612).1 (idx_some hx612).2.1 (by kernel_rfl) (by kernel_rfl) ?_
   refine OW.ld rfl rfl rfl rfl (by kernel_rfl) (hst.rowc 2 rfl (fun _ => rfl) hx612 hv613 0 _ rfl) ?_
   refine pu 1 [(63, .bool (!x611))] (nx ?_)
   refine br ((!x611)) hl570 (fun hl570 hc617 => ?_) (fun hl570 hc617 => ?_)
   ·refine CW.exit (QW.then_exit ?_)
    refine QW.block_here (QW.next (CW.region ?_))
    refine pu 2 [(53, I (w64 ((i573 : Int) + 1)))] (OW.nil rfl ?_)
    have hst := hst.borIn hbo586
    have hst := hst.borIn hbo588
    have hst := hst.toIt 1 rfl (fun _ => rfl) (by decide)
    have hst := hst.toIt 2 rfl (fun _ => rfl) (by decide)
    have hst := hst.toIt 3 rfl (fun _ => rfl) (by decide)
    obtain ⟨S618, hst⟩ := hst.shutP5 (R_t146 wb Sb) rfl 0 4 5 1 2 3 [] rfl rfl rfl rfl rfl rfl rfl s571 rfl rfl
    refine QW.say 53 rfl (congrArg (Value.int .i64) (w64_cnt hc575 l4)) ?_
    exact QW.meet (fun a ha => ⟨n569, Nat.lt_succ_self _, i573 + 1, s571, S618, cnt_next hi574, ha.ag, hst.keep [0] rfl, hl570⟩)
   refine CW.skip (QW.next (rg ?_))
   refine pu 2 [(64, Pt b51), (65, I (i573 : Int))] ?_
   have hst := hst.borIn hbo586
   have hst := hst.borIn hbo588
   have hst := hst.toIt 1 rfl (fun _ => rfl) (by decide)
   have hst := hst.toIt 2 rfl (fun _ => rfl) (by decide)
   have hst := hst.toIt 3 rfl (fun _ => rfl) (by decide)
   obtain ⟨S625, hst⟩ := hst.shutP5 (R_t146 wb Sb) rfl 0 4 5 1 2 3 [] rfl rfl rfl rfl rfl rfl rfl s571 rfl rfl
   obtain ⟨r626, hr627, hl570⟩ := bs hl570
   refine OW.fn rfl rfl rfl rfl (by kernel_rfl) (judge_judge_widen_ok _ wb Sb (Pt b51) S625 s571 (i573 : Int) r626 hr627 (hst.part [0] rfl) (hb.on hst [0]) (hT0.give hst [0])) ?_
   rintro e w628 ⟨S630, rfl, hst629⟩
   refine ⟨_, rfl, ?_⟩
   have hst := hst.join (idx := [0]) (rest := []) rfl hst629
   refine nx (rg ?_)
   refine pu 2 [(68, Pt b51), (69, I (i573 : Int))] ?_
   obtain ⟨r639, hr640, hl570⟩ := bs hl570
   refine OW.fn rfl rfl rfl rfl (by kernel_rfl) (judge_judge_one_ok _ wb Sb fu (Pt b51) S630 r626 (i573 : Int) r639 hr640 (hst.part [0] rfl) (hb.on hst [0]) (hT0.give hst [0]) (hT1.give hst [0])) ?_
   rintro e w641 ⟨S643, rfl, hst642⟩
   refine ⟨_, rfl, ?_⟩
   have hst := hst.join (idx := [0]) (rest := []) rfl hst642
   refine pu 3 [(71, .agg (arrC (enc_api_Type) 8 r639.1).toArray), (72, I r639.2)] ?_
   refine OW.alloc hst rfl rfl rfl [I 0, U 0, U 0, I 0, I 0, U 0, U 0, I 0, I 0, U 0, U 0, I 0, I 0, U 0, U 0, I 0, I 0, U 0, U 0, I 0, I 0, U 0, U 0, I 0, I 0, U 0, U 0, I 0, I 0, U 0, U 0, I 0] (by kernel_rfl) ?_
   intro b644 w645 hst
   refine OW.stB hst 1 rfl rfl rfl rfl rfl (by kernel_rfl) rfl rfl (arrC (enc_api_Type) 8 r639.1) rfl ?_
   intro w646 hst
   refine pu 1 [(10, I r639.2)] (nx (CW.seq (rg ?_)))
   refine pu 2 [(74, .bool (r639.2 != 0))] (nx ?_)
   refine br ((r639.2 != 0)) hl570 (fun hl570 hc647 => ?_) (fun hl570 hc647 => ?_)
   ·refine rg ?_
    refine pu 5 [(2, .pointer none), (3, I (i573 : Int)), (4, I r639.2)] (nx (CW.ret (QW.then_ret (QW.block_ret (QW.then_ret (QW.then_ret (QW.block_ret (QW.then_ret ?_))))))))
    obtain rfl := inj hl570
    obtain rfl := inj hF
    refine QW.ret3 rfl rfl rfl rfl ?_
    exact .inr ⟨rfl, rfl, hst.keep [] rfl⟩
   refine CW.skip (QW.next (CW.region ?_))
   refine pu 2 [(77, Pt b51), (78, I (i573 : Int))] ?_
   refine OW.ldN (cs := (arrC (enc_api_Type) 8 r639.1)) rfl rfl rfl rfl (by kernel_rfl) (by kernel_rfl) (hst.blkN 1 rfl 0 32) ?_
   obtain ⟨r653, hr654, hl570⟩ := bs hl570
   refine OW.fn rfl rfl rfl rfl (by kernel_rfl) (judge_judge_ways_ok _ wb Sb (Pt b51) S643 r626 (i573 : Int) r639.1 r653 hr654 (hst.part [0] rfl) (hb.on hst [0]) (hT0.give hst [0])) ?_
   rintro e w655 ⟨S657, rfl, hst656⟩
   refine ⟨_, rfl, ?_⟩
   have hst := hst.join (idx := [0]) (rest := [1]) rfl hst656
   refine OW.nil rfl (QW.block_normal (QW.next (CW.region ?_)))
   refine pu 2 [(53, I (w64 ((i573 : Int) + 1)))] (OW.nil rfl ?_)
   refine QW.say 53 rfl (congrArg (Value.int .i64) (w64_cnt hc575 l4)) ?_
   exact QW.meet (fun a ha => ⟨n569, Nat.lt_succ_self _, i573 + 1, r653, S657, cnt_next hi574, ha.ag, hst.keep [0] rfl, hl570⟩)
  rcases n569 with _ | n569
  ·refine CW.cond_f rfl hc575 ?_
   refine CW.exit (QW.then_exit (QW.then_exit ?_))
   refine QW.block_here ?_
   obtain rfl := inj hl570
   exact QW.meet (fun a ha => ⟨s571, S572, rfl, ha.ag, hst.keep [0] rfl⟩)
  exact (cnt1 hi574 hc575).elim
 rintro a w1 ⟨t398, S395, rfl, ha, hst⟩
 refine CW.go ?_ ha
 refine rg ?_
 refine pu 4 [(2, Pt b51), (3, I 0), (4, I 0)] (nx (CW.ret ?_))
 obtain rfl := inj hF
 refine QW.ret3 rfl rfl rfl rfl ?_
 exact .inl ⟨_, (Pt b51), S395, rfl, rfl, hst.keep [0] rfl⟩
theorem judge_Judge_ok (w : World) (wb : World) (Sb : List Nat) (fu : Nat) (v0_0 : Value) (v0_1 : Value) (p0 : api_Module) (r : Int × Int) (hF : judge_Judge fu p0 = some r)
    (hst : St w (fp []) w []) (hb : Bor wb Sb w (fp [])) (h0_0 : Rd wb Sb v0_0 (encInt .i64) 1 p0.Maps) (h0_1 : Rd wb Sb v0_1 enc_api_Inst 5 p0.Code) (hT0 : Rd w (fp []) (.slice (some ⟨0, 0, none⟩) 23 23) enc_ops_form 2 tab_g0) (hT1 : Rd w (fp []) (.slice (some ⟨1, 0, none⟩) 7 7) enc_sigs_sig 5 tab_g1) :
    Calls Tryz.prog 11 [.agg [v0_0, v0_1].toArray].toArray w (fun e w' => e = .returned (.tuple #[I r.1, I r.2]) ∧ St w (fp []) w' []) := by
 refine CW.start (N := 15) Tryz.func11 rfl rfl rfl ?_
 have h0_0b := h0_0.bor hb
 have h0_1b := h0_1.bor hb
 obtain ⟨l1, a2, c3, rfl⟩ := h0_0b.len
 obtain ⟨l4, a5, c6, rfl⟩ := h0_1b.len
 refine rg ?_
 refine OW.box hst rfl rfl rfl rfl [.slice a2 (p0.Maps).length c3, .slice a5 (p0.Code).length c6] rfl ?_
 intro b9 w10 hst
 refine pu 2 [] (nx (rg ?_))
 refine OW.ldN (cs := [.slice a2 (p0.Maps).length c3, .slice a5 (p0.Code).length c6]) rfl rfl rfl rfl (by kernel_rfl) (by kernel_rfl) (hst.blkN 0 rfl 0 2) ?_
 obtain ⟨r21, hr22, hF⟩ := bs hF
 refine OW.fn rfl rfl rfl rfl (by kernel_rfl) (judge_judged_ok _ wb Sb fu (.slice a2 (p0.Maps).length c3) (.slice a5 (p0.Code).length c6) p0 r21 hr22 (hst.part [] rfl) (hb.on hst []) h0_0 h0_1 (hT0.give hst []) (hT1.give hst [])) ?_
 rintro e w23 (⟨k25, v27, S28, he26, rfl, hst24⟩ | ⟨he29, rfl, hst24⟩)
 ·have hF := ocase_some hF he26
  refine ⟨_, rfl, ?_⟩
  have hst := hst.join (idx := []) (rest := [0]) rfl hst24
  obtain ⟨b30, rfl⟩ := hst.fptr 0 rfl
  refine pu 7 [(5, I r21.2.1), (6, I r21.2.2)] (nx (rg ?_))
  refine pu 4 [(2, I r21.2.1), (3, I r21.2.2)] (nx (CW.ret ?_))
  obtain rfl := inj hF
  refine QW.ret2 rfl rfl rfl ?_
  exact ⟨rfl, hst.keep [] rfl⟩
 have hF := ocase_none hF he29
 refine ⟨_, rfl, ?_⟩
 have hst := hst.join (idx := []) (rest := [0]) rfl hst24
 refine pu 7 [(5, I r21.2.1), (6, I r21.2.2)] (nx (rg ?_))
 refine pu 4 [(2, I r21.2.1), (3, I r21.2.2)] (nx (CW.ret ?_))
 obtain rfl := inj hF
 refine QW.ret2 rfl rfl rfl ?_
 exact ⟨rfl, hst.keep [] rfl⟩
theorem slices_Clone_int_int_ok (w : World) (v0 : Value) (p0 : List Int) (r : (List Int)) (hF : slices_Clone_int_int p0 = some r)
    (hst : St w (fp []) w []) (h0 : Rd w (fp []) v0 (encInt .i64) 1 p0) :
    Calls Tryz.prog 41 [v0].toArray w (fun e w' => ∃ (x0 : Value), e = .returned (x0) ∧ St w (fp []) w' [rowI x0 3 (encInt .i64) 1 r]) := by
 refine CW.start (N := 8) Tryz.func41 rfl rfl rfl ?_
 obtain ⟨l1, a2, c3, rfl⟩ := h0.len
 refine rg ?_
 refine pu 1 [] (nx (CW.seq (rg ?_)))
 refine pu 1 [(3, .slice a2 (p0).length c3)] ?_
 refine OW.op (v := .bool (a2).isNone) rfl rfl rfl rfl (fun a ha => snil_run (e := 3) rfl rfl rfl (by kernel_rfl) a _ ha) (nx ?_)
 rcases bft ((a2).isNone) with hc4 | hc4
 ·have hn5 := h0.isnil (fun _ => ⟨_, rfl⟩) hc4
  have hF : some ([] : List Int) = some r := by rw [hn5] at hF; exact hF
  refine CW.cond_t rfl hc4 (rg ?_)
  refine pu 1 [(2, .slice none 0 0)] (nx (CW.ret (QW.then_ret ?_)))
  have hst := hst.nilRow Int 3 (encInt .i64) 1
  obtain rfl := inj hF
  refine QW.ret1 rfl rfl ?_
  exact ⟨(.slice none 0 0), rfl, hst.keep [0] rfl⟩
 refine CW.cond_f rfl hc4 (CW.skip (QW.next (rg ?_)))
 refine OW.row (α := Int) (e := 3) (enc := encInt .i64) (sz := 1) hst rfl rfl rfl [] rfl (fun _ => rfl) rfl rfl (fun _ => by kernel_rfl) ?_
 intro g15 w16 hst
 refine pu 1 [(6, .slice a2 (p0).length c3)] ?_
 obtain ⟨u17, hr18, hF⟩ := bs hF
 refine OW.app hst 0 rfl (fun _ => rfl) (fun _ => rfl) rfl rfl rfl rfl rfl rfl (by kernel_rfl) el3 (h0.on hst) (room_le hr18) ?_
 intro v19 w20 hst
 obtain ⟨l21, a22, c23, rfl⟩ := hst.len 0 rfl
 refine pu 1 [(2, .slice a22 ((([] : List Int) ++ p0)).length c23)] (nx (CW.ret ?_))
 obtain rfl := inj hF
 refine QW.ret1 rfl rfl ?_
 exact ⟨(.slice a22 ((([] : List Int) ++ p0)).length c23), rfl, hst.keep [0] rfl⟩
theorem refs_Refs_Hold_ok (w : World) (v0 : Value) (S0 : List Nat) (p0 : refs_Refs) (p1 : Int) (v2 : Value) (p2 : List Int) (r : Int × refs_Refs) (hF : refs_Refs_Hold p0 p1 p2 = some r)
    (hst : St w (fp [itI R_t54 [v0] S0 p0]) w [itI R_t54 [v0] S0 p0]) (h2 : Rd w (fp [itI R_t54 [v0] S0 p0]) v2 (encInt .i64) 1 p2) :
    Calls Tryz.prog 39 [v0, I p1, v2].toArray w (fun e w' => ∃ (s0 : List Nat), e = .returned (I r.1) ∧ St w (fp [itI R_t54 [v0] S0 p0]) w' [itI R_t54 [v0] s0 r.2]) := by
 refine CW.start (N := 53) Tryz.func39 rfl rfl rfl ?_
 obtain ⟨l1, a2, c3, rfl⟩ := h2.len
 obtain ⟨b4, rfl⟩ := hst.fptr 0 rfl
 refine rg ?_
 refine pu 1 [] (nx (CW.seq (rg ?_)))
 refine pu 3 [(11, .slice a2 (p2).length c3), (12, I ((p2).length : Int)), (13, I 0)] (nx ?_)
 obtain ⟨o147, ho148, hF⟩ := bs hF
 refine CW.cutK (fun a w1 => ∃ (t149 : Unit) (S146 : List Nat), o147 = .inl t149 ∧ Rep 53 [(0, Pt b4), (1, I p1), (2, .slice a2 (p2).length c3)] a ∧ St w (fp [itI R_t54 [Pt b4] S0 p0]) w1 [itI R_t54 [Pt b4] S146 p0]) ?_ ?_
 ·refine CW.block ?_
  refine CW.loop (fun n a w1 => ∃ (i245 : Nat) (s243 : Unit) (S244 : List Nat), i245 + n = (p2).length ∧ Rep 53 [(0, Pt b4), (1, I p1), (2, .slice a2 (p2).length c3), (11, .slice a2 (p2).length c3), (12, I ((p2).length : Int)), (13, I (i245 : Int))] a ∧ St w (fp [itI R_t54 [Pt b4] S0 p0]) w1 [itI R_t54 [Pt b4] S244 p0] ∧ forN (refs_Refs_Hold_l1 p0 p2) (fun (s243 : Unit) => (.inl ())) n i245 s243 = some o147) (p2).length (fun a ha => ⟨0, (), S0, Nat.zero_add _, ha.ag, hst.keep [0] rfl, ho148⟩) ?_
  rintro n241 a w1 ⟨i245, s243, S244, hi246, ha, hst, hl242⟩
  refine CW.go ?_ ha
  refine rg ?_
  refine pu 1 [(14, .bool (decide ((i245 : Int) < ((p2).length : Int))))] (nx (CW.seq ?_))
  rcases bft (decide ((i245 : Int) < ((p2).length : Int))) with hc247 | hc247
  ·rcases n241 with _ | n241
   ·exact (cnt0 hi246 hc247).elim
   refine CW.cond_t rfl hc247 (CW.skip (QW.next (CW.seq (CW.block (rg ?_)))))
   refine pu 1 [(15, I (i245 : Int))] ?_
   obtain ⟨x254, hx255, hl242⟩ := bs hl242
   obtain ⟨g257, o258, c259, hv256⟩ := h2.formv (fun _ => ⟨_, rfl⟩) hx255
   refine OW.idx 3 1 rfl rfl rfl rfl hv256 rfl (idx_some hx255).1 (idx_some hx255).2.1 (by kernel_rfl) (by kernel_rfl) ?_
   refine OW.ld rfl rfl rfl rfl (by kernel_rfl) (h2.cellv hst hx255 hv256 0 _ rfl) ?_
   refine pu 2 [(7, I (i245 : Int)), (8, I x254)] (nx (CW.seq ?_))
   obtain ⟨v260, S261, hst⟩ := hst.openQ1 0 rfl rfl
   obtain ⟨r262, rfl, hst⟩ := hst.toMN1 1 rfl
   have hst : St _ _ _ [blkI b4 112 [I p0.maps, .map (some r262)], _] := hst
   obtain ⟨o276, ho277, hl242⟩ := bs hl242
   refine CW.cutK (fun a w1 => ∃ (S275 : List Nat), Rep 53 [(0, Pt b4), (1, I p1), (2, .slice a2 (p2).length c3), (11, .slice a2 (p2).length c3), (12, I ((p2).length : Int)), (13, I (i245 : Int)), (34, .bool o276)] a ∧ St w (fp [itI R_t54 [Pt b4] S0 p0]) w1 [itI R_t54 [Pt b4] S275 p0]) ?_ ?_
   ·refine CW.region ?_
    refine pu 3 [(20, .bool (decide (x254 < 0)))] ?_
    refine OW.split 20 rfl (fun hc278 => ?_) (fun hc278 => ?_)
    ·have ho277 := ite_t ho277 hc278
     refine pu 14 [(34, .bool true)] (OW.nil rfl ?_)
     have hst := hst.ofMN 1 rfl
     obtain ⟨S279, hst⟩ := hst.shutP1 R_t112 rfl 0 1 [] rfl rfl rfl p0 rfl rfl
     obtain rfl := inj ho277
     exact QW.meet (fun a ha => ⟨S279, ha.ag, hst.keep [0] rfl⟩)
    have ho277 := ite_f ho277 hc278
    refine pu 4 [(21, I x254), (24, Pt b4)] ?_
    refine OW.ld rfl rfl rfl rfl (by kernel_rfl) (hst.blk 0 rfl rfl) ?_
    refine pu 3 [(28, .bool (decide (x254 ≥ p0.maps)))] ?_
    refine OW.split 28 rfl (fun hc280 => ?_) (fun hc280 => ?_)
    ·have ho277 := ite_t ho277 hc280
     refine pu 6 [(34, .bool true)] (OW.nil rfl ?_)
     have hst := hst.ofMN 1 rfl
     obtain ⟨S281, hst⟩ := hst.shutP1 R_t112 rfl 0 1 [] rfl rfl rfl p0 rfl rfl
     obtain rfl := inj ho277
     exact QW.meet (fun a ha => ⟨S281, ha.ag, hst.keep [0] rfl⟩)
    have ho277 := ite_f ho277 hc280
    refine pu 2 [(29, .slice a2 (p2).length c3), (30, I (i245 : Int))] ?_
    obtain ⟨ys282, hcut283, ho277⟩ := bs ho277
    refine OW.op (v := .slice a2 (ys282).length c3) rfl rfl rfl rfl (fun a ha => pre_run (e := 3) 1 rfl rfl rfl hcut283 h2.cap (by kernel_rfl) (by kernel_rfl) a _ ha) ?_
    have hp284 := h2.pre hcut283
    refine pu 1 [(32, I x254)] ?_
    obtain ⟨r285, hr286, ho277⟩ := bs ho277
    refine OW.fn rfl rfl rfl rfl (by kernel_rfl) (slices_Contains_int_int_ok _ (.slice a2 (ys282).length c3) ys282 x254 r285 hr286 (hst.part [] rfl) (hp284.give hst [])) ?_
    rintro e w287 ⟨rfl, hst288⟩
    refine ⟨_, rfl, ?_⟩
    have hst := hst.join (idx := []) (rest := [0, 1]) rfl hst288
    refine pu 1 [(34, .bool r285)] (OW.nil rfl ?_)
    have hst := hst.ofMN 1 rfl
    obtain ⟨S289, hst⟩ := hst.shutP1 R_t112 rfl 0 1 [] rfl rfl rfl p0 rfl rfl
    obtain rfl := inj ho277
    exact QW.meet (fun a ha => ⟨S289, ha.ag, hst.keep [0] rfl⟩)
   rintro a w1 ⟨S275, ha, hst⟩
   refine CW.go ?_ ha
   refine br (o276) hl242 (fun hl242 hc290 => ?_) (fun hl242 hc290 => ?_)
   ·refine rg ?_
    refine pu 1 [(6, I 2)] (nx (CW.ret (QW.block_ret (QW.then_ret (QW.then_ret (QW.block_ret (QW.then_ret ?_)))))))
    obtain rfl := inj hl242
    obtain rfl := inj hF
    refine QW.ret1 rfl rfl ?_
    exact ⟨S275, rfl, hst.keep [0] rfl⟩
   refine CW.skip (QW.block_normal (QW.next (CW.region ?_)))
   refine pu 2 [(13, I (w64 ((i245 : Int) + 1)))] (OW.nil rfl ?_)
   refine QW.say 13 rfl (congrArg (Value.int .i64) (w64_cnt hc247 l1)) ?_
   exact QW.meet (fun a ha => ⟨n241, Nat.lt_succ_self _, i245 + 1, (), S275, cnt_next hi246, ha.ag, hst.keep [0] rfl, hl242⟩)
  rcases n241 with _ | n241
  ·refine CW.cond_f rfl hc247 ?_
   refine CW.exit (QW.then_exit (QW.then_exit ?_))
   refine QW.block_here ?_
   obtain rfl := inj hl242
   exact QW.meet (fun a ha => ⟨(), S244, rfl, ha.ag, hst.keep [0] rfl⟩)
  exact (cnt1 hi246 hc247).elim
 rintro a w1 ⟨t149, S146, rfl, ha, hst⟩
 refine CW.go ?_ ha
 refine CW.seq (CW.seq ?_)
 obtain ⟨v291, S292, hst⟩ := hst.openQ1 0 rfl rfl
 obtain ⟨r293, rfl, hst⟩ := hst.toMN1 1 rfl
 have hst : St _ _ _ [blkI b4 112 [I p0.maps, .map (some r293)], _] := hst
 refine CW.region ?_
 refine pu 3 [(39, .pointer (some ⟨b4, 1, none⟩))] ?_
 refine OW.ld rfl rfl rfl rfl (by kernel_rfl) (hst.blk 0 rfl rfl) ?_
 refine pu 1 [(41, I p1)] ?_
 refine OW.mlook (tk := 3) (te := 28) (kd := .i64) R_t28 (fun o => o.getD []) hst 1 rfl rfl rfl rfl rfl rfl (by kernel_rfl) (by kernel_rfl) (.slice none 0 0) (by kernel_rfl) (fun w => ⟨_, rfl, rfl, Owns.nil w _ _ none⟩) (fun _ _ _ _ h => h) (fun _ _ _ _ h => h) ?_
 intro v300 S301 S302 hst
 have hst := hst.toRow1 2 rfl
 obtain ⟨l303, a304, c305, rfl⟩ := hst.len 2 rfl
 refine pu 5 [(10, .bool (mget p0.held p1).isSome)] (nx (rg ?_))
 refine pu 1 [(45, .bool (mget p0.held p1).isSome)] (nx ?_)
 refine br ((mget p0.held p1).isSome) hF (fun hF hc306 => ?_) (fun hF hc306 => ?_)
 ·refine rg ?_
  refine pu 1 [(6, I 42)] (nx (CW.ret (QW.then_ret ?_)))
  have hst := hst.toIt 2 rfl (fun _ => rfl) (by decide)
  obtain ⟨S307, hst⟩ := hst.mback0 (f := (fun o => o.getD [])) 1 2 rfl rfl rfl (fun _ _ _ _ h => h)
  have hst := hst.keep [0, 1] rfl
  have hst := hst.ofMN 1 rfl
  obtain ⟨S308, hst⟩ := hst.shutP1 R_t112 rfl 0 1 [] rfl rfl rfl p0 rfl rfl
  obtain rfl := inj hF
  refine QW.ret1 rfl rfl ?_
  exact ⟨S308, rfl, hst.keep [0] rfl⟩
 refine CW.skip (QW.next (CW.seq ?_))
 refine CW.plan (by kernel_rfl) ?_
 intro w321 hch322
 have hst := hst.same hch322
 refine OA.pure [0, 1, 2] [(48, .pointer (some ⟨b4, 1, none⟩))] (by kernel_rfl) ?_
 refine OA.ld (i := 3) rfl (by kernel_rfl) rfl rfl rfl (by kernel_rfl) (hst.blk 0 rfl rfl) ?_
 refine OA.pure [4, 5] [(50, I p1), (51, .slice a2 (p2).length c3)] (by kernel_rfl) ?_
 refine OA.act (i := 6) [3] (by kernel_rfl) rfl rfl (by kernel_rfl) (by kernel_rfl) ?_
 obtain ⟨r323, hr324, hF⟩ := bs hF
 refine OW.fn rfl rfl rfl rfl (by kernel_rfl) (slices_Clone_int_int_ok _ (.slice a2 (p2).length c3) p2 r323 hr324 (hst.part [] rfl) (h2.give hst [])) ?_
 rintro e w325 ⟨v327, rfl, hst326⟩
 refine ⟨_, rfl, ?_⟩
 have hst := hst.join (idx := []) (rest := [0, 1, 2]) rfl hst326
 obtain ⟨l328, a329, c330, rfl⟩ := hst.len 0 rfl
 refine OA.next ⟨(hst.blk 1 rfl rfl), trivial⟩ ?_
 refine OA.act (i := 7) [] (by kernel_rfl) rfl rfl (by kernel_rfl) (by kernel_rfl) ?_
 have hst := hst.keep [0, 1, 2] rfl
 have hst := hst.toIt 0 rfl (fun _ => rfl) (by decide)
 refine OW.mputN (tk := 3) (te := 28) (kd := .i64) hst 2 0 rfl rfl (fun _ _ e => by cases e; rfl) rfl rfl rfl rfl rfl rfl (by kernel_rfl) (by kernel_rfl) ?_
 intro S332 w331 hst
 have hst := hst.keep [1, 2] rfl
 refine OA.next trivial ?_
 refine OA.fin (by kernel_rfl) (by kernel_rfl) (QW.next (rg ?_))
 refine pu 1 [(6, I 0)] (nx (CW.ret ?_))
 have hst := hst.ofMN 1 rfl
 obtain ⟨S333, hst⟩ := hst.shutP1 R_t112 rfl 0 1 [] rfl rfl rfl (refs_Refs.mk p0.maps (mput p0.held p1 r323)) rfl rfl
 obtain rfl := inj hF
 refine QW.ret1 rfl rfl ?_
 exact ⟨S333, rfl, hst.keep [0] rfl⟩
theorem registry_Registry_Load_ok (w : World) (fu : Nat) (v0 : Value) (S0 : List Nat) (p0 : registry_Registry) (v1 : Value) (p1 : List Int) (r : Int × Int × registry_Registry) (hF : registry_Registry_Load fu p0 p1 = some r)
    (hst : St w (fp [itI R_t24 [v0] S0 p0]) w [itI R_t24 [v0] S0 p0]) (h1 : Rd w (fp [itI R_t24 [v0] S0 p0]) v1 (encInt .u8) 1 p1) (hT0 : Rd w (fp [itI R_t24 [v0] S0 p0]) (.slice (some ⟨0, 0, none⟩) 23 23) enc_ops_form 2 tab_g0) (hT1 : Rd w (fp [itI R_t24 [v0] S0 p0]) (.slice (some ⟨1, 0, none⟩) 7 7) enc_sigs_sig 5 tab_g1) :
    Calls Tryz.prog 12 [v0, v1].toArray w (fun e w' => ∃ (s0 : List Nat), e = .returned (.tuple #[I r.1, I r.2.1]) ∧ St w (fp [itI R_t24 [v0] S0 p0]) w' [itI R_t24 [v0] s0 r.2.2]) := by
 refine CW.start (N := 83) Tryz.func12 rfl rfl rfl ?_
 obtain ⟨l1, a2, c3, rfl⟩ := h1.len
 obtain ⟨b4, rfl⟩ := hst.fptr 0 rfl
 refine rg ?_
 refine pu 2 [] (nx (rg ?_))
 refine pu 1 [(14, .slice a2 (p1).length c3)] ?_
 obtain ⟨r38, hr39, hF⟩ := bs hF
 refine OW.fn rfl rfl rfl rfl (by kernel_rfl) (wire_Decode_ok _ _ _ fu (.slice a2 (p1).length c3) p1 r38 hr39 (hst.part [] rfl) (Bor.refl _ _) (h1.give hst []) (hT0.give hst [])) ?_
 rintro e w40 ⟨v42, v43, rfl, hst41⟩
 refine ⟨_, rfl, ?_⟩
 have hst := hst.join (idx := []) (rest := [0]) rfl hst41
 obtain ⟨l62, a63, c64, rfl⟩ := hst.len 0 rfl
 obtain ⟨l65, a66, c67, rfl⟩ := hst.len 1 rfl
 refine pu 4 [(16, .agg [.slice a63 (r38.1.Maps).length c64, .slice a66 (r38.1.Code).length c67].toArray), (17, I r38.2.1), (18, I r38.2.2)] ?_
 refine OW.alloc hst rfl rfl rfl [.slice none 0 0, .slice none 0 0] (by kernel_rfl) ?_
 intro b68 w69 hst
 refine OW.stB hst 3 rfl rfl rfl rfl rfl (by kernel_rfl) rfl rfl [.slice a63 (r38.1.Maps).length c64, .slice a66 (r38.1.Code).length c67] rfl ?_
 intro w70 hst
 refine pu 2 [(8, I r38.2.2)] (nx (CW.seq (rg ?_)))
 refine pu 2 [(20, .bool (r38.2.2 != 0))] (nx ?_)
 refine br ((r38.2.2 != 0)) hF (fun hF hc71 => ?_) (fun hF hc71 => ?_)
 ·refine rg ?_
  refine pu 3 [(4, I 0), (5, I r38.2.2)] (nx (CW.ret (QW.then_ret ?_)))
  obtain rfl := inj hF
  refine QW.ret2 rfl rfl rfl ?_
  exact ⟨S0, rfl, hst.keep [2] rfl⟩
 refine CW.skip (QW.next (CW.seq (rg ?_)))
 refine OW.ldN (cs := [.slice a63 (r38.1.Maps).length c64, .slice a66 (r38.1.Code).length c67]) rfl rfl rfl rfl (by kernel_rfl) (by kernel_rfl) (hst.blkN 3 rfl 0 2) ?_
 obtain ⟨r76, hr77, hF⟩ := bs hF
 refine OW.fn rfl rfl rfl rfl (by kernel_rfl) (judge_Judge_ok _ _ _ fu (.slice a63 (r38.1.Maps).length c64) (.slice a66 (r38.1.Code).length c67) r38.1 r76 hr77 (hst.part [] rfl) (Bor.refl _ _) (hst.rd 0 rfl (fun _ => rfl) [] rfl (hst.len 0 rfl).1) (hst.rd 1 rfl (fun _ => rfl) [] rfl (hst.len 1 rfl).1) (hT0.give hst []) (hT1.give hst [])) ?_
 rintro e w78 ⟨rfl, hst79⟩
 refine ⟨_, rfl, ?_⟩
 have hst := hst.join (idx := []) (rest := [0, 1, 2, 3]) rfl hst79
 refine pu 5 [(10, I r76.2)] (nx (rg ?_))
 refine pu 2 [(28, .bool (r76.2 != 0))] (nx ?_)
 refine br ((r76.2 != 0)) hF (fun hF hc80 => ?_) (fun hF hc80 => ?_)
 ·refine rg ?_
  refine pu 3 [(4, I 0), (5, I r76.2)] (nx (CW.ret (QW.then_ret ?_)))
  obtain rfl := inj hF
  refine QW.ret2 rfl rfl rfl ?_
  exact ⟨S0, rfl, hst.keep [2] rfl⟩
 refine CW.skip (QW.next (CW.seq (rg ?_)))
 refine pu 1 [(30, Pt b68)] ?_
 refine OW.ld rfl rfl rfl rfl (by kernel_rfl) (hst.blk 3 rfl rfl) ?_
 refine pu 2 [(32, I ((r38.1.Maps).length : Int)), (33, I 0)] (nx ?_)
 obtain ⟨o190, ho191, hF⟩ := bs hF
 refine CW.cutK (fun a w1 => ∃ (t192 : Unit) (S189 : List Nat), o190 = .inl t192 ∧ Rep 83 [(0, Pt b4), (6, Pt b68)] a ∧ St w (fp [itI R_t24 [Pt b4] S0 p0]) w1 [itI R_t24 [Pt b4] S189 p0, blkI b68 31 [.slice a63 (r38.1.Maps).length c64, .slice a66 (r38.1.Code).length c67], rowI (.slice a63 (r38.1.Maps).length c64) 3 (encInt .i64) 1 r38.1.Maps, rowI (.slice a66 (r38.1.Code).length c67) 42 enc_api_Inst 5 r38.1.Code]) ?_ ?_
 ·refine CW.block ?_
  refine CW.loop (fun n a w1 => ∃ (i266 : Nat) (s264 : Unit) (S265 : List Nat), i266 + n = (r38.1.Maps).length ∧ Rep 83 [(0, Pt b4), (6, Pt b68), (31, .slice a63 (r38.1.Maps).length c64), (32, I ((r38.1.Maps).length : Int)), (33, I (i266 : Int))] a ∧ St w (fp [itI R_t24 [Pt b4] S0 p0]) w1 [itI R_t24 [Pt b4] S265 p0, blkI b68 31 [.slice a63 (r38.1.Maps).length c64, .slice a66 (r38.1.Code).length c67], rowI (.slice a63 (r38.1.Maps).length c64) 3 (encInt .i64) 1 r38.1.Maps, rowI (.slice a66 (r38.1.Code).length c67) 42 enc_api_Inst 5 r38.1.Code] ∧ forN (registry_Registry_Load_l1 p0 r38) (fun (s264 : Unit) => (.inl ())) n i266 s264 = some o190) (r38.1.Maps).length (fun a ha => ⟨0, (), S0, Nat.zero_add _, ha.ag, hst.keep [2, 3, 0, 1] rfl, ho191⟩) ?_
  rintro n262 a w1 ⟨i266, s264, S265, hi267, ha, hst, hl263⟩
  refine CW.go ?_ ha
  refine rg ?_
  refine pu 1 [(34, .bool (decide ((i266 : Int) < ((r38.1.Maps).length : Int))))] (nx (CW.seq ?_))
  rcases bft (decide ((i266 : Int) < ((r38.1.Maps).length : Int))) with hc268 | hc268
  ·rcases n262 with _ | n262
   ·exact (cnt0 hi267 hc268).elim
   refine CW.cond_t rfl hc268 (CW.skip (QW.next (CW.seq (CW.block (rg ?_)))))
   obtain ⟨x275, hx276, hl263⟩ := bs hl263
   obtain ⟨g278, o279, c280, hv277⟩ := hst.rowv 2 rfl hx276
   refine OW.idx 3 1 rfl rfl rfl rfl hv277 rfl (idx_some hx276).1 (idx_some hx276).2.1 (by kernel_rfl) (by kernel_rfl) ?_
   refine OW.ld rfl rfl rfl rfl (by kernel_rfl) (hst.rowc 2 rfl (fun _ => rfl) hx276 hv277 0 _ rfl) ?_
   refine pu 1 [(12, I x275)] (nx (CW.seq ?_))
   obtain ⟨v281, S282, v283, S284, v285, S286, v287, S288, v289, S290, hst⟩ := hst.openQ5 0 rfl rfl rfl rfl rfl rfl
   obtain ⟨r291, rfl, hst⟩ := hst.toMN1 7 rfl
   have hst := hst.toRow1 8 rfl
   obtain ⟨b292, rfl⟩ := hst.fptr 4 rfl
   obtain ⟨b293, rfl⟩ := hst.fptr 5 rfl
   obtain ⟨b294, rfl⟩ := hst.fptr 6 rfl
   obtain ⟨l295, a296, c297, rfl⟩ := hst.len 8 rfl
   have hst : St _ _ _ [blkI b4 58 [Pt b292, Pt b293, Pt b294, I p0.hooks, I p0.maps, I p0.given, .map (some r291), .slice a296 (p0.waiting).length c297], _, _, _, _, _, _, _, _] := hst
   refine CW.region ?_
   refine pu 4 [(37, I x275), (40, .pointer (some ⟨b4, 4, none⟩))] ?_
   refine OW.ld rfl rfl rfl rfl (by kernel_rfl) (hst.blk 0 rfl rfl) ?_
   refine pu 1 [(42, .bool (decide (x275 ≥ p0.maps)))] (nx ?_)
   refine br (decide (x275 ≥ p0.maps)) hl263 (fun hl263 hc298 => ?_) (fun hl263 hc298 => ?_)
   ·refine rg ?_
    refine pu 2 [(4, I 0), (5, I 41)] (nx (CW.ret (QW.block_ret (QW.then_ret (QW.then_ret (QW.block_ret (QW.then_ret ?_)))))))
    have hst := hst.ofMN 7 rfl
    have hst := hst.toIt 8 rfl (fun _ => rfl) (by decide)
    obtain ⟨S299, hst⟩ := hst.shutP5 R_t58 rfl 0 4 5 6 7 8 [1, 2, 3] rfl rfl rfl rfl rfl rfl rfl p0 rfl rfl
    obtain rfl := inj hl263
    obtain rfl := inj hF
    refine QW.ret2 rfl rfl rfl ?_
    exact ⟨S299, rfl, hst.keep [3] rfl⟩
   refine CW.skip (QW.block_normal (QW.next (CW.region ?_)))
   refine pu 2 [(33, I (w64 ((i266 : Int) + 1)))] (OW.nil rfl ?_)
   have hst := hst.ofMN 7 rfl
   have hst := hst.toIt 8 rfl (fun _ => rfl) (by decide)
   obtain ⟨S300, hst⟩ := hst.shutP5 R_t58 rfl 0 4 5 6 7 8 [1, 2, 3] rfl rfl rfl rfl rfl rfl rfl p0 rfl rfl
   refine QW.say 33 rfl (congrArg (Value.int .i64) (w64_cnt hc268 l62)) ?_
   exact QW.meet (fun a ha => ⟨n262, Nat.lt_succ_self _, i266 + 1, (), S300, cnt_next hi267, ha.ag, hst.keep [3, 0, 1, 2] rfl, hl263⟩)
  rcases n262 with _ | n262
  ·refine CW.cond_f rfl hc268 ?_
   refine CW.exit (QW.then_exit (QW.then_exit ?_))
   refine QW.block_here ?_
   obtain rfl := inj hl263
   exact QW.meet (fun a ha => ⟨(), S265, rfl, ha.ag, hst.keep [0, 1, 2, 3] rfl⟩)
  exact (cnt1 hi267 hc268).elim
 rintro a w1 ⟨t192, S189, rfl, ha, hst⟩
 refine CW.go ?_ ha
 refine CW.seq (CW.seq ?_)
 obtain ⟨v301, S302, v303, S304, v305, S306, v307, S308, v309, S310, hst⟩ := hst.openQ5 0 rfl rfl rfl rfl rfl rfl
 obtain ⟨r311, rfl, hst⟩ := hst.toMN1 7 rfl
 have hst := hst.toRow1 8 rfl
 obtain ⟨b312, rfl⟩ := hst.fptr 4 rfl
 obtain ⟨b313, rfl⟩ := hst.fptr 5 rfl
 obtain ⟨b314, rfl⟩ := hst.fptr 6 rfl
 obtain ⟨l315, a316, c317, rfl⟩ := hst.len 8 rfl
 have hst : St _ _ _ [blkI b4 58 [Pt b312, Pt b313, Pt b314, I p0.hooks, I p0.maps, I p0.given, .map (some r311), .slice a316 (p0.waiting).length c317], _, _, _, _, _, _, _, _] := hst
 refine CW.region ?_
 refine pu 3 [(46, .pointer (some ⟨b4, 6, none⟩))] ?_
 refine OW.ld rfl rfl rfl rfl (by kernel_rfl) (hst.blk 0 rfl rfl) ?_
 refine OW.op (v := I (p0.progs.length : Int)) rfl rfl rfl rfl (mlenN_run (tk := 3) (te := 95) hst 7 rfl rfl rfl rfl (by kernel_rfl)) ?_
 refine pu 1 [(49, .bool (decide ((p0.progs.length : Int) ≥ 16)))] (nx ?_)
 refine br (decide ((p0.progs.length : Int) ≥ 16)) hF (fun hF hc318 => ?_) (fun hF hc318 => ?_)
 ·refine rg ?_
  refine pu 2 [(4, I 0), (5, I 40)] (nx (CW.ret (QW.then_ret ?_)))
  have hst := hst.ofMN 7 rfl
  have hst := hst.toIt 8 rfl (fun _ => rfl) (by decide)
  obtain ⟨S319, hst⟩ := hst.shutP5 R_t58 rfl 0 4 5 6 7 8 [1, 2, 3] rfl rfl rfl rfl rfl rfl rfl p0 rfl rfl
  obtain rfl := inj hF
  refine QW.ret2 rfl rfl rfl ?_
  exact ⟨S319, rfl, hst.keep [3] rfl⟩
 refine CW.skip (QW.next (rg ?_))
 refine pu 3 [(50, Pt b4), (52, .pointer (some ⟨b4, 5, none⟩))] ?_
 refine OW.ld rfl rfl rfl rfl (by kernel_rfl) (hst.blk 0 rfl rfl) ?_
 refine pu 3 [(54, I (w64 (p0.given + 1))), (56, .pointer (some ⟨b4, 5, none⟩))] ?_
 refine OW.stB hst 0 rfl rfl rfl rfl rfl (by kernel_rfl) rfl rfl [Pt b312, Pt b313, Pt b314, I p0.hooks, I p0.maps, I (w64 (p0.given + 1)), .map (some r311), .slice a316 (p0.waiting).length c317] rfl ?_
 intro w321 hst
 refine nx (CW.seq ?_)
 refine CW.plan (by kernel_rfl) ?_
 intro w328 hch329
 have hst := hst.same hch329
 refine OA.pure [0, 1, 2] [(59, .pointer (some ⟨b4, 6, none⟩))] (by kernel_rfl) ?_
 refine OA.ld (i := 3) rfl (by kernel_rfl) rfl rfl rfl (by kernel_rfl) (hst.blk 0 rfl rfl) ?_
 refine OA.pure [4, 5, 6] [(63, .pointer (some ⟨b4, 5, none⟩))] (by kernel_rfl) ?_
 refine OA.ld (i := 7) rfl (by kernel_rfl) rfl rfl rfl (by kernel_rfl) (hst.blk 0 rfl rfl) ?_
 refine OA.ldN (i := 8) (cs := [.slice a63 (r38.1.Maps).length c64, .slice a66 (r38.1.Code).length c67]) rfl (by kernel_rfl) rfl rfl rfl (by kernel_rfl) (by kernel_rfl) (hst.blkN 1 rfl 0 2) ?_
 refine OA.pure [9] [(66, .agg [.slice a63 (r38.1.Maps).length c64, .slice a66 (r38.1.Code).length c67, I 0].toArray)] (by kernel_rfl) ?_
 refine OA.act (i := 10) [7, 3] (by kernel_rfl) rfl rfl (by kernel_rfl) (by kernel_rfl) ?_
 refine OW.box hst rfl rfl rfl rfl [.slice a63 (r38.1.Maps).length c64, .slice a66 (r38.1.Code).length c67, I 0] rfl ?_
 intro b330 w331 hst
 refine OA.next ⟨(hst.blk 0 rfl rfl), (hst.blk 0 rfl rfl), trivial⟩ ?_
 refine OA.act (i := 11) [] (by kernel_rfl) rfl rfl (by kernel_rfl) (by kernel_rfl) ?_
 refine OW.mputH (tk := 3) (te := 95) (kd := .i64) hst 7 (registry_program.mk r38.1 0) rfl (fun _ _ e => by cases e) rfl rfl rfl rfl rfl (by kernel_rfl) (by kernel_rfl) ?_
 intro S333 w332 hst
 refine OA.next trivial ?_
 refine OA.fin (by kernel_rfl) (by kernel_rfl) (QW.next (CW.seq ?_))
 refine CW.tail 10 (by kernel_rfl) (by kernel_rfl) ?_
 intro w341 hch342
 have hst := hst.same hch342
 refine OS.pure 3 [(70, .pointer (some ⟨b4, 1, none⟩))] rfl (by kernel_rfl) ?_
 refine OS.ld rfl rfl rfl rfl rfl (by kernel_rfl) (hst.blk 0 rfl rfl) ?_
 refine OS.pure 3 [(74, .pointer (some ⟨b4, 5, none⟩))] rfl (by kernel_rfl) ?_
 refine OS.ld rfl rfl rfl rfl rfl (by kernel_rfl) (hst.blk 0 rfl rfl) ?_
 refine OS.pure 1 [(76, Pt b68)] rfl (by kernel_rfl) ?_
 refine OS.ld rfl rfl rfl rfl rfl (by kernel_rfl) (hst.blk 1 rfl rfl) ?_
 refine OS.on ?_
 obtain ⟨r343, hr344, hF⟩ := bs hF
 refine OW.fn rfl rfl rfl rfl (by kernel_rfl) (refs_Refs_Hold_ok _ (Pt b313) S304 p0.Refs (w64 (p0.given + 1)) (.slice a63 (r38.1.Maps).length c64) r38.1.Maps r343 hr344 (hst.part [5] rfl) (hst.rd 2 rfl (fun _ => rfl) [5] rfl (hst.len 2 rfl).1)) ?_
 rintro e w345 ⟨S347, rfl, hst346⟩
 refine ⟨_, rfl, ?_⟩
 have hst := hst.join (idx := [5]) (rest := [0, 1, 2, 3, 4, 6, 7, 8, 9]) rfl hst346
 refine nx (rg ?_)
 refine pu 3 [(81, .pointer (some ⟨b4, 5, none⟩))] ?_
 refine OW.ld rfl rfl rfl rfl (by kernel_rfl) (hst.blk 1 rfl rfl) ?_
 refine pu 2 [(4, I (w64 (p0.given + 1))), (5, I 0)] (nx (CW.ret ?_))
 have hst := hst.toIt 3 rfl (fun _ => rfl) (by decide)
 have hst := hst.toIt 4 rfl (fun _ => rfl) (by decide)
 obtain ⟨S348, hst⟩ := hst.shutP2 R_t97 rfl 9 3 4 [0, 1, 2, 5, 6, 7, 8] rfl rfl rfl rfl (registry_program.mk r38.1 0) rfl rfl
 have hst := hst.toOpt 7 rfl
 obtain ⟨S349, hst⟩ := hst.mback (f := (fun o => o)) 5 7 rfl rfl rfl (fun _ _ _ _ h => h) (registry_program.mk r38.1 0) (fun _ => rfl)
 rw [mset_self mget_put] at hst
 have hst := hst.keep [0, 1, 2, 3, 4, 5, 6] rfl
 have hst := hst.ofMN 5 rfl
 have hst := hst.toIt 6 rfl (fun _ => rfl) (by decide)
 obtain ⟨S350, hst⟩ := hst.shutP5 R_t58 rfl 1 3 0 4 5 6 [2] rfl rfl rfl rfl rfl rfl rfl (registry_Registry.mk p0.Table r343.2 p0.Clock p0.hooks p0.maps (w64 (p0.given + 1)) (mput p0.progs (w64 (p0.given + 1)) (registry_program.mk r38.1 0)) p0.waiting) rfl rfl
 obtain rfl := inj hF
 refine QW.ret2 rfl rfl rfl ?_
 exact ⟨S350, rfl, hst.keep [1] rfl⟩
theorem hooks_Table_known_ok (w : World) (v0 : Value) (S0 : List Nat) (p0 : hooks_Table) (p1 : Int) (r : Bool) (hF : hooks_Table_known p0 p1 = some r)
    (hst : St w (fp [itI R_t53 [v0] S0 p0]) w [itI R_t53 [v0] S0 p0]) :
    Calls Tryz.prog 84 [v0, I p1].toArray w (fun e w' => ∃ (s0 : List Nat), e = .returned (.bool r) ∧ St w (fp [itI R_t53 [v0] S0 p0]) w' [itI R_t53 [v0] s0 p0]) := by
 refine CW.start (N := 16) Tryz.func84 rfl rfl rfl ?_
 obtain ⟨b1, rfl⟩ := hst.fptr 0 rfl
 refine rg ?_
 refine pu 1 [] (nx (CW.seq ?_))
 obtain ⟨v2, S3, hst⟩ := hst.openQ1 0 rfl rfl
 have hst := hst.toRow1 1 rfl
 obtain ⟨l4, a5, c6, rfl⟩ := hst.len 1 rfl
 have hst : St _ _ _ [blkI b1 69 [I p0.Versions.last, .slice a5 (p0.hooks).length c6], _] := hst
 refine CW.cutK (fun a w1 => Rep 16 [(4, .bool (decide (p1 ≥ 0) && decide (p1 < ((p0.hooks).length : Int))))] a ∧ St w (fp [itI R_t53 [Pt b1] S0 p0]) w1 [blkI b1 69 [I p0.Versions.last, .slice a5 (p0.hooks).length c6], rowI (.slice a5 (p0.hooks).length c6) 165 enc_hooks_published 2 p0.hooks]) ?_ ?_
 ·refine CW.region ?_
  refine pu 3 [(7, .bool (decide (p1 ≥ 0)))] ?_
  refine OW.split 7 rfl (fun hc7 => ?_) (fun hc7 => ?_)
  ·refine pu 4 [(8, I p1), (11, .pointer (some ⟨b1, 1, none⟩))] ?_
   refine OW.ld rfl rfl rfl rfl (by kernel_rfl) (hst.blk 0 rfl rfl) ?_
   refine pu 4 [(4, .bool (decide (p1 < ((p0.hooks).length : Int))))] (OW.nil rfl ?_)
   refine QW.say 4 (v := .bool (decide (p1 ≥ 0) && decide (p1 < ((p0.hooks).length : Int)))) rfl (by first | (rw [hc7]; done) | (rw [hc7]; rfl) | simp [hc7]) ?_
   exact QW.meet (fun a ha => ⟨ha.ag, hst.keep [0, 1] rfl⟩)
  refine pu 9 [(4, .bool false)] (OW.nil rfl ?_)
  refine QW.say 4 (v := .bool (decide (p1 ≥ 0) && decide (p1 < ((p0.hooks).length : Int)))) rfl (by first | (rw [hc7]; done) | (rw [hc7]; rfl) | simp [hc7]) ?_
  exact QW.meet (fun a ha => ⟨ha.ag, hst.keep [0, 1] rfl⟩)
 rintro a w1 ⟨ha, hst⟩
 refine CW.go ?_ ha
 refine CW.ret ?_
 have hst := hst.toIt 1 rfl (fun _ => rfl) (by decide)
 obtain ⟨S8, hst⟩ := hst.shutP1 R_t69 rfl 0 1 [] rfl rfl rfl p0 rfl rfl
 obtain rfl := inj hF
 refine QW.ret1 rfl rfl ?_
 exact ⟨S8, rfl, hst.keep [0] rfl⟩
theorem hooks_Table_taken_ok (w : World) (v0 : Value) (S0 : List Nat) (p0 : hooks_Table) (p1 : Int) (r : Bool) (hF : hooks_Table_taken p0 p1 = some r)
    (hst : St w (fp [itI R_t53 [v0] S0 p0]) w [itI R_t53 [v0] S0 p0]) :
    Calls Tryz.prog 85 [v0, I p1].toArray w (fun e w' => ∃ (s0 : List Nat), e = .returned (.bool r) ∧ St w (fp [itI R_t53 [v0] S0 p0]) w' [itI R_t53 [v0] s0 p0]) := by
 refine CW.start (N := 14) Tryz.func85 rfl rfl rfl ?_
 obtain ⟨b1, rfl⟩ := hst.fptr 0 rfl
 refine rg ?_
 refine pu 1 [] (nx (CW.seq ?_))
 obtain ⟨v2, S3, hst⟩ := hst.openQ1 0 rfl rfl
 have hst := hst.toRow1 1 rfl
 obtain ⟨l4, a5, c6, rfl⟩ := hst.len 1 rfl
 have hst : St _ _ _ [blkI b1 69 [I p0.Versions.last, .slice a5 (p0.hooks).length c6], _] := hst
 refine CW.region ?_
 refine pu 3 [(7, .pointer (some ⟨b1, 1, none⟩))] ?_
 refine OW.ld rfl rfl rfl rfl (by kernel_rfl) (hst.blk 0 rfl rfl) ?_
 refine pu 1 [(9, I p1)] ?_
 obtain ⟨x13, hx14, hF⟩ := bs hF
 obtain ⟨g16, o17, c18, hv15⟩ := hst.rowv 1 rfl hx14
 refine OW.idx 165 2 rfl rfl rfl rfl hv15 rfl (idx_some hx14).1 (idx_some hx14).2.1 (by kernel_rfl) (by kernel_rfl) ?_
 refine pu 1 [(11, .pointer (some ⟨g16, o17 + Int.toNat p1 * 2, none⟩))] ?_
 refine OW.ld rfl rfl rfl rfl (by kernel_rfl) (hst.rowc 1 rfl (fun _ => rfl) hx14 hv15 0 _ rfl) ?_
 refine pu 2 [(4, .bool (decide (x13.version > 0)))] (nx (CW.ret ?_))
 have hst := hst.toIt 1 rfl (fun _ => rfl) (by decide)
 obtain ⟨S19, hst⟩ := hst.shutP1 R_t69 rfl 0 1 [] rfl rfl rfl p0 rfl rfl
 obtain rfl := inj hF
 refine QW.ret1 rfl rfl ?_
 exact ⟨S19, rfl, hst.keep [0] rfl⟩
theorem hooks_Versions_Fresh_ok (w : World) (b0 : Nat) (T0 : TypeId) (A0 C0 : List Value) (p0 : hooks_Versions) (r : Int × hooks_Versions) (hF : hooks_Versions_Fresh p0 = some r)
    (hst : St w (fp [partI b0 T0 A0 [I p0.last] C0]) w [partI b0 T0 A0 [I p0.last] C0]) :
    Calls Tryz.prog 127 [.pointer (some ⟨b0, A0.length + 0, none⟩)].toArray w (fun e w' => e = .returned (I r.1) ∧ St w (fp [partI b0 T0 A0 [I p0.last] C0]) w' [partI b0 T0 A0 [I r.2.last] C0]) := by
 refine CW.start (N := 14) Tryz.func127 rfl rfl rfl (rg ?_)
 refine pu 1 [] (nx (rg ?_))
 refine pu 3 [(3, .pointer (some ⟨b0, A0.length + 0, none⟩)), (5, .pointer (some ⟨b0, A0.length + 0, none⟩))] ?_
 refine OW.ld rfl rfl rfl rfl (by kernel_rfl) (hst.prt 0 rfl 0 rfl) ?_
 refine pu 3 [(7, I (w64 (p0.last + 1))), (9, .pointer (some ⟨b0, A0.length + 0, none⟩))] ?_
 refine OW.stP hst 0 rfl rfl rfl 0 rfl rfl (by kernel_rfl) rfl rfl [I (w64 (p0.last + 1))] rfl ?_
 intro w2 hst
 refine nx (rg ?_)
 refine pu 3 [(12, .pointer (some ⟨b0, A0.length + 0, none⟩))] ?_
 refine OW.ld rfl rfl rfl rfl (by kernel_rfl) (hst.prt 0 rfl 0 rfl) ?_
 refine pu 1 [(2, I (w64 (p0.last + 1)))] (nx (CW.ret ?_))
 obtain rfl := inj hF
 refine QW.ret1 rfl rfl ?_
 exact ⟨rfl, hst.keep [0] rfl⟩
theorem hooks_Versions_Last_ok (w : World) (b0 : Nat) (T0 : TypeId) (A0 C0 : List Value) (p0 : hooks_Versions) (r : Int) (hF : hooks_Versions_Last p0 = some r)
    (hst : St w (fp [partI b0 T0 A0 [I p0.last] C0]) w [partI b0 T0 A0 [I p0.last] C0]) :
    Calls Tryz.prog 23 [.pointer (some ⟨b0, A0.length + 0, none⟩)].toArray w (fun e w' => e = .returned (I r) ∧ St w (fp [partI b0 T0 A0 [I p0.last] C0]) w' [partI b0 T0 A0 [I p0.last] C0]) := by
 refine CW.start (N := 7) Tryz.func23 rfl rfl rfl (rg ?_)
 refine pu 1 [] (nx (rg ?_))
 refine pu 3 [(5, .pointer (some ⟨b0, A0.length + 0, none⟩))] ?_
 refine OW.ld rfl rfl rfl rfl (by kernel_rfl) (hst.prt 0 rfl 0 rfl) ?_
 refine pu 1 [(2, I p0.last)] (nx (CW.ret ?_))
 obtain rfl := inj hF
 refine QW.ret1 rfl rfl ?_
 exact ⟨rfl, hst.keep [0] rfl⟩
theorem hooks_Table_publish_ok (w : World) (v0 : Value) (S0 : List Nat) (p0 : hooks_Table) (p1 : Int) (p2 : Int) (r : Int × Int × hooks_Table) (hF : hooks_Table_publish p0 p1 p2 = some r)
    (hst : St w (fp [itI R_t53 [v0] S0 p0]) w [itI R_t53 [v0] S0 p0]) :
    Calls Tryz.prog 87 [v0, I p1, I p2].toArray w (fun e w' => ∃ (s0 : List Nat), e = .returned (.tuple #[I r.1, I r.2.1]) ∧ St w (fp [itI R_t53 [v0] S0 p0]) w' [itI R_t53 [v0] s0 r.2.2]) := by
 refine CW.start (N := 24) Tryz.func87 rfl rfl rfl ?_
 obtain ⟨b1, rfl⟩ := hst.fptr 0 rfl
 refine rg ?_
 refine pu 2 [] (nx (CW.seq ?_))
 obtain ⟨v2, S3, hst⟩ := hst.openQ1 0 rfl rfl
 have hst := hst.toRow1 1 rfl
 obtain ⟨l4, a5, c6, rfl⟩ := hst.len 1 rfl
 have hst : St _ _ _ [blkI b1 69 [I p0.Versions.last, .slice a5 (p0.hooks).length c6], _] := hst
 refine CW.plan (by kernel_rfl) ?_
 intro w20 hch21
 have hst := hst.same hch21
 refine OA.pure [0, 1, 2] [(10, .pointer (some ⟨b1, 1, none⟩))] (by kernel_rfl) ?_
 refine OA.ld (i := 3) rfl (by kernel_rfl) rfl rfl rfl (by kernel_rfl) (hst.blk 0 rfl rfl) ?_
 refine OA.pure [4, 5, 6, 7, 9] [(12, I p1), (15, Pt b1), (17, I p2)] (by kernel_rfl) ?_
 refine OA.act (i := 8) [3] (by kernel_rfl) rfl rfl (by kernel_rfl) (by kernel_rfl) ?_
 obtain ⟨r22, hr23, hF⟩ := bs hF
 refine OW.fn rfl rfl rfl rfl (by kernel_rfl) (hooks_Versions_Fresh_ok _ b1 69 [] [.slice a5 (p0.hooks).length c6] p0.Versions r22 hr23 (hst.part [0] rfl)) ?_
 rintro e w24 ⟨rfl, hst25⟩
 refine ⟨_, rfl, ?_⟩
 have hst := hst.join (idx := [0]) (rest := [1]) rfl hst25
 have hst : St _ _ _ [blkI b1 69 [I r22.2.last, .slice a5 (p0.hooks).length c6], _] := hst
 refine OA.next ⟨(hst.blk 0 rfl rfl), trivial⟩ ?_
 refine OA.pure [10] [(18, .agg [I r22.1, I p2].toArray)] (by kernel_rfl) ?_
 obtain ⟨x26, hx27, hF⟩ := bs hF
 obtain ⟨g29, o30, c31, hv28⟩ := hst.rowv 1 rfl hx27
 refine OA.idx (i := 11) 165 2 rfl (by kernel_rfl) rfl rfl rfl hv28 rfl (idx_some hx27).1 (idx_some hx27).2.1 (by kernel_rfl) (by kernel_rfl) ?_
 refine OA.act (i := 12) [] (by kernel_rfl) rfl rfl (by kernel_rfl) (by kernel_rfl) ?_
 refine OW.stR hst 1 rfl hv28 (fun _ => rfl) rfl rfl hx27 0 rfl rfl rfl (by kernel_rfl) rfl rfl (hooks_published.mk r22.1 p2) rfl ?_
 intro w32 hst
 refine OA.next trivial ?_
 refine OA.fin (by kernel_rfl) (by kernel_rfl) (QW.next (rg ?_))
 refine pu 3 [(22, Pt b1)] ?_
 obtain ⟨r37, hr38, hF⟩ := bs hF
 refine OW.fn rfl rfl rfl rfl (by kernel_rfl) (hooks_Versions_Last_ok _ b1 69 [] [.slice a5 (p0.hooks).length c6] r22.2 r37 hr38 (hst.part [0] rfl)) ?_
 rintro e w39 ⟨rfl, hst40⟩
 refine ⟨_, rfl, ?_⟩
 have hst := hst.join (idx := [0]) (rest := [1]) rfl hst40
 have hst : St _ _ _ [blkI b1 69 [I r22.2.last, .slice a5 (p0.hooks).length c6], _] := hst
 refine pu 2 [(6, I r37), (7, I 0)] (nx (CW.ret ?_))
 have hst := hst.toIt 1 rfl (fun _ => rfl) (by decide)
 obtain ⟨S41, hst⟩ := hst.shutP1 R_t69 rfl 0 1 [] rfl rfl rfl (hooks_Table.mk r22.2 (p0.hooks.set (Int.toNat p1) (hooks_published.mk r22.1 p2))) rfl rfl
 obtain rfl := inj hF
 refine QW.ret2 rfl rfl rfl ?_
 exact ⟨S41, rfl, hst.keep [0] rfl⟩
theorem hooks_Table_Attach_ok (w : World) (v0 : Value) (S0 : List Nat) (p0 : hooks_Table) (p1 : Int) (p2 : Int) (r : Int × Int × hooks_Table) (hF : hooks_Table_Attach p0 p1 p2 = some r)
    (hst : St w (fp [itI R_t53 [v0] S0 p0]) w [itI R_t53 [v0] S0 p0]) :
    Calls Tryz.prog 55 [v0, I p1, I p2].toArray w (fun e w' => ∃ (s0 : List Nat), e = .returned (.tuple #[I r.1, I r.2.1]) ∧ St w (fp [itI R_t53 [v0] S0 p0]) w' [itI R_t53 [v0] s0 r.2.2]) := by
 refine CW.start (N := 23) Tryz.func55 rfl rfl rfl ?_
 obtain ⟨b1, rfl⟩ := hst.fptr 0 rfl
 refine rg ?_
 refine pu 2 [] (nx (CW.seq (CW.block (rg ?_))))
 refine pu 2 [(9, Pt b1), (10, I p1)] ?_
 obtain ⟨r7, hr8, hF⟩ := bs hF
 refine OW.fn rfl rfl rfl rfl (by kernel_rfl) (hooks_Table_known_ok _ (Pt b1) S0 p0 p1 r7 hr8 (hst.part [0] rfl)) ?_
 rintro e w9 ⟨S11, rfl, hst10⟩
 refine ⟨_, rfl, ?_⟩
 have hst := hst.join (idx := [0]) (rest := []) rfl hst10
 refine pu 2 [(8, .bool (!r7))] (nx ?_)
 refine br ((!r7)) hF (fun hF hc12 => ?_) (fun hF hc12 => ?_)
 ·refine rg ?_
  refine pu 2 [(6, I 0), (7, I 2)] (nx (CW.ret (QW.block_ret (QW.then_ret ?_))))
  obtain rfl := inj hF
  refine QW.ret2 rfl rfl rfl ?_
  exact ⟨S11, rfl, hst.keep [0] rfl⟩
 refine rg ?_
 refine pu 2 [(14, Pt b1), (15, I p1)] ?_
 obtain ⟨r18, hr19, hF⟩ := bs hF
 refine OW.fn rfl rfl rfl rfl (by kernel_rfl) (hooks_Table_taken_ok _ (Pt b1) S11 p0 p1 r18 hr19 (hst.part [0] rfl)) ?_
 rintro e w20 ⟨S22, rfl, hst21⟩
 refine ⟨_, rfl, ?_⟩
 have hst := hst.join (idx := [0]) (rest := []) rfl hst21
 refine pu 1 [(13, .bool r18)] (nx ?_)
 refine br (r18) hF (fun hF hc23 => ?_) (fun hF hc23 => ?_)
 ·refine rg ?_
  refine pu 2 [(6, I 0), (7, I 42)] (nx (CW.ret (QW.block_ret (QW.then_ret ?_))))
  obtain rfl := inj hF
  refine QW.ret2 rfl rfl rfl ?_
  exact ⟨S22, rfl, hst.keep [0] rfl⟩
 refine CW.skip (QW.block_normal (QW.next (rg ?_)))
 refine pu 3 [(17, Pt b1), (18, I p1), (19, I p2)] ?_
 obtain ⟨r29, hr30, hF⟩ := bs hF
 refine OW.fn rfl rfl rfl rfl (by kernel_rfl) (hooks_Table_publish_ok _ (Pt b1) S22 p0 p1 p2 r29 hr30 (hst.part [0] rfl)) ?_
 rintro e w31 ⟨S33, rfl, hst32⟩
 refine ⟨_, rfl, ?_⟩
 have hst := hst.join (idx := [0]) (rest := []) rfl hst32
 refine pu 4 [(6, I r29.1), (7, I r29.2.1)] (nx (CW.ret ?_))
 obtain rfl := inj hF
 refine QW.ret2 rfl rfl rfl ?_
 exact ⟨S33, rfl, hst.keep [0] rfl⟩
theorem registry_Registry_Attach_ok (w : World) (v0 : Value) (S0 : List Nat) (p0 : registry_Registry) (p1 : Int) (p2 : Int) (r : Int × Int × registry_Registry) (hF : registry_Registry_Attach p0 p1 p2 = some r)
    (hst : St w (fp [itI R_t24 [v0] S0 p0]) w [itI R_t24 [v0] S0 p0]) :
    Calls Tryz.prog 25 [v0, I p1, I p2].toArray w (fun e w' => ∃ (s0 : List Nat), e = .returned (.tuple #[I r.1, I r.2.1]) ∧ St w (fp [itI R_t24 [v0] S0 p0]) w' [itI R_t24 [v0] s0 r.2.2]) := by
 refine CW.start (N := 19) Tryz.func25 rfl rfl rfl ?_
 obtain ⟨b1, rfl⟩ := hst.fptr 0 rfl
 refine rg ?_
 refine pu 2 [] (nx (CW.seq ?_))
 obtain ⟨v2, S3, v4, S5, v6, S7, v8, S9, v10, S11, hst⟩ := hst.openQ5 0 rfl rfl rfl rfl rfl rfl
 obtain ⟨r12, rfl, hst⟩ := hst.toMN1 4 rfl
 have hst := hst.toRow1 5 rfl
 obtain ⟨b13, rfl⟩ := hst.fptr 1 rfl
 obtain ⟨b14, rfl⟩ := hst.fptr 2 rfl
 obtain ⟨b15, rfl⟩ := hst.fptr 3 rfl
 obtain ⟨l16, a17, c18, rfl⟩ := hst.len 5 rfl
 have hst : St _ _ _ [blkI b1 58 [Pt b13, Pt b14, Pt b15, I p0.hooks, I p0.maps, I p0.given, .map (some r12), .slice a17 (p0.waiting).length c18], _, _, _, _, _] := hst
 refine CW.region ?_
 refine pu 6 [(8, Pt b1), (9, I p1), (10, I p2), (13, Pt b1)] ?_
 refine OW.ld rfl rfl rfl rfl (by kernel_rfl) (hst.blk 0 rfl rfl) ?_
 refine pu 1 [(15, .func (.func 55) #[Pt b13] #[])] ?_
 refine OW.inl (args := [Pt b1, I p1, I p2, .func (.func 55) #[Pt b13] #[]]) (M := 32) rfl rfl rfl rfl (by kernel_rfl) Tryz.func54 rfl rfl rfl (rg ?_)
 refine pu 2 [] (nx (CW.seq (CW.block (rg ?_))))
 refine pu 3 [(13, .bool (decide (p1 < 0)))] ?_
 refine OW.split 13 rfl (fun hc72 => ?_) (fun hc72 => ?_)
 ·have hF := ite_t hF hc72
  refine pu 8 [(10, .bool true)] (nx (CW.cond_t rfl rfl (rg ?_)))
  refine pu 2 [(8, I 0), (9, I 2)] (nx (CW.ret (QW.block_ret (QW.then_ret ?_))))
  refine QW.ret2 rfl rfl rfl ?_
  refine ⟨_, rfl, ?_⟩
  refine pu 4 [(6, I 0), (7, I 2)] (nx (CW.ret ?_))
  have hst := hst.ofMN 4 rfl
  have hst := hst.toIt 5 rfl (fun _ => rfl) (by decide)
  obtain ⟨S73, hst⟩ := hst.shutP5 R_t58 rfl 0 1 2 3 4 5 [] rfl rfl rfl rfl rfl rfl rfl p0 rfl rfl
  obtain rfl := inj hF
  refine QW.ret2 rfl rfl rfl ?_
  exact ⟨S73, rfl, hst.keep [0] rfl⟩
 have hF := ite_f hF hc72
 refine pu 4 [(14, I p1), (17, .pointer (some ⟨b1, 3, none⟩))] ?_
 refine OW.ld rfl rfl rfl rfl (by kernel_rfl) (hst.blk 0 rfl rfl) ?_
 refine pu 3 [(10, .bool (decide (p1 ≥ p0.hooks)))] (nx ?_)
 refine br (decide (p1 ≥ p0.hooks)) hF (fun hF hc74 => ?_) (fun hF hc74 => ?_)
 ·refine rg ?_
  refine pu 2 [(8, I 0), (9, I 2)] (nx (CW.ret (QW.block_ret (QW.then_ret ?_))))
  refine QW.ret2 rfl rfl rfl ?_
  refine ⟨_, rfl, ?_⟩
  refine pu 4 [(6, I 0), (7, I 2)] (nx (CW.ret ?_))
  have hst := hst.ofMN 4 rfl
  have hst := hst.toIt 5 rfl (fun _ => rfl) (by decide)
  obtain ⟨S75, hst⟩ := hst.shutP5 R_t58 rfl 0 1 2 3 4 5 [] rfl rfl rfl rfl rfl rfl rfl p0 rfl rfl
  obtain rfl := inj hF
  refine QW.ret2 rfl rfl rfl ?_
  exact ⟨S75, rfl, hst.keep [0] rfl⟩
 refine rg ?_
 refine pu 2 [(22, Pt b1), (23, I p2)] ?_
 refine OW.inl (args := [Pt b1, I p2]) (M := 24) rfl rfl rfl rfl (by kernel_rfl) Tryz.func86 rfl rfl rfl (rg ?_)
 refine pu 1 [] (nx (rg ?_))
 refine pu 3 [(10, .pointer (some ⟨b1, 6, none⟩))] ?_
 refine OW.ld rfl rfl rfl rfl (by kernel_rfl) (hst.blk 0 rfl rfl) ?_
 refine pu 1 [(12, I p2)] ?_
 refine OW.mlook (tk := 3) (te := 95) (kd := .i64) (optP 97 R_t97) (fun o => o) hst 4 rfl rfl rfl rfl rfl rfl (by kernel_rfl) (by kernel_rfl) (.pointer none) (by kernel_rfl) (fun _ => ⟨rfl, rfl⟩) (fun _ _ _ _ h => h) (fun _ _ _ _ h => h) ?_
 intro v99 S100 S101 hst
 refine pu 5 [(5, v99), (6, .bool (mget p0.progs p2).isSome)] (nx (rg ?_))
 refine pu 2 [(17, .bool (mget p0.progs p2).isSome)] ?_
 refine OW.split 17 rfl (fun hc102 => ?_) (fun hc102 => ?_)
 ·have hF := ite_t hF hc102
  refine pu 1 [(18, v99)] ?_
  obtain ⟨y103, hy104, hF⟩ := bs hF
  have hst := hst.optSome 6 rfl hy104
  obtain ⟨b105, rfl⟩ := hst.fptr 6 rfl
  obtain ⟨v106, S107, v108, S109, hst⟩ := hst.openQ2 6 rfl rfl rfl
  have hst := hst.toRow1 7 rfl
  have hst := hst.toRow1 8 rfl
  obtain ⟨l110, a111, c112, rfl⟩ := hst.len 7 rfl
  obtain ⟨l113, a114, c115, rfl⟩ := hst.len 8 rfl
  have hst : St _ _ _ [_, _, _, _, _, _, blkI b105 97 [.slice a111 (y103.module.Maps).length c112, .slice a114 (y103.module.Code).length c115, I y103.retiring], _, _] := hst
  refine pu 2 [(20, .pointer (some ⟨b105, 2, none⟩))] ?_
  refine OW.ld rfl rfl rfl rfl (by kernel_rfl) (hst.blk 6 rfl rfl) ?_
  refine pu 3 [(4, .bool (y103.retiring == 0))] (nx (CW.ret ?_))
  refine QW.ret1 rfl rfl ?_
  refine ⟨_, rfl, ?_⟩
  refine pu 2 [(21, .bool (!(y103.retiring == 0)))] (nx ?_)
  refine br ((!(y103.retiring == 0))) hF (fun hF hc116 => ?_) (fun hF hc116 => ?_)
  ·refine rg ?_
   refine pu 2 [(8, I 0), (9, I 41)] (nx (CW.ret (QW.block_ret (QW.then_ret ?_))))
   refine QW.ret2 rfl rfl rfl ?_
   refine ⟨_, rfl, ?_⟩
   refine pu 4 [(6, I 0), (7, I 41)] (nx (CW.ret ?_))
   have hst := hst.toIt 7 rfl (fun _ => rfl) (by decide)
   have hst := hst.toIt 8 rfl (fun _ => rfl) (by decide)
   obtain ⟨S117, hst⟩ := hst.shutP2 R_t97 rfl 6 7 8 [0, 1, 2, 3, 4, 5] rfl rfl rfl rfl y103 rfl rfl
   have hst := hst.toOpt 6 rfl
   obtain ⟨S118, hst⟩ := hst.mback (f := (fun o => o)) 4 6 rfl rfl rfl (fun _ _ _ _ h => h) y103 (fun _ => rfl)
   rw [mset_self hy104] at hst
   have hst := hst.keep [0, 1, 2, 3, 4, 5] rfl
   have hst := hst.ofMN 4 rfl
   have hst := hst.toIt 5 rfl (fun _ => rfl) (by decide)
   obtain ⟨S119, hst⟩ := hst.shutP5 R_t58 rfl 0 1 2 3 4 5 [] rfl rfl rfl rfl rfl rfl rfl p0 rfl rfl
   obtain rfl := inj hF
   refine QW.ret2 rfl rfl rfl ?_
   exact ⟨S119, rfl, hst.keep [0] rfl⟩
  refine CW.skip (QW.block_normal (QW.next (rg ?_)))
  refine pu 3 [(26, .func (.func 55) #[Pt b13] #[]), (27, I p1), (28, I p2)] ?_
  obtain ⟨r125, hr126, hF⟩ := bs hF
  refine OW.fn rfl rfl rfl rfl (by kernel_rfl) (hooks_Table_Attach_ok _ (Pt b13) S3 p0.Table p1 p2 r125 hr126 (hst.part [1] rfl)) ?_
  rintro e w127 ⟨S129, rfl, hst128⟩
  refine ⟨_, rfl, ?_⟩
  have hst := hst.join (idx := [1]) (rest := [0, 2, 3, 4, 5, 6, 7, 8]) rfl hst128
  refine pu 4 [(8, I r125.1), (9, I r125.2.1)] (nx (CW.ret ?_))
  refine QW.ret2 rfl rfl rfl ?_
  refine ⟨_, rfl, ?_⟩
  refine pu 4 [(6, I r125.1), (7, I r125.2.1)] (nx (CW.ret ?_))
  have hst := hst.toIt 7 rfl (fun _ => rfl) (by decide)
  have hst := hst.toIt 8 rfl (fun _ => rfl) (by decide)
  obtain ⟨S130, hst⟩ := hst.shutP2 R_t97 rfl 6 7 8 [0, 1, 2, 3, 4, 5] rfl rfl rfl rfl y103 rfl rfl
  have hst := hst.toOpt 6 rfl
  obtain ⟨S131, hst⟩ := hst.mback (f := (fun o => o)) 4 6 rfl rfl rfl (fun _ _ _ _ h => h) y103 (fun _ => rfl)
  rw [mset_self hy104] at hst
  have hst := hst.keep [0, 1, 2, 3, 4, 5] rfl
  have hst := hst.ofMN 4 rfl
  have hst := hst.toIt 5 rfl (fun _ => rfl) (by decide)
  obtain ⟨S132, hst⟩ := hst.shutP5 R_t58 rfl 1 0 2 3 4 5 [] rfl rfl rfl rfl rfl rfl rfl (registry_Registry.mk r125.2.2 p0.Refs p0.Clock p0.hooks p0.maps p0.given p0.progs p0.waiting) rfl rfl
  obtain rfl := inj hF
  refine QW.ret2 rfl rfl rfl ?_
  exact ⟨S132, rfl, hst.keep [0] rfl⟩
 have hF := ite_f hF hc102
 refine pu 7 [(4, .bool false)] (nx (CW.ret ?_))
 refine QW.ret1 rfl rfl ?_
 refine ⟨_, rfl, ?_⟩
 refine pu 2 [(21, .bool true)] (nx (CW.cond_t rfl rfl (rg ?_)))
 refine pu 2 [(8, I 0), (9, I 41)] (nx (CW.ret (QW.block_ret (QW.then_ret ?_))))
 refine QW.ret2 rfl rfl rfl ?_
 refine ⟨_, rfl, ?_⟩
 refine pu 4 [(6, I 0), (7, I 41)] (nx (CW.ret ?_))
 obtain ⟨S133, hst⟩ := hst.mback0 (f := (fun o => o)) 4 6 rfl rfl rfl (fun _ _ _ _ h => h)
 have hst := hst.keep [0, 1, 2, 3, 4, 5] rfl
 have hst := hst.ofMN 4 rfl
 have hst := hst.toIt 5 rfl (fun _ => rfl) (by decide)
 obtain ⟨S134, hst⟩ := hst.shutP5 R_t58 rfl 0 1 2 3 4 5 [] rfl rfl rfl rfl rfl rfl rfl p0 rfl rfl
 obtain rfl := inj hF
 refine QW.ret2 rfl rfl rfl ?_
 exact ⟨S134, rfl, hst.keep [0] rfl⟩
theorem slices_Sort_int_int_ok (w : World) (v0 : Value) (p0 : List Int) (r : List Int) (hF : slices_Sort_int_int p0 = some r) (hst : St w (fp [rowI v0 3 (encInt .i64) 1 p0]) w [rowI v0 3 (encInt .i64) 1 p0]) :
    Calls Tryz.prog 40 [v0].toArray w (fun e w' => e = .returned (.tuple #[]) ∧ St w (fp [rowI v0 3 (encInt .i64) 1 p0]) w' [rowI v0 3 (encInt .i64) 1 r]) :=
  sort_int_ok Tryz.slices_Sort_int Tryz.slices_Sort_int_none hF hst
theorem refs_Refs_Holders_ok (w : World) (v0 : Value) (S0 : List Nat) (p0 : refs_Refs) (p1 : Int) (r : (List Int)) (hF : refs_Refs_Holders p0 p1 = some r)
    (hst : St w (fp [itI R_t54 [v0] S0 p0]) w [itI R_t54 [v0] S0 p0]) :
    Calls Tryz.prog 53 [v0, I p1].toArray w (fun e w' => ∃ (s0 : List Nat) (x0 : Value), e = .returned (x0) ∧ St w (fp [itI R_t54 [v0] S0 p0]) w' [itI R_t54 [v0] s0 p0, rowI x0 3 (encInt .i64) 1 r]) := by
 refine CW.start (N := 28) Tryz.func53 rfl rfl rfl ?_
 obtain ⟨b1, rfl⟩ := hst.fptr 0 rfl
 refine rg ?_
 refine pu 1 [] (nx (rg ?_))
 refine pu 1 [(5, .slice none 0 0)] (nx (CW.seq (CW.seq ?_)))
 obtain ⟨v2, S3, hst⟩ := hst.openQ1 0 rfl rfl
 obtain ⟨r4, rfl, hst⟩ := hst.toMN1 1 rfl
 have hst : St _ _ _ [blkI b1 112 [I p0.maps, .map (some r4)], _] := hst
 refine CW.region ?_
 refine pu 3 [(10, .pointer (some ⟨b1, 1, none⟩))] ?_
 refine OW.ld rfl rfl rfl rfl (by kernel_rfl) (hst.blk 0 rfl rfl) ?_
 refine OW.range (tk := 3) (te := 28) hst 1 rfl rfl rfl rfl rfl (by kernel_rfl) ?_
 intro it7 w8 hst
 refine nx (CW.block ?_)
 have hst := hst.nilRow Int 3 (encInt .i64) 1
 refine CW.loop (fun n a w1 => ∃ (s140 : (List Int)) (v141 : Value) (rem142 : List (Int × (List Int))) (last143 : Option (Int × Value × (List Int))), n = rem142.length ∧ Rep 28 [(1, I p1), (5, v141), (12, Pt it7)] a ∧ St w (fp [itI R_t54 [Pt b1] S0 p0]) w1 [rowI v141 3 (encInt .i64) 1 s140, rngI it7 r4 R_t28 S3 p0.held rem142 last143, blkI b1 112 [I p0.maps, .map (some r4)]] ∧ ∀ q, q.Perm rem142 → rangeF (refs_Refs_Holders_b1 p0 p1) (refs_Refs_Holders_f1 p0 p1) q s140 = some r) (p0.held.length) (fun a ha => ⟨([] : List Int), (.slice none 0 0), p0.held, none, rfl, ha.ag, hst.keep [2, 1, 0] rfl, fun q hq => (refs_Refs_Holders_fair1 p0 p1) q hq _ hF⟩) ?_
 rintro n137 a w1 ⟨s140, v141, rem142, last143, hn139, ha, hst, hl138⟩
 refine CW.go ?_ ha
 obtain ⟨l144, a145, c146, rfl⟩ := hst.len 0 rfl
 refine rg ?_
 refine OW.rnext hst 1 rfl rfl rfl rfl rfl ?_ ?_
 ·intro hr167
  have hf168 : (refs_Refs_Holders_f1 p0 p1) s140 = some r := hl138 [] (by rw [hr167])
  have hst := hst.unrng 1 rfl
  refine pu 1 [(14, .bool false)] (nx (CW.seq (CW.cond_f rfl rfl ?_)))
  refine CW.exit (QW.then_exit (QW.then_exit ?_))
  refine QW.block_here (QW.next (rg ?_))
  refine pu 1 [(25, .slice a145 (s140).length c146)] ?_
  obtain ⟨r173, hr174, hf168⟩ := bs hf168
  refine OW.fn rfl rfl rfl rfl (by kernel_rfl) (slices_Sort_int_int_ok _ (.slice a145 (s140).length c146) s140 r173 hr174 (hst.part [0] rfl)) ?_
  rintro e w175 ⟨rfl, hst176⟩
  refine ⟨_, rfl, ?_⟩
  have hst := hst.join (idx := [0]) (rest := [1, 2]) rfl hst176
  refine nx (rg ?_)
  refine pu 2 [(4, .slice a145 (s140).length c146)] (nx (CW.ret ?_))
  have hst := hst.ofMN 1 rfl
  obtain ⟨S177, hst⟩ := hst.shutP1 R_t112 rfl 2 1 [0] rfl rfl rfl p0 rfl rfl
  obtain rfl := inj hf168
  refine QW.ret1 rfl rfl ?_
  exact ⟨S177, (.slice a145 (s140).length c146), rfl, hst.keep [1, 0] rfl⟩
 intro k158 v159 x160 rem161 w162 hp163 hst
 obtain ⟨t166, hs164, ht165⟩ := bs (hl138 ((k158, x160) :: rem161) hp163.symm)
 have hs1640 := hs164
 refine pu 1 [(14, .bool true)] (nx (CW.seq (CW.cond_t rfl rfl (CW.skip (QW.next (CW.block (rg ?_)))))))
 refine OW.rentry hst 1 rfl rfl rfl rfl rfl ?_
 refine pu 4 [(6, I k158), (7, v159)] (nx (rg ?_))
 refine pu 2 [(18, v159), (19, I p1)] ?_
 obtain ⟨r182, hr183, hs164⟩ := bs hs164
 refine OW.fn rfl rfl rfl rfl (by kernel_rfl) (slices_Contains_int_int_ok _ v159 x160 p1 r182 hr183 (hst.part [] rfl) (hst.rseeRow 1 rfl [] rfl)) ?_
 rintro e w184 ⟨rfl, hst185⟩
 refine ⟨_, rfl, ?_⟩
 have hst := hst.join (idx := []) (rest := [0, 1, 2]) rfl hst185
 refine nx ?_
 refine br (r182) hs164 (fun hs164 hc186 => ?_) (fun hs164 hc186 => ?_)
 ·refine CW.region ?_
  refine pu 2 [(21, .slice a145 (s140).length c146), (22, I k158)] ?_
  refine OW.row (α := Int) (e := 3) (enc := encInt .i64) (sz := 1) hst rfl rfl rfl [k158] rfl (fun _ => rfl) rfl rfl (fun _ => by kernel_rfl) ?_
  intro g196 w197 hst
  obtain ⟨u198, hr199, hs164⟩ := bs hs164
  refine OW.app hst 0 rfl (fun _ => rfl) (fun _ => rfl) rfl rfl rfl rfl rfl rfl (by kernel_rfl) el3 (hst.rd 3 rfl (fun _ => rfl) [] rfl (hst.len 3 rfl).1) (room_le hr199) ?_
  intro v200 w201 hst
  obtain ⟨l202, a203, c204, rfl⟩ := hst.len 0 rfl
  refine pu 1 [(5, .slice a203 ((s140 ++ [k158])).length c204)] (OW.nil rfl (QW.block_normal ?_))
  obtain rfl := inj hs164
  exact QW.meet (fun a ha => ⟨_, rng_lt hn139 hp163, (s140 ++ [k158]), (.slice a203 ((s140 ++ [k158])).length c204), rem161, (some (k158, v159, x160)), rfl, ha.ag, hst.keep [0, 1, 2] rfl, fun q hq => rangeF_step (hl138 _ ((List.Perm.cons _ hq).trans hp163.symm)) hs1640⟩)
 refine CW.skip (QW.block_normal ?_)
 obtain rfl := inj hs164
 exact QW.meet (fun a ha => ⟨_, rng_lt hn139 hp163, s140, (.slice a145 (s140).length c146), rem161, (some (k158, v159, x160)), rfl, ha.ag, hst.keep [0, 1, 2] rfl, fun q hq => rangeF_step (hl138 _ ((List.Perm.cons _ hq).trans hp163.symm)) hs1640⟩)
theorem refs_Refs_Count_ok (w : World) (v0 : Value) (S0 : List Nat) (p0 : refs_Refs) (p1 : Int) (r : Int × Int) (hF : refs_Refs_Count p0 p1 = some r)
    (hst : St w (fp [itI R_t54 [v0] S0 p0]) w [itI R_t54 [v0] S0 p0]) :
    Calls Tryz.prog 24 [v0, I p1].toArray w (fun e w' => ∃ (s0 : List Nat), e = .returned (.tuple #[I r.1, I r.2]) ∧ St w (fp [itI R_t54 [v0] S0 p0]) w' [itI R_t54 [v0] s0 p0]) := by
 refine CW.start (N := 20) Tryz.func24 rfl rfl rfl ?_
 obtain ⟨b1, rfl⟩ := hst.fptr 0 rfl
 refine rg ?_
 refine pu 2 [] (nx (CW.seq (CW.seq ?_)))
 obtain ⟨v2, S3, hst⟩ := hst.openQ1 0 rfl rfl
 obtain ⟨r4, rfl, hst⟩ := hst.toMN1 1 rfl
 have hst : St _ _ _ [blkI b1 112 [I p0.maps, .map (some r4)], _] := hst
 refine CW.cutK (fun a w1 => Rep 20 [(0, Pt b1), (1, I p1), (15, .bool (decide (p1 < 0) || decide (p1 ≥ p0.maps)))] a ∧ St w (fp [itI R_t54 [Pt b1] S0 p0]) w1 [blkI b1 112 [I p0.maps, .map (some r4)], mN r4 R_t28 S3 p0.held none]) ?_ ?_
 ·refine CW.region ?_
  refine pu 3 [(8, .bool (decide (p1 < 0)))] ?_
  refine OW.split 8 rfl (fun hc5 => ?_) (fun hc5 => ?_)
  ·refine pu 7 [(15, .bool true)] (OW.nil rfl ?_)
   refine QW.say 15 (v := .bool (decide (p1 < 0) || decide (p1 ≥ p0.maps))) rfl (by first | (rw [hc5]; done) | (rw [hc5]; rfl) | simp [hc5]) ?_
   exact QW.meet (fun a ha => ⟨ha.ag, hst.keep [0, 1] rfl⟩)
  refine pu 4 [(9, I p1), (12, Pt b1)] ?_
  refine OW.ld rfl rfl rfl rfl (by kernel_rfl) (hst.blk 0 rfl rfl) ?_
  refine pu 2 [(15, .bool (decide (p1 ≥ p0.maps)))] (OW.nil rfl ?_)
  refine QW.say 15 (v := .bool (decide (p1 < 0) || decide (p1 ≥ p0.maps))) rfl (by first | (rw [hc5]; done) | (rw [hc5]; rfl) | simp [hc5]) ?_
  exact QW.meet (fun a ha => ⟨ha.ag, hst.keep [0, 1] rfl⟩)
 rintro a w1 ⟨ha, hst⟩
 refine CW.go ?_ ha
 refine br ((decide (p1 < 0) || decide (p1 ≥ p0.maps))) hF (fun hF hc6 => ?_) (fun hF hc6 => ?_)
 ·refine rg ?_
  refine pu 2 [(4, I 0), (5, I 2)] (nx (CW.ret (QW.then_ret ?_)))
  have hst := hst.ofMN 1 rfl
  obtain ⟨S7, hst⟩ := hst.shutP1 R_t112 rfl 0 1 [] rfl rfl rfl p0 rfl rfl
  obtain rfl := inj hF
  refine QW.ret2 rfl rfl rfl ?_
  exact ⟨S7, rfl, hst.keep [0] rfl⟩
 refine CW.skip (QW.next (rg ?_))
 refine pu 2 [(16, Pt b1), (17, I p1)] ?_
 have hst := hst.ofMN 1 rfl
 obtain ⟨S18, hst⟩ := hst.shutP1 R_t112 rfl 0 1 [] rfl rfl rfl p0 rfl rfl
 obtain ⟨r19, hr20, hF⟩ := bs hF
 refine OW.fn rfl rfl rfl rfl (by kernel_rfl) (refs_Refs_Holders_ok _ (Pt b1) S18 p0 p1 r19 hr20 (hst.part [0] rfl)) ?_
 rintro e w21 ⟨S23, v24, rfl, hst22⟩
 refine ⟨_, rfl, ?_⟩
 have hst := hst.join (idx := [0]) (rest := []) rfl hst22
 obtain ⟨l25, a26, c27, rfl⟩ := hst.len 1 rfl
 refine pu 3 [(4, I ((r19).length : Int)), (5, I 0)] (nx (CW.ret ?_))
 obtain rfl := inj hF
 refine QW.ret2 rfl rfl rfl ?_
 exact ⟨S23, rfl, hst.keep [0] rfl⟩
theorem tappetlaw24_awake_ok (w : World) (fu : Nat)  (r : Bool) (hF : tappetlaw24_awake fu = some r)
    (hst : St w (fp []) w []) (hT0 : Rd w (fp []) (.slice (some ⟨0, 0, none⟩) 23 23) enc_ops_form 2 tab_g0) (hT1 : Rd w (fp []) (.slice (some ⟨1, 0, none⟩) 7 7) enc_sigs_sig 5 tab_g1) :
    Calls Tryz.prog 8 [].toArray w (fun e w' => e = .returned (.bool r) ∧ St w (fp []) w' []) := by
 refine CW.start (N := 56) Tryz.func8 rfl rfl rfl (rg ?_)
 refine pu 1 [] (nx (rg ?_))
 obtain ⟨r11, hr12, hF⟩ := bs hF
 refine OW.fn rfl rfl rfl rfl (by kernel_rfl) (registry_New_ok _ 2 3 1 r11 hr12 (hst.part [] rfl)) ?_
 rintro e w13 (⟨k15, v17, S18, he16, rfl, hst14⟩ | ⟨he19, rfl, hst14⟩)
 ·have hF := ocase_some hF he16
  refine ⟨_, rfl, ?_⟩
  have hst := hst.join (idx := []) (rest := []) rfl hst14
  obtain ⟨b20, rfl⟩ := hst.fptr 0 rfl
  refine pu 5 [(1, Pt b20), (2, I r11.2)] (nx (CW.seq (rg ?_)))
  refine pu 6 [(16, .bool (r11.2 != 0))] (nx ?_)
  refine br ((r11.2 != 0)) hF (fun hF hc21 => ?_) (fun hF hc21 => ?_)
  ·refine rg ?_
   refine pu 1 [(0, .bool false)] (nx (CW.ret (QW.then_ret ?_)))
   obtain rfl := inj hF
   refine QW.ret1 rfl rfl ?_
   exact ⟨rfl, hst.keep [] rfl⟩
  refine CW.skip (QW.next (rg ?_))
  refine pu 1 [(18, Pt b20)] ?_
  obtain ⟨r32, hr33, hF⟩ := bs hF
  refine OW.fn rfl rfl rfl rfl (by kernel_rfl) (tappetlaw24_five_ok _ r32 hr33 (hst.part [] rfl)) ?_
  rintro e w34 ⟨b36, rfl, hst35⟩
  refine ⟨_, rfl, ?_⟩
  have hst := hst.join (idx := []) (rest := [0]) rfl hst35
  obtain ⟨r37, hr38, hF⟩ := bs hF
  refine OW.fn rfl rfl rfl rfl (by kernel_rfl) (registry_Registry_Load_ok _ fu (Pt b20) S18 k15 (.slice (some ⟨b36, 0, none⟩) (r32).length (r32).length) r32 r37 hr38 (hst.part [1] rfl) (hst.frd 0 rfl [1] rfl) (hT0.give hst [1]) (hT1.give hst [1])) ?_
  rintro e w39 ⟨S41, rfl, hst40⟩
  refine ⟨_, rfl, ?_⟩
  have hst := hst.join (idx := [1]) (rest := [0]) rfl hst40
  refine pu 5 [(3, I r37.1), (2, I r37.2.1)] (nx (CW.seq (CW.seq ?_)))
  refine CW.cutK (fun a w1 => Rep 56 [(1, Pt b20), (28, .bool ((r37.1 != 1) || (r37.2.1 != 0)))] a ∧ St w (fp []) w1 [itI R_t24 [Pt b20] S41 r37.2.2]) ?_ ?_
  ·refine CW.region ?_
   refine pu 3 [(25, .bool (r37.1 != 1))] ?_
   refine OW.split 25 rfl (fun hc42 => ?_) (fun hc42 => ?_)
   ·refine pu 3 [(28, .bool true)] (OW.nil rfl ?_)
    refine QW.say 28 (v := .bool ((r37.1 != 1) || (r37.2.1 != 0))) rfl (by first | (rw [hc42]; done) | (rw [hc42]; rfl) | simp [hc42]) ?_
    exact QW.meet (fun a ha => ⟨ha.ag, hst.keep [0] rfl⟩)
   refine pu 3 [(28, .bool (r37.2.1 != 0))] (OW.nil rfl ?_)
   refine QW.say 28 (v := .bool ((r37.1 != 1) || (r37.2.1 != 0))) rfl (by first | (rw [hc42]; done) | (rw [hc42]; rfl) | simp [hc42]) ?_
   exact QW.meet (fun a ha => ⟨ha.ag, hst.keep [0] rfl⟩)
  rintro a w1 ⟨ha, hst⟩
  refine CW.go ?_ ha
  refine br (((r37.1 != 1) || (r37.2.1 != 0))) hF (fun hF hc43 => ?_) (fun hF hc43 => ?_)
  ·refine rg ?_
   refine pu 1 [(0, .bool false)] (nx (CW.ret (QW.then_ret ?_)))
   obtain rfl := inj hF
   refine QW.ret1 rfl rfl ?_
   exact ⟨rfl, hst.keep [] rfl⟩
  refine CW.skip (QW.next (rg ?_))
  refine pu 1 [(30, Pt b20)] ?_
  obtain ⟨r49, hr50, hF⟩ := bs hF
  refine OW.fn rfl rfl rfl rfl (by kernel_rfl) (registry_Registry_Attach_ok _ (Pt b20) S41 r37.2.2 0 1 r49 hr50 (hst.part [0] rfl)) ?_
  rintro e w51 ⟨S53, rfl, hst52⟩
  refine ⟨_, rfl, ?_⟩
  have hst := hst.join (idx := [0]) (rest := []) rfl hst52
  refine pu 5 [(4, I r49.1), (2, I r49.2.1)] (nx (CW.seq ?_))
  obtain ⟨v54, S55, v56, S57, v58, S59, v60, S61, v62, S63, hst⟩ := hst.openQ5 0 rfl rfl rfl rfl rfl rfl
  obtain ⟨r64, rfl, hst⟩ := hst.toMN1 4 rfl
  have hst := hst.toRow1 5 rfl
  obtain ⟨b65, rfl⟩ := hst.fptr 1 rfl
  obtain ⟨b66, rfl⟩ := hst.fptr 2 rfl
  obtain ⟨b67, rfl⟩ := hst.fptr 3 rfl
  obtain ⟨l68, a69, c70, rfl⟩ := hst.len 5 rfl
  have hst : St _ _ _ [blkI b20 58 [Pt b65, Pt b66, Pt b67, I r49.2.2.hooks, I r49.2.2.maps, I r49.2.2.given, .map (some r64), .slice a69 (r49.2.2.waiting).length c70], _, _, _, _, _] := hst
  refine CW.region ?_
  refine pu 3 [(37, .pointer (some ⟨b20, 1, none⟩))] ?_
  refine OW.ld rfl rfl rfl rfl (by kernel_rfl) (hst.blk 0 rfl rfl) ?_
  obtain ⟨r76, hr77, hF⟩ := bs hF
  refine OW.fn rfl rfl rfl rfl (by kernel_rfl) (refs_Refs_Count_ok _ (Pt b66) S57 r49.2.2.Refs 2 r76 hr77 (hst.part [2] rfl)) ?_
  rintro e w78 ⟨S80, rfl, hst79⟩
  refine ⟨_, rfl, ?_⟩
  have hst := hst.join (idx := [2]) (rest := [0, 1, 3, 4, 5]) rfl hst79
  refine pu 5 [(5, I r76.1), (6, I r76.2)] (nx (CW.seq ?_))
  refine CW.cutK (fun a w1 => Rep 56 [(0, .bool ((((r49.1 == 1) && (r49.2.1 == 0)) && (r76.1 == 1)) && (r76.2 == 0)))] a ∧ St w (fp []) w1 []) ?_ ?_
  ·refine CW.region ?_
   refine pu 3 [(44, .bool (r49.1 == 1))] ?_
   refine OW.split 44 rfl (fun hc81 => ?_) (fun hc81 => ?_)
   ·refine pu 4 [(48, .bool (r49.2.1 == 0))] ?_
    refine OW.split 48 rfl (fun hc82 => ?_) (fun hc82 => ?_)
    ·refine pu 4 [(52, .bool (r76.1 == 1))] ?_
     refine OW.split 52 rfl (fun hc83 => ?_) (fun hc83 => ?_)
     ·refine pu 4 [(0, .bool (r76.2 == 0))] (OW.nil rfl ?_)
      refine QW.say 0 (v := .bool ((((r49.1 == 1) && (r49.2.1 == 0)) && (r76.1 == 1)) && (r76.2 == 0))) rfl (by first | (rw [hc81, hc82, hc83]; done) | (rw [hc81, hc82, hc83]; rfl) | simp [hc81, hc82, hc83]) ?_
      exact QW.meet (fun a ha => ⟨ha.ag, hst.keep [] rfl⟩)
     refine pu 4 [(0, .bool false)] (OW.nil rfl ?_)
     refine QW.say 0 (v := .bool ((((r49.1 == 1) && (r49.2.1 == 0)) && (r76.1 == 1)) && (r76.2 == 0))) rfl (by first | (rw [hc81, hc82, hc83]; done) | (rw [hc81, hc82, hc83]; rfl) | simp [hc81, hc82, hc83]) ?_
     exact QW.meet (fun a ha => ⟨ha.ag, hst.keep [] rfl⟩)
    refine pu 8 [(0, .bool false)] (OW.nil rfl ?_)
    refine QW.say 0 (v := .bool ((((r49.1 == 1) && (r49.2.1 == 0)) && (r76.1 == 1)) && (r76.2 == 0))) rfl (by first | (rw [hc81, hc82]; done) | (rw [hc81, hc82]; rfl) | simp [hc81, hc82]) ?_
    exact QW.meet (fun a ha => ⟨ha.ag, hst.keep [] rfl⟩)
   refine pu 12 [(0, .bool false)] (OW.nil rfl ?_)
   refine QW.say 0 (v := .bool ((((r49.1 == 1) && (r49.2.1 == 0)) && (r76.1 == 1)) && (r76.2 == 0))) rfl (by first | (rw [hc81]; done) | (rw [hc81]; rfl) | simp [hc81]) ?_
   exact QW.meet (fun a ha => ⟨ha.ag, hst.keep [] rfl⟩)
  rintro a w1 ⟨ha, hst⟩
  refine CW.go ?_ ha
  refine CW.ret ?_
  obtain rfl := inj hF
  refine QW.ret1 rfl rfl ?_
  exact ⟨rfl, hst.keep [] rfl⟩
 have hF := ocase_none hF he19
 refine ⟨_, rfl, ?_⟩
 have hst := hst.join (idx := []) (rest := []) rfl hst14
 refine pu 5 [(1, .pointer none), (2, I r11.2)] (nx (CW.seq (rg ?_)))
 refine pu 6 [(16, .bool true)] (nx (CW.cond_t rfl rfl (rg ?_)))
 refine pu 1 [(0, .bool false)] (nx (CW.ret (QW.then_ret ?_)))
 obtain rfl := inj hF
 refine QW.ret1 rfl rfl ?_
 exact ⟨rfl, hst.keep [] rfl⟩
theorem hooks_Table_Where_ok (w : World) (v0 : Value) (S0 : List Nat) (p0 : hooks_Table) (v1 : Value) (p1 : List Int) (r : (List Int)) (hF : hooks_Table_Where p0 p1 = some r)
    (hst : St w (fp [itI R_t53 [v0] S0 p0]) w [itI R_t53 [v0] S0 p0]) (h1 : Rd w (fp [itI R_t53 [v0] S0 p0]) v1 (encInt .i64) 1 p1) :
    Calls Tryz.prog 43 [v0, v1].toArray w (fun e w' => ∃ (s0 : List Nat) (x0 : Value), e = .returned (x0) ∧ St w (fp [itI R_t53 [v0] S0 p0]) w' [itI R_t53 [v0] s0 p0, rowI x0 3 (encInt .i64) 1 r]) := by
 refine CW.start (N := 33) Tryz.func43 rfl rfl rfl ?_
 obtain ⟨l1, a2, c3, rfl⟩ := h1.len
 obtain ⟨b4, rfl⟩ := hst.fptr 0 rfl
 refine rg ?_
 refine pu 1 [] (nx (rg ?_))
 refine pu 1 [(5, .slice none 0 0)] (nx (CW.seq (CW.seq ?_)))
 obtain ⟨v5, S6, hst⟩ := hst.openQ1 0 rfl rfl
 have hst := hst.toRow1 1 rfl
 obtain ⟨l7, a8, c9, rfl⟩ := hst.len 1 rfl
 have hst : St _ _ _ [blkI b4 69 [I p0.Versions.last, .slice a8 (p0.hooks).length c9], _] := hst
 refine CW.region ?_
 refine pu 3 [(10, .pointer (some ⟨b4, 1, none⟩))] ?_
 refine OW.ld rfl rfl rfl rfl (by kernel_rfl) (hst.blk 0 rfl rfl) ?_
 refine pu 2 [(12, I ((p0.hooks).length : Int)), (13, I 0)] (nx ?_)
 obtain ⟨o185, ho186, hF⟩ := bs hF
 refine CW.cutK (fun a w1 => ∃ (v183 : Value) (S184 : List Nat), Rep 33 [(5, v183)] a ∧ St w (fp [itI R_t53 [Pt b4] S0 p0]) w1 [rowI v183 3 (encInt .i64) 1 o185, itI R_t53 [Pt b4] S184 p0]) ?_ ?_
 ·refine CW.block ?_
  have hst := hst.nilRow Int 3 (encInt .i64) 1
  refine CW.loop (fun n a w1 => ∃ (i303 : Nat) (s301 : (List Int)) (v302 : Value), i303 + n = (p0.hooks).length ∧ Rep 33 [(1, .slice a2 (p1).length c3), (5, v302), (11, .slice a8 (p0.hooks).length c9), (12, I ((p0.hooks).length : Int)), (13, I (i303 : Int))] a ∧ St w (fp [itI R_t53 [Pt b4] S0 p0]) w1 [rowI v302 3 (encInt .i64) 1 s301, rowI (.slice a8 (p0.hooks).length c9) 165 enc_hooks_published 2 p0.hooks, blkI b4 69 [I p0.Versions.last, .slice a8 (p0.hooks).length c9]] ∧ forN (hooks_Table_Where_l1 p0 p1) (fun (s301 : (List Int)) => s301) n i303 s301 = some o185) (p0.hooks).length (fun a ha => ⟨0, ([] : List Int), (.slice none 0 0), Nat.zero_add _, ha.ag, hst.keep [2, 1, 0] rfl, ho186⟩) ?_
  rintro n299 a w1 ⟨i303, s301, v302, hi304, ha, hst, hl300⟩
  refine CW.go ?_ ha
  obtain ⟨l305, a306, c307, rfl⟩ := hst.len 0 rfl
  refine rg ?_
  refine pu 1 [(14, .bool (decide ((i303 : Int) < ((p0.hooks).length : Int))))] (nx (CW.seq ?_))
  rcases bft (decide ((i303 : Int) < ((p0.hooks).length : Int))) with hc308 | hc308
  ·rcases n299 with _ | n299
   ·exact (cnt0 hi304 hc308).elim
   refine CW.cond_t rfl hc308 (CW.skip (QW.next (CW.seq (CW.block (rg ?_)))))
   refine pu 1 [(15, I (i303 : Int))] ?_
   obtain ⟨x318, hx319, hl300⟩ := bs hl300
   obtain ⟨g321, o322, c323, hv320⟩ := hst.rowv 1 rfl hx319
   refine OW.idx 165 2 rfl rfl rfl rfl hv320 rfl (idx_some hx319).1 (idx_some hx319).2.1 (by kernel_rfl) (by kernel_rfl) ?_
   refine OW.ldN (cs := enc_hooks_published x318) rfl rfl rfl rfl (by kernel_rfl) (by kernel_rfl) (hst.rowc 1 rfl (fun _ => rfl) hx319 hv320) ?_
   refine OW.alloc hst rfl rfl rfl [I 0, I 0] (by kernel_rfl) ?_
   intro b324 w325 hst
   refine pu 1 [(6, I (i303 : Int))] ?_
   refine OW.stB hst 3 rfl rfl rfl rfl rfl (by kernel_rfl) rfl rfl [I x318.version, I x318.prog] rfl ?_
   intro w326 hst
   refine nx (CW.seq ?_)
   obtain ⟨o332, ho333, hl300⟩ := bs hl300
   refine CW.cutK (fun a w1 => Rep 33 [(1, .slice a2 (p1).length c3), (5, .slice a306 (s301).length c307), (6, I (i303 : Int)), (11, .slice a8 (p0.hooks).length c9), (12, I ((p0.hooks).length : Int)), (13, I (i303 : Int)), (26, .bool o332)] a ∧ St w (fp [itI R_t53 [Pt b4] S0 p0]) w1 [rowI (.slice a306 (s301).length c307) 3 (encInt .i64) 1 s301, rowI (.slice a8 (p0.hooks).length c9) 165 enc_hooks_published 2 p0.hooks, blkI b4 69 [I p0.Versions.last, .slice a8 (p0.hooks).length c9]]) ?_ ?_
   ·refine CW.region ?_
    refine pu 1 [(18, Pt b324)] ?_
    refine OW.ld rfl rfl rfl rfl (by kernel_rfl) (hst.blk 3 rfl rfl) ?_
    refine pu 2 [(21, .bool (decide (x318.version > 0)))] ?_
    refine OW.split 21 rfl (fun hc334 => ?_) (fun hc334 => ?_)
    ·have ho333 := ite_t ho333 hc334
     refine pu 2 [(22, .slice a2 (p1).length c3), (23, .pointer (some ⟨b324, 1, none⟩))] ?_
     refine OW.ld rfl rfl rfl rfl (by kernel_rfl) (hst.blk 3 rfl rfl) ?_
     obtain ⟨r335, hr336, ho333⟩ := bs ho333
     refine OW.fn rfl rfl rfl rfl (by kernel_rfl) (slices_Contains_int_int_ok _ (.slice a2 (p1).length c3) p1 x318.prog r335 hr336 (hst.part [] rfl) (h1.give hst [])) ?_
     rintro e w337 ⟨rfl, hst338⟩
     refine ⟨_, rfl, ?_⟩
     have hst := hst.join (idx := []) (rest := [0, 1, 2, 3]) rfl hst338
     refine pu 1 [(26, .bool r335)] (OW.nil rfl ?_)
     obtain rfl := inj ho333
     exact QW.meet (fun a ha => ⟨ha.ag, hst.keep [0, 1, 2] rfl⟩)
    have ho333 := ite_f ho333 hc334
    refine pu 5 [(26, .bool false)] (OW.nil rfl ?_)
    obtain rfl := inj ho333
    exact QW.meet (fun a ha => ⟨ha.ag, hst.keep [0, 1, 2] rfl⟩)
   rintro a w1 ⟨ha, hst⟩
   refine CW.go ?_ ha
   refine br (o332) hl300 (fun hl300 hc339 => ?_) (fun hl300 hc339 => ?_)
   ·refine CW.region ?_
    refine pu 2 [(27, .slice a306 (s301).length c307), (28, I (i303 : Int))] ?_
    refine OW.row (α := Int) (e := 3) (enc := encInt .i64) (sz := 1) hst rfl rfl rfl [(i303 : Int)] rfl (fun _ => rfl) rfl rfl (fun _ => by kernel_rfl) ?_
    intro g349 w350 hst
    obtain ⟨u351, hr352, hl300⟩ := bs hl300
    refine OW.app hst 0 rfl (fun _ => rfl) (fun _ => rfl) rfl rfl rfl rfl rfl rfl (by kernel_rfl) el3 (hst.rd 3 rfl (fun _ => rfl) [] rfl (hst.len 3 rfl).1) (room_le hr352) ?_
    intro v353 w354 hst
    obtain ⟨l355, a356, c357, rfl⟩ := hst.len 0 rfl
    refine pu 1 [(5, .slice a356 ((s301 ++ [(i303 : Int)])).length c357)] (OW.nil rfl (QW.block_normal (QW.next (CW.region ?_))))
    refine pu 2 [(13, I (w64 ((i303 : Int) + 1)))] (OW.nil rfl ?_)
    refine QW.say 13 rfl (congrArg (Value.int .i64) (w64_cnt hc308 l7)) ?_
    exact QW.meet (fun a ha => ⟨n299, Nat.lt_succ_self _, i303 + 1, (s301 ++ [(i303 : Int)]), (.slice a356 ((s301 ++ [(i303 : Int)])).length c357), cnt_next hi304, ha.ag, hst.keep [0, 1, 2] rfl, hl300⟩)
   refine CW.skip (QW.block_normal (QW.next (CW.region ?_)))
   refine pu 2 [(13, I (w64 ((i303 : Int) + 1)))] (OW.nil rfl ?_)
   refine QW.say 13 rfl (congrArg (Value.int .i64) (w64_cnt hc308 l7)) ?_
   exact QW.meet (fun a ha => ⟨n299, Nat.lt_succ_self _, i303 + 1, s301, (.slice a306 (s301).length c307), cnt_next hi304, ha.ag, hst.keep [0, 1, 2] rfl, hl300⟩)
  rcases n299 with _ | n299
  ·refine CW.cond_f rfl hc308 ?_
   refine CW.exit (QW.then_exit (QW.then_exit ?_))
   refine QW.block_here ?_
   have hst := hst.toIt 1 rfl (fun _ => rfl) (by decide)
   obtain ⟨S360, hst⟩ := hst.shutP1 R_t69 rfl 2 1 [0] rfl rfl rfl p0 rfl rfl
   obtain rfl := inj hl300
   exact QW.meet (fun a ha => ⟨(.slice a306 (s301).length c307), S360, ha.ag, hst.keep [0, 1] rfl⟩)
  exact (cnt1 hi304 hc308).elim
 rintro a w1 ⟨v183, S184, ha, hst⟩
 refine CW.go ?_ ha
 obtain ⟨l362, a363, c364, rfl⟩ := hst.len 0 rfl
 refine rg ?_
 refine pu 2 [(4, .slice a363 (o185).length c364)] (nx (CW.ret ?_))
 obtain rfl := inj hF
 refine QW.ret1 rfl rfl ?_
 exact ⟨S184, (.slice a363 (o185).length c364), rfl, hst.keep [1, 0] rfl⟩
theorem epoch_Clock_Advance_ok (w : World) (v0 : Value) (S0 : List Nat) (p0 : epoch_Clock) (r : Int × epoch_Clock) (hF : epoch_Clock_Advance p0 = some r)
    (hst : St w (fp [itI R_t55 [v0] S0 p0]) w [itI R_t55 [v0] S0 p0]) :
    Calls Tryz.prog 44 [v0].toArray w (fun e w' => ∃ (s0 : List Nat), e = .returned (I r.1) ∧ St w (fp [itI R_t55 [v0] S0 p0]) w' [itI R_t55 [v0] s0 r.2]) := by
 refine CW.start (N := 14) Tryz.func44 rfl rfl rfl ?_
 obtain ⟨b1, rfl⟩ := hst.fptr 0 rfl
 refine rg ?_
 refine pu 1 [] (nx (CW.seq ?_))
 obtain ⟨v2, S3, hst⟩ := hst.openQ1 0 rfl rfl
 have hst := hst.toRow1 1 rfl
 obtain ⟨l4, a5, c6, rfl⟩ := hst.len 1 rfl
 have hst : St _ _ _ [blkI b1 106 [I p0.now, .slice a5 (p0.in_).length c6], _] := hst
 refine CW.region ?_
 refine pu 3 [(3, Pt b1), (5, Pt b1)] ?_
 refine OW.ld rfl rfl rfl rfl (by kernel_rfl) (hst.blk 0 rfl rfl) ?_
 refine pu 3 [(7, I (w64 (p0.now + 1))), (9, Pt b1)] ?_
 refine OW.stB hst 0 rfl rfl rfl rfl rfl (by kernel_rfl) rfl rfl [I (w64 (p0.now + 1)), .slice a5 (p0.in_).length c6] rfl ?_
 intro w8 hst
 refine nx (rg ?_)
 refine pu 3 [(12, Pt b1)] ?_
 refine OW.ld rfl rfl rfl rfl (by kernel_rfl) (hst.blk 0 rfl rfl) ?_
 refine pu 1 [(2, I (w64 (p0.now + 1)))] (nx (CW.ret ?_))
 have hst := hst.toIt 1 rfl (fun _ => rfl) (by decide)
 obtain ⟨S9, hst⟩ := hst.shutP1 R_t106 rfl 0 1 [] rfl rfl rfl (epoch_Clock.mk (w64 (p0.now + 1)) p0.in_) rfl rfl
 obtain rfl := inj hF
 refine QW.ret1 rfl rfl ?_
 exact ⟨S9, rfl, hst.keep [0] rfl⟩
theorem registry_Registry_Retire_ok (w : World) (v0 : Value) (S0 : List Nat) (p0 : registry_Registry) (p1 : Int) (r : Int × Int × registry_Registry) (hF : registry_Registry_Retire p0 p1 = some r)
    (hst : St w (fp [itI R_t24 [v0] S0 p0]) w [itI R_t24 [v0] S0 p0]) :
    Calls Tryz.prog 16 [v0, I p1].toArray w (fun e w' => ∃ (s0 : List Nat), e = .returned (.tuple #[I r.1, I r.2.1]) ∧ St w (fp [itI R_t24 [v0] S0 p0]) w' [itI R_t24 [v0] s0 r.2.2]) := by
 refine CW.start (N := 59) Tryz.func16 rfl rfl rfl ?_
 obtain ⟨b1, rfl⟩ := hst.fptr 0 rfl
 refine rg ?_
 refine pu 2 [] (nx (CW.seq ?_))
 obtain ⟨v2, S3, v4, S5, v6, S7, v8, S9, v10, S11, hst⟩ := hst.openQ5 0 rfl rfl rfl rfl rfl rfl
 obtain ⟨r12, rfl, hst⟩ := hst.toMN1 4 rfl
 have hst := hst.toRow1 5 rfl
 obtain ⟨b13, rfl⟩ := hst.fptr 1 rfl
 obtain ⟨b14, rfl⟩ := hst.fptr 2 rfl
 obtain ⟨b15, rfl⟩ := hst.fptr 3 rfl
 obtain ⟨l16, a17, c18, rfl⟩ := hst.len 5 rfl
 have hst : St _ _ _ [blkI b1 58 [Pt b13, Pt b14, Pt b15, I p0.hooks, I p0.maps, I p0.given, .map (some r12), .slice a17 (p0.waiting).length c18], _, _, _, _, _] := hst
 refine CW.region ?_
 refine pu 3 [(11, .pointer (some ⟨b1, 6, none⟩))] ?_
 refine OW.ld rfl rfl rfl rfl (by kernel_rfl) (hst.blk 0 rfl rfl) ?_
 refine pu 1 [(13, I p1)] ?_
 refine OW.mlook (tk := 3) (te := 95) (kd := .i64) (optP 97 R_t97) (fun o => o) hst 4 rfl rfl rfl rfl rfl rfl (by kernel_rfl) (by kernel_rfl) (.pointer none) (by kernel_rfl) (fun _ => ⟨rfl, rfl⟩) (fun _ _ _ _ h => h) (fun _ _ _ _ h => h) ?_
 intro v22 S23 S24 hst
 refine pu 5 [(6, v22), (7, .bool (mget p0.progs p1).isSome)] (nx (CW.seq (CW.block (rg ?_))))
 refine pu 3 [(17, .bool (!(mget p0.progs p1).isSome))] (nx ?_)
 refine br ((!(mget p0.progs p1).isSome)) hF (fun hF hc25 => ?_) (fun hF hc25 => ?_)
 ·refine rg ?_
  refine pu 2 [(4, I 0), (5, I 41)] (nx (CW.ret (QW.block_ret (QW.then_ret ?_))))
  obtain ⟨S26, hst⟩ := hst.mback0 (f := (fun o => o)) 4 6 rfl rfl rfl (fun _ _ _ _ h => h)
  have hst := hst.keep [0, 1, 2, 3, 4, 5] rfl
  have hst := hst.ofMN 4 rfl
  have hst := hst.toIt 5 rfl (fun _ => rfl) (by decide)
  obtain ⟨S27, hst⟩ := hst.shutP5 R_t58 rfl 0 1 2 3 4 5 [] rfl rfl rfl rfl rfl rfl rfl p0 rfl rfl
  obtain rfl := inj hF
  refine QW.ret2 rfl rfl rfl ?_
  exact ⟨S27, rfl, hst.keep [0] rfl⟩
 refine rg ?_
 refine pu 1 [(21, v22)] ?_
 obtain ⟨y41, hy42, hF⟩ := bs hF
 have hst := hst.optSome 6 rfl hy42
 obtain ⟨b43, rfl⟩ := hst.fptr 6 rfl
 obtain ⟨v44, S45, v46, S47, hst⟩ := hst.openQ2 6 rfl rfl rfl
 have hst := hst.toRow1 7 rfl
 have hst := hst.toRow1 8 rfl
 obtain ⟨l48, a49, c50, rfl⟩ := hst.len 7 rfl
 obtain ⟨l51, a52, c53, rfl⟩ := hst.len 8 rfl
 have hst : St _ _ _ [_, _, _, _, _, _, blkI b43 97 [.slice a49 (y41.module.Maps).length c50, .slice a52 (y41.module.Code).length c53, I y41.retiring], _, _] := hst
 refine pu 2 [(23, .pointer (some ⟨b43, 2, none⟩))] ?_
 refine OW.ld rfl rfl rfl rfl (by kernel_rfl) (hst.blk 6 rfl rfl) ?_
 refine pu 2 [(26, .bool (decide (y41.retiring > 0)))] ?_
 refine OW.split 26 rfl (fun hc54 => ?_) (fun hc54 => ?_)
 ·have hF := ite_t hF hc54
  refine pu 11 [(20, .bool true)] (nx (CW.cond_t rfl rfl (rg ?_)))
  refine pu 2 [(4, I 0), (5, I 42)] (nx (CW.ret (QW.block_ret (QW.then_ret ?_))))
  have hst := hst.toIt 7 rfl (fun _ => rfl) (by decide)
  have hst := hst.toIt 8 rfl (fun _ => rfl) (by decide)
  obtain ⟨S55, hst⟩ := hst.shutP2 R_t97 rfl 6 7 8 [0, 1, 2, 3, 4, 5] rfl rfl rfl rfl y41 rfl rfl
  have hst := hst.toOpt 6 rfl
  obtain ⟨S56, hst⟩ := hst.mback (f := (fun o => o)) 4 6 rfl rfl rfl (fun _ _ _ _ h => h) y41 (fun _ => rfl)
  rw [mset_self hy42] at hst
  have hst := hst.keep [0, 1, 2, 3, 4, 5] rfl
  have hst := hst.ofMN 4 rfl
  have hst := hst.toIt 5 rfl (fun _ => rfl) (by decide)
  obtain ⟨S57, hst⟩ := hst.shutP5 R_t58 rfl 0 1 2 3 4 5 [] rfl rfl rfl rfl rfl rfl rfl p0 rfl rfl
  obtain rfl := inj hF
  refine QW.ret2 rfl rfl rfl ?_
  exact ⟨S57, rfl, hst.keep [0] rfl⟩
 have hF := ite_f hF hc54
 refine pu 3 [(29, Pt b1)] ?_
 refine OW.ld rfl rfl rfl rfl (by kernel_rfl) (hst.blk 0 rfl rfl) ?_
 refine pu 1 [(31, I p1)] ?_
 refine OW.row (α := Int) (e := 3) (enc := encInt .i64) (sz := 1) hst rfl rfl rfl [p1] rfl (fun _ => rfl) rfl rfl (fun _ => by kernel_rfl) ?_
 intro g58 w59 hst
 obtain ⟨r60, hr61, hF⟩ := bs hF
 refine OW.fn rfl rfl rfl rfl (by kernel_rfl) (hooks_Table_Where_ok _ (Pt b13) S3 p0.Table (.slice (some ⟨g58, 0, none⟩) 1 1) ([p1]) r60 hr61 (hst.part [1] rfl) (hst.rd 9 rfl (fun _ => rfl) [1] rfl (hst.len 9 rfl).1)) ?_
 rintro e w62 ⟨S64, v65, rfl, hst63⟩
 refine ⟨_, rfl, ?_⟩
 have hst := hst.join (idx := [1]) (rest := [0, 2, 3, 4, 5, 6, 7, 8, 9]) rfl hst63
 obtain ⟨l66, a67, c68, rfl⟩ := hst.len 1 rfl
 refine pu 4 [(20, .bool (decide (((r60).length : Int) > 0)))] (nx ?_)
 refine br (decide (((r60).length : Int) > 0)) hF (fun hF hc69 => ?_) (fun hF hc69 => ?_)
 ·refine rg ?_
  refine pu 2 [(4, I 0), (5, I 42)] (nx (CW.ret (QW.block_ret (QW.then_ret ?_))))
  have hst := hst.toIt 8 rfl (fun _ => rfl) (by decide)
  have hst := hst.toIt 9 rfl (fun _ => rfl) (by decide)
  obtain ⟨S70, hst⟩ := hst.shutP2 R_t97 rfl 7 8 9 [0, 1, 2, 3, 4, 5, 6, 10] rfl rfl rfl rfl y41 rfl rfl
  have hst := hst.toOpt 8 rfl
  obtain ⟨S71, hst⟩ := hst.mback (f := (fun o => o)) 5 8 rfl rfl rfl (fun _ _ _ _ h => h) y41 (fun _ => rfl)
  rw [mset_self hy42] at hst
  have hst := hst.keep [0, 1, 2, 3, 4, 5, 6, 7] rfl
  have hst := hst.ofMN 5 rfl
  have hst := hst.toIt 6 rfl (fun _ => rfl) (by decide)
  obtain ⟨S72, hst⟩ := hst.shutP5 R_t58 rfl 2 0 3 4 5 6 [1, 7] rfl rfl rfl rfl rfl rfl rfl p0 rfl rfl
  obtain rfl := inj hF
  refine QW.ret2 rfl rfl rfl ?_
  exact ⟨S72, rfl, hst.keep [2] rfl⟩
 refine CW.skip (QW.block_normal (QW.next (rg ?_)))
 refine pu 4 [(37, Pt b43), (40, .pointer (some ⟨b1, 2, none⟩))] ?_
 refine OW.ld rfl rfl rfl rfl (by kernel_rfl) (hst.blk 2 rfl rfl) ?_
 obtain ⟨r79, hr80, hF⟩ := bs hF
 refine OW.fn rfl rfl rfl rfl (by kernel_rfl) (epoch_Clock_Advance_ok _ (Pt b15) S7 p0.Clock r79 hr80 (hst.part [4] rfl)) ?_
 rintro e w81 ⟨S83, rfl, hst82⟩
 refine ⟨_, rfl, ?_⟩
 have hst := hst.join (idx := [4]) (rest := [0, 1, 2, 3, 5, 6, 7, 8, 9, 10]) rfl hst82
 refine pu 2 [(44, .pointer (some ⟨b43, 2, none⟩))] ?_
 refine OW.stB hst 7 rfl rfl rfl rfl rfl (by kernel_rfl) rfl rfl [.slice a49 (y41.module.Maps).length c50, .slice a52 (y41.module.Code).length c53, I r79.1] rfl ?_
 intro w84 hst
 refine nx (rg ?_)
 refine pu 4 [(45, Pt b1), (48, .pointer (some ⟨b1, 7, none⟩))] ?_
 refine OW.ld rfl rfl rfl rfl (by kernel_rfl) (hst.blk 3 rfl rfl) ?_
 refine pu 1 [(50, I p1)] ?_
 refine OW.row (α := Int) (e := 3) (enc := encInt .i64) (sz := 1) hst rfl rfl rfl [p1] rfl (fun _ => rfl) rfl rfl (fun _ => by kernel_rfl) ?_
 intro g95 w96 hst
 obtain ⟨u97, hr98, hF⟩ := bs hF
 refine OW.app hst 6 rfl (fun _ => rfl) (fun _ => rfl) rfl rfl rfl rfl rfl rfl (by kernel_rfl) el3 (hst.rd 11 rfl (fun _ => rfl) [] rfl (hst.len 11 rfl).1) (room_le hr98) ?_
 intro v99 w100 hst
 obtain ⟨l101, a102, c103, rfl⟩ := hst.len 6 rfl
 refine pu 2 [(54, .pointer (some ⟨b1, 7, none⟩))] ?_
 refine OW.stB hst 3 rfl rfl rfl rfl rfl (by kernel_rfl) rfl rfl [Pt b13, Pt b14, Pt b15, I p0.hooks, I p0.maps, I p0.given, .map (some r12), .slice a102 ((p0.waiting ++ [p1])).length c103] rfl ?_
 intro w104 hst
 refine nx (rg ?_)
 refine pu 3 [(57, .pointer (some ⟨b43, 2, none⟩))] ?_
 refine OW.ld rfl rfl rfl rfl (by kernel_rfl) (hst.blk 7 rfl rfl) ?_
 refine pu 2 [(4, I r79.1), (5, I 0)] (nx (CW.ret ?_))
 have hst := hst.toIt 8 rfl (fun _ => rfl) (by decide)
 have hst := hst.toIt 9 rfl (fun _ => rfl) (by decide)
 obtain ⟨S105, hst⟩ := hst.shutP2 R_t97 rfl 7 8 9 [0, 1, 2, 3, 4, 5, 6, 10, 11] rfl rfl rfl rfl (registry_program.mk y41.module r79.1) rfl rfl
 have hst := hst.toOpt 9 rfl
 obtain ⟨S106, hst⟩ := hst.mback (f := (fun o => o)) 5 9 rfl rfl rfl (fun _ _ _ _ h => h) (registry_program.mk y41.module r79.1) (fun _ => rfl)
 have hst := hst.keep [0, 1, 2, 3, 4, 5, 6, 7, 8] rfl
 have hst := hst.ofMN 5 rfl
 have hst := hst.toIt 6 rfl (fun _ => rfl) (by decide)
 obtain ⟨S107, hst⟩ := hst.shutP5 R_t58 rfl 3 1 4 0 5 6 [2, 7, 8] rfl rfl rfl rfl rfl rfl rfl (registry_Registry.mk p0.Table p0.Refs r79.2 p0.hooks p0.maps p0.given (mset p0.progs p1 (registry_program.mk y41.module r79.1)) (p0.waiting ++ [p1])) rfl rfl
 obtain rfl := inj hF
 refine QW.ret2 rfl rfl rfl ?_
 exact ⟨S107, rfl, hst.keep [3] rfl⟩
theorem epoch_Clock_known_ok (w : World) (v0 : Value) (S0 : List Nat) (p0 : epoch_Clock) (p1 : Int) (r : Bool) (hF : epoch_Clock_known p0 p1 = some r)
    (hst : St w (fp [itI R_t55 [v0] S0 p0]) w [itI R_t55 [v0] S0 p0]) :
    Calls Tryz.prog 45 [v0, I p1].toArray w (fun e w' => ∃ (s0 : List Nat), e = .returned (.bool r) ∧ St w (fp [itI R_t55 [v0] S0 p0]) w' [itI R_t55 [v0] s0 p0]) := by
 refine CW.start (N := 16) Tryz.func45 rfl rfl rfl ?_
 obtain ⟨b1, rfl⟩ := hst.fptr 0 rfl
 refine rg ?_
 refine pu 1 [] (nx (CW.seq ?_))
 obtain ⟨v2, S3, hst⟩ := hst.openQ1 0 rfl rfl
 have hst := hst.toRow1 1 rfl
 obtain ⟨l4, a5, c6, rfl⟩ := hst.len 1 rfl
 have hst : St _ _ _ [blkI b1 106 [I p0.now, .slice a5 (p0.in_).length c6], _] := hst
 refine CW.cutK (fun a w1 => Rep 16 [(4, .bool (decide (p1 ≥ 0) && decide (p1 < ((p0.in_).length : Int))))] a ∧ St w (fp [itI R_t55 [Pt b1] S0 p0]) w1 [blkI b1 106 [I p0.now, .slice a5 (p0.in_).length c6], rowI (.slice a5 (p0.in_).length c6) 3 (encInt .i64) 1 p0.in_]) ?_ ?_
 ·refine CW.region ?_
  refine pu 3 [(7, .bool (decide (p1 ≥ 0)))] ?_
  refine OW.split 7 rfl (fun hc7 => ?_) (fun hc7 => ?_)
  ·refine pu 4 [(8, I p1), (11, .pointer (some ⟨b1, 1, none⟩))] ?_
   refine OW.ld rfl rfl rfl rfl (by kernel_rfl) (hst.blk 0 rfl rfl) ?_
   refine pu 4 [(4, .bool (decide (p1 < ((p0.in_).length : Int))))] (OW.nil rfl ?_)
   refine QW.say 4 (v := .bool (decide (p1 ≥ 0) && decide (p1 < ((p0.in_).length : Int)))) rfl (by first | (rw [hc7]; done) | (rw [hc7]; rfl) | simp [hc7]) ?_
   exact QW.meet (fun a ha => ⟨ha.ag, hst.keep [0, 1] rfl⟩)
  refine pu 9 [(4, .bool false)] (OW.nil rfl ?_)
  refine QW.say 4 (v := .bool (decide (p1 ≥ 0) && decide (p1 < ((p0.in_).length : Int)))) rfl (by first | (rw [hc7]; done) | (rw [hc7]; rfl) | simp [hc7]) ?_
  exact QW.meet (fun a ha => ⟨ha.ag, hst.keep [0, 1] rfl⟩)
 rintro a w1 ⟨ha, hst⟩
 refine CW.go ?_ ha
 refine CW.ret ?_
 have hst := hst.toIt 1 rfl (fun _ => rfl) (by decide)
 obtain ⟨S8, hst⟩ := hst.shutP1 R_t106 rfl 0 1 [] rfl rfl rfl p0 rfl rfl
 obtain rfl := inj hF
 refine QW.ret1 rfl rfl ?_
 exact ⟨S8, rfl, hst.keep [0] rfl⟩
theorem epoch_Clock_In_ok (w : World) (v0 : Value) (S0 : List Nat) (p0 : epoch_Clock) (p1 : Int) (r : Int × Bool) (hF : epoch_Clock_In p0 p1 = some r)
    (hst : St w (fp [itI R_t55 [v0] S0 p0]) w [itI R_t55 [v0] S0 p0]) :
    Calls Tryz.prog 17 [v0, I p1].toArray w (fun e w' => ∃ (s0 : List Nat), e = .returned (.tuple #[I r.1, .bool r.2]) ∧ St w (fp [itI R_t55 [v0] S0 p0]) w' [itI R_t55 [v0] s0 p0]) := by
 refine CW.start (N := 25) Tryz.func17 rfl rfl rfl ?_
 obtain ⟨b1, rfl⟩ := hst.fptr 0 rfl
 refine rg ?_
 refine pu 2 [] (nx (CW.seq (rg ?_)))
 refine pu 2 [(6, Pt b1), (7, I p1)] ?_
 obtain ⟨r7, hr8, hF⟩ := bs hF
 refine OW.fn rfl rfl rfl rfl (by kernel_rfl) (epoch_Clock_known_ok _ (Pt b1) S0 p0 p1 r7 hr8 (hst.part [0] rfl)) ?_
 rintro e w9 ⟨S11, rfl, hst10⟩
 refine ⟨_, rfl, ?_⟩
 have hst := hst.join (idx := [0]) (rest := []) rfl hst10
 refine pu 1 [(9, .bool (!r7))] (nx ?_)
 refine br ((!r7)) hF (fun hF hc12 => ?_) (fun hF hc12 => ?_)
 ·refine rg ?_
  refine pu 2 [(4, I 0), (5, .bool false)] (nx (CW.ret (QW.then_ret ?_)))
  obtain rfl := inj hF
  refine QW.ret2 rfl rfl rfl ?_
  exact ⟨S11, rfl, hst.keep [0] rfl⟩
 refine CW.skip (QW.next (CW.seq ?_))
 obtain ⟨v13, S14, hst⟩ := hst.openQ1 0 rfl rfl
 have hst := hst.toRow1 1 rfl
 obtain ⟨l15, a16, c17, rfl⟩ := hst.len 1 rfl
 have hst : St _ _ _ [blkI b1 106 [I p0.now, .slice a16 (p0.in_).length c17], _] := hst
 refine CW.still (by kernel_rfl) (by kernel_rfl) ?_
 intro w30 hch31
 have hst := hst.same hch31
 refine OS.pure 3 [(12, .pointer (some ⟨b1, 1, none⟩))] rfl (by kernel_rfl) ?_
 refine OS.ld rfl rfl rfl rfl rfl (by kernel_rfl) (hst.blk 0 rfl rfl) ?_
 refine OS.pure 1 [(14, I p1)] rfl (by kernel_rfl) ?_
 obtain ⟨x32, hx33, hF⟩ := bs hF
 obtain ⟨g35, o36, c37, hv34⟩ := hst.rowv 1 rfl hx33
 refine OS.idx 3 1 rfl rfl rfl rfl rfl hv34 rfl (idx_some hx33).1 (idx_some hx33).2.1 (by kernel_rfl) (by kernel_rfl) ?_
 refine OS.ld rfl rfl rfl rfl rfl (by kernel_rfl) (hst.rowc 1 rfl (fun _ => rfl) hx33 hv34 0 _ rfl) ?_
 refine OS.pure 3 [(19, .pointer (some ⟨b1, 1, none⟩))] rfl (by kernel_rfl) ?_
 refine OS.ld rfl rfl rfl rfl rfl (by kernel_rfl) (hst.blk 0 rfl rfl) ?_
 refine OS.pure 1 [(21, I p1)] rfl (by kernel_rfl) ?_
 obtain ⟨g39, o40, c41, hv38⟩ := hst.rowv 1 rfl hx33
 refine OS.idx 3 1 rfl rfl rfl rfl rfl hv38 rfl (idx_some hx33).1 (idx_some hx33).2.1 (by kernel_rfl) (by kernel_rfl) ?_
 refine OS.ld rfl rfl rfl rfl rfl (by kernel_rfl) (hst.rowc 1 rfl (fun _ => rfl) hx33 hv38 0 _ rfl) ?_
 refine OS.pure 3 [(4, I x32), (5, .bool (x32 != 0))] rfl (by kernel_rfl) ?_
 refine OS.fin rfl (QW.next (CW.ret ?_))
 have hst := hst.toIt 1 rfl (fun _ => rfl) (by decide)
 obtain ⟨S42, hst⟩ := hst.shutP1 R_t106 rfl 0 1 [] rfl rfl rfl p0 rfl rfl
 obtain rfl := inj hF
 refine QW.ret2 rfl rfl rfl ?_
 exact ⟨S42, rfl, hst.keep [0] rfl⟩
theorem epoch_Clock_Safe_ok (w : World) (v0 : Value) (S0 : List Nat) (p0 : epoch_Clock) (p1 : Int) (r : Bool) (hF : epoch_Clock_Safe p0 p1 = some r)
    (hst : St w (fp [itI R_t55 [v0] S0 p0]) w [itI R_t55 [v0] S0 p0]) :
    Calls Tryz.prog 46 [v0, I p1].toArray w (fun e w' => ∃ (s0 : List Nat), e = .returned (.bool r) ∧ St w (fp [itI R_t55 [v0] S0 p0]) w' [itI R_t55 [v0] s0 p0]) := by
 refine CW.start (N := 24) Tryz.func46 rfl rfl rfl ?_
 obtain ⟨b1, rfl⟩ := hst.fptr 0 rfl
 refine rg ?_
 refine pu 1 [] (nx (CW.seq (CW.seq ?_)))
 obtain ⟨v2, S3, hst⟩ := hst.openQ1 0 rfl rfl
 have hst := hst.toRow1 1 rfl
 obtain ⟨l4, a5, c6, rfl⟩ := hst.len 1 rfl
 have hst : St _ _ _ [blkI b1 106 [I p0.now, .slice a5 (p0.in_).length c6], _] := hst
 refine CW.region ?_
 refine pu 3 [(9, .pointer (some ⟨b1, 1, none⟩))] ?_
 refine OW.ld rfl rfl rfl rfl (by kernel_rfl) (hst.blk 0 rfl rfl) ?_
 refine pu 2 [(11, I ((p0.in_).length : Int)), (12, I 0)] (nx ?_)
 obtain ⟨o65, ho66, hF⟩ := bs hF
 refine CW.cutK (fun a w1 => ∃ (t67 : Unit) (S64 : List Nat), o65 = .inl t67 ∧ Rep 24 [] a ∧ St w (fp [itI R_t55 [Pt b1] S0 p0]) w1 [itI R_t55 [Pt b1] S64 p0]) ?_ ?_
 ·refine CW.block ?_
  refine CW.loop (fun n a w1 => ∃ (i106 : Nat) (s105 : Unit), i106 + n = (p0.in_).length ∧ Rep 24 [(1, I p1), (10, .slice a5 (p0.in_).length c6), (11, I ((p0.in_).length : Int)), (12, I (i106 : Int))] a ∧ St w (fp [itI R_t55 [Pt b1] S0 p0]) w1 [rowI (.slice a5 (p0.in_).length c6) 3 (encInt .i64) 1 p0.in_, blkI b1 106 [I p0.now, .slice a5 (p0.in_).length c6]] ∧ forN (epoch_Clock_Safe_l1 p0 p1) (fun (s105 : Unit) => (.inl ())) n i106 s105 = some o65) (p0.in_).length (fun a ha => ⟨0, (), Nat.zero_add _, ha.ag, hst.keep [1, 0] rfl, ho66⟩) ?_
  rintro n103 a w1 ⟨i106, s105, hi107, ha, hst, hl104⟩
  refine CW.go ?_ ha
  refine rg ?_
  refine pu 1 [(13, .bool (decide ((i106 : Int) < ((p0.in_).length : Int))))] (nx (CW.seq ?_))
  rcases bft (decide ((i106 : Int) < ((p0.in_).length : Int))) with hc108 | hc108
  ·rcases n103 with _ | n103
   ·exact (cnt0 hi107 hc108).elim
   refine CW.cond_t rfl hc108 (CW.skip (QW.next (CW.seq (CW.block (rg ?_)))))
   obtain ⟨x115, hx116, hl104⟩ := bs hl104
   obtain ⟨g118, o119, c120, hv117⟩ := hst.rowv 0 rfl hx116
   refine OW.idx 3 1 rfl rfl rfl rfl hv117 rfl (idx_some hx116).1 (idx_some hx116).2.1 (by kernel_rfl) (by kernel_rfl) ?_
   refine OW.ld rfl rfl rfl rfl (by kernel_rfl) (hst.rowc 0 rfl (fun _ => rfl) hx116 hv117 0 _ rfl) ?_
   refine pu 1 [(6, I x115)] (nx (CW.seq ?_))
   refine CW.cutK (fun a w1 => Rep 24 [(1, I p1), (10, .slice a5 (p0.in_).length c6), (11, I ((p0.in_).length : Int)), (12, I (i106 : Int)), (22, .bool ((x115 != 0) && decide (x115 < p1)))] a ∧ St w (fp [itI R_t55 [Pt b1] S0 p0]) w1 [rowI (.slice a5 (p0.in_).length c6) 3 (encInt .i64) 1 p0.in_, blkI b1 106 [I p0.now, .slice a5 (p0.in_).length c6]]) ?_ ?_
   ·refine CW.region ?_
    refine pu 3 [(18, .bool (x115 != 0))] ?_
    refine OW.split 18 rfl (fun hc121 => ?_) (fun hc121 => ?_)
    ·refine pu 4 [(22, .bool (decide (x115 < p1)))] (OW.nil rfl ?_)
     refine QW.say 22 (v := .bool ((x115 != 0) && decide (x115 < p1))) rfl (by first | (rw [hc121]; done) | (rw [hc121]; rfl) | simp [hc121]) ?_
     exact QW.meet (fun a ha => ⟨ha.ag, hst.keep [0, 1] rfl⟩)
    refine pu 4 [(22, .bool false)] (OW.nil rfl ?_)
    refine QW.say 22 (v := .bool ((x115 != 0) && decide (x115 < p1))) rfl (by first | (rw [hc121]; done) | (rw [hc121]; rfl) | simp [hc121]) ?_
    exact QW.meet (fun a ha => ⟨ha.ag, hst.keep [0, 1] rfl⟩)
   rintro a w1 ⟨ha, hst⟩
   refine CW.go ?_ ha
   refine br (((x115 != 0) && decide (x115 < p1))) hl104 (fun hl104 hc122 => ?_) (fun hl104 hc122 => ?_)
   ·refine rg ?_
    refine pu 1 [(4, .bool false)] (nx (CW.ret (QW.block_ret (QW.then_ret (QW.then_ret (QW.block_ret (QW.then_ret ?_)))))))
    have hst := hst.toIt 0 rfl (fun _ => rfl) (by decide)
    obtain ⟨S123, hst⟩ := hst.shutP1 R_t106 rfl 1 0 [] rfl rfl rfl p0 rfl rfl
    obtain rfl := inj hl104
    obtain rfl := inj hF
    refine QW.ret1 rfl rfl ?_
    exact ⟨S123, rfl, hst.keep [0] rfl⟩
   refine CW.skip (QW.block_normal (QW.next (CW.region ?_)))
   refine pu 2 [(12, I (w64 ((i106 : Int) + 1)))] (OW.nil rfl ?_)
   refine QW.say 12 rfl (congrArg (Value.int .i64) (w64_cnt hc108 l4)) ?_
   exact QW.meet (fun a ha => ⟨n103, Nat.lt_succ_self _, i106 + 1, (), cnt_next hi107, ha.ag, hst.keep [0, 1] rfl, hl104⟩)
  rcases n103 with _ | n103
  ·refine CW.cond_f rfl hc108 ?_
   refine CW.exit (QW.then_exit (QW.then_exit ?_))
   refine QW.block_here ?_
   have hst := hst.toIt 0 rfl (fun _ => rfl) (by decide)
   obtain ⟨S124, hst⟩ := hst.shutP1 R_t106 rfl 1 0 [] rfl rfl rfl p0 rfl rfl
   obtain rfl := inj hl104
   exact QW.meet (fun a ha => ⟨(), S124, rfl, ha.ag, hst.keep [0] rfl⟩)
  exact (cnt1 hi107 hc108).elim
 rintro a w1 ⟨t67, S64, rfl, ha, hst⟩
 refine CW.go ?_ ha
 refine rg ?_
 refine pu 1 [(4, .bool true)] (nx (CW.ret ?_))
 obtain rfl := inj hF
 refine QW.ret1 rfl rfl ?_
 exact ⟨S64, rfl, hst.keep [0] rfl⟩
theorem refs_Refs_Drop_ok (w : World) (v0 : Value) (S0 : List Nat) (p0 : refs_Refs) (v1 : Value) (p1 : List Int) (r : Int × refs_Refs) (hF : refs_Refs_Drop p0 p1 = some r)
    (hst : St w (fp [itI R_t54 [v0] S0 p0]) w [itI R_t54 [v0] S0 p0]) (h1 : Rd w (fp [itI R_t54 [v0] S0 p0]) v1 (encInt .i64) 1 p1) :
    Calls Tryz.prog 47 [v0, v1].toArray w (fun e w' => ∃ (s0 : List Nat), e = .returned (I r.1) ∧ St w (fp [itI R_t54 [v0] S0 p0]) w' [itI R_t54 [v0] s0 r.2]) := by
 refine CW.start (N := 56) Tryz.func47 rfl rfl rfl ?_
 obtain ⟨l1, a2, c3, rfl⟩ := h1.len
 obtain ⟨b4, rfl⟩ := hst.fptr 0 rfl
 refine rg ?_
 refine pu 1 [] (nx (CW.seq (rg ?_)))
 refine pu 3 [(13, .slice a2 (p1).length c3), (14, I ((p1).length : Int)), (15, I 0)] (nx ?_)
 obtain ⟨o95, ho96, hF⟩ := bs hF
 refine CW.cutK (fun a w1 => ∃ (t97 : Unit), o95 = .inl t97 ∧ Rep 56 [(0, Pt b4), (1, .slice a2 (p1).length c3)] a ∧ St w (fp [itI R_t54 [Pt b4] S0 p0]) w1 [itI R_t54 [Pt b4] S0 p0]) ?_ ?_
 ·refine CW.block ?_
  refine CW.loop (fun n a w1 => ∃ (i158 : Nat) (s157 : Unit), i158 + n = (p1).length ∧ Rep 56 [(0, Pt b4), (1, .slice a2 (p1).length c3), (13, .slice a2 (p1).length c3), (14, I ((p1).length : Int)), (15, I (i158 : Int))] a ∧ St w (fp [itI R_t54 [Pt b4] S0 p0]) w1 [itI R_t54 [Pt b4] S0 p0] ∧ forN (refs_Refs_Drop_l1 p0 p1) (fun (s157 : Unit) => (.inl ())) n i158 s157 = some o95) (p1).length (fun a ha => ⟨0, (), Nat.zero_add _, ha.ag, hst.keep [0] rfl, ho96⟩) ?_
  rintro n155 a w1 ⟨i158, s157, hi159, ha, hst, hl156⟩
  refine CW.go ?_ ha
  refine rg ?_
  refine pu 1 [(16, .bool (decide ((i158 : Int) < ((p1).length : Int))))] (nx (CW.seq ?_))
  rcases bft (decide ((i158 : Int) < ((p1).length : Int))) with hc160 | hc160
  ·rcases n155 with _ | n155
   ·exact (cnt0 hi159 hc160).elim
   refine CW.cond_t rfl hc160 (CW.skip (QW.next (CW.seq (CW.block (rg ?_)))))
   refine pu 1 [(17, I (i158 : Int))] ?_
   obtain ⟨x167, hx168, hl156⟩ := bs hl156
   obtain ⟨g170, o171, c172, hv169⟩ := h1.formv (fun _ => ⟨_, rfl⟩) hx168
   refine OW.idx 3 1 rfl rfl rfl rfl hv169 rfl (idx_some hx168).1 (idx_some hx168).2.1 (by kernel_rfl) (by kernel_rfl) ?_
   refine OW.ld rfl rfl rfl rfl (by kernel_rfl) (h1.cellv hst hx168 hv169 0 _ rfl) ?_
   refine pu 2 [(5, I (i158 : Int)), (6, I x167)] (nx (rg ?_))
   refine pu 2 [(20, .slice a2 (p1).length c3), (21, I (i158 : Int))] ?_
   obtain ⟨ys180, hcut181, hl156⟩ := bs hl156
   refine OW.op (v := .slice a2 (ys180).length c3) rfl rfl rfl rfl (fun a ha => pre_run (e := 3) 1 rfl rfl rfl hcut181 h1.cap (by kernel_rfl) (by kernel_rfl) a _ ha) ?_
   have hp182 := h1.pre hcut181
   refine pu 1 [(23, I x167)] ?_
   obtain ⟨r183, hr184, hl156⟩ := bs hl156
   refine OW.fn rfl rfl rfl rfl (by kernel_rfl) (slices_Contains_int_int_ok _ (.slice a2 (ys180).length c3) ys180 x167 r183 hr184 (hst.part [] rfl) (hp182.give hst [])) ?_
   rintro e w185 ⟨rfl, hst186⟩
   refine ⟨_, rfl, ?_⟩
   have hst := hst.join (idx := []) (rest := [0]) rfl hst186
   refine nx ?_
   refine br (r183) hl156 (fun hl156 hc187 => ?_) (fun hl156 hc187 => ?_)
   ·refine rg ?_
    refine pu 1 [(4, I 2)] (nx (CW.ret (QW.block_ret (QW.then_ret (QW.then_ret (QW.block_ret (QW.then_ret ?_)))))))
    obtain rfl := inj hl156
    obtain rfl := inj hF
    refine QW.ret1 rfl rfl ?_
    exact ⟨S0, rfl, hst.keep [0] rfl⟩
   refine CW.skip (QW.block_normal (QW.next (CW.region ?_)))
   refine pu 2 [(15, I (w64 ((i158 : Int) + 1)))] (OW.nil rfl ?_)
   refine QW.say 15 rfl (congrArg (Value.int .i64) (w64_cnt hc160 l1)) ?_
   exact QW.meet (fun a ha => ⟨n155, Nat.lt_succ_self _, i158 + 1, (), cnt_next hi159, ha.ag, hst.keep [0] rfl, hl156⟩)
  rcases n155 with _ | n155
  ·refine CW.cond_f rfl hc160 ?_
   refine CW.exit (QW.then_exit (QW.then_exit ?_))
   refine QW.block_here ?_
   obtain rfl := inj hl156
   exact QW.meet (fun a ha => ⟨(), rfl, ha.ag, hst.keep [0] rfl⟩)
  exact (cnt1 hi159 hc160).elim
 rintro a w1 ⟨t97, rfl, ha, hst⟩
 refine CW.go ?_ ha
 refine CW.seq (rg ?_)
 refine pu 3 [(26, .slice a2 (p1).length c3), (27, I ((p1).length : Int)), (28, I 0)] (nx ?_)
 obtain ⟨o297, ho298, hF⟩ := bs hF
 refine CW.cutK (fun a w1 => ∃ (t299 : Unit) (S296 : List Nat), o297 = .inl t299 ∧ Rep 56 [(0, Pt b4), (1, .slice a2 (p1).length c3)] a ∧ St w (fp [itI R_t54 [Pt b4] S0 p0]) w1 [itI R_t54 [Pt b4] S296 p0]) ?_ ?_
 ·refine CW.block ?_
  refine CW.loop (fun n a w1 => ∃ (i373 : Nat) (s371 : Unit) (S372 : List Nat), i373 + n = (p1).length ∧ Rep 56 [(0, Pt b4), (1, .slice a2 (p1).length c3), (26, .slice a2 (p1).length c3), (27, I ((p1).length : Int)), (28, I (i373 : Int))] a ∧ St w (fp [itI R_t54 [Pt b4] S0 p0]) w1 [itI R_t54 [Pt b4] S372 p0] ∧ forN (refs_Refs_Drop_l2 p0 p1) (fun (s371 : Unit) => (.inl ())) n i373 s371 = some o297) (p1).length (fun a ha => ⟨0, (), S0, Nat.zero_add _, ha.ag, hst.keep [0] rfl, ho298⟩) ?_
  rintro n369 a w1 ⟨i373, s371, S372, hi374, ha, hst, hl370⟩
  refine CW.go ?_ ha
  refine rg ?_
  refine pu 1 [(29, .bool (decide ((i373 : Int) < ((p1).length : Int))))] (nx (CW.seq ?_))
  rcases bft (decide ((i373 : Int) < ((p1).length : Int))) with hc375 | hc375
  ·rcases n369 with _ | n369
   ·exact (cnt0 hi374 hc375).elim
   refine CW.cond_t rfl hc375 (CW.skip (QW.next (CW.seq (CW.block (rg ?_)))))
   obtain ⟨x382, hx383, hl370⟩ := bs hl370
   obtain ⟨g385, o386, c387, hv384⟩ := h1.formv (fun _ => ⟨_, rfl⟩) hx383
   refine OW.idx 3 1 rfl rfl rfl rfl hv384 rfl (idx_some hx383).1 (idx_some hx383).2.1 (by kernel_rfl) (by kernel_rfl) ?_
   refine OW.ld rfl rfl rfl rfl (by kernel_rfl) (h1.cellv hst hx383 hv384 0 _ rfl) ?_
   refine pu 1 [(8, I x382)] (nx (CW.seq ?_))
   obtain ⟨v388, S389, hst⟩ := hst.openQ1 0 rfl rfl
   obtain ⟨r390, rfl, hst⟩ := hst.toMN1 1 rfl
   have hst : St _ _ _ [blkI b4 112 [I p0.maps, .map (some r390)], _] := hst
   refine CW.region ?_
   refine pu 3 [(35, .pointer (some ⟨b4, 1, none⟩))] ?_
   refine OW.ld rfl rfl rfl rfl (by kernel_rfl) (hst.blk 0 rfl rfl) ?_
   refine pu 1 [(37, I x382)] ?_
   refine OW.mlook (tk := 3) (te := 28) (kd := .i64) R_t28 (fun o => o.getD []) hst 1 rfl rfl rfl rfl rfl rfl (by kernel_rfl) (by kernel_rfl) (.slice none 0 0) (by kernel_rfl) (fun w => ⟨_, rfl, rfl, Owns.nil w _ _ none⟩) (fun _ _ _ _ h => h) (fun _ _ _ _ h => h) ?_
   intro v397 S398 S399 hst
   have hst := hst.toRow1 2 rfl
   obtain ⟨l400, a401, c402, rfl⟩ := hst.len 2 rfl
   refine pu 5 [(10, .bool (mget p0.held x382).isSome)] (nx (rg ?_))
   refine pu 2 [(42, .bool (!(mget p0.held x382).isSome))] (nx ?_)
   refine br ((!(mget p0.held x382).isSome)) hl370 (fun hl370 hc403 => ?_) (fun hl370 hc403 => ?_)
   ·refine rg ?_
    refine pu 1 [(4, I 41)] (nx (CW.ret (QW.block_ret (QW.then_ret (QW.then_ret (QW.block_ret (QW.then_ret ?_)))))))
    have hst := hst.toIt 2 rfl (fun _ => rfl) (by decide)
    obtain ⟨S404, hst⟩ := hst.mback0 (f := (fun o => o.getD [])) 1 2 rfl rfl rfl (fun _ _ _ _ h => h)
    have hst := hst.keep [0, 1] rfl
    have hst := hst.ofMN 1 rfl
    obtain ⟨S405, hst⟩ := hst.shutP1 R_t112 rfl 0 1 [] rfl rfl rfl p0 rfl rfl
    obtain rfl := inj hl370
    obtain rfl := inj hF
    refine QW.ret1 rfl rfl ?_
    exact ⟨S405, rfl, hst.keep [0] rfl⟩
   refine CW.skip (QW.block_normal (QW.next (CW.region ?_)))
   refine pu 2 [(28, I (w64 ((i373 : Int) + 1)))] (OW.nil rfl ?_)
   have hst := hst.toIt 2 rfl (fun _ => rfl) (by decide)
   obtain ⟨S406, hst⟩ := hst.mback0 (f := (fun o => o.getD [])) 1 2 rfl rfl rfl (fun _ _ _ _ h => h)
   have hst := hst.keep [0, 1] rfl
   have hst := hst.ofMN 1 rfl
   obtain ⟨S407, hst⟩ := hst.shutP1 R_t112 rfl 0 1 [] rfl rfl rfl p0 rfl rfl
   refine QW.say 28 rfl (congrArg (Value.int .i64) (w64_cnt hc375 l1)) ?_
   exact QW.meet (fun a ha => ⟨n369, Nat.lt_succ_self _, i373 + 1, (), S407, cnt_next hi374, ha.ag, hst.keep [0] rfl, hl370⟩)
  rcases n369 with _ | n369
  ·refine CW.cond_f rfl hc375 ?_
   refine CW.exit (QW.then_exit (QW.then_exit ?_))
   refine QW.block_here ?_
   obtain rfl := inj hl370
   exact QW.meet (fun a ha => ⟨(), S372, rfl, ha.ag, hst.keep [0] rfl⟩)
  exact (cnt1 hi374 hc375).elim
 rintro a w1 ⟨t299, S296, rfl, ha, hst⟩
 refine CW.go ?_ ha
 refine CW.seq (rg ?_)
 refine pu 3 [(44, .slice a2 (p1).length c3), (45, I ((p1).length : Int)), (46, I 0)] (nx ?_)
 obtain ⟨o481, ho482, hF⟩ := bs hF
 refine CW.cutK (fun a w1 => ∃ (S480 : List Nat), Rep 56 [] a ∧ St w (fp [itI R_t54 [Pt b4] S0 p0]) w1 [itI R_t54 [Pt b4] S480 o481]) ?_ ?_
 ·refine CW.block ?_
  refine CW.loop (fun n a w1 => ∃ (i532 : Nat) (s530 : refs_Refs) (S531 : List Nat), i532 + n = (p1).length ∧ Rep 56 [(0, Pt b4), (44, .slice a2 (p1).length c3), (45, I ((p1).length : Int)), (46, I (i532 : Int))] a ∧ St w (fp [itI R_t54 [Pt b4] S0 p0]) w1 [itI R_t54 [Pt b4] S531 s530] ∧ forN (refs_Refs_Drop_l3 p1) (fun (s530 : refs_Refs) => s530) n i532 s530 = some o481) (p1).length (fun a ha => ⟨0, p0, S296, Nat.zero_add _, ha.ag, hst.keep [0] rfl, ho482⟩) ?_
  rintro n528 a w1 ⟨i532, s530, S531, hi533, ha, hst, hl529⟩
  refine CW.go ?_ ha
  refine rg ?_
  refine pu 1 [(47, .bool (decide ((i532 : Int) < ((p1).length : Int))))] (nx (CW.seq ?_))
  rcases bft (decide ((i532 : Int) < ((p1).length : Int))) with hc534 | hc534
  ·rcases n528 with _ | n528
   ·exact (cnt0 hi533 hc534).elim
   refine CW.cond_t rfl hc534 (CW.skip (QW.next (CW.seq (CW.block (rg ?_)))))
   obtain ⟨x541, hx542, hl529⟩ := bs hl529
   obtain ⟨g544, o545, c546, hv543⟩ := h1.formv (fun _ => ⟨_, rfl⟩) hx542
   refine OW.idx 3 1 rfl rfl rfl rfl hv543 rfl (idx_some hx542).1 (idx_some hx542).2.1 (by kernel_rfl) (by kernel_rfl) ?_
   refine OW.ld rfl rfl rfl rfl (by kernel_rfl) (h1.cellv hst hx542 hv543 0 _ rfl) ?_
   refine pu 1 [(12, I x541)] (nx ?_)
   obtain ⟨v547, S548, hst⟩ := hst.openQ1 0 rfl rfl
   obtain ⟨r549, rfl, hst⟩ := hst.toMN1 1 rfl
   have hst : St _ _ _ [blkI b4 112 [I s530.maps, .map (some r549)], _] := hst
   refine CW.region ?_
   refine pu 3 [(52, .pointer (some ⟨b4, 1, none⟩))] ?_
   refine OW.ld rfl rfl rfl rfl (by kernel_rfl) (hst.blk 0 rfl rfl) ?_
   refine pu 1 [(54, I x541)] ?_
   refine OW.mdelN (tk := 3) (te := 28) (kd := .i64) hst 1 rfl rfl rfl rfl rfl rfl (by kernel_rfl) (by kernel_rfl) ?_
   intro S553 w552 hst
   refine OW.nil rfl (QW.block_normal (QW.next (CW.region ?_)))
   refine pu 2 [(46, I (w64 ((i532 : Int) + 1)))] (OW.nil rfl ?_)
   have hst := hst.ofMN 1 rfl
   obtain ⟨S554, hst⟩ := hst.shutP1 R_t112 rfl 0 1 [] rfl rfl rfl (refs_Refs.mk s530.maps (mdel s530.held x541)) rfl rfl
   refine QW.say 46 rfl (congrArg (Value.int .i64) (w64_cnt hc534 l1)) ?_
   exact QW.meet (fun a ha => ⟨n528, Nat.lt_succ_self _, i532 + 1, (refs_Refs.mk s530.maps (mdel s530.held x541)), S554, cnt_next hi533, ha.ag, hst.keep [0] rfl, hl529⟩)
  rcases n528 with _ | n528
  ·refine CW.cond_f rfl hc534 ?_
   refine CW.exit (QW.then_exit (QW.then_exit ?_))
   refine QW.block_here ?_
   obtain rfl := inj hl529
   exact QW.meet (fun a ha => ⟨S531, ha.ag, hst.keep [0] rfl⟩)
  exact (cnt1 hi533 hc534).elim
 rintro a w1 ⟨S480, ha, hst⟩
 refine CW.go ?_ ha
 refine rg ?_
 refine pu 1 [(4, I 0)] (nx (CW.ret ?_))
 obtain rfl := inj hF
 refine QW.ret1 rfl rfl ?_
 exact ⟨S480, rfl, hst.keep [0] rfl⟩
theorem slices_IndexFunc_int_int_49_ok (w : World) (v0 : Value) (p0 : List Int) (c1 : Nat) (v1 : Value) (p1 : List Int) (r : Int) (hF : slices_IndexFunc_int_int_49 p0 p1 = some r)
    (hst : St w (fp []) w []) (h0 : Rd w (fp []) v0 (encInt .i64) 1 p0) (h1 : Rd w (fp []) v1 (encInt .i64) 1 p1) (hc1 : RdB w (fp []) c1 [v1]) :
    Calls Tryz.prog 82 [v0, .func (.func 49) #[] #[Pt c1]].toArray w (fun e w' => e = .returned (I r) ∧ St w (fp []) w' []) := by
 refine CW.start (N := 19) Tryz.func82 rfl rfl rfl ?_
 obtain ⟨l1, a2, c3, rfl⟩ := h0.len
 obtain ⟨l4, a5, c6, rfl⟩ := h1.len
 refine rg ?_
 refine pu 1 [] (nx (CW.seq (rg ?_)))
 refine pu 3 [(7, I ((p0).length : Int)), (8, I 0)] (nx ?_)
 obtain ⟨o79, ho80, hF⟩ := bs hF
 refine CW.cutK (fun a w1 => ∃ (t81 : Unit), o79 = .inl t81 ∧ Rep 19 [] a ∧ St w (fp []) w1 []) ?_ ?_
 ·refine CW.block ?_
  refine CW.loop (fun n a w1 => ∃ (i130 : Nat) (s129 : Unit), i130 + n = (p0).length ∧ Rep 19 [(0, .slice a2 (p0).length c3), (1, .func (.func 49) #[] #[Pt c1]), (7, I ((p0).length : Int)), (8, I (i130 : Int))] a ∧ St w (fp []) w1 [] ∧ forN (slices_IndexFunc_int_int_49_l1 p0 p1) (fun (s129 : Unit) => (.inl ())) n i130 s129 = some o79) (p0).length (fun a ha => ⟨0, (), Nat.zero_add _, ha.ag, hst.keep [] rfl, ho80⟩) ?_
  rintro n127 a w1 ⟨i130, s129, hi131, ha, hst, hl128⟩
  refine CW.go ?_ ha
  refine rg ?_
  refine pu 1 [(9, .bool (decide ((i130 : Int) < ((p0).length : Int))))] (nx (CW.seq ?_))
  rcases bft (decide ((i130 : Int) < ((p0).length : Int))) with hc132 | hc132
  ·rcases n127 with _ | n127
   ·exact (cnt0 hi131 hc132).elim
   refine CW.cond_t rfl hc132 (CW.skip (QW.next (CW.seq (CW.block (rg ?_)))))
   refine pu 2 [(5, I (i130 : Int))] (nx (rg ?_))
   refine pu 3 [(11, .func (.func 49) #[] #[Pt c1]), (12, .slice a2 (p0).length c3), (13, I (i130 : Int))] ?_
   obtain ⟨x143, hx144, hl128⟩ := bs hl128
   obtain ⟨g146, o147, c148, hv145⟩ := h0.formv (fun _ => ⟨_, rfl⟩) hx144
   refine OW.idx 3 1 rfl rfl rfl rfl hv145 rfl (idx_some hx144).1 (idx_some hx144).2.1 (by kernel_rfl) (by kernel_rfl) ?_
   refine OW.ld rfl rfl rfl rfl (by kernel_rfl) (h0.cellv hst hx144 hv145 0 _ rfl) ?_
   obtain ⟨r149, hr150, hl128⟩ := bs hl128
   refine OW.fn rfl rfl rfl rfl (by kernel_rfl) (registry_Registry_Settle_1_ok _ x143 c1 (.slice a5 (p1).length c6) p1 r149 hr150 (hst.part [] rfl) (h1.give hst []) (hc1.give hst [])) ?_
   rintro e w151 ⟨rfl, hst152⟩
   refine ⟨_, rfl, ?_⟩
   have hst := hst.join (idx := []) (rest := []) rfl hst152
   refine nx ?_
   refine br (r149) hl128 (fun hl128 hc153 => ?_) (fun hl128 hc153 => ?_)
   ·refine rg ?_
    refine pu 2 [(4, I (i130 : Int))] (nx (CW.ret (QW.block_ret (QW.then_ret (QW.then_ret (QW.block_ret (QW.then_ret ?_)))))))
    obtain rfl := inj hl128
    obtain rfl := inj hF
    refine QW.ret1 rfl rfl ?_
    exact ⟨rfl, hst.keep [] rfl⟩
   refine CW.skip (QW.block_normal (QW.next (CW.region ?_)))
   refine pu 2 [(8, I (w64 ((i130 : Int) + 1)))] (OW.nil rfl ?_)
   refine QW.say 8 rfl (congrArg (Value.int .i64) (w64_cnt hc132 l1)) ?_
   exact QW.meet (fun a ha => ⟨n127, Nat.lt_succ_self _, i130 + 1, (), cnt_next hi131, ha.ag, hst.keep [] rfl, hl128⟩)
  rcases n127 with _ | n127
  ·refine CW.cond_f rfl hc132 ?_
   refine CW.exit (QW.then_exit (QW.then_exit ?_))
   refine QW.block_here ?_
   obtain rfl := inj hl128
   exact QW.meet (fun a ha => ⟨(), rfl, ha.ag, hst.keep [] rfl⟩)
  exact (cnt1 hi131 hc132).elim
 rintro a w1 ⟨t81, rfl, ha, hst⟩
 refine CW.go ?_ ha
 refine rg ?_
 refine pu 1 [(4, I (-1))] (nx (CW.ret ?_))
 obtain rfl := inj hF
 refine QW.ret1 rfl rfl ?_
 exact ⟨rfl, hst.keep [] rfl⟩
theorem slices_DeleteFunc_int_int_49_ok (w : World) (fu : Nat) (v0 : Value) (p0 : List Int) (c1 : Nat) (v1 : Value) (p1 : List Int) (r : (List Int)) (hF : slices_DeleteFunc_int_int_49 fu p0 p1 = some r)
    (hst : St w (fp [rowI v0 3 (encInt .i64) 1 p0]) w [rowI v0 3 (encInt .i64) 1 p0]) (h1 : Rd w (fp [rowI v0 3 (encInt .i64) 1 p0]) v1 (encInt .i64) 1 p1) (hc1 : RdB w (fp [rowI v0 3 (encInt .i64) 1 p0]) c1 [v1]) :
    Calls Tryz.prog 48 [v0, .func (.func 49) #[] #[Pt c1]].toArray w (fun e w' => ∃ (x0 : Value), e = .returned (x0) ∧ St w (fp [rowI v0 3 (encInt .i64) 1 p0]) w' [rowI x0 3 (encInt .i64) 1 r]) := by
 refine CW.start (N := 42) Tryz.func48 rfl rfl rfl ?_
 obtain ⟨l1, a2, c3, rfl⟩ := h1.len
 obtain ⟨l4, a5, c6, rfl⟩ := hst.len 0 rfl
 refine rg ?_
 refine pu 1 [] (nx (rg ?_))
 refine pu 2 [(8, .slice a5 (p0).length c6), (9, .func (.func 49) #[] #[Pt c1])] ?_
 obtain ⟨r11, hr12, hF⟩ := bs hF
 refine OW.fn rfl rfl rfl rfl (by kernel_rfl) (slices_IndexFunc_int_int_49_ok _ (.slice a5 (p0).length c6) p0 c1 (.slice a2 (p1).length c3) p1 r11 hr12 (hst.part [] rfl) (hst.rd 0 rfl (fun _ => rfl) [] rfl (hst.len 0 rfl).1) (h1.give hst []) (hc1.give hst [])) ?_
 rintro e w13 ⟨rfl, hst14⟩
 refine ⟨_, rfl, ?_⟩
 have hst := hst.join (idx := []) (rest := [0]) rfl hst14
 refine pu 1 [(5, I r11)] (nx (CW.seq (rg ?_)))
 refine pu 2 [(12, .bool (r11 == (-1)))] (nx ?_)
 refine br ((r11 == (-1))) hF (fun hF hc15 => ?_) (fun hF hc15 => ?_)
 ·refine rg ?_
  refine pu 2 [(4, .slice a5 (p0).length c6)] (nx (CW.ret (QW.then_ret ?_)))
  obtain rfl := inj hF
  refine QW.ret1 rfl rfl ?_
  exact ⟨(.slice a5 (p0).length c6), rfl, hst.keep [0] rfl⟩
 refine CW.skip (QW.next (CW.seq (rg ?_)))
 refine pu 3 [(6, I (w64 (r11 + 1)))] (nx ?_)
 obtain ⟨o141, ho142, hF⟩ := bs hF
 refine CW.cutK (fun a w1 => ∃ (v140 : Value), Rep 42 [(0, v140), (5, I o141.2)] a ∧ St w (fp [rowI (.slice a5 (p0).length c6) 3 (encInt .i64) 1 p0]) w1 [rowI v140 3 (encInt .i64) 1 o141.1]) ?_ ?_
 ·refine CW.block ?_
  refine CW.loop (fun n a w1 => ∃ (s225 : (List Int) × Int × Int) (v226 : Value), Rep 42 [(0, v226), (1, .func (.func 49) #[] #[Pt c1]), (5, I s225.2.1), (6, I s225.2.2)] a ∧ St w (fp [rowI (.slice a5 (p0).length c6) 3 (encInt .i64) 1 p0]) w1 [rowI v226 3 (encInt .i64) 1 s225.1] ∧ loop (slices_DeleteFunc_int_int_49_l1 p1) n s225 = some o141) fu (fun a ha => ⟨(p0, r11, w64 (r11 + 1)), (.slice a5 (p0).length c6), ha.ag, hst.keep [0] rfl, ho142⟩) ?_
  rintro n223 a w1 ⟨s225, v226, ha, hst, hl224⟩
  rcases n223 with _ | n223
  ·exact (loop_zero hl224).elim
  refine CW.go ?_ ha
  obtain ⟨l227, a228, c229, rfl⟩ := hst.len 0 rfl
  refine CW.seq (rg ?_)
  refine pu 4 [(19, .bool (decide (s225.2.2 < ((s225.1).length : Int))))] (nx ?_)
  refine br (decide (s225.2.2 < ((s225.1).length : Int))) hl224 (fun hl224 hc230 => ?_) (fun hl224 hc230 => ?_)
  ·refine CW.skip (QW.next (CW.seq (CW.block (rg ?_))))
   refine pu 2 [(22, .slice a228 (s225.1).length c229), (23, I s225.2.2)] ?_
   obtain ⟨x237, hx238, hl224⟩ := bs hl224
   obtain ⟨g240, o241, c242, hv239⟩ := hst.rowv 0 rfl hx238
   refine OW.idx 3 1 rfl rfl rfl rfl hv239 rfl (idx_some hx238).1 (idx_some hx238).2.1 (by kernel_rfl) (by kernel_rfl) ?_
   refine OW.ld rfl rfl rfl rfl (by kernel_rfl) (hst.rowc 0 rfl (fun _ => rfl) hx238 hv239 0 _ rfl) ?_
   refine pu 1 [(7, I x237)] (nx (rg ?_))
   refine pu 2 [(26, .func (.func 49) #[] #[Pt c1]), (27, I x237)] ?_
   obtain ⟨r247, hr248, hl224⟩ := bs hl224
   refine OW.fn rfl rfl rfl rfl (by kernel_rfl) (registry_Registry_Settle_1_ok _ x237 c1 (.slice a2 (p1).length c3) p1 r247 hr248 (hst.part [] rfl) (h1.give hst []) (hc1.give hst [])) ?_
   rintro e w249 ⟨rfl, hst250⟩
   refine ⟨_, rfl, ?_⟩
   have hst := hst.join (idx := []) (rest := [0]) rfl hst250
   refine pu 1 [(29, .bool (!r247))] (nx ?_)
   refine br ((!r247)) hl224 (fun hl224 hc251 => ?_) (fun hl224 hc251 => ?_)
   ·refine rg ?_
    refine pu 3 [(30, .slice a228 (s225.1).length c229), (31, I s225.2.1), (32, I x237)] ?_
    obtain ⟨x259, hx260, hl224⟩ := bs hl224
    obtain ⟨g262, o263, c264, hv261⟩ := hst.rowv 0 rfl hx260
    refine OW.idx 3 1 rfl rfl rfl rfl hv261 rfl (idx_some hx260).1 (idx_some hx260).2.1 (by kernel_rfl) (by kernel_rfl) ?_
    refine OW.stR hst 0 rfl hv261 (fun _ => rfl) rfl rfl hx260 0 rfl rfl rfl (by kernel_rfl) rfl rfl x237 rfl ?_
    intro w265 hst
    refine nx (CW.region ?_)
    refine pu 3 [(5, I (w64 (s225.2.1 + 1)))] (OW.nil rfl (QW.block_normal (QW.next (CW.region ?_))))
    refine pu 3 [(6, I (w64 (s225.2.2 + 1)))] (OW.nil rfl ?_)
    exact QW.meet (fun a ha => ⟨n223, Nat.lt_succ_self _, ((s225.1.set (Int.toNat s225.2.1) x237), w64 (s225.2.1 + 1), w64 (s225.2.2 + 1)), (.slice a228 (s225.1).length c229), ha.ag, hst.keep [0] rfl, hl224⟩)
   refine CW.skip (QW.block_normal (QW.next (CW.region ?_)))
   refine pu 3 [(6, I (w64 (s225.2.2 + 1)))] (OW.nil rfl ?_)
   exact QW.meet (fun a ha => ⟨n223, Nat.lt_succ_self _, (s225.1, s225.2.1, w64 (s225.2.2 + 1)), (.slice a228 (s225.1).length c229), ha.ag, hst.keep [0] rfl, hl224⟩)
  refine CW.exit (QW.then_exit (QW.then_exit ?_))
  refine QW.block_here ?_
  obtain rfl := inj hl224
  exact QW.meet (fun a ha => ⟨(.slice a228 (s225.1).length c229), ha.ag, hst.keep [0] rfl⟩)
 rintro a w1 ⟨v140, ha, hst⟩
 refine CW.go ?_ ha
 obtain ⟨l270, a271, c272, rfl⟩ := hst.len 0 rfl
 refine rg ?_
 refine pu 2 [(36, .slice a271 (o141.1).length c272), (37, I o141.2)] ?_
 obtain ⟨ys276, hcut277, hF⟩ := bs hF
 refine OW.op (v := .slice (shd a271 c272 (Int.toNat o141.2) 1) (ys276).length (c272 - Int.toNat o141.2)) rfl rfl rfl rfl (fun a ha => suf_run (xs := o141.1) (e := 3) 1 rfl rfl rfl rfl hcut277 (by kernel_rfl) (by kernel_rfl) a _ ha) ?_
 refine OW.clearR (e := 3) hst 0 rfl (fun _ => rfl) rfl rfl hcut277 rfl rfl (by kernel_rfl) 0 (by kernel_rfl) rfl ?_
 intro w278 hst
 refine nx (rg ?_)
 refine pu 2 [(39, .slice a271 (o141.1).length c272), (40, I o141.2)] ?_
 obtain ⟨ys281, hcut282, hF⟩ := bs hF
 refine OW.op (v := .slice a271 (ys281).length c272) rfl rfl rfl rfl (fun a ha => pre_run (e := 3) 1 rfl rfl rfl hcut282 (hst.cap 0 rfl) (by kernel_rfl) (by kernel_rfl) a _ ha) ?_
 refine pu 1 [(4, .slice a271 (ys281).length c272)] (nx (CW.ret ?_))
 have hst := hst.cutRow 0 rfl (fun _ => rfl) hcut282
 obtain rfl := inj hF
 refine QW.ret1 rfl rfl ?_
 exact ⟨(.slice a271 (ys281).length c272), rfl, hst.keep [0] rfl⟩
theorem registry_Registry_Settle_ok (w : World) (fu : Nat) (v0 : Value) (S0 : List Nat) (p0 : registry_Registry) (p1 : Int) (r : (List Int) × registry_Registry) (hF : registry_Registry_Settle fu p0 p1 = some r)
    (hst : St w (fp [itI R_t24 [v0] S0 p0]) w [itI R_t24 [v0] S0 p0]) :
    Calls Tryz.prog 18 [v0, I p1].toArray w (fun e w' => ∃ (s0 : List Nat) (x0 : Value), e = .returned (x0) ∧ St w (fp [itI R_t24 [v0] S0 p0]) w' [itI R_t24 [v0] s0 r.2, rowI x0 3 (encInt .i64) 1 r.1]) := by
 refine CW.start (N := 73) Tryz.func18 rfl rfl rfl ?_
 obtain ⟨b1, rfl⟩ := hst.fptr 0 rfl
 refine rg ?_
 refine pu 1 [] (nx (rg ?_))
 refine OW.alloc hst rfl rfl rfl [.slice none 0 0] (by kernel_rfl) ?_
 intro b4 w5 hst
 refine nx (CW.seq (CW.seq ?_))
 obtain ⟨v6, S7, v8, S9, v10, S11, v12, S13, v14, S15, hst⟩ := hst.openQ5 0 rfl rfl rfl rfl rfl rfl
 obtain ⟨r16, rfl, hst⟩ := hst.toMN1 5 rfl
 have hst := hst.toRow1 6 rfl
 obtain ⟨b17, rfl⟩ := hst.fptr 2 rfl
 obtain ⟨b18, rfl⟩ := hst.fptr 3 rfl
 obtain ⟨b19, rfl⟩ := hst.fptr 4 rfl
 obtain ⟨l20, a21, c22, rfl⟩ := hst.len 6 rfl
 have hst : St _ _ _ [blkI b1 58 [Pt b17, Pt b18, Pt b19, I p0.hooks, I p0.maps, I p0.given, .map (some r16), .slice a21 (p0.waiting).length c22], _, _, _, _, _, _] := hst
 refine CW.region ?_
 refine pu 3 [(12, .pointer (some ⟨b1, 7, none⟩))] ?_
 refine OW.ld rfl rfl rfl rfl (by kernel_rfl) (hst.blk 0 rfl rfl) ?_
 refine pu 2 [(14, I ((p0.waiting).length : Int)), (15, I 0)] (nx ?_)
 obtain ⟨o246, ho247, hF⟩ := bs hF
 refine CW.cutK (fun a w1 => ∃ (S244 : List Nat) (v245 : Value), Rep 73 [(0, Pt b1), (5, Pt b4)] a ∧ St w (fp [itI R_t24 [Pt b1] S0 p0]) w1 [itI R_t24 [Pt b1] S244 p0, blkI b4 28 [v245], rowI v245 3 (encInt .i64) 1 o246]) ?_ ?_
 ·refine CW.block ?_
  have hst := hst.nilRow Int 3 (encInt .i64) 1
  refine CW.loop (fun n a w1 => ∃ (i397 : Nat) (s394 : (List Int)) (S395 : List Nat) (v396 : Value), i397 + n = (p0.waiting).length ∧ Rep 73 [(0, Pt b1), (1, I p1), (5, Pt b4), (13, .slice a21 (p0.waiting).length c22), (14, I ((p0.waiting).length : Int)), (15, I (i397 : Int))] a ∧ St w (fp [itI R_t24 [Pt b1] S0 p0]) w1 [blkI b1 58 [Pt b17, Pt b18, Pt b19, I p0.hooks, I p0.maps, I p0.given, .map (some r16), .slice a21 (p0.waiting).length c22], itI R_t53 [Pt b17] S7 p0.Table, itI R_t54 [Pt b18] S9 p0.Refs, itI R_t55 [Pt b19] S395 p0.Clock, mN r16 R_t95 S13 p0.progs none, rowI (.slice a21 (p0.waiting).length c22) 3 (encInt .i64) 1 p0.waiting, blkI b4 28 [v396], rowI v396 3 (encInt .i64) 1 s394] ∧ forN (registry_Registry_Settle_l1 p0 p1) (fun (s394 : (List Int)) => s394) n i397 s394 = some o246) (p0.waiting).length (fun a ha => ⟨0, ([] : List Int), S11, (.slice none 0 0), Nat.zero_add _, ha.ag, hst.keep [0, 2, 3, 4, 5, 6, 1, 7] rfl, ho247⟩) ?_
  rintro n392 a w1 ⟨i397, s394, S395, v396, hi398, ha, hst, hl393⟩
  refine CW.go ?_ ha
  obtain ⟨l399, a400, c401, rfl⟩ := hst.len 7 rfl
  refine rg ?_
  refine pu 1 [(16, .bool (decide ((i397 : Int) < ((p0.waiting).length : Int))))] (nx (CW.seq ?_))
  rcases bft (decide ((i397 : Int) < ((p0.waiting).length : Int))) with hc402 | hc402
  ·rcases n392 with _ | n392
   ·exact (cnt0 hi398 hc402).elim
   refine CW.cond_t rfl hc402 (CW.skip (QW.next (CW.seq (CW.block (rg ?_)))))
   obtain ⟨x409, hx410, hl393⟩ := bs hl393
   obtain ⟨g412, o413, c414, hv411⟩ := hst.rowv 5 rfl hx410
   refine OW.idx 3 1 rfl rfl rfl rfl hv411 rfl (idx_some hx410).1 (idx_some hx410).2.1 (by kernel_rfl) (by kernel_rfl) ?_
   refine OW.ld rfl rfl rfl rfl (by kernel_rfl) (hst.rowc 5 rfl (fun _ => rfl) hx410 hv411 0 _ rfl) ?_
   refine pu 1 [(7, I x409)] (nx (CW.seq ?_))
   obtain ⟨o431, ho432, hl393⟩ := bs hl393
   refine CW.cutK (fun a w1 => ∃ (S430 : List Nat), Rep 73 [(0, Pt b1), (1, I p1), (5, Pt b4), (7, I x409), (13, .slice a21 (p0.waiting).length c22), (14, I ((p0.waiting).length : Int)), (15, I (i397 : Int)), (38, .bool o431)] a ∧ St w (fp [itI R_t24 [Pt b1] S0 p0]) w1 [blkI b1 58 [Pt b17, Pt b18, Pt b19, I p0.hooks, I p0.maps, I p0.given, .map (some r16), .slice a21 (p0.waiting).length c22], itI R_t53 [Pt b17] S7 p0.Table, itI R_t54 [Pt b18] S9 p0.Refs, itI R_t55 [Pt b19] S430 p0.Clock, mN r16 R_t95 S13 p0.progs none, rowI (.slice a21 (p0.waiting).length c22) 3 (encInt .i64) 1 p0.waiting, blkI b4 28 [.slice a400 (s394).length c401], rowI (.slice a400 (s394).length c401) 3 (encInt .i64) 1 s394]) ?_ ?_
   ·refine CW.tail 18 (by kernel_rfl) (by kernel_rfl) ?_
    intro w433 hch434
    have hst := hst.same hch434
    refine OS.ld rfl rfl rfl rfl rfl (by kernel_rfl) (hst.blk 6 rfl rfl) ?_
    refine OS.pure 4 [(23, .bool (decide (((s394).length : Int) < p1)))] rfl (by kernel_rfl) ?_
    refine OS.split 23 rfl (fun hc435 => ?_) (fun hc435 => ?_)
    ·have ho432 := ite_t ho432 hc435
     refine OS.pure 3 [(26, .pointer (some ⟨b1, 2, none⟩))] rfl (by kernel_rfl) ?_
     refine OS.ld rfl rfl rfl rfl rfl (by kernel_rfl) (hst.blk 0 rfl rfl) ?_
     refine OS.pure 3 [(30, .pointer (some ⟨b1, 6, none⟩))] rfl (by kernel_rfl) ?_
     refine OS.ld rfl rfl rfl rfl rfl (by kernel_rfl) (hst.blk 0 rfl rfl) ?_
     refine OS.pure 1 [(32, I x409)] rfl (by kernel_rfl) ?_
     obtain ⟨y436, hy437, ho432⟩ := bs ho432
     obtain ⟨b438, hpk439, hrd440⟩ := hst.mpeek 4 rfl hy437
     refine OS.op (v := Pt b438) rfl rfl rfl rfl rfl (peek_run (tk := 3) (te := 95) (kd := .i64) hpk439 rfl rfl rfl (by kernel_rfl) (by kernel_rfl)) ?_
     refine OS.pure 2 [(35, .pointer (some ⟨b438, 2, none⟩))] rfl (by kernel_rfl) ?_
     refine OS.ld rfl rfl rfl rfl rfl (by kernel_rfl) (rdP_cell hrd440 2 (fun _ => rfl)) ?_
     refine OS.on ?_
     obtain ⟨r441, hr442, ho432⟩ := bs ho432
     refine OW.fn rfl rfl rfl rfl (by kernel_rfl) (epoch_Clock_Safe_ok _ (Pt b19) S395 p0.Clock y436.retiring r441 hr442 (hst.part [3] rfl)) ?_
     rintro e w443 ⟨S445, rfl, hst444⟩
     refine ⟨_, rfl, ?_⟩
     have hst := hst.join (idx := [3]) (rest := [0, 1, 2, 4, 5, 6, 7]) rfl hst444
     refine pu 1 [(38, .bool r441)] (OW.nil rfl ?_)
     obtain rfl := inj ho432
     exact QW.meet (fun a ha => ⟨S445, ha.ag, hst.keep [1, 2, 3, 0, 4, 5, 6, 7] rfl⟩)
    have ho432 := ite_f ho432 hc435
    refine OS.pure 13 [(27, undef), (36, undef)] rfl (by kernel_rfl) ?_
    refine OS.on ?_
    refine pu 2 [(38, .bool false)] (OW.nil rfl ?_)
    obtain rfl := inj ho432
    exact QW.meet (fun a ha => ⟨S395, ha.ag, hst.keep [0, 1, 2, 3, 4, 5, 6, 7] rfl⟩)
   rintro a w1 ⟨S430, ha, hst⟩
   refine CW.go ?_ ha
   refine br (o431) hl393 (fun hl393 hc446 => ?_) (fun hl393 hc446 => ?_)
   ·refine CW.region ?_
    refine OW.ld rfl rfl rfl rfl (by kernel_rfl) (hst.blk 6 rfl rfl) ?_
    refine pu 1 [(40, I x409)] ?_
    refine OW.row (α := Int) (e := 3) (enc := encInt .i64) (sz := 1) hst rfl rfl rfl [x409] rfl (fun _ => rfl) rfl rfl (fun _ => by kernel_rfl) ?_
    intro g457 w458 hst
    obtain ⟨u459, hr460, hl393⟩ := bs hl393
    refine OW.app hst 7 rfl (fun _ => rfl) (fun _ => rfl) rfl rfl rfl rfl rfl rfl (by kernel_rfl) el3 (hst.rd 8 rfl (fun _ => rfl) [] rfl (hst.len 8 rfl).1) (room_le hr460) ?_
    intro v461 w462 hst
    obtain ⟨l463, a464, c465, rfl⟩ := hst.len 7 rfl
    refine OW.stB hst 6 rfl rfl rfl rfl rfl (by kernel_rfl) rfl rfl [.slice a464 ((s394 ++ [x409])).length c465] rfl ?_
    intro w466 hst
    refine OW.nil rfl (QW.block_normal (QW.next (CW.region ?_)))
    refine pu 2 [(15, I (w64 ((i397 : Int) + 1)))] (OW.nil rfl ?_)
    refine QW.say 15 rfl (congrArg (Value.int .i64) (w64_cnt hc402 l20)) ?_
    exact QW.meet (fun a ha => ⟨n392, Nat.lt_succ_self _, i397 + 1, (s394 ++ [x409]), S430, (.slice a464 ((s394 ++ [x409])).length c465), cnt_next hi398, ha.ag, hst.keep [0, 1, 2, 3, 4, 5, 6, 7] rfl, hl393⟩)
   refine CW.skip (QW.block_normal (QW.next (CW.region ?_)))
   refine pu 2 [(15, I (w64 ((i397 : Int) + 1)))] (OW.nil rfl ?_)
   refine QW.say 15 rfl (congrArg (Value.int .i64) (w64_cnt hc402 l20)) ?_
   exact QW.meet (fun a ha => ⟨n392, Nat.lt_succ_self _, i397 + 1, s394, S430, (.slice a400 (s394).length c401), cnt_next hi398, ha.ag, hst.keep [0, 1, 2, 3, 4, 5, 6, 7] rfl, hl393⟩)
  rcases n392 with _ | n392
  ·refine CW.cond_f rfl hc402 ?_
   refine CW.exit (QW.then_exit (QW.then_exit ?_))
   refine QW.block_here ?_
   have hst := hst.ofMN 4 rfl
   have hst := hst.toIt 5 rfl (fun _ => rfl) (by decide)
   obtain ⟨S469, hst⟩ := hst.shutP5 R_t58 rfl 0 1 2 3 4 5 [6, 7] rfl rfl rfl rfl rfl rfl rfl p0 rfl rfl
   obtain rfl := inj hl393
   exact QW.meet (fun a ha => ⟨S469, (.slice a400 (s394).length c401), ha.ag, hst.keep [2, 0, 1] rfl⟩)
  exact (cnt1 hi398 hc402).elim
 rintro a w1 ⟨S244, v245, ha, hst⟩
 refine CW.go ?_ ha
 obtain ⟨l471, a472, c473, rfl⟩ := hst.len 2 rfl
 refine CW.seq (rg ?_)
 refine OW.ld rfl rfl rfl rfl (by kernel_rfl) (hst.blk 1 rfl rfl) ?_
 refine pu 2 [(45, I ((o246).length : Int)), (46, I 0)] (nx ?_)
 obtain ⟨o631, ho632, hF⟩ := bs hF
 refine CW.cutK (fun a w1 => ∃ (S630 : List Nat), Rep 73 [(0, Pt b1), (5, Pt b4)] a ∧ St w (fp [itI R_t24 [Pt b1] S0 p0]) w1 [itI R_t24 [Pt b1] S630 o631, blkI b4 28 [.slice a472 (o246).length c473], rowI (.slice a472 (o246).length c473) 3 (encInt .i64) 1 o246]) ?_ ?_
 ·refine CW.block ?_
  refine CW.loop (fun n a w1 => ∃ (i738 : Nat) (s736 : registry_Registry) (S737 : List Nat), i738 + n = (o246).length ∧ Rep 73 [(0, Pt b1), (5, Pt b4), (44, .slice a472 (o246).length c473), (45, I ((o246).length : Int)), (46, I (i738 : Int))] a ∧ St w (fp [itI R_t24 [Pt b1] S0 p0]) w1 [itI R_t24 [Pt b1] S737 s736, blkI b4 28 [.slice a472 (o246).length c473], rowI (.slice a472 (o246).length c473) 3 (encInt .i64) 1 o246] ∧ forN (registry_Registry_Settle_l2 o246) (fun (s736 : registry_Registry) => s736) n i738 s736 = some o631) (o246).length (fun a ha => ⟨0, p0, S244, Nat.zero_add _, ha.ag, hst.keep [0, 1, 2] rfl, ho632⟩) ?_
  rintro n734 a w1 ⟨i738, s736, S737, hi739, ha, hst, hl735⟩
  refine CW.go ?_ ha
  refine rg ?_
  refine pu 1 [(47, .bool (decide ((i738 : Int) < ((o246).length : Int))))] (nx (CW.seq ?_))
  rcases bft (decide ((i738 : Int) < ((o246).length : Int))) with hc740 | hc740
  ·rcases n734 with _ | n734
   ·exact (cnt0 hi739 hc740).elim
   refine CW.cond_t rfl hc740 (CW.skip (QW.next (CW.seq (CW.block (rg ?_)))))
   obtain ⟨x747, hx748, hl735⟩ := bs hl735
   obtain ⟨g750, o751, c752, hv749⟩ := hst.rowv 2 rfl hx748
   refine OW.idx 3 1 rfl rfl rfl rfl hv749 rfl (idx_some hx748).1 (idx_some hx748).2.1 (by kernel_rfl) (by kernel_rfl) ?_
   refine OW.ld rfl rfl rfl rfl (by kernel_rfl) (hst.rowc 2 rfl (fun _ => rfl) hx748 hv749 0 _ rfl) ?_
   refine pu 1 [(9, I x747)] (nx (CW.seq ?_))
   obtain ⟨v753, S754, v755, S756, v757, S758, v759, S760, v761, S762, hst⟩ := hst.openQ5 0 rfl rfl rfl rfl rfl rfl
   obtain ⟨r763, rfl, hst⟩ := hst.toMN1 6 rfl
   have hst := hst.toRow1 7 rfl
   obtain ⟨b764, rfl⟩ := hst.fptr 3 rfl
   obtain ⟨b765, rfl⟩ := hst.fptr 4 rfl
   obtain ⟨b766, rfl⟩ := hst.fptr 5 rfl
   obtain ⟨l767, a768, c769, rfl⟩ := hst.len 7 rfl
   have hst : St _ _ _ [blkI b1 58 [Pt b764, Pt b765, Pt b766, I s736.hooks, I s736.maps, I s736.given, .map (some r763), .slice a768 (s736.waiting).length c769], _, _, _, _, _, _, _] := hst
   refine CW.region ?_
   refine pu 3 [(52, .pointer (some ⟨b1, 6, none⟩))] ?_
   refine OW.ld rfl rfl rfl rfl (by kernel_rfl) (hst.blk 0 rfl rfl) ?_
   refine pu 1 [(54, I x747)] ?_
   refine OW.mdelN (tk := 3) (te := 95) (kd := .i64) hst 6 rfl rfl rfl rfl rfl rfl (by kernel_rfl) (by kernel_rfl) ?_
   intro S773 w772 hst
   refine nx (CW.region ?_)
   refine pu 3 [(57, .pointer (some ⟨b1, 1, none⟩))] ?_
   refine OW.ld rfl rfl rfl rfl (by kernel_rfl) (hst.blk 0 rfl rfl) ?_
   refine pu 1 [(59, I x747)] ?_
   refine OW.row (α := Int) (e := 3) (enc := encInt .i64) (sz := 1) hst rfl rfl rfl [x747] rfl (fun _ => rfl) rfl rfl (fun _ => by kernel_rfl) ?_
   intro g781 w782 hst
   obtain ⟨r783, hr784, hl735⟩ := bs hl735
   refine OW.fn rfl rfl rfl rfl (by kernel_rfl) (refs_Refs_Drop_ok _ (Pt b765) S756 s736.Refs (.slice (some ⟨g781, 0, none⟩) 1 1) ([x747]) r783 hr784 (hst.part [4] rfl) (hst.rd 8 rfl (fun _ => rfl) [4] rfl (hst.len 8 rfl).1)) ?_
   rintro e w785 ⟨S787, rfl, hst786⟩
   refine ⟨_, rfl, ?_⟩
   have hst := hst.join (idx := [4]) (rest := [0, 1, 2, 3, 5, 6, 7, 8]) rfl hst786
   refine OW.nil rfl (QW.block_normal (QW.next (CW.region ?_)))
   refine pu 2 [(46, I (w64 ((i738 : Int) + 1)))] (OW.nil rfl ?_)
   have hst := hst.ofMN 6 rfl
   have hst := hst.toIt 7 rfl (fun _ => rfl) (by decide)
   obtain ⟨S788, hst⟩ := hst.shutP5 R_t58 rfl 1 4 0 5 6 7 [2, 3, 8] rfl rfl rfl rfl rfl rfl rfl (registry_Registry.mk s736.Table r783.2 s736.Clock s736.hooks s736.maps s736.given (mdel s736.progs x747) s736.waiting) rfl rfl
   refine QW.say 46 rfl (congrArg (Value.int .i64) (w64_cnt hc740 l471)) ?_
   exact QW.meet (fun a ha => ⟨n734, Nat.lt_succ_self _, i738 + 1, (registry_Registry.mk s736.Table r783.2 s736.Clock s736.hooks s736.maps s736.given (mdel s736.progs x747) s736.waiting), S788, cnt_next hi739, ha.ag, hst.keep [3, 0, 1] rfl, hl735⟩)
  rcases n734 with _ | n734
  ·refine CW.cond_f rfl hc740 ?_
   refine CW.exit (QW.then_exit (QW.then_exit ?_))
   refine QW.block_here ?_
   obtain rfl := inj hl735
   exact QW.meet (fun a ha => ⟨S737, ha.ag, hst.keep [0, 1, 2] rfl⟩)
  exact (cnt1 hi739 hc740).elim
 rintro a w1 ⟨S630, ha, hst⟩
 refine CW.go ?_ ha
 refine CW.seq ?_
 obtain ⟨v789, S790, v791, S792, v793, S794, v795, S796, v797, S798, hst⟩ := hst.openQ5 0 rfl rfl rfl rfl rfl rfl
 obtain ⟨r799, rfl, hst⟩ := hst.toMN1 6 rfl
 have hst := hst.toRow1 7 rfl
 obtain ⟨b800, rfl⟩ := hst.fptr 3 rfl
 obtain ⟨b801, rfl⟩ := hst.fptr 4 rfl
 obtain ⟨b802, rfl⟩ := hst.fptr 5 rfl
 obtain ⟨l803, a804, c805, rfl⟩ := hst.len 7 rfl
 have hst : St _ _ _ [blkI b1 58 [Pt b800, Pt b801, Pt b802, I o631.hooks, I o631.maps, I o631.given, .map (some r799), .slice a804 (o631.waiting).length c805], _, _, _, _, _, _, _] := hst
 refine CW.region ?_
 refine pu 4 [(63, Pt b1), (66, .pointer (some ⟨b1, 7, none⟩))] ?_
 refine OW.ld rfl rfl rfl rfl (by kernel_rfl) (hst.blk 0 rfl rfl) ?_
 refine pu 1 [(68, .func (.func 49) #[] #[Pt b4])] ?_
 obtain ⟨r815, hr816, hF⟩ := bs hF
 refine OW.fn rfl rfl rfl rfl (by kernel_rfl) (slices_DeleteFunc_int_int_49_ok _ fu (.slice a804 (o631.waiting).length c805) o631.waiting b4 (.slice a472 (o246).length c473) o246 r815 hr816 (hst.part [7] rfl) (hst.rd 2 rfl (fun _ => rfl) [7] rfl (hst.len 2 rfl).1) (hst.rdB 1 rfl [7] rfl)) ?_
 rintro e w817 ⟨v819, rfl, hst818⟩
 refine ⟨_, rfl, ?_⟩
 have hst := hst.join (idx := [7]) (rest := [0, 1, 2, 3, 4, 5, 6]) rfl hst818
 obtain ⟨l820, a821, c822, rfl⟩ := hst.len 0 rfl
 refine pu 2 [(71, .pointer (some ⟨b1, 7, none⟩))] ?_
 refine OW.stB hst 1 rfl rfl rfl rfl rfl (by kernel_rfl) rfl rfl [Pt b800, Pt b801, Pt b802, I o631.hooks, I o631.maps, I o631.given, .map (some r799), .slice a821 (r815).length c822] rfl ?_
 intro w823 hst
 refine nx (rg ?_)
 refine OW.ld rfl rfl rfl rfl (by kernel_rfl) (hst.blk 2 rfl rfl) ?_
 refine pu 1 [(4, .slice a472 (o246).length c473)] (nx (CW.ret ?_))
 have hst := hst.ofMN 7 rfl
 have hst := hst.toIt 0 rfl (fun _ => rfl) (by decide)
 obtain ⟨S824, hst⟩ := hst.shutP5 R_t58 rfl 1 4 5 6 7 0 [2, 3] rfl rfl rfl rfl rfl rfl rfl (registry_Registry.mk o631.Table o631.Refs o631.Clock o631.hooks o631.maps o631.given o631.progs r815) rfl rfl
 obtain rfl := inj hF
 refine QW.ret1 rfl rfl ?_
 exact ⟨S824, (.slice a472 (o246).length c473), rfl, hst.keep [2, 1] rfl⟩
end Go.Proofs.YtdnogiegiclcfaaGreatDoor

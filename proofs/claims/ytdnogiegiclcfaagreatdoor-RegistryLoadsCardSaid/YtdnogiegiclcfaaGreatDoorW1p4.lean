/- Written by a program (wip/gen): the walks: each Go function returns what its plain function computes. -/
import Derived.Test.YtdnogiegiclcfaaGreatDoorProg
import Derived.Test.YtdnogiegiclcfaaGreatDoorF1
import Derived.Test.YtdnogiegiclcfaaGreatDoorSq
import Derived.Test.YtdnogiegiclcfaaGreatDoorPart
import Derived.Test.YtdnogiegiclcfaaGreatDoorExt
import Derived.Test.YtdnogiegiclcfaaGreatDoorSh
import Derived.Test.YtdnogiegiclcfaaGreatDoorO1
import Derived.Test.YtdnogiegiclcfaaGreatDoorW1p3
set_option linter.unusedSimpArgs false
namespace Go.Proofs.YtdnogiegiclcfaaGreatDoor
open Go.Sx
set_option linter.unusedVariables false
set_option maxRecDepth 10000
set_option maxHeartbeats 4000000
theorem judge_judged_ok (w : World) (wb : World) (Sb : List Nat) (fu : Nat) (v0_0 : Value) (v0_1 : Value) (p0 : api_Module) (r : (Option judge_judge) × Int × Int) (hF : judge_judged fu p0 = some r)
    (hst : St w (fp []) w []) (hb : Bor wb Sb w (fp [])) (h0_0 : Rd wb Sb v0_0 (encInt .i64) 1 p0.Maps) (h0_1 : Rd wb Sb v0_1 enc_api_Inst 5 p0.Code) (hT0 : Rd w (fp []) (.slice (some ⟨0, 0, none⟩) 23 23) enc_ops_form 2 tab_g0) (hT1 : Rd w (fp []) (.slice (some ⟨1, 0, none⟩) 7 7) enc_sigs_sig 5 tab_g1) :
    Calls Tryz.prog 38 [.agg [v0_0, v0_1].toArray].toArray w (fun e w' => (∃ (k0 : judge_judge) (y0 : Value) (z0 : List Nat), r.1 = some k0 ∧ e = .returned (.tuple #[y0, I r.2.1, I r.2.2]) ∧ St w (fp []) w' [itI (R_t92 wb Sb) [y0] z0 k0]) ∨ (r.1 = none ∧ e = .returned (.tuple #[.pointer none, I r.2.1, I r.2.2]) ∧ St w (fp []) w' [])) := by
 refine CW.start (N := 83) Tryz.func38 rfl rfl rfl ?_
 have h0_0b := h0_0.bor hb
 have h0_1b := h0_1.bor hb
 obtain ⟨l1, a2, c3, rfl⟩ := h0_0b.len
 obtain ⟨l4, a5, c6, rfl⟩ := h0_1b.len
 refine rg ?_
 refine OW.box hst rfl rfl rfl rfl [.slice a2 (p0.Maps).length c3, .slice a5 (p0.Code).length c6] rfl ?_
 intro b9 w10 hst
 refine pu 3 [] (nx (CW.seq (rg ?_)))
 refine pu 1 [(11, Pt b9)] ?_
 refine OW.ld rfl rfl rfl rfl (by kernel_rfl) (hst.blk 0 rfl rfl) ?_
 obtain ⟨r15, hr16, hF⟩ := bs hF
 refine OW.fn rfl rfl rfl rfl (by kernel_rfl) (judge_good_ok _ (.slice a2 (p0.Maps).length c3) p0.Maps r15 hr16 (hst.part [] rfl) (h0_0b.give hst [])) ?_
 rintro e w17 ⟨rfl, hst18⟩
 refine ⟨_, rfl, ?_⟩
 have hst := hst.join (idx := []) (rest := [0]) rfl hst18
 refine pu 1 [(14, .bool (!r15))] (nx ?_)
 refine br ((!r15)) hF (fun hF hc19 => ?_) (fun hF hc19 => ?_)
 ·refine rg ?_
  refine pu 3 [(2, .pointer none), (3, I 0), (4, I 2)] (nx (CW.ret (QW.then_ret ?_)))
  obtain rfl := inj hF
  refine QW.ret3 rfl rfl rfl rfl ?_
  exact .inr ⟨rfl, rfl, hst.keep [] rfl⟩
 refine CW.skip (QW.next (CW.seq (rg ?_)))
 refine pu 1 [(16, .pointer (some ⟨b9, 1, none⟩))] ?_
 refine OW.ld rfl rfl rfl rfl (by kernel_rfl) (hst.blk 0 rfl rfl) ?_
 obtain ⟨r24, hr25, hF⟩ := bs hF
 refine OW.fn rfl rfl rfl rfl (by kernel_rfl) (flow_Check_ok _ (.slice a5 (p0.Code).length c6) p0.Code r24 hr25 (hst.part [] rfl) (h0_1b.give hst []) (hT0.give hst [])) ?_
 rintro e w26 ⟨rfl, hst27⟩
 refine ⟨_, rfl, ?_⟩
 have hst := hst.join (idx := []) (rest := [0]) rfl hst27
 refine pu 5 [(5, I r24.1), (6, I r24.2)] (nx (rg ?_))
 refine pu 2 [(22, .bool (r24.2 != 0))] (nx ?_)
 refine br ((r24.2 != 0)) hF (fun hF hc28 => ?_) (fun hF hc28 => ?_)
 ·refine rg ?_
  refine pu 5 [(2, .pointer none), (3, I r24.1), (4, I r24.2)] (nx (CW.ret (QW.then_ret ?_)))
  obtain rfl := inj hF
  refine QW.ret3 rfl rfl rfl rfl ?_
  exact .inr ⟨rfl, rfl, hst.keep [] rfl⟩
 refine CW.skip (QW.next (CW.seq ?_))
 obtain ⟨o53, ho54, hF⟩ := bs hF
 refine CW.cutK (fun a w1 => ∃ (b51 : Nat) (S52 : List Nat), Rep 83 [(1, Pt b9), (7, Pt b51)] a ∧ St w (fp []) w1 [blkI b9 31 [.slice a2 (p0.Maps).length c3, .slice a5 (p0.Code).length c6], itI (R_t92 wb Sb) [Pt b51] S52 o53]) ?_ ?_
 ·refine CW.plan (by kernel_rfl) ?_
  intro w55 hch56
  have hst := hst.same hch56
  refine OA.ldN (i := 0) (cs := [.slice a2 (p0.Maps).length c3, .slice a5 (p0.Code).length c6]) rfl (by kernel_rfl) rfl rfl rfl (by kernel_rfl) (by kernel_rfl) (hst.blkN 0 rfl 0 2) ?_
  refine OA.pure [1] [(26, .pointer (some ⟨b9, 1, none⟩))] (by kernel_rfl) ?_
  refine OA.ld (i := 2) rfl (by kernel_rfl) rfl rfl rfl (by kernel_rfl) (hst.blk 0 rfl rfl) ?_
  refine OA.pure [3, 5] [(28, I ((p0.Code).length : Int)), (30, .pointer (some ⟨b9, 1, none⟩))] (by kernel_rfl) ?_
  refine OA.ld (i := 6) rfl (by kernel_rfl) rfl rfl rfl (by kernel_rfl) (hst.blk 0 rfl rfl) ?_
  refine OA.pure [7] [(32, I ((p0.Code).length : Int))] (by kernel_rfl) ?_
  refine OA.acts [4, 8] 4 (by kernel_rfl) (by kernel_rfl) (by kernel_rfl) (alts_cons ?_ (alts_cons ?_ alts_nil))
  ·refine Alt.of (i := 4) [6, 0] rfl rfl (by kernel_rfl) (by kernel_rfl) ?_
   obtain ⟨m57, hm58, ho54⟩ := bs ho54
   refine OW.make (enc := arrC (enc_api_Type) 8) (sz := 32) hst rfl rfl rfl rfl rfl (by kernel_rfl) el156 (fun _ => (api_Type.mk 0 (api_Span.mk 0 0) 0)) (by kernel_rfl) (fun _ => rfl) hm58 ?_
   intro g59 w60 hst
   refine OA.next ⟨(hst.blk 0 rfl rfl), (hst.blkN 0 rfl 0 2), trivial⟩ ?_
   refine OA.act (i := 8) [0] (by kernel_rfl) rfl rfl (by kernel_rfl) (by kernel_rfl) ?_
   obtain ⟨m61, hm62, ho54⟩ := bs ho54
   refine OW.make (enc := encBool) (sz := 1) hst rfl rfl rfl rfl rfl (by kernel_rfl) el4 false (by kernel_rfl) (fun _ => rfl) hm62 ?_
   intro g63 w64 hst
   refine OA.next ⟨(hst.blkN 0 rfl 0 2), trivial⟩ ?_
   refine OA.pure [9] [(34, .agg [.slice a2 (p0.Maps).length c3, .slice a5 (p0.Code).length c6, .slice (some ⟨g59, 0, none⟩) m57 m57, .slice (some ⟨g63, 0, none⟩) m61 m61, .slice none 0 0].toArray)] (by kernel_rfl) ?_
   refine OA.act (i := 10) [] (by kernel_rfl) rfl rfl (by kernel_rfl) (by kernel_rfl) ?_
   refine OW.box hst rfl rfl rfl rfl [.slice a2 (p0.Maps).length c3, .slice a5 (p0.Code).length c6, .slice (some ⟨g59, 0, none⟩) m57 m57, .slice (some ⟨g63, 0, none⟩) m61 m61, .slice none 0 0] rfl ?_
   intro b65 w66 hst
   refine OA.next trivial ?_
   refine OA.act (i := 11) [] (by kernel_rfl) rfl rfl (by kernel_rfl) (by kernel_rfl) ?_
   refine pu 1 [(7, Pt b65)] (OA.next trivial ?_)
   refine OA.fin (by kernel_rfl) (by kernel_rfl) ?_
   have hst := hst.borIn h0_0
   have hst := hst.borIn h0_1
   have hst := hst.nilRow api_Loop 180 enc_api_Loop 3
   have hst := hst.toIt 1 rfl (fun _ => rfl) (by decide)
   have hst := hst.toIt 2 rfl (fun _ => rfl) (by decide)
   have hst := hst.toIt 6 rfl (fun _ => rfl) (by decide)
   obtain ⟨S67, hst⟩ := hst.shutP5 (R_t146 wb Sb) rfl 3 4 5 1 2 6 [0] rfl rfl rfl rfl rfl rfl rfl (judge_judge.mk p0 (List.replicate m57 (fun _ => (api_Type.mk 0 (api_Span.mk 0 0) 0))) (List.replicate m61 false) ([] : List api_Loop)) rfl rfl
   obtain rfl := inj ho54
   exact QW.meet (fun a ha => ⟨b65, S67, ha.ag, hst.keep [0, 1] rfl⟩)
  obtain ⟨m57, hm58, ho54⟩ := bs ho54
  obtain ⟨m61, hm62, ho54⟩ := bs ho54
  refine Alt.of (i := 8) [2, 0] rfl rfl (by kernel_rfl) (by kernel_rfl) ?_
  refine OW.make (enc := encBool) (sz := 1) hst rfl rfl rfl rfl rfl (by kernel_rfl) el4 false (by kernel_rfl) (fun _ => rfl) hm62 ?_
  intro g68 w69 hst
  refine OA.next ⟨(hst.blk 0 rfl rfl), (hst.blkN 0 rfl 0 2), trivial⟩ ?_
  refine OA.act (i := 4) [0] (by kernel_rfl) rfl rfl (by kernel_rfl) (by kernel_rfl) ?_
  refine OW.make (enc := arrC (enc_api_Type) 8) (sz := 32) hst rfl rfl rfl rfl rfl (by kernel_rfl) el156 (fun _ => (api_Type.mk 0 (api_Span.mk 0 0) 0)) (by kernel_rfl) (fun _ => rfl) hm58 ?_
  intro g70 w71 hst
  refine OA.next ⟨(hst.blkN 0 rfl 0 2), trivial⟩ ?_
  refine OA.pure [9] [(34, .agg [.slice a2 (p0.Maps).length c3, .slice a5 (p0.Code).length c6, .slice (some ⟨g70, 0, none⟩) m57 m57, .slice (some ⟨g68, 0, none⟩) m61 m61, .slice none 0 0].toArray)] (by kernel_rfl) ?_
  refine OA.act (i := 10) [] (by kernel_rfl) rfl rfl (by kernel_rfl) (by kernel_rfl) ?_
  refine OW.box hst rfl rfl rfl rfl [.slice a2 (p0.Maps).length c3, .slice a5 (p0.Code).length c6, .slice (some ⟨g70, 0, none⟩) m57 m57, .slice (some ⟨g68, 0, none⟩) m61 m61, .slice none 0 0] rfl ?_
  intro b72 w73 hst
  refine OA.next trivial ?_
  refine OA.act (i := 11) [] (by kernel_rfl) rfl rfl (by kernel_rfl) (by kernel_rfl) ?_
  refine pu 1 [(7, Pt b72)] (OA.next trivial ?_)
  refine OA.fin (by kernel_rfl) (by kernel_rfl) ?_
  have hst := hst.borIn h0_0
  have hst := hst.borIn h0_1
  have hst := hst.nilRow api_Loop 180 enc_api_Loop 3
  have hst := hst.toIt 2 rfl (fun _ => rfl) (by decide)
  have hst := hst.toIt 1 rfl (fun _ => rfl) (by decide)
  have hst := hst.toIt 6 rfl (fun _ => rfl) (by decide)
  obtain ⟨S74, hst⟩ := hst.shutP5 (R_t146 wb Sb) rfl 3 4 5 2 1 6 [0] rfl rfl rfl rfl rfl rfl rfl (judge_judge.mk p0 (List.replicate m57 (fun _ => (api_Type.mk 0 (api_Span.mk 0 0) 0))) (List.replicate m61 false) ([] : List api_Loop)) rfl rfl
  obtain rfl := inj ho54
  exact QW.meet (fun a ha => ⟨b72, S74, ha.ag, hst.keep [0, 1] rfl⟩)
 rintro a w1 ⟨b51, S52, ha, hst⟩
 refine CW.go ?_ ha
 refine CW.seq ?_
 obtain ⟨v75, S76, v77, S78, v79, S80, v81, S82, v83, S84, hst⟩ := hst.openQ5 1 rfl rfl rfl rfl rfl rfl
 have hbo85 := hst.borOut 2 rfl
 have hbr86 := hbo85.bor hb
 have hbo87 := hst.borOut 3 rfl
 have hbr88 := hbo87.bor hb
 have hst := hst.toRow1 4 rfl
 have hst := hst.toRow1 5 rfl
 have hst := hst.toRow1 6 rfl
 have hst := hst.keep [0, 1, 4, 5, 6] rfl
 obtain ⟨l89, a90, c91, rfl⟩ := hbr86.len
 obtain ⟨l92, a93, c94, rfl⟩ := hbr88.len
 obtain ⟨l95, a96, c97, rfl⟩ := hst.len 2 rfl
 obtain ⟨l98, a99, c100, rfl⟩ := hst.len 3 rfl
 obtain ⟨l101, a102, c103, rfl⟩ := hst.len 4 rfl
 have hst : St _ _ _ [_, blkI b51 146 [.slice a90 (o53.Module.Maps).length c91, .slice a93 (o53.Module.Code).length c94, .slice a96 (o53.came).length c97, .slice a99 (o53.any).length c100, .slice a102 (o53.loops).length c103], _, _, _] := hst
 refine CW.region ?_
 refine pu 2 [(37, Pt b51), (38, .pointer (some ⟨b9, 1, none⟩))] ?_
 refine OW.ld rfl rfl rfl rfl (by kernel_rfl) (hst.blk 0 rfl rfl) ?_
 obtain ⟨r113, hr114, hF⟩ := bs hF
 refine OW.fn rfl rfl rfl rfl (by kernel_rfl) (flow_Loops_ok _ (.slice a5 (p0.Code).length c6) p0.Code r113 hr114 (hst.part [] rfl) (h0_1b.give hst []) (hT0.give hst [])) ?_
 rintro e w115 ⟨v117, rfl, hst116⟩
 refine ⟨_, rfl, ?_⟩
 have hst := hst.join (idx := []) (rest := [0, 1, 2, 3, 4]) rfl hst116
 obtain ⟨l118, a119, c120, rfl⟩ := hst.len 0 rfl
 refine pu 5 [(41, .slice a119 (r113.1).length c120), (44, .pointer (some ⟨b51, 4, none⟩))] ?_
 refine OW.stB hst 2 rfl rfl rfl rfl rfl (by kernel_rfl) rfl rfl [.slice a90 (o53.Module.Maps).length c91, .slice a93 (o53.Module.Code).length c94, .slice a96 (o53.came).length c97, .slice a99 (o53.any).length c100, .slice a119 (r113.1).length c120] rfl ?_
 intro w121 hst
 refine nx (rg ?_)
 refine pu 3 [(47, .pointer (some ⟨b51, 3, none⟩))] ?_
 refine OW.ld rfl rfl rfl rfl (by kernel_rfl) (hst.blk 2 rfl rfl) ?_
 obtain ⟨x129, hx130, hF⟩ := bs hF
 obtain ⟨g132, o133, c134, hv131⟩ := hst.rowv 4 rfl hx130
 refine OW.idx 4 1 rfl rfl rfl rfl hv131 rfl (idx_some hx130).1 (idx_some hx130).2.1 (by kernel_rfl) (by kernel_rfl) ?_
 refine OW.stR hst 4 rfl hv131 (fun _ => rfl) rfl rfl hx130 0 rfl rfl rfl (by kernel_rfl) rfl rfl true rfl ?_
 intro w135 hst
 refine nx (CW.seq (rg ?_))
 refine pu 1 [(50, .pointer (some ⟨b9, 1, none⟩))] ?_
 refine OW.ld rfl rfl rfl rfl (by kernel_rfl) (hst.blk 1 rfl rfl) ?_
 refine pu 2 [(52, I ((p0.Code).length : Int)), (53, I 0)] (nx ?_)
 obtain ⟨o396, ho397, hF⟩ := bs hF
 refine CW.cutK (fun a w1 => ∃ (t398 : judge_judge) (S395 : List Nat), o396 = .inl t398 ∧ Rep 83 [(7, Pt b51)] a ∧ St w (fp []) w1 [itI (R_t92 wb Sb) [Pt b51] S395 t398]) ?_ ?_
 ·refine CW.block ?_
  have hst := hst.borIn hbo85
  have hst := hst.borIn hbo87
  have hst := hst.toIt 3 rfl (fun _ => rfl) (by decide)
  have hst := hst.toIt 4 rfl (fun _ => rfl) (by decide)
  have hst := hst.toIt 0 rfl (fun _ => rfl) (by decide)
  obtain ⟨S399, hst⟩ := hst.shutP5 (R_t146 wb Sb) rfl 2 6 7 3 4 0 [1, 5] rfl rfl rfl rfl rfl rfl rfl (judge_judge.mk o53.Module o53.came (o53.any.set (Int.toNat 0) true) r113.1) rfl rfl
  refine CW.loop (fun n a w1 => ∃ (i573 : Nat) (s571 : judge_judge) (S572 : List Nat), i573 + n = (p0.Code).length ∧ Rep 83 [(7, Pt b51), (52, I ((p0.Code).length : Int)), (53, I (i573 : Int))] a ∧ St w (fp []) w1 [itI (R_t92 wb Sb) [Pt b51] S572 s571] ∧ forN (judge_judged_l1 fu) (fun (s571 : judge_judge) => (.inl s571)) n i573 s571 = some o396) (p0.Code).length (fun a ha => ⟨0, (judge_judge.mk o53.Module o53.came (o53.any.set (Int.toNat 0) true) r113.1), S399, Nat.zero_add _, ha.ag, hst.keep [2] rfl, ho397⟩) ?_
  rintro n569 a w1 ⟨i573, s571, S572, hi574, ha, hst, hl570⟩
  refine CW.go ?_ ha
  refine rg ?_
  refine pu 1 [(54, .bool (decide ((i573 : Int) < ((p0.Code).length : Int))))] (nx (CW.seq ?_))
  rcases bft (decide ((i573 : Int) < ((p0.Code).length : Int))) with hc575 | hc575
  ·rcases n569 with _ | n569
   ·exact (cnt0 hi574 hc575).elim
   refine CW.cond_t rfl hc575 (CW.skip (QW.next (CW.seq (CW.block (rg ?_)))))
   refine pu 2 [(8, I (i573 : Int))] (nx (CW.seq (CW.seq ?_)))
   obtain ⟨v576, S577, v578, S579, v580, S581, v582, S583, v584, S585, hst⟩ := hst.openQ5 0 rfl rfl rfl rfl rfl rfl
   have hbo586 := hst.borOut 1 rfl
   have hbr587 := hbo586.bor hb
   have hbo588 := hst.borOut 2 rfl
   have hbr589 := hbo588.bor hb
   have hst := hst.toRow1 3 rfl
   have hst := hst.toRow1 4 rfl
   have hst := hst.toRow1 5 rfl
   have hst := hst.keep [0, 3, 4, 5] rfl
   obtain ⟨l590, a591, c592, rfl⟩ := hbr587.len
   obtain ⟨l593, a594, c595, rfl⟩ := hbr589.len
   obtain ⟨l596, a597, c598, rfl⟩ := hst.len 1 rfl
   obtain ⟨l599, a600, c601, rfl⟩ := hst.len 2 rfl
   obtain ⟨l602, a603, c604, rfl⟩ := hst.len 3 rfl
   have hst : St _ _ _ [blkI b51 146 [.slice a591 (s571.Module.Maps).length c592, .slice a594 (s571.Module.Code).length c595, .slice a597 (s571.came).length c598, .slice a600 (s571.any).length c601, .slice a603 (s571.loops).length c604], _, _, _] := hst
   refine CW.region ?_
   refine pu 3 [(58, .pointer (some ⟨b51, 3, none⟩))] ?_
   refine OW.ld rfl rfl rfl rfl (by kernel_rfl) (hst.blk 0 rfl rfl) ?_
   refine pu 1 [(60, I (i573 : Int))] ?_
   obtain ⟨x611, hx612, hl570⟩ := bs hl570
   obtain ⟨g614, o615, c616, hv613⟩ := hst.rowv 2 rfl hx612
   refine OW.idx 4 1 rfl rfl rfl rfl hv613 rfl (idx_some hx612).1 (idx_some hx612).2.1 (by kernel_rfl) (by kernel_rfl) ?_
   refine OW.ld rfl rfl rfl rfl (by kernel_rfl) (hst.rowc 2 rfl (fun _ => rfl) hx612 hv613 0 _ rfl) ?_
   refine pu 1 [(63, .bool (!x611))] (nx ?_)
   refine br ((!x611)) hl570 (fun hl570 hc617 => ?_) (fun hl570 hc617 => ?_)
   ·refine CW.exit (QW.then_exit ?_)
    refine QW.block_here (QW.next (CW.region ?_))
    refine pu 2 [(53, I (w64 ((i573 : Int) + 1)))] (OW.nil rfl ?_)
    have hst := hst.borIn hbo586
    have hst := hst.borIn hbo588
    have hst := hst.toIt 1 rfl (fun _ => rfl) (by decide)
    have hst := hst.toIt 2 rfl (fun _ => rfl) (by decide)
    have hst := hst.toIt 3 rfl (fun _ => rfl) (by decide)
    obtain ⟨S618, hst⟩ := hst.shutP5 (R_t146 wb Sb) rfl 0 4 5 1 2 3 [] rfl rfl rfl rfl rfl rfl rfl s571 rfl rfl
    refine QW.say 53 rfl (congrArg (Value.int .i64) (w64_cnt hc575 l4)) ?_
    exact QW.meet (fun a ha => ⟨n569, Nat.lt_succ_self _, i573 + 1, s571, S618, cnt_next hi574, ha.ag, hst.keep [0] rfl, hl570⟩)
   refine CW.skip (QW.next (rg ?_))
   refine pu 2 [(64, Pt b51), (65, I (i573 : Int))] ?_
   have hst := hst.borIn hbo586
   have hst := hst.borIn hbo588
   have hst := hst.toIt 1 rfl (fun _ => rfl) (by decide)
   have hst := hst.toIt 2 rfl (fun _ => rfl) (by decide)
   have hst := hst.toIt 3 rfl (fun _ => rfl) (by decide)
   obtain ⟨S625, hst⟩ := hst.shutP5 (R_t146 wb Sb) rfl 0 4 5 1 2 3 [] rfl rfl rfl rfl rfl rfl rfl s571 rfl rfl
   obtain ⟨r626, hr627, hl570⟩ := bs hl570
   refine OW.fn rfl rfl rfl rfl (by kernel_rfl) (judge_judge_widen_ok _ wb Sb (Pt b51) S625 s571 (i573 : Int) r626 hr627 (hst.part [0] rfl) (hb.on hst [0]) (hT0.give hst [0])) ?_
   rintro e w628 ⟨S630, rfl, hst629⟩
   refine ⟨_, rfl, ?_⟩
   have hst := hst.join (idx := [0]) (rest := []) rfl hst629
   refine nx (rg ?_)
   refine pu 2 [(68, Pt b51), (69, I (i573 : Int))] ?_
   obtain ⟨r639, hr640, hl570⟩ := bs hl570
   refine OW.fn rfl rfl rfl rfl (by kernel_rfl) (judge_judge_one_ok _ wb Sb fu (Pt b51) S630 r626 (i573 : Int) r639 hr640 (hst.part [0] rfl) (hb.on hst [0]) (hT0.give hst [0]) (hT1.give hst [0])) ?_
   rintro e w641 ⟨S643, rfl, hst642⟩
   refine ⟨_, rfl, ?_⟩
   have hst := hst.join (idx := [0]) (rest := []) rfl hst642
   refine pu 3 [(71, .agg (arrC (enc_api_Type) 8 r639.1).toArray), (72, I r639.2)] ?_
   refine OW.alloc hst rfl rfl rfl [I 0, U 0, U 0, I 0, I 0, U 0, U 0, I 0, I 0, U 0, U 0, I 0, I 0, U 0, U 0, I 0, I 0, U 0, U 0, I 0, I 0, U 0, U 0, I 0, I 0, U 0, U 0, I 0, I 0, U 0, U 0, I 0] (by kernel_rfl) ?_
   intro b644 w645 hst
   refine OW.stB hst 1 rfl rfl rfl rfl rfl (by kernel_rfl) rfl rfl (arrC (enc_api_Type) 8 r639.1) rfl ?_
   intro w646 hst
   refine pu 1 [(10, I r639.2)] (nx (CW.seq (rg ?_)))
   refine pu 2 [(74, .bool (r639.2 != 0))] (nx ?_)
   refine br ((r639.2 != 0)) hl570 (fun hl570 hc647 => ?_) (fun hl570 hc647 => ?_)
   ·refine rg ?_
    refine pu 5 [(2, .pointer none), (3, I (i573 : Int)), (4, I r639.2)] (nx (CW.ret (QW.then_ret (QW.block_ret (QW.then_ret (QW.then_ret (QW.block_ret (QW.then_ret ?_))))))))
    obtain rfl := inj hl570
    obtain rfl := inj hF
    refine QW.ret3 rfl rfl rfl rfl ?_
    exact .inr ⟨rfl, rfl, hst.keep [] rfl⟩
   refine CW.skip (QW.next (CW.region ?_))
   refine pu 2 [(77, Pt b51), (78, I (i573 : Int))] ?_
   refine OW.ldN (cs := (arrC (enc_api_Type) 8 r639.1)) rfl rfl rfl rfl (by kernel_rfl) (by kernel_rfl) (hst.blkN 1 rfl 0 32) ?_
   obtain ⟨r653, hr654, hl570⟩ := bs hl570
   refine OW.fn rfl rfl rfl rfl (by kernel_rfl) (judge_judge_ways_ok _ wb Sb (Pt b51) S643 r626 (i573 : Int) r639.1 r653 hr654 (hst.part [0] rfl) (hb.on hst [0]) (hT0.give hst [0])) ?_
   rintro e w655 ⟨S657, rfl, hst656⟩
   refine ⟨_, rfl, ?_⟩
   have hst := hst.join (idx := [0]) (rest := [1]) rfl hst656
   refine OW.nil rfl (QW.block_normal (QW.next (CW.region ?_)))
   refine pu 2 [(53, I (w64 ((i573 : Int) + 1)))] (OW.nil rfl ?_)
   refine QW.say 53 rfl (congrArg (Value.int .i64) (w64_cnt hc575 l4)) ?_
   exact QW.meet (fun a ha => ⟨n569, Nat.lt_succ_self _, i573 + 1, r653, S657, cnt_next hi574, ha.ag, hst.keep [0] rfl, hl570⟩)
  rcases n569 with _ | n569
  ·refine CW.cond_f rfl hc575 ?_
   refine CW.exit (QW.then_exit (QW.then_exit ?_))
   refine QW.block_here ?_
   obtain rfl := inj hl570
   exact QW.meet (fun a ha => ⟨s571, S572, rfl, ha.ag, hst.keep [0] rfl⟩)
  exact (cnt1 hi574 hc575).elim
 rintro a w1 ⟨t398, S395, rfl, ha, hst⟩
 refine CW.go ?_ ha
 refine rg ?_
 refine pu 4 [(2, Pt b51), (3, I 0), (4, I 0)] (nx (CW.ret ?_))
 obtain rfl := inj hF
 refine QW.ret3 rfl rfl rfl rfl ?_
 exact .inl ⟨_, (Pt b51), S395, rfl, rfl, hst.keep [0] rfl⟩
theorem judge_Judge_ok (w : World) (wb : World) (Sb : List Nat) (fu : Nat) (v0_0 : Value) (v0_1 : Value) (p0 : api_Module) (r : Int × Int) (hF : judge_Judge fu p0 = some r)
    (hst : St w (fp []) w []) (hb : Bor wb Sb w (fp [])) (h0_0 : Rd wb Sb v0_0 (encInt .i64) 1 p0.Maps) (h0_1 : Rd wb Sb v0_1 enc_api_Inst 5 p0.Code) (hT0 : Rd w (fp []) (.slice (some ⟨0, 0, none⟩) 23 23) enc_ops_form 2 tab_g0) (hT1 : Rd w (fp []) (.slice (some ⟨1, 0, none⟩) 7 7) enc_sigs_sig 5 tab_g1) :
    Calls Tryz.prog 11 [.agg [v0_0, v0_1].toArray].toArray w (fun e w' => e = .returned (.tuple #[I r.1, I r.2]) ∧ St w (fp []) w' []) := by
 refine CW.start (N := 15) Tryz.func11 rfl rfl rfl ?_
 have h0_0b := h0_0.bor hb
 have h0_1b := h0_1.bor hb
 obtain ⟨l1, a2, c3, rfl⟩ := h0_0b.len
 obtain ⟨l4, a5, c6, rfl⟩ := h0_1b.len
 refine rg ?_
 refine OW.box hst rfl rfl rfl rfl [.slice a2 (p0.Maps).length c3, .slice a5 (p0.Code).length c6] rfl ?_
 intro b9 w10 hst
 refine pu 2 [] (nx (rg ?_))
 refine OW.ldN (cs := [.slice a2 (p0.Maps).length c3, .slice a5 (p0.Code).length c6]) rfl rfl rfl rfl (by kernel_rfl) (by kernel_rfl) (hst.blkN 0 rfl 0 2) ?_
 obtain ⟨r21, hr22, hF⟩ := bs hF
 refine OW.fn rfl rfl rfl rfl (by kernel_rfl) (judge_judged_ok _ wb Sb fu (.slice a2 (p0.Maps).length c3) (.slice a5 (p0.Code).length c6) p0 r21 hr22 (hst.part [] rfl) (hb.on hst []) h0_0 h0_1 (hT0.give hst []) (hT1.give hst [])) ?_
 rintro e w23 (⟨k25, v27, S28, he26, rfl, hst24⟩ | ⟨he29, rfl, hst24⟩)
 ·have hF := ocase_some hF he26
  refine ⟨_, rfl, ?_⟩
  have hst := hst.join (idx := []) (rest := [0]) rfl hst24
  obtain ⟨b30, rfl⟩ := hst.fptr 0 rfl
  refine pu 7 [(5, I r21.2.1), (6, I r21.2.2)] (nx (rg ?_))
  refine pu 4 [(2, I r21.2.1), (3, I r21.2.2)] (nx (CW.ret ?_))
  obtain rfl := inj hF
  refine QW.ret2 rfl rfl rfl ?_
  exact ⟨rfl, hst.keep [] rfl⟩
 have hF := ocase_none hF he29
 refine ⟨_, rfl, ?_⟩
 have hst := hst.join (idx := []) (rest := [0]) rfl hst24
 refine pu 7 [(5, I r21.2.1), (6, I r21.2.2)] (nx (rg ?_))
 refine pu 4 [(2, I r21.2.1), (3, I r21.2.2)] (nx (CW.ret ?_))
 obtain rfl := inj hF
 refine QW.ret2 rfl rfl rfl ?_
 exact ⟨rfl, hst.keep [] rfl⟩
theorem slices_Clone_int_int_ok (w : World) (v0 : Value) (p0 : List Int) (r : (List Int)) (hF : slices_Clone_int_int p0 = some r)
    (hst : St w (fp []) w []) (h0 : Rd w (fp []) v0 (encInt .i64) 1 p0) :
    Calls Tryz.prog 41 [v0].toArray w (fun e w' => ∃ (x0 : Value), e = .returned (x0) ∧ St w (fp []) w' [rowI x0 3 (encInt .i64) 1 r]) := by
 refine CW.start (N := 8) Tryz.func41 rfl rfl rfl ?_
 obtain ⟨l1, a2, c3, rfl⟩ := h0.len
 refine rg ?_
 refine pu 1 [] (nx (CW.seq (rg ?_)))
 refine pu 1 [(3, .slice a2 (p0).length c3)] ?_
 refine OW.op (v := .bool (a2).isNone) rfl rfl rfl rfl (fun a ha => snil_run (e := 3) rfl rfl rfl (by kernel_rfl) a _ ha) (nx ?_)
 rcases bft ((a2).isNone) with hc4 | hc4
 ·have hn5 := h0.isnil (fun _ => ⟨_, rfl⟩) hc4
  have hF : some ([] : List Int) = some r := by rw [hn5] at hF; exact hF
  refine CW.cond_t rfl hc4 (rg ?_)
  refine pu 1 [(2, .slice none 0 0)] (nx (CW.ret (QW.then_ret ?_)))
  have hst := hst.nilRow Int 3 (encInt .i64) 1
  obtain rfl := inj hF
  refine QW.ret1 rfl rfl ?_
  exact ⟨(.slice none 0 0), rfl, hst.keep [0] rfl⟩
 refine CW.cond_f rfl hc4 (CW.skip (QW.next (rg ?_)))
 refine OW.row (α := Int) (e := 3) (enc := encInt .i64) (sz := 1) hst rfl rfl rfl [] rfl (fun _ => rfl) rfl rfl (fun _ => by kernel_rfl) ?_
 intro g15 w16 hst
 refine pu 1 [(6, .slice a2 (p0).length c3)] ?_
 obtain ⟨u17, hr18, hF⟩ := bs hF
 refine OW.app hst 0 rfl (fun _ => rfl) (fun _ => rfl) rfl rfl rfl rfl rfl rfl (by kernel_rfl) el3 (h0.on hst) (room_le hr18) ?_
 intro v19 w20 hst
 obtain ⟨l21, a22, c23, rfl⟩ := hst.len 0 rfl
 refine pu 1 [(2, .slice a22 ((([] : List Int) ++ p0)).length c23)] (nx (CW.ret ?_))
 obtain rfl := inj hF
 refine QW.ret1 rfl rfl ?_
 exact ⟨(.slice a22 ((([] : List Int) ++ p0)).length c23), rfl, hst.keep [0] rfl⟩
theorem refs_Refs_Hold_ok (w : World) (v0 : Value) (S0 : List Nat) (p0 : refs_Refs) (p1 : Int) (v2 : Value) (p2 : List Int) (r : Int × refs_Refs) (hF : refs_Refs_Hold p0 p1 p2 = some r)
    (hst : St w (fp [itI R_t54 [v0] S0 p0]) w [itI R_t54 [v0] S0 p0]) (h2 : Rd w (fp [itI R_t54 [v0] S0 p0]) v2 (encInt .i64) 1 p2) :
    Calls Tryz.prog 39 [v0, I p1, v2].toArray w (fun e w' => ∃ (s0 : List Nat), e = .returned (I r.1) ∧ St w (fp [itI R_t54 [v0] S0 p0]) w' [itI R_t54 [v0] s0 r.2]) := by
 refine CW.start (N := 53) Tryz.func39 rfl rfl rfl ?_
 obtain ⟨l1, a2, c3, rfl⟩ := h2.len
 obtain ⟨b4, rfl⟩ := hst.fptr 0 rfl
 refine rg ?_
 refine pu 1 [] (nx (CW.seq (rg ?_)))
 refine pu 3 [(11, .slice a2 (p2).length c3), (12, I ((p2).length : Int)), (13, I 0)] (nx ?_)
 obtain ⟨o147, ho148, hF⟩ := bs hF
 refine CW.cutK (fun a w1 => ∃ (t149 : Unit) (S146 : List Nat), o147 = .inl t149 ∧ Rep 53 [(0, Pt b4), (1, I p1), (2, .slice a2 (p2).length c3)] a ∧ St w (fp [itI R_t54 [Pt b4] S0 p0]) w1 [itI R_t54 [Pt b4] S146 p0]) ?_ ?_
 ·refine CW.block ?_
  refine CW.loop (fun n a w1 => ∃ (i245 : Nat) (s243 : Unit) (S244 : List Nat), i245 + n = (p2).length ∧ Rep 53 [(0, Pt b4), (1, I p1), (2, .slice a2 (p2).length c3), (11, .slice a2 (p2).length c3), (12, I ((p2).length : Int)), (13, I (i245 : Int))] a ∧ St w (fp [itI R_t54 [Pt b4] S0 p0]) w1 [itI R_t54 [Pt b4] S244 p0] ∧ forN (refs_Refs_Hold_l1 p0 p2) (fun (s243 : Unit) => (.inl ())) n i245 s243 = some o147) (p2).length (fun a ha => ⟨0, (), S0, Nat.zero_add _, ha.ag, hst.keep [0] rfl, ho148⟩) ?_
  rintro n241 a w1 ⟨i245, s243, S244, hi246, ha, hst, hl242⟩
  refine CW.go ?_ ha
  refine rg ?_
  refine pu 1 [(14, .bool (decide ((i245 : Int) < ((p2).length : Int))))] (nx (CW.seq ?_))
  rcases bft (decide ((i245 : Int) < ((p2).length : Int))) with hc247 | hc247
  ·rcases n241 with _ | n241
   ·exact (cnt0 hi246 hc247).elim
   refine CW.cond_t rfl hc247 (CW.skip (QW.next (CW.seq (CW.block (rg ?_)))))
   refine pu 1 [(15, I (i245 : Int))] ?_
   obtain ⟨x254, hx255, hl242⟩ := bs hl242
   obtain ⟨g257, o258, c259, hv256⟩ := h2.formv (fun _ => ⟨_, rfl⟩) hx255
   refine OW.idx 3 1 rfl rfl rfl rfl hv256 rfl (idx_some hx255).1 (idx_some hx255).2.1 (by kernel_rfl) (by kernel_rfl) ?_
   refine OW.ld rfl rfl rfl rfl (by kernel_rfl) (h2.cellv hst hx255 hv256 0 _ rfl) ?_
   refine pu 2 [(7, I (i245 : Int)), (8, I x254)] (nx (CW.seq ?_))
   obtain ⟨v260, S261, hst⟩ := hst.openQ1 0 rfl rfl
   obtain ⟨r262, rfl, hst⟩ := hst.toMN1 1 rfl
   have hst : St _ _ _ [blkI b4 112 [I p0.maps, .map (some r262)], _] := hst
   obtain ⟨o276, ho277, hl242⟩ := bs hl242
   refine CW.cutK (fun a w1 => ∃ (S275 : List Nat), Rep 53 [(0, Pt b4), (1, I p1), (2, .slice a2 (p2).length c3), (11, .slice a2 (p2).length c3), (12, I ((p2).length : Int)), (13, I (i245 : Int)), (34, .bool o276)] a ∧ St w (fp [itI R_t54 [Pt b4] S0 p0]) w1 [itI R_t54 [Pt b4] S275 p0]) ?_ ?_
   ·refine CW.region ?_
    refine pu 3 [(20, .bool (decide (x254 < 0)))] ?_
    refine OW.split 20 rfl (fun hc278 => ?_) (fun hc278 => ?_)
    ·have ho277 := ite_t ho277 hc278
     refine pu 14 [(34, .bool true)] (OW.nil rfl ?_)
     have hst := hst.ofMN 1 rfl
     obtain ⟨S279, hst⟩ := hst.shutP1 R_t112 rfl 0 1 [] rfl rfl rfl p0 rfl rfl
     obtain rfl := inj ho277
     exact QW.meet (fun a ha => ⟨S279, ha.ag, hst.keep [0] rfl⟩)
    have ho277 := ite_f ho277 hc278
    refine pu 4 [(21, I x254), (24, Pt b4)] ?_
    refine OW.ld rfl rfl rfl rfl (by kernel_rfl) (hst.blk 0 rfl rfl) ?_
    refine pu 3 [(28, .bool (decide (x254 ≥ p0.maps)))] ?_
    refine OW.split 28 rfl (fun hc280 => ?_) (fun hc280 => ?_)
    ·have ho277 := ite_t ho277 hc280
     refine pu 6 [(34, .bool true)] (OW.nil rfl ?_)
     have hst := hst.ofMN 1 rfl
     obtain ⟨S281, hst⟩ := hst.shutP1 R_t112 rfl 0 1 [] rfl rfl rfl p0 rfl rfl
     obtain rfl := inj ho277
     exact QW.meet (fun a ha => ⟨S281, ha.ag, hst.keep [0] rfl⟩)
    have ho277 := ite_f ho277 hc280
    refine pu 2 [(29, .slice a2 (p2).length c3), (30, I (i245 : Int))] ?_
    obtain ⟨ys282, hcut283, ho277⟩ := bs ho277
    refine OW.op (v := .slice a2 (ys282).length c3) rfl rfl rfl rfl (fun a ha => pre_run (e := 3) 1 rfl rfl rfl hcut283 h2.cap (by kernel_rfl) (by kernel_rfl) a _ ha) ?_
    have hp284 := h2.pre hcut283
    refine pu 1 [(32, I x254)] ?_
    obtain ⟨r285, hr286, ho277⟩ := bs ho277
    refine OW.fn rfl rfl rfl rfl (by kernel_rfl) (slices_Contains_int_int_ok _ (.slice a2 (ys282).length c3) ys282 x254 r285 hr286 (hst.part [] rfl) (hp284.give hst [])) ?_
    rintro e w287 ⟨rfl, hst288⟩
    refine ⟨_, rfl, ?_⟩
    have hst := hst.join (idx := []) (rest := [0, 1]) rfl hst288
    refine pu 1 [(34, .bool r285)] (OW.nil rfl ?_)
    have hst := hst.ofMN 1 rfl
    obtain ⟨S289, hst⟩ := hst.shutP1 R_t112 rfl 0 1 [] rfl rfl rfl p0 rfl rfl
    obtain rfl := inj ho277
    exact QW.meet (fun a ha => ⟨S289, ha.ag, hst.keep [0] rfl⟩)
   rintro a w1 ⟨S275, ha, hst⟩
   refine CW.go ?_ ha
   refine br (o276) hl242 (fun hl242 hc290 => ?_) (fun hl242 hc290 => ?_)
   ·refine rg ?_
    refine pu 1 [(6, I 2)] (nx (CW.ret (QW.block_ret (QW.then_ret (QW.then_ret (QW.block_ret (QW.then_ret ?_)))))))
    obtain rfl := inj hl242
    obtain rfl := inj hF
    refine QW.ret1 rfl rfl ?_
    exact ⟨S275, rfl, hst.keep [0] rfl⟩
   refine CW.skip (QW.block_normal (QW.next (CW.region ?_)))
   refine pu 2 [(13, I (w64 ((i245 : Int) + 1)))] (OW.nil rfl ?_)
   refine QW.say 13 rfl (congrArg (Value.int .i64) (w64_cnt hc247 l1)) ?_
   exact QW.meet (fun a ha => ⟨n241, Nat.lt_succ_self _, i245 + 1, (), S275, cnt_next hi246, ha.ag, hst.keep [0] rfl, hl242⟩)
  rcases n241 with _ | n241
  ·refine CW.cond_f rfl hc247 ?_
   refine CW.exit (QW.then_exit (QW.then_exit ?_))
   refine QW.block_here ?_
   obtain rfl := inj hl242
   exact QW.meet (fun a ha => ⟨(), S244, rfl, ha.ag, hst.keep [0] rfl⟩)
  exact (cnt1 hi246 hc247).elim
 rintro a w1 ⟨t149, S146, rfl, ha, hst⟩
 refine CW.go ?_ ha
 refine CW.seq (CW.seq ?_)
 obtain ⟨v291, S292, hst⟩ := hst.openQ1 0 rfl rfl
 obtain ⟨r293, rfl, hst⟩ := hst.toMN1 1 rfl
 have hst : St _ _ _ [blkI b4 112 [I p0.maps, .map (some r293)], _] := hst
 refine CW.region ?_
 refine pu 3 [(39, .pointer (some ⟨b4, 1, none⟩))] ?_
 refine OW.ld rfl rfl rfl rfl (by kernel_rfl) (hst.blk 0 rfl rfl) ?_
 refine pu 1 [(41, I p1)] ?_
 refine OW.mlook (tk := 3) (te := 28) (kd := .i64) R_t28 (fun o => o.getD []) hst 1 rfl rfl rfl rfl rfl rfl (by kernel_rfl) (by kernel_rfl) (.slice none 0 0) (by kernel_rfl) (fun w => ⟨_, rfl, rfl, Owns.nil w _ _ none⟩) (fun _ _ _ _ h => h) (fun _ _ _ _ h => h) ?_
 intro v300 S301 S302 hst
 have hst := hst.toRow1 2 rfl
 obtain ⟨l303, a304, c305, rfl⟩ := hst.len 2 rfl
 refine pu 5 [(10, .bool (mget p0.held p1).isSome)] (nx (rg ?_))
 refine pu 1 [(45, .bool (mget p0.held p1).isSome)] (nx ?_)
 refine br ((mget p0.held p1).isSome) hF (fun hF hc306 => ?_) (fun hF hc306 => ?_)
 ·refine rg ?_
  refine pu 1 [(6, I 42)] (nx (CW.ret (QW.then_ret ?_)))
  have hst := hst.toIt 2 rfl (fun _ => rfl) (by decide)
  obtain ⟨S307, hst⟩ := hst.mback0 (f := (fun o => o.getD [])) 1 2 rfl rfl rfl (fun _ _ _ _ h => h)
  have hst := hst.keep [0, 1] rfl
  have hst := hst.ofMN 1 rfl
  obtain ⟨S308, hst⟩ := hst.shutP1 R_t112 rfl 0 1 [] rfl rfl rfl p0 rfl rfl
  obtain rfl := inj hF
  refine QW.ret1 rfl rfl ?_
  exact ⟨S308, rfl, hst.keep [0] rfl⟩
 refine CW.skip (QW.next (CW.seq ?_))
 refine CW.plan (by kernel_rfl) ?_
 intro w321 hch322
 have hst := hst.same hch322
 refine OA.pure [0, 1, 2] [(48, .pointer (some ⟨b4, 1, none⟩))] (by kernel_rfl) ?_
 refine OA.ld (i := 3) rfl (by kernel_rfl) rfl rfl rfl (by kernel_rfl) (hst.blk 0 rfl rfl) ?_
 refine OA.pure [4, 5] [(50, I p1), (51, .slice a2 (p2).length c3)] (by kernel_rfl) ?_
 refine OA.act (i := 6) [3] (by kernel_rfl) rfl rfl (by kernel_rfl) (by kernel_rfl) ?_
 obtain ⟨r323, hr324, hF⟩ := bs hF
 refine OW.fn rfl rfl rfl rfl (by kernel_rfl) (slices_Clone_int_int_ok _ (.slice a2 (p2).length c3) p2 r323 hr324 (hst.part [] rfl) (h2.give hst [])) ?_
 rintro e w325 ⟨v327, rfl, hst326⟩
 refine ⟨_, rfl, ?_⟩
 have hst := hst.join (idx := []) (rest := [0, 1, 2]) rfl hst326
 obtain ⟨l328, a329, c330, rfl⟩ := hst.len 0 rfl
 refine OA.next ⟨(hst.blk 1 rfl rfl), trivial⟩ ?_
 refine OA.act (i := 7) [] (by kernel_rfl) rfl rfl (by kernel_rfl) (by kernel_rfl) ?_
 have hst := hst.keep [0, 1, 2] rfl
 have hst := hst.toIt 0 rfl (fun _ => rfl) (by decide)
 refine OW.mputN (tk := 3) (te := 28) (kd := .i64) hst 2 0 rfl rfl (fun _ _ e => by cases e; rfl) rfl rfl rfl rfl rfl rfl (by kernel_rfl) (by kernel_rfl) ?_
 intro S332 w331 hst
 have hst := hst.keep [1, 2] rfl
 refine OA.next trivial ?_
 refine OA.fin (by kernel_rfl) (by kernel_rfl) (QW.next (rg ?_))
 refine pu 1 [(6, I 0)] (nx (CW.ret ?_))
 have hst := hst.ofMN 1 rfl
 obtain ⟨S333, hst⟩ := hst.shutP1 R_t112 rfl 0 1 [] rfl rfl rfl (refs_Refs.mk p0.maps (mput p0.held p1 r323)) rfl rfl
 obtain rfl := inj hF
 refine QW.ret1 rfl rfl ?_
 exact ⟨S333, rfl, hst.keep [0] rfl⟩
theorem registry_Registry_Load_ok (w : World) (fu : Nat) (v0 : Value) (S0 : List Nat) (p0 : registry_Registry) (v1 : Value) (p1 : List Int) (r : Int × Int × registry_Registry) (hF : registry_Registry_Load fu p0 p1 = some r)
    (hst : St w (fp [itI R_t24 [v0] S0 p0]) w [itI R_t24 [v0] S0 p0]) (h1 : Rd w (fp [itI R_t24 [v0] S0 p0]) v1 (encInt .u8) 1 p1) (hT0 : Rd w (fp [itI R_t24 [v0] S0 p0]) (.slice (some ⟨0, 0, none⟩) 23 23) enc_ops_form 2 tab_g0) (hT1 : Rd w (fp [itI R_t24 [v0] S0 p0]) (.slice (some ⟨1, 0, none⟩) 7 7) enc_sigs_sig 5 tab_g1) :
    Calls Tryz.prog 12 [v0, v1].toArray w (fun e w' => ∃ (s0 : List Nat), e = .returned (.tuple #[I r.1, I r.2.1]) ∧ St w (fp [itI R_t24 [v0] S0 p0]) w' [itI R_t24 [v0] s0 r.2.2]) := by
 refine CW.start (N := 83) Tryz.func12 rfl rfl rfl ?_
 obtain ⟨l1, a2, c3, rfl⟩ := h1.len
 obtain ⟨b4, rfl⟩ := hst.fptr 0 rfl
 refine rg ?_
 refine pu 2 [] (nx (rg ?_))
 refine pu 1 [(14, .slice a2 (p1).length c3)] ?_
 obtain ⟨r38, hr39, hF⟩ := bs hF
 refine OW.fn rfl rfl rfl rfl (by kernel_rfl) (wire_Decode_ok _ _ _ fu (.slice a2 (p1).length c3) p1 r38 hr39 (hst.part [] rfl) (Bor.refl _ _) (h1.give hst []) (hT0.give hst [])) ?_
 rintro e w40 ⟨v42, v43, rfl, hst41⟩
 refine ⟨_, rfl, ?_⟩
 have hst := hst.join (idx := []) (rest := [0]) rfl hst41
 obtain ⟨l62, a63, c64, rfl⟩ := hst.len 0 rfl
 obtain ⟨l65, a66, c67, rfl⟩ := hst.len 1 rfl
 refine pu 4 [(16, .agg [.slice a63 (r38.1.Maps).length c64, .slice a66 (r38.1.Code).length c67].toArray), (17, I r38.2.1), (18, I r38.2.2)] ?_
 refine OW.alloc hst rfl rfl rfl [.slice none 0 0, .slice none 0 0] (by kernel_rfl) ?_
 intro b68 w69 hst
 refine OW.stB hst 3 rfl rfl rfl rfl rfl (by kernel_rfl) rfl rfl [.slice a63 (r38.1.Maps).length c64, .slice a66 (r38.1.Code).length c67] rfl ?_
 intro w70 hst
 refine pu 2 [(8, I r38.2.2)] (nx (CW.seq (rg ?_)))
 refine pu 2 [(20, .bool (r38.2.2 != 0))] (nx ?_)
 refine br ((r38.2.2 != 0)) hF (fun hF hc71 => ?_) (fun hF hc71 => ?_)
 ·refine rg ?_
  refine pu 3 [(4, I 0), (5, I r38.2.2)] (nx (CW.ret (QW.then_ret ?_)))
  obtain rfl := inj hF
  refine QW.ret2 rfl rfl rfl ?_
  exact ⟨S0, rfl, hst.keep [2] rfl⟩
 refine CW.skip (QW.next (CW.seq (rg ?_)))
 refine OW.ldN (cs := [.slice a63 (r38.1.Maps).length c64, .slice a66 (r38.1.Code).length c67]) rfl rfl rfl rfl (by kernel_rfl) (by kernel_rfl) (hst.blkN 3 rfl 0 2) ?_
 obtain ⟨r76, hr77, hF⟩ := bs hF
 refine OW.fn rfl rfl rfl rfl (by kernel_rfl) (judge_Judge_ok _ _ _ fu (.slice a63 (r38.1.Maps).length c64) (.slice a66 (r38.1.Code).length c67) r38.1 r76 hr77 (hst.part [] rfl) (Bor.refl _ _) (hst.rd 0 rfl (fun _ => rfl) [] rfl (hst.len 0 rfl).1) (hst.rd 1 rfl (fun _ => rfl) [] rfl (hst.len 1 rfl).1) (hT0.give hst []) (hT1.give hst [])) ?_
 rintro e w78 ⟨rfl, hst79⟩
 refine ⟨_, rfl, ?_⟩
 have hst := hst.join (idx := []) (rest := [0, 1, 2, 3]) rfl hst79
 refine pu 5 [(10, I r76.2)] (nx (rg ?_))
 refine pu 2 [(28, .bool (r76.2 != 0))] (nx ?_)
 refine br ((r76.2 != 0)) hF (fun hF hc80 => ?_) (fun hF hc80 => ?_)
 ·refine rg ?_
  refine pu 3 [(4, I 0), (5, I r76.2)] (nx (CW.ret (QW.then_ret ?_)))
  obtain rfl := inj hF
  refine QW.ret2 rfl rfl rfl ?_
  exact ⟨S0, rfl, hst.keep [2] rfl⟩
 refine CW.skip (QW.next (CW.seq (rg ?_)))
 refine pu 1 [(30, Pt b68)] ?_
 refine OW.ld rfl rfl rfl rfl (by kernel_rfl) (hst.blk 3 rfl rfl) ?_
 refine pu 2 [(32, I ((r38.1.Maps).length : Int)), (33, I 0)] (nx ?_)
 obtain ⟨o190, ho191, hF⟩ := bs hF
 refine CW.cutK (fun a w1 => ∃ (t192 : Unit) (S189 : List Nat), o190 = .inl t192 ∧ Rep 83 [(0, Pt b4), (6, Pt b68)] a ∧ St w (fp [itI R_t24 [Pt b4] S0 p0]) w1 [itI R_t24 [Pt b4] S189 p0, blkI b68 31 [.slice a63 (r38.1.Maps).length c64, .slice a66 (r38.1.Code).length c67], rowI (.slice a63 (r38.1.Maps).length c64) 3 (encInt .i64) 1 r38.1.Maps, rowI (.slice a66 (r38.1.Code).length c67) 42 enc_api_Inst 5 r38.1.Code]) ?_ ?_
 ·refine CW.block ?_
  refine CW.loop (fun n a w1 => ∃ (i266 : Nat) (s264 : Unit) (S265 : List Nat), i266 + n = (r38.1.Maps).length ∧ Rep 83 [(0, Pt b4), (6, Pt b68), (31, .slice a63 (r38.1.Maps).length c64), (32, I ((r38.1.Maps).length : Int)), (33, I (i266 : Int))] a ∧ St w (fp [itI R_t24 [Pt b4] S0 p0]) w1 [itI R_t24 [Pt b4] S265 p0, blkI b68 31 [.slice a63 (r38.1.Maps).length c64, .slice a66 (r38.1.Code).length c67], rowI (.slice a63 (r38.1.Maps).length c64) 3 (encInt .i64) 1 r38.1.Maps, rowI (.slice a66 (r38.1.Code).length c67) 42 enc_api_Inst 5 r38.1.Code] ∧ forN (registry_Registry_Load_l1 p0 r38) (fun (s264 : Unit) => (.inl ())) n i266 s264 = some o190) (r38.1.Maps).length (fun a ha => ⟨0, (), S0, Nat.zero_add _, ha.ag, hst.keep [2, 3, 0, 1] rfl, ho191⟩) ?_
  rintro n262 a w1 ⟨i266, s264, S265, hi267, ha, hst, hl263⟩
  refine CW.go ?_ ha
  refine rg ?_
  refine pu 1 [(34, .bool (decide ((i266 : Int) < ((r38.1.Maps).length : Int))))] (nx (CW.seq ?_))
  rcases bft (decide ((i266 : Int) < ((r38.1.Maps).length : Int))) with hc268 | hc268
  ·rcases n262 with _ | n262
   ·exact (cnt0 hi267 hc268).elim
   refine CW.cond_t rfl hc268 (CW.skip (QW.next (CW.seq (CW.block (rg ?_)))))
   obtain ⟨x275, hx276, hl263⟩ := bs hl263
   obtain ⟨g278, o279, c280, hv277⟩ := hst.rowv 2 rfl hx276
   refine OW.idx 3 1 rfl rfl rfl rfl hv277 rfl (idx_some hx276).1 (idx_some hx276).2.1 (by kernel_rfl) (by kernel_rfl) ?_
   refine OW.ld rfl rfl rfl rfl (by kernel_rfl) (hst.rowc 2 rfl (fun _ => rfl) hx276 hv277 0 _ rfl) ?_
   refine pu 1 [(12, I x275)] (nx (CW.seq ?_))
   obtain ⟨v281, S282, v283, S284, v285, S286, v287, S288, v289, S290, hst⟩ := hst.openQ5 0 rfl rfl rfl rfl rfl rfl
   obtain ⟨r291, rfl, hst⟩ := hst.toMN1 7 rfl
   have hst := hst.toRow1 8 rfl
   obtain ⟨b292, rfl⟩ := hst.fptr 4 rfl
   obtain ⟨b293, rfl⟩ := hst.fptr 5 rfl
   obtain ⟨b294, rfl⟩ := hst.fptr 6 rfl
   obtain ⟨l295, a296, c297, rfl⟩ := hst.len 8 rfl
   have hst : St _ _ _ [blkI b4 58 [Pt b292, Pt b293, Pt b294, I p0.hooks, I p0.maps, I p0.given, .map (some r291), .slice a296 (p0.waiting).length c297], _, _, _, _, _, _, _, _] := hst
   refine CW.region ?_
   refine pu 4 [(37, I x275), (40, .pointer (some ⟨b4, 4, none⟩))] ?_
   refine OW.ld rfl rfl rfl rfl (by kernel_rfl) (hst.blk 0 rfl rfl) ?_
   refine pu 1 [(42, .bool (decide (x275 ≥ p0.maps)))] (nx ?_)
   refine br (decide (x275 ≥ p0.maps)) hl263 (fun hl263 hc298 => ?_) (fun hl263 hc298 => ?_)
   ·refine rg ?_
    refine pu 2 [(4, I 0), (5, I 41)] (nx (CW.ret (QW.block_ret (QW.then_ret (QW.then_ret (QW.block_ret (QW.then_ret ?_)))))))
    have hst := hst.ofMN 7 rfl
    have hst := hst.toIt 8 rfl (fun _ => rfl) (by decide)
    obtain ⟨S299, hst⟩ := hst.shutP5 R_t58 rfl 0 4 5 6 7 8 [1, 2, 3] rfl rfl rfl rfl rfl rfl rfl p0 rfl rfl
    obtain rfl := inj hl263
    obtain rfl := inj hF
    refine QW.ret2 rfl rfl rfl ?_
    exact ⟨S299, rfl, hst.keep [3] rfl⟩
   refine CW.skip (QW.block_normal (QW.next (CW.region ?_)))
   refine pu 2 [(33, I (w64 ((i266 : Int) + 1)))] (OW.nil rfl ?_)
   have hst := hst.ofMN 7 rfl
   have hst := hst.toIt 8 rfl (fun _ => rfl) (by decide)
   obtain ⟨S300, hst⟩ := hst.shutP5 R_t58 rfl 0 4 5 6 7 8 [1, 2, 3] rfl rfl rfl rfl rfl rfl rfl p0 rfl rfl
   refine QW.say 33 rfl (congrArg (Value.int .i64) (w64_cnt hc268 l62)) ?_
   exact QW.meet (fun a ha => ⟨n262, Nat.lt_succ_self _, i266 + 1, (), S300, cnt_next hi267, ha.ag, hst.keep [3, 0, 1, 2] rfl, hl263⟩)
  rcases n262 with _ | n262
  ·refine CW.cond_f rfl hc268 ?_
   refine CW.exit (QW.then_exit (QW.then_exit ?_))
   refine QW.block_here ?_
   obtain rfl := inj hl263
   exact QW.meet (fun a ha => ⟨(), S265, rfl, ha.ag, hst.keep [0, 1, 2, 3] rfl⟩)
  exact (cnt1 hi267 hc268).elim
 rintro a w1 ⟨t192, S189, rfl, ha, hst⟩
 refine CW.go ?_ ha
 refine CW.seq (CW.seq ?_)
 obtain ⟨v301, S302, v303, S304, v305, S306, v307, S308, v309, S310, hst⟩ := hst.openQ5 0 rfl rfl rfl rfl rfl rfl
 obtain ⟨r311, rfl, hst⟩ := hst.toMN1 7 rfl
 have hst := hst.toRow1 8 rfl
 obtain ⟨b312, rfl⟩ := hst.fptr 4 rfl
 obtain ⟨b313, rfl⟩ := hst.fptr 5 rfl
 obtain ⟨b314, rfl⟩ := hst.fptr 6 rfl
 obtain ⟨l315, a316, c317, rfl⟩ := hst.len 8 rfl
 have hst : St _ _ _ [blkI b4 58 [Pt b312, Pt b313, Pt b314, I p0.hooks, I p0.maps, I p0.given, .map (some r311), .slice a316 (p0.waiting).length c317], _, _, _, _, _, _, _, _] := hst
 refine CW.region ?_
 refine pu 3 [(46, .pointer (some ⟨b4, 6, none⟩))] ?_
 refine OW.ld rfl rfl rfl rfl (by kernel_rfl) (hst.blk 0 rfl rfl) ?_
 refine OW.op (v := I (p0.progs.length : Int)) rfl rfl rfl rfl (mlenN_run (tk := 3) (te := 95) hst 7 rfl rfl rfl rfl (by kernel_rfl)) ?_
 refine pu 1 [(49, .bool (decide ((p0.progs.length : Int) ≥ 16)))] (nx ?_)
 refine br (decide ((p0.progs.length : Int) ≥ 16)) hF (fun hF hc318 => ?_) (fun hF hc318 => ?_)
 ·refine rg ?_
  refine pu 2 [(4, I 0), (5, I 40)] (nx (CW.ret (QW.then_ret ?_)))
  have hst := hst.ofMN 7 rfl
  have hst := hst.toIt 8 rfl (fun _ => rfl) (by decide)
  obtain ⟨S319, hst⟩ := hst.shutP5 R_t58 rfl 0 4 5 6 7 8 [1, 2, 3] rfl rfl rfl rfl rfl rfl rfl p0 rfl rfl
  obtain rfl := inj hF
  refine QW.ret2 rfl rfl rfl ?_
  exact ⟨S319, rfl, hst.keep [3] rfl⟩
 refine CW.skip (QW.next (rg ?_))
 refine pu 3 [(50, Pt b4), (52, .pointer (some ⟨b4, 5, none⟩))] ?_
 refine OW.ld rfl rfl rfl rfl (by kernel_rfl) (hst.blk 0 rfl rfl) ?_
 refine pu 3 [(54, I (w64 (p0.given + 1))), (56, .pointer (some ⟨b4, 5, none⟩))] ?_
 refine OW.stB hst 0 rfl rfl rfl rfl rfl (by kernel_rfl) rfl rfl [Pt b312, Pt b313, Pt b314, I p0.hooks, I p0.maps, I (w64 (p0.given + 1)), .map (some r311), .slice a316 (p0.waiting).length c317] rfl ?_
 intro w321 hst
 refine nx (CW.seq ?_)
 refine CW.plan (by kernel_rfl) ?_
 intro w328 hch329
 have hst := hst.same hch329
 refine OA.pure [0, 1, 2] [(59, .pointer (some ⟨b4, 6, none⟩))] (by kernel_rfl) ?_
 refine OA.ld (i := 3) rfl (by kernel_rfl) rfl rfl rfl (by kernel_rfl) (hst.blk 0 rfl rfl) ?_
 refine OA.pure [4, 5, 6] [(63, .pointer (some ⟨b4, 5, none⟩))] (by kernel_rfl) ?_
 refine OA.ld (i := 7) rfl (by kernel_rfl) rfl rfl rfl (by kernel_rfl) (hst.blk 0 rfl rfl) ?_
 refine OA.ldN (i := 8) (cs := [.slice a63 (r38.1.Maps).length c64, .slice a66 (r38.1.Code).length c67]) rfl (by kernel_rfl) rfl rfl rfl (by kernel_rfl) (by kernel_rfl) (hst.blkN 1 rfl 0 2) ?_
 refine OA.pure [9] [(66, .agg [.slice a63 (r38.1.Maps).length c64, .slice a66 (r38.1.Code).length c67, I 0].toArray)] (by kernel_rfl) ?_
 refine OA.act (i := 10) [7, 3] (by kernel_rfl) rfl rfl (by kernel_rfl) (by kernel_rfl) ?_
 refine OW.box hst rfl rfl rfl rfl [.slice a63 (r38.1.Maps).length c64, .slice a66 (r38.1.Code).length c67, I 0] rfl ?_
 intro b330 w331 hst
 refine OA.next ⟨(hst.blk 0 rfl rfl), (hst.blk 0 rfl rfl), trivial⟩ ?_
 refine OA.act (i := 11) [] (by kernel_rfl) rfl rfl (by kernel_rfl) (by kernel_rfl) ?_
 refine OW.mputH (tk := 3) (te := 95) (kd := .i64) hst 7 (registry_program.mk r38.1 0) rfl (fun _ _ e => by cases e) rfl rfl rfl rfl rfl (by kernel_rfl) (by kernel_rfl) ?_
 intro S333 w332 hst
 refine OA.next trivial ?_
 refine OA.fin (by kernel_rfl) (by kernel_rfl) (QW.next (CW.seq ?_))
 refine CW.tail 10 (by kernel_rfl) (by kernel_rfl) ?_
 intro w341 hch342
 have hst := hst.same hch342
 refine OS.pure 3 [(70, .pointer (some ⟨b4, 1, none⟩))] rfl (by kernel_rfl) ?_
 refine OS.ld rfl rfl rfl rfl rfl (by kernel_rfl) (hst.blk 0 rfl rfl) ?_
 refine OS.pure 3 [(74, .pointer (some ⟨b4, 5, none⟩))] rfl (by kernel_rfl) ?_
 refine OS.ld rfl rfl rfl rfl rfl (by kernel_rfl) (hst.blk 0 rfl rfl) ?_
 refine OS.pure 1 [(76, Pt b68)] rfl (by kernel_rfl) ?_
 refine OS.ld rfl rfl rfl rfl rfl (by kernel_rfl) (hst.blk 1 rfl rfl) ?_
 refine OS.on ?_
 obtain ⟨r343, hr344, hF⟩ := bs hF
 refine OW.fn rfl rfl rfl rfl (by kernel_rfl) (refs_Refs_Hold_ok _ (Pt b313) S304 p0.Refs (w64 (p0.given + 1)) (.slice a63 (r38.1.Maps).length c64) r38.1.Maps r343 hr344 (hst.part [5] rfl) (hst.rd 2 rfl (fun _ => rfl) [5] rfl (hst.len 2 rfl).1)) ?_
 rintro e w345 ⟨S347, rfl, hst346⟩
 refine ⟨_, rfl, ?_⟩
 have hst := hst.join (idx := [5]) (rest := [0, 1, 2, 3, 4, 6, 7, 8, 9]) rfl hst346
 refine nx (rg ?_)
 refine pu 3 [(81, .pointer (some ⟨b4, 5, none⟩))] ?_
 refine OW.ld rfl rfl rfl rfl (by kernel_rfl) (hst.blk 1 rfl rfl) ?_
 refine pu 2 [(4, I (w64 (p0.given + 1))), (5, I 0)] (nx (CW.ret ?_))
 have hst := hst.toIt 3 rfl (fun _ => rfl) (by decide)
 have hst := hst.toIt 4 rfl (fun _ => rfl) (by decide)
 obtain ⟨S348, hst⟩ := hst.shutP2 R_t97 rfl 9 3 4 [0, 1, 2, 5, 6, 7, 8] rfl rfl rfl rfl (registry_program.mk r38.1 0) rfl rfl
 have hst := hst.toOpt 7 rfl
 obtain ⟨S349, hst⟩ := hst.mback (f := (fun o => o)) 5 7 rfl rfl rfl (fun _ _ _ _ h => h) (registry_program.mk r38.1 0) (fun _ => rfl)
 rw [mset_self mget_put] at hst
 have hst := hst.keep [0, 1, 2, 3, 4, 5, 6] rfl
 have hst := hst.ofMN 5 rfl
 have hst := hst.toIt 6 rfl (fun _ => rfl) (by decide)
 obtain ⟨S350, hst⟩ := hst.shutP5 R_t58 rfl 1 3 0 4 5 6 [2] rfl rfl rfl rfl rfl rfl rfl (registry_Registry.mk p0.Table r343.2 p0.Clock p0.hooks p0.maps (w64 (p0.given + 1)) (mput p0.progs (w64 (p0.given + 1)) (registry_program.mk r38.1 0)) p0.waiting) rfl rfl
 obtain rfl := inj hF
 refine QW.ret2 rfl rfl rfl ?_
 exact ⟨S350, rfl, hst.keep [1] rfl⟩
theorem hooks_Table_known_ok (w : World) (v0 : Value) (S0 : List Nat) (p0 : hooks_Table) (p1 : Int) (r : Bool) (hF : hooks_Table_known p0 p1 = some r)
    (hst : St w (fp [itI R_t53 [v0] S0 p0]) w [itI R_t53 [v0] S0 p0]) :
    Calls Tryz.prog 84 [v0, I p1].toArray w (fun e w' => ∃ (s0 : List Nat), e = .returned (.bool r) ∧ St w (fp [itI R_t53 [v0] S0 p0]) w' [itI R_t53 [v0] s0 p0]) := by
 refine CW.start (N := 16) Tryz.func84 rfl rfl rfl ?_
 obtain ⟨b1, rfl⟩ := hst.fptr 0 rfl
 refine rg ?_
 refine pu 1 [] (nx (CW.seq ?_))
 obtain ⟨v2, S3, hst⟩ := hst.openQ1 0 rfl rfl
 have hst := hst.toRow1 1 rfl
 obtain ⟨l4, a5, c6, rfl⟩ := hst.len 1 rfl
 have hst : St _ _ _ [blkI b1 69 [I p0.Versions.last, .slice a5 (p0.hooks).length c6], _] := hst
 refine CW.cutK (fun a w1 => Rep 16 [(4, .bool (decide (p1 ≥ 0) && decide (p1 < ((p0.hooks).length : Int))))] a ∧ St w (fp [itI R_t53 [Pt b1] S0 p0]) w1 [blkI b1 69 [I p0.Versions.last, .slice a5 (p0.hooks).length c6], rowI (.slice a5 (p0.hooks).length c6) 165 enc_hooks_published 2 p0.hooks]) ?_ ?_
 ·refine CW.region ?_
  refine pu 3 [(7, .bool (decide (p1 ≥ 0)))] ?_
  refine OW.split 7 rfl (fun hc7 => ?_) (fun hc7 => ?_)
  ·refine pu 4 [(8, I p1), (11, .pointer (some ⟨b1, 1, none⟩))] ?_
   refine OW.ld rfl rfl rfl rfl (by kernel_rfl) (hst.blk 0 rfl rfl) ?_
   refine pu 4 [(4, .bool (decide (p1 < ((p0.hooks).length : Int))))] (OW.nil rfl ?_)
   refine QW.say 4 (v := .bool (decide (p1 ≥ 0) && decide (p1 < ((p0.hooks).length : Int)))) rfl (by first | (rw [hc7]; done) | (rw [hc7]; rfl) | simp [hc7]) ?_
   exact QW.meet (fun a ha => ⟨ha.ag, hst.keep [0, 1] rfl⟩)
  refine pu 9 [(4, .bool false)] (OW.nil rfl ?_)
  refine QW.say 4 (v := .bool (decide (p1 ≥ 0) && decide (p1 < ((p0.hooks).length : Int)))) rfl (by first | (rw [hc7]; done) | (rw [hc7]; rfl) | simp [hc7]) ?_
  exact QW.meet (fun a ha => ⟨ha.ag, hst.keep [0, 1] rfl⟩)
 rintro a w1 ⟨ha, hst⟩
 refine CW.go ?_ ha
 refine CW.ret ?_
 have hst := hst.toIt 1 rfl (fun _ => rfl) (by decide)
 obtain ⟨S8, hst⟩ := hst.shutP1 R_t69 rfl 0 1 [] rfl rfl rfl p0 rfl rfl
 obtain rfl := inj hF
 refine QW.ret1 rfl rfl ?_
 exact ⟨S8, rfl, hst.keep [0] rfl⟩
theorem hooks_Table_taken_ok (w : World) (v0 : Value) (S0 : List Nat) (p0 : hooks_Table) (p1 : Int) (r : Bool) (hF : hooks_Table_taken p0 p1 = some r)
    (hst : St w (fp [itI R_t53 [v0] S0 p0]) w [itI R_t53 [v0] S0 p0]) :
    Calls Tryz.prog 85 [v0, I p1].toArray w (fun e w' => ∃ (s0 : List Nat), e = .returned (.bool r) ∧ St w (fp [itI R_t53 [v0] S0 p0]) w' [itI R_t53 [v0] s0 p0]) := by
 refine CW.start (N := 14) Tryz.func85 rfl rfl rfl ?_
 obtain ⟨b1, rfl⟩ := hst.fptr 0 rfl
 refine rg ?_
 refine pu 1 [] (nx (CW.seq ?_))
 obtain ⟨v2, S3, hst⟩ := hst.openQ1 0 rfl rfl
 have hst := hst.toRow1 1 rfl
 obtain ⟨l4, a5, c6, rfl⟩ := hst.len 1 rfl
 have hst : St _ _ _ [blkI b1 69 [I p0.Versions.last, .slice a5 (p0.hooks).length c6], _] := hst
 refine CW.region ?_
 refine pu 3 [(7, .pointer (some ⟨b1, 1, none⟩))] ?_
 refine OW.ld rfl rfl rfl rfl (by kernel_rfl) (hst.blk 0 rfl rfl) ?_
 refine pu 1 [(9, I p1)] ?_
 obtain ⟨x13, hx14, hF⟩ := bs hF
 obtain ⟨g16, o17, c18, hv15⟩ := hst.rowv 1 rfl hx14
 refine OW.idx 165 2 rfl rfl rfl rfl hv15 rfl (idx_some hx14).1 (idx_some hx14).2.1 (by kernel_rfl) (by kernel_rfl) ?_
 refine pu 1 [(11, .pointer (some ⟨g16, o17 + Int.toNat p1 * 2, none⟩))] ?_
 refine OW.ld rfl rfl rfl rfl (by kernel_rfl) (hst.rowc 1 rfl (fun _ => rfl) hx14 hv15 0 _ rfl) ?_
 refine pu 2 [(4, .bool (decide (x13.version > 0)))] (nx (CW.ret ?_))
 have hst := hst.toIt 1 rfl (fun _ => rfl) (by decide)
 obtain ⟨S19, hst⟩ := hst.shutP1 R_t69 rfl 0 1 [] rfl rfl rfl p0 rfl rfl
 obtain rfl := inj hF
 refine QW.ret1 rfl rfl ?_
 exact ⟨S19, rfl, hst.keep [0] rfl⟩
theorem hooks_Versions_Fresh_ok (w : World) (b0 : Nat) (T0 : TypeId) (A0 C0 : List Value) (p0 : hooks_Versions) (r : Int × hooks_Versions) (hF : hooks_Versions_Fresh p0 = some r)
    (hst : St w (fp [partI b0 T0 A0 [I p0.last] C0]) w [partI b0 T0 A0 [I p0.last] C0]) :
    Calls Tryz.prog 127 [.pointer (some ⟨b0, A0.length + 0, none⟩)].toArray w (fun e w' => e = .returned (I r.1) ∧ St w (fp [partI b0 T0 A0 [I p0.last] C0]) w' [partI b0 T0 A0 [I r.2.last] C0]) := by
 refine CW.start (N := 14) Tryz.func127 rfl rfl rfl (rg ?_)
 refine pu 1 [] (nx (rg ?_))
 refine pu 3 [(3, .pointer (some ⟨b0, A0.length + 0, none⟩)), (5, .pointer (some ⟨b0, A0.length + 0, none⟩))] ?_
 refine OW.ld rfl rfl rfl rfl (by kernel_rfl) (hst.prt 0 rfl 0 rfl) ?_
 refine pu 3 [(7, I (w64 (p0.last + 1))), (9, .pointer (some ⟨b0, A0.length + 0, none⟩))] ?_
 refine OW.stP hst 0 rfl rfl rfl 0 rfl rfl (by kernel_rfl) rfl rfl [I (w64 (p0.last + 1))] rfl ?_
 intro w2 hst
 refine nx (rg ?_)
 refine pu 3 [(12, .pointer (some ⟨b0, A0.length + 0, none⟩))] ?_
 refine OW.ld rfl rfl rfl rfl (by kernel_rfl) (hst.prt 0 rfl 0 rfl) ?_
 refine pu 1 [(2, I (w64 (p0.last + 1)))] (nx (CW.ret ?_))
 obtain rfl := inj hF
 refine QW.ret1 rfl rfl ?_
 exact ⟨rfl, hst.keep [0] rfl⟩
theorem hooks_Versions_Last_ok (w : World) (b0 : Nat) (T0 : TypeId) (A0 C0 : List Value) (p0 : hooks_Versions) (r : Int) (hF : hooks_Versions_Last p0 = some r)
    (hst : St w (fp [partI b0 T0 A0 [I p0.last] C0]) w [partI b0 T0 A0 [I p0.last] C0]) :
    Calls Tryz.prog 23 [.pointer (some ⟨b0, A0.length + 0, none⟩)].toArray w (fun e w' => e = .returned (I r) ∧ St w (fp [partI b0 T0 A0 [I p0.last] C0]) w' [partI b0 T0 A0 [I p0.last] C0]) := by
 refine CW.start (N := 7) Tryz.func23 rfl rfl rfl (rg ?_)
 refine pu 1 [] (nx (rg ?_))
 refine pu 3 [(5, .pointer (some ⟨b0, A0.length + 0, none⟩))] ?_
 refine OW.ld rfl rfl rfl rfl (by kernel_rfl) (hst.prt 0 rfl 0 rfl) ?_
 refine pu 1 [(2, I p0.last)] (nx (CW.ret ?_))
 obtain rfl := inj hF
 refine QW.ret1 rfl rfl ?_
 exact ⟨rfl, hst.keep [0] rfl⟩
theorem hooks_Table_publish_ok (w : World) (v0 : Value) (S0 : List Nat) (p0 : hooks_Table) (p1 : Int) (p2 : Int) (r : Int × Int × hooks_Table) (hF : hooks_Table_publish p0 p1 p2 = some r)
    (hst : St w (fp [itI R_t53 [v0] S0 p0]) w [itI R_t53 [v0] S0 p0]) :
    Calls Tryz.prog 87 [v0, I p1, I p2].toArray w (fun e w' => ∃ (s0 : List Nat), e = .returned (.tuple #[I r.1, I r.2.1]) ∧ St w (fp [itI R_t53 [v0] S0 p0]) w' [itI R_t53 [v0] s0 r.2.2]) := by
 refine CW.start (N := 24) Tryz.func87 rfl rfl rfl ?_
 obtain ⟨b1, rfl⟩ := hst.fptr 0 rfl
 refine rg ?_
 refine pu 2 [] (nx (CW.seq ?_))
 obtain ⟨v2, S3, hst⟩ := hst.openQ1 0 rfl rfl
 have hst := hst.toRow1 1 rfl
 obtain ⟨l4, a5, c6, rfl⟩ := hst.len 1 rfl
 have hst : St _ _ _ [blkI b1 69 [I p0.Versions.last, .slice a5 (p0.hooks).length c6], _] := hst
 refine CW.plan (by kernel_rfl) ?_
 intro w20 hch21
 have hst := hst.same hch21
 refine OA.pure [0, 1, 2] [(10, .pointer (some ⟨b1, 1, none⟩))] (by kernel_rfl) ?_
 refine OA.ld (i := 3) rfl (by kernel_rfl) rfl rfl rfl (by kernel_rfl) (hst.blk 0 rfl rfl) ?_
 refine OA.pure [4, 5, 6, 7, 9] [(12, I p1), (15, Pt b1), (17, I p2)] (by kernel_rfl) ?_
 refine OA.act (i := 8) [3] (by kernel_rfl) rfl rfl (by kernel_rfl) (by kernel_rfl) ?_
 obtain ⟨r22, hr23, hF⟩ := bs hF
 refine OW.fn rfl rfl rfl rfl (by kernel_rfl) (hooks_Versions_Fresh_ok _ b1 69 [] [.slice a5 (p0.hooks).length c6] p0.Versions r22 hr23 (hst.part [0] rfl)) ?_
 rintro e w24 ⟨rfl, hst25⟩
 refine ⟨_, rfl, ?_⟩
 have hst := hst.join (idx := [0]) (rest := [1]) rfl hst25
 have hst : St _ _ _ [blkI b1 69 [I r22.2.last, .slice a5 (p0.hooks).length c6], _] := hst
 refine OA.next ⟨(hst.blk 0 rfl rfl), trivial⟩ ?_
 refine OA.pure [10] [(18, .agg [I r22.1, I p2].toArray)] (by kernel_rfl) ?_
 obtain ⟨x26, hx27, hF⟩ := bs hF
 obtain ⟨g29, o30, c31, hv28⟩ := hst.rowv 1 rfl hx27
 refine OA.idx (i := 11) 165 2 rfl (by kernel_rfl) rfl rfl rfl hv28 rfl (idx_some hx27).1 (idx_some hx27).2.1 (by kernel_rfl) (by kernel_rfl) ?_
 refine OA.act (i := 12) [] (by kernel_rfl) rfl rfl (by kernel_rfl) (by kernel_rfl) ?_
 refine OW.stR hst 1 rfl hv28 (fun _ => rfl) rfl rfl hx27 0 rfl rfl rfl (by kernel_rfl) rfl rfl (hooks_published.mk r22.1 p2) rfl ?_
 intro w32 hst
 refine OA.next trivial ?_
 refine OA.fin (by kernel_rfl) (by kernel_rfl) (QW.next (rg ?_))
 refine pu 3 [(22, Pt b1)] ?_
 obtain ⟨r37, hr38, hF⟩ := bs hF
 refine OW.fn rfl rfl rfl rfl (by kernel_rfl) (hooks_Versions_Last_ok _ b1 69 [] [.slice a5 (p0.hooks).length c6] r22.2 r37 hr38 (hst.part [0] rfl)) ?_
 rintro e w39 ⟨rfl, hst40⟩
 refine ⟨_, rfl, ?_⟩
 have hst := hst.join (idx := [0]) (rest := [1]) rfl hst40
 have hst : St _ _ _ [blkI b1 69 [I r22.2.last, .slice a5 (p0.hooks).length c6], _] := hst
 refine pu 2 [(6, I r37), (7, I 0)] (nx (CW.ret ?_))
 have hst := hst.toIt 1 rfl (fun _ => rfl) (by decide)
 obtain ⟨S41, hst⟩ := hst.shutP1 R_t69 rfl 0 1 [] rfl rfl rfl (hooks_Table.mk r22.2 (p0.hooks.set (Int.toNat p1) (hooks_published.mk r22.1 p2))) rfl rfl
 obtain rfl := inj hF
 refine QW.ret2 rfl rfl rfl ?_
 exact ⟨S41, rfl, hst.keep [0] rfl⟩
theorem hooks_Table_Attach_ok (w : World) (v0 : Value) (S0 : List Nat) (p0 : hooks_Table) (p1 : Int) (p2 : Int) (r : Int × Int × hooks_Table) (hF : hooks_Table_Attach p0 p1 p2 = some r)
    (hst : St w (fp [itI R_t53 [v0] S0 p0]) w [itI R_t53 [v0] S0 p0]) :
    Calls Tryz.prog 55 [v0, I p1, I p2].toArray w (fun e w' => ∃ (s0 : List Nat), e = .returned (.tuple #[I r.1, I r.2.1]) ∧ St w (fp [itI R_t53 [v0] S0 p0]) w' [itI R_t53 [v0] s0 r.2.2]) := by
 refine CW.start (N := 23) Tryz.func55 rfl rfl rfl ?_
 obtain ⟨b1, rfl⟩ := hst.fptr 0 rfl
 refine rg ?_
 refine pu 2 [] (nx (CW.seq (CW.block (rg ?_))))
 refine pu 2 [(9, Pt b1), (10, I p1)] ?_
 obtain ⟨r7, hr8, hF⟩ := bs hF
 refine OW.fn rfl rfl rfl rfl (by kernel_rfl) (hooks_Table_known_ok _ (Pt b1) S0 p0 p1 r7 hr8 (hst.part [0] rfl)) ?_
 rintro e w9 ⟨S11, rfl, hst10⟩
 refine ⟨_, rfl, ?_⟩
 have hst := hst.join (idx := [0]) (rest := []) rfl hst10
 refine pu 2 [(8, .bool (!r7))] (nx ?_)
 refine br ((!r7)) hF (fun hF hc12 => ?_) (fun hF hc12 => ?_)
 ·refine rg ?_
  refine pu 2 [(6, I 0), (7, I 2)] (nx (CW.ret (QW.block_ret (QW.then_ret ?_))))
  obtain rfl := inj hF
  refine QW.ret2 rfl rfl rfl ?_
  exact ⟨S11, rfl, hst.keep [0] rfl⟩
 refine rg ?_
 refine pu 2 [(14, Pt b1), (15, I p1)] ?_
 obtain ⟨r18, hr19, hF⟩ := bs hF
 refine OW.fn rfl rfl rfl rfl (by kernel_rfl) (hooks_Table_taken_ok _ (Pt b1) S11 p0 p1 r18 hr19 (hst.part [0] rfl)) ?_
 rintro e w20 ⟨S22, rfl, hst21⟩
 refine ⟨_, rfl, ?_⟩
 have hst := hst.join (idx := [0]) (rest := []) rfl hst21
 refine pu 1 [(13, .bool r18)] (nx ?_)
 refine br (r18) hF (fun hF hc23 => ?_) (fun hF hc23 => ?_)
 ·refine rg ?_
  refine pu 2 [(6, I 0), (7, I 42)] (nx (CW.ret (QW.block_ret (QW.then_ret ?_))))
  obtain rfl := inj hF
  refine QW.ret2 rfl rfl rfl ?_
  exact ⟨S22, rfl, hst.keep [0] rfl⟩
 refine CW.skip (QW.block_normal (QW.next (rg ?_)))
 refine pu 3 [(17, Pt b1), (18, I p1), (19, I p2)] ?_
 obtain ⟨r29, hr30, hF⟩ := bs hF
 refine OW.fn rfl rfl rfl rfl (by kernel_rfl) (hooks_Table_publish_ok _ (Pt b1) S22 p0 p1 p2 r29 hr30 (hst.part [0] rfl)) ?_
 rintro e w31 ⟨S33, rfl, hst32⟩
 refine ⟨_, rfl, ?_⟩
 have hst := hst.join (idx := [0]) (rest := []) rfl hst32
 refine pu 4 [(6, I r29.1), (7, I r29.2.1)] (nx (CW.ret ?_))
 obtain rfl := inj hF
 refine QW.ret2 rfl rfl rfl ?_
 exact ⟨S33, rfl, hst.keep [0] rfl⟩
theorem registry_Registry_Attach_ok (w : World) (v0 : Value) (S0 : List Nat) (p0 : registry_Registry) (p1 : Int) (p2 : Int) (r : Int × Int × registry_Registry) (hF : registry_Registry_Attach p0 p1 p2 = some r)
    (hst : St w (fp [itI R_t24 [v0] S0 p0]) w [itI R_t24 [v0] S0 p0]) :
    Calls Tryz.prog 25 [v0, I p1, I p2].toArray w (fun e w' => ∃ (s0 : List Nat), e = .returned (.tuple #[I r.1, I r.2.1]) ∧ St w (fp [itI R_t24 [v0] S0 p0]) w' [itI R_t24 [v0] s0 r.2.2]) := by
 refine CW.start (N := 19) Tryz.func25 rfl rfl rfl ?_
 obtain ⟨b1, rfl⟩ := hst.fptr 0 rfl
 refine rg ?_
 refine pu 2 [] (nx (CW.seq ?_))
 obtain ⟨v2, S3, v4, S5, v6, S7, v8, S9, v10, S11, hst⟩ := hst.openQ5 0 rfl rfl rfl rfl rfl rfl
 obtain ⟨r12, rfl, hst⟩ := hst.toMN1 4 rfl
 have hst := hst.toRow1 5 rfl
 obtain ⟨b13, rfl⟩ := hst.fptr 1 rfl
 obtain ⟨b14, rfl⟩ := hst.fptr 2 rfl
 obtain ⟨b15, rfl⟩ := hst.fptr 3 rfl
 obtain ⟨l16, a17, c18, rfl⟩ := hst.len 5 rfl
 have hst : St _ _ _ [blkI b1 58 [Pt b13, Pt b14, Pt b15, I p0.hooks, I p0.maps, I p0.given, .map (some r12), .slice a17 (p0.waiting).length c18], _, _, _, _, _] := hst
 refine CW.region ?_
 refine pu 6 [(8, Pt b1), (9, I p1), (10, I p2), (13, Pt b1)] ?_
 refine OW.ld rfl rfl rfl rfl (by kernel_rfl) (hst.blk 0 rfl rfl) ?_
 refine pu 1 [(15, .func (.func 55) #[Pt b13] #[])] ?_
 refine OW.inl (args := [Pt b1, I p1, I p2, .func (.func 55) #[Pt b13] #[]]) (M := 32) rfl rfl rfl rfl (by kernel_rfl) Tryz.func54 rfl rfl rfl (rg ?_)
 refine pu 2 [] (nx (CW.seq (CW.block (rg ?_))))
 refine pu 3 [(13, .bool (decide (p1 < 0)))] ?_
 refine OW.split 13 rfl (fun hc72 => ?_) (fun hc72 => ?_)
 ·have hF := ite_t hF hc72
  refine pu 8 [(10, .bool true)] (nx (CW.cond_t rfl rfl (rg ?_)))
  refine pu 2 [(8, I 0), (9, I 2)] (nx (CW.ret (QW.block_ret (QW.then_ret ?_))))
  refine QW.ret2 rfl rfl rfl ?_
  refine ⟨_, rfl, ?_⟩
  refine pu 4 [(6, I 0), (7, I 2)] (nx (CW.ret ?_))
  have hst := hst.ofMN 4 rfl
  have hst := hst.toIt 5 rfl (fun _ => rfl) (by decide)
  obtain ⟨S73, hst⟩ := hst.shutP5 R_t58 rfl 0 1 2 3 4 5 [] rfl rfl rfl rfl rfl rfl rfl p0 rfl rfl
  obtain rfl := inj hF
  refine QW.ret2 rfl rfl rfl ?_
  exact ⟨S73, rfl, hst.keep [0] rfl⟩
 have hF := ite_f hF hc72
 refine pu 4 [(14, I p1), (17, .pointer (some ⟨b1, 3, none⟩))] ?_
 refine OW.ld rfl rfl rfl rfl (by kernel_rfl) (hst.blk 0 rfl rfl) ?_
 refine pu 3 [(10, .bool (decide (p1 ≥ p0.hooks)))] (nx ?_)
 refine br (decide (p1 ≥ p0.hooks)) hF (fun hF hc74 => ?_) (fun hF hc74 => ?_)
 ·refine rg ?_
  refine pu 2 [(8, I 0), (9, I 2)] (nx (CW.ret (QW.block_ret (QW.then_ret ?_))))
  refine QW.ret2 rfl rfl rfl ?_
  refine ⟨_, rfl, ?_⟩
  refine pu 4 [(6, I 0), (7, I 2)] (nx (CW.ret ?_))
  have hst := hst.ofMN 4 rfl
  have hst := hst.toIt 5 rfl (fun _ => rfl) (by decide)
  obtain ⟨S75, hst⟩ := hst.shutP5 R_t58 rfl 0 1 2 3 4 5 [] rfl rfl rfl rfl rfl rfl rfl p0 rfl rfl
  obtain rfl := inj hF
  refine QW.ret2 rfl rfl rfl ?_
  exact ⟨S75, rfl, hst.keep [0] rfl⟩
 refine rg ?_
 refine pu 2 [(22, Pt b1), (23, I p2)] ?_
 refine OW.inl (args := [Pt b1, I p2]) (M := 24) rfl rfl rfl rfl (by kernel_rfl) Tryz.func86 rfl rfl rfl (rg ?_)
 refine pu 1 [] (nx (rg ?_))
 refine pu 3 [(10, .pointer (some ⟨b1, 6, none⟩))] ?_
 refine OW.ld rfl rfl rfl rfl (by kernel_rfl) (hst.blk 0 rfl rfl) ?_
 refine pu 1 [(12, I p2)] ?_
 refine OW.mlook (tk := 3) (te := 95) (kd := .i64) (optP 97 R_t97) (fun o => o) hst 4 rfl rfl rfl rfl rfl rfl (by kernel_rfl) (by kernel_rfl) (.pointer none) (by kernel_rfl) (fun _ => ⟨rfl, rfl⟩) (fun _ _ _ _ h => h) (fun _ _ _ _ h => h) ?_
 intro v99 S100 S101 hst
 refine pu 5 [(5, v99), (6, .bool (mget p0.progs p2).isSome)] (nx (rg ?_))
 refine pu 2 [(17, .bool (mget p0.progs p2).isSome)] ?_
 refine OW.split 17 rfl (fun hc102 => ?_) (fun hc102 => ?_)
 ·have hF := ite_t hF hc102
  refine pu 1 [(18, v99)] ?_
  obtain ⟨y103, hy104, hF⟩ := bs hF
  have hst := hst.optSome 6 rfl hy104
  obtain ⟨b105, rfl⟩ := hst.fptr 6 rfl
  obtain ⟨v106, S107, v108, S109, hst⟩ := hst.openQ2 6 rfl rfl rfl
  have hst := hst.toRow1 7 rfl
  have hst := hst.toRow1 8 rfl
  obtain ⟨l110, a111, c112, rfl⟩ := hst.len 7 rfl
  obtain ⟨l113, a114, c115, rfl⟩ := hst.len 8 rfl
  have hst : St _ _ _ [_, _, _, _, _, _, blkI b105 97 [.slice a111 (y103.module.Maps).length c112, .slice a114 (y103.module.Code).length c115, I y103.retiring], _, _] := hst
  refine pu 2 [(20, .pointer (some ⟨b105, 2, none⟩))] ?_
  refine OW.ld rfl rfl rfl rfl (by kernel_rfl) (hst.blk 6 rfl rfl) ?_
  refine pu 3 [(4, .bool (y103.retiring == 0))] (nx (CW.ret ?_))
  refine QW.ret1 rfl rfl ?_
  refine ⟨_, rfl, ?_⟩
  refine pu 2 [(21, .bool (!(y103.retiring == 0)))] (nx ?_)
  refine br ((!(y103.retiring == 0))) hF (fun hF hc116 => ?_) (fun hF hc116 => ?_)
  ·refine rg ?_
   refine pu 2 [(8, I 0), (9, I 41)] (nx (CW.ret (QW.block_ret (QW.then_ret ?_))))
   refine QW.ret2 rfl rfl rfl ?_
   refine ⟨_, rfl, ?_⟩
   refine pu 4 [(6, I 0), (7, I 41)] (nx (CW.ret ?_))
   have hst := hst.toIt 7 rfl (fun _ => rfl) (by decide)
   have hst := hst.toIt 8 rfl (fun _ => rfl) (by decide)
   obtain ⟨S117, hst⟩ := hst.shutP2 R_t97 rfl 6 7 8 [0, 1, 2, 3, 4, 5] rfl rfl rfl rfl y103 rfl rfl
   have hst := hst.toOpt 6 rfl
   obtain ⟨S118, hst⟩ := hst.mback (f := (fun o => o)) 4 6 rfl rfl rfl (fun _ _ _ _ h => h) y103 (fun _ => rfl)
   rw [mset_self hy104] at hst
   have hst := hst.keep [0, 1, 2, 3, 4, 5] rfl
   have hst := hst.ofMN 4 rfl
   have hst := hst.toIt 5 rfl (fun _ => rfl) (by decide)
   obtain ⟨S119, hst⟩ := hst.shutP5 R_t58 rfl 0 1 2 3 4 5 [] rfl rfl rfl rfl rfl rfl rfl p0 rfl rfl
   obtain rfl := inj hF
   refine QW.ret2 rfl rfl rfl ?_
   exact ⟨S119, rfl, hst.keep [0] rfl⟩
  refine CW.skip (QW.block_normal (QW.next (rg ?_)))
  refine pu 3 [(26, .func (.func 55) #[Pt b13] #[]), (27, I p1), (28, I p2)] ?_
  obtain ⟨r125, hr126, hF⟩ := bs hF
  refine OW.fn rfl rfl rfl rfl (by kernel_rfl) (hooks_Table_Attach_ok _ (Pt b13) S3 p0.Table p1 p2 r125 hr126 (hst.part [1] rfl)) ?_
  rintro e w127 ⟨S129, rfl, hst128⟩
  refine ⟨_, rfl, ?_⟩
  have hst := hst.join (idx := [1]) (rest := [0, 2, 3, 4, 5, 6, 7, 8]) rfl hst128
  refine pu 4 [(8, I r125.1), (9, I r125.2.1)] (nx (CW.ret ?_))
  refine QW.ret2 rfl rfl rfl ?_
  refine ⟨_, rfl, ?_⟩
  refine pu 4 [(6, I r125.1), (7, I r125.2.1)] (nx (CW.ret ?_))
  have hst := hst.toIt 7 rfl (fun _ => rfl) (by decide)
  have hst := hst.toIt 8 rfl (fun _ => rfl) (by decide)
  obtain ⟨S130, hst⟩ := hst.shutP2 R_t97 rfl 6 7 8 [0, 1, 2, 3, 4, 5] rfl rfl rfl rfl y103 rfl rfl
  have hst := hst.toOpt 6 rfl
  obtain ⟨S131, hst⟩ := hst.mback (f := (fun o => o)) 4 6 rfl rfl rfl (fun _ _ _ _ h => h) y103 (fun _ => rfl)
  rw [mset_self hy104] at hst
  have hst := hst.keep [0, 1, 2, 3, 4, 5] rfl
  have hst := hst.ofMN 4 rfl
  have hst := hst.toIt 5 rfl (fun _ => rfl) (by decide)
  obtain ⟨S132, hst⟩ := hst.shutP5 R_t58 rfl 1 0 2 3 4 5 [] rfl rfl rfl rfl rfl rfl rfl (registry_Registry.mk r125.2.2 p0.Refs p0.Clock p0.hooks p0.maps p0.given p0.progs p0.waiting) rfl rfl
  obtain rfl := inj hF
  refine QW.ret2 rfl rfl rfl ?_
  exact ⟨S132, rfl, hst.keep [0] rfl⟩
 have hF := ite_f hF hc102
 refine pu 7 [(4, .bool false)] (nx (CW.ret ?_))
 refine QW.ret1 rfl rfl ?_
 refine ⟨_, rfl, ?_⟩
 refine pu 2 [(21, .bool true)] (nx (CW.cond_t rfl rfl (rg ?_)))
 refine pu 2 [(8, I 0), (9, I 41)] (nx (CW.ret (QW.block_ret (QW.then_ret ?_))))
 refine QW.ret2 rfl rfl rfl ?_
 refine ⟨_, rfl, ?_⟩
 refine pu 4 [(6, I 0), (7, I 41)] (nx (CW.ret ?_))
 obtain ⟨S133, hst⟩ := hst.mback0 (f := (fun o => o)) 4 6 rfl rfl rfl (fun _ _ _ _ h => h)
 have hst := hst.keep [0, 1, 2, 3, 4, 5] rfl
 have hst := hst.ofMN 4 rfl
 have hst := hst.toIt 5 rfl (fun _ => rfl) (by decide)
 obtain ⟨S134, hst⟩ := hst.shutP5 R_t58 rfl 0 1 2 3 4 5 [] rfl rfl rfl rfl rfl rfl rfl p0 rfl rfl
 obtain rfl := inj hF
 refine QW.ret2 rfl rfl rfl ?_
 exact ⟨S134, rfl, hst.keep [0] rfl⟩
theorem slices_Sort_int_int_ok (w : World) (v0 : Value) (p0 : List Int) (r : List Int) (hF : slices_Sort_int_int p0 = some r) (hst : St w (fp [rowI v0 3 (encInt .i64) 1 p0]) w [rowI v0 3 (encInt .i64) 1 p0]) :
    Calls Tryz.prog 40 [v0].toArray w (fun e w' => e = .returned (.tuple #[]) ∧ St w (fp [rowI v0 3 (encInt .i64) 1 p0]) w' [rowI v0 3 (encInt .i64) 1 r]) :=
  sort_int_ok Tryz.slices_Sort_int Tryz.slices_Sort_int_none hF hst
theorem refs_Refs_Holders_ok (w : World) (v0 : Value) (S0 : List Nat) (p0 : refs_Refs) (p1 : Int) (r : (List Int)) (hF : refs_Refs_Holders p0 p1 = some r)
    (hst : St w (fp [itI R_t54 [v0] S0 p0]) w [itI R_t54 [v0] S0 p0]) :
    Calls Tryz.prog 53 [v0, I p1].toArray w (fun e w' => ∃ (s0 : List Nat) (x0 : Value), e = .returned (x0) ∧ St w (fp [itI R_t54 [v0] S0 p0]) w' [itI R_t54 [v0] s0 p0, rowI x0 3 (encInt .i64) 1 r]) := by
 refine CW.start (N := 28) Tryz.func53 rfl rfl rfl ?_
 obtain ⟨b1, rfl⟩ := hst.fptr 0 rfl
 refine rg ?_
 refine pu 1 [] (nx (rg ?_))
 refine pu 1 [(5, .slice none 0 0)] (nx (CW.seq (CW.seq ?_)))
 obtain ⟨v2, S3, hst⟩ := hst.openQ1 0 rfl rfl
 obtain ⟨r4, rfl, hst⟩ := hst.toMN1 1 rfl
 have hst : St _ _ _ [blkI b1 112 [I p0.maps, .map (some r4)], _] := hst
 refine CW.region ?_
 refine pu 3 [(10, .pointer (some ⟨b1, 1, none⟩))] ?_
 refine OW.ld rfl rfl rfl rfl (by kernel_rfl) (hst.blk 0 rfl rfl) ?_
 refine OW.range (tk := 3) (te := 28) hst 1 rfl rfl rfl rfl rfl (by kernel_rfl) ?_
 intro it7 w8 hst
 refine nx (CW.block ?_)
 have hst := hst.nilRow Int 3 (encInt .i64) 1
 refine CW.loop (fun n a w1 => ∃ (s140 : (List Int)) (v141 : Value) (rem142 : List (Int × (List Int))) (last143 : Option (Int × Value × (List Int))), n = rem142.length ∧ Rep 28 [(1, I p1), (5, v141), (12, Pt it7)] a ∧ St w (fp [itI R_t54 [Pt b1] S0 p0]) w1 [rowI v141 3 (encInt .i64) 1 s140, rngI it7 r4 R_t28 S3 p0.held rem142 last143, blkI b1 112 [I p0.maps, .map (some r4)]] ∧ ∀ q, q.Perm rem142 → rangeF (refs_Refs_Holders_b1 p0 p1) (refs_Refs_Holders_f1 p0 p1) q s140 = some r) (p0.held.length) (fun a ha => ⟨([] : List Int), (.slice none 0 0), p0.held, none, rfl, ha.ag, hst.keep [2, 1, 0] rfl, fun q hq => (refs_Refs_Holders_fair1 p0 p1) q hq _ hF⟩) ?_
 rintro n137 a w1 ⟨s140, v141, rem142, last143, hn139, ha, hst, hl138⟩
 refine CW.go ?_ ha
 obtain ⟨l144, a145, c146, rfl⟩ := hst.len 0 rfl
 refine rg ?_
 refine OW.rnext hst 1 rfl rfl rfl rfl rfl ?_ ?_
 ·intro hr167
  have hf168 : (refs_Refs_Holders_f1 p0 p1) s140 = some r := hl138 [] (by rw [hr167])
  have hst := hst.unrng 1 rfl
  refine pu 1 [(14, .bool false)] (nx (CW.seq (CW.cond_f rfl rfl ?_)))
  refine CW.exit (QW.then_exit (QW.then_exit ?_))
  refine QW.block_here (QW.next (rg ?_))
  refine pu 1 [(25, .slice a145 (s140).length c146)] ?_
  obtain ⟨r173, hr174, hf168⟩ := bs hf168
  refine OW.fn rfl rfl rfl rfl (by kernel_rfl) (slices_Sort_int_int_ok _ (.slice a145 (s140).length c146) s140 r173 hr174 (hst.part [0] rfl)) ?_
  rintro e w175 ⟨rfl, hst176⟩
  refine ⟨_, rfl, ?_⟩
  have hst := hst.join (idx := [0]) (rest := [1, 2]) rfl hst176
  refine nx (rg ?_)
  refine pu 2 [(4, .slice a145 (s140).length c146)] (nx (CW.ret ?_))
  have hst := hst.ofMN 1 rfl
  obtain ⟨S177, hst⟩ := hst.shutP1 R_t112 rfl 2 1 [0] rfl rfl rfl p0 rfl rfl
  obtain rfl := inj hf168
  refine QW.ret1 rfl rfl ?_
  exact ⟨S177, (.slice a145 (s140).length c146), rfl, hst.keep [1, 0] rfl⟩
 intro k158 v159 x160 rem161 w162 hp163 hst
 obtain ⟨t166, hs164, ht165⟩ := bs (hl138 ((k158, x160) :: rem161) hp163.symm)
 have hs1640 := hs164
 refine pu 1 [(14, .bool true)] (nx (CW.seq (CW.cond_t rfl rfl (CW.skip (QW.next (CW.block (rg ?_)))))))
 refine OW.rentry hst 1 rfl rfl rfl rfl rfl ?_
 refine pu 4 [(6, I k158), (7, v159)] (nx (rg ?_))
 refine pu 2 [(18, v159), (19, I p1)] ?_
 obtain ⟨r182, hr183, hs164⟩ := bs hs164
 refine OW.fn rfl rfl rfl rfl (by kernel_rfl) (slices_Contains_int_int_ok _ v159 x160 p1 r182 hr183 (hst.part [] rfl) (hst.rseeRow 1 rfl [] rfl)) ?_
 rintro e w184 ⟨rfl, hst185⟩
 refine ⟨_, rfl, ?_⟩
 have hst := hst.join (idx := []) (rest := [0, 1, 2]) rfl hst185
 refine nx ?_
 refine br (r182) hs164 (fun hs164 hc186 => ?_) (fun hs164 hc186 => ?_)
 ·refine CW.region ?_
  refine pu 2 [(21, .slice a145 (s140).length c146), (22, I k158)] ?_
  refine OW.row (α := Int) (e := 3) (enc := encInt .i64) (sz := 1) hst rfl rfl rfl [k158] rfl (fun _ => rfl) rfl rfl (fun _ => by kernel_rfl) ?_
  intro g196 w197 hst
  obtain ⟨u198, hr199, hs164⟩ := bs hs164
  refine OW.app hst 0 rfl (fun _ => rfl) (fun _ => rfl) rfl rfl rfl rfl rfl rfl (by kernel_rfl) el3 (hst.rd 3 rfl (fun _ => rfl) [] rfl (hst.len 3 rfl).1) (room_le hr199) ?_
  intro v200 w201 hst
  obtain ⟨l202, a203, c204, rfl⟩ := hst.len 0 rfl
  refine pu 1 [(5, .slice a203 ((s140 ++ [k158])).length c204)] (OW.nil rfl (QW.block_normal ?_))
  obtain rfl := inj hs164
  exact QW.meet (fun a ha => ⟨_, rng_lt hn139 hp163, (s140 ++ [k158]), (.slice a203 ((s140 ++ [k158])).length c204), rem161, (some (k158, v159, x160)), rfl, ha.ag, hst.keep [0, 1, 2] rfl, fun q hq => rangeF_step (hl138 _ ((List.Perm.cons _ hq).trans hp163.symm)) hs1640⟩)
 refine CW.skip (QW.block_normal ?_)
 obtain rfl := inj hs164
 exact QW.meet (fun a ha => ⟨_, rng_lt hn139 hp163, s140, (.slice a145 (s140).length c146), rem161, (some (k158, v159, x160)), rfl, ha.ag, hst.keep [0, 1, 2] rfl, fun q hq => rangeF_step (hl138 _ ((List.Perm.cons _ hq).trans hp163.symm)) hs1640⟩)
theorem refs_Refs_Count_ok (w : World) (v0 : Value) (S0 : List Nat) (p0 : refs_Refs) (p1 : Int) (r : Int × Int) (hF : refs_Refs_Count p0 p1 = some r)
    (hst : St w (fp [itI R_t54 [v0] S0 p0]) w [itI R_t54 [v0] S0 p0]) :
    Calls Tryz.prog 24 [v0, I p1].toArray w (fun e w' => ∃ (s0 : List Nat), e = .returned (.tuple #[I r.1, I r.2]) ∧ St w (fp [itI R_t54 [v0] S0 p0]) w' [itI R_t54 [v0] s0 p0]) := by
 refine CW.start (N := 20) Tryz.func24 rfl rfl rfl ?_
 obtain ⟨b1, rfl⟩ := hst.fptr 0 rfl
 refine rg ?_
 refine pu 2 [] (nx (CW.seq (CW.seq ?_)))
 obtain ⟨v2, S3, hst⟩ := hst.openQ1 0 rfl rfl
 obtain ⟨r4, rfl, hst⟩ := hst.toMN1 1 rfl
 have hst : St _ _ _ [blkI b1 112 [I p0.maps, .map (some r4)], _] := hst
 refine CW.cutK (fun a w1 => Rep 20 [(0, Pt b1), (1, I p1), (15, .bool (decide (p1 < 0) || decide (p1 ≥ p0.maps)))] a ∧ St w (fp [itI R_t54 [Pt b1] S0 p0]) w1 [blkI b1 112 [I p0.maps, .map (some r4)], mN r4 R_t28 S3 p0.held none]) ?_ ?_
 ·refine CW.region ?_
  refine pu 3 [(8, .bool (decide (p1 < 0)))] ?_
  refine OW.split 8 rfl (fun hc5 => ?_) (fun hc5 => ?_)
  ·refine pu 7 [(15, .bool true)] (OW.nil rfl ?_)
   refine QW.say 15 (v := .bool (decide (p1 < 0) || decide (p1 ≥ p0.maps))) rfl (by first | (rw [hc5]; done) | (rw [hc5]; rfl) | simp [hc5]) ?_
   exact QW.meet (fun a ha => ⟨ha.ag, hst.keep [0, 1] rfl⟩)
  refine pu 4 [(9, I p1), (12, Pt b1)] ?_
  refine OW.ld rfl rfl rfl rfl (by kernel_rfl) (hst.blk 0 rfl rfl) ?_
  refine pu 2 [(15, .bool (decide (p1 ≥ p0.maps)))] (OW.nil rfl ?_)
  refine QW.say 15 (v := .bool (decide (p1 < 0) || decide (p1 ≥ p0.maps))) rfl (by first | (rw [hc5]; done) | (rw [hc5]; rfl) | simp [hc5]) ?_
  exact QW.meet (fun a ha => ⟨ha.ag, hst.keep [0, 1] rfl⟩)
 rintro a w1 ⟨ha, hst⟩
 refine CW.go ?_ ha
 refine br ((decide (p1 < 0) || decide (p1 ≥ p0.maps))) hF (fun hF hc6 => ?_) (fun hF hc6 => ?_)
 ·refine rg ?_
  refine pu 2 [(4, I 0), (5, I 2)] (nx (CW.ret (QW.then_ret ?_)))
  have hst := hst.ofMN 1 rfl
  obtain ⟨S7, hst⟩ := hst.shutP1 R_t112 rfl 0 1 [] rfl rfl rfl p0 rfl rfl
  obtain rfl := inj hF
  refine QW.ret2 rfl rfl rfl ?_
  exact ⟨S7, rfl, hst.keep [0] rfl⟩
 refine CW.skip (QW.next (rg ?_))
 refine pu 2 [(16, Pt b1), (17, I p1)] ?_
 have hst := hst.ofMN 1 rfl
 obtain ⟨S18, hst⟩ := hst.shutP1 R_t112 rfl 0 1 [] rfl rfl rfl p0 rfl rfl
 obtain ⟨r19, hr20, hF⟩ := bs hF
 refine OW.fn rfl rfl rfl rfl (by kernel_rfl) (refs_Refs_Holders_ok _ (Pt b1) S18 p0 p1 r19 hr20 (hst.part [0] rfl)) ?_
 rintro e w21 ⟨S23, v24, rfl, hst22⟩
 refine ⟨_, rfl, ?_⟩
 have hst := hst.join (idx := [0]) (rest := []) rfl hst22
 obtain ⟨l25, a26, c27, rfl⟩ := hst.len 1 rfl
 refine pu 3 [(4, I ((r19).length : Int)), (5, I 0)] (nx (CW.ret ?_))
 obtain rfl := inj hF
 refine QW.ret2 rfl rfl rfl ?_
 exact ⟨S23, rfl, hst.keep [0] rfl⟩
theorem tappetlaw24_awake_ok (w : World) (fu : Nat)  (r : Bool) (hF : tappetlaw24_awake fu = some r)
    (hst : St w (fp []) w []) (hT0 : Rd w (fp []) (.slice (some ⟨0, 0, none⟩) 23 23) enc_ops_form 2 tab_g0) (hT1 : Rd w (fp []) (.slice (some ⟨1, 0, none⟩) 7 7) enc_sigs_sig 5 tab_g1) :
    Calls Tryz.prog 8 [].toArray w (fun e w' => e = .returned (.bool r) ∧ St w (fp []) w' []) := by
 refine CW.start (N := 56) Tryz.func8 rfl rfl rfl (rg ?_)
 refine pu 1 [] (nx (rg ?_))
 obtain ⟨r11, hr12, hF⟩ := bs hF
 refine OW.fn rfl rfl rfl rfl (by kernel_rfl) (registry_New_ok _ 2 3 1 r11 hr12 (hst.part [] rfl)) ?_
 rintro e w13 (⟨k15, v17, S18, he16, rfl, hst14⟩ | ⟨he19, rfl, hst14⟩)
 ·have hF := ocase_some hF he16
  refine ⟨_, rfl, ?_⟩
  have hst := hst.join (idx := []) (rest := []) rfl hst14
  obtain ⟨b20, rfl⟩ := hst.fptr 0 rfl
  refine pu 5 [(1, Pt b20), (2, I r11.2)] (nx (CW.seq (rg ?_)))
  refine pu 6 [(16, .bool (r11.2 != 0))] (nx ?_)
  refine br ((r11.2 != 0)) hF (fun hF hc21 => ?_) (fun hF hc21 => ?_)
  ·refine rg ?_
   refine pu 1 [(0, .bool false)] (nx (CW.ret (QW.then_ret ?_)))
   obtain rfl := inj hF
   refine QW.ret1 rfl rfl ?_
   exact ⟨rfl, hst.keep [] rfl⟩
  refine CW.skip (QW.next (rg ?_))
  refine pu 1 [(18, Pt b20)] ?_
  obtain ⟨r32, hr33, hF⟩ := bs hF
  refine OW.fn rfl rfl rfl rfl (by kernel_rfl) (tappetlaw24_five_ok _ r32 hr33 (hst.part [] rfl)) ?_
  rintro e w34 ⟨b36, rfl, hst35⟩
  refine ⟨_, rfl, ?_⟩
  have hst := hst.join (idx := []) (rest := [0]) rfl hst35
  obtain ⟨r37, hr38, hF⟩ := bs hF
  refine OW.fn rfl rfl rfl rfl (by kernel_rfl) (registry_Registry_Load_ok _ fu (Pt b20) S18 k15 (.slice (some ⟨b36, 0, none⟩) (r32).length (r32).length) r32 r37 hr38 (hst.part [1] rfl) (hst.frd 0 rfl [1] rfl) (hT0.give hst [1]) (hT1.give hst [1])) ?_
  rintro e w39 ⟨S41, rfl, hst40⟩
  refine ⟨_, rfl, ?_⟩
  have hst := hst.join (idx := [1]) (rest := [0]) rfl hst40
  refine pu 5 [(3, I r37.1), (2, I r37.2.1)] (nx (CW.seq (CW.seq ?_)))
  refine CW.cutK (fun a w1 => Rep 56 [(1, Pt b20), (28, .bool ((r37.1 != 1) || (r37.2.1 != 0)))] a ∧ St w (fp []) w1 [itI R_t24 [Pt b20] S41 r37.2.2]) ?_ ?_
  ·refine CW.region ?_
   refine pu 3 [(25, .bool (r37.1 != 1))] ?_
   refine OW.split 25 rfl (fun hc42 => ?_) (fun hc42 => ?_)
   ·refine pu 3 [(28, .bool true)] (OW.nil rfl ?_)
    refine QW.say 28 (v := .bool ((r37.1 != 1) || (r37.2.1 != 0))) rfl (by first | (rw [hc42]; done) | (rw [hc42]; rfl) | simp [hc42]) ?_
    exact QW.meet (fun a ha => ⟨ha.ag, hst.keep [0] rfl⟩)
   refine pu 3 [(28, .bool (r37.2.1 != 0))] (OW.nil rfl ?_)
   refine QW.say 28 (v := .bool ((r37.1 != 1) || (r37.2.1 != 0))) rfl (by first | (rw [hc42]; done) | (rw [hc42]; rfl) | simp [hc42]) ?_
   exact QW.meet (fun a ha => ⟨ha.ag, hst.keep [0] rfl⟩)
  rintro a w1 ⟨ha, hst⟩
  refine CW.go ?_ ha
  refine br (((r37.1 != 1) || (r37.2.1 != 0))) hF (fun hF hc43 => ?_) (fun hF hc43 => ?_)
  ·refine rg ?_
   refine pu 1 [(0, .bool false)] (nx (CW.ret (QW.then_ret ?_)))
   obtain rfl := inj hF
   refine QW.ret1 rfl rfl ?_
   exact ⟨rfl, hst.keep [] rfl⟩
  refine CW.skip (QW.next (rg ?_))
  refine pu 1 [(30, Pt b20)] ?_
  obtain ⟨r49, hr50, hF⟩ := bs hF
  refine OW.fn rfl rfl rfl rfl (by kernel_rfl) (registry_Registry_Attach_ok _ (Pt b20) S41 r37.2.2 0 1 r49 hr50 (hst.part [0] rfl)) ?_
  rintro e w51 ⟨S53, rfl, hst52⟩
  refine ⟨_, rfl, ?_⟩
  have hst := hst.join (idx := [0]) (rest := []) rfl hst52
  refine pu 5 [(4, I r49.1), (2, I r49.2.1)] (nx (CW.seq ?_))
  obtain ⟨v54, S55, v56, S57, v58, S59, v60, S61, v62, S63, hst⟩ := hst.openQ5 0 rfl rfl rfl rfl rfl rfl
  obtain ⟨r64, rfl, hst⟩ := hst.toMN1 4 rfl
  have hst := hst.toRow1 5 rfl
  obtain ⟨b65, rfl⟩ := hst.fptr 1 rfl
  obtain ⟨b66, rfl⟩ := hst.fptr 2 rfl
  obtain ⟨b67, rfl⟩ := hst.fptr 3 rfl
  obtain ⟨l68, a69, c70, rfl⟩ := hst.len 5 rfl
  have hst : St _ _ _ [blkI b20 58 [Pt b65, Pt b66, Pt b67, I r49.2.2.hooks, I r49.2.2.maps, I r49.2.2.given, .map (some r64), .slice a69 (r49.2.2.waiting).length c70], _, _, _, _, _] := hst
  refine CW.region ?_
  refine pu 3 [(37, .pointer (some ⟨b20, 1, none⟩))] ?_
  refine OW.ld rfl rfl rfl rfl (by kernel_rfl) (hst.blk 0 rfl rfl) ?_
  obtain ⟨r76, hr77, hF⟩ := bs hF
  refine OW.fn rfl rfl rfl rfl (by kernel_rfl) (refs_Refs_Count_ok _ (Pt b66) S57 r49.2.2.Refs 2 r76 hr77 (hst.part [2] rfl)) ?_
  rintro e w78 ⟨S80, rfl, hst79⟩
  refine ⟨_, rfl, ?_⟩
  have hst := hst.join (idx := [2]) (rest := [0, 1, 3, 4, 5]) rfl hst79
  refine pu 5 [(5, I r76.1), (6, I r76.2)] (nx (CW.seq ?_))
  refine CW.cutK (fun a w1 => Rep 56 [(0, .bool ((((r49.1 == 1) && (r49.2.1 == 0)) && (r76.1 == 1)) && (r76.2 == 0)))] a ∧ St w (fp []) w1 []) ?_ ?_
  ·refine CW.region ?_
   refine pu 3 [(44, .bool (r49.1 == 1))] ?_
   refine OW.split 44 rfl (fun hc81 => ?_) (fun hc81 => ?_)
   ·refine pu 4 [(48, .bool (r49.2.1 == 0))] ?_
    refine OW.split 48 rfl (fun hc82 => ?_) (fun hc82 => ?_)
    ·refine pu 4 [(52, .bool (r76.1 == 1))] ?_
     refine OW.split 52 rfl (fun hc83 => ?_) (fun hc83 => ?_)
     ·refine pu 4 [(0, .bool (r76.2 == 0))] (OW.nil rfl ?_)
      refine QW.say 0 (v := .bool ((((r49.1 == 1) && (r49.2.1 == 0)) && (r76.1 == 1)) && (r76.2 == 0))) rfl (by first | (rw [hc81, hc82, hc83]; done) | (rw [hc81, hc82, hc83]; rfl) | simp [hc81, hc82, hc83]) ?_
      exact QW.meet (fun a ha => ⟨ha.ag, hst.keep [] rfl⟩)
     refine pu 4 [(0, .bool false)] (OW.nil rfl ?_)
     refine QW.say 0 (v := .bool ((((r49.1 == 1) && (r49.2.1 == 0)) && (r76.1 == 1)) && (r76.2 == 0))) rfl (by first | (rw [hc81, hc82, hc83]; done) | (rw [hc81, hc82, hc83]; rfl) | simp [hc81, hc82, hc83]) ?_
     exact QW.meet (fun a ha => ⟨ha.ag, hst.keep [] rfl⟩)
    refine pu 8 [(0, .bool false)] (OW.nil rfl ?_)
    refine QW.say 0 (v := .bool ((((r49.1 == 1) && (r49.2.1 == 0)) && (r76.1 == 1)) && (r76.2 == 0))) rfl (by first | (rw [hc81, hc82]; done) | (rw [hc81, hc82]; rfl) | simp [hc81, hc82]) ?_
    exact QW.meet (fun a ha => ⟨ha.ag, hst.keep [] rfl⟩)
   refine pu 12 [(0, .bool false)] (OW.nil rfl ?_)
   refine QW.say 0 (v := .bool ((((r49.1 == 1) && (r49.2.1 == 0)) && (r76.1 == 1)) && (r76.2 == 0))) rfl (by first | (rw [hc81]; done) | (rw [hc81]; rfl) | simp [hc81]) ?_
   exact QW.meet (fun a ha => ⟨ha.ag, hst.keep [] rfl⟩)
  rintro a w1 ⟨ha, hst⟩
  refine CW.go ?_ ha
  refine CW.ret ?_
  obtain rfl := inj hF
  refine QW.ret1 rfl rfl ?_
  exact ⟨rfl, hst.keep [] rfl⟩
 have hF := ocase_none hF he19
 refine ⟨_, rfl, ?_⟩
 have hst := hst.join (idx := []) (rest := []) rfl hst14
 refine pu 5 [(1, .pointer none), (2, I r11.2)] (nx (CW.seq (rg ?_)))
 refine pu 6 [(16, .bool true)] (nx (CW.cond_t rfl rfl (rg ?_)))
 refine pu 1 [(0, .bool false)] (nx (CW.ret (QW.then_ret ?_)))
 obtain rfl := inj hF
 refine QW.ret1 rfl rfl ?_
 exact ⟨rfl, hst.keep [] rfl⟩
theorem registry_Registry_Live_ok (w : World) (v0 : Value) (S0 : List Nat) (p0 : registry_Registry) (r : (List Int)) (hF : registry_Registry_Live p0 = some r)
    (hst : St w (fp [itI R_t24 [v0] S0 p0]) w [itI R_t24 [v0] S0 p0]) :
    Calls Tryz.prog 13 [v0].toArray w (fun e w' => ∃ (s0 : List Nat) (x0 : Value), e = .returned (x0) ∧ St w (fp [itI R_t24 [v0] S0 p0]) w' [itI R_t24 [v0] s0 p0, rowI x0 3 (encInt .i64) 1 r]) := by
 refine CW.start (N := 28) Tryz.func13 rfl rfl rfl ?_
 obtain ⟨b1, rfl⟩ := hst.fptr 0 rfl
 refine rg ?_
 refine pu 1 [] (nx (rg ?_))
 refine pu 1 [(3, .slice none 0 0)] (nx (CW.seq (CW.seq ?_)))
 obtain ⟨v2, S3, v4, S5, v6, S7, v8, S9, v10, S11, hst⟩ := hst.openQ5 0 rfl rfl rfl rfl rfl rfl
 obtain ⟨r12, rfl, hst⟩ := hst.toMN1 4 rfl
 have hst := hst.toRow1 5 rfl
 obtain ⟨b13, rfl⟩ := hst.fptr 1 rfl
 obtain ⟨b14, rfl⟩ := hst.fptr 2 rfl
 obtain ⟨b15, rfl⟩ := hst.fptr 3 rfl
 obtain ⟨l16, a17, c18, rfl⟩ := hst.len 5 rfl
 have hst : St _ _ _ [blkI b1 58 [Pt b13, Pt b14, Pt b15, I p0.hooks, I p0.maps, I p0.given, .map (some r12), .slice a17 (p0.waiting).length c18], _, _, _, _, _] := hst
 refine CW.region ?_
 refine pu 3 [(8, .pointer (some ⟨b1, 6, none⟩))] ?_
 refine OW.ld rfl rfl rfl rfl (by kernel_rfl) (hst.blk 0 rfl rfl) ?_
 refine OW.range (tk := 3) (te := 95) hst 4 rfl rfl rfl rfl rfl (by kernel_rfl) ?_
 intro it21 w22 hst
 refine nx (CW.block ?_)
 have hst := hst.nilRow Int 3 (encInt .i64) 1
 refine CW.loop (fun n a w1 => ∃ (s142 : (List Int)) (v143 : Value) (rem144 : List (Int × registry_program)) (last145 : Option (Int × Value × registry_program)), n = rem144.length ∧ Rep 28 [(3, v143), (10, Pt it21)] a ∧ St w (fp [itI R_t24 [Pt b1] S0 p0]) w1 [rowI v143 3 (encInt .i64) 1 s142, rngI it21 r12 R_t95 S9 p0.progs rem144 last145, blkI b1 58 [Pt b13, Pt b14, Pt b15, I p0.hooks, I p0.maps, I p0.given, .map (some r12), .slice a17 (p0.waiting).length c18], itI R_t53 [Pt b13] S3 p0.Table, itI R_t54 [Pt b14] S5 p0.Refs, itI R_t55 [Pt b15] S7 p0.Clock, rowI (.slice a17 (p0.waiting).length c18) 3 (encInt .i64) 1 p0.waiting] ∧ ∀ q, q.Perm rem144 → rangeF (registry_Registry_Live_b1 p0) (registry_Registry_Live_f1 p0) q s142 = some r) (p0.progs.length) (fun a ha => ⟨([] : List Int), (.slice none 0 0), p0.progs, none, rfl, ha.ag, hst.keep [6, 4, 0, 1, 2, 3, 5] rfl, fun q hq => (registry_Registry_Live_fair1 p0) q hq _ hF⟩) ?_
 rintro n139 a w1 ⟨s142, v143, rem144, last145, hn141, ha, hst, hl140⟩
 refine CW.go ?_ ha
 obtain ⟨l146, a147, c148, rfl⟩ := hst.len 0 rfl
 refine rg ?_
 refine OW.rnext hst 1 rfl rfl rfl rfl rfl ?_ ?_
 ·intro hr170
  have hf172 : (registry_Registry_Live_f1 p0) s142 = some r := hl140 [] (by rw [hr170])
  have hst := hst.unrng 1 rfl
  refine pu 1 [(12, .bool false)] (nx (CW.seq (CW.cond_f rfl rfl ?_)))
  refine CW.exit (QW.then_exit (QW.then_exit ?_))
  refine QW.block_here (QW.next (rg ?_))
  refine pu 1 [(25, .slice a147 (s142).length c148)] ?_
  obtain ⟨r177, hr178, hf172⟩ := bs hf172
  refine OW.fn rfl rfl rfl rfl (by kernel_rfl) (slices_Sort_int_int_ok _ (.slice a147 (s142).length c148) s142 r177 hr178 (hst.part [0] rfl)) ?_
  rintro e w179 ⟨rfl, hst180⟩
  refine ⟨_, rfl, ?_⟩
  have hst := hst.join (idx := [0]) (rest := [1, 2, 3, 4, 5, 6]) rfl hst180
  refine nx (rg ?_)
  refine pu 2 [(2, .slice a147 (s142).length c148)] (nx (CW.ret ?_))
  have hst := hst.ofMN 1 rfl
  have hst := hst.toIt 6 rfl (fun _ => rfl) (by decide)
  obtain ⟨S181, hst⟩ := hst.shutP5 R_t58 rfl 2 3 4 5 1 6 [0] rfl rfl rfl rfl rfl rfl rfl p0 rfl rfl
  obtain rfl := inj hf172
  refine QW.ret1 rfl rfl ?_
  exact ⟨S181, (.slice a147 (s142).length c148), rfl, hst.keep [1, 0] rfl⟩
 intro k161 v162 x163 rem164 w165 hp166 hst
 obtain ⟨t169, hs167, ht168⟩ := bs (hl140 ((k161, x163) :: rem164) hp166.symm)
 have hs1670 := hs167
 obtain ⟨b171, rfl⟩ := hst.rfptr 1 rfl
 refine pu 1 [(12, .bool true)] (nx (CW.seq (CW.cond_t rfl rfl (CW.skip (QW.next (CW.block (rg ?_)))))))
 refine OW.rentry hst 1 rfl rfl rfl rfl rfl ?_
 refine pu 4 [(4, I k161), (5, Pt b171)] (nx (rg ?_))
 refine pu 3 [(18, .pointer (some ⟨b171, 2, none⟩))] ?_
 refine OW.ld rfl rfl rfl rfl (by kernel_rfl) (hst.rcell 1 rfl 2 (fun _ => rfl)) ?_
 refine pu 1 [(20, .bool (x163.retiring == 0))] (nx ?_)
 refine br ((x163.retiring == 0)) hs167 (fun hs167 hc182 => ?_) (fun hs167 hc182 => ?_)
 ·refine CW.region ?_
  refine pu 2 [(21, .slice a147 (s142).length c148), (22, I k161)] ?_
  refine OW.row (α := Int) (e := 3) (enc := encInt .i64) (sz := 1) hst rfl rfl rfl [k161] rfl (fun _ => rfl) rfl rfl (fun _ => by kernel_rfl) ?_
  intro g192 w193 hst
  obtain ⟨u194, hr195, hs167⟩ := bs hs167
  refine OW.app hst 0 rfl (fun _ => rfl) (fun _ => rfl) rfl rfl rfl rfl rfl rfl (by kernel_rfl) el3 (hst.rd 7 rfl (fun _ => rfl) [] rfl (hst.len 7 rfl).1) (room_le hr195) ?_
  intro v196 w197 hst
  obtain ⟨l198, a199, c200, rfl⟩ := hst.len 0 rfl
  refine pu 1 [(3, .slice a199 ((s142 ++ [k161])).length c200)] (OW.nil rfl (QW.block_normal ?_))
  obtain rfl := inj hs167
  exact QW.meet (fun a ha => ⟨_, rng_lt hn141 hp166, (s142 ++ [k161]), (.slice a199 ((s142 ++ [k161])).length c200), rem164, (some (k161, Pt b171, x163)), rfl, ha.ag, hst.keep [0, 1, 2, 3, 4, 5, 6] rfl, fun q hq => rangeF_step (hl140 _ ((List.Perm.cons _ hq).trans hp166.symm)) hs1670⟩)
 refine CW.skip (QW.block_normal ?_)
 obtain rfl := inj hs167
 exact QW.meet (fun a ha => ⟨_, rng_lt hn141 hp166, s142, (.slice a147 (s142).length c148), rem164, (some (k161, Pt b171, x163)), rfl, ha.ag, hst.keep [0, 1, 2, 3, 4, 5, 6] rfl, fun q hq => rangeF_step (hl140 _ ((List.Perm.cons _ hq).trans hp166.symm)) hs1670⟩)
theorem slices_Clone_tappet_api_Inst_tappet_api_Inst_ok (w : World) (v0 : Value) (p0 : List api_Inst) (r : (List api_Inst)) (hF : slices_Clone_tappet_api_Inst_tappet_api_Inst p0 = some r)
    (hst : St w (fp []) w []) (h0 : Rd w (fp []) v0 enc_api_Inst 5 p0) :
    Calls Tryz.prog 42 [v0].toArray w (fun e w' => ∃ (x0 : Value), e = .returned (x0) ∧ St w (fp []) w' [rowI x0 42 enc_api_Inst 5 r]) := by
 refine CW.start (N := 8) Tryz.func42 rfl rfl rfl ?_
 obtain ⟨l1, a2, c3, rfl⟩ := h0.len
 refine rg ?_
 refine pu 1 [] (nx (CW.seq (rg ?_)))
 refine pu 1 [(3, .slice a2 (p0).length c3)] ?_
 refine OW.op (v := .bool (a2).isNone) rfl rfl rfl rfl (fun a ha => snil_run (e := 42) rfl rfl rfl (by kernel_rfl) a _ ha) (nx ?_)
 rcases bft ((a2).isNone) with hc4 | hc4
 ·have hn5 := h0.isnil (fun _ => ⟨_, rfl⟩) hc4
  have hF : some ([] : List api_Inst) = some r := by rw [hn5] at hF; exact hF
  refine CW.cond_t rfl hc4 (rg ?_)
  refine pu 1 [(2, .slice none 0 0)] (nx (CW.ret (QW.then_ret ?_)))
  have hst := hst.nilRow api_Inst 42 enc_api_Inst 5
  obtain rfl := inj hF
  refine QW.ret1 rfl rfl ?_
  exact ⟨(.slice none 0 0), rfl, hst.keep [0] rfl⟩
 refine CW.cond_f rfl hc4 (CW.skip (QW.next (rg ?_)))
 refine OW.row (α := api_Inst) (e := 42) (enc := enc_api_Inst) (sz := 5) hst rfl rfl rfl [] rfl (fun _ => rfl) rfl rfl (fun _ => by kernel_rfl) ?_
 intro g15 w16 hst
 refine pu 1 [(6, .slice a2 (p0).length c3)] ?_
 obtain ⟨u17, hr18, hF⟩ := bs hF
 refine OW.app hst 0 rfl (fun _ => rfl) (fun _ => rfl) rfl rfl rfl rfl rfl rfl (by kernel_rfl) el42 (h0.on hst) (room_le hr18) ?_
 intro v19 w20 hst
 obtain ⟨l21, a22, c23, rfl⟩ := hst.len 0 rfl
 refine pu 1 [(2, .slice a22 ((([] : List api_Inst) ++ p0)).length c23)] (nx (CW.ret ?_))
 obtain rfl := inj hF
 refine QW.ret1 rfl rfl ?_
 exact ⟨(.slice a22 ((([] : List api_Inst) ++ p0)).length c23), rfl, hst.keep [0] rfl⟩
theorem registry_Registry_Module_ok (w : World) (v0 : Value) (S0 : List Nat) (p0 : registry_Registry) (p1 : Int) (r : api_Module × Bool) (hF : registry_Registry_Module p0 p1 = some r)
    (hst : St w (fp [itI R_t24 [v0] S0 p0]) w [itI R_t24 [v0] S0 p0]) :
    Calls Tryz.prog 14 [v0, I p1].toArray w (fun e w' => ∃ (s0 : List Nat) (x0_0 : Value) (x0_1 : Value), e = .returned (.tuple #[.agg [x0_0, x0_1].toArray, .bool r.2]) ∧ St w (fp [itI R_t24 [v0] S0 p0]) w' [itI R_t24 [v0] s0 p0, rowI x0_0 3 (encInt .i64) 1 r.1.Maps, rowI x0_1 42 enc_api_Inst 5 r.1.Code]) := by
 refine CW.start (N := 33) Tryz.func14 rfl rfl rfl ?_
 obtain ⟨b1, rfl⟩ := hst.fptr 0 rfl
 refine rg ?_
 refine OW.alloc hst rfl rfl rfl [.slice none 0 0, .slice none 0 0] (by kernel_rfl) ?_
 intro b4 w5 hst
 refine pu 1 [] (nx (CW.seq ?_))
 obtain ⟨v6, S7, v8, S9, v10, S11, v12, S13, v14, S15, hst⟩ := hst.openQ5 0 rfl rfl rfl rfl rfl rfl
 obtain ⟨r16, rfl, hst⟩ := hst.toMN1 5 rfl
 have hst := hst.toRow1 6 rfl
 obtain ⟨b17, rfl⟩ := hst.fptr 2 rfl
 obtain ⟨b18, rfl⟩ := hst.fptr 3 rfl
 obtain ⟨b19, rfl⟩ := hst.fptr 4 rfl
 obtain ⟨l20, a21, c22, rfl⟩ := hst.len 6 rfl
 have hst : St _ _ _ [blkI b1 58 [Pt b17, Pt b18, Pt b19, I p0.hooks, I p0.maps, I p0.given, .map (some r16), .slice a21 (p0.waiting).length c22], _, _, _, _, _, _] := hst
 refine CW.region ?_
 refine pu 3 [(11, .pointer (some ⟨b1, 6, none⟩))] ?_
 refine OW.ld rfl rfl rfl rfl (by kernel_rfl) (hst.blk 0 rfl rfl) ?_
 refine pu 1 [(13, I p1)] ?_
 refine OW.mlook (tk := 3) (te := 95) (kd := .i64) (optP 97 R_t97) (fun o => o) hst 5 rfl rfl rfl rfl rfl rfl (by kernel_rfl) (by kernel_rfl) (.pointer none) (by kernel_rfl) (fun _ => ⟨rfl, rfl⟩) (fun _ _ _ _ h => h) (fun _ _ _ _ h => h) ?_
 intro v26 S27 S28 hst
 refine pu 5 [(6, v26), (7, .bool (mget p0.progs p1).isSome)] (nx (CW.seq (rg ?_)))
 refine pu 2 [(18, .bool (!(mget p0.progs p1).isSome))] (nx ?_)
 refine br ((!(mget p0.progs p1).isSome)) hF (fun hF hc29 => ?_) (fun hF hc29 => ?_)
 ·refine rg ?_
  refine pu 1 [(19, .agg [.slice none 0 0, .slice none 0 0].toArray)] ?_
  refine OW.stB hst 1 rfl rfl rfl rfl rfl (by kernel_rfl) rfl rfl [.slice none 0 0, .slice none 0 0] rfl ?_
  intro w31 hst
  refine pu 1 [(5, .bool false)] (nx (CW.ret (QW.then_ret ?_)))
  obtain ⟨S32, hst⟩ := hst.mback0 (f := (fun o => o)) 5 7 rfl rfl rfl (fun _ _ _ _ h => h)
  have hst := hst.keep [0, 1, 2, 3, 4, 5, 6] rfl
  have hst := hst.ofMN 5 rfl
  have hst := hst.toIt 6 rfl (fun _ => rfl) (by decide)
  obtain ⟨S33, hst⟩ := hst.shutP5 R_t58 rfl 0 2 3 4 5 6 [1] rfl rfl rfl rfl rfl rfl rfl p0 rfl rfl
  have hst := hst.nilRow Int 3 (encInt .i64) 1
  have hst := hst.nilRow api_Inst 42 enc_api_Inst 5
  obtain rfl := inj hF
  refine QW.ret_ct rfl rfl (run_loadN (cs := [.slice none 0 0, .slice none 0 0]) (by kernel_rfl) (by kernel_rfl) (hst.blkN 0 rfl 0 2)) rfl ?_
  exact ⟨S33, (.slice none 0 0), (.slice none 0 0), rfl, hst.keep [1, 2, 3] rfl⟩
 refine CW.skip (QW.next (CW.seq ?_))
 refine CW.plan (by kernel_rfl) ?_
 intro w66 hch67
 have hst := hst.same hch67
 obtain ⟨y68, hy69, hF⟩ := bs hF
 have hst := hst.optSome 7 rfl hy69
 obtain ⟨b70, rfl⟩ := hst.fptr 7 rfl
 obtain ⟨v71, S72, v73, S74, hst⟩ := hst.openQ2 7 rfl rfl rfl
 have hst := hst.toRow1 8 rfl
 have hst := hst.toRow1 9 rfl
 obtain ⟨l75, a76, c77, rfl⟩ := hst.len 8 rfl
 obtain ⟨l78, a79, c80, rfl⟩ := hst.len 9 rfl
 have hst : St _ _ _ [_, _, _, _, _, _, _, blkI b70 97 [.slice a76 (y68.module.Maps).length c77, .slice a79 (y68.module.Code).length c80, I y68.retiring], _, _] := hst
 refine OA.pure [0, 1, 2, 3] [(23, Pt b70)] (by kernel_rfl) ?_
 refine OA.ld (i := 4) rfl (by kernel_rfl) rfl rfl rfl (by kernel_rfl) (hst.blk 7 rfl rfl) ?_
 refine OA.pure [6, 7, 8, 9] [(29, .pointer (some ⟨b70, 1, none⟩))] (by kernel_rfl) ?_
 refine OA.ld (i := 10) rfl (by kernel_rfl) rfl rfl rfl (by kernel_rfl) (hst.blk 7 rfl rfl) ?_
 refine OA.act (i := 5) [10] (by kernel_rfl) rfl rfl (by kernel_rfl) (by kernel_rfl) ?_
 obtain ⟨r81, hr82, hF⟩ := bs hF
 refine OW.fn rfl rfl rfl rfl (by kernel_rfl) (slices_Clone_int_int_ok _ (.slice a76 (y68.module.Maps).length c77) y68.module.Maps r81 hr82 (hst.part [] rfl) (hst.rd 8 rfl (fun _ => rfl) [] rfl (hst.len 8 rfl).1)) ?_
 rintro e w83 ⟨v85, rfl, hst84⟩
 refine ⟨_, rfl, ?_⟩
 have hst := hst.join (idx := []) (rest := [0, 1, 2, 3, 4, 5, 6, 7, 8, 9]) rfl hst84
 obtain ⟨l86, a87, c88, rfl⟩ := hst.len 0 rfl
 refine OA.next ⟨(hst.blk 8 rfl rfl), trivial⟩ ?_
 refine OA.act (i := 11) [] (by kernel_rfl) rfl rfl (by kernel_rfl) (by kernel_rfl) ?_
 obtain ⟨r89, hr90, hF⟩ := bs hF
 refine OW.fn rfl rfl rfl rfl (by kernel_rfl) (slices_Clone_tappet_api_Inst_tappet_api_Inst_ok _ (.slice a79 (y68.module.Code).length c80) y68.module.Code r89 hr90 (hst.part [] rfl) (hst.rd 10 rfl (fun _ => rfl) [] rfl (hst.len 10 rfl).1)) ?_
 rintro e w91 ⟨v93, rfl, hst92⟩
 refine ⟨_, rfl, ?_⟩
 have hst := hst.join (idx := []) (rest := [0, 1, 2, 3, 4, 5, 6, 7, 8, 9, 10]) rfl hst92
 obtain ⟨l94, a95, c96, rfl⟩ := hst.len 0 rfl
 refine OA.next trivial ?_
 refine OA.pure [12] [(32, .agg [.slice a87 (r81).length c88, .slice a95 (r89).length c96].toArray)] (by kernel_rfl) ?_
 refine OA.act (i := 13) [] (by kernel_rfl) rfl rfl (by kernel_rfl) (by kernel_rfl) ?_
 refine OW.stB hst 3 rfl rfl rfl rfl rfl (by kernel_rfl) rfl rfl [.slice a87 (r81).length c88, .slice a95 (r89).length c96] rfl ?_
 intro w97 hst
 refine OA.next trivial ?_
 refine OA.act (i := 14) [] (by kernel_rfl) rfl rfl (by kernel_rfl) (by kernel_rfl) ?_
 refine pu 1 [(5, .bool true)] (OA.next trivial ?_)
 refine OA.fin (by kernel_rfl) (by kernel_rfl) (QW.next (CW.ret ?_))
 have hst := hst.toIt 10 rfl (fun _ => rfl) (by decide)
 have hst := hst.toIt 11 rfl (fun _ => rfl) (by decide)
 obtain ⟨S98, hst⟩ := hst.shutP2 R_t97 rfl 9 10 11 [0, 1, 2, 3, 4, 5, 6, 7, 8] rfl rfl rfl rfl y68 rfl rfl
 have hst := hst.toOpt 9 rfl
 obtain ⟨S99, hst⟩ := hst.mback (f := (fun o => o)) 7 9 rfl rfl rfl (fun _ _ _ _ h => h) y68 (fun _ => rfl)
 rw [mset_self hy69] at hst
 have hst := hst.keep [0, 1, 2, 3, 4, 5, 6, 7, 8] rfl
 have hst := hst.ofMN 7 rfl
 have hst := hst.toIt 8 rfl (fun _ => rfl) (by decide)
 obtain ⟨S100, hst⟩ := hst.shutP5 R_t58 rfl 2 4 5 6 7 8 [0, 1, 3] rfl rfl rfl rfl rfl rfl rfl p0 rfl rfl
 obtain rfl := inj hF
 refine QW.ret_ct rfl rfl (run_loadN (cs := [.slice a87 (r81).length c88, .slice a95 (r89).length c96]) (by kernel_rfl) (by kernel_rfl) (hst.blkN 2 rfl 0 2)) rfl ?_
 exact ⟨S100, (.slice a87 (r81).length c88), (.slice a95 (r89).length c96), rfl, hst.keep [3, 1, 0] rfl⟩
theorem tappetref04_Same_ok (w : World) (v0_0 : Value) (v0_1 : Value) (p0 : api_Module) (v1_0 : Value) (v1_1 : Value) (p1 : api_Module) (r : Bool) (hF : tappetref04_Same p0 p1 = some r)
    (hst : St w (fp []) w []) (h0_0 : Rd w (fp []) v0_0 (encInt .i64) 1 p0.Maps) (h0_1 : Rd w (fp []) v0_1 enc_api_Inst 5 p0.Code) (h1_0 : Rd w (fp []) v1_0 (encInt .i64) 1 p1.Maps) (h1_1 : Rd w (fp []) v1_1 enc_api_Inst 5 p1.Code) :
    Calls Tryz.prog 15 [.agg [v0_0, v0_1].toArray, .agg [v1_0, v1_1].toArray].toArray w (fun e w' => e = .returned (.bool r) ∧ St w (fp []) w' []) := by
 refine CW.start (N := 59) Tryz.func15 rfl rfl rfl ?_
 obtain ⟨l1, a2, c3, rfl⟩ := h0_0.len
 obtain ⟨l4, a5, c6, rfl⟩ := h0_1.len
 obtain ⟨l7, a8, c9, rfl⟩ := h1_0.len
 obtain ⟨l10, a11, c12, rfl⟩ := h1_1.len
 refine rg ?_
 refine OW.box hst rfl rfl rfl rfl [.slice a2 (p0.Maps).length c3, .slice a5 (p0.Code).length c6] rfl ?_
 intro b17 w18 hst
 refine OW.box hst rfl rfl rfl rfl [.slice a8 (p1.Maps).length c9, .slice a11 (p1.Code).length c12] rfl ?_
 intro b19 w20 hst
 refine pu 1 [] (nx (CW.seq (CW.seq ?_)))
 refine CW.cutK (fun a w1 => Rep 59 [(2, Pt b17), (3, Pt b19), (22, .bool ((((p0.Maps).length : Int) != ((p1.Maps).length : Int)) || (((p0.Code).length : Int) != ((p1.Code).length : Int))))] a ∧ St w (fp []) w1 [blkI b17 31 [.slice a2 (p0.Maps).length c3, .slice a5 (p0.Code).length c6], blkI b19 31 [.slice a8 (p1.Maps).length c9, .slice a11 (p1.Code).length c12]]) ?_ ?_
 ·refine CW.region ?_
  refine pu 1 [(7, Pt b17)] ?_
  refine OW.ld rfl rfl rfl rfl (by kernel_rfl) (hst.blk 0 rfl rfl) ?_
  refine pu 2 [(9, I ((p0.Maps).length : Int)), (10, Pt b19)] ?_
  refine OW.ld rfl rfl rfl rfl (by kernel_rfl) (hst.blk 1 rfl rfl) ?_
  refine pu 3 [(14, .bool (((p0.Maps).length : Int) != ((p1.Maps).length : Int)))] ?_
  refine OW.split 14 rfl (fun hc21 => ?_) (fun hc21 => ?_)
  ·refine pu 8 [(22, .bool true)] (OW.nil rfl ?_)
   refine QW.say 22 (v := .bool ((((p0.Maps).length : Int) != ((p1.Maps).length : Int)) || (((p0.Code).length : Int) != ((p1.Code).length : Int)))) rfl (by first | (rw [hc21]; done) | (rw [hc21]; rfl) | simp [hc21]) ?_
   exact QW.meet (fun a ha => ⟨ha.ag, hst.keep [0, 1] rfl⟩)
  refine pu 1 [(15, .pointer (some ⟨b17, 1, none⟩))] ?_
  refine OW.ld rfl rfl rfl rfl (by kernel_rfl) (hst.blk 0 rfl rfl) ?_
  refine pu 2 [(17, I ((p0.Code).length : Int)), (18, .pointer (some ⟨b19, 1, none⟩))] ?_
  refine OW.ld rfl rfl rfl rfl (by kernel_rfl) (hst.blk 1 rfl rfl) ?_
  refine pu 3 [(22, .bool (((p0.Code).length : Int) != ((p1.Code).length : Int)))] (OW.nil rfl ?_)
  refine QW.say 22 (v := .bool ((((p0.Maps).length : Int) != ((p1.Maps).length : Int)) || (((p0.Code).length : Int) != ((p1.Code).length : Int)))) rfl (by first | (rw [hc21]; done) | (rw [hc21]; rfl) | simp [hc21]) ?_
  exact QW.meet (fun a ha => ⟨ha.ag, hst.keep [0, 1] rfl⟩)
 rintro a w1 ⟨ha, hst⟩
 refine CW.go ?_ ha
 refine br (((((p0.Maps).length : Int) != ((p1.Maps).length : Int)) || (((p0.Code).length : Int) != ((p1.Code).length : Int)))) hF (fun hF hc22 => ?_) (fun hF hc22 => ?_)
 ·refine rg ?_
  refine pu 1 [(4, .bool false)] (nx (CW.ret (QW.then_ret ?_)))
  obtain rfl := inj hF
  refine QW.ret1 rfl rfl ?_
  exact ⟨rfl, hst.keep [] rfl⟩
 refine CW.skip (QW.next (CW.seq (rg ?_)))
 refine pu 1 [(5, I 0)] (nx ?_)
 obtain ⟨o119, ho120, hF⟩ := bs hF
 refine CW.cutK (fun a w1 => ∃ (t121 : Unit), o119 = .inl t121 ∧ Rep 59 [(2, Pt b17), (3, Pt b19)] a ∧ St w (fp []) w1 [blkI b17 31 [.slice a2 (p0.Maps).length c3, .slice a5 (p0.Code).length c6], blkI b19 31 [.slice a8 (p1.Maps).length c9, .slice a11 (p1.Code).length c12]]) ?_ ?_
 ·refine CW.block ?_
  refine CW.loop (fun n a w1 => ∃ (i186 : Nat) (s185 : Unit), i186 + n = (p0.Maps).length ∧ Rep 59 [(2, Pt b17), (3, Pt b19), (5, I (i186 : Int))] a ∧ St w (fp []) w1 [blkI b17 31 [.slice a2 (p0.Maps).length c3, .slice a5 (p0.Code).length c6], blkI b19 31 [.slice a8 (p1.Maps).length c9, .slice a11 (p1.Code).length c12]] ∧ forN (tappetref04_Same_l1 p0 p1) (fun (s185 : Unit) => (.inl ())) n i186 s185 = some o119) (p0.Maps).length (fun a ha => ⟨0, (), Nat.zero_add _, ha.ag, hst.keep [0, 1] rfl, ho120⟩) ?_
  rintro n183 a w1 ⟨i186, s185, hi187, ha, hst, hl184⟩
  refine CW.go ?_ ha
  refine CW.seq (rg ?_)
  refine pu 2 [(23, I (i186 : Int)), (24, Pt b17)] ?_
  refine OW.ld rfl rfl rfl rfl (by kernel_rfl) (hst.blk 0 rfl rfl) ?_
  refine pu 2 [(27, .bool (decide ((i186 : Int) < ((p0.Maps).length : Int))))] (nx ?_)
  rcases bft (decide ((i186 : Int) < ((p0.Maps).length : Int))) with hc188 | hc188
  ·rcases n183 with _ | n183
   ·exact (cnt0 hi187 hc188).elim
   refine CW.cond_t rfl hc188 (CW.skip (QW.next (CW.seq (CW.block (CW.seq ?_)))))
   refine CW.still (by kernel_rfl) (by kernel_rfl) ?_
   intro w203 hch204
   have hst := hst.same hch204
   refine OS.pure 1 [(30, Pt b17)] rfl (by kernel_rfl) ?_
   refine OS.ld rfl rfl rfl rfl rfl (by kernel_rfl) (hst.blk 0 rfl rfl) ?_
   refine OS.pure 1 [(32, I (i186 : Int))] rfl (by kernel_rfl) ?_
   obtain ⟨x205, hx206, hl184⟩ := bs hl184
   obtain ⟨g208, o209, c210, hv207⟩ := h0_0.formv (fun _ => ⟨_, rfl⟩) hx206
   refine OS.idx 3 1 rfl rfl rfl rfl rfl hv207 rfl (idx_some hx206).1 (idx_some hx206).2.1 (by kernel_rfl) (by kernel_rfl) ?_
   refine OS.ld rfl rfl rfl rfl rfl (by kernel_rfl) (h0_0.cellv hst hx206 hv207 0 _ rfl) ?_
   refine OS.pure 1 [(35, Pt b19)] rfl (by kernel_rfl) ?_
   refine OS.ld rfl rfl rfl rfl rfl (by kernel_rfl) (hst.blk 1 rfl rfl) ?_
   refine OS.pure 1 [(37, I (i186 : Int))] rfl (by kernel_rfl) ?_
   obtain ⟨x211, hx212, hl184⟩ := bs hl184
   obtain ⟨g214, o215, c216, hv213⟩ := h1_0.formv (fun _ => ⟨_, rfl⟩) hx212
   refine OS.idx 3 1 rfl rfl rfl rfl rfl hv213 rfl (idx_some hx212).1 (idx_some hx212).2.1 (by kernel_rfl) (by kernel_rfl) ?_
   refine OS.ld rfl rfl rfl rfl rfl (by kernel_rfl) (h1_0.cellv hst hx212 hv213 0 _ rfl) ?_
   refine OS.pure 1 [(40, .bool (x205 != x211))] rfl (by kernel_rfl) ?_
   refine OS.fin rfl (QW.next ?_)
   refine br ((x205 != x211)) hl184 (fun hl184 hc217 => ?_) (fun hl184 hc217 => ?_)
   ·refine rg ?_
    refine pu 1 [(4, .bool false)] (nx (CW.ret (QW.block_ret (QW.then_ret (QW.then_ret (QW.block_ret (QW.then_ret ?_)))))))
    obtain rfl := inj hl184
    obtain rfl := inj hF
    refine QW.ret1 rfl rfl ?_
    exact ⟨rfl, hst.keep [] rfl⟩
   refine CW.skip (QW.block_normal (QW.next (CW.region ?_)))
   refine pu 3 [(5, I (w64 ((i186 : Int) + 1)))] (OW.nil rfl ?_)
   refine QW.say 5 rfl (congrArg (Value.int .i64) (w64_cnt hc188 l1)) ?_
   exact QW.meet (fun a ha => ⟨n183, Nat.lt_succ_self _, i186 + 1, (), cnt_next hi187, ha.ag, hst.keep [0, 1] rfl, hl184⟩)
  rcases n183 with _ | n183
  ·refine CW.cond_f rfl hc188 ?_
   refine CW.exit (QW.then_exit (QW.then_exit ?_))
   refine QW.block_here ?_
   obtain rfl := inj hl184
   exact QW.meet (fun a ha => ⟨(), rfl, ha.ag, hst.keep [0, 1] rfl⟩)
  exact (cnt1 hi187 hc188).elim
 rintro a w1 ⟨t121, rfl, ha, hst⟩
 refine CW.go ?_ ha
 refine CW.seq (rg ?_)
 refine pu 1 [(6, I 0)] (nx ?_)
 obtain ⟨o314, ho315, hF⟩ := bs hF
 refine CW.cutK (fun a w1 => ∃ (t316 : Unit), o314 = .inl t316 ∧ Rep 59 [] a ∧ St w (fp []) w1 []) ?_ ?_
 ·refine CW.block ?_
  refine CW.loop (fun n a w1 => ∃ (i381 : Nat) (s380 : Unit), i381 + n = (p0.Code).length ∧ Rep 59 [(2, Pt b17), (3, Pt b19), (6, I (i381 : Int))] a ∧ St w (fp []) w1 [blkI b17 31 [.slice a2 (p0.Maps).length c3, .slice a5 (p0.Code).length c6], blkI b19 31 [.slice a8 (p1.Maps).length c9, .slice a11 (p1.Code).length c12]] ∧ forN (tappetref04_Same_l2 p0 p1) (fun (s380 : Unit) => (.inl ())) n i381 s380 = some o314) (p0.Code).length (fun a ha => ⟨0, (), Nat.zero_add _, ha.ag, hst.keep [0, 1] rfl, ho315⟩) ?_
  rintro n378 a w1 ⟨i381, s380, hi382, ha, hst, hl379⟩
  refine CW.go ?_ ha
  refine CW.seq (rg ?_)
  refine pu 2 [(41, I (i381 : Int)), (42, .pointer (some ⟨b17, 1, none⟩))] ?_
  refine OW.ld rfl rfl rfl rfl (by kernel_rfl) (hst.blk 0 rfl rfl) ?_
  refine pu 2 [(45, .bool (decide ((i381 : Int) < ((p0.Code).length : Int))))] (nx ?_)
  rcases bft (decide ((i381 : Int) < ((p0.Code).length : Int))) with hc383 | hc383
  ·rcases n378 with _ | n378
   ·exact (cnt0 hi382 hc383).elim
   refine CW.cond_t rfl hc383 (CW.skip (QW.next (CW.seq (CW.block (CW.seq ?_)))))
   refine CW.still (by kernel_rfl) (by kernel_rfl) ?_
   intro w398 hch399
   have hst := hst.same hch399
   refine OS.pure 1 [(48, .pointer (some ⟨b17, 1, none⟩))] rfl (by kernel_rfl) ?_
   refine OS.ld rfl rfl rfl rfl rfl (by kernel_rfl) (hst.blk 0 rfl rfl) ?_
   refine OS.pure 1 [(50, I (i381 : Int))] rfl (by kernel_rfl) ?_
   obtain ⟨x400, hx401, hl379⟩ := bs hl379
   obtain ⟨g403, o404, c405, hv402⟩ := h0_1.formv (fun _ => ⟨_, rfl⟩) hx401
   refine OS.idx 42 5 rfl rfl rfl rfl rfl hv402 rfl (idx_some hx401).1 (idx_some hx401).2.1 (by kernel_rfl) (by kernel_rfl) ?_
   refine OS.ldN (cs := enc_api_Inst x400) rfl rfl rfl rfl rfl (by kernel_rfl) (by kernel_rfl) (h0_1.cellv hst hx401 hv402) ?_
   refine OS.pure 1 [(53, .pointer (some ⟨b19, 1, none⟩))] rfl (by kernel_rfl) ?_
   refine OS.ld rfl rfl rfl rfl rfl (by kernel_rfl) (hst.blk 1 rfl rfl) ?_
   refine OS.pure 1 [(55, I (i381 : Int))] rfl (by kernel_rfl) ?_
   obtain ⟨x406, hx407, hl379⟩ := bs hl379
   obtain ⟨g409, o410, c411, hv408⟩ := h1_1.formv (fun _ => ⟨_, rfl⟩) hx407
   refine OS.idx 42 5 rfl rfl rfl rfl rfl hv408 rfl (idx_some hx407).1 (idx_some hx407).2.1 (by kernel_rfl) (by kernel_rfl) ?_
   refine OS.ldN (cs := enc_api_Inst x406) rfl rfl rfl rfl rfl (by kernel_rfl) (by kernel_rfl) (h1_1.cellv hst hx407 hv408) ?_
   refine OS.op (v := .bool (!((x400.Op == x406.Op) && ((x400.D == x406.D) && ((x400.A == x406.A) && ((x400.B == x406.B) && ((x400.Imm == x406.Imm) && true))))))) rfl rfl rfl rfl rfl (fun a ha => sneq_run rfl rfl rfl (by kernel_rfl) (by kernel_rfl) a _ ha) ?_
   refine OS.fin rfl (QW.next ?_)
   refine br ((!((x400.Op == x406.Op) && ((x400.D == x406.D) && ((x400.A == x406.A) && ((x400.B == x406.B) && ((x400.Imm == x406.Imm) && true))))))) hl379 (fun hl379 hc412 => ?_) (fun hl379 hc412 => ?_)
   ·refine rg ?_
    refine pu 1 [(4, .bool false)] (nx (CW.ret (QW.block_ret (QW.then_ret (QW.then_ret (QW.block_ret (QW.then_ret ?_)))))))
    obtain rfl := inj hl379
    obtain rfl := inj hF
    refine QW.ret1 rfl rfl ?_
    exact ⟨rfl, hst.keep [] rfl⟩
   refine CW.skip (QW.block_normal (QW.next (CW.region ?_)))
   refine pu 3 [(6, I (w64 ((i381 : Int) + 1)))] (OW.nil rfl ?_)
   refine QW.say 6 rfl (congrArg (Value.int .i64) (w64_cnt hc383 l4)) ?_
   exact QW.meet (fun a ha => ⟨n378, Nat.lt_succ_self _, i381 + 1, (), cnt_next hi382, ha.ag, hst.keep [0, 1] rfl, hl379⟩)
  rcases n378 with _ | n378
  ·refine CW.cond_f rfl hc383 ?_
   refine CW.exit (QW.then_exit (QW.then_exit ?_))
   refine QW.block_here ?_
   obtain rfl := inj hl379
   exact QW.meet (fun a ha => ⟨(), rfl, ha.ag, hst.keep [] rfl⟩)
  exact (cnt1 hi382 hc383).elim
 rintro a w1 ⟨t316, rfl, ha, hst⟩
 refine CW.go ?_ ha
 refine rg ?_
 refine pu 1 [(4, .bool true)] (nx (CW.ret ?_))
 obtain rfl := inj hF
 refine QW.ret1 rfl rfl ?_
 exact ⟨rfl, hst.keep [] rfl⟩
theorem tappetlaw24_RegistryLoads_ok (w : World) (fu : Nat) (p0 : Int) (v1 : Value) (p1 : List Int) (r : Bool) (hF : tappetlaw24_RegistryLoads fu p0 p1 = some r)
    (hst : St w (fp []) w []) (h1 : Rd w (fp []) v1 (encInt .u8) 1 p1) (hT0 : Rd w (fp []) (.slice (some ⟨0, 0, none⟩) 23 23) enc_ops_form 2 tab_g0) (hT1 : Rd w (fp []) (.slice (some ⟨1, 0, none⟩) 7 7) enc_sigs_sig 5 tab_g1) :
    Calls Tryz.prog 3 [I p0, v1].toArray w (fun e w' => e = .returned (.bool r) ∧ St w (fp []) w' []) := by
 refine CW.start (N := 169) Tryz.func3 rfl rfl rfl ?_
 obtain ⟨l1, a2, c3, rfl⟩ := h1.len
 refine rg ?_
 refine pu 1 [] (nx (CW.seq (rg ?_)))
 obtain ⟨r8, hr9, hF⟩ := bs hF
 refine OW.fn rfl rfl rfl rfl (by kernel_rfl) (tappetlaw24_awake_ok _ fu r8 hr9 (hst.part [] rfl) (hT0.give hst []) (hT1.give hst [])) ?_
 rintro e w10 ⟨rfl, hst11⟩
 refine ⟨_, rfl, ?_⟩
 have hst := hst.join (idx := []) (rest := []) rfl hst11
 refine pu 1 [(22, .bool (!r8))] (nx ?_)
 refine br ((!r8)) hF (fun hF hc12 => ?_) (fun hF hc12 => ?_)
 ·refine rg ?_
  refine pu 1 [(4, .bool false)] (nx (CW.ret (QW.then_ret ?_)))
  obtain rfl := inj hF
  refine QW.ret1 rfl rfl ?_
  exact ⟨rfl, hst.keep [] rfl⟩
 refine CW.skip (QW.next (rg ?_))
 refine pu 1 [(24, I p0)] ?_
 obtain ⟨r23, hr24, hF⟩ := bs hF
 refine OW.fn rfl rfl rfl rfl (by kernel_rfl) (registry_New_ok _ 1 p0 1 r23 hr24 (hst.part [] rfl)) ?_
 rintro e w25 (⟨k27, v29, S30, he28, rfl, hst26⟩ | ⟨he31, rfl, hst26⟩)
 ·have hF := ocase_some hF he28
  refine ⟨_, rfl, ?_⟩
  have hst := hst.join (idx := []) (rest := []) rfl hst26
  obtain ⟨b32, rfl⟩ := hst.fptr 0 rfl
  refine pu 5 [(5, Pt b32), (6, I r23.2)] (nx (CW.seq (rg ?_)))
  refine pu 6 [(33, .bool (r23.2 != 0))] (nx ?_)
  refine br ((r23.2 != 0)) hF (fun hF hc33 => ?_) (fun hF hc33 => ?_)
  ·refine rg ?_
   refine pu 7 [(4, .bool false)] (nx (CW.ret (QW.then_ret ?_)))
   obtain rfl := inj hF
   refine QW.ret1 rfl rfl ?_
   exact ⟨rfl, hst.keep [] rfl⟩
  refine CW.skip (QW.next (rg ?_))
  refine OW.row (α := Int) (e := 5) (enc := encInt .u8) (sz := 1) hst rfl rfl rfl [] rfl (fun _ => rfl) rfl rfl (fun _ => by kernel_rfl) ?_
  intro g76 w77 hst
  refine pu 1 [(42, .slice a2 (p1).length c3)] ?_
  obtain ⟨u78, hr79, hF⟩ := bs hF
  refine OW.app hst 1 rfl (fun _ => rfl) (fun _ => rfl) rfl rfl rfl rfl rfl rfl (by kernel_rfl) el5 (h1.on hst) (room_le hr79) ?_
  intro v80 w81 hst
  obtain ⟨l82, a83, c84, rfl⟩ := hst.len 1 rfl
  obtain ⟨r85, hr86, hF⟩ := bs hF
  refine OW.fn rfl rfl rfl rfl (by kernel_rfl) (wire_Decode_ok _ _ _ fu (.slice a83 ((([] : List Int) ++ p1)).length c84) (([] : List Int) ++ p1) r85 hr86 (hst.part [] rfl) (Bor.refl _ _) (hst.rd 1 rfl (fun _ => rfl) [] rfl (hst.len 1 rfl).1) (hT0.give hst [])) ?_
  rintro e w87 ⟨v89, v90, rfl, hst88⟩
  refine ⟨_, rfl, ?_⟩
  have hst := hst.join (idx := []) (rest := [0, 1]) rfl hst88
  obtain ⟨l109, a110, c111, rfl⟩ := hst.len 0 rfl
  obtain ⟨l112, a113, c114, rfl⟩ := hst.len 1 rfl
  refine pu 4 [(45, .agg [.slice a110 (r85.1.Maps).length c111, .slice a113 (r85.1.Code).length c114].toArray), (46, I r85.2.1), (47, I r85.2.2)] ?_
  refine OW.alloc hst rfl rfl rfl [.slice none 0 0, .slice none 0 0] (by kernel_rfl) ?_
  intro b115 w116 hst
  refine OW.stB hst 4 rfl rfl rfl rfl rfl (by kernel_rfl) rfl rfl [.slice a110 (r85.1.Maps).length c111, .slice a113 (r85.1.Code).length c114] rfl ?_
  intro w117 hst
  refine pu 2 [(9, I r85.2.2)] (nx (CW.seq (rg ?_)))
  refine pu 2 [(49, .bool (r85.2.2 == 0))] (nx ?_)
  obtain ⟨o127, ho128, hF⟩ := bs hF
  refine CW.cutK (fun a w1 => Rep 169 [(0, I p0), (1, .slice a2 (p1).length c3), (5, Pt b32), (7, Pt b115), (9, I o127)] a ∧ St w (fp []) w1 [itI R_t24 [Pt b32] S30 k27, blkI b115 31 [.slice a110 (r85.1.Maps).length c111, .slice a113 (r85.1.Code).length c114], rowI (.slice a110 (r85.1.Maps).length c111) 3 (encInt .i64) 1 r85.1.Maps, rowI (.slice a113 (r85.1.Code).length c114) 42 enc_api_Inst 5 r85.1.Code]) ?_ ?_
  ·refine br ((r85.2.2 == 0)) ho128 (fun ho128 hc129 => ?_) (fun ho128 hc129 => ?_)
   ·refine CW.region ?_
    refine OW.ldN (cs := [.slice a110 (r85.1.Maps).length c111, .slice a113 (r85.1.Code).length c114]) rfl rfl rfl rfl (by kernel_rfl) (by kernel_rfl) (hst.blkN 4 rfl 0 2) ?_
    obtain ⟨r134, hr135, ho128⟩ := bs ho128
    refine OW.fn rfl rfl rfl rfl (by kernel_rfl) (judge_Judge_ok _ _ _ fu (.slice a110 (r85.1.Maps).length c111) (.slice a113 (r85.1.Code).length c114) r85.1 r134 hr135 (hst.part [] rfl) (Bor.refl _ _) (hst.rd 0 rfl (fun _ => rfl) [] rfl (hst.len 0 rfl).1) (hst.rd 1 rfl (fun _ => rfl) [] rfl (hst.len 1 rfl).1) (hT0.give hst []) (hT1.give hst [])) ?_
    rintro e w136 ⟨rfl, hst137⟩
    refine ⟨_, rfl, ?_⟩
    have hst := hst.join (idx := []) (rest := [0, 1, 2, 3, 4]) rfl hst137
    refine pu 4 [(9, I r134.2)] (OW.nil rfl ?_)
    obtain rfl := inj ho128
    exact QW.meet (fun a ha => ⟨ha.ag, hst.keep [2, 4, 0, 1] rfl⟩)
   refine CW.skip ?_
   obtain rfl := inj ho128
   exact QW.meet (fun a ha => ⟨ha.ag, hst.keep [2, 4, 0, 1] rfl⟩)
  rintro a w1 ⟨ha, hst⟩
  refine CW.go ?_ ha
  refine CW.seq (rg ?_)
  refine pu 1 [(10, I 0)] (nx ?_)
  obtain ⟨o187, ho188, hF⟩ := bs hF
  refine CW.cutK (fun a w1 => Rep 169 [(1, .slice a2 (p1).length c3), (5, Pt b32), (7, Pt b115), (9, I o187)] a ∧ St w (fp []) w1 [itI R_t24 [Pt b32] S30 k27, blkI b115 31 [.slice a110 (r85.1.Maps).length c111, .slice a113 (r85.1.Code).length c114], rowI (.slice a110 (r85.1.Maps).length c111) 3 (encInt .i64) 1 r85.1.Maps, rowI (.slice a113 (r85.1.Code).length c114) 42 enc_api_Inst 5 r85.1.Code]) ?_ ?_
  ·refine CW.block ?_
   refine CW.loop (fun n a w1 => ∃ (s222 : Int × Int), Rep 169 [(0, I p0), (1, .slice a2 (p1).length c3), (5, Pt b32), (7, Pt b115), (9, I s222.1), (10, I s222.2)] a ∧ St w (fp []) w1 [itI R_t24 [Pt b32] S30 k27, blkI b115 31 [.slice a110 (r85.1.Maps).length c111, .slice a113 (r85.1.Code).length c114], rowI (.slice a110 (r85.1.Maps).length c111) 3 (encInt .i64) 1 r85.1.Maps, rowI (.slice a113 (r85.1.Code).length c114) 42 enc_api_Inst 5 r85.1.Code] ∧ loop (tappetlaw24_RegistryLoads_l1 p0 r85) n s222 = some o187) fu (fun a ha => ⟨(o127, 0), ha.ag, hst.keep [0, 1, 2, 3] rfl, ho188⟩) ?_
   rintro n220 a w1 ⟨s222, ha, hst, hl221⟩
   rcases n220 with _ | n220
   ·exact (loop_zero hl221).elim
   refine CW.go ?_ ha
   refine CW.seq (CW.seq ?_)
   refine CW.cutK (fun a w1 => Rep 169 [(0, I p0), (1, .slice a2 (p1).length c3), (5, Pt b32), (7, Pt b115), (9, I s222.1), (10, I s222.2), (63, .bool ((s222.1 == 0) && decide (s222.2 < ((r85.1.Maps).length : Int))))] a ∧ St w (fp []) w1 [itI R_t24 [Pt b32] S30 k27, blkI b115 31 [.slice a110 (r85.1.Maps).length c111, .slice a113 (r85.1.Code).length c114], rowI (.slice a110 (r85.1.Maps).length c111) 3 (encInt .i64) 1 r85.1.Maps, rowI (.slice a113 (r85.1.Code).length c114) 42 enc_api_Inst 5 r85.1.Code]) ?_ ?_
   ·refine CW.region ?_
    refine pu 3 [(57, .bool (s222.1 == 0))] ?_
    refine OW.split 57 rfl (fun hc223 => ?_) (fun hc223 => ?_)
    ·refine pu 2 [(58, I s222.2), (59, Pt b115)] ?_
     refine OW.ld rfl rfl rfl rfl (by kernel_rfl) (hst.blk 1 rfl rfl) ?_
     refine pu 3 [(63, .bool (decide (s222.2 < ((r85.1.Maps).length : Int))))] (OW.nil rfl ?_)
     refine QW.say 63 (v := .bool ((s222.1 == 0) && decide (s222.2 < ((r85.1.Maps).length : Int)))) rfl (by first | (rw [hc223]; done) | (rw [hc223]; rfl) | simp [hc223]) ?_
     exact QW.meet (fun a ha => ⟨ha.ag, hst.keep [0, 1, 2, 3] rfl⟩)
    refine pu 6 [(63, .bool false)] (OW.nil rfl ?_)
    refine QW.say 63 (v := .bool ((s222.1 == 0) && decide (s222.2 < ((r85.1.Maps).length : Int)))) rfl (by first | (rw [hc223]; done) | (rw [hc223]; rfl) | simp [hc223]) ?_
    exact QW.meet (fun a ha => ⟨ha.ag, hst.keep [0, 1, 2, 3] rfl⟩)
   rintro a w1 ⟨ha, hst⟩
   refine CW.go ?_ ha
   refine br (((s222.1 == 0) && decide (s222.2 < ((r85.1.Maps).length : Int)))) hl221 (fun hl221 hc224 => ?_) (fun hl221 hc224 => ?_)
   ·refine CW.skip (QW.next (CW.seq (CW.block (rg ?_))))
    refine pu 1 [(66, Pt b115)] ?_
    refine OW.ld rfl rfl rfl rfl (by kernel_rfl) (hst.blk 1 rfl rfl) ?_
    refine pu 1 [(68, I s222.2)] ?_
    obtain ⟨x231, hx232, hl221⟩ := bs hl221
    obtain ⟨g234, o235, c236, hv233⟩ := hst.rowv 2 rfl hx232
    refine OW.idx 3 1 rfl rfl rfl rfl hv233 rfl (idx_some hx232).1 (idx_some hx232).2.1 (by kernel_rfl) (by kernel_rfl) ?_
    refine OW.ld rfl rfl rfl rfl (by kernel_rfl) (hst.rowc 2 rfl (fun _ => rfl) hx232 hv233 0 _ rfl) ?_
    refine pu 2 [(72, .bool (decide (x231 ≥ p0)))] (nx ?_)
    refine br (decide (x231 ≥ p0)) hl221 (fun hl221 hc237 => ?_) (fun hl221 hc237 => ?_)
    ·refine CW.region ?_
     refine pu 1 [(9, I 41)] (OW.nil rfl (QW.block_normal (QW.next (CW.region ?_))))
     refine pu 3 [(10, I (w64 (s222.2 + 1)))] (OW.nil rfl ?_)
     exact QW.meet (fun a ha => ⟨n220, Nat.lt_succ_self _, (41, w64 (s222.2 + 1)), ha.ag, hst.keep [0, 1, 2, 3] rfl, hl221⟩)
    refine CW.skip (QW.block_normal (QW.next (CW.region ?_)))
    refine pu 3 [(10, I (w64 (s222.2 + 1)))] (OW.nil rfl ?_)
    exact QW.meet (fun a ha => ⟨n220, Nat.lt_succ_self _, (s222.1, w64 (s222.2 + 1)), ha.ag, hst.keep [0, 1, 2, 3] rfl, hl221⟩)
   refine CW.exit (QW.then_exit (QW.then_exit ?_))
   refine QW.block_here ?_
   obtain rfl := inj hl221
   exact QW.meet (fun a ha => ⟨ha.ag, hst.keep [0, 1, 2, 3] rfl⟩)
  rintro a w1 ⟨ha, hst⟩
  refine CW.go ?_ ha
  refine CW.seq (rg ?_)
  refine pu 1 [(11, I 1)] (nx ?_)
  obtain ⟨o413, ho414, hF⟩ := bs hF
  refine CW.cutK (fun a w1 => ∃ (t415 : registry_Registry) (S412 : List Nat), o413 = .inl t415 ∧ Rep 169 [(1, .slice a2 (p1).length c3), (5, Pt b32), (7, Pt b115)] a ∧ St w (fp []) w1 [itI R_t24 [Pt b32] S412 t415, blkI b115 31 [.slice a110 (r85.1.Maps).length c111, .slice a113 (r85.1.Code).length c114], rowI (.slice a110 (r85.1.Maps).length c111) 3 (encInt .i64) 1 r85.1.Maps, rowI (.slice a113 (r85.1.Code).length c114) 42 enc_api_Inst 5 r85.1.Code]) ?_ ?_
  ·refine CW.block ?_
   refine CW.loop (fun n a w1 => ∃ (s532 : registry_Registry × Int) (S533 : List Nat), Rep 169 [(1, .slice a2 (p1).length c3), (5, Pt b32), (7, Pt b115), (9, I o187), (11, I s532.2)] a ∧ St w (fp []) w1 [itI R_t24 [Pt b32] S533 s532.1, blkI b115 31 [.slice a110 (r85.1.Maps).length c111, .slice a113 (r85.1.Code).length c114], rowI (.slice a110 (r85.1.Maps).length c111) 3 (encInt .i64) 1 r85.1.Maps, rowI (.slice a113 (r85.1.Code).length c114) 42 enc_api_Inst 5 r85.1.Code] ∧ loop (tappetlaw24_RegistryLoads_l2 fu p1 o187) n s532 = some o413) fu (fun a ha => ⟨(k27, 1), S30, ha.ag, hst.keep [0, 1, 2, 3] rfl, ho414⟩) ?_
   rintro n530 a w1 ⟨s532, S533, ha, hst, hl531⟩
   rcases n530 with _ | n530
   ·exact (loop_zero hl531).elim
   refine CW.go ?_ ha
   refine CW.seq (rg ?_)
   refine pu 2 [(74, .bool (decide (s532.2 ≤ 16)))] (nx ?_)
   refine br (decide (s532.2 ≤ 16)) hl531 (fun hl531 hc534 => ?_) (fun hl531 hc534 => ?_)
   ·refine CW.skip (QW.next (CW.seq (CW.block (rg ?_))))
    refine pu 1 [(78, Pt b32)] ?_
    refine OW.row (α := Int) (e := 5) (enc := encInt .u8) (sz := 1) hst rfl rfl rfl [] rfl (fun _ => rfl) rfl rfl (fun _ => by kernel_rfl) ?_
    intro g549 w550 hst
    refine pu 1 [(80, .slice a2 (p1).length c3)] ?_
    obtain ⟨u551, hr552, hl531⟩ := bs hl531
    refine OW.app hst 4 rfl (fun _ => rfl) (fun _ => rfl) rfl rfl rfl rfl rfl rfl (by kernel_rfl) el5 (h1.on hst) (room_le hr552) ?_
    intro v553 w554 hst
    obtain ⟨l555, a556, c557, rfl⟩ := hst.len 4 rfl
    obtain ⟨r558, hr559, hl531⟩ := bs hl531
    refine OW.fn rfl rfl rfl rfl (by kernel_rfl) (registry_Registry_Load_ok _ fu (Pt b32) S533 s532.1 (.slice a556 ((([] : List Int) ++ p1)).length c557) (([] : List Int) ++ p1) r558 hr559 (hst.part [0] rfl) (hst.rd 4 rfl (fun _ => rfl) [0] rfl (hst.len 4 rfl).1) (hT0.give hst [0]) (hT1.give hst [0])) ?_
    rintro e w560 ⟨S562, rfl, hst561⟩
    refine ⟨_, rfl, ?_⟩
    have hst := hst.join (idx := [0]) (rest := [1, 2, 3, 4]) rfl hst561
    refine pu 5 [(12, I r558.1), (13, I r558.2.1)] (nx (CW.seq (rg ?_)))
    refine pu 2 [(86, .bool (o187 != 0))] (nx ?_)
    refine br ((o187 != 0)) hl531 (fun hl531 hc563 => ?_) (fun hl531 hc563 => ?_)
    ·refine CW.seq ?_
     obtain ⟨o575, ho576, hl531⟩ := bs hl531
     refine CW.cutK (fun a w1 => Rep 169 [(4, .bool o575)] a ∧ St w (fp []) w1 []) ?_ ?_
     ·refine CW.region ?_
      refine pu 3 [(89, .bool (r558.1 == 0))] ?_
      refine OW.split 89 rfl (fun hc577 => ?_) (fun hc577 => ?_)
      ·have ho576 := ite_t ho576 hc577
       refine pu 5 [(94, .bool (r558.2.1 == o187))] ?_
       refine OW.split 94 rfl (fun hc578 => ?_) (fun hc578 => ?_)
       ·have ho576 := ite_t ho576 hc578
        refine pu 1 [(95, Pt b32)] ?_
        obtain ⟨r579, hr580, ho576⟩ := bs ho576
        refine OW.fn rfl rfl rfl rfl (by kernel_rfl) (registry_Registry_Live_ok _ (Pt b32) S562 r558.2.2 r579 hr580 (hst.part [0] rfl)) ?_
        rintro e w581 ⟨S583, v584, rfl, hst582⟩
        refine ⟨_, rfl, ?_⟩
        have hst := hst.join (idx := [0]) (rest := [1, 2, 3, 4]) rfl hst582
        obtain ⟨l585, a586, c587, rfl⟩ := hst.len 1 rfl
        refine pu 4 [(4, .bool (((r579).length : Int) == 0))] (OW.nil rfl ?_)
        obtain rfl := inj ho576
        exact QW.meet (fun a ha => ⟨ha.ag, hst.keep [] rfl⟩)
       have ho576 := ite_f ho576 hc578
       refine pu 6 [(4, .bool false)] (OW.nil rfl ?_)
       obtain rfl := inj ho576
       exact QW.meet (fun a ha => ⟨ha.ag, hst.keep [] rfl⟩)
      have ho576 := ite_f ho576 hc577
      refine pu 11 [(4, .bool false)] (OW.nil rfl ?_)
      obtain rfl := inj ho576
      exact QW.meet (fun a ha => ⟨ha.ag, hst.keep [] rfl⟩)
     rintro a w1 ⟨ha, hst⟩
     refine CW.go ?_ ha
     refine CW.ret (QW.then_ret (QW.block_ret (QW.then_ret (QW.then_ret (QW.block_ret (QW.then_ret ?_))))))
     obtain rfl := inj hl531
     obtain rfl := inj hF
     refine QW.ret1 rfl rfl ?_
     exact ⟨rfl, hst.keep [] rfl⟩
    refine CW.skip (QW.next (CW.seq ?_))
    refine CW.cutK (fun a w1 => Rep 169 [(1, .slice a2 (p1).length c3), (5, Pt b32), (7, Pt b115), (9, I o187), (11, I s532.2), (106, .bool ((r558.1 != s532.2) || (r558.2.1 != 0)))] a ∧ St w (fp []) w1 [itI R_t24 [Pt b32] S562 r558.2.2, blkI b115 31 [.slice a110 (r85.1.Maps).length c111, .slice a113 (r85.1.Code).length c114], rowI (.slice a110 (r85.1.Maps).length c111) 3 (encInt .i64) 1 r85.1.Maps, rowI (.slice a113 (r85.1.Code).length c114) 42 enc_api_Inst 5 r85.1.Code]) ?_ ?_
    ·refine CW.region ?_
     refine pu 4 [(103, .bool (r558.1 != s532.2))] ?_
     refine OW.split 103 rfl (fun hc588 => ?_) (fun hc588 => ?_)
     ·refine pu 3 [(106, .bool true)] (OW.nil rfl ?_)
      refine QW.say 106 (v := .bool ((r558.1 != s532.2) || (r558.2.1 != 0))) rfl (by first | (rw [hc588]; done) | (rw [hc588]; rfl) | simp [hc588]) ?_
      exact QW.meet (fun a ha => ⟨ha.ag, hst.keep [0, 1, 2, 3] rfl⟩)
     refine pu 3 [(106, .bool (r558.2.1 != 0))] (OW.nil rfl ?_)
     refine QW.say 106 (v := .bool ((r558.1 != s532.2) || (r558.2.1 != 0))) rfl (by first | (rw [hc588]; done) | (rw [hc588]; rfl) | simp [hc588]) ?_
     exact QW.meet (fun a ha => ⟨ha.ag, hst.keep [0, 1, 2, 3] rfl⟩)
    rintro a w1 ⟨ha, hst⟩
    refine CW.go ?_ ha
    refine br (((r558.1 != s532.2) || (r558.2.1 != 0))) hl531 (fun hl531 hc589 => ?_) (fun hl531 hc589 => ?_)
    ·refine rg ?_
     refine pu 1 [(4, .bool false)] (nx (CW.ret (QW.block_ret (QW.then_ret (QW.then_ret (QW.block_ret (QW.then_ret ?_)))))))
     obtain rfl := inj hl531
     obtain rfl := inj hF
     refine QW.ret1 rfl rfl ?_
     exact ⟨rfl, hst.keep [] rfl⟩
    refine CW.skip (QW.block_normal (QW.next (CW.region ?_)))
    refine pu 3 [(11, I (w64 (s532.2 + 1)))] (OW.nil rfl ?_)
    exact QW.meet (fun a ha => ⟨n530, Nat.lt_succ_self _, (r558.2.2, w64 (s532.2 + 1)), S562, ha.ag, hst.keep [0, 1, 2, 3] rfl, hl531⟩)
   refine CW.exit (QW.then_exit (QW.then_exit ?_))
   refine QW.block_here ?_
   obtain rfl := inj hl531
   exact QW.meet (fun a ha => ⟨s532.1, S533, rfl, ha.ag, hst.keep [0, 1, 2, 3] rfl⟩)
  rintro a w1 ⟨t415, S412, rfl, ha, hst⟩
  refine CW.go ?_ ha
  refine rg ?_
  refine pu 1 [(108, Pt b32)] ?_
  refine OW.row (α := Int) (e := 5) (enc := encInt .u8) (sz := 1) hst rfl rfl rfl [] rfl (fun _ => rfl) rfl rfl (fun _ => by kernel_rfl) ?_
  intro g604 w605 hst
  refine pu 1 [(110, .slice a2 (p1).length c3)] ?_
  obtain ⟨u606, hr607, hF⟩ := bs hF
  refine OW.app hst 4 rfl (fun _ => rfl) (fun _ => rfl) rfl rfl rfl rfl rfl rfl (by kernel_rfl) el5 (h1.on hst) (room_le hr607) ?_
  intro v608 w609 hst
  obtain ⟨l610, a611, c612, rfl⟩ := hst.len 4 rfl
  obtain ⟨r613, hr614, hF⟩ := bs hF
  refine OW.fn rfl rfl rfl rfl (by kernel_rfl) (registry_Registry_Load_ok _ fu (Pt b32) S412 t415 (.slice a611 ((([] : List Int) ++ p1)).length c612) (([] : List Int) ++ p1) r613 hr614 (hst.part [0] rfl) (hst.rd 4 rfl (fun _ => rfl) [0] rfl (hst.len 4 rfl).1) (hT0.give hst [0]) (hT1.give hst [0])) ?_
  rintro e w615 ⟨S617, rfl, hst616⟩
  refine ⟨_, rfl, ?_⟩
  have hst := hst.join (idx := [0]) (rest := [1, 2, 3, 4]) rfl hst616
  refine pu 5 [(14, I r613.1), (6, I r613.2.1)] (nx (CW.seq (CW.seq ?_)))
  obtain ⟨o630, ho631, hF⟩ := bs hF
  refine CW.cutK (fun a w1 => ∃ (S629 : List Nat), Rep 169 [(5, Pt b32), (7, Pt b115), (126, .bool o630)] a ∧ St w (fp []) w1 [itI R_t24 [Pt b32] S629 r613.2.2, blkI b115 31 [.slice a110 (r85.1.Maps).length c111, .slice a113 (r85.1.Code).length c114], rowI (.slice a110 (r85.1.Maps).length c111) 3 (encInt .i64) 1 r85.1.Maps, rowI (.slice a113 (r85.1.Code).length c114) 42 enc_api_Inst 5 r85.1.Code]) ?_ ?_
  ·refine CW.region ?_
   refine pu 3 [(117, .bool (r613.1 != 0))] ?_
   refine OW.split 117 rfl (fun hc632 => ?_) (fun hc632 => ?_)
   ·have ho631 := ite_t ho631 hc632
    refine pu 9 [(126, .bool true)] (OW.nil rfl ?_)
    obtain rfl := inj ho631
    exact QW.meet (fun a ha => ⟨S617, ha.ag, hst.keep [0, 1, 2, 3] rfl⟩)
   have ho631 := ite_f ho631 hc632
   refine pu 4 [(121, .bool (r613.2.1 != 40))] ?_
   refine OW.split 121 rfl (fun hc633 => ?_) (fun hc633 => ?_)
   ·have ho631 := ite_t ho631 hc633
    refine pu 5 [(126, .bool true)] (OW.nil rfl ?_)
    obtain rfl := inj ho631
    exact QW.meet (fun a ha => ⟨S617, ha.ag, hst.keep [0, 1, 2, 3] rfl⟩)
   have ho631 := ite_f ho631 hc633
   refine pu 1 [(122, Pt b32)] ?_
   obtain ⟨r634, hr635, ho631⟩ := bs ho631
   refine OW.fn rfl rfl rfl rfl (by kernel_rfl) (registry_Registry_Live_ok _ (Pt b32) S617 r613.2.2 r634 hr635 (hst.part [0] rfl)) ?_
   rintro e w636 ⟨S638, v639, rfl, hst637⟩
   refine ⟨_, rfl, ?_⟩
   have hst := hst.join (idx := [0]) (rest := [1, 2, 3, 4]) rfl hst637
   obtain ⟨l640, a641, c642, rfl⟩ := hst.len 1 rfl
   refine pu 3 [(126, .bool (((r634).length : Int) != 16))] (OW.nil rfl ?_)
   obtain rfl := inj ho631
   exact QW.meet (fun a ha => ⟨S638, ha.ag, hst.keep [0, 2, 3, 4] rfl⟩)
  rintro a w1 ⟨S629, ha, hst⟩
  refine CW.go ?_ ha
  refine br (o630) hF (fun hF hc643 => ?_) (fun hF hc643 => ?_)
  ·refine rg ?_
   refine pu 1 [(4, .bool false)] (nx (CW.ret (QW.then_ret ?_)))
   obtain rfl := inj hF
   refine QW.ret1 rfl rfl ?_
   exact ⟨rfl, hst.keep [] rfl⟩
  refine CW.skip (QW.next (rg ?_))
  refine pu 1 [(128, Pt b32)] ?_
  obtain ⟨r678, hr679, hF⟩ := bs hF
  refine OW.fn rfl rfl rfl rfl (by kernel_rfl) (registry_Registry_Module_ok _ (Pt b32) S629 r613.2.2 3 r678 hr679 (hst.part [0] rfl)) ?_
  rintro e w680 ⟨S682, v683, v684, rfl, hst681⟩
  refine ⟨_, rfl, ?_⟩
  have hst := hst.join (idx := [0]) (rest := [1, 2, 3]) rfl hst681
  obtain ⟨l703, a704, c705, rfl⟩ := hst.len 1 rfl
  obtain ⟨l706, a707, c708, rfl⟩ := hst.len 2 rfl
  refine pu 3 [(130, .agg [.slice a704 (r678.1.Maps).length c705, .slice a707 (r678.1.Code).length c708].toArray), (131, .bool r678.2)] ?_
  refine OW.alloc hst rfl rfl rfl [.slice none 0 0, .slice none 0 0] (by kernel_rfl) ?_
  intro b709 w710 hst
  refine OW.stB hst 6 rfl rfl rfl rfl rfl (by kernel_rfl) rfl rfl [.slice a704 (r678.1.Maps).length c705, .slice a707 (r678.1.Code).length c708] rfl ?_
  intro w711 hst
  refine pu 1 [(16, .bool r678.2)] (nx (CW.seq (rg ?_)))
  refine pu 1 [(17, I 0)] (nx ?_)
  obtain ⟨o776, ho777, hF⟩ := bs hF
  refine CW.cutK (fun a w1 => ∃ (v775 : Value), Rep 169 [(5, Pt b32), (7, Pt b115), (15, Pt b709), (16, .bool r678.2)] a ∧ St w (fp []) w1 [itI R_t24 [Pt b32] S682 r613.2.2, blkI b115 31 [.slice a110 (r85.1.Maps).length c111, .slice a113 (r85.1.Code).length c114], rowI (.slice a110 (r85.1.Maps).length c111) 3 (encInt .i64) 1 r85.1.Maps, rowI (.slice a113 (r85.1.Code).length c114) 42 enc_api_Inst 5 r85.1.Code, blkI b709 31 [.slice a704 (r678.1.Maps).length c705, v775], rowI (.slice a704 (r678.1.Maps).length c705) 3 (encInt .i64) 1 r678.1.Maps, rowI v775 42 enc_api_Inst 5 o776]) ?_ ?_
  ·refine CW.block ?_
   refine CW.loop (fun n a w1 => ∃ (s821 : (List api_Inst) × Int) (v822 : Value), Rep 169 [(5, Pt b32), (7, Pt b115), (15, Pt b709), (16, .bool r678.2), (17, I s821.2)] a ∧ St w (fp []) w1 [itI R_t24 [Pt b32] S682 r613.2.2, blkI b115 31 [.slice a110 (r85.1.Maps).length c111, .slice a113 (r85.1.Code).length c114], rowI (.slice a110 (r85.1.Maps).length c111) 3 (encInt .i64) 1 r85.1.Maps, rowI (.slice a113 (r85.1.Code).length c114) 42 enc_api_Inst 5 r85.1.Code, blkI b709 31 [.slice a704 (r678.1.Maps).length c705, v822], rowI (.slice a704 (r678.1.Maps).length c705) 3 (encInt .i64) 1 r678.1.Maps, rowI v822 42 enc_api_Inst 5 s821.1] ∧ loop tappetlaw24_RegistryLoads_l3 n s821 = some o776) fu (fun a ha => ⟨(r678.1.Code, 0), (.slice a707 (r678.1.Code).length c708), ha.ag, hst.keep [0, 3, 4, 5, 6, 1, 2] rfl, ho777⟩) ?_
   rintro n819 a w1 ⟨s821, v822, ha, hst, hl820⟩
   rcases n819 with _ | n819
   ·exact (loop_zero hl820).elim
   refine CW.go ?_ ha
   obtain ⟨l823, a824, c825, rfl⟩ := hst.len 6 rfl
   refine CW.seq (rg ?_)
   refine pu 2 [(132, I s821.2), (133, .pointer (some ⟨b709, 1, none⟩))] ?_
   refine OW.ld rfl rfl rfl rfl (by kernel_rfl) (hst.blk 4 rfl rfl) ?_
   refine pu 2 [(136, .bool (decide (s821.2 < ((s821.1).length : Int))))] (nx ?_)
   refine br (decide (s821.2 < ((s821.1).length : Int))) hl820 (fun hl820 hc826 => ?_) (fun hl820 hc826 => ?_)
   ·refine CW.skip (QW.next (CW.seq (CW.block (CW.region ?_))))
    refine pu 1 [(139, .pointer (some ⟨b709, 1, none⟩))] ?_
    refine OW.ld rfl rfl rfl rfl (by kernel_rfl) (hst.blk 4 rfl rfl) ?_
    refine pu 2 [(141, I s821.2), (142, .agg [I 90, I 0, I 0, I 0, I 0].toArray)] ?_
    obtain ⟨x834, hx835, hl820⟩ := bs hl820
    obtain ⟨g837, o838, c839, hv836⟩ := hst.rowv 6 rfl hx835
    refine OW.idx 42 5 rfl rfl rfl rfl hv836 rfl (idx_some hx835).1 (idx_some hx835).2.1 (by kernel_rfl) (by kernel_rfl) ?_
    refine OW.stR hst 6 rfl hv836 (fun _ => rfl) rfl rfl hx835 0 rfl rfl rfl (by kernel_rfl) rfl rfl (api_Inst.mk 90 0 0 0 0) rfl ?_
    intro w840 hst
    refine OW.nil rfl (QW.block_normal (QW.next (CW.region ?_)))
    refine pu 3 [(17, I (w64 (s821.2 + 1)))] (OW.nil rfl ?_)
    exact QW.meet (fun a ha => ⟨n819, Nat.lt_succ_self _, ((s821.1.set (Int.toNat s821.2) (api_Inst.mk 90 0 0 0 0)), w64 (s821.2 + 1)), (.slice a824 (s821.1).length c825), ha.ag, hst.keep [0, 1, 2, 3, 4, 5, 6] rfl, hl820⟩)
   refine CW.exit (QW.then_exit (QW.then_exit ?_))
   refine QW.block_here ?_
   obtain rfl := inj hl820
   exact QW.meet (fun a ha => ⟨(.slice a824 (s821.1).length c825), ha.ag, hst.keep [0, 1, 2, 3, 4, 5, 6] rfl⟩)
  rintro a w1 ⟨v775, ha, hst⟩
  refine CW.go ?_ ha
  obtain ⟨l844, a845, c846, rfl⟩ := hst.len 6 rfl
  refine CW.seq (rg ?_)
  refine pu 1 [(18, I 0)] (nx ?_)
  obtain ⟨o910, ho911, hF⟩ := bs hF
  refine CW.cutK (fun a w1 => Rep 169 [(5, Pt b32), (7, Pt b115), (16, .bool r678.2)] a ∧ St w (fp []) w1 [itI R_t24 [Pt b32] S682 r613.2.2, blkI b115 31 [.slice a110 (r85.1.Maps).length c111, .slice a113 (r85.1.Code).length c114], rowI (.slice a110 (r85.1.Maps).length c111) 3 (encInt .i64) 1 r85.1.Maps, rowI (.slice a113 (r85.1.Code).length c114) 42 enc_api_Inst 5 r85.1.Code]) ?_ ?_
  ·refine CW.block ?_
   refine CW.loop (fun n a w1 => ∃ (s953 : (List Int) × Int) (v954 : Value), Rep 169 [(5, Pt b32), (7, Pt b115), (15, Pt b709), (16, .bool r678.2), (18, I s953.2)] a ∧ St w (fp []) w1 [itI R_t24 [Pt b32] S682 r613.2.2, blkI b115 31 [.slice a110 (r85.1.Maps).length c111, .slice a113 (r85.1.Code).length c114], rowI (.slice a110 (r85.1.Maps).length c111) 3 (encInt .i64) 1 r85.1.Maps, rowI (.slice a113 (r85.1.Code).length c114) 42 enc_api_Inst 5 r85.1.Code, blkI b709 31 [v954, .slice a845 (o776).length c846], rowI v954 3 (encInt .i64) 1 s953.1, rowI (.slice a845 (o776).length c846) 42 enc_api_Inst 5 o776] ∧ loop tappetlaw24_RegistryLoads_l4 n s953 = some o910) fu (fun a ha => ⟨(r678.1.Maps, 0), (.slice a704 (r678.1.Maps).length c705), ha.ag, hst.keep [0, 1, 2, 3, 4, 5, 6] rfl, ho911⟩) ?_
   rintro n951 a w1 ⟨s953, v954, ha, hst, hl952⟩
   rcases n951 with _ | n951
   ·exact (loop_zero hl952).elim
   refine CW.go ?_ ha
   obtain ⟨l955, a956, c957, rfl⟩ := hst.len 5 rfl
   refine CW.seq (rg ?_)
   refine pu 2 [(144, I s953.2), (145, Pt b709)] ?_
   refine OW.ld rfl rfl rfl rfl (by kernel_rfl) (hst.blk 4 rfl rfl) ?_
   refine pu 2 [(148, .bool (decide (s953.2 < ((s953.1).length : Int))))] (nx ?_)
   refine br (decide (s953.2 < ((s953.1).length : Int))) hl952 (fun hl952 hc958 => ?_) (fun hl952 hc958 => ?_)
   ·refine CW.skip (QW.next (CW.seq (CW.block (CW.region ?_))))
    refine pu 1 [(151, Pt b709)] ?_
    refine OW.ld rfl rfl rfl rfl (by kernel_rfl) (hst.blk 4 rfl rfl) ?_
    refine pu 1 [(153, I s953.2)] ?_
    obtain ⟨x966, hx967, hl952⟩ := bs hl952
    obtain ⟨g969, o970, c971, hv968⟩ := hst.rowv 5 rfl hx967
    refine OW.idx 3 1 rfl rfl rfl rfl hv968 rfl (idx_some hx967).1 (idx_some hx967).2.1 (by kernel_rfl) (by kernel_rfl) ?_
    refine OW.stR hst 5 rfl hv968 (fun _ => rfl) rfl rfl hx967 0 rfl rfl rfl (by kernel_rfl) rfl rfl (-3) rfl ?_
    intro w972 hst
    refine OW.nil rfl (QW.block_normal (QW.next (CW.region ?_)))
    refine pu 3 [(18, I (w64 (s953.2 + 1)))] (OW.nil rfl ?_)
    exact QW.meet (fun a ha => ⟨n951, Nat.lt_succ_self _, ((s953.1.set (Int.toNat s953.2) (-3)), w64 (s953.2 + 1)), (.slice a956 (s953.1).length c957), ha.ag, hst.keep [0, 1, 2, 3, 4, 5, 6] rfl, hl952⟩)
   refine CW.exit (QW.then_exit (QW.then_exit ?_))
   refine QW.block_here ?_
   obtain rfl := inj hl952
   exact QW.meet (fun a ha => ⟨ha.ag, hst.keep [0, 1, 2, 3] rfl⟩)
  rintro a w1 ⟨ha, hst⟩
  refine CW.go ?_ ha
  refine rg ?_
  refine pu 1 [(156, Pt b32)] ?_
  obtain ⟨r1009, hr1010, hF⟩ := bs hF
  refine OW.fn rfl rfl rfl rfl (by kernel_rfl) (registry_Registry_Module_ok _ (Pt b32) S682 r613.2.2 3 r1009 hr1010 (hst.part [0] rfl)) ?_
  rintro e w1011 ⟨S1013, v1014, v1015, rfl, hst1012⟩
  refine ⟨_, rfl, ?_⟩
  have hst := hst.join (idx := [0]) (rest := [1, 2, 3]) rfl hst1012
  obtain ⟨l1034, a1035, c1036, rfl⟩ := hst.len 1 rfl
  obtain ⟨l1037, a1038, c1039, rfl⟩ := hst.len 2 rfl
  refine pu 3 [(158, .agg [.slice a1035 (r1009.1.Maps).length c1036, .slice a1038 (r1009.1.Code).length c1039].toArray), (159, .bool r1009.2)] ?_
  refine OW.alloc hst rfl rfl rfl [.slice none 0 0, .slice none 0 0] (by kernel_rfl) ?_
  intro b1040 w1041 hst
  refine OW.stB hst 6 rfl rfl rfl rfl rfl (by kernel_rfl) rfl rfl [.slice a1035 (r1009.1.Maps).length c1036, .slice a1038 (r1009.1.Code).length c1039] rfl ?_
  intro w1042 hst
  refine pu 1 [(20, .bool r1009.2)] (nx (CW.seq ?_))
  obtain ⟨o1049, ho1050, hF⟩ := bs hF
  refine CW.cutK (fun a w1 => Rep 169 [(4, .bool o1049)] a ∧ St w (fp []) w1 []) ?_ ?_
  ·refine CW.region ?_
   refine pu 2 [(161, .bool r678.2)] ?_
   refine OW.split 161 rfl (fun hc1051 => ?_) (fun hc1051 => ?_)
   ·have ho1050 := ite_t ho1050 hc1051
    refine pu 3 [(164, .bool r1009.2)] ?_
    refine OW.split 164 rfl (fun hc1052 => ?_) (fun hc1052 => ?_)
    ·have ho1050 := ite_t ho1050 hc1052
     refine OW.ldN (cs := [.slice a1035 (r1009.1.Maps).length c1036, .slice a1038 (r1009.1.Code).length c1039]) rfl rfl rfl rfl (by kernel_rfl) (by kernel_rfl) (hst.blkN 6 rfl 0 2) ?_
     refine OW.ldN (cs := [.slice a110 (r85.1.Maps).length c111, .slice a113 (r85.1.Code).length c114]) rfl rfl rfl rfl (by kernel_rfl) (by kernel_rfl) (hst.blkN 3 rfl 0 2) ?_
     obtain ⟨r1053, hr1054, ho1050⟩ := bs ho1050
     refine OW.fn rfl rfl rfl rfl (by kernel_rfl) (tappetref04_Same_ok _ (.slice a1035 (r1009.1.Maps).length c1036) (.slice a1038 (r1009.1.Code).length c1039) r1009.1 (.slice a110 (r85.1.Maps).length c111) (.slice a113 (r85.1.Code).length c114) r85.1 r1053 hr1054 (hst.part [] rfl) (hst.rd 1 rfl (fun _ => rfl) [] rfl (hst.len 1 rfl).1) (hst.rd 2 rfl (fun _ => rfl) [] rfl (hst.len 2 rfl).1) (hst.rd 4 rfl (fun _ => rfl) [] rfl (hst.len 4 rfl).1) (hst.rd 5 rfl (fun _ => rfl) [] rfl (hst.len 5 rfl).1)) ?_
     rintro e w1055 ⟨rfl, hst1056⟩
     refine ⟨_, rfl, ?_⟩
     have hst := hst.join (idx := []) (rest := [0, 1, 2, 3, 4, 5, 6]) rfl hst1056
     refine pu 2 [(4, .bool r1053)] (OW.nil rfl ?_)
     obtain rfl := inj ho1050
     exact QW.meet (fun a ha => ⟨ha.ag, hst.keep [] rfl⟩)
    have ho1050 := ite_f ho1050 hc1052
    refine pu 5 [(4, .bool false)] (OW.nil rfl ?_)
    obtain rfl := inj ho1050
    exact QW.meet (fun a ha => ⟨ha.ag, hst.keep [] rfl⟩)
   have ho1050 := ite_f ho1050 hc1051
   refine pu 8 [(4, .bool false)] (OW.nil rfl ?_)
   obtain rfl := inj ho1050
   exact QW.meet (fun a ha => ⟨ha.ag, hst.keep [] rfl⟩)
  rintro a w1 ⟨ha, hst⟩
  refine CW.go ?_ ha
  refine CW.ret ?_
  obtain rfl := inj hF
  refine QW.ret1 rfl rfl ?_
  exact ⟨rfl, hst.keep [] rfl⟩
 have hF := ocase_none hF he31
 refine ⟨_, rfl, ?_⟩
 have hst := hst.join (idx := []) (rest := []) rfl hst26
 refine pu 5 [(5, .pointer none), (6, I r23.2)] (nx (CW.seq (rg ?_)))
 refine pu 6 [(33, .bool true)] (nx (CW.cond_t rfl rfl (rg ?_)))
 refine pu 7 [(4, .bool (r23.2 == 2))] (nx (CW.ret (QW.then_ret ?_)))
 obtain rfl := inj hF
 refine QW.ret1 rfl rfl ?_
 exact ⟨rfl, hst.keep [] rfl⟩
end Go.Proofs.YtdnogiegiclcfaaGreatDoor

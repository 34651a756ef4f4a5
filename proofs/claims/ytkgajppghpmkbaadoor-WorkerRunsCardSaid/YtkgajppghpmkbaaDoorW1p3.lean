/- Written by a program (wip/gen): the walks: each Go function returns what its plain function computes. -/
import Derived.Test.YtkgajppghpmkbaaDoorProg
import Derived.Test.YtkgajppghpmkbaaDoorF1
import Derived.Test.YtkgajppghpmkbaaDoorSq
import Derived.Test.YtkgajppghpmkbaaDoorPart
import Derived.Test.YtkgajppghpmkbaaDoorO1
import Derived.Test.YtkgajppghpmkbaaDoorW1p2
set_option linter.unusedSimpArgs false
namespace Go.Proofs.YtkgajppghpmkbaaDoor
open Go.Sx
set_option linter.unusedVariables false
set_option maxRecDepth 10000
set_option maxHeartbeats 4000000
theorem judge_judge_ways_ok (w : World) (wb : World) (Sb : List Nat) (v0 : Value) (S0 : List Nat) (p0 : judge_judge) (p1 : Int) (p2 : Nat → api_Type) (r : judge_judge) (hF : judge_judge_ways p0 p1 p2 = some r)
    (hst : St w (fp [itI (R_t83 wb Sb) [v0] S0 p0]) w [itI (R_t83 wb Sb) [v0] S0 p0]) (hb : Bor wb Sb w (fp [itI (R_t83 wb Sb) [v0] S0 p0])) (hT0 : Rd w (fp [itI (R_t83 wb Sb) [v0] S0 p0]) (.slice (some ⟨0, 0, none⟩) 23 23) enc_ops_form 2 tab_g0) :
    Calls Tryd.prog 35 [v0, I p1, .agg (arrC (enc_api_Type) 8 p2).toArray].toArray w (fun e w' => ∃ (s0 : List Nat), e = .returned (.tuple #[]) ∧ St w (fp [itI (R_t83 wb Sb) [v0] S0 p0]) w' [itI (R_t83 wb Sb) [v0] s0 r]) := by
 refine CW.start (N := 93) Tryd.func35 rfl rfl rfl ?_
 obtain ⟨b1, rfl⟩ := hst.fptr 0 rfl
 refine rg ?_
 refine OW.box hst rfl rfl rfl rfl (arrC (enc_api_Type) 8 p2) rfl ?_
 intro b4 w5 hst
 refine nx (CW.seq ?_)
 obtain ⟨v6, S7, v8, S9, v10, S11, v12, S13, v14, S15, hst⟩ := hst.openQ5 0 rfl rfl rfl rfl rfl rfl
 have hbo16 := hst.borOut 2 rfl
 have hbr17 := hbo16.bor hb
 have hbo18 := hst.borOut 3 rfl
 have hbr19 := hbo18.bor hb
 have hst := hst.toRow1 4 rfl
 have hst := hst.toRow1 5 rfl
 have hst := hst.toRow1 6 rfl
 have hst := hst.keep [0, 1, 4, 5, 6] rfl
 obtain ⟨l20, a21, c22, rfl⟩ := hbr17.len
 obtain ⟨l23, a24, c25, rfl⟩ := hbr19.len
 obtain ⟨l26, a27, c28, rfl⟩ := hst.len 2 rfl
 obtain ⟨l29, a30, c31, rfl⟩ := hst.len 3 rfl
 obtain ⟨l32, a33, c34, rfl⟩ := hst.len 4 rfl
 have hst : St _ _ _ [blkI b1 109 [.slice a21 (p0.Module.Maps).length c22, .slice a24 (p0.Module.Code).length c25, .slice a27 (p0.came).length c28, .slice a30 (p0.any).length c31, .slice a33 (p0.loops).length c34], _, _, _, _] := hst
 refine CW.region ?_
 refine pu 4 [(20, .pointer (some ⟨b1, 1, none⟩))] ?_
 refine OW.ld rfl rfl rfl rfl (by kernel_rfl) (hst.blk 0 rfl rfl) ?_
 refine pu 1 [(22, I p1)] ?_
 obtain ⟨x44, hx45, hF⟩ := bs hF
 obtain ⟨g47, o48, c49, hv46⟩ := hbr19.formv (fun _ => ⟨_, rfl⟩) hx45
 refine OW.idx 76 5 rfl rfl rfl rfl hv46 rfl (idx_some hx45).1 (idx_some hx45).2.1 (by kernel_rfl) (by kernel_rfl) ?_
 refine OW.ldN (cs := enc_api_Inst x44) rfl rfl rfl rfl (by kernel_rfl) (by kernel_rfl) (hbr19.cellv hst hx45 hv46) ?_
 refine OW.alloc hst rfl rfl rfl [I 0, I 0, I 0, I 0, I 0] (by kernel_rfl) ?_
 intro b50 w51 hst
 refine OW.stB hst 5 rfl rfl rfl rfl rfl (by kernel_rfl) rfl rfl [I x44.Op, I x44.D, I x44.A, I x44.B, I x44.Imm] rfl ?_
 intro w52 hst
 refine nx (rg ?_)
 refine OW.ldN (cs := [I x44.Op, I x44.D, I x44.A, I x44.B, I x44.Imm]) rfl rfl rfl rfl (by kernel_rfl) (by kernel_rfl) (hst.blkN 5 rfl 0 5) ?_
 obtain ⟨r57, hr58, hF⟩ := bs hF
 refine OW.fn rfl rfl rfl rfl (by kernel_rfl) (ops_Goes_ok _ x44 r57 hr58 (hst.part [] rfl) (hT0.give hst [])) ?_
 rintro e w59 ⟨rfl, hst60⟩
 refine ⟨_, rfl, ?_⟩
 have hst := hst.join (idx := []) (rest := [0, 1, 2, 3, 4, 5]) rfl hst60
 refine pu 7 [(7, I r57.1), (8, .bool r57.2.1), (9, .bool r57.2.2)] (nx (CW.seq (CW.seq ?_)))
 refine CW.cutK (fun a w1 => Rep 93 [(0, Pt b1), (1, I p1), (5, Pt b4), (6, Pt b50), (7, I r57.1), (9, .bool r57.2.2), (36, .bool ((!r57.2.1) || decide (r57.1 < 0)))] a ∧ St w (fp [itI (R_t83 wb Sb) [Pt b1] S0 p0]) w1 [blkI b1 109 [.slice a21 (p0.Module.Maps).length c22, .slice a24 (p0.Module.Code).length c25, .slice a27 (p0.came).length c28, .slice a30 (p0.any).length c31, .slice a33 (p0.loops).length c34], blkI b4 119 (arrC (enc_api_Type) 8 p2), rowI (.slice a27 (p0.came).length c28) 119 (arrC (enc_api_Type) 8) 32 p0.came, rowI (.slice a30 (p0.any).length c31) 4 encBool 1 p0.any, rowI (.slice a33 (p0.loops).length c34) 138 enc_api_Loop 3 p0.loops, blkI b50 76 [I x44.Op, I x44.D, I x44.A, I x44.B, I x44.Imm]]) ?_ ?_
 ·refine CW.region ?_
  refine pu 3 [(33, .bool (!r57.2.1))] ?_
  refine OW.split 33 rfl (fun hc61 => ?_) (fun hc61 => ?_)
  ·refine pu 3 [(36, .bool true)] (OW.nil rfl ?_)
   refine QW.say 36 (v := .bool ((!r57.2.1) || decide (r57.1 < 0))) rfl (by first | (rw [hc61]; done) | (rw [hc61]; rfl) | simp [hc61]) ?_
   exact QW.meet (fun a ha => ⟨ha.ag, hst.keep [0, 1, 2, 3, 4, 5] rfl⟩)
  refine pu 3 [(36, .bool (decide (r57.1 < 0)))] (OW.nil rfl ?_)
  refine QW.say 36 (v := .bool ((!r57.2.1) || decide (r57.1 < 0))) rfl (by first | (rw [hc61]; done) | (rw [hc61]; rfl) | simp [hc61]) ?_
  exact QW.meet (fun a ha => ⟨ha.ag, hst.keep [0, 1, 2, 3, 4, 5] rfl⟩)
 rintro a w1 ⟨ha, hst⟩
 refine CW.go ?_ ha
 refine br (((!r57.2.1) || decide (r57.1 < 0))) hF (fun hF hc62 => ?_) (fun hF hc62 => ?_)
 ·refine CW.seq (rg ?_)
  refine pu 1 [(37, .bool r57.2.2)] (nx ?_)
  obtain ⟨o78, ho79, hF⟩ := bs hF
  refine CW.cutK (fun a w1 => ∃ (S77 : List Nat), Rep 93 [] a ∧ St w (fp [itI (R_t83 wb Sb) [Pt b1] S0 p0]) w1 [itI (R_t83 wb Sb) [Pt b1] S77 o78]) ?_ ?_
  ·refine br (r57.2.2) ho79 (fun ho79 hc80 => ?_) (fun ho79 hc80 => ?_)
   ·refine CW.region ?_
    refine pu 3 [(38, Pt b1), (40, I (w64 (p1 + 1)))] ?_
    refine OW.ldN (cs := (arrC (enc_api_Type) 8 p2)) rfl rfl rfl rfl (by kernel_rfl) (by kernel_rfl) (hst.blkN 1 rfl 0 32) ?_
    have hst := hst.borIn hbo16
    have hst := hst.borIn hbo18
    have hst := hst.toIt 2 rfl (fun _ => rfl) (by decide)
    have hst := hst.toIt 3 rfl (fun _ => rfl) (by decide)
    have hst := hst.toIt 4 rfl (fun _ => rfl) (by decide)
    obtain ⟨S87, hst⟩ := hst.shutP5 (R_t109 wb Sb) rfl 0 6 7 2 3 4 [1, 5] rfl rfl rfl rfl rfl rfl rfl p0 rfl rfl
    obtain ⟨r88, hr89, ho79⟩ := bs ho79
    refine OW.fn rfl rfl rfl rfl (by kernel_rfl) (judge_judge_come_ok _ wb Sb (Pt b1) S87 p0 (w64 (p1 + 1)) p2 r88 hr89 (hst.part [2] rfl) (hb.on hst [2])) ?_
    rintro e w90 ⟨S92, rfl, hst91⟩
    refine ⟨_, rfl, ?_⟩
    have hst := hst.join (idx := [2]) (rest := [0, 1]) rfl hst91
    refine OW.nil rfl ?_
    obtain rfl := inj ho79
    exact QW.meet (fun a ha => ⟨S92, ha.ag, hst.keep [0] rfl⟩)
   refine CW.skip ?_
   have hst := hst.borIn hbo16
   have hst := hst.borIn hbo18
   have hst := hst.toIt 2 rfl (fun _ => rfl) (by decide)
   have hst := hst.toIt 3 rfl (fun _ => rfl) (by decide)
   have hst := hst.toIt 4 rfl (fun _ => rfl) (by decide)
   obtain ⟨S93, hst⟩ := hst.shutP5 (R_t109 wb Sb) rfl 0 6 7 2 3 4 [1, 5] rfl rfl rfl rfl rfl rfl rfl p0 rfl rfl
   obtain rfl := inj ho79
   exact QW.meet (fun a ha => ⟨S93, ha.ag, hst.keep [2] rfl⟩)
  rintro a w1 ⟨S77, ha, hst⟩
  refine CW.go ?_ ha
  refine CW.ret (QW.then_ret ?_)
  obtain rfl := inj hF
  refine QW.ret0 rfl ?_
  exact ⟨S77, rfl, hst.keep [0] rfl⟩
 refine CW.skip (QW.next (CW.seq (rg ?_)))
 refine pu 2 [(44, .bool (!r57.2.2))] (nx ?_)
 refine br ((!r57.2.2)) hF (fun hF hc94 => ?_) (fun hF hc94 => ?_)
 ·refine rg ?_
  refine pu 4 [(45, Pt b1), (48, I (w64 (p1 + r57.1)))] ?_
  refine OW.ldN (cs := (arrC (enc_api_Type) 8 p2)) rfl rfl rfl rfl (by kernel_rfl) (by kernel_rfl) (hst.blkN 1 rfl 0 32) ?_
  have hst := hst.borIn hbo16
  have hst := hst.borIn hbo18
  have hst := hst.toIt 2 rfl (fun _ => rfl) (by decide)
  have hst := hst.toIt 3 rfl (fun _ => rfl) (by decide)
  have hst := hst.toIt 4 rfl (fun _ => rfl) (by decide)
  obtain ⟨S101, hst⟩ := hst.shutP5 (R_t109 wb Sb) rfl 0 6 7 2 3 4 [1, 5] rfl rfl rfl rfl rfl rfl rfl p0 rfl rfl
  obtain ⟨r102, hr103, hF⟩ := bs hF
  refine OW.fn rfl rfl rfl rfl (by kernel_rfl) (judge_judge_come_ok _ wb Sb (Pt b1) S101 p0 (w64 (p1 + r57.1)) p2 r102 hr103 (hst.part [2] rfl) (hb.on hst [2])) ?_
  rintro e w104 ⟨S106, rfl, hst105⟩
  refine ⟨_, rfl, ?_⟩
  have hst := hst.join (idx := [2]) (rest := [0, 1]) rfl hst105
  refine nx (CW.ret (QW.then_ret ?_))
  obtain rfl := inj hF
  refine QW.ret0 rfl ?_
  exact ⟨S106, rfl, hst.keep [0] rfl⟩
 refine CW.skip (QW.next (rg ?_))
 refine OW.ldN (cs := [I x44.Op, I x44.D, I x44.A, I x44.B, I x44.Imm]) rfl rfl rfl rfl (by kernel_rfl) (by kernel_rfl) (hst.blkN 5 rfl 0 5) ?_
 refine OW.ldN (cs := (arrC (enc_api_Type) 8 p2)) rfl rfl rfl rfl (by kernel_rfl) (by kernel_rfl) (hst.blkN 1 rfl 0 32) ?_
 obtain ⟨r114, hr115, hF⟩ := bs hF
 refine OW.fn rfl rfl rfl rfl (by kernel_rfl) (judge_source_ok _ x44 p2 r114 hr115 (hst.part [] rfl)) ?_
 rintro e w116 ⟨rfl, hst117⟩
 refine ⟨_, rfl, ?_⟩
 have hst := hst.join (idx := []) (rest := [0, 1, 2, 3, 4, 5]) rfl hst117
 refine OW.alloc hst rfl rfl rfl [I 0, U 0, U 0, I 0] (by kernel_rfl) ?_
 intro b118 w119 hst
 refine OW.stB hst 6 rfl rfl rfl rfl rfl (by kernel_rfl) rfl rfl [I r114.Kind, U r114.Span.Lo, U r114.Span.Hi, I r114.Map] rfl ?_
 intro w120 hst
 refine nx (rg ?_)
 refine OW.row (α := Bool) (e := 4) (enc := encBool) (sz := 1) hst rfl rfl rfl [true, false] rfl (fun _ => rfl) rfl rfl (fun _ => by kernel_rfl) ?_
 intro g123 w124 hst
 refine pu 2 [(55, I 2), (56, I 0)] (nx ?_)
 obtain ⟨o432, ho433, hF⟩ := bs hF
 refine CW.cutQ (fun a w1 => ∃ (S431 : List Nat), Rep 93 [] a ∧ St w (fp [itI (R_t83 wb Sb) [Pt b1] S0 p0]) w1 [itI (R_t83 wb Sb) [Pt b1] S431 o432]) ?_ ?_
 ·refine CW.block ?_
  have hst := hst.borIn hbo16
  have hst := hst.borIn hbo18
  have hst := hst.toIt 2 rfl (fun _ => rfl) (by decide)
  have hst := hst.toIt 3 rfl (fun _ => rfl) (by decide)
  have hst := hst.toIt 4 rfl (fun _ => rfl) (by decide)
  obtain ⟨S434, hst⟩ := hst.shutP5 (R_t109 wb Sb) rfl 0 8 9 2 3 4 [1, 5, 6, 7] rfl rfl rfl rfl rfl rfl rfl p0 rfl rfl
  refine CW.loop (fun n a w1 => ∃ (i639 : Nat) (s637 : judge_judge) (S638 : List Nat), i639 + n = 2 ∧ Rep 93 [(0, Pt b1), (1, I p1), (5, Pt b4), (6, Pt b50), (7, I r57.1), (10, Pt b118), (54, .slice (some ⟨g123, 0, none⟩) 2 2), (55, I 2), (56, I (i639 : Int))] a ∧ St w (fp [itI (R_t83 wb Sb) [Pt b1] S0 p0]) w1 [itI (R_t83 wb Sb) [Pt b1] S638 s637, blkI b4 119 (arrC (enc_api_Type) 8 p2), blkI b50 76 [I x44.Op, I x44.D, I x44.A, I x44.B, I x44.Imm], blkI b118 117 [I r114.Kind, U r114.Span.Lo, U r114.Span.Hi, I r114.Map], rowI (.slice (some ⟨g123, 0, none⟩) 2 2) 4 encBool 1 ([true, false])] ∧ forN (judge_judge_ways_l1 p1 p2 x44 r57 r114) (fun (s637 : judge_judge) => s637) n i639 s637 = some o432) 2 (fun a ha => ⟨0, p0, S434, Nat.zero_add _, ha.ag, hst.keep [4, 0, 1, 2, 3] rfl, ho433⟩) ?_
  rintro n635 a w1 ⟨i639, s637, S638, hi640, ha, hst, hl636⟩
  refine CW.go ?_ ha
  refine rg ?_
  refine pu 1 [(57, .bool (decide ((i639 : Int) < 2)))] (nx (CW.seq ?_))
  rcases bft (decide ((i639 : Int) < 2)) with hc641 | hc641
  ·rcases n635 with _ | n635
   ·exact (cnt0 hi640 hc641).elim
   refine CW.cond_t rfl hc641 (CW.skip (QW.next (CW.seq (CW.block (rg ?_)))))
   obtain ⟨x648, hx649, hl636⟩ := bs hl636
   obtain ⟨g651, o652, c653, hv650⟩ := hst.rowv 4 rfl hx649
   refine OW.idx 4 1 rfl rfl rfl rfl hv650 rfl (idx_some hx649).1 (idx_some hx649).2.1 (by kernel_rfl) (by kernel_rfl) ?_
   refine OW.ld rfl rfl rfl rfl (by kernel_rfl) (hst.rowc 4 rfl (fun _ => rfl) hx649 hv650 0 _ rfl) ?_
   refine pu 1 [(12, .bool x648)] (nx (CW.seq ?_))
   refine CW.plan (by kernel_rfl) ?_
   intro w659 hch660
   have hst := hst.same hch660
   refine OA.pure [0, 1, 2] [(62, I (w64 (p1 + r57.1)))] (by kernel_rfl) ?_
   refine OA.ldN (i := 3) (cs := (arrC (enc_api_Type) 8 p2)) rfl (by kernel_rfl) rfl rfl rfl (by kernel_rfl) (by kernel_rfl) (hst.blkN 1 rfl 0 32) ?_
   refine OA.act (i := 4) [3] (by kernel_rfl) rfl rfl (by kernel_rfl) (by kernel_rfl) ?_
   refine OW.alloc hst rfl rfl rfl [I 0, U 0, U 0, I 0, I 0, U 0, U 0, I 0, I 0, U 0, U 0, I 0, I 0, U 0, U 0, I 0, I 0, U 0, U 0, I 0, I 0, U 0, U 0, I 0, I 0, U 0, U 0, I 0, I 0, U 0, U 0, I 0] (by kernel_rfl) ?_
   intro b661 w662 hst
   refine OA.next ⟨(hst.blkN 1 rfl 0 32), trivial⟩ ?_
   refine OA.act (i := 5) [3] (by kernel_rfl) rfl rfl (by kernel_rfl) (by kernel_rfl) ?_
   refine pu 1 [(13, I (w64 (p1 + r57.1)))] ?_
   refine OA.next ⟨(hst.blkN 1 rfl 0 32), trivial⟩ ?_
   refine OA.act (i := 6) [] (by kernel_rfl) rfl rfl (by kernel_rfl) (by kernel_rfl) ?_
   refine OW.stB hst 5 rfl rfl rfl rfl rfl (by kernel_rfl) rfl rfl (arrC (enc_api_Type) 8 p2) rfl ?_
   intro w663 hst
   refine OA.next trivial ?_
   refine OA.fin (by kernel_rfl) (by kernel_rfl) (QW.next (CW.seq (rg ?_)))
   refine pu 2 [(65, .bool (!x648))] (nx ?_)
   obtain ⟨o665, ho666, hl636⟩ := bs hl636
   refine CW.cutK (fun a w1 => Rep 93 [(0, Pt b1), (1, I p1), (5, Pt b4), (6, Pt b50), (7, I r57.1), (10, Pt b118), (12, .bool x648), (13, I o665), (14, Pt b661), (54, .slice (some ⟨g123, 0, none⟩) 2 2), (55, I 2), (56, I (i639 : Int))] a ∧ St w (fp [itI (R_t83 wb Sb) [Pt b1] S0 p0]) w1 [itI (R_t83 wb Sb) [Pt b1] S638 s637, blkI b4 119 (arrC (enc_api_Type) 8 p2), blkI b50 76 [I x44.Op, I x44.D, I x44.A, I x44.B, I x44.Imm], blkI b118 117 [I r114.Kind, U r114.Span.Lo, U r114.Span.Hi, I r114.Map], blkI b661 119 (arrC (enc_api_Type) 8 p2), rowI (.slice (some ⟨g123, 0, none⟩) 2 2) 4 encBool 1 ([true, false])]) ?_ ?_
   ·refine br ((!x648)) ho666 (fun ho666 hc667 => ?_) (fun ho666 hc667 => ?_)
    ·refine CW.region ?_
     refine pu 3 [(13, I (w64 (p1 + 1)))] (OW.nil rfl ?_)
     obtain rfl := inj ho666
     exact QW.meet (fun a ha => ⟨ha.ag, hst.keep [0, 1, 2, 3, 5, 4] rfl⟩)
    refine CW.skip ?_
    obtain rfl := inj ho666
    exact QW.meet (fun a ha => ⟨ha.ag, hst.keep [0, 1, 2, 3, 5, 4] rfl⟩)
   rintro a w1 ⟨ha, hst⟩
   refine CW.go ?_ ha
   refine CW.seq ?_
   obtain ⟨o691, ho692, hl636⟩ := bs hl636
   refine CW.cutK (fun a w1 => ∃ (b690 : Nat), Rep 93 [(0, Pt b1), (1, I p1), (5, Pt b4), (6, Pt b50), (7, I r57.1), (10, Pt b118), (13, I o665), (14, Pt b661), (15, Pt b690), (16, .bool o691.2), (54, .slice (some ⟨g123, 0, none⟩) 2 2), (55, I 2), (56, I (i639 : Int))] a ∧ St w (fp [itI (R_t83 wb Sb) [Pt b1] S0 p0]) w1 [itI (R_t83 wb Sb) [Pt b1] S638 s637, blkI b4 119 (arrC (enc_api_Type) 8 p2), blkI b50 76 [I x44.Op, I x44.D, I x44.A, I x44.B, I x44.Imm], blkI b118 117 [I r114.Kind, U r114.Span.Lo, U r114.Span.Hi, I r114.Map], blkI b661 119 (arrC (enc_api_Type) 8 p2), blkI b690 115 [U o691.1.Lo, U o691.1.Hi], rowI (.slice (some ⟨g123, 0, none⟩) 2 2) 4 encBool 1 ([true, false])]) ?_ ?_
   ·refine CW.plan (by kernel_rfl) ?_
    intro w693 hch694
    have hst := hst.same hch694
    refine OA.pure [0] [(69, Pt b50)] (by kernel_rfl) ?_
    refine OA.ld (i := 1) rfl (by kernel_rfl) rfl rfl rfl (by kernel_rfl) (hst.blk 2 rfl rfl) ?_
    refine OA.pure [2] [(71, .pointer (some ⟨b50, 2, none⟩))] (by kernel_rfl) ?_
    refine OA.ld (i := 3) rfl (by kernel_rfl) rfl rfl rfl (by kernel_rfl) (hst.blk 2 rfl rfl) ?_
    obtain ⟨i695, hi696, ho692⟩ := bs ho692
    refine OA.val (i := 4) (v := .pointer (some ⟨b4, 0 + Int.toNat x44.A * 4, none⟩)) rfl (by kernel_rfl) rfl rfl rfl rfl (fun a w ha => aidx_run (n := 8) 117 4 rfl rfl rfl (ain_some hi696).1 (ain_some hi696).2.1 (by kernel_rfl) (by kernel_rfl) a w ha) ?_
    refine OA.pure [5] [(74, .pointer (some ⟨b4, 0 + Int.toNat x44.A * 4 + 1, none⟩))] (by kernel_rfl) ?_
    refine OA.ldN (i := 6) (cs := [U (p2 i695).Span.Lo, U (p2 i695).Span.Hi]) rfl (by kernel_rfl) rfl rfl rfl (by kernel_rfl) (by kernel_rfl) (elN (hst.arrB 1 rfl enc_api_Type (fun _ => rfl) 8 p2 0 rfl rfl hi696) 1 2) ?_
    refine OA.pure [7] [(76, .pointer (some ⟨b118, 1, none⟩))] (by kernel_rfl) ?_
    refine OA.ldN (i := 8) (cs := [U r114.Span.Lo, U r114.Span.Hi]) rfl (by kernel_rfl) rfl rfl rfl (by kernel_rfl) (by kernel_rfl) (hst.blkN 3 rfl 1 2) ?_
    refine OA.pure [9] [(78, .bool x648)] (by kernel_rfl) ?_
    refine OA.acts [10, 14] 10 (by kernel_rfl) (by kernel_rfl) (by kernel_rfl) (alts_cons ?_ (alts_cons ?_ alts_nil))
    ·refine Alt.of (i := 10) [] rfl rfl (by kernel_rfl) (by kernel_rfl) ?_
     obtain ⟨r697, hr698, ho692⟩ := bs ho692
     refine OW.fn rfl rfl rfl rfl (by kernel_rfl) (span_Refine_ok _ x44.Op (p2 i695).Span r114.Span x648 r697 hr698 (hst.part [] rfl)) ?_
     rintro e w699 ⟨rfl, hst700⟩
     refine ⟨_, rfl, ?_⟩
     have hst := hst.join (idx := []) (rest := [0, 1, 2, 3, 4, 5]) rfl hst700
     refine OA.next trivial ?_
     refine OA.pure [11, 12, 13] [(80, .agg [U r697.1.Lo, U r697.1.Hi].toArray), (81, .bool r697.2)] (by kernel_rfl) ?_
     refine OA.act (i := 14) [] (by kernel_rfl) rfl rfl (by kernel_rfl) (by kernel_rfl) ?_
     refine OW.alloc hst rfl rfl rfl [U 0, U 0] (by kernel_rfl) ?_
     intro b701 w702 hst
     refine OA.next trivial ?_
     refine OA.act (i := 15) [] (by kernel_rfl) rfl rfl (by kernel_rfl) (by kernel_rfl) ?_
     refine OW.stB hst 6 rfl rfl rfl rfl rfl (by kernel_rfl) rfl rfl [U r697.1.Lo, U r697.1.Hi] rfl ?_
     intro w703 hst
     refine OA.next trivial ?_
     refine OA.act (i := 16) [] (by kernel_rfl) rfl rfl (by kernel_rfl) (by kernel_rfl) ?_
     refine pu 1 [(16, .bool r697.2)] (OA.next trivial ?_)
     refine OA.fin (by kernel_rfl) (by kernel_rfl) ?_
     obtain rfl := inj ho692
     exact QW.meet (fun a ha => ⟨b701, ha.ag, hst.keep [0, 1, 2, 3, 4, 6, 5] rfl⟩)
    refine Alt.of (i := 14) [8, 6, 3, 1] rfl rfl (by kernel_rfl) (by kernel_rfl) ?_
    refine OW.alloc hst rfl rfl rfl [U 0, U 0] (by kernel_rfl) ?_
    intro b704 w705 hst
    refine OA.next ⟨(hst.blkN 3 rfl 1 2), (elN (hst.arrB 1 rfl enc_api_Type (fun _ => rfl) 8 p2 0 rfl rfl hi696) 1 2), (hst.blk 2 rfl rfl), (hst.blk 2 rfl rfl), trivial⟩ ?_
    refine OA.act (i := 10) [] (by kernel_rfl) rfl rfl (by kernel_rfl) (by kernel_rfl) ?_
    obtain ⟨r706, hr707, ho692⟩ := bs ho692
    refine OW.fn rfl rfl rfl rfl (by kernel_rfl) (span_Refine_ok _ x44.Op (p2 i695).Span r114.Span x648 r706 hr707 (hst.part [] rfl)) ?_
    rintro e w708 ⟨rfl, hst709⟩
    refine ⟨_, rfl, ?_⟩
    have hst := hst.join (idx := []) (rest := [0, 1, 2, 3, 4, 5, 6]) rfl hst709
    refine OA.next trivial ?_
    refine OA.pure [11, 12, 13] [(80, .agg [U r706.1.Lo, U r706.1.Hi].toArray), (81, .bool r706.2)] (by kernel_rfl) ?_
    refine OA.act (i := 15) [] (by kernel_rfl) rfl rfl (by kernel_rfl) (by kernel_rfl) ?_
    refine OW.stB hst 6 rfl rfl rfl rfl rfl (by kernel_rfl) rfl rfl [U r706.1.Lo, U r706.1.Hi] rfl ?_
    intro w710 hst
    refine OA.next trivial ?_
    refine OA.act (i := 16) [] (by kernel_rfl) rfl rfl (by kernel_rfl) (by kernel_rfl) ?_
    refine pu 1 [(16, .bool r706.2)] (OA.next trivial ?_)
    refine OA.fin (by kernel_rfl) (by kernel_rfl) ?_
    obtain rfl := inj ho692
    exact QW.meet (fun a ha => ⟨b704, ha.ag, hst.keep [0, 1, 2, 3, 4, 6, 5] rfl⟩)
   rintro a w1 ⟨b690, ha, hst⟩
   refine CW.go ?_ ha
   refine rg ?_
   refine pu 1 [(82, .bool o691.2)] (nx ?_)
   refine br (o691.2) hl636 (fun hl636 hc711 => ?_) (fun hl636 hc711 => ?_)
   ·refine CW.seq ?_
    refine CW.plan (by kernel_rfl) ?_
    intro w721 hch722
    have hst := hst.same hch722
    refine OA.pure [0] [(83, .pointer (some ⟨b50, 2, none⟩))] (by kernel_rfl) ?_
    refine OA.ld (i := 1) rfl (by kernel_rfl) rfl rfl rfl (by kernel_rfl) (hst.blk 2 rfl rfl) ?_
    refine OA.ldN (i := 2) (cs := [U o691.1.Lo, U o691.1.Hi]) rfl (by kernel_rfl) rfl rfl rfl (by kernel_rfl) (by kernel_rfl) (hst.blkN 5 rfl 0 2) ?_
    refine OA.act (i := 3) [1] (by kernel_rfl) rfl rfl (by kernel_rfl) (by kernel_rfl) ?_
    obtain ⟨r723, hr724, hl636⟩ := bs hl636
    refine OW.fn rfl rfl rfl rfl (by kernel_rfl) (judge_number_ok _ o691.1 r723 hr724 (hst.part [] rfl)) ?_
    rintro e w725 ⟨rfl, hst726⟩
    refine ⟨_, rfl, ?_⟩
    have hst := hst.join (idx := []) (rest := [0, 1, 2, 3, 4, 5, 6]) rfl hst726
    refine OA.next ⟨(hst.blk 2 rfl rfl), trivial⟩ ?_
    obtain ⟨i727, hi728, hl636⟩ := bs hl636
    refine OA.val (i := 4) (v := .pointer (some ⟨b661, 0 + Int.toNat x44.A * 4, none⟩)) rfl (by kernel_rfl) rfl rfl rfl rfl (fun a w ha => aidx_run (n := 8) 117 4 rfl rfl rfl (ain_some hi728).1 (ain_some hi728).2.1 (by kernel_rfl) (by kernel_rfl) a w ha) ?_
    refine OA.act (i := 5) [] (by kernel_rfl) rfl rfl (by kernel_rfl) (by kernel_rfl) ?_
    refine OW.stA hst 4 rfl rfl rfl rfl rfl (by kernel_rfl) rfl enc_api_Type (fun _ => rfl) 8 p2 0 rfl rfl hi728 0 rfl rfl r723 rfl (arrC (enc_api_Type) 8 (aset p2 i727 r723)) rfl ?_
    intro w729 hst
    refine OA.next trivial ?_
    refine OA.fin (by kernel_rfl) (by kernel_rfl) (QW.next (CW.region ?_))
    refine pu 2 [(88, Pt b1), (89, I o665)] ?_
    refine OW.ldN (cs := (arrC (enc_api_Type) 8 (aset p2 i727 r723))) rfl rfl rfl rfl (by kernel_rfl) (by kernel_rfl) (hst.blkN 4 rfl 0 32) ?_
    obtain ⟨r735, hr736, hl636⟩ := bs hl636
    refine OW.fn rfl rfl rfl rfl (by kernel_rfl) (judge_judge_come_ok _ wb Sb (Pt b1) S638 s637 o665 (aset p2 i727 r723) r735 hr736 (hst.part [0] rfl) (hb.on hst [0])) ?_
    rintro e w737 ⟨S739, rfl, hst738⟩
    refine ⟨_, rfl, ?_⟩
    have hst := hst.join (idx := [0]) (rest := [1, 2, 3, 4, 5, 6]) rfl hst738
    refine OW.nil rfl (QW.block_normal (QW.next (CW.region ?_)))
    refine pu 2 [(56, I (w64 ((i639 : Int) + 1)))] (OW.nil rfl ?_)
    refine QW.say 56 rfl (congrArg (Value.int .i64) (w64_cnt hc641 (by decide))) ?_
    exact QW.meet (fun a ha => ⟨n635, Nat.lt_succ_self _, i639 + 1, r735, S739, cnt_next hi640, ha.ag, hst.keep [0, 1, 2, 3, 6] rfl, hl636⟩)
   refine CW.skip (QW.block_normal (QW.next (CW.region ?_)))
   refine pu 2 [(56, I (w64 ((i639 : Int) + 1)))] (OW.nil rfl ?_)
   refine QW.say 56 rfl (congrArg (Value.int .i64) (w64_cnt hc641 (by decide))) ?_
   exact QW.meet (fun a ha => ⟨n635, Nat.lt_succ_self _, i639 + 1, s637, S638, cnt_next hi640, ha.ag, hst.keep [0, 1, 2, 3, 6] rfl, hl636⟩)
  rcases n635 with _ | n635
  ·refine CW.cond_f rfl hc641 ?_
   refine CW.exit (QW.then_exit (QW.then_exit ?_))
   refine QW.block_here ?_
   obtain rfl := inj hl636
   exact QW.meet (fun a ha => ⟨S638, ha.ag, hst.keep [0] rfl⟩)
  exact (cnt1 hi640 hc641).elim
 rintro a w1 ⟨S431, ha, hst⟩
 refine QW.go ?_ ha
 obtain rfl := inj hF
 refine QW.end0 rfl ?_
 exact ⟨S431, rfl, hst.keep [0] rfl⟩
theorem judge_judged_ok (w : World) (wb : World) (Sb : List Nat) (fu : Nat) (v0_0 : Value) (v0_1 : Value) (p0 : api_Module) (r : (Option judge_judge) × Int × Int) (hF : judge_judged fu p0 = some r)
    (hst : St w (fp []) w []) (hb : Bor wb Sb w (fp [])) (h0_0 : Rd wb Sb v0_0 (encInt .i64) 1 p0.Maps) (h0_1 : Rd wb Sb v0_1 enc_api_Inst 5 p0.Code) (hT0 : Rd w (fp []) (.slice (some ⟨0, 0, none⟩) 23 23) enc_ops_form 2 tab_g0) (hT1 : Rd w (fp []) (.slice (some ⟨1, 0, none⟩) 7 7) enc_sigs_sig 5 tab_g1) :
    Calls Tryd.prog 21 [.agg [v0_0, v0_1].toArray].toArray w (fun e w' => (∃ (k0 : judge_judge) (y0 : Value) (z0 : List Nat), r.1 = some k0 ∧ e = .returned (.tuple #[y0, I r.2.1, I r.2.2]) ∧ St w (fp []) w' [itI (R_t83 wb Sb) [y0] z0 k0]) ∨ (r.1 = none ∧ e = .returned (.tuple #[.pointer none, I r.2.1, I r.2.2]) ∧ St w (fp []) w' [])) := by
 refine CW.start (N := 83) Tryd.func21 rfl rfl rfl ?_
 have h0_0b := h0_0.bor hb
 have h0_1b := h0_1.bor hb
 obtain ⟨l1, a2, c3, rfl⟩ := h0_0b.len
 obtain ⟨l4, a5, c6, rfl⟩ := h0_1b.len
 refine rg ?_
 refine OW.box hst rfl rfl rfl rfl [.slice a2 (p0.Maps).length c3, .slice a5 (p0.Code).length c6] rfl ?_
 intro b9 w10 hst
 refine pu 3 [] (nx (CW.seq (rg ?_)))
 refine pu 1 [(11, Pt b9)] ?_
 refine OW.ld rfl rfl rfl rfl (by kernel_rfl) (hst.blk 0 rfl rfl) ?_
 obtain ⟨r15, hr16, hF⟩ := bs hF
 refine OW.fn rfl rfl rfl rfl (by kernel_rfl) (judge_good_ok _ (.slice a2 (p0.Maps).length c3) p0.Maps r15 hr16 (hst.part [] rfl) (h0_0b.give hst [])) ?_
 rintro e w17 ⟨rfl, hst18⟩
 refine ⟨_, rfl, ?_⟩
 have hst := hst.join (idx := []) (rest := [0]) rfl hst18
 refine pu 1 [(14, .bool (!r15))] (nx ?_)
 refine br ((!r15)) hF (fun hF hc19 => ?_) (fun hF hc19 => ?_)
 ·refine rg ?_
  refine pu 3 [(2, .pointer none), (3, I 0), (4, I 2)] (nx (CW.ret (QW.then_ret ?_)))
  obtain rfl := inj hF
  refine QW.ret3 rfl rfl rfl rfl ?_
  exact .inr ⟨rfl, rfl, hst.keep [] rfl⟩
 refine CW.skip (QW.next (CW.seq (rg ?_)))
 refine pu 1 [(16, .pointer (some ⟨b9, 1, none⟩))] ?_
 refine OW.ld rfl rfl rfl rfl (by kernel_rfl) (hst.blk 0 rfl rfl) ?_
 obtain ⟨r24, hr25, hF⟩ := bs hF
 refine OW.fn rfl rfl rfl rfl (by kernel_rfl) (flow_Check_ok _ (.slice a5 (p0.Code).length c6) p0.Code r24 hr25 (hst.part [] rfl) (h0_1b.give hst []) (hT0.give hst [])) ?_
 rintro e w26 ⟨rfl, hst27⟩
 refine ⟨_, rfl, ?_⟩
 have hst := hst.join (idx := []) (rest := [0]) rfl hst27
 refine pu 5 [(5, I r24.1), (6, I r24.2)] (nx (rg ?_))
 refine pu 2 [(22, .bool (r24.2 != 0))] (nx ?_)
 refine br ((r24.2 != 0)) hF (fun hF hc28 => ?_) (fun hF hc28 => ?_)
 ·refine rg ?_
  refine pu 5 [(2, .pointer none), (3, I r24.1), (4, I r24.2)] (nx (CW.ret (QW.then_ret ?_)))
  obtain rfl := inj hF
  refine QW.ret3 rfl rfl rfl rfl ?_
  exact .inr ⟨rfl, rfl, hst.keep [] rfl⟩
 refine CW.skip (QW.next (CW.seq ?_))
 obtain ⟨o53, ho54, hF⟩ := bs hF
 refine CW.cutK (fun a w1 => ∃ (b51 : Nat) (S52 : List Nat), Rep 83 [(1, Pt b9), (7, Pt b51)] a ∧ St w (fp []) w1 [blkI b9 28 [.slice a2 (p0.Maps).length c3, .slice a5 (p0.Code).length c6], itI (R_t83 wb Sb) [Pt b51] S52 o53]) ?_ ?_
 ·refine CW.plan (by kernel_rfl) ?_
  intro w55 hch56
  have hst := hst.same hch56
  refine OA.ldN (i := 0) (cs := [.slice a2 (p0.Maps).length c3, .slice a5 (p0.Code).length c6]) rfl (by kernel_rfl) rfl rfl rfl (by kernel_rfl) (by kernel_rfl) (hst.blkN 0 rfl 0 2) ?_
  refine OA.pure [1] [(26, .pointer (some ⟨b9, 1, none⟩))] (by kernel_rfl) ?_
  refine OA.ld (i := 2) rfl (by kernel_rfl) rfl rfl rfl (by kernel_rfl) (hst.blk 0 rfl rfl) ?_
  refine OA.pure [3, 5] [(28, I ((p0.Code).length : Int)), (30, .pointer (some ⟨b9, 1, none⟩))] (by kernel_rfl) ?_
  refine OA.ld (i := 6) rfl (by kernel_rfl) rfl rfl rfl (by kernel_rfl) (hst.blk 0 rfl rfl) ?_
  refine OA.pure [7] [(32, I ((p0.Code).length : Int))] (by kernel_rfl) ?_
  refine OA.acts [4, 8] 4 (by kernel_rfl) (by kernel_rfl) (by kernel_rfl) (alts_cons ?_ (alts_cons ?_ alts_nil))
  ·refine Alt.of (i := 4) [6, 0] rfl rfl (by kernel_rfl) (by kernel_rfl) ?_
   obtain ⟨m57, hm58, ho54⟩ := bs ho54
   refine OW.make (enc := arrC (enc_api_Type) 8) (sz := 32) hst rfl rfl rfl rfl rfl (by kernel_rfl) el119 (fun _ => (api_Type.mk 0 (api_Span.mk 0 0) 0)) (by kernel_rfl) (fun _ => rfl) hm58 ?_
   intro g59 w60 hst
   refine OA.next ⟨(hst.blk 0 rfl rfl), (hst.blkN 0 rfl 0 2), trivial⟩ ?_
   refine OA.act (i := 8) [0] (by kernel_rfl) rfl rfl (by kernel_rfl) (by kernel_rfl) ?_
   obtain ⟨m61, hm62, ho54⟩ := bs ho54
   refine OW.make (enc := encBool) (sz := 1) hst rfl rfl rfl rfl rfl (by kernel_rfl) el4 false (by kernel_rfl) (fun _ => rfl) hm62 ?_
   intro g63 w65 hst
   refine OA.next ⟨(hst.blkN 0 rfl 0 2), trivial⟩ ?_
   refine OA.pure [9] [(34, .agg [.slice a2 (p0.Maps).length c3, .slice a5 (p0.Code).length c6, .slice (some ⟨g59, 0, none⟩) m57 m57, .slice (some ⟨g63, 0, none⟩) m61 m61, .slice none 0 0].toArray)] (by kernel_rfl) ?_
   refine OA.act (i := 10) [] (by kernel_rfl) rfl rfl (by kernel_rfl) (by kernel_rfl) ?_
   refine OW.box hst rfl rfl rfl rfl [.slice a2 (p0.Maps).length c3, .slice a5 (p0.Code).length c6, .slice (some ⟨g59, 0, none⟩) m57 m57, .slice (some ⟨g63, 0, none⟩) m61 m61, .slice none 0 0] rfl ?_
   intro b66 w67 hst
   refine OA.next trivial ?_
   refine OA.act (i := 11) [] (by kernel_rfl) rfl rfl (by kernel_rfl) (by kernel_rfl) ?_
   refine pu 1 [(7, Pt b66)] (OA.next trivial ?_)
   refine OA.fin (by kernel_rfl) (by kernel_rfl) ?_
   have hst := hst.borIn h0_0
   have hst := hst.borIn h0_1
   have hst := hst.nilRow api_Loop 138 enc_api_Loop 3
   have hst := hst.toIt 1 rfl (fun _ => rfl) (by decide)
   have hst := hst.toIt 2 rfl (fun _ => rfl) (by decide)
   have hst := hst.toIt 6 rfl (fun _ => rfl) (by decide)
   obtain ⟨S68, hst⟩ := hst.shutP5 (R_t109 wb Sb) rfl 3 4 5 1 2 6 [0] rfl rfl rfl rfl rfl rfl rfl (judge_judge.mk p0 (List.replicate m57 (fun _ => (api_Type.mk 0 (api_Span.mk 0 0) 0))) (List.replicate m61 false) ([] : List api_Loop)) rfl rfl
   obtain rfl := inj ho54
   exact QW.meet (fun a ha => ⟨b66, S68, ha.ag, hst.keep [0, 1] rfl⟩)
  obtain ⟨m57, hm58, ho54⟩ := bs ho54
  obtain ⟨m61, hm62, ho54⟩ := bs ho54
  refine Alt.of (i := 8) [2, 0] rfl rfl (by kernel_rfl) (by kernel_rfl) ?_
  refine OW.make (enc := encBool) (sz := 1) hst rfl rfl rfl rfl rfl (by kernel_rfl) el4 false (by kernel_rfl) (fun _ => rfl) hm62 ?_
  intro g69 w70 hst
  refine OA.next ⟨(hst.blk 0 rfl rfl), (hst.blkN 0 rfl 0 2), trivial⟩ ?_
  refine OA.act (i := 4) [0] (by kernel_rfl) rfl rfl (by kernel_rfl) (by kernel_rfl) ?_
  refine OW.make (enc := arrC (enc_api_Type) 8) (sz := 32) hst rfl rfl rfl rfl rfl (by kernel_rfl) el119 (fun _ => (api_Type.mk 0 (api_Span.mk 0 0) 0)) (by kernel_rfl) (fun _ => rfl) hm58 ?_
  intro g71 w72 hst
  refine OA.next ⟨(hst.blkN 0 rfl 0 2), trivial⟩ ?_
  refine OA.pure [9] [(34, .agg [.slice a2 (p0.Maps).length c3, .slice a5 (p0.Code).length c6, .slice (some ⟨g71, 0, none⟩) m57 m57, .slice (some ⟨g69, 0, none⟩) m61 m61, .slice none 0 0].toArray)] (by kernel_rfl) ?_
  refine OA.act (i := 10) [] (by kernel_rfl) rfl rfl (by kernel_rfl) (by kernel_rfl) ?_
  refine OW.box hst rfl rfl rfl rfl [.slice a2 (p0.Maps).length c3, .slice a5 (p0.Code).length c6, .slice (some ⟨g71, 0, none⟩) m57 m57, .slice (some ⟨g69, 0, none⟩) m61 m61, .slice none 0 0] rfl ?_
  intro b73 w74 hst
  refine OA.next trivial ?_
  refine OA.act (i := 11) [] (by kernel_rfl) rfl rfl (by kernel_rfl) (by kernel_rfl) ?_
  refine pu 1 [(7, Pt b73)] (OA.next trivial ?_)
  refine OA.fin (by kernel_rfl) (by kernel_rfl) ?_
  have hst := hst.borIn h0_0
  have hst := hst.borIn h0_1
  have hst := hst.nilRow api_Loop 138 enc_api_Loop 3
  have hst := hst.toIt 2 rfl (fun _ => rfl) (by decide)
  have hst := hst.toIt 1 rfl (fun _ => rfl) (by decide)
  have hst := hst.toIt 6 rfl (fun _ => rfl) (by decide)
  obtain ⟨S75, hst⟩ := hst.shutP5 (R_t109 wb Sb) rfl 3 4 5 2 1 6 [0] rfl rfl rfl rfl rfl rfl rfl (judge_judge.mk p0 (List.replicate m57 (fun _ => (api_Type.mk 0 (api_Span.mk 0 0) 0))) (List.replicate m61 false) ([] : List api_Loop)) rfl rfl
  obtain rfl := inj ho54
  exact QW.meet (fun a ha => ⟨b73, S75, ha.ag, hst.keep [0, 1] rfl⟩)
 rintro a w1 ⟨b51, S52, ha, hst⟩
 refine CW.go ?_ ha
 refine CW.seq ?_
 obtain ⟨v76, S77, v78, S79, v80, S81, v82, S83, v84, S85, hst⟩ := hst.openQ5 1 rfl rfl rfl rfl rfl rfl
 have hbo86 := hst.borOut 2 rfl
 have hbr87 := hbo86.bor hb
 have hbo88 := hst.borOut 3 rfl
 have hbr89 := hbo88.bor hb
 have hst := hst.toRow1 4 rfl
 have hst := hst.toRow1 5 rfl
 have hst := hst.toRow1 6 rfl
 have hst := hst.keep [0, 1, 4, 5, 6] rfl
 obtain ⟨l90, a91, c92, rfl⟩ := hbr87.len
 obtain ⟨l93, a94, c95, rfl⟩ := hbr89.len
 obtain ⟨l96, a97, c98, rfl⟩ := hst.len 2 rfl
 obtain ⟨l99, a100, c101, rfl⟩ := hst.len 3 rfl
 obtain ⟨l102, a103, c104, rfl⟩ := hst.len 4 rfl
 have hst : St _ _ _ [_, blkI b51 109 [.slice a91 (o53.Module.Maps).length c92, .slice a94 (o53.Module.Code).length c95, .slice a97 (o53.came).length c98, .slice a100 (o53.any).length c101, .slice a103 (o53.loops).length c104], _, _, _] := hst
 refine CW.region ?_
 refine pu 2 [(37, Pt b51), (38, .pointer (some ⟨b9, 1, none⟩))] ?_
 refine OW.ld rfl rfl rfl rfl (by kernel_rfl) (hst.blk 0 rfl rfl) ?_
 obtain ⟨r114, hr115, hF⟩ := bs hF
 refine OW.fn rfl rfl rfl rfl (by kernel_rfl) (flow_Loops_ok _ (.slice a5 (p0.Code).length c6) p0.Code r114 hr115 (hst.part [] rfl) (h0_1b.give hst []) (hT0.give hst [])) ?_
 rintro e w116 ⟨v118, rfl, hst117⟩
 refine ⟨_, rfl, ?_⟩
 have hst := hst.join (idx := []) (rest := [0, 1, 2, 3, 4]) rfl hst117
 obtain ⟨l119, a120, c121, rfl⟩ := hst.len 0 rfl
 refine pu 5 [(41, .slice a120 (r114.1).length c121), (44, .pointer (some ⟨b51, 4, none⟩))] ?_
 refine OW.stB hst 2 rfl rfl rfl rfl rfl (by kernel_rfl) rfl rfl [.slice a91 (o53.Module.Maps).length c92, .slice a94 (o53.Module.Code).length c95, .slice a97 (o53.came).length c98, .slice a100 (o53.any).length c101, .slice a120 (r114.1).length c121] rfl ?_
 intro w122 hst
 refine nx (rg ?_)
 refine pu 3 [(47, .pointer (some ⟨b51, 3, none⟩))] ?_
 refine OW.ld rfl rfl rfl rfl (by kernel_rfl) (hst.blk 2 rfl rfl) ?_
 obtain ⟨x130, hx131, hF⟩ := bs hF
 obtain ⟨g133, o134, c135, hv132⟩ := hst.rowv 4 rfl hx131
 refine OW.idx 4 1 rfl rfl rfl rfl hv132 rfl (idx_some hx131).1 (idx_some hx131).2.1 (by kernel_rfl) (by kernel_rfl) ?_
 refine OW.stR hst 4 rfl hv132 (fun _ => rfl) rfl rfl hx131 0 rfl rfl rfl (by kernel_rfl) rfl rfl true rfl ?_
 intro w136 hst
 refine nx (CW.seq (rg ?_))
 refine pu 1 [(50, .pointer (some ⟨b9, 1, none⟩))] ?_
 refine OW.ld rfl rfl rfl rfl (by kernel_rfl) (hst.blk 1 rfl rfl) ?_
 refine pu 2 [(52, I ((p0.Code).length : Int)), (53, I 0)] (nx ?_)
 obtain ⟨o397, ho398, hF⟩ := bs hF
 refine CW.cutK (fun a w1 => ∃ (t399 : judge_judge) (S396 : List Nat), o397 = .inl t399 ∧ Rep 83 [(7, Pt b51)] a ∧ St w (fp []) w1 [itI (R_t83 wb Sb) [Pt b51] S396 t399]) ?_ ?_
 ·refine CW.block ?_
  have hst := hst.borIn hbo86
  have hst := hst.borIn hbo88
  have hst := hst.toIt 3 rfl (fun _ => rfl) (by decide)
  have hst := hst.toIt 4 rfl (fun _ => rfl) (by decide)
  have hst := hst.toIt 0 rfl (fun _ => rfl) (by decide)
  obtain ⟨S400, hst⟩ := hst.shutP5 (R_t109 wb Sb) rfl 2 6 7 3 4 0 [1, 5] rfl rfl rfl rfl rfl rfl rfl (judge_judge.mk o53.Module o53.came (o53.any.set (Int.toNat 0) true) r114.1) rfl rfl
  refine CW.loop (fun n a w1 => ∃ (i574 : Nat) (s572 : judge_judge) (S573 : List Nat), i574 + n = (p0.Code).length ∧ Rep 83 [(7, Pt b51), (52, I ((p0.Code).length : Int)), (53, I (i574 : Int))] a ∧ St w (fp []) w1 [itI (R_t83 wb Sb) [Pt b51] S573 s572] ∧ forN (judge_judged_l1 fu) (fun (s572 : judge_judge) => (.inl s572)) n i574 s572 = some o397) (p0.Code).length (fun a ha => ⟨0, (judge_judge.mk o53.Module o53.came (o53.any.set (Int.toNat 0) true) r114.1), S400, Nat.zero_add _, ha.ag, hst.keep [2] rfl, ho398⟩) ?_
  rintro n570 a w1 ⟨i574, s572, S573, hi575, ha, hst, hl571⟩
  refine CW.go ?_ ha
  refine rg ?_
  refine pu 1 [(54, .bool (decide ((i574 : Int) < ((p0.Code).length : Int))))] (nx (CW.seq ?_))
  rcases bft (decide ((i574 : Int) < ((p0.Code).length : Int))) with hc576 | hc576
  ·rcases n570 with _ | n570
   ·exact (cnt0 hi575 hc576).elim
   refine CW.cond_t rfl hc576 (CW.skip (QW.next (CW.seq (CW.block (rg ?_)))))
   refine pu 2 [(8, I (i574 : Int))] (nx (CW.seq (CW.seq ?_)))
   obtain ⟨v577, S578, v579, S580, v581, S582, v583, S584, v585, S586, hst⟩ := hst.openQ5 0 rfl rfl rfl rfl rfl rfl
   have hbo587 := hst.borOut 1 rfl
   have hbr588 := hbo587.bor hb
   have hbo589 := hst.borOut 2 rfl
   have hbr590 := hbo589.bor hb
   have hst := hst.toRow1 3 rfl
   have hst := hst.toRow1 4 rfl
   have hst := hst.toRow1 5 rfl
   have hst := hst.keep [0, 3, 4, 5] rfl
   obtain ⟨l591, a592, c593, rfl⟩ := hbr588.len
   obtain ⟨l594, a595, c596, rfl⟩ := hbr590.len
   obtain ⟨l597, a598, c599, rfl⟩ := hst.len 1 rfl
   obtain ⟨l600, a601, c602, rfl⟩ := hst.len 2 rfl
   obtain ⟨l603, a604, c605, rfl⟩ := hst.len 3 rfl
   have hst : St _ _ _ [blkI b51 109 [.slice a592 (s572.Module.Maps).length c593, .slice a595 (s572.Module.Code).length c596, .slice a598 (s572.came).length c599, .slice a601 (s572.any).length c602, .slice a604 (s572.loops).length c605], _, _, _] := hst
   refine CW.region ?_
   refine pu 3 [(58, .pointer (some ⟨b51, 3, none⟩))] ?_
   refine OW.ld rfl rfl rfl rfl (by kernel_rfl) (hst.blk 0 rfl rfl) ?_
   refine pu 1 [(60, I (i574 : Int))] ?_
   obtain ⟨x612, hx613, hl571⟩ := bs hl571
   obtain ⟨g615, o616, c617, hv614⟩ := hst.rowv 2 rfl hx613
   refine OW.idx 4 1 rfl rfl rfl rfl hv614 rfl (idx_some hx613).1 (idx_some hx613).2.1 (by kernel_rfl) (by kernel_rfl) ?_
   refine OW.ld rfl rfl rfl rfl (by kernel_rfl) (hst.rowc 2 rfl (fun _ => rfl) hx613 hv614 0 _ rfl) ?_
   refine pu 1 [(63, .bool (!x612))] (nx ?_)
   refine br ((!x612)) hl571 (fun hl571 hc618 => ?_) (fun hl571 hc618 => ?_)
   ·refine CW.exit (QW.then_exit ?_)
    refine QW.block_here (QW.next (CW.region ?_))
    refine pu 2 [(53, I (w64 ((i574 : Int) + 1)))] (OW.nil rfl ?_)
    have hst := hst.borIn hbo587
    have hst := hst.borIn hbo589
    have hst := hst.toIt 1 rfl (fun _ => rfl) (by decide)
    have hst := hst.toIt 2 rfl (fun _ => rfl) (by decide)
    have hst := hst.toIt 3 rfl (fun _ => rfl) (by decide)
    obtain ⟨S619, hst⟩ := hst.shutP5 (R_t109 wb Sb) rfl 0 4 5 1 2 3 [] rfl rfl rfl rfl rfl rfl rfl s572 rfl rfl
    refine QW.say 53 rfl (congrArg (Value.int .i64) (w64_cnt hc576 l4)) ?_
    exact QW.meet (fun a ha => ⟨n570, Nat.lt_succ_self _, i574 + 1, s572, S619, cnt_next hi575, ha.ag, hst.keep [0] rfl, hl571⟩)
   refine CW.skip (QW.next (rg ?_))
   refine pu 2 [(64, Pt b51), (65, I (i574 : Int))] ?_
   have hst := hst.borIn hbo587
   have hst := hst.borIn hbo589
   have hst := hst.toIt 1 rfl (fun _ => rfl) (by decide)
   have hst := hst.toIt 2 rfl (fun _ => rfl) (by decide)
   have hst := hst.toIt 3 rfl (fun _ => rfl) (by decide)
   obtain ⟨S626, hst⟩ := hst.shutP5 (R_t109 wb Sb) rfl 0 4 5 1 2 3 [] rfl rfl rfl rfl rfl rfl rfl s572 rfl rfl
   obtain ⟨r627, hr628, hl571⟩ := bs hl571
   refine OW.fn rfl rfl rfl rfl (by kernel_rfl) (judge_judge_widen_ok _ wb Sb (Pt b51) S626 s572 (i574 : Int) r627 hr628 (hst.part [0] rfl) (hb.on hst [0]) (hT0.give hst [0])) ?_
   rintro e w629 ⟨S631, rfl, hst630⟩
   refine ⟨_, rfl, ?_⟩
   have hst := hst.join (idx := [0]) (rest := []) rfl hst630
   refine nx (rg ?_)
   refine pu 2 [(68, Pt b51), (69, I (i574 : Int))] ?_
   obtain ⟨r640, hr641, hl571⟩ := bs hl571
   refine OW.fn rfl rfl rfl rfl (by kernel_rfl) (judge_judge_one_ok _ wb Sb fu (Pt b51) S631 r627 (i574 : Int) r640 hr641 (hst.part [0] rfl) (hb.on hst [0]) (hT0.give hst [0]) (hT1.give hst [0])) ?_
   rintro e w642 ⟨S644, rfl, hst643⟩
   refine ⟨_, rfl, ?_⟩
   have hst := hst.join (idx := [0]) (rest := []) rfl hst643
   refine pu 3 [(71, .agg (arrC (enc_api_Type) 8 r640.1).toArray), (72, I r640.2)] ?_
   refine OW.alloc hst rfl rfl rfl [I 0, U 0, U 0, I 0, I 0, U 0, U 0, I 0, I 0, U 0, U 0, I 0, I 0, U 0, U 0, I 0, I 0, U 0, U 0, I 0, I 0, U 0, U 0, I 0, I 0, U 0, U 0, I 0, I 0, U 0, U 0, I 0] (by kernel_rfl) ?_
   intro b645 w646 hst
   refine OW.stB hst 1 rfl rfl rfl rfl rfl (by kernel_rfl) rfl rfl (arrC (enc_api_Type) 8 r640.1) rfl ?_
   intro w647 hst
   refine pu 1 [(10, I r640.2)] (nx (CW.seq (rg ?_)))
   refine pu 2 [(74, .bool (r640.2 != 0))] (nx ?_)
   refine br ((r640.2 != 0)) hl571 (fun hl571 hc648 => ?_) (fun hl571 hc648 => ?_)
   ·refine rg ?_
    refine pu 5 [(2, .pointer none), (3, I (i574 : Int)), (4, I r640.2)] (nx (CW.ret (QW.then_ret (QW.block_ret (QW.then_ret (QW.then_ret (QW.block_ret (QW.then_ret ?_))))))))
    obtain rfl := inj hl571
    obtain rfl := inj hF
    refine QW.ret3 rfl rfl rfl rfl ?_
    exact .inr ⟨rfl, rfl, hst.keep [] rfl⟩
   refine CW.skip (QW.next (CW.region ?_))
   refine pu 2 [(77, Pt b51), (78, I (i574 : Int))] ?_
   refine OW.ldN (cs := (arrC (enc_api_Type) 8 r640.1)) rfl rfl rfl rfl (by kernel_rfl) (by kernel_rfl) (hst.blkN 1 rfl 0 32) ?_
   obtain ⟨r654, hr655, hl571⟩ := bs hl571
   refine OW.fn rfl rfl rfl rfl (by kernel_rfl) (judge_judge_ways_ok _ wb Sb (Pt b51) S644 r627 (i574 : Int) r640.1 r654 hr655 (hst.part [0] rfl) (hb.on hst [0]) (hT0.give hst [0])) ?_
   rintro e w656 ⟨S658, rfl, hst657⟩
   refine ⟨_, rfl, ?_⟩
   have hst := hst.join (idx := [0]) (rest := [1]) rfl hst657
   refine OW.nil rfl (QW.block_normal (QW.next (CW.region ?_)))
   refine pu 2 [(53, I (w64 ((i574 : Int) + 1)))] (OW.nil rfl ?_)
   refine QW.say 53 rfl (congrArg (Value.int .i64) (w64_cnt hc576 l4)) ?_
   exact QW.meet (fun a ha => ⟨n570, Nat.lt_succ_self _, i574 + 1, r654, S658, cnt_next hi575, ha.ag, hst.keep [0] rfl, hl571⟩)
  rcases n570 with _ | n570
  ·refine CW.cond_f rfl hc576 ?_
   refine CW.exit (QW.then_exit (QW.then_exit ?_))
   refine QW.block_here ?_
   obtain rfl := inj hl571
   exact QW.meet (fun a ha => ⟨s572, S573, rfl, ha.ag, hst.keep [0] rfl⟩)
  exact (cnt1 hi575 hc576).elim
 rintro a w1 ⟨t399, S396, rfl, ha, hst⟩
 refine CW.go ?_ ha
 refine rg ?_
 refine pu 4 [(2, Pt b51), (3, I 0), (4, I 0)] (nx (CW.ret ?_))
 obtain rfl := inj hF
 refine QW.ret3 rfl rfl rfl rfl ?_
 exact .inl ⟨_, (Pt b51), S396, rfl, rfl, hst.keep [0] rfl⟩
theorem judge_Judge_ok (w : World) (wb : World) (Sb : List Nat) (fu : Nat) (v0_0 : Value) (v0_1 : Value) (p0 : api_Module) (r : Int × Int) (hF : judge_Judge fu p0 = some r)
    (hst : St w (fp []) w []) (hb : Bor wb Sb w (fp [])) (h0_0 : Rd wb Sb v0_0 (encInt .i64) 1 p0.Maps) (h0_1 : Rd wb Sb v0_1 enc_api_Inst 5 p0.Code) (hT0 : Rd w (fp []) (.slice (some ⟨0, 0, none⟩) 23 23) enc_ops_form 2 tab_g0) (hT1 : Rd w (fp []) (.slice (some ⟨1, 0, none⟩) 7 7) enc_sigs_sig 5 tab_g1) :
    Calls Tryd.prog 11 [.agg [v0_0, v0_1].toArray].toArray w (fun e w' => e = .returned (.tuple #[I r.1, I r.2]) ∧ St w (fp []) w' []) := by
 refine CW.start (N := 15) Tryd.func11 rfl rfl rfl ?_
 have h0_0b := h0_0.bor hb
 have h0_1b := h0_1.bor hb
 obtain ⟨l1, a2, c3, rfl⟩ := h0_0b.len
 obtain ⟨l4, a5, c6, rfl⟩ := h0_1b.len
 refine rg ?_
 refine OW.box hst rfl rfl rfl rfl [.slice a2 (p0.Maps).length c3, .slice a5 (p0.Code).length c6] rfl ?_
 intro b9 w10 hst
 refine pu 2 [] (nx (rg ?_))
 refine OW.ldN (cs := [.slice a2 (p0.Maps).length c3, .slice a5 (p0.Code).length c6]) rfl rfl rfl rfl (by kernel_rfl) (by kernel_rfl) (hst.blkN 0 rfl 0 2) ?_
 obtain ⟨r21, hr22, hF⟩ := bs hF
 refine OW.fn rfl rfl rfl rfl (by kernel_rfl) (judge_judged_ok _ wb Sb fu (.slice a2 (p0.Maps).length c3) (.slice a5 (p0.Code).length c6) p0 r21 hr22 (hst.part [] rfl) (hb.on hst []) h0_0 h0_1 (hT0.give hst []) (hT1.give hst [])) ?_
 rintro e w23 (⟨k25, v27, S28, he26, rfl, hst24⟩ | ⟨he29, rfl, hst24⟩)
 ·have hF := ocase_some hF he26
  refine ⟨_, rfl, ?_⟩
  have hst := hst.join (idx := []) (rest := [0]) rfl hst24
  obtain ⟨b30, rfl⟩ := hst.fptr 0 rfl
  refine pu 7 [(5, I r21.2.1), (6, I r21.2.2)] (nx (rg ?_))
  refine pu 4 [(2, I r21.2.1), (3, I r21.2.2)] (nx (CW.ret ?_))
  obtain rfl := inj hF
  refine QW.ret2 rfl rfl rfl ?_
  exact ⟨rfl, hst.keep [] rfl⟩
 have hF := ocase_none hF he29
 refine ⟨_, rfl, ?_⟩
 have hst := hst.join (idx := []) (rest := [0]) rfl hst24
 refine pu 7 [(5, I r21.2.1), (6, I r21.2.2)] (nx (rg ?_))
 refine pu 4 [(2, I r21.2.1), (3, I r21.2.2)] (nx (CW.ret ?_))
 obtain rfl := inj hF
 refine QW.ret2 rfl rfl rfl ?_
 exact ⟨rfl, hst.keep [] rfl⟩
theorem scratch_Words_Wipe_ok (w : World) (b0 : Nat) (T0 : TypeId) (A0 C0 : List Value) (p0 : scratch_Words) (r : scratch_Words) (hF : scratch_Words_Wipe p0 = some r)
    (hst : St w (fp [partI b0 T0 A0 [U (p0.words 0), U (p0.words 1), U (p0.words 2), U (p0.words 3), U (p0.words 4), U (p0.words 5), U (p0.words 6), U (p0.words 7), U (p0.words 8), U (p0.words 9), U (p0.words 10), U (p0.words 11), U (p0.words 12), U (p0.words 13), U (p0.words 14), U (p0.words 15)] C0]) w [partI b0 T0 A0 [U (p0.words 0), U (p0.words 1), U (p0.words 2), U (p0.words 3), U (p0.words 4), U (p0.words 5), U (p0.words 6), U (p0.words 7), U (p0.words 8), U (p0.words 9), U (p0.words 10), U (p0.words 11), U (p0.words 12), U (p0.words 13), U (p0.words 14), U (p0.words 15)] C0]) :
    Calls Tryd.prog 36 [.pointer (some ⟨b0, A0.length + 0, none⟩)].toArray w (fun e w' => e = .returned (.tuple #[]) ∧ St w (fp [partI b0 T0 A0 [U (p0.words 0), U (p0.words 1), U (p0.words 2), U (p0.words 3), U (p0.words 4), U (p0.words 5), U (p0.words 6), U (p0.words 7), U (p0.words 8), U (p0.words 9), U (p0.words 10), U (p0.words 11), U (p0.words 12), U (p0.words 13), U (p0.words 14), U (p0.words 15)] C0]) w' [partI b0 T0 A0 [U (r.words 0), U (r.words 1), U (r.words 2), U (r.words 3), U (r.words 4), U (r.words 5), U (r.words 6), U (r.words 7), U (r.words 8), U (r.words 9), U (r.words 10), U (r.words 11), U (r.words 12), U (r.words 13), U (r.words 14), U (r.words 15)] C0]) := by
 refine CW.start (N := 6) Tryd.func36 rfl rfl rfl (CW.region ?_)
 refine pu 3 [(4, .pointer (some ⟨b0, A0.length + 0, none⟩))] ?_
 refine OW.op (v := .slice (some ⟨b0, A0.length + 0, none⟩) 16 16) rfl rfl rfl rfl (fun a ha => asl_all (e := 22) 1 rfl rfl (by kernel_rfl) (by kernel_rfl) a _ ha) ?_
 refine OW.clearP (e := 22) (z := U 0) hst 0 rfl rfl rfl 0 (n := 15) rfl rfl (by kernel_rfl) (by kernel_rfl) [U 0, U 0, U 0, U 0, U 0, U 0, U 0, U 0, U 0, U 0, U 0, U 0, U 0, U 0, U 0, U 0] (by kernel_rfl) rfl rfl [U 0, U 0, U 0, U 0, U 0, U 0, U 0, U 0, U 0, U 0, U 0, U 0, U 0, U 0, U 0, U 0] rfl ?_
 intro w2 hst
 refine OW.nil rfl ?_
 obtain rfl := inj hF
 refine QW.end0 rfl ?_
 exact ⟨rfl, hst.keep [0] rfl⟩
theorem slices_Clone_int_int_ok (w : World) (v0 : Value) (p0 : List Int) (r : (List Int)) (hF : slices_Clone_int_int p0 = some r)
    (hst : St w (fp []) w []) (h0 : Rd w (fp []) v0 (encInt .i64) 1 p0) :
    Calls Tryd.prog 37 [v0].toArray w (fun e w' => ∃ (x0 : Value), e = .returned (x0) ∧ St w (fp []) w' [rowI x0 3 (encInt .i64) 1 r]) := by
 refine CW.start (N := 8) Tryd.func37 rfl rfl rfl ?_
 obtain ⟨l1, a2, c3, rfl⟩ := h0.len
 refine rg ?_
 refine pu 1 [] (nx (CW.seq (rg ?_)))
 refine pu 1 [(3, .slice a2 (p0).length c3)] ?_
 refine OW.op (v := .bool (a2).isNone) rfl rfl rfl rfl (fun a ha => snil_run (e := 3) rfl rfl rfl (by kernel_rfl) a _ ha) (nx ?_)
 rcases bft ((a2).isNone) with hc4 | hc4
 ·have hn5 := h0.isnil (fun _ => ⟨_, rfl⟩) hc4
  have hF : some ([] : List Int) = some r := by rw [hn5] at hF; exact hF
  refine CW.cond_t rfl hc4 (rg ?_)
  refine pu 1 [(2, .slice none 0 0)] (nx (CW.ret (QW.then_ret ?_)))
  have hst := hst.nilRow Int 3 (encInt .i64) 1
  obtain rfl := inj hF
  refine QW.ret1 rfl rfl ?_
  exact ⟨(.slice none 0 0), rfl, hst.keep [0] rfl⟩
 refine CW.cond_f rfl hc4 (CW.skip (QW.next (rg ?_)))
 refine OW.row (α := Int) (e := 3) (enc := encInt .i64) (sz := 1) hst rfl rfl rfl [] rfl (fun _ => rfl) rfl rfl (fun _ => by kernel_rfl) ?_
 intro g15 w16 hst
 refine pu 1 [(6, .slice a2 (p0).length c3)] ?_
 obtain ⟨u17, hr18, hF⟩ := bs hF
 refine OW.app hst 0 rfl (fun _ => rfl) (fun _ => rfl) rfl rfl rfl rfl rfl rfl (by kernel_rfl) el3 (h0.on hst) (room_le hr18) ?_
 intro v19 w20 hst
 obtain ⟨l21, a22, c23, rfl⟩ := hst.len 0 rfl
 refine pu 1 [(2, .slice a22 ((([] : List Int) ++ p0)).length c23)] (nx (CW.ret ?_))
 obtain rfl := inj hF
 refine QW.ret1 rfl rfl ?_
 exact ⟨(.slice a22 ((([] : List Int) ++ p0)).length c23), rfl, hst.keep [0] rfl⟩
theorem slices_Clone_tappet_api_Inst_tappet_api_Inst_ok (w : World) (v0 : Value) (p0 : List api_Inst) (r : (List api_Inst)) (hF : slices_Clone_tappet_api_Inst_tappet_api_Inst p0 = some r)
    (hst : St w (fp []) w []) (h0 : Rd w (fp []) v0 enc_api_Inst 5 p0) :
    Calls Tryd.prog 38 [v0].toArray w (fun e w' => ∃ (x0 : Value), e = .returned (x0) ∧ St w (fp []) w' [rowI x0 76 enc_api_Inst 5 r]) := by
 refine CW.start (N := 8) Tryd.func38 rfl rfl rfl ?_
 obtain ⟨l1, a2, c3, rfl⟩ := h0.len
 refine rg ?_
 refine pu 1 [] (nx (CW.seq (rg ?_)))
 refine pu 1 [(3, .slice a2 (p0).length c3)] ?_
 refine OW.op (v := .bool (a2).isNone) rfl rfl rfl rfl (fun a ha => snil_run (e := 76) rfl rfl rfl (by kernel_rfl) a _ ha) (nx ?_)
 rcases bft ((a2).isNone) with hc4 | hc4
 ·have hn5 := h0.isnil (fun _ => ⟨_, rfl⟩) hc4
  have hF : some ([] : List api_Inst) = some r := by rw [hn5] at hF; exact hF
  refine CW.cond_t rfl hc4 (rg ?_)
  refine pu 1 [(2, .slice none 0 0)] (nx (CW.ret (QW.then_ret ?_)))
  have hst := hst.nilRow api_Inst 76 enc_api_Inst 5
  obtain rfl := inj hF
  refine QW.ret1 rfl rfl ?_
  exact ⟨(.slice none 0 0), rfl, hst.keep [0] rfl⟩
 refine CW.cond_f rfl hc4 (CW.skip (QW.next (rg ?_)))
 refine OW.row (α := api_Inst) (e := 76) (enc := enc_api_Inst) (sz := 5) hst rfl rfl rfl [] rfl (fun _ => rfl) rfl rfl (fun _ => by kernel_rfl) ?_
 intro g15 w16 hst
 refine pu 1 [(6, .slice a2 (p0).length c3)] ?_
 obtain ⟨u17, hr18, hF⟩ := bs hF
 refine OW.app hst 0 rfl (fun _ => rfl) (fun _ => rfl) rfl rfl rfl rfl rfl rfl (by kernel_rfl) el76 (h0.on hst) (room_le hr18) ?_
 intro v19 w20 hst
 obtain ⟨l21, a22, c23, rfl⟩ := hst.len 0 rfl
 refine pu 1 [(2, .slice a22 ((([] : List api_Inst) ++ p0)).length c23)] (nx (CW.ret ?_))
 obtain rfl := inj hF
 refine QW.ret1 rfl rfl ?_
 exact ⟨(.slice a22 ((([] : List api_Inst) ++ p0)).length c23), rfl, hst.keep [0] rfl⟩
theorem engine_New_ok (w : World) (fu : Nat) (v0_0 : Value) (v0_1 : Value) (p0 : api_Module) (p1 : api_Event) (v2 : Value) (S2 : List Nat) (p2 : scratch_Scratch) (r : (Option engine_Machine) × Int × scratch_Scratch) (hF : engine_New fu p0 p1 p2 = some r)
    (hst : St w (fp [itI R_t67 [v2] S2 p2]) w [itI R_t67 [v2] S2 p2]) (h0_0 : Rd w (fp [itI R_t67 [v2] S2 p2]) v0_0 (encInt .i64) 1 p0.Maps) (h0_1 : Rd w (fp [itI R_t67 [v2] S2 p2]) v0_1 enc_api_Inst 5 p0.Code) (hT0 : Rd w (fp [itI R_t67 [v2] S2 p2]) (.slice (some ⟨0, 0, none⟩) 23 23) enc_ops_form 2 tab_g0) (hT1 : Rd w (fp [itI R_t67 [v2] S2 p2]) (.slice (some ⟨1, 0, none⟩) 7 7) enc_sigs_sig 5 tab_g1) :
    Calls Tryd.prog 22 [.agg [v0_0, v0_1].toArray, .agg [U p1.A, U p1.B].toArray, v2].toArray w (fun e w' => (∃ (s2 : List Nat) (k0 : engine_Machine) (y0 : Value) (z0 : List Nat), r.1 = some k0 ∧ e = .returned (.tuple #[y0, I r.2.1]) ∧ St w (fp [itI R_t67 [v2] S2 p2]) w' [itI R_t67 [v2] s2 r.2.2, itI (R_t69 v2) [y0] z0 k0]) ∨ (∃ (s2 : List Nat), r.1 = none ∧ e = .returned (.tuple #[.pointer none, I r.2.1]) ∧ St w (fp [itI R_t67 [v2] S2 p2]) w' [itI R_t67 [v2] s2 r.2.2])) := by
 refine CW.start (N := 35) Tryd.func22 rfl rfl rfl ?_
 obtain ⟨l1, a2, c3, rfl⟩ := h0_0.len
 obtain ⟨l4, a5, c6, rfl⟩ := h0_1.len
 obtain ⟨b7, rfl⟩ := hst.fptr 0 rfl
 refine rg ?_
 refine OW.box hst rfl rfl rfl rfl [.slice a2 (p0.Maps).length c3, .slice a5 (p0.Code).length c6] rfl ?_
 intro b12 w13 hst
 refine OW.box hst rfl rfl rfl rfl [U p1.A, U p1.B] rfl ?_
 intro b14 w15 hst
 refine pu 2 [] (nx (CW.seq (rg ?_)))
 refine pu 2 [(11, .bool false)] (nx (CW.cond_f rfl rfl (CW.skip (QW.next (CW.seq (rg ?_))))))
 refine OW.ldN (cs := [.slice a2 (p0.Maps).length c3, .slice a5 (p0.Code).length c6]) rfl rfl rfl rfl (by kernel_rfl) (by kernel_rfl) (hst.blkN 1 rfl 0 2) ?_
 obtain ⟨r20, hr21, hF⟩ := bs hF
 refine OW.fn rfl rfl rfl rfl (by kernel_rfl) (judge_Judge_ok _ _ _ fu (.slice a2 (p0.Maps).length c3) (.slice a5 (p0.Code).length c6) p0 r20 hr21 (hst.part [] rfl) (Bor.refl _ _) (h0_0.give hst []) (h0_1.give hst []) (hT0.give hst []) (hT1.give hst [])) ?_
 rintro e w22 ⟨rfl, hst23⟩
 refine ⟨_, rfl, ?_⟩
 have hst := hst.join (idx := []) (rest := [0, 1, 2]) rfl hst23
 refine pu 5 [(9, I r20.2)] (nx (rg ?_))
 refine pu 2 [(18, .bool (r20.2 != 0))] (nx ?_)
 refine br ((r20.2 != 0)) hF (fun hF hc24 => ?_) (fun hF hc24 => ?_)
 ·refine rg ?_
  refine pu 3 [(6, .pointer none), (7, I r20.2)] (nx (CW.ret (QW.then_ret ?_)))
  obtain rfl := inj hF
  refine QW.ret2 rfl rfl rfl ?_
  exact .inr ⟨S2, rfl, rfl, hst.keep [0] rfl⟩
 refine CW.skip (QW.next (CW.seq ?_))
 have hst := hst.openQ0 0 rfl
 refine CW.region ?_
 refine pu 3 [(22, Pt b7)] ?_
 obtain ⟨r29, hr30, hF⟩ := bs hF
 refine OW.fn rfl rfl rfl rfl (by kernel_rfl) (scratch_Words_Wipe_ok _ b7 102 [] [U (p2.Counters.counts 0), U (p2.Counters.counts 1), U (p2.Counters.counts 2), U (p2.Counters.counts 3), U (p2.Counters.counts 4), U (p2.Counters.counts 5), U (p2.Counters.counts 6), U (p2.Counters.counts 7), U (p2.Counters.counts 8), U (p2.Counters.counts 9), U (p2.Counters.counts 10), U (p2.Counters.counts 11), U (p2.Counters.counts 12), U (p2.Counters.counts 13), U (p2.Counters.counts 14), U (p2.Counters.counts 15)] p2.Words r29 hr30 (hst.part [0] rfl)) ?_
 rintro e w31 ⟨rfl, hst32⟩
 refine ⟨_, rfl, ?_⟩
 have hst := hst.join (idx := [0]) (rest := [1, 2]) rfl hst32
 have hst : St _ _ _ [blkI b7 102 [U (r29.words 0), U (r29.words 1), U (r29.words 2), U (r29.words 3), U (r29.words 4), U (r29.words 5), U (r29.words 6), U (r29.words 7), U (r29.words 8), U (r29.words 9), U (r29.words 10), U (r29.words 11), U (r29.words 12), U (r29.words 13), U (r29.words 14), U (r29.words 15), U (p2.Counters.counts 0), U (p2.Counters.counts 1), U (p2.Counters.counts 2), U (p2.Counters.counts 3), U (p2.Counters.counts 4), U (p2.Counters.counts 5), U (p2.Counters.counts 6), U (p2.Counters.counts 7), U (p2.Counters.counts 8), U (p2.Counters.counts 9), U (p2.Counters.counts 10), U (p2.Counters.counts 11), U (p2.Counters.counts 12), U (p2.Counters.counts 13), U (p2.Counters.counts 14), U (p2.Counters.counts 15)], _, _] := hst
 refine nx (CW.seq ?_)
 refine CW.plan (by kernel_rfl) ?_
 intro w53 hch54
 have hst := hst.same hch54
 refine OA.ldN (i := 0) (cs := [U p1.A, U p1.B]) rfl (by kernel_rfl) rfl rfl rfl (by kernel_rfl) (by kernel_rfl) (hst.blkN 2 rfl 0 2) ?_
 refine OA.pure [1] [(25, Pt b12)] (by kernel_rfl) ?_
 refine OA.ld (i := 2) rfl (by kernel_rfl) rfl rfl rfl (by kernel_rfl) (hst.blk 1 rfl rfl) ?_
 refine OA.pure [4] [(28, .pointer (some ⟨b12, 1, none⟩))] (by kernel_rfl) ?_
 refine OA.ld (i := 5) rfl (by kernel_rfl) rfl rfl rfl (by kernel_rfl) (hst.blk 1 rfl rfl) ?_
 refine OA.pure [8] [(32, Pt b7)] (by kernel_rfl) ?_
 refine OA.act (i := 3) [5, 0] (by kernel_rfl) rfl rfl (by kernel_rfl) (by kernel_rfl) ?_
 obtain ⟨r55, hr56, hF⟩ := bs hF
 refine OW.fn rfl rfl rfl rfl (by kernel_rfl) (slices_Clone_int_int_ok _ (.slice a2 (p0.Maps).length c3) p0.Maps r55 hr56 (hst.part [] rfl) (h0_0.give hst [])) ?_
 rintro e w57 ⟨v59, rfl, hst58⟩
 refine ⟨_, rfl, ?_⟩
 have hst := hst.join (idx := []) (rest := [0, 1, 2]) rfl hst58
 obtain ⟨l60, a61, c62, rfl⟩ := hst.len 0 rfl
 refine OA.next ⟨(hst.blk 2 rfl rfl), (hst.blkN 3 rfl 0 2), trivial⟩ ?_
 refine OA.act (i := 6) [0] (by kernel_rfl) rfl rfl (by kernel_rfl) (by kernel_rfl) ?_
 obtain ⟨r63, hr64, hF⟩ := bs hF
 refine OW.fn rfl rfl rfl rfl (by kernel_rfl) (slices_Clone_tappet_api_Inst_tappet_api_Inst_ok _ (.slice a5 (p0.Code).length c6) p0.Code r63 hr64 (hst.part [] rfl) (h0_1.give hst [])) ?_
 rintro e w65 ⟨v67, rfl, hst66⟩
 refine ⟨_, rfl, ?_⟩
 have hst := hst.join (idx := []) (rest := [0, 1, 2, 3]) rfl hst66
 obtain ⟨l68, a69, c70, rfl⟩ := hst.len 0 rfl
 refine OA.next ⟨(hst.blkN 4 rfl 0 2), trivial⟩ ?_
 refine OA.pure [7, 9] [(33, .agg [U p1.A, U p1.B, .slice a61 (r55).length c62, .slice a69 (r63).length c70, Pt b7, U 0, U 0, U 0, U 0, U 0, U 0, U 0, U 0, I 0, I 0, I 0, I 0, I 0, I 0, I 0, I 0, I 0, I 0, I 0, I 0, I 0, I 0, I 0, I 0, I 0, I 0, I 0, I 0, I 0, I 0, I 0, I 0, I 0, I 0, I 0, I 0, I 0, I 0, I 0, I 0, I 0, I 0, I 0, I 0, I 0, I 0, I 0, I 0, I 0, I 0, I 0, I 0, I 0, I 0, I 0, I 0, I 0, I 0, I 0, I 0, I 0, I 0, I 0, I 0, I 0, I 0, I 0, I 0, I 0, I 0, I 0, I 0, I 0, I 0, I 0].toArray)] (by kernel_rfl) ?_
 refine OA.act (i := 10) [] (by kernel_rfl) rfl rfl (by kernel_rfl) (by kernel_rfl) ?_
 refine OW.box hst rfl rfl rfl rfl [U p1.A, U p1.B, .slice a61 (r55).length c62, .slice a69 (r63).length c70, Pt b7, U 0, U 0, U 0, U 0, U 0, U 0, U 0, U 0, I 0, I 0, I 0, I 0, I 0, I 0, I 0, I 0, I 0, I 0, I 0, I 0, I 0, I 0, I 0, I 0, I 0, I 0, I 0, I 0, I 0, I 0, I 0, I 0, I 0, I 0, I 0, I 0, I 0, I 0, I 0, I 0, I 0, I 0, I 0, I 0, I 0, I 0, I 0, I 0, I 0, I 0, I 0, I 0, I 0, I 0, I 0, I 0, I 0, I 0, I 0, I 0, I 0, I 0, I 0, I 0, I 0, I 0, I 0, I 0, I 0, I 0, I 0, I 0, I 0, I 0, I 0] rfl ?_
 intro b71 w72 hst
 refine OA.next trivial ?_
 refine OA.act (i := 11) [] (by kernel_rfl) rfl rfl (by kernel_rfl) (by kernel_rfl) ?_
 refine pu 1 [(6, Pt b71)] (OA.next trivial ?_)
 refine OA.act (i := 12) [] (by kernel_rfl) rfl rfl (by kernel_rfl) (by kernel_rfl) ?_
 refine pu 1 [(7, I 0)] (OA.next trivial ?_)
 refine OA.fin (by kernel_rfl) (by kernel_rfl) (QW.next (CW.ret ?_))
 have hst := hst.shutP0 (enc := enc_scratch_Scratch) (sz := 32) (he := fun _ => rfl) 2 rfl (scratch_Scratch.mk r29 p2.Counters) rfl
 have hst := hst.toIt 1 rfl (fun _ => rfl) (by decide)
 have hst := hst.toIt 0 rfl (fun _ => rfl) (by decide)
 obtain ⟨S73, hst⟩ := hst.shutP2 (R_t129 (Pt b7)) rfl 5 1 0 [2, 3, 4] rfl rfl rfl rfl (engine_Machine.mk p1 (api_Module.mk r55 r63) (fun _ => 0) (fun _ => 0) 0 0 0) rfl rfl
 obtain rfl := inj hF
 refine QW.ret2 rfl rfl rfl ?_
 exact .inl ⟨([b7]), _, (Pt b71), S73, rfl, rfl, hst.keep [0, 3] rfl⟩
theorem worker_Worker_Enter_ok (w : World) (fu : Nat) (v0 : Value) (S0 : List Nat) (p0 : worker_Worker) (p1 : Int) (p2 : Int) (v3_0 : Value) (v3_1 : Value) (p3 : api_Module) (r : Int × worker_Worker) (hF : worker_Worker_Enter fu p0 p1 p2 p3 = some r)
    (hst : St w (fp [itI R_t33 [v0] S0 p0]) w [itI R_t33 [v0] S0 p0]) (h3_0 : Rd w (fp [itI R_t33 [v0] S0 p0]) v3_0 (encInt .i64) 1 p3.Maps) (h3_1 : Rd w (fp [itI R_t33 [v0] S0 p0]) v3_1 enc_api_Inst 5 p3.Code) (hT0 : Rd w (fp [itI R_t33 [v0] S0 p0]) (.slice (some ⟨0, 0, none⟩) 23 23) enc_ops_form 2 tab_g0) (hT1 : Rd w (fp [itI R_t33 [v0] S0 p0]) (.slice (some ⟨1, 0, none⟩) 7 7) enc_sigs_sig 5 tab_g1) :
    Calls Tryd.prog 13 [v0, I p1, I p2, .agg [v3_0, v3_1].toArray].toArray w (fun e w' => ∃ (s0 : List Nat), e = .returned (I r.1) ∧ St w (fp [itI R_t33 [v0] S0 p0]) w' [itI R_t33 [v0] s0 r.2]) := by
 refine CW.start (N := 52) Tryd.func13 rfl rfl rfl ?_
 obtain ⟨l1, a2, c3, rfl⟩ := h3_0.len
 obtain ⟨l4, a5, c6, rfl⟩ := h3_1.len
 obtain ⟨b7, rfl⟩ := hst.fptr 0 rfl
 refine rg ?_
 refine OW.box hst rfl rfl rfl rfl [.slice a2 (p3.Maps).length c3, .slice a5 (p3.Code).length c6] rfl ?_
 intro b10 w11 hst
 refine pu 1 [] (nx (CW.seq (CW.seq ?_)))
 obtain ⟨v12, S13, v14, S15, v16, S17, hst⟩ := hst.openD3 0 rfl rfl rfl rfl
 obtain ⟨b18, rfl⟩ := hst.fptr 2 rfl
 obtain ⟨b19, rfl⟩ := hst.fptr 3 rfl
 have hst : St _ _ _ [blkI b7 73 [Pt b18, Pt b19, I p0.mode_, I p0.job.hook, I p0.job.event.N, U p0.job.event.Event.A, U p0.job.event.Event.B, I p0.job.version, I p0.job.prog, U p0.job.calls, v16], _, _, _, _] := hst
 refine CW.region ?_
 refine pu 3 [(13, .pointer (some ⟨b7, 2, none⟩))] ?_
 refine OW.ld rfl rfl rfl rfl (by kernel_rfl) (hst.blk 0 rfl rfl) ?_
 refine pu 1 [(15, .bool (p0.mode_ != 1))] (nx ?_)
 refine br ((p0.mode_ != 1)) hF (fun hF hc20 => ?_) (fun hF hc20 => ?_)
 ·refine rg ?_
  refine pu 1 [(8, I 41)] (nx (CW.ret (QW.then_ret ?_)))
  obtain ⟨S21, hst⟩ := hst.shutD3 R_t73 rfl 0 2 3 4 [1] rfl rfl rfl rfl rfl p0 rfl rfl
  obtain rfl := inj hF
  refine QW.ret1 rfl rfl ?_
  exact ⟨S21, rfl, hst.keep [1] rfl⟩
 refine CW.skip (QW.next (CW.seq ?_))
 refine CW.plan (by kernel_rfl) ?_
 intro w36 hch37
 have hst := hst.same hch37
 refine OA.ldN (i := 0) (cs := [.slice a2 (p3.Maps).length c3, .slice a5 (p3.Code).length c6]) rfl (by kernel_rfl) rfl rfl rfl (by kernel_rfl) (by kernel_rfl) (hst.blkN 1 rfl 0 2) ?_
 refine OA.pure [1, 2, 3, 4, 5] [(22, .pointer (some ⟨b7, 5, none⟩))] (by kernel_rfl) ?_
 refine OA.ldN (i := 6) (cs := [U p0.job.event.Event.A, U p0.job.event.Event.B]) rfl (by kernel_rfl) rfl rfl rfl (by kernel_rfl) (by kernel_rfl) (hst.blkN 0 rfl 5 2) ?_
 refine OA.pure [7, 8, 9] [(26, Pt b7)] (by kernel_rfl) ?_
 refine OA.ld (i := 10) rfl (by kernel_rfl) rfl rfl rfl (by kernel_rfl) (hst.blk 0 rfl rfl) ?_
 refine OA.act (i := 11) [] (by kernel_rfl) rfl rfl (by kernel_rfl) (by kernel_rfl) ?_
 obtain ⟨r38, hr39, hF⟩ := bs hF
 refine OW.fn rfl rfl rfl rfl (by kernel_rfl) (engine_New_ok _ fu (.slice a2 (p3.Maps).length c3) (.slice a5 (p3.Code).length c6) p3 p0.job.event.Event (Pt b18) S13 p0.Scratch r38 hr39 (hst.part [2] rfl) (h3_0.give hst [2]) (h3_1.give hst [2]) (hT0.give hst [2]) (hT1.give hst [2])) ?_
 rintro e w40 (⟨S42, k43, v45, S46, he44, rfl, hst41⟩ | ⟨S47, he48, rfl, hst41⟩)
 ·have hF := ocase_some hF he44
  refine ⟨_, rfl, ?_⟩
  have hst := hst.join (idx := [2]) (rest := [0, 1, 3, 4]) rfl hst41
  obtain ⟨b49, rfl⟩ := hst.fptr 1 rfl
  refine OA.next trivial ?_
  refine OA.pure [12, 13, 14] [(29, Pt b49), (30, I r38.2.1)] (by kernel_rfl) ?_
  refine OA.act (i := 15) [] (by kernel_rfl) rfl rfl (by kernel_rfl) (by kernel_rfl) ?_
  refine pu 1 [(9, Pt b49)] (OA.next trivial ?_)
  refine OA.act (i := 16) [] (by kernel_rfl) rfl rfl (by kernel_rfl) (by kernel_rfl) ?_
  refine pu 1 [(10, I r38.2.1)] (OA.next trivial ?_)
  refine OA.fin (by kernel_rfl) (by kernel_rfl) (QW.next (CW.seq (rg ?_)))
  refine pu 2 [(32, .bool (r38.2.1 != 0))] (nx ?_)
  refine br ((r38.2.1 != 0)) hF (fun hF hc50 => ?_) (fun hF hc50 => ?_)
  ·refine rg ?_
   refine pu 2 [(8, I r38.2.1)] (nx (CW.ret (QW.then_ret ?_)))
   obtain ⟨S51, hst⟩ := hst.shutD3 R_t73 rfl 2 0 4 5 [1, 3] rfl rfl rfl rfl rfl (worker_Worker.mk r38.2.2 p0.Stats p0.mode_ p0.job) rfl rfl
   obtain rfl := inj hF
   refine QW.ret1 rfl rfl ?_
   exact ⟨S51, rfl, hst.keep [2] rfl⟩
  refine CW.skip (QW.next (rg ?_))
  refine pu 3 [(36, .pointer (some ⟨b7, 2, none⟩))] ?_
  refine OW.stB hst 2 rfl rfl rfl rfl rfl (by kernel_rfl) rfl rfl [Pt b18, Pt b19, I 2, I p0.job.hook, I p0.job.event.N, U p0.job.event.Event.A, U p0.job.event.Event.B, I p0.job.version, I p0.job.prog, U p0.job.calls, v16] rfl ?_
  intro w53 hst
  refine nx (rg ?_)
  refine pu 9 [(38, Pt b7), (39, Pt b7), (40, I p1), (41, I p2), (42, Pt b49), (45, .pointer (some ⟨b7, 7, none⟩))] ?_
  refine OW.stB hst 2 rfl rfl rfl rfl rfl (by kernel_rfl) rfl rfl [Pt b18, Pt b19, I 2, I p0.job.hook, I p0.job.event.N, U p0.job.event.Event.A, U p0.job.event.Event.B, I p1, I p0.job.prog, U p0.job.calls, v16] rfl ?_
  intro w57 hst
  refine pu 3 [(48, .pointer (some ⟨b7, 8, none⟩))] ?_
  refine OW.stB hst 2 rfl rfl rfl rfl rfl (by kernel_rfl) rfl rfl [Pt b18, Pt b19, I 2, I p0.job.hook, I p0.job.event.N, U p0.job.event.Event.A, U p0.job.event.Event.B, I p1, I p2, U p0.job.calls, v16] rfl ?_
  intro w58 hst
  refine pu 3 [(51, .pointer (some ⟨b7, 10, none⟩))] ?_
  refine OW.stB hst 2 rfl rfl rfl rfl rfl (by kernel_rfl) rfl rfl [Pt b18, Pt b19, I 2, I p0.job.hook, I p0.job.event.N, U p0.job.event.Event.A, U p0.job.event.Event.B, I p1, I p2, U p0.job.calls, Pt b49] rfl ?_
  intro w59 hst
  refine nx (rg ?_)
  refine pu 1 [(8, I 0)] (nx (CW.ret ?_))
  have hst := hst.toOpt 1 rfl
  obtain ⟨S60, hst⟩ := hst.shutD3 R_t73 rfl 2 0 4 1 [3, 5] rfl rfl rfl rfl rfl (worker_Worker.mk r38.2.2 p0.Stats 2 (worker_job.mk p0.job.hook p0.job.event p1 p2 p0.job.calls (some k43))) rfl rfl
  obtain rfl := inj hF
  refine QW.ret1 rfl rfl ?_
  exact ⟨S60, rfl, hst.keep [2] rfl⟩
 have hF := ocase_none hF he48
 refine ⟨_, rfl, ?_⟩
 have hst := hst.join (idx := [2]) (rest := [0, 1, 3, 4]) rfl hst41
 refine OA.next trivial ?_
 refine OA.pure [12, 13, 14] [(29, .pointer none), (30, I r38.2.1)] (by kernel_rfl) ?_
 refine OA.act (i := 15) [] (by kernel_rfl) rfl rfl (by kernel_rfl) (by kernel_rfl) ?_
 refine pu 1 [(9, .pointer none)] (OA.next trivial ?_)
 refine OA.act (i := 16) [] (by kernel_rfl) rfl rfl (by kernel_rfl) (by kernel_rfl) ?_
 refine pu 1 [(10, I r38.2.1)] (OA.next trivial ?_)
 refine OA.fin (by kernel_rfl) (by kernel_rfl) (QW.next (CW.seq (rg ?_)))
 refine pu 2 [(32, .bool (r38.2.1 != 0))] (nx ?_)
 refine br ((r38.2.1 != 0)) hF (fun hF hc61 => ?_) (fun hF hc61 => ?_)
 ·refine rg ?_
  refine pu 2 [(8, I r38.2.1)] (nx (CW.ret (QW.then_ret ?_)))
  obtain ⟨S62, hst⟩ := hst.shutD3 R_t73 rfl 1 0 3 4 [2] rfl rfl rfl rfl rfl (worker_Worker.mk r38.2.2 p0.Stats p0.mode_ p0.job) rfl rfl
  obtain rfl := inj hF
  refine QW.ret1 rfl rfl ?_
  exact ⟨S62, rfl, hst.keep [1] rfl⟩
 refine CW.skip (QW.next (rg ?_))
 refine pu 3 [(36, .pointer (some ⟨b7, 2, none⟩))] ?_
 refine OW.stB hst 1 rfl rfl rfl rfl rfl (by kernel_rfl) rfl rfl [Pt b18, Pt b19, I 2, I p0.job.hook, I p0.job.event.N, U p0.job.event.Event.A, U p0.job.event.Event.B, I p0.job.version, I p0.job.prog, U p0.job.calls, v16] rfl ?_
 intro w65 hst
 refine nx (rg ?_)
 refine pu 9 [(38, Pt b7), (39, Pt b7), (40, I p1), (41, I p2), (42, .pointer none), (45, .pointer (some ⟨b7, 7, none⟩))] ?_
 refine OW.stB hst 1 rfl rfl rfl rfl rfl (by kernel_rfl) rfl rfl [Pt b18, Pt b19, I 2, I p0.job.hook, I p0.job.event.N, U p0.job.event.Event.A, U p0.job.event.Event.B, I p1, I p0.job.prog, U p0.job.calls, v16] rfl ?_
 intro w69 hst
 refine pu 3 [(48, .pointer (some ⟨b7, 8, none⟩))] ?_
 refine OW.stB hst 1 rfl rfl rfl rfl rfl (by kernel_rfl) rfl rfl [Pt b18, Pt b19, I 2, I p0.job.hook, I p0.job.event.N, U p0.job.event.Event.A, U p0.job.event.Event.B, I p1, I p2, U p0.job.calls, v16] rfl ?_
 intro w70 hst
 refine pu 3 [(51, .pointer (some ⟨b7, 10, none⟩))] ?_
 refine OW.stB hst 1 rfl rfl rfl rfl rfl (by kernel_rfl) rfl rfl [Pt b18, Pt b19, I 2, I p0.job.hook, I p0.job.event.N, U p0.job.event.Event.A, U p0.job.event.Event.B, I p1, I p2, U p0.job.calls, .pointer none] rfl ?_
 intro w71 hst
 refine nx (rg ?_)
 refine pu 1 [(8, I 0)] (nx (CW.ret ?_))
 have hst := hst.optNil 129 (R_t129 (Pt b18))
 obtain ⟨S72, hst⟩ := hst.shutD3 R_t73 rfl 1 0 3 5 [2, 4] rfl rfl rfl rfl rfl (worker_Worker.mk r38.2.2 p0.Stats 2 (worker_job.mk p0.job.hook p0.job.event p1 p2 p0.job.calls none)) rfl rfl
 obtain rfl := inj hF
 refine QW.ret1 rfl rfl ?_
 exact ⟨S72, rfl, hst.keep [2] rfl⟩
theorem sigs_Asks_ok (w : World) (p0 : Int) (r : Int × Bool) (hF : sigs_Asks p0 = some r)
    (hst : St w (fp []) w []) (hT1 : Rd w (fp []) (.slice (some ⟨1, 0, none⟩) 7 7) enc_sigs_sig 5 tab_g1) :
    Calls Tryd.prog 64 [I p0].toArray w (fun e w' => e = .returned (.tuple #[I r.1, .bool r.2]) ∧ St w (fp []) w' []) := by
 refine CW.start (N := 15) Tryd.func64 rfl rfl rfl (rg ?_)
 refine pu 2 [] (nx (rg ?_))
 refine pu 1 [(7, I p0)] ?_
 obtain ⟨r8, hr9, hF⟩ := bs hF
 refine OW.fn rfl rfl rfl rfl (by kernel_rfl) (sigs_of_ok _ p0 r8 hr9 (hst.part [] rfl) (hT1.give hst [])) ?_
 rintro e w10 ⟨rfl, hst11⟩
 refine ⟨_, rfl, ?_⟩
 have hst := hst.join (idx := []) (rest := []) rfl hst11
 refine pu 3 [(9, .agg [.string r8.1.name, .string r8.1.wants, U r8.1.most, I r8.1.asks, .bool r8.1.isAsked].toArray), (10, .bool r8.2)] ?_
 refine OW.alloc hst rfl rfl rfl [.string ByteArray.empty, .string ByteArray.empty, U 0, I 0, .bool false] (by kernel_rfl) ?_
 intro b12 w13 hst
 refine OW.stB hst 0 rfl rfl rfl rfl rfl (by kernel_rfl) rfl rfl [.string r8.1.name, .string r8.1.wants, U r8.1.most, I r8.1.asks, .bool r8.1.isAsked] rfl ?_
 intro w14 hst
 refine pu 1 [] (nx (CW.seq ?_))
 refine CW.still (by kernel_rfl) (by kernel_rfl) ?_
 intro w17 hch18
 have hst := hst.same hch18
 refine OS.pure 1 [(11, .pointer (some ⟨b12, 3, none⟩))] rfl (by kernel_rfl) ?_
 refine OS.ld rfl rfl rfl rfl rfl (by kernel_rfl) (hst.blk 0 rfl rfl) ?_
 refine OS.pure 1 [(13, .pointer (some ⟨b12, 4, none⟩))] rfl (by kernel_rfl) ?_
 refine OS.ld rfl rfl rfl rfl rfl (by kernel_rfl) (hst.blk 0 rfl rfl) ?_
 refine OS.pure 2 [(2, I r8.1.asks), (3, .bool r8.1.isAsked)] rfl (by kernel_rfl) ?_
 refine OS.fin rfl (QW.next (CW.ret ?_))
 obtain rfl := inj hF
 refine QW.ret2 rfl rfl rfl ?_
 exact ⟨rfl, hst.keep [] rfl⟩
theorem scratch_Counters_Mark_ok (w : World) (b0 : Nat) (T0 : TypeId) (A0 C0 : List Value) (p0 : scratch_Counters) (p1 : Int) (r : Int × Int × scratch_Counters) (hF : scratch_Counters_Mark p0 p1 = some r)
    (hst : St w (fp [partI b0 T0 A0 [U (p0.counts 0), U (p0.counts 1), U (p0.counts 2), U (p0.counts 3), U (p0.counts 4), U (p0.counts 5), U (p0.counts 6), U (p0.counts 7), U (p0.counts 8), U (p0.counts 9), U (p0.counts 10), U (p0.counts 11), U (p0.counts 12), U (p0.counts 13), U (p0.counts 14), U (p0.counts 15)] C0]) w [partI b0 T0 A0 [U (p0.counts 0), U (p0.counts 1), U (p0.counts 2), U (p0.counts 3), U (p0.counts 4), U (p0.counts 5), U (p0.counts 6), U (p0.counts 7), U (p0.counts 8), U (p0.counts 9), U (p0.counts 10), U (p0.counts 11), U (p0.counts 12), U (p0.counts 13), U (p0.counts 14), U (p0.counts 15)] C0]) :
    Calls Tryd.prog 65 [.pointer (some ⟨b0, A0.length + 0, none⟩), I p1].toArray w (fun e w' => e = .returned (.tuple #[U r.1, I r.2.1]) ∧ St w (fp [partI b0 T0 A0 [U (p0.counts 0), U (p0.counts 1), U (p0.counts 2), U (p0.counts 3), U (p0.counts 4), U (p0.counts 5), U (p0.counts 6), U (p0.counts 7), U (p0.counts 8), U (p0.counts 9), U (p0.counts 10), U (p0.counts 11), U (p0.counts 12), U (p0.counts 13), U (p0.counts 14), U (p0.counts 15)] C0]) w' [partI b0 T0 A0 [U (r.2.2.counts 0), U (r.2.2.counts 1), U (r.2.2.counts 2), U (r.2.2.counts 3), U (r.2.2.counts 4), U (r.2.2.counts 5), U (r.2.2.counts 6), U (r.2.2.counts 7), U (r.2.2.counts 8), U (r.2.2.counts 9), U (r.2.2.counts 10), U (r.2.2.counts 11), U (r.2.2.counts 12), U (r.2.2.counts 13), U (r.2.2.counts 14), U (r.2.2.counts 15)] C0]) := by
 refine CW.start (N := 28) Tryd.func65 rfl rfl rfl (rg ?_)
 refine pu 2 [] (nx (CW.seq (CW.seq ?_)))
 refine CW.cutK (fun a w1 => Rep 28 [(0, .pointer (some ⟨b0, A0.length + 0, none⟩)), (1, I p1), (11, .bool (decide (p1 < 0) || decide (p1 ≥ 16)))] a ∧ St w (fp [partI b0 T0 A0 [U (p0.counts 0), U (p0.counts 1), U (p0.counts 2), U (p0.counts 3), U (p0.counts 4), U (p0.counts 5), U (p0.counts 6), U (p0.counts 7), U (p0.counts 8), U (p0.counts 9), U (p0.counts 10), U (p0.counts 11), U (p0.counts 12), U (p0.counts 13), U (p0.counts 14), U (p0.counts 15)] C0]) w1 [partI b0 T0 A0 [U (p0.counts 0), U (p0.counts 1), U (p0.counts 2), U (p0.counts 3), U (p0.counts 4), U (p0.counts 5), U (p0.counts 6), U (p0.counts 7), U (p0.counts 8), U (p0.counts 9), U (p0.counts 10), U (p0.counts 11), U (p0.counts 12), U (p0.counts 13), U (p0.counts 14), U (p0.counts 15)] C0]) ?_ ?_
 ·refine CW.region ?_
  refine pu 3 [(8, .bool (decide (p1 < 0)))] ?_
  refine OW.split 8 rfl (fun hc1 => ?_) (fun hc1 => ?_)
  ·refine pu 3 [(11, .bool true)] (OW.nil rfl ?_)
   refine QW.say 11 (v := .bool (decide (p1 < 0) || decide (p1 ≥ 16))) rfl (by first | (rw [hc1]; done) | (rw [hc1]; rfl) | simp [hc1]) ?_
   exact QW.meet (fun a ha => ⟨ha.ag, hst.keep [0] rfl⟩)
  refine pu 3 [(11, .bool (decide (p1 ≥ 16)))] (OW.nil rfl ?_)
  refine QW.say 11 (v := .bool (decide (p1 < 0) || decide (p1 ≥ 16))) rfl (by first | (rw [hc1]; done) | (rw [hc1]; rfl) | simp [hc1]) ?_
  exact QW.meet (fun a ha => ⟨ha.ag, hst.keep [0] rfl⟩)
 rintro a w1 ⟨ha, hst⟩
 refine CW.go ?_ ha
 refine br ((decide (p1 < 0) || decide (p1 ≥ 16))) hF (fun hF hc2 => ?_) (fun hF hc2 => ?_)
 ·refine rg ?_
  refine pu 2 [(4, U 0), (5, I 35)] (nx (CW.ret (QW.then_ret ?_)))
  obtain rfl := inj hF
  refine QW.ret2 rfl rfl rfl ?_
  exact ⟨rfl, hst.keep [0] rfl⟩
 refine CW.skip (QW.next (CW.seq ?_))
 refine CW.tail 10 (by kernel_rfl) (by kernel_rfl) ?_
 intro w8 hch9
 have hst := hst.same hch9
 refine OS.pure 4 [(12, .pointer (some ⟨b0, A0.length + 0, none⟩)), (13, I p1), (15, .pointer (some ⟨b0, A0.length + 0, none⟩))] rfl (by kernel_rfl) ?_
 obtain ⟨i10, hi11, hF⟩ := bs hF
 refine OS.op (v := .pointer (some ⟨b0, A0.length + 0 + Int.toNat p1 * 1, none⟩)) rfl rfl rfl rfl rfl (fun a ha => aidx_run (n := 16) 22 1 rfl rfl rfl (ain_some hi11).1 (ain_some hi11).2.1 (by kernel_rfl) (by kernel_rfl) a _ ha) ?_
 refine OS.ld rfl rfl rfl rfl rfl (by kernel_rfl) (hst.arrP 0 rfl (encInt .u64) (fun _ => rfl) 16 p0.counts 0 rfl rfl hi11 0 _ rfl) ?_
 refine OS.pure 3 [(18, U (wu64 ((p0.counts i10) + 1))), (20, .pointer (some ⟨b0, A0.length + 0, none⟩))] rfl (by kernel_rfl) ?_
 refine OS.op (v := .pointer (some ⟨b0, A0.length + 0 + Int.toNat p1 * 1, none⟩)) rfl rfl rfl rfl rfl (fun a ha => aidx_run (n := 16) 22 1 rfl rfl rfl (ain_some hi11).1 (ain_some hi11).2.1 (by kernel_rfl) (by kernel_rfl) a _ ha) ?_
 refine OS.on ?_
 refine OW.stPA hst 0 rfl rfl rfl rfl rfl (by kernel_rfl) rfl (encInt .u64) (fun _ => rfl) 16 p0.counts 0 rfl rfl hi11 0 rfl rfl (wu64 ((p0.counts i10) + 1)) rfl [U ((aset p0.counts i10 (wu64 ((p0.counts i10) + 1))) 0), U ((aset p0.counts i10 (wu64 ((p0.counts i10) + 1))) 1), U ((aset p0.counts i10 (wu64 ((p0.counts i10) + 1))) 2), U ((aset p0.counts i10 (wu64 ((p0.counts i10) + 1))) 3), U ((aset p0.counts i10 (wu64 ((p0.counts i10) + 1))) 4), U ((aset p0.counts i10 (wu64 ((p0.counts i10) + 1))) 5), U ((aset p0.counts i10 (wu64 ((p0.counts i10) + 1))) 6), U ((aset p0.counts i10 (wu64 ((p0.counts i10) + 1))) 7), U ((aset p0.counts i10 (wu64 ((p0.counts i10) + 1))) 8), U ((aset p0.counts i10 (wu64 ((p0.counts i10) + 1))) 9), U ((aset p0.counts i10 (wu64 ((p0.counts i10) + 1))) 10), U ((aset p0.counts i10 (wu64 ((p0.counts i10) + 1))) 11), U ((aset p0.counts i10 (wu64 ((p0.counts i10) + 1))) 12), U ((aset p0.counts i10 (wu64 ((p0.counts i10) + 1))) 13), U ((aset p0.counts i10 (wu64 ((p0.counts i10) + 1))) 14), U ((aset p0.counts i10 (wu64 ((p0.counts i10) + 1))) 15)] rfl ?_
 intro w12 hst
 refine nx (rg ?_)
 refine pu 4 [(23, I p1), (25, .pointer (some ⟨b0, A0.length + 0, none⟩))] ?_
 refine OW.op (v := .pointer (some ⟨b0, A0.length + 0 + Int.toNat p1 * 1, none⟩)) rfl rfl rfl rfl (fun a ha => aidx_run (n := 16) 22 1 rfl rfl rfl (ain_some hi11).1 (ain_some hi11).2.1 (by kernel_rfl) (by kernel_rfl) a _ ha) ?_
 refine OW.ld rfl rfl rfl rfl (by kernel_rfl) (hst.arrP 0 rfl (encInt .u64) (fun _ => rfl) 16 (aset p0.counts i10 (wu64 ((p0.counts i10) + 1))) 0 rfl rfl hi11 0 _ rfl) ?_
 refine pu 2 [(4, U ((aset p0.counts i10 (wu64 ((p0.counts i10) + 1))) i10)), (5, I 0)] (nx (CW.ret ?_))
 obtain rfl := inj hF
 refine QW.ret2 rfl rfl rfl ?_
 exact ⟨rfl, hst.keep [0] rfl⟩
theorem engine_Machine_call_ok (w : World) (fu : Nat) (v0 : Value) (S0 : List Nat) (p0 : engine_Machine) (p1 : Int) (v2 : Value) (S2 : List Nat) (g0 : scratch_Scratch) (r : api_Act × engine_Machine × scratch_Scratch) (hF : engine_Machine_call fu p0 p1 g0 = some r)
    (hst : St w (fp [itI (R_t69 v2) [v0] S0 p0, itI R_t67 [v2] S2 g0]) w [itI (R_t69 v2) [v0] S0 p0, itI R_t67 [v2] S2 g0]) (hT1 : Rd w (fp [itI (R_t69 v2) [v0] S0 p0, itI R_t67 [v2] S2 g0]) (.slice (some ⟨1, 0, none⟩) 7 7) enc_sigs_sig 5 tab_g1) :
    Calls Tryd.prog 40 [v0, I p1].toArray w (fun e w' => ∃ (s0 : List Nat) (s2 : List Nat), e = .returned (.agg [I r.1.Kind, I r.1.Pc, I r.1.Item.Map, I r.1.Item.Op, U r.1.Item.Key, U r.1.Item.Val, U r.1.Val].toArray) ∧ St w (fp [itI (R_t69 v2) [v0] S0 p0, itI R_t67 [v2] S2 g0]) w' [itI (R_t69 v2) [v0] s0 r.2.1, itI R_t67 [v2] s2 r.2.2]) := by
 refine CW.start (N := 99) Tryd.func40 rfl rfl rfl ?_
 obtain ⟨b1, rfl⟩ := hst.fptr 0 rfl
 obtain ⟨b2, rfl⟩ := hst.fptr 1 rfl
 refine rg ?_
 refine OW.alloc hst rfl rfl rfl [I 0, I 0, I 0, I 0, U 0, U 0, U 0] (by kernel_rfl) ?_
 intro b5 w6 hst
 refine nx (CW.seq ?_)
 obtain ⟨v7, S8, v9, S10, hst⟩ := hst.openQ2 0 rfl rfl rfl
 have hst := hst.toRow1 3 rfl
 have hst := hst.toRow1 4 rfl
 obtain ⟨l11, a12, c13, rfl⟩ := hst.len 3 rfl
 obtain ⟨l14, a15, c16, rfl⟩ := hst.len 4 rfl
 have hst : St _ _ _ [blkI b1 129 [U p0.Event.A, U p0.Event.B, .slice a12 (p0.module.Maps).length c13, .slice a15 (p0.module.Code).length c16, Pt b2, U (p0.regs 0), U (p0.regs 1), U (p0.regs 2), U (p0.regs 3), U (p0.regs 4), U (p0.regs 5), U (p0.regs 6), U (p0.regs 7), I (p0.turns 0), I (p0.turns 1), I (p0.turns 2), I (p0.turns 3), I (p0.turns 4), I (p0.turns 5), I (p0.turns 6), I (p0.turns 7), I (p0.turns 8), I (p0.turns 9), I (p0.turns 10), I (p0.turns 11), I (p0.turns 12), I (p0.turns 13), I (p0.turns 14), I (p0.turns 15), I (p0.turns 16), I (p0.turns 17), I (p0.turns 18), I (p0.turns 19), I (p0.turns 20), I (p0.turns 21), I (p0.turns 22), I (p0.turns 23), I (p0.turns 24), I (p0.turns 25), I (p0.turns 26), I (p0.turns 27), I (p0.turns 28), I (p0.turns 29), I (p0.turns 30), I (p0.turns 31), I (p0.turns 32), I (p0.turns 33), I (p0.turns 34), I (p0.turns 35), I (p0.turns 36), I (p0.turns 37), I (p0.turns 38), I (p0.turns 39), I (p0.turns 40), I (p0.turns 41), I (p0.turns 42), I (p0.turns 43), I (p0.turns 44), I (p0.turns 45), I (p0.turns 46), I (p0.turns 47), I (p0.turns 48), I (p0.turns 49), I (p0.turns 50), I (p0.turns 51), I (p0.turns 52), I (p0.turns 53), I (p0.turns 54), I (p0.turns 55), I (p0.turns 56), I (p0.turns 57), I (p0.turns 58), I (p0.turns 59), I (p0.turns 60), I (p0.turns 61), I (p0.turns 62), I (p0.turns 63), I p0.at_, I p0.steps, I p0.state], _, _, _, _] := hst
 refine CW.region ?_
 refine pu 3 [(10, .pointer (some ⟨b1, 77, none⟩))] ?_
 refine OW.ld rfl rfl rfl rfl (by kernel_rfl) (hst.blk 0 rfl rfl) ?_
 refine pu 1 [(12, .agg [I 1, I p0.at_, I 0, I 0, U 0, U 0, U 0].toArray)] ?_
 refine OW.alloc hst rfl rfl rfl [I 0, I 0, I 0, I 0, U 0, U 0, U 0] (by kernel_rfl) ?_
 intro b20 w21 hst
 refine OW.stB hst 5 rfl rfl rfl rfl rfl (by kernel_rfl) rfl rfl [I 1, I p0.at_, I 0, I 0, U 0, U 0, U 0] rfl ?_
 intro w22 hst
 refine nx (CW.seq (rg ?_))
 refine pu 1 [(14, I p1)] ?_
 obtain ⟨r27, hr28, hF⟩ := bs hF
 refine OW.fn rfl rfl rfl rfl (by kernel_rfl) (sigs_Asks_ok _ p1 r27 hr28 (hst.part [] rfl) (hT1.give hst [])) ?_
 rintro e w29 ⟨rfl, hst30⟩
 refine ⟨_, rfl, ?_⟩
 have hst := hst.join (idx := []) (rest := [0, 1, 2, 3, 4, 5]) rfl hst30
 refine pu 5 [(6, I r27.1), (7, .bool r27.2)] (nx (rg ?_))
 refine pu 1 [(18, .bool r27.2)] (nx ?_)
 refine br (r27.2) hF (fun hF hc31 => ?_) (fun hF hc31 => ?_)
 ·refine rg ?_
  refine pu 3 [(21, .pointer (some ⟨b1, 79, none⟩))] ?_
  refine OW.stB hst 0 rfl rfl rfl rfl rfl (by kernel_rfl) rfl rfl [U p0.Event.A, U p0.Event.B, .slice a12 (p0.module.Maps).length c13, .slice a15 (p0.module.Code).length c16, Pt b2, U (p0.regs 0), U (p0.regs 1), U (p0.regs 2), U (p0.regs 3), U (p0.regs 4), U (p0.regs 5), U (p0.regs 6), U (p0.regs 7), I (p0.turns 0), I (p0.turns 1), I (p0.turns 2), I (p0.turns 3), I (p0.turns 4), I (p0.turns 5), I (p0.turns 6), I (p0.turns 7), I (p0.turns 8), I (p0.turns 9), I (p0.turns 10), I (p0.turns 11), I (p0.turns 12), I (p0.turns 13), I (p0.turns 14), I (p0.turns 15), I (p0.turns 16), I (p0.turns 17), I (p0.turns 18), I (p0.turns 19), I (p0.turns 20), I (p0.turns 21), I (p0.turns 22), I (p0.turns 23), I (p0.turns 24), I (p0.turns 25), I (p0.turns 26), I (p0.turns 27), I (p0.turns 28), I (p0.turns 29), I (p0.turns 30), I (p0.turns 31), I (p0.turns 32), I (p0.turns 33), I (p0.turns 34), I (p0.turns 35), I (p0.turns 36), I (p0.turns 37), I (p0.turns 38), I (p0.turns 39), I (p0.turns 40), I (p0.turns 41), I (p0.turns 42), I (p0.turns 43), I (p0.turns 44), I (p0.turns 45), I (p0.turns 46), I (p0.turns 47), I (p0.turns 48), I (p0.turns 49), I (p0.turns 50), I (p0.turns 51), I (p0.turns 52), I (p0.turns 53), I (p0.turns 54), I (p0.turns 55), I (p0.turns 56), I (p0.turns 57), I (p0.turns 58), I (p0.turns 59), I (p0.turns 60), I (p0.turns 61), I (p0.turns 62), I (p0.turns 63), I p0.at_, I p0.steps, I 1] rfl ?_
  intro w34 hst
  refine nx (rg ?_)
  refine pu 1 [(22, Pt b20)] ?_
  refine OW.stB hst 5 rfl rfl rfl rfl rfl (by kernel_rfl) rfl rfl [I 2, I p0.at_, I 0, I 0, U 0, U 0, U 0] rfl ?_
  intro w36 hst
  refine nx (CW.seq ?_)
  refine CW.tail 20 (by kernel_rfl) (by kernel_rfl) ?_
  intro w46 hch47
  have hst := hst.same hch47
  refine OS.pure 4 [(26, .pointer (some ⟨b1, 2, none⟩))] rfl (by kernel_rfl) ?_
  refine OS.ld rfl rfl rfl rfl rfl (by kernel_rfl) (hst.blk 0 rfl rfl) ?_
  refine OS.pure 3 [(30, .pointer (some ⟨b1, 5, none⟩))] rfl (by kernel_rfl) ?_
  refine OS.op (v := .pointer (some ⟨b1, 6, none⟩)) rfl rfl rfl rfl rfl (fun a ha => aidx_run (n := 8) (q := 1) 22 1 rfl rfl rfl (by decide) (by decide) (by kernel_rfl) (by kernel_rfl) a _ ha) ?_
  refine OS.ld rfl rfl rfl rfl rfl (by kernel_rfl) (hst.blk 0 rfl rfl) ?_
  obtain ⟨x48, hx49, hF⟩ := bs hF
  obtain ⟨g51, o52, c53, hv50⟩ := hst.rowv 3 rfl hx49
  refine OS.idx 3 1 rfl rfl rfl rfl rfl hv50 rfl (idx_some hx49).1 (idx_some hx49).2.1 (by kernel_rfl) (by kernel_rfl) ?_
  refine OS.ld rfl rfl rfl rfl rfl (by kernel_rfl) (hst.rowc 3 rfl (fun _ => rfl) hx49 hv50 0 _ rfl) ?_
  refine OS.pure 4 [(35, I r27.1), (38, .pointer (some ⟨b1, 5, none⟩))] rfl (by kernel_rfl) ?_
  refine OS.op (v := .pointer (some ⟨b1, 7, none⟩)) rfl rfl rfl rfl rfl (fun a ha => aidx_run (n := 8) (q := 2) 22 1 rfl rfl rfl (by decide) (by decide) (by kernel_rfl) (by kernel_rfl) a _ ha) ?_
  refine OS.ld rfl rfl rfl rfl rfl (by kernel_rfl) (hst.blk 0 rfl rfl) ?_
  refine OS.pure 2 [(41, .agg [I x48, I r27.1, U (p0.regs 2), U 0].toArray), (42, .pointer (some ⟨b20, 2, none⟩))] rfl (by kernel_rfl) ?_
  refine OS.on ?_
  refine OW.stB hst 5 rfl rfl rfl rfl rfl (by kernel_rfl) rfl rfl [I 2, I p0.at_, I x48, I r27.1, U (p0.regs 2), U 0, U 0] rfl ?_
  intro w54 hst
  refine nx (CW.seq (rg ?_))
  refine pu 1 [(43, I p1)] ?_
  obtain ⟨r63, hr64, hF⟩ := bs hF
  refine OW.fn rfl rfl rfl rfl (by kernel_rfl) (sigs_Args_ok _ fu p1 r63 hr64 (hst.part [] rfl) (hT1.give hst [])) ?_
  rintro e w65 ⟨v67, rfl, hst66⟩
  refine ⟨_, rfl, ?_⟩
  have hst := hst.join (idx := []) (rest := [0, 1, 2, 3, 4, 5]) rfl hst66
  obtain ⟨l68, a69, c70, rfl⟩ := hst.len 0 rfl
  refine pu 2 [(46, .bool (decide (((r63).length : Int) > 2)))] (nx ?_)
  obtain ⟨o77, ho78, hF⟩ := bs hF
  refine CW.cutK (fun a w1 => ∃ (S76 : List Nat), Rep 99 [(4, Pt b5), (5, Pt b20)] a ∧ St w (fp [itI (R_t69 (Pt b2)) [Pt b1] S0 p0, itI R_t67 [Pt b2] S2 g0]) w1 [blkI b5 58 [I 0, I 0, I 0, I 0, U 0, U 0, U 0], blkI b20 58 [I 2, I p0.at_, I x48, I r27.1, U (p0.regs 2), U o77, U 0], itI (R_t69 (Pt b2)) [Pt b1] S76 (engine_Machine.mk p0.Event p0.module p0.regs p0.turns p0.at_ p0.steps 1), itI R_t67 [Pt b2] S2 g0]) ?_ ?_
  ·refine br (decide (((r63).length : Int) > 2)) ho78 (fun ho78 hc79 => ?_) (fun ho78 hc79 => ?_)
   ·refine CW.region ?_
    refine pu 3 [(49, .pointer (some ⟨b1, 5, none⟩))] ?_
    refine OW.op (v := .pointer (some ⟨b1, 8, none⟩)) rfl rfl rfl rfl (fun a ha => aidx_run (n := 8) (q := 3) 22 1 rfl rfl rfl (by decide) (by decide) (by kernel_rfl) (by kernel_rfl) a _ ha) ?_
    refine OW.ld rfl rfl rfl rfl (by kernel_rfl) (hst.blk 1 rfl rfl) ?_
    refine pu 2 [(53, .pointer (some ⟨b20, 5, none⟩))] ?_
    refine OW.stB hst 6 rfl rfl rfl rfl rfl (by kernel_rfl) rfl rfl [I 2, I p0.at_, I x48, I r27.1, U (p0.regs 2), U (p0.regs 3), U 0] rfl ?_
    intro w81 hst
    refine OW.nil rfl ?_
    have hst := hst.toIt 4 rfl (fun _ => rfl) (by decide)
    have hst := hst.toIt 5 rfl (fun _ => rfl) (by decide)
    obtain ⟨S82, hst⟩ := hst.shutP2 (R_t129 (Pt b2)) rfl 1 4 5 [0, 2, 3, 6] rfl rfl rfl rfl (engine_Machine.mk p0.Event p0.module p0.regs p0.turns p0.at_ p0.steps 1) rfl rfl
    obtain rfl := inj ho78
    exact QW.meet (fun a ha => ⟨S82, ha.ag, hst.keep [2, 3, 4, 1] rfl⟩)
   refine CW.skip ?_
   have hst := hst.toIt 4 rfl (fun _ => rfl) (by decide)
   have hst := hst.toIt 5 rfl (fun _ => rfl) (by decide)
   obtain ⟨S83, hst⟩ := hst.shutP2 (R_t129 (Pt b2)) rfl 1 4 5 [0, 2, 3, 6] rfl rfl rfl rfl (engine_Machine.mk p0.Event p0.module p0.regs p0.turns p0.at_ p0.steps 1) rfl rfl
   obtain rfl := inj ho78
   exact QW.meet (fun a ha => ⟨S83, ha.ag, hst.keep [2, 3, 4, 1] rfl⟩)
  rintro a w1 ⟨S76, ha, hst⟩
  refine CW.go ?_ ha
  refine rg ?_
  refine OW.ldN (cs := [I 2, I p0.at_, I x48, I r27.1, U (p0.regs 2), U o77, U 0]) rfl rfl rfl rfl (by kernel_rfl) (by kernel_rfl) (hst.blkN 1 rfl 0 7) ?_
  refine OW.stB hst 0 rfl rfl rfl rfl rfl (by kernel_rfl) rfl rfl [I 2, I p0.at_, I x48, I r27.1, U (p0.regs 2), U o77, U 0] rfl ?_
  intro w85 hst
  refine nx (CW.ret (QW.then_ret ?_))
  obtain rfl := inj hF
  refine QW.ret_c rfl rfl (run_loadN (cs := [I 2, I p0.at_, I x48, I r27.1, U (p0.regs 2), U o77, U 0]) (by kernel_rfl) (by kernel_rfl) (hst.blkN 0 rfl 0 7)) ?_
  exact ⟨S76, S2, rfl, hst.keep [2, 3] rfl⟩
 refine CW.skip (QW.next (CW.seq (rg ?_)))
 refine pu 2 [(56, .bool (p1 == 5))] (nx ?_)
 obtain ⟨o121, ho122, hF⟩ := bs hF
 refine CW.cutK (fun a w1 => ∃ (S119 : List Nat) (S120 : List Nat), Rep 99 [(0, Pt b1), (4, Pt b5), (5, Pt b20)] a ∧ St w (fp [itI (R_t69 (Pt b2)) [Pt b1] S0 p0, itI R_t67 [Pt b2] S2 g0]) w1 [itI (R_t69 (Pt b2)) [Pt b1] S119 o121.1, itI R_t67 [Pt b2] S120 o121.2.1, blkI b5 58 [I 0, I 0, I 0, I 0, U 0, U 0, U 0], blkI b20 58 [I o121.2.2.Kind, I o121.2.2.Pc, I o121.2.2.Item.Map, I o121.2.2.Item.Op, U o121.2.2.Item.Key, U o121.2.2.Item.Val, U o121.2.2.Val]]) ?_ ?_
 ·refine br ((p1 == 5)) ho122 (fun ho122 hc123 => ?_) (fun ho122 hc123 => ?_)
  ·refine CW.seq ?_
   refine CW.plan (by kernel_rfl) ?_
   intro w131 hch132
   have hst := hst.same hch132
   refine OA.pure [0, 1, 2] [(60, .pointer (some ⟨b1, 4, none⟩))] (by kernel_rfl) ?_
   refine OA.ld (i := 3) rfl (by kernel_rfl) rfl rfl rfl (by kernel_rfl) (hst.blk 0 rfl rfl) ?_
   have hst := hst.openQ0 1 rfl
   refine OA.pure [4, 5, 6, 7, 8] [(63, .pointer (some ⟨b2, 16, none⟩)), (66, .pointer (some ⟨b1, 5, none⟩))] (by kernel_rfl) ?_
   refine OA.val (i := 9) (v := .pointer (some ⟨b1, 6, none⟩)) rfl (by kernel_rfl) rfl rfl rfl rfl (fun a w ha => aidx_run (n := 8) (q := 1) 22 1 rfl rfl rfl (by decide) (by decide) (by kernel_rfl) (by kernel_rfl) a w ha) ?_
   refine OA.ld (i := 10) rfl (by kernel_rfl) rfl rfl rfl (by kernel_rfl) (hst.blk 0 rfl rfl) ?_
   refine OA.pure [11] [(69, I (w64 (p0.regs 1)))] (by kernel_rfl) ?_
   refine OA.act (i := 12) [] (by kernel_rfl) rfl rfl (by kernel_rfl) (by kernel_rfl) ?_
   obtain ⟨r133, hr134, ho122⟩ := bs ho122
   refine OW.fn rfl rfl rfl rfl (by kernel_rfl) (scratch_Counters_Mark_ok _ b2 102 [U (g0.Words.words 0), U (g0.Words.words 1), U (g0.Words.words 2), U (g0.Words.words 3), U (g0.Words.words 4), U (g0.Words.words 5), U (g0.Words.words 6), U (g0.Words.words 7), U (g0.Words.words 8), U (g0.Words.words 9), U (g0.Words.words 10), U (g0.Words.words 11), U (g0.Words.words 12), U (g0.Words.words 13), U (g0.Words.words 14), U (g0.Words.words 15)] [] g0.Counters (w64 (p0.regs 1)) r133 hr134 (hst.part [1] rfl)) ?_
   rintro e w135 ⟨rfl, hst136⟩
   refine ⟨_, rfl, ?_⟩
   have hst := hst.join (idx := [1]) (rest := [0, 2, 3, 4, 5]) rfl hst136
   have hst : St _ _ _ [blkI b2 102 [U (g0.Words.words 0), U (g0.Words.words 1), U (g0.Words.words 2), U (g0.Words.words 3), U (g0.Words.words 4), U (g0.Words.words 5), U (g0.Words.words 6), U (g0.Words.words 7), U (g0.Words.words 8), U (g0.Words.words 9), U (g0.Words.words 10), U (g0.Words.words 11), U (g0.Words.words 12), U (g0.Words.words 13), U (g0.Words.words 14), U (g0.Words.words 15), U (r133.2.2.counts 0), U (r133.2.2.counts 1), U (r133.2.2.counts 2), U (r133.2.2.counts 3), U (r133.2.2.counts 4), U (r133.2.2.counts 5), U (r133.2.2.counts 6), U (r133.2.2.counts 7), U (r133.2.2.counts 8), U (r133.2.2.counts 9), U (r133.2.2.counts 10), U (r133.2.2.counts 11), U (r133.2.2.counts 12), U (r133.2.2.counts 13), U (r133.2.2.counts 14), U (r133.2.2.counts 15)], _, _, _, _, _] := hst
   refine OA.next trivial ?_
   refine OA.pure [13, 14, 15, 16] [(71, U r133.1), (73, .pointer (some ⟨b20, 6, none⟩))] (by kernel_rfl) ?_
   refine OA.act (i := 17) [] (by kernel_rfl) rfl rfl (by kernel_rfl) (by kernel_rfl) ?_
   refine OW.stB hst 5 rfl rfl rfl rfl rfl (by kernel_rfl) rfl rfl [I 1, I p0.at_, I 0, I 0, U 0, U 0, U r133.1] rfl ?_
   intro w137 hst
   refine OA.next trivial ?_
   refine OA.fin (by kernel_rfl) (by kernel_rfl) (QW.next ?_)
   refine CW.tail 6 (by kernel_rfl) (by kernel_rfl) ?_
   intro w141 hch142
   have hst := hst.same hch142
   refine OS.pure 2 [(74, Pt b1), (75, .pointer (some ⟨b20, 6, none⟩))] rfl (by kernel_rfl) ?_
   refine OS.ld rfl rfl rfl rfl rfl (by kernel_rfl) (hst.blk 5 rfl rfl) ?_
   refine OS.pure 2 [(78, .pointer (some ⟨b1, 5, none⟩))] rfl (by kernel_rfl) ?_
   refine OS.op (v := .pointer (some ⟨b1, 5, none⟩)) rfl rfl rfl rfl rfl (fun a ha => aidx_run (n := 8) (q := 0) 22 1 rfl rfl rfl (by decide) (by decide) (by kernel_rfl) (by kernel_rfl) a _ ha) ?_
   refine OS.on ?_
   refine OW.stB hst 1 rfl rfl rfl rfl rfl (by kernel_rfl) rfl rfl [U p0.Event.A, U p0.Event.B, .slice a12 (p0.module.Maps).length c13, .slice a15 (p0.module.Code).length c16, Pt b2, U r133.1, U (p0.regs 1), U (p0.regs 2), U (p0.regs 3), U (p0.regs 4), U (p0.regs 5), U (p0.regs 6), U (p0.regs 7), I (p0.turns 0), I (p0.turns 1), I (p0.turns 2), I (p0.turns 3), I (p0.turns 4), I (p0.turns 5), I (p0.turns 6), I (p0.turns 7), I (p0.turns 8), I (p0.turns 9), I (p0.turns 10), I (p0.turns 11), I (p0.turns 12), I (p0.turns 13), I (p0.turns 14), I (p0.turns 15), I (p0.turns 16), I (p0.turns 17), I (p0.turns 18), I (p0.turns 19), I (p0.turns 20), I (p0.turns 21), I (p0.turns 22), I (p0.turns 23), I (p0.turns 24), I (p0.turns 25), I (p0.turns 26), I (p0.turns 27), I (p0.turns 28), I (p0.turns 29), I (p0.turns 30), I (p0.turns 31), I (p0.turns 32), I (p0.turns 33), I (p0.turns 34), I (p0.turns 35), I (p0.turns 36), I (p0.turns 37), I (p0.turns 38), I (p0.turns 39), I (p0.turns 40), I (p0.turns 41), I (p0.turns 42), I (p0.turns 43), I (p0.turns 44), I (p0.turns 45), I (p0.turns 46), I (p0.turns 47), I (p0.turns 48), I (p0.turns 49), I (p0.turns 50), I (p0.turns 51), I (p0.turns 52), I (p0.turns 53), I (p0.turns 54), I (p0.turns 55), I (p0.turns 56), I (p0.turns 57), I (p0.turns 58), I (p0.turns 59), I (p0.turns 60), I (p0.turns 61), I (p0.turns 62), I (p0.turns 63), I p0.at_, I p0.steps, I p0.state] rfl ?_
   intro w143 hst
   refine OW.nil rfl ?_
   have hst := hst.shutP0 (enc := enc_scratch_Scratch) (sz := 32) (he := fun _ => rfl) 0 rfl (scratch_Scratch.mk g0.Words r133.2.2) rfl
   have hst := hst.toIt 3 rfl (fun _ => rfl) (by decide)
   have hst := hst.toIt 4 rfl (fun _ => rfl) (by decide)
   obtain ⟨S144, hst⟩ := hst.shutP2 (R_t129 (Pt b2)) rfl 1 3 4 [0, 2, 5] rfl rfl rfl rfl (engine_Machine.mk p0.Event p0.module (aset p0.regs 0 r133.1) p0.turns p0.at_ p0.steps p0.state) rfl rfl
   obtain rfl := inj ho122
   exact QW.meet (fun a ha => ⟨S144, ([b2]), ha.ag, hst.keep [3, 0, 1, 2] rfl⟩)
  refine CW.seq ?_
  refine CW.plan (by kernel_rfl) ?_
  intro w149 hch150
  have hst := hst.same hch150
  refine OA.pure [0, 1, 2] [(82, .pointer (some ⟨b1, 5, none⟩))] (by kernel_rfl) ?_
  refine OA.val (i := 3) (v := .pointer (some ⟨b1, 6, none⟩)) rfl (by kernel_rfl) rfl rfl rfl rfl (fun a w ha => aidx_run (n := 8) (q := 1) 22 1 rfl rfl rfl (by decide) (by decide) (by kernel_rfl) (by kernel_rfl) a w ha) ?_
  refine OA.ld (i := 4) rfl (by kernel_rfl) rfl rfl rfl (by kernel_rfl) (hst.blk 0 rfl rfl) ?_
  refine OA.pure [5] [(85, Pt b20)] (by kernel_rfl) ?_
  refine OA.act (i := 6) [4] (by kernel_rfl) rfl rfl (by kernel_rfl) (by kernel_rfl) ?_
  refine OW.stB hst 5 rfl rfl rfl rfl rfl (by kernel_rfl) rfl rfl [I 3, I p0.at_, I 0, I 0, U 0, U 0, U 0] rfl ?_
  intro w151 hst
  refine OA.next ⟨(hst.blk 0 rfl rfl), trivial⟩ ?_
  refine OA.pure [7] [(86, .pointer (some ⟨b20, 6, none⟩))] (by kernel_rfl) ?_
  refine OA.act (i := 8) [] (by kernel_rfl) rfl rfl (by kernel_rfl) (by kernel_rfl) ?_
  refine OW.stB hst 5 rfl rfl rfl rfl rfl (by kernel_rfl) rfl rfl [I 3, I p0.at_, I 0, I 0, U 0, U 0, U (p0.regs 1)] rfl ?_
  intro w152 hst
  refine OA.next trivial ?_
  refine OA.fin (by kernel_rfl) (by kernel_rfl) (QW.next (CW.region ?_))
  refine pu 3 [(89, .pointer (some ⟨b1, 5, none⟩))] ?_
  refine OW.op (v := .pointer (some ⟨b1, 5, none⟩)) rfl rfl rfl rfl (fun a ha => aidx_run (n := 8) (q := 0) 22 1 rfl rfl rfl (by decide) (by decide) (by kernel_rfl) (by kernel_rfl) a _ ha) ?_
  refine OW.stB hst 0 rfl rfl rfl rfl rfl (by kernel_rfl) rfl rfl [U p0.Event.A, U p0.Event.B, .slice a12 (p0.module.Maps).length c13, .slice a15 (p0.module.Code).length c16, Pt b2, U 0, U (p0.regs 1), U (p0.regs 2), U (p0.regs 3), U (p0.regs 4), U (p0.regs 5), U (p0.regs 6), U (p0.regs 7), I (p0.turns 0), I (p0.turns 1), I (p0.turns 2), I (p0.turns 3), I (p0.turns 4), I (p0.turns 5), I (p0.turns 6), I (p0.turns 7), I (p0.turns 8), I (p0.turns 9), I (p0.turns 10), I (p0.turns 11), I (p0.turns 12), I (p0.turns 13), I (p0.turns 14), I (p0.turns 15), I (p0.turns 16), I (p0.turns 17), I (p0.turns 18), I (p0.turns 19), I (p0.turns 20), I (p0.turns 21), I (p0.turns 22), I (p0.turns 23), I (p0.turns 24), I (p0.turns 25), I (p0.turns 26), I (p0.turns 27), I (p0.turns 28), I (p0.turns 29), I (p0.turns 30), I (p0.turns 31), I (p0.turns 32), I (p0.turns 33), I (p0.turns 34), I (p0.turns 35), I (p0.turns 36), I (p0.turns 37), I (p0.turns 38), I (p0.turns 39), I (p0.turns 40), I (p0.turns 41), I (p0.turns 42), I (p0.turns 43), I (p0.turns 44), I (p0.turns 45), I (p0.turns 46), I (p0.turns 47), I (p0.turns 48), I (p0.turns 49), I (p0.turns 50), I (p0.turns 51), I (p0.turns 52), I (p0.turns 53), I (p0.turns 54), I (p0.turns 55), I (p0.turns 56), I (p0.turns 57), I (p0.turns 58), I (p0.turns 59), I (p0.turns 60), I (p0.turns 61), I (p0.turns 62), I (p0.turns 63), I p0.at_, I p0.steps, I p0.state] rfl ?_
  intro w154 hst
  refine OW.nil rfl ?_
  have hst := hst.toIt 3 rfl (fun _ => rfl) (by decide)
  have hst := hst.toIt 4 rfl (fun _ => rfl) (by decide)
  obtain ⟨S155, hst⟩ := hst.shutP2 (R_t129 (Pt b2)) rfl 0 3 4 [1, 2, 5] rfl rfl rfl rfl (engine_Machine.mk p0.Event p0.module (aset p0.regs 0 0) p0.turns p0.at_ p0.steps p0.state) rfl rfl
  obtain rfl := inj ho122
  exact QW.meet (fun a ha => ⟨S155, S2, ha.ag, hst.keep [3, 0, 1, 2] rfl⟩)
 rintro a w1 ⟨S119, S120, ha, hst⟩
 refine CW.go ?_ ha
 refine CW.seq ?_
 obtain ⟨v156, S157, v158, S159, hst⟩ := hst.openQ2 0 rfl rfl rfl
 have hst := hst.toRow1 4 rfl
 have hst := hst.toRow1 5 rfl
 obtain ⟨l160, a161, c162, rfl⟩ := hst.len 4 rfl
 obtain ⟨l163, a164, c165, rfl⟩ := hst.len 5 rfl
 have hst : St _ _ _ [blkI b1 129 [U o121.1.Event.A, U o121.1.Event.B, .slice a161 (o121.1.module.Maps).length c162, .slice a164 (o121.1.module.Code).length c165, Pt b2, U (o121.1.regs 0), U (o121.1.regs 1), U (o121.1.regs 2), U (o121.1.regs 3), U (o121.1.regs 4), U (o121.1.regs 5), U (o121.1.regs 6), U (o121.1.regs 7), I (o121.1.turns 0), I (o121.1.turns 1), I (o121.1.turns 2), I (o121.1.turns 3), I (o121.1.turns 4), I (o121.1.turns 5), I (o121.1.turns 6), I (o121.1.turns 7), I (o121.1.turns 8), I (o121.1.turns 9), I (o121.1.turns 10), I (o121.1.turns 11), I (o121.1.turns 12), I (o121.1.turns 13), I (o121.1.turns 14), I (o121.1.turns 15), I (o121.1.turns 16), I (o121.1.turns 17), I (o121.1.turns 18), I (o121.1.turns 19), I (o121.1.turns 20), I (o121.1.turns 21), I (o121.1.turns 22), I (o121.1.turns 23), I (o121.1.turns 24), I (o121.1.turns 25), I (o121.1.turns 26), I (o121.1.turns 27), I (o121.1.turns 28), I (o121.1.turns 29), I (o121.1.turns 30), I (o121.1.turns 31), I (o121.1.turns 32), I (o121.1.turns 33), I (o121.1.turns 34), I (o121.1.turns 35), I (o121.1.turns 36), I (o121.1.turns 37), I (o121.1.turns 38), I (o121.1.turns 39), I (o121.1.turns 40), I (o121.1.turns 41), I (o121.1.turns 42), I (o121.1.turns 43), I (o121.1.turns 44), I (o121.1.turns 45), I (o121.1.turns 46), I (o121.1.turns 47), I (o121.1.turns 48), I (o121.1.turns 49), I (o121.1.turns 50), I (o121.1.turns 51), I (o121.1.turns 52), I (o121.1.turns 53), I (o121.1.turns 54), I (o121.1.turns 55), I (o121.1.turns 56), I (o121.1.turns 57), I (o121.1.turns 58), I (o121.1.turns 59), I (o121.1.turns 60), I (o121.1.turns 61), I (o121.1.turns 62), I (o121.1.turns 63), I o121.1.at_, I o121.1.steps, I o121.1.state], _, _, _, _, _] := hst
 refine CW.region ?_
 refine pu 3 [(91, Pt b1), (93, .pointer (some ⟨b1, 77, none⟩))] ?_
 refine OW.ld rfl rfl rfl rfl (by kernel_rfl) (hst.blk 0 rfl rfl) ?_
 refine pu 3 [(95, I (w64 (o121.1.at_ + 1))), (97, .pointer (some ⟨b1, 77, none⟩))] ?_
 refine OW.stB hst 0 rfl rfl rfl rfl rfl (by kernel_rfl) rfl rfl [U o121.1.Event.A, U o121.1.Event.B, .slice a161 (o121.1.module.Maps).length c162, .slice a164 (o121.1.module.Code).length c165, Pt b2, U (o121.1.regs 0), U (o121.1.regs 1), U (o121.1.regs 2), U (o121.1.regs 3), U (o121.1.regs 4), U (o121.1.regs 5), U (o121.1.regs 6), U (o121.1.regs 7), I (o121.1.turns 0), I (o121.1.turns 1), I (o121.1.turns 2), I (o121.1.turns 3), I (o121.1.turns 4), I (o121.1.turns 5), I (o121.1.turns 6), I (o121.1.turns 7), I (o121.1.turns 8), I (o121.1.turns 9), I (o121.1.turns 10), I (o121.1.turns 11), I (o121.1.turns 12), I (o121.1.turns 13), I (o121.1.turns 14), I (o121.1.turns 15), I (o121.1.turns 16), I (o121.1.turns 17), I (o121.1.turns 18), I (o121.1.turns 19), I (o121.1.turns 20), I (o121.1.turns 21), I (o121.1.turns 22), I (o121.1.turns 23), I (o121.1.turns 24), I (o121.1.turns 25), I (o121.1.turns 26), I (o121.1.turns 27), I (o121.1.turns 28), I (o121.1.turns 29), I (o121.1.turns 30), I (o121.1.turns 31), I (o121.1.turns 32), I (o121.1.turns 33), I (o121.1.turns 34), I (o121.1.turns 35), I (o121.1.turns 36), I (o121.1.turns 37), I (o121.1.turns 38), I (o121.1.turns 39), I (o121.1.turns 40), I (o121.1.turns 41), I (o121.1.turns 42), I (o121.1.turns 43), I (o121.1.turns 44), I (o121.1.turns 45), I (o121.1.turns 46), I (o121.1.turns 47), I (o121.1.turns 48), I (o121.1.turns 49), I (o121.1.turns 50), I (o121.1.turns 51), I (o121.1.turns 52), I (o121.1.turns 53), I (o121.1.turns 54), I (o121.1.turns 55), I (o121.1.turns 56), I (o121.1.turns 57), I (o121.1.turns 58), I (o121.1.turns 59), I (o121.1.turns 60), I (o121.1.turns 61), I (o121.1.turns 62), I (o121.1.turns 63), I (w64 (o121.1.at_ + 1)), I o121.1.steps, I o121.1.state] rfl ?_
 intro w167 hst
 refine nx (rg ?_)
 refine OW.ldN (cs := [I o121.2.2.Kind, I o121.2.2.Pc, I o121.2.2.Item.Map, I o121.2.2.Item.Op, U o121.2.2.Item.Key, U o121.2.2.Item.Val, U o121.2.2.Val]) rfl rfl rfl rfl (by kernel_rfl) (by kernel_rfl) (hst.blkN 3 rfl 0 7) ?_
 refine OW.stB hst 2 rfl rfl rfl rfl rfl (by kernel_rfl) rfl rfl [I o121.2.2.Kind, I o121.2.2.Pc, I o121.2.2.Item.Map, I o121.2.2.Item.Op, U o121.2.2.Item.Key, U o121.2.2.Item.Val, U o121.2.2.Val] rfl ?_
 intro w169 hst
 refine nx (CW.ret ?_)
 have hst := hst.toIt 4 rfl (fun _ => rfl) (by decide)
 have hst := hst.toIt 5 rfl (fun _ => rfl) (by decide)
 obtain ⟨S170, hst⟩ := hst.shutP2 (R_t129 (Pt b2)) rfl 0 4 5 [1, 2, 3] rfl rfl rfl rfl (engine_Machine.mk o121.1.Event o121.1.module o121.1.regs o121.1.turns (w64 (o121.1.at_ + 1)) o121.1.steps o121.1.state) rfl rfl
 obtain rfl := inj hF
 refine QW.ret_c rfl rfl (run_loadN (cs := [I o121.2.2.Kind, I o121.2.2.Pc, I o121.2.2.Item.Map, I o121.2.2.Item.Op, U o121.2.2.Item.Key, U o121.2.2.Item.Val, U o121.2.2.Val]) (by kernel_rfl) (by kernel_rfl) (hst.blkN 1 rfl 0 7)) ?_
 exact ⟨S170, S120, rfl, hst.keep [3, 0] rfl⟩
theorem engine_Machine_source_ok (w : World) (b0 : Nat) (v0_0 : Value) (v0_1 : Value) (v0_2 : Value) (p0 : engine_Machine) (p1 : api_Inst) (r : Int) (hF : engine_Machine_source p0 p1 = some r)
    (hst : St w (fp []) w []) (h0 : RdB w (fp []) b0 [U p0.Event.A, U p0.Event.B, v0_0, v0_1, v0_2, U (p0.regs 0), U (p0.regs 1), U (p0.regs 2), U (p0.regs 3), U (p0.regs 4), U (p0.regs 5), U (p0.regs 6), U (p0.regs 7), I (p0.turns 0), I (p0.turns 1), I (p0.turns 2), I (p0.turns 3), I (p0.turns 4), I (p0.turns 5), I (p0.turns 6), I (p0.turns 7), I (p0.turns 8), I (p0.turns 9), I (p0.turns 10), I (p0.turns 11), I (p0.turns 12), I (p0.turns 13), I (p0.turns 14), I (p0.turns 15), I (p0.turns 16), I (p0.turns 17), I (p0.turns 18), I (p0.turns 19), I (p0.turns 20), I (p0.turns 21), I (p0.turns 22), I (p0.turns 23), I (p0.turns 24), I (p0.turns 25), I (p0.turns 26), I (p0.turns 27), I (p0.turns 28), I (p0.turns 29), I (p0.turns 30), I (p0.turns 31), I (p0.turns 32), I (p0.turns 33), I (p0.turns 34), I (p0.turns 35), I (p0.turns 36), I (p0.turns 37), I (p0.turns 38), I (p0.turns 39), I (p0.turns 40), I (p0.turns 41), I (p0.turns 42), I (p0.turns 43), I (p0.turns 44), I (p0.turns 45), I (p0.turns 46), I (p0.turns 47), I (p0.turns 48), I (p0.turns 49), I (p0.turns 50), I (p0.turns 51), I (p0.turns 52), I (p0.turns 53), I (p0.turns 54), I (p0.turns 55), I (p0.turns 56), I (p0.turns 57), I (p0.turns 58), I (p0.turns 59), I (p0.turns 60), I (p0.turns 61), I (p0.turns 62), I (p0.turns 63), I p0.at_, I p0.steps, I p0.state]) :
    Calls Tryd.prog 66 [Pt b0, .agg [I p1.Op, I p1.D, I p1.A, I p1.B, I p1.Imm].toArray].toArray w (fun e w' => e = .returned (U r) ∧ St w (fp []) w' []) := by
 refine CW.start (N := 18) Tryd.func66 rfl rfl rfl (rg ?_)
 refine OW.box hst rfl rfl rfl rfl [I p1.Op, I p1.D, I p1.A, I p1.B, I p1.Imm] rfl ?_
 intro b3 w4 hst
 refine pu 1 [] (nx (CW.seq (rg ?_)))
 refine pu 1 [(5, .pointer (some ⟨b3, 3, none⟩))] ?_
 refine OW.ld rfl rfl rfl rfl (by kernel_rfl) (hst.blk 0 rfl rfl) ?_
 refine pu 1 [(7, .bool (p1.B == 8))] (nx ?_)
 refine br ((p1.B == 8)) hF (fun hF hc5 => ?_) (fun hF hc5 => ?_)
 ·refine rg ?_
  refine pu 1 [(8, .pointer (some ⟨b3, 4, none⟩))] ?_
  refine OW.ld rfl rfl rfl rfl (by kernel_rfl) (hst.blk 0 rfl rfl) ?_
  refine pu 2 [(4, U (wu64 p1.Imm))] (nx (CW.ret (QW.then_ret ?_)))
  obtain rfl := inj hF
  refine QW.ret1 rfl rfl ?_
  exact ⟨rfl, hst.keep [] rfl⟩
 refine CW.skip (QW.next (CW.seq ?_))
 refine CW.still (by kernel_rfl) (by kernel_rfl) ?_
 intro w10 hch11
 have hst := hst.same hch11
 refine OS.pure 2 [(11, Pt b0), (12, .pointer (some ⟨b3, 3, none⟩))] rfl (by kernel_rfl) ?_
 refine OS.ld rfl rfl rfl rfl rfl (by kernel_rfl) (hst.blk 0 rfl rfl) ?_
 refine OS.pure 2 [(15, .pointer (some ⟨b0, 5, none⟩))] rfl (by kernel_rfl) ?_
 obtain ⟨i12, hi13, hF⟩ := bs hF
 refine OS.op (v := .pointer (some ⟨b0, 5 + Int.toNat p1.B * 1, none⟩)) rfl rfl rfl rfl rfl (fun a ha => aidx_run (n := 8) 22 1 rfl rfl rfl (ain_some hi13).1 (ain_some hi13).2.1 (by kernel_rfl) (by kernel_rfl) a _ ha) ?_
 refine OS.ld rfl rfl rfl rfl rfl (by kernel_rfl) (h0.arr hst (encInt .u64) (fun _ => rfl) 8 p0.regs 5 rfl rfl hi13 0 _ rfl) ?_
 refine OS.pure 1 [(4, U (p0.regs i12))] rfl (by kernel_rfl) ?_
 refine OS.fin rfl (QW.next (CW.ret ?_))
 obtain rfl := inj hF
 refine QW.ret1 rfl rfl ?_
 exact ⟨rfl, hst.keep [] rfl⟩
theorem scratch_Words_Load_ok (w : World) (b0 : Nat) (T0 : TypeId) (A0 C0 : List Value) (p0 : scratch_Words) (p1 : Int) (r : Int × Int) (hF : scratch_Words_Load p0 p1 = some r)
    (hst : St w (fp [partI b0 T0 A0 [U (p0.words 0), U (p0.words 1), U (p0.words 2), U (p0.words 3), U (p0.words 4), U (p0.words 5), U (p0.words 6), U (p0.words 7), U (p0.words 8), U (p0.words 9), U (p0.words 10), U (p0.words 11), U (p0.words 12), U (p0.words 13), U (p0.words 14), U (p0.words 15)] C0]) w [partI b0 T0 A0 [U (p0.words 0), U (p0.words 1), U (p0.words 2), U (p0.words 3), U (p0.words 4), U (p0.words 5), U (p0.words 6), U (p0.words 7), U (p0.words 8), U (p0.words 9), U (p0.words 10), U (p0.words 11), U (p0.words 12), U (p0.words 13), U (p0.words 14), U (p0.words 15)] C0]) :
    Calls Tryd.prog 67 [.pointer (some ⟨b0, A0.length + 0, none⟩), I p1].toArray w (fun e w' => e = .returned (.tuple #[U r.1, I r.2]) ∧ St w (fp [partI b0 T0 A0 [U (p0.words 0), U (p0.words 1), U (p0.words 2), U (p0.words 3), U (p0.words 4), U (p0.words 5), U (p0.words 6), U (p0.words 7), U (p0.words 8), U (p0.words 9), U (p0.words 10), U (p0.words 11), U (p0.words 12), U (p0.words 13), U (p0.words 14), U (p0.words 15)] C0]) w' [partI b0 T0 A0 [U (p0.words 0), U (p0.words 1), U (p0.words 2), U (p0.words 3), U (p0.words 4), U (p0.words 5), U (p0.words 6), U (p0.words 7), U (p0.words 8), U (p0.words 9), U (p0.words 10), U (p0.words 11), U (p0.words 12), U (p0.words 13), U (p0.words 14), U (p0.words 15)] C0]) := by
 refine CW.start (N := 18) Tryd.func67 rfl rfl rfl (rg ?_)
 refine pu 2 [] (nx (CW.seq (CW.seq ?_)))
 refine CW.cutK (fun a w1 => Rep 18 [(0, .pointer (some ⟨b0, A0.length + 0, none⟩)), (1, I p1), (11, .bool (decide (p1 < 0) || decide (p1 ≥ 16)))] a ∧ St w (fp [partI b0 T0 A0 [U (p0.words 0), U (p0.words 1), U (p0.words 2), U (p0.words 3), U (p0.words 4), U (p0.words 5), U (p0.words 6), U (p0.words 7), U (p0.words 8), U (p0.words 9), U (p0.words 10), U (p0.words 11), U (p0.words 12), U (p0.words 13), U (p0.words 14), U (p0.words 15)] C0]) w1 [partI b0 T0 A0 [U (p0.words 0), U (p0.words 1), U (p0.words 2), U (p0.words 3), U (p0.words 4), U (p0.words 5), U (p0.words 6), U (p0.words 7), U (p0.words 8), U (p0.words 9), U (p0.words 10), U (p0.words 11), U (p0.words 12), U (p0.words 13), U (p0.words 14), U (p0.words 15)] C0]) ?_ ?_
 ·refine CW.region ?_
  refine pu 3 [(8, .bool (decide (p1 < 0)))] ?_
  refine OW.split 8 rfl (fun hc1 => ?_) (fun hc1 => ?_)
  ·refine pu 3 [(11, .bool true)] (OW.nil rfl ?_)
   refine QW.say 11 (v := .bool (decide (p1 < 0) || decide (p1 ≥ 16))) rfl (by first | (rw [hc1]; done) | (rw [hc1]; rfl) | simp [hc1]) ?_
   exact QW.meet (fun a ha => ⟨ha.ag, hst.keep [0] rfl⟩)
  refine pu 3 [(11, .bool (decide (p1 ≥ 16)))] (OW.nil rfl ?_)
  refine QW.say 11 (v := .bool (decide (p1 < 0) || decide (p1 ≥ 16))) rfl (by first | (rw [hc1]; done) | (rw [hc1]; rfl) | simp [hc1]) ?_
  exact QW.meet (fun a ha => ⟨ha.ag, hst.keep [0] rfl⟩)
 rintro a w1 ⟨ha, hst⟩
 refine CW.go ?_ ha
 refine br ((decide (p1 < 0) || decide (p1 ≥ 16))) hF (fun hF hc2 => ?_) (fun hF hc2 => ?_)
 ·refine rg ?_
  refine pu 2 [(4, U 0), (5, I 35)] (nx (CW.ret (QW.then_ret ?_)))
  obtain rfl := inj hF
  refine QW.ret2 rfl rfl rfl ?_
  exact ⟨rfl, hst.keep [0] rfl⟩
 refine CW.skip (QW.next (rg ?_))
 refine pu 4 [(13, I p1), (15, .pointer (some ⟨b0, A0.length + 0, none⟩))] ?_
 obtain ⟨i5, hi6, hF⟩ := bs hF
 refine OW.op (v := .pointer (some ⟨b0, A0.length + 0 + Int.toNat p1 * 1, none⟩)) rfl rfl rfl rfl (fun a ha => aidx_run (n := 16) 22 1 rfl rfl rfl (ain_some hi6).1 (ain_some hi6).2.1 (by kernel_rfl) (by kernel_rfl) a _ ha) ?_
 refine OW.ld rfl rfl rfl rfl (by kernel_rfl) (hst.arrP 0 rfl (encInt .u64) (fun _ => rfl) 16 p0.words 0 rfl rfl hi6 0 _ rfl) ?_
 refine pu 2 [(4, U (p0.words i5)), (5, I 0)] (nx (CW.ret ?_))
 obtain rfl := inj hF
 refine QW.ret2 rfl rfl rfl ?_
 exact ⟨rfl, hst.keep [0] rfl⟩
theorem scratch_Words_Store_ok (w : World) (b0 : Nat) (T0 : TypeId) (A0 C0 : List Value) (p0 : scratch_Words) (p1 : Int) (p2 : Int) (r : Int × scratch_Words) (hF : scratch_Words_Store p0 p1 p2 = some r)
    (hst : St w (fp [partI b0 T0 A0 [U (p0.words 0), U (p0.words 1), U (p0.words 2), U (p0.words 3), U (p0.words 4), U (p0.words 5), U (p0.words 6), U (p0.words 7), U (p0.words 8), U (p0.words 9), U (p0.words 10), U (p0.words 11), U (p0.words 12), U (p0.words 13), U (p0.words 14), U (p0.words 15)] C0]) w [partI b0 T0 A0 [U (p0.words 0), U (p0.words 1), U (p0.words 2), U (p0.words 3), U (p0.words 4), U (p0.words 5), U (p0.words 6), U (p0.words 7), U (p0.words 8), U (p0.words 9), U (p0.words 10), U (p0.words 11), U (p0.words 12), U (p0.words 13), U (p0.words 14), U (p0.words 15)] C0]) :
    Calls Tryd.prog 68 [.pointer (some ⟨b0, A0.length + 0, none⟩), I p1, U p2].toArray w (fun e w' => e = .returned (I r.1) ∧ St w (fp [partI b0 T0 A0 [U (p0.words 0), U (p0.words 1), U (p0.words 2), U (p0.words 3), U (p0.words 4), U (p0.words 5), U (p0.words 6), U (p0.words 7), U (p0.words 8), U (p0.words 9), U (p0.words 10), U (p0.words 11), U (p0.words 12), U (p0.words 13), U (p0.words 14), U (p0.words 15)] C0]) w' [partI b0 T0 A0 [U (r.2.words 0), U (r.2.words 1), U (r.2.words 2), U (r.2.words 3), U (r.2.words 4), U (r.2.words 5), U (r.2.words 6), U (r.2.words 7), U (r.2.words 8), U (r.2.words 9), U (r.2.words 10), U (r.2.words 11), U (r.2.words 12), U (r.2.words 13), U (r.2.words 14), U (r.2.words 15)] C0]) := by
 refine CW.start (N := 19) Tryd.func68 rfl rfl rfl (rg ?_)
 refine pu 1 [] (nx (CW.seq (CW.seq ?_)))
 refine CW.cutK (fun a w1 => Rep 19 [(0, .pointer (some ⟨b0, A0.length + 0, none⟩)), (1, I p1), (2, U p2), (12, .bool (decide (p1 < 0) || decide (p1 ≥ 16)))] a ∧ St w (fp [partI b0 T0 A0 [U (p0.words 0), U (p0.words 1), U (p0.words 2), U (p0.words 3), U (p0.words 4), U (p0.words 5), U (p0.words 6), U (p0.words 7), U (p0.words 8), U (p0.words 9), U (p0.words 10), U (p0.words 11), U (p0.words 12), U (p0.words 13), U (p0.words 14), U (p0.words 15)] C0]) w1 [partI b0 T0 A0 [U (p0.words 0), U (p0.words 1), U (p0.words 2), U (p0.words 3), U (p0.words 4), U (p0.words 5), U (p0.words 6), U (p0.words 7), U (p0.words 8), U (p0.words 9), U (p0.words 10), U (p0.words 11), U (p0.words 12), U (p0.words 13), U (p0.words 14), U (p0.words 15)] C0]) ?_ ?_
 ·refine CW.region ?_
  refine pu 3 [(9, .bool (decide (p1 < 0)))] ?_
  refine OW.split 9 rfl (fun hc1 => ?_) (fun hc1 => ?_)
  ·refine pu 3 [(12, .bool true)] (OW.nil rfl ?_)
   refine QW.say 12 (v := .bool (decide (p1 < 0) || decide (p1 ≥ 16))) rfl (by first | (rw [hc1]; done) | (rw [hc1]; rfl) | simp [hc1]) ?_
   exact QW.meet (fun a ha => ⟨ha.ag, hst.keep [0] rfl⟩)
  refine pu 3 [(12, .bool (decide (p1 ≥ 16)))] (OW.nil rfl ?_)
  refine QW.say 12 (v := .bool (decide (p1 < 0) || decide (p1 ≥ 16))) rfl (by first | (rw [hc1]; done) | (rw [hc1]; rfl) | simp [hc1]) ?_
  exact QW.meet (fun a ha => ⟨ha.ag, hst.keep [0] rfl⟩)
 rintro a w1 ⟨ha, hst⟩
 refine CW.go ?_ ha
 refine br ((decide (p1 < 0) || decide (p1 ≥ 16))) hF (fun hF hc2 => ?_) (fun hF hc2 => ?_)
 ·refine rg ?_
  refine pu 1 [(6, I 35)] (nx (CW.ret (QW.then_ret ?_)))
  obtain rfl := inj hF
  refine QW.ret1 rfl rfl ?_
  exact ⟨rfl, hst.keep [0] rfl⟩
 refine CW.skip (QW.next (rg ?_))
 refine pu 5 [(14, I p1), (15, U p2), (17, .pointer (some ⟨b0, A0.length + 0, none⟩))] ?_
 obtain ⟨i6, hi7, hF⟩ := bs hF
 refine OW.op (v := .pointer (some ⟨b0, A0.length + 0 + Int.toNat p1 * 1, none⟩)) rfl rfl rfl rfl (fun a ha => aidx_run (n := 16) 22 1 rfl rfl rfl (ain_some hi7).1 (ain_some hi7).2.1 (by kernel_rfl) (by kernel_rfl) a _ ha) ?_
 refine OW.stPA hst 0 rfl rfl rfl rfl rfl (by kernel_rfl) rfl (encInt .u64) (fun _ => rfl) 16 p0.words 0 rfl rfl hi7 0 rfl rfl p2 rfl [U ((aset p0.words i6 p2) 0), U ((aset p0.words i6 p2) 1), U ((aset p0.words i6 p2) 2), U ((aset p0.words i6 p2) 3), U ((aset p0.words i6 p2) 4), U ((aset p0.words i6 p2) 5), U ((aset p0.words i6 p2) 6), U ((aset p0.words i6 p2) 7), U ((aset p0.words i6 p2) 8), U ((aset p0.words i6 p2) 9), U ((aset p0.words i6 p2) 10), U ((aset p0.words i6 p2) 11), U ((aset p0.words i6 p2) 12), U ((aset p0.words i6 p2) 13), U ((aset p0.words i6 p2) 14), U ((aset p0.words i6 p2) 15)] rfl ?_
 intro w8 hst
 refine nx (rg ?_)
 refine pu 1 [(6, I 0)] (nx (CW.ret ?_))
 obtain rfl := inj hF
 refine QW.ret1 rfl rfl ?_
 exact ⟨rfl, hst.keep [0] rfl⟩
end Go.Proofs.YtkgajppghpmkbaaDoor

/- Written by a program (wip/gen): the walks: each Go function returns what its plain function computes. -/
import Derived.Test.YtojemiffchkkdaaDoorProg
import Derived.Test.YtojemiffchkkdaaDoorF1
import Derived.Test.YtojemiffchkkdaaDoorOpen
import Derived.Test.YtojemiffchkkdaaDoorArr
import Derived.Test.YtojemiffchkkdaaDoorW1p2
namespace Go.Proofs.YtojemiffchkkdaaDoor
open Go.Sx
set_option linter.unusedVariables false

set_option maxRecDepth 10000 in
set_option maxHeartbeats 4000000 in
theorem judge_judge_ways_ok (w : World) (wb : World) (Sb : List Nat) (v0 : Value) (S0 : List Nat) (p0 : judge_judge) (p1 : Int) (p2 : Nat → api_Type) (r : judge_judge) (hF : judge_judge_ways p0 p1 p2 = some r)
    (hst : St w (fp [itI (R_t49 wb Sb) [v0] S0 p0]) w [itI (R_t49 wb Sb) [v0] S0 p0]) (hb : Bor wb Sb w (fp [itI (R_t49 wb Sb) [v0] S0 p0])) (hT0 : Rd w (fp [itI (R_t49 wb Sb) [v0] S0 p0]) (.slice (some ⟨0, 0, none⟩) 23 23) enc_ops_form 2 tab_g0) :
    Calls Tryd.prog 20 [v0, .int .i64 p1, .agg [.int .i64 (p2 0).Kind, .int .u64 (p2 0).Span.Lo, .int .u64 (p2 0).Span.Hi, .int .i64 (p2 0).Map, .int .i64 (p2 1).Kind, .int .u64 (p2 1).Span.Lo, .int .u64 (p2 1).Span.Hi, .int .i64 (p2 1).Map, .int .i64 (p2 2).Kind, .int .u64 (p2 2).Span.Lo, .int .u64 (p2 2).Span.Hi, .int .i64 (p2 2).Map, .int .i64 (p2 3).Kind, .int .u64 (p2 3).Span.Lo, .int .u64 (p2 3).Span.Hi, .int .i64 (p2 3).Map, .int .i64 (p2 4).Kind, .int .u64 (p2 4).Span.Lo, .int .u64 (p2 4).Span.Hi, .int .i64 (p2 4).Map, .int .i64 (p2 5).Kind, .int .u64 (p2 5).Span.Lo, .int .u64 (p2 5).Span.Hi, .int .i64 (p2 5).Map, .int .i64 (p2 6).Kind, .int .u64 (p2 6).Span.Lo, .int .u64 (p2 6).Span.Hi, .int .i64 (p2 6).Map, .int .i64 (p2 7).Kind, .int .u64 (p2 7).Span.Lo, .int .u64 (p2 7).Span.Hi, .int .i64 (p2 7).Map].toArray].toArray w (fun e w' => ∃ (s0 : List Nat), e = .returned (.tuple #[]) ∧ St w (fp [itI (R_t49 wb Sb) [v0] S0 p0]) w' [itI (R_t49 wb Sb) [v0] s0 r]) := by
 refine CW.start (N := 93) Tryd.func20 rfl rfl rfl ?_
 obtain ⟨b1, rfl⟩ := hst.fptr 0 rfl
 refine CW.seq ?_
 refine CW.region ?_
 refine OW.box hst rfl rfl rfl rfl [.int .i64 (p2 0).Kind, .int .u64 (p2 0).Span.Lo, .int .u64 (p2 0).Span.Hi, .int .i64 (p2 0).Map, .int .i64 (p2 1).Kind, .int .u64 (p2 1).Span.Lo, .int .u64 (p2 1).Span.Hi, .int .i64 (p2 1).Map, .int .i64 (p2 2).Kind, .int .u64 (p2 2).Span.Lo, .int .u64 (p2 2).Span.Hi, .int .i64 (p2 2).Map, .int .i64 (p2 3).Kind, .int .u64 (p2 3).Span.Lo, .int .u64 (p2 3).Span.Hi, .int .i64 (p2 3).Map, .int .i64 (p2 4).Kind, .int .u64 (p2 4).Span.Lo, .int .u64 (p2 4).Span.Hi, .int .i64 (p2 4).Map, .int .i64 (p2 5).Kind, .int .u64 (p2 5).Span.Lo, .int .u64 (p2 5).Span.Hi, .int .i64 (p2 5).Map, .int .i64 (p2 6).Kind, .int .u64 (p2 6).Span.Lo, .int .u64 (p2 6).Span.Hi, .int .i64 (p2 6).Map, .int .i64 (p2 7).Kind, .int .u64 (p2 7).Span.Lo, .int .u64 (p2 7).Span.Hi, .int .i64 (p2 7).Map] rfl ?_
 intro b4 w5 hst
 refine OW.nil rfl ?_
 refine QW.next ?_
 refine CW.seq ?_
 obtain ⟨v6, S7, v8, S9, v10, S11, v12, S13, v14, S15, hst⟩ := hst.openQ5 0 rfl rfl rfl rfl rfl rfl
 have hbo16 := hst.borOut 2 rfl
 have hbr17 := hbo16.bor hb
 have hbo18 := hst.borOut 3 rfl
 have hbr19 := hbo18.bor hb
 have hst := hst.toRow1 4 rfl
 have hst := hst.toRow1 5 rfl
 have hst := hst.toRow1 6 rfl
 have hst := hst.keep [0, 1, 4, 5, 6] rfl
 obtain ⟨l20, a21, c22, rfl⟩ := hbr17.len
 obtain ⟨l23, a24, c25, rfl⟩ := hbr19.len
 obtain ⟨l26, a27, c28, rfl⟩ := hst.len 2 rfl
 obtain ⟨l29, a30, c31, rfl⟩ := hst.len 3 rfl
 obtain ⟨l32, a33, c34, rfl⟩ := hst.len 4 rfl
 have hst : St _ _ _ [blkI b1 56 [.slice a21 (p0.Module.Maps).length c22, .slice a24 (p0.Module.Code).length c25, .slice a27 (p0.came).length c28, .slice a30 (p0.any).length c31, .slice a33 (p0.loops).length c34], _, _, _, _] := hst
 refine CW.region ?_
 refine OW.pure 4 [(20, .pointer (some ⟨b1, 1, none⟩))] (by kernel_rfl) ?_
 refine OW.ld rfl rfl rfl rfl (by kernel_rfl) (hst.blk 0 rfl rfl) ?_
 refine OW.pure 1 [(22, .int .i64 p1)] (by kernel_rfl) ?_
 obtain ⟨x44, hx45, hF⟩ := bind_some' hF
 obtain ⟨g47, o48, c49, hv46⟩ := hbr19.formv (fun _ => ⟨_, rfl⟩) hx45
 refine OW.idx 42 5 rfl rfl rfl rfl hv46 rfl (idx_some hx45).1 (idx_some hx45).2.1 (by kernel_rfl) (by kernel_rfl) ?_
 refine OW.ldN (cs := enc_api_Inst x44) rfl rfl rfl rfl (by kernel_rfl) (by kernel_rfl) (hbr19.cellv hst hx45 hv46) ?_
 refine OW.alloc hst rfl rfl rfl [.int .i64 0, .int .i64 0, .int .i64 0, .int .i64 0, .int .i64 0] (by kernel_rfl) ?_
 intro b50 w51 hst
 refine OW.stB hst 5 rfl rfl rfl rfl rfl (by kernel_rfl) rfl rfl [.int .i64 x44.Op, .int .i64 x44.D, .int .i64 x44.A, .int .i64 x44.B, .int .i64 x44.Imm] rfl ?_
 intro w52 hst
 refine OW.nil rfl ?_
 refine QW.next ?_
 refine CW.seq ?_
 refine CW.region ?_
 refine OW.ldN (cs := [.int .i64 x44.Op, .int .i64 x44.D, .int .i64 x44.A, .int .i64 x44.B, .int .i64 x44.Imm]) rfl rfl rfl rfl (by kernel_rfl) (by kernel_rfl) (hst.blkN 5 rfl 0 5) ?_
 obtain ⟨r57, hr58, hF⟩ := bind_some' hF
 refine OW.fn rfl rfl rfl rfl (by kernel_rfl) (ops_Goes_ok _ x44 r57 hr58 (hst.part [] rfl) (hT0.give hst [])) ?_
 rintro e w59 ⟨rfl, hst60⟩
 refine ⟨_, rfl, ?_⟩
 have hst := hst.join (idx := []) (rest := [0, 1, 2, 3, 4, 5]) rfl hst60
 refine OW.pure 7 [(7, .int .i64 r57.1), (8, .bool r57.2.1), (9, .bool r57.2.2)] (by kernel_rfl) ?_
 refine OW.nil rfl ?_
 refine QW.next ?_
 refine CW.seq ?_
 refine CW.seq ?_
 refine CW.cutK (fun a w1 => Rep 93 [(0, .pointer (some ⟨b1, 0, none⟩)), (1, .int .i64 p1), (5, .pointer (some ⟨b4, 0, none⟩)), (6, .pointer (some ⟨b50, 0, none⟩)), (7, .int .i64 r57.1), (9, .bool r57.2.2), (36, .bool ((!r57.2.1) || decide (r57.1 < 0)))] a ∧ St w (fp [itI (R_t49 wb Sb) [.pointer (some ⟨b1, 0, none⟩)] S0 p0]) w1 [blkI b1 56 [.slice a21 (p0.Module.Maps).length c22, .slice a24 (p0.Module.Code).length c25, .slice a27 (p0.came).length c28, .slice a30 (p0.any).length c31, .slice a33 (p0.loops).length c34], blkI b4 58 [.int .i64 (p2 0).Kind, .int .u64 (p2 0).Span.Lo, .int .u64 (p2 0).Span.Hi, .int .i64 (p2 0).Map, .int .i64 (p2 1).Kind, .int .u64 (p2 1).Span.Lo, .int .u64 (p2 1).Span.Hi, .int .i64 (p2 1).Map, .int .i64 (p2 2).Kind, .int .u64 (p2 2).Span.Lo, .int .u64 (p2 2).Span.Hi, .int .i64 (p2 2).Map, .int .i64 (p2 3).Kind, .int .u64 (p2 3).Span.Lo, .int .u64 (p2 3).Span.Hi, .int .i64 (p2 3).Map, .int .i64 (p2 4).Kind, .int .u64 (p2 4).Span.Lo, .int .u64 (p2 4).Span.Hi, .int .i64 (p2 4).Map, .int .i64 (p2 5).Kind, .int .u64 (p2 5).Span.Lo, .int .u64 (p2 5).Span.Hi, .int .i64 (p2 5).Map, .int .i64 (p2 6).Kind, .int .u64 (p2 6).Span.Lo, .int .u64 (p2 6).Span.Hi, .int .i64 (p2 6).Map, .int .i64 (p2 7).Kind, .int .u64 (p2 7).Span.Lo, .int .u64 (p2 7).Span.Hi, .int .i64 (p2 7).Map], rowI (.slice a27 (p0.came).length c28) 58 (arrC (enc_api_Type) 8) 32 p0.came, rowI (.slice a30 (p0.any).length c31) 4 encBool 1 p0.any, rowI (.slice a33 (p0.loops).length c34) 73 enc_api_Loop 3 p0.loops, blkI b50 42 [.int .i64 x44.Op, .int .i64 x44.D, .int .i64 x44.A, .int .i64 x44.B, .int .i64 x44.Imm]]) ?_ ?_
 ·refine CW.region ?_
  refine OW.pure 3 [(33, .bool (!r57.2.1))] (by kernel_rfl) ?_
  refine OW.split 33 rfl (fun hc61 => ?_) (fun hc61 => ?_)
  ·refine OW.pure 3 [(36, .bool true)] (by kernel_rfl) ?_
   refine OW.nil rfl ?_
   refine QW.say 36 (v := .bool ((!r57.2.1) || decide (r57.1 < 0))) rfl (by first | (rw [hc61]; done) | (rw [hc61]; rfl) | simp [hc61]) ?_
   exact QW.meet (fun a ha => ⟨ha.agrees (by kernel_rfl), hst.keep [0, 1, 2, 3, 4, 5] rfl⟩)
  ·refine OW.pure 3 [(36, .bool (decide (r57.1 < 0)))] (by kernel_rfl) ?_
   refine OW.nil rfl ?_
   refine QW.say 36 (v := .bool ((!r57.2.1) || decide (r57.1 < 0))) rfl (by first | (rw [hc61]; done) | (rw [hc61]; rfl) | simp [hc61]) ?_
   exact QW.meet (fun a ha => ⟨ha.agrees (by kernel_rfl), hst.keep [0, 1, 2, 3, 4, 5] rfl⟩)
 ·rintro a w1 ⟨ha, hst⟩
  refine CW.go ?_ ha
  rcases Bool.eq_false_or_eq_true (((!r57.2.1) || decide (r57.1 < 0))) with hc62 | hc62
  ·have hF := ite_t hF hc62
   refine CW.cond_t rfl hc62 ?_
   refine CW.seq ?_
   refine CW.seq ?_
   refine CW.region ?_
   refine OW.pure 1 [(37, .bool r57.2.2)] (by kernel_rfl) ?_
   refine OW.nil rfl ?_
   refine QW.next ?_
   obtain ⟨o78, ho79, hF⟩ := bind_some' hF
   refine CW.cutK (fun a w1 => ∃ (S77 : List Nat), Rep 93 [] a ∧ St w (fp [itI (R_t49 wb Sb) [.pointer (some ⟨b1, 0, none⟩)] S0 p0]) w1 [itI (R_t49 wb Sb) [.pointer (some ⟨b1, 0, none⟩)] S77 o78]) ?_ ?_
   ·rcases Bool.eq_false_or_eq_true (r57.2.2) with hc80 | hc80
    ·have ho79 := ite_t ho79 hc80
     refine CW.cond_t rfl hc80 ?_
     refine CW.region ?_
     refine OW.pure 3 [(38, .pointer (some ⟨b1, 0, none⟩)), (40, .int .i64 (w64 (p1 + 1)))] (by kernel_rfl) ?_
     refine OW.ldN (cs := [.int .i64 (p2 0).Kind, .int .u64 (p2 0).Span.Lo, .int .u64 (p2 0).Span.Hi, .int .i64 (p2 0).Map, .int .i64 (p2 1).Kind, .int .u64 (p2 1).Span.Lo, .int .u64 (p2 1).Span.Hi, .int .i64 (p2 1).Map, .int .i64 (p2 2).Kind, .int .u64 (p2 2).Span.Lo, .int .u64 (p2 2).Span.Hi, .int .i64 (p2 2).Map, .int .i64 (p2 3).Kind, .int .u64 (p2 3).Span.Lo, .int .u64 (p2 3).Span.Hi, .int .i64 (p2 3).Map, .int .i64 (p2 4).Kind, .int .u64 (p2 4).Span.Lo, .int .u64 (p2 4).Span.Hi, .int .i64 (p2 4).Map, .int .i64 (p2 5).Kind, .int .u64 (p2 5).Span.Lo, .int .u64 (p2 5).Span.Hi, .int .i64 (p2 5).Map, .int .i64 (p2 6).Kind, .int .u64 (p2 6).Span.Lo, .int .u64 (p2 6).Span.Hi, .int .i64 (p2 6).Map, .int .i64 (p2 7).Kind, .int .u64 (p2 7).Span.Lo, .int .u64 (p2 7).Span.Hi, .int .i64 (p2 7).Map]) rfl rfl rfl rfl (by kernel_rfl) (by kernel_rfl) (hst.blkN 1 rfl 0 32) ?_
     have hst := hst.borIn hbo16
     have hst := hst.borIn hbo18
     have hst := hst.toIt 2 rfl (fun _ => rfl) (by decide)
     have hst := hst.toIt 3 rfl (fun _ => rfl) (by decide)
     have hst := hst.toIt 4 rfl (fun _ => rfl) (by decide)
     obtain ⟨S87, hst⟩ := hst.shutP5 (R_t56 wb Sb) rfl 0 6 7 2 3 4 [1, 5] rfl rfl rfl rfl rfl rfl rfl p0 rfl rfl
     obtain ⟨r88, hr89, ho79⟩ := bind_some' ho79
     refine OW.fn rfl rfl rfl rfl (by kernel_rfl) (judge_judge_come_ok _ wb Sb (.pointer (some ⟨b1, 0, none⟩)) S87 p0 (w64 (p1 + 1)) p2 r88 hr89 (hst.part [2] rfl) (hb.on hst [2])) ?_
     rintro e w90 ⟨S92, rfl, hst91⟩
     refine ⟨_, rfl, ?_⟩
     have hst := hst.join (idx := [2]) (rest := [0, 1]) rfl hst91
     refine OW.nil rfl ?_
     obtain rfl := Option.some.inj ho79
     exact QW.meet (fun a ha => ⟨S92, ha.agrees (by kernel_rfl), hst.keep [0] rfl⟩)
    ·have ho79 := ite_f ho79 hc80
     refine CW.cond_f rfl hc80 ?_
     refine CW.skip ?_
     have hst := hst.borIn hbo16
     have hst := hst.borIn hbo18
     have hst := hst.toIt 2 rfl (fun _ => rfl) (by decide)
     have hst := hst.toIt 3 rfl (fun _ => rfl) (by decide)
     have hst := hst.toIt 4 rfl (fun _ => rfl) (by decide)
     obtain ⟨S93, hst⟩ := hst.shutP5 (R_t56 wb Sb) rfl 0 6 7 2 3 4 [1, 5] rfl rfl rfl rfl rfl rfl rfl p0 rfl rfl
     obtain rfl := Option.some.inj ho79
     exact QW.meet (fun a ha => ⟨S93, ha.agrees (by kernel_rfl), hst.keep [2] rfl⟩)
   ·rintro a w1 ⟨S77, ha, hst⟩
    refine CW.go ?_ ha
    refine CW.ret ?_
    refine QW.then_ret ?_
    obtain rfl := Option.some.inj hF
    refine QW.ret0 rfl ?_
    exact ⟨S77, rfl, hst.keep [0] rfl⟩
  ·have hF := ite_f hF hc62
   refine CW.cond_f rfl hc62 ?_
   refine CW.skip ?_
   refine QW.next ?_
   refine CW.seq ?_
   refine CW.seq ?_
   refine CW.region ?_
   refine OW.pure 2 [(44, .bool (!r57.2.2))] (by kernel_rfl) ?_
   refine OW.nil rfl ?_
   refine QW.next ?_
   rcases Bool.eq_false_or_eq_true ((!r57.2.2)) with hc94 | hc94
   ·have hF := ite_t hF hc94
    refine CW.cond_t rfl hc94 ?_
    refine CW.seq ?_
    refine CW.region ?_
    refine OW.pure 4 [(45, .pointer (some ⟨b1, 0, none⟩)), (48, .int .i64 (w64 (p1 + r57.1)))] (by kernel_rfl) ?_
    refine OW.ldN (cs := [.int .i64 (p2 0).Kind, .int .u64 (p2 0).Span.Lo, .int .u64 (p2 0).Span.Hi, .int .i64 (p2 0).Map, .int .i64 (p2 1).Kind, .int .u64 (p2 1).Span.Lo, .int .u64 (p2 1).Span.Hi, .int .i64 (p2 1).Map, .int .i64 (p2 2).Kind, .int .u64 (p2 2).Span.Lo, .int .u64 (p2 2).Span.Hi, .int .i64 (p2 2).Map, .int .i64 (p2 3).Kind, .int .u64 (p2 3).Span.Lo, .int .u64 (p2 3).Span.Hi, .int .i64 (p2 3).Map, .int .i64 (p2 4).Kind, .int .u64 (p2 4).Span.Lo, .int .u64 (p2 4).Span.Hi, .int .i64 (p2 4).Map, .int .i64 (p2 5).Kind, .int .u64 (p2 5).Span.Lo, .int .u64 (p2 5).Span.Hi, .int .i64 (p2 5).Map, .int .i64 (p2 6).Kind, .int .u64 (p2 6).Span.Lo, .int .u64 (p2 6).Span.Hi, .int .i64 (p2 6).Map, .int .i64 (p2 7).Kind, .int .u64 (p2 7).Span.Lo, .int .u64 (p2 7).Span.Hi, .int .i64 (p2 7).Map]) rfl rfl rfl rfl (by kernel_rfl) (by kernel_rfl) (hst.blkN 1 rfl 0 32) ?_
    have hst := hst.borIn hbo16
    have hst := hst.borIn hbo18
    have hst := hst.toIt 2 rfl (fun _ => rfl) (by decide)
    have hst := hst.toIt 3 rfl (fun _ => rfl) (by decide)
    have hst := hst.toIt 4 rfl (fun _ => rfl) (by decide)
    obtain ⟨S101, hst⟩ := hst.shutP5 (R_t56 wb Sb) rfl 0 6 7 2 3 4 [1, 5] rfl rfl rfl rfl rfl rfl rfl p0 rfl rfl
    obtain ⟨r102, hr103, hF⟩ := bind_some' hF
    refine OW.fn rfl rfl rfl rfl (by kernel_rfl) (judge_judge_come_ok _ wb Sb (.pointer (some ⟨b1, 0, none⟩)) S101 p0 (w64 (p1 + r57.1)) p2 r102 hr103 (hst.part [2] rfl) (hb.on hst [2])) ?_
    rintro e w104 ⟨S106, rfl, hst105⟩
    refine ⟨_, rfl, ?_⟩
    have hst := hst.join (idx := [2]) (rest := [0, 1]) rfl hst105
    refine OW.nil rfl ?_
    refine QW.next ?_
    refine CW.ret ?_
    refine QW.then_ret ?_
    obtain rfl := Option.some.inj hF
    refine QW.ret0 rfl ?_
    exact ⟨S106, rfl, hst.keep [0] rfl⟩
   ·have hF := ite_f hF hc94
    refine CW.cond_f rfl hc94 ?_
    refine CW.skip ?_
    refine QW.next ?_
    refine CW.seq ?_
    refine CW.region ?_
    refine OW.ldN (cs := [.int .i64 x44.Op, .int .i64 x44.D, .int .i64 x44.A, .int .i64 x44.B, .int .i64 x44.Imm]) rfl rfl rfl rfl (by kernel_rfl) (by kernel_rfl) (hst.blkN 5 rfl 0 5) ?_
    refine OW.ldN (cs := [.int .i64 (p2 0).Kind, .int .u64 (p2 0).Span.Lo, .int .u64 (p2 0).Span.Hi, .int .i64 (p2 0).Map, .int .i64 (p2 1).Kind, .int .u64 (p2 1).Span.Lo, .int .u64 (p2 1).Span.Hi, .int .i64 (p2 1).Map, .int .i64 (p2 2).Kind, .int .u64 (p2 2).Span.Lo, .int .u64 (p2 2).Span.Hi, .int .i64 (p2 2).Map, .int .i64 (p2 3).Kind, .int .u64 (p2 3).Span.Lo, .int .u64 (p2 3).Span.Hi, .int .i64 (p2 3).Map, .int .i64 (p2 4).Kind, .int .u64 (p2 4).Span.Lo, .int .u64 (p2 4).Span.Hi, .int .i64 (p2 4).Map, .int .i64 (p2 5).Kind, .int .u64 (p2 5).Span.Lo, .int .u64 (p2 5).Span.Hi, .int .i64 (p2 5).Map, .int .i64 (p2 6).Kind, .int .u64 (p2 6).Span.Lo, .int .u64 (p2 6).Span.Hi, .int .i64 (p2 6).Map, .int .i64 (p2 7).Kind, .int .u64 (p2 7).Span.Lo, .int .u64 (p2 7).Span.Hi, .int .i64 (p2 7).Map]) rfl rfl rfl rfl (by kernel_rfl) (by kernel_rfl) (hst.blkN 1 rfl 0 32) ?_
    obtain ⟨r114, hr115, hF⟩ := bind_some' hF
    refine OW.fn rfl rfl rfl rfl (by kernel_rfl) (judge_source_ok _ x44 p2 r114 hr115 (hst.part [] rfl)) ?_
    rintro e w116 ⟨rfl, hst117⟩
    refine ⟨_, rfl, ?_⟩
    have hst := hst.join (idx := []) (rest := [0, 1, 2, 3, 4, 5]) rfl hst117
    refine OW.alloc hst rfl rfl rfl [.int .i64 0, .int .u64 0, .int .u64 0, .int .i64 0] (by kernel_rfl) ?_
    intro b118 w119 hst
    refine OW.stB hst 6 rfl rfl rfl rfl rfl (by kernel_rfl) rfl rfl [.int .i64 r114.Kind, .int .u64 r114.Span.Lo, .int .u64 r114.Span.Hi, .int .i64 r114.Map] rfl ?_
    intro w120 hst
    refine OW.nil rfl ?_
    refine QW.next ?_
    refine CW.seq ?_
    refine CW.region ?_
    refine OW.row (α := Bool) (e := 4) (enc := encBool) (sz := 1) hst rfl rfl rfl [true, false] rfl (fun _ => rfl) rfl rfl (fun _ => by kernel_rfl) ?_
    intro g123 w124 hst
    refine OW.pure 2 [(55, .int .i64 2), (56, .int .i64 0)] (by kernel_rfl) ?_
    refine OW.nil rfl ?_
    refine QW.next ?_
    obtain ⟨o432, ho433, hF⟩ := bind_some' hF
    refine CW.cutQ (fun a w1 => ∃ (S431 : List Nat), Rep 93 [] a ∧ St w (fp [itI (R_t49 wb Sb) [.pointer (some ⟨b1, 0, none⟩)] S0 p0]) w1 [itI (R_t49 wb Sb) [.pointer (some ⟨b1, 0, none⟩)] S431 o432]) ?_ ?_
    ·refine CW.block ?_
     have hst := hst.borIn hbo16
     have hst := hst.borIn hbo18
     have hst := hst.toIt 2 rfl (fun _ => rfl) (by decide)
     have hst := hst.toIt 3 rfl (fun _ => rfl) (by decide)
     have hst := hst.toIt 4 rfl (fun _ => rfl) (by decide)
     obtain ⟨S434, hst⟩ := hst.shutP5 (R_t56 wb Sb) rfl 0 8 9 2 3 4 [1, 5, 6, 7] rfl rfl rfl rfl rfl rfl rfl p0 rfl rfl
     refine CW.loop (fun n a w1 => ∃ (i639 : Nat) (s637 : judge_judge) (S638 : List Nat), i639 + n = 2 ∧ Rep 93 [(0, .pointer (some ⟨b1, 0, none⟩)), (1, .int .i64 p1), (5, .pointer (some ⟨b4, 0, none⟩)), (6, .pointer (some ⟨b50, 0, none⟩)), (7, .int .i64 r57.1), (10, .pointer (some ⟨b118, 0, none⟩)), (54, .slice (some ⟨g123, 0, none⟩) 2 2), (55, .int .i64 2), (56, .int .i64 (i639 : Int))] a ∧ St w (fp [itI (R_t49 wb Sb) [.pointer (some ⟨b1, 0, none⟩)] S0 p0]) w1 [itI (R_t49 wb Sb) [.pointer (some ⟨b1, 0, none⟩)] S638 s637, blkI b4 58 [.int .i64 (p2 0).Kind, .int .u64 (p2 0).Span.Lo, .int .u64 (p2 0).Span.Hi, .int .i64 (p2 0).Map, .int .i64 (p2 1).Kind, .int .u64 (p2 1).Span.Lo, .int .u64 (p2 1).Span.Hi, .int .i64 (p2 1).Map, .int .i64 (p2 2).Kind, .int .u64 (p2 2).Span.Lo, .int .u64 (p2 2).Span.Hi, .int .i64 (p2 2).Map, .int .i64 (p2 3).Kind, .int .u64 (p2 3).Span.Lo, .int .u64 (p2 3).Span.Hi, .int .i64 (p2 3).Map, .int .i64 (p2 4).Kind, .int .u64 (p2 4).Span.Lo, .int .u64 (p2 4).Span.Hi, .int .i64 (p2 4).Map, .int .i64 (p2 5).Kind, .int .u64 (p2 5).Span.Lo, .int .u64 (p2 5).Span.Hi, .int .i64 (p2 5).Map, .int .i64 (p2 6).Kind, .int .u64 (p2 6).Span.Lo, .int .u64 (p2 6).Span.Hi, .int .i64 (p2 6).Map, .int .i64 (p2 7).Kind, .int .u64 (p2 7).Span.Lo, .int .u64 (p2 7).Span.Hi, .int .i64 (p2 7).Map], blkI b50 42 [.int .i64 x44.Op, .int .i64 x44.D, .int .i64 x44.A, .int .i64 x44.B, .int .i64 x44.Imm], blkI b118 38 [.int .i64 r114.Kind, .int .u64 r114.Span.Lo, .int .u64 r114.Span.Hi, .int .i64 r114.Map], rowI (.slice (some ⟨g123, 0, none⟩) 2 2) 4 encBool 1 ([true, false])] ∧ forN (judge_judge_ways_l1 p1 p2 x44 r57 r114) (fun (s637 : judge_judge) => s637) n i639 s637 = some o432) 2 (fun a ha => ⟨0, p0, S434, Nat.zero_add _, ha.agrees (by kernel_rfl), hst.keep [4, 0, 1, 2, 3] rfl, ho433⟩) ?_
     rintro n635 a w1 ⟨i639, s637, S638, hi640, ha, hst, hl636⟩
     refine CW.go ?_ ha
     refine CW.seq ?_
     refine CW.region ?_
     refine OW.pure 1 [(57, .bool (decide ((i639 : Int) < 2)))] (by kernel_rfl) ?_
     refine OW.nil rfl ?_
     refine QW.next ?_
     refine CW.seq ?_
     rcases Bool.eq_false_or_eq_true (decide ((i639 : Int) < 2)) with hc641 | hc641
     ·rcases n635 with _ | n635
      ·exact (cnt0 hi640 hc641).elim
      refine CW.cond_t rfl hc641 ?_
      refine CW.skip ?_
      refine QW.next ?_
      refine CW.seq ?_
      refine CW.block ?_
      refine CW.seq ?_
      refine CW.region ?_
      obtain ⟨x648, hx649, hl636⟩ := bind_some' hl636
      obtain ⟨g651, o652, c653, hv650⟩ := hst.rowv 4 rfl hx649
      refine OW.idx 4 1 rfl rfl rfl rfl hv650 rfl (idx_some hx649).1 (idx_some hx649).2.1 (by kernel_rfl) (by kernel_rfl) ?_
      refine OW.ld rfl rfl rfl rfl (by kernel_rfl) (hst.rowc 4 rfl (fun _ => rfl) hx649 hv650 0 _ rfl) ?_
      refine OW.pure 1 [(12, .bool x648)] (by kernel_rfl) ?_
      refine OW.nil rfl ?_
      refine QW.next ?_
      refine CW.seq ?_
      refine CW.plan (by kernel_rfl) ?_
      intro w659 hch660
      have hst := hst.same hch660
      refine OA.pure [0, 1, 2] [(62, .int .i64 (w64 (p1 + r57.1)))] (by kernel_rfl) ?_
      refine OA.ldN (i := 3) (cs := [.int .i64 (p2 0).Kind, .int .u64 (p2 0).Span.Lo, .int .u64 (p2 0).Span.Hi, .int .i64 (p2 0).Map, .int .i64 (p2 1).Kind, .int .u64 (p2 1).Span.Lo, .int .u64 (p2 1).Span.Hi, .int .i64 (p2 1).Map, .int .i64 (p2 2).Kind, .int .u64 (p2 2).Span.Lo, .int .u64 (p2 2).Span.Hi, .int .i64 (p2 2).Map, .int .i64 (p2 3).Kind, .int .u64 (p2 3).Span.Lo, .int .u64 (p2 3).Span.Hi, .int .i64 (p2 3).Map, .int .i64 (p2 4).Kind, .int .u64 (p2 4).Span.Lo, .int .u64 (p2 4).Span.Hi, .int .i64 (p2 4).Map, .int .i64 (p2 5).Kind, .int .u64 (p2 5).Span.Lo, .int .u64 (p2 5).Span.Hi, .int .i64 (p2 5).Map, .int .i64 (p2 6).Kind, .int .u64 (p2 6).Span.Lo, .int .u64 (p2 6).Span.Hi, .int .i64 (p2 6).Map, .int .i64 (p2 7).Kind, .int .u64 (p2 7).Span.Lo, .int .u64 (p2 7).Span.Hi, .int .i64 (p2 7).Map]) rfl (by kernel_rfl) rfl rfl rfl (by kernel_rfl) (by kernel_rfl) (hst.blkN 1 rfl 0 32) ?_
      refine OA.act (i := 4) [3] (by kernel_rfl) rfl rfl (by kernel_rfl) (by kernel_rfl) ?_
      refine OW.alloc hst rfl rfl rfl [.int .i64 0, .int .u64 0, .int .u64 0, .int .i64 0, .int .i64 0, .int .u64 0, .int .u64 0, .int .i64 0, .int .i64 0, .int .u64 0, .int .u64 0, .int .i64 0, .int .i64 0, .int .u64 0, .int .u64 0, .int .i64 0, .int .i64 0, .int .u64 0, .int .u64 0, .int .i64 0, .int .i64 0, .int .u64 0, .int .u64 0, .int .i64 0, .int .i64 0, .int .u64 0, .int .u64 0, .int .i64 0, .int .i64 0, .int .u64 0, .int .u64 0, .int .i64 0] (by kernel_rfl) ?_
      intro b661 w662 hst
      refine OA.next ⟨(hst.blkN 1 rfl 0 32), trivial⟩ ?_
      refine OA.act (i := 5) [3] (by kernel_rfl) rfl rfl (by kernel_rfl) (by kernel_rfl) ?_
      refine OW.pure 1 [(13, .int .i64 (w64 (p1 + r57.1)))] (by kernel_rfl) ?_
      refine OA.next ⟨(hst.blkN 1 rfl 0 32), trivial⟩ ?_
      refine OA.act (i := 6) [] (by kernel_rfl) rfl rfl (by kernel_rfl) (by kernel_rfl) ?_
      refine OW.stB hst 5 rfl rfl rfl rfl rfl (by kernel_rfl) rfl rfl [.int .i64 (p2 0).Kind, .int .u64 (p2 0).Span.Lo, .int .u64 (p2 0).Span.Hi, .int .i64 (p2 0).Map, .int .i64 (p2 1).Kind, .int .u64 (p2 1).Span.Lo, .int .u64 (p2 1).Span.Hi, .int .i64 (p2 1).Map, .int .i64 (p2 2).Kind, .int .u64 (p2 2).Span.Lo, .int .u64 (p2 2).Span.Hi, .int .i64 (p2 2).Map, .int .i64 (p2 3).Kind, .int .u64 (p2 3).Span.Lo, .int .u64 (p2 3).Span.Hi, .int .i64 (p2 3).Map, .int .i64 (p2 4).Kind, .int .u64 (p2 4).Span.Lo, .int .u64 (p2 4).Span.Hi, .int .i64 (p2 4).Map, .int .i64 (p2 5).Kind, .int .u64 (p2 5).Span.Lo, .int .u64 (p2 5).Span.Hi, .int .i64 (p2 5).Map, .int .i64 (p2 6).Kind, .int .u64 (p2 6).Span.Lo, .int .u64 (p2 6).Span.Hi, .int .i64 (p2 6).Map, .int .i64 (p2 7).Kind, .int .u64 (p2 7).Span.Lo, .int .u64 (p2 7).Span.Hi, .int .i64 (p2 7).Map] rfl ?_
      intro w663 hst
      refine OA.next trivial ?_
      refine OA.fin (by kernel_rfl) (by kernel_rfl) ?_
      refine QW.next ?_
      refine CW.seq ?_
      refine CW.seq ?_
      refine CW.region ?_
      refine OW.pure 2 [(65, .bool (!x648))] (by kernel_rfl) ?_
      refine OW.nil rfl ?_
      refine QW.next ?_
      obtain ⟨o665, ho666, hl636⟩ := bind_some' hl636
      refine CW.cutK (fun a w1 => Rep 93 [(0, .pointer (some ⟨b1, 0, none⟩)), (1, .int .i64 p1), (5, .pointer (some ⟨b4, 0, none⟩)), (6, .pointer (some ⟨b50, 0, none⟩)), (7, .int .i64 r57.1), (10, .pointer (some ⟨b118, 0, none⟩)), (12, .bool x648), (13, .int .i64 o665), (14, .pointer (some ⟨b661, 0, none⟩)), (54, .slice (some ⟨g123, 0, none⟩) 2 2), (55, .int .i64 2), (56, .int .i64 (i639 : Int))] a ∧ St w (fp [itI (R_t49 wb Sb) [.pointer (some ⟨b1, 0, none⟩)] S0 p0]) w1 [itI (R_t49 wb Sb) [.pointer (some ⟨b1, 0, none⟩)] S638 s637, blkI b4 58 [.int .i64 (p2 0).Kind, .int .u64 (p2 0).Span.Lo, .int .u64 (p2 0).Span.Hi, .int .i64 (p2 0).Map, .int .i64 (p2 1).Kind, .int .u64 (p2 1).Span.Lo, .int .u64 (p2 1).Span.Hi, .int .i64 (p2 1).Map, .int .i64 (p2 2).Kind, .int .u64 (p2 2).Span.Lo, .int .u64 (p2 2).Span.Hi, .int .i64 (p2 2).Map, .int .i64 (p2 3).Kind, .int .u64 (p2 3).Span.Lo, .int .u64 (p2 3).Span.Hi, .int .i64 (p2 3).Map, .int .i64 (p2 4).Kind, .int .u64 (p2 4).Span.Lo, .int .u64 (p2 4).Span.Hi, .int .i64 (p2 4).Map, .int .i64 (p2 5).Kind, .int .u64 (p2 5).Span.Lo, .int .u64 (p2 5).Span.Hi, .int .i64 (p2 5).Map, .int .i64 (p2 6).Kind, .int .u64 (p2 6).Span.Lo, .int .u64 (p2 6).Span.Hi, .int .i64 (p2 6).Map, .int .i64 (p2 7).Kind, .int .u64 (p2 7).Span.Lo, .int .u64 (p2 7).Span.Hi, .int .i64 (p2 7).Map], blkI b50 42 [.int .i64 x44.Op, .int .i64 x44.D, .int .i64 x44.A, .int .i64 x44.B, .int .i64 x44.Imm], blkI b118 38 [.int .i64 r114.Kind, .int .u64 r114.Span.Lo, .int .u64 r114.Span.Hi, .int .i64 r114.Map], blkI b661 58 [.int .i64 (p2 0).Kind, .int .u64 (p2 0).Span.Lo, .int .u64 (p2 0).Span.Hi, .int .i64 (p2 0).Map, .int .i64 (p2 1).Kind, .int .u64 (p2 1).Span.Lo, .int .u64 (p2 1).Span.Hi, .int .i64 (p2 1).Map, .int .i64 (p2 2).Kind, .int .u64 (p2 2).Span.Lo, .int .u64 (p2 2).Span.Hi, .int .i64 (p2 2).Map, .int .i64 (p2 3).Kind, .int .u64 (p2 3).Span.Lo, .int .u64 (p2 3).Span.Hi, .int .i64 (p2 3).Map, .int .i64 (p2 4).Kind, .int .u64 (p2 4).Span.Lo, .int .u64 (p2 4).Span.Hi, .int .i64 (p2 4).Map, .int .i64 (p2 5).Kind, .int .u64 (p2 5).Span.Lo, .int .u64 (p2 5).Span.Hi, .int .i64 (p2 5).Map, .int .i64 (p2 6).Kind, .int .u64 (p2 6).Span.Lo, .int .u64 (p2 6).Span.Hi, .int .i64 (p2 6).Map, .int .i64 (p2 7).Kind, .int .u64 (p2 7).Span.Lo, .int .u64 (p2 7).Span.Hi, .int .i64 (p2 7).Map], rowI (.slice (some ⟨g123, 0, none⟩) 2 2) 4 encBool 1 ([true, false])]) ?_ ?_
      ·rcases Bool.eq_false_or_eq_true ((!x648)) with hc667 | hc667
       ·have ho666 := ite_t ho666 hc667
        refine CW.cond_t rfl hc667 ?_
        refine CW.region ?_
        refine OW.pure 3 [(13, .int .i64 (w64 (p1 + 1)))] (by kernel_rfl) ?_
        refine OW.nil rfl ?_
        obtain rfl := Option.some.inj ho666
        exact QW.meet (fun a ha => ⟨ha.agrees (by kernel_rfl), hst.keep [0, 1, 2, 3, 5, 4] rfl⟩)
       ·have ho666 := ite_f ho666 hc667
        refine CW.cond_f rfl hc667 ?_
        refine CW.skip ?_
        obtain rfl := Option.some.inj ho666
        exact QW.meet (fun a ha => ⟨ha.agrees (by kernel_rfl), hst.keep [0, 1, 2, 3, 5, 4] rfl⟩)
      ·rintro a w1 ⟨ha, hst⟩
       refine CW.go ?_ ha
       refine CW.seq ?_
       obtain ⟨o691, ho692, hl636⟩ := bind_some' hl636
       refine CW.cutK (fun a w1 => ∃ (b690 : Nat), Rep 93 [(0, .pointer (some ⟨b1, 0, none⟩)), (1, .int .i64 p1), (5, .pointer (some ⟨b4, 0, none⟩)), (6, .pointer (some ⟨b50, 0, none⟩)), (7, .int .i64 r57.1), (10, .pointer (some ⟨b118, 0, none⟩)), (13, .int .i64 o665), (14, .pointer (some ⟨b661, 0, none⟩)), (15, .pointer (some ⟨b690, 0, none⟩)), (16, .bool o691.2), (54, .slice (some ⟨g123, 0, none⟩) 2 2), (55, .int .i64 2), (56, .int .i64 (i639 : Int))] a ∧ St w (fp [itI (R_t49 wb Sb) [.pointer (some ⟨b1, 0, none⟩)] S0 p0]) w1 [itI (R_t49 wb Sb) [.pointer (some ⟨b1, 0, none⟩)] S638 s637, blkI b4 58 [.int .i64 (p2 0).Kind, .int .u64 (p2 0).Span.Lo, .int .u64 (p2 0).Span.Hi, .int .i64 (p2 0).Map, .int .i64 (p2 1).Kind, .int .u64 (p2 1).Span.Lo, .int .u64 (p2 1).Span.Hi, .int .i64 (p2 1).Map, .int .i64 (p2 2).Kind, .int .u64 (p2 2).Span.Lo, .int .u64 (p2 2).Span.Hi, .int .i64 (p2 2).Map, .int .i64 (p2 3).Kind, .int .u64 (p2 3).Span.Lo, .int .u64 (p2 3).Span.Hi, .int .i64 (p2 3).Map, .int .i64 (p2 4).Kind, .int .u64 (p2 4).Span.Lo, .int .u64 (p2 4).Span.Hi, .int .i64 (p2 4).Map, .int .i64 (p2 5).Kind, .int .u64 (p2 5).Span.Lo, .int .u64 (p2 5).Span.Hi, .int .i64 (p2 5).Map, .int .i64 (p2 6).Kind, .int .u64 (p2 6).Span.Lo, .int .u64 (p2 6).Span.Hi, .int .i64 (p2 6).Map, .int .i64 (p2 7).Kind, .int .u64 (p2 7).Span.Lo, .int .u64 (p2 7).Span.Hi, .int .i64 (p2 7).Map], blkI b50 42 [.int .i64 x44.Op, .int .i64 x44.D, .int .i64 x44.A, .int .i64 x44.B, .int .i64 x44.Imm], blkI b118 38 [.int .i64 r114.Kind, .int .u64 r114.Span.Lo, .int .u64 r114.Span.Hi, .int .i64 r114.Map], blkI b661 58 [.int .i64 (p2 0).Kind, .int .u64 (p2 0).Span.Lo, .int .u64 (p2 0).Span.Hi, .int .i64 (p2 0).Map, .int .i64 (p2 1).Kind, .int .u64 (p2 1).Span.Lo, .int .u64 (p2 1).Span.Hi, .int .i64 (p2 1).Map, .int .i64 (p2 2).Kind, .int .u64 (p2 2).Span.Lo, .int .u64 (p2 2).Span.Hi, .int .i64 (p2 2).Map, .int .i64 (p2 3).Kind, .int .u64 (p2 3).Span.Lo, .int .u64 (p2 3).Span.Hi, .int .i64 (p2 3).Map, .int .i64 (p2 4).Kind, .int .u64 (p2 4).Span.Lo, .int .u64 (p2 4).Span.Hi, .int .i64 (p2 4).Map, .int .i64 (p2 5).Kind, .int .u64 (p2 5).Span.Lo, .int .u64 (p2 5).Span.Hi, .int .i64 (p2 5).Map, .int .i64 (p2 6).Kind, .int .u64 (p2 6).Span.Lo, .int .u64 (p2 6).Span.Hi, .int .i64 (p2 6).Map, .int .i64 (p2 7).Kind, .int .u64 (p2 7).Span.Lo, .int .u64 (p2 7).Span.Hi, .int .i64 (p2 7).Map], blkI b690 36 [.int .u64 o691.1.Lo, .int .u64 o691.1.Hi], rowI (.slice (some ⟨g123, 0, none⟩) 2 2) 4 encBool 1 ([true, false])]) ?_ ?_
       ·refine CW.plan (by kernel_rfl) ?_
        intro w693 hch694
        have hst := hst.same hch694
        refine OA.pure [0] [(69, .pointer (some ⟨b50, 0, none⟩))] (by kernel_rfl) ?_
        refine OA.ld (i := 1) rfl (by kernel_rfl) rfl rfl rfl (by kernel_rfl) (hst.blk 2 rfl rfl) ?_
        refine OA.pure [2] [(71, .pointer (some ⟨b50, 2, none⟩))] (by kernel_rfl) ?_
        refine OA.ld (i := 3) rfl (by kernel_rfl) rfl rfl rfl (by kernel_rfl) (hst.blk 2 rfl rfl) ?_
        obtain ⟨i695, hi696, ho692⟩ := bind_some' ho692
        refine OA.val (i := 4) (v := .pointer (some ⟨b4, 0 + Int.toNat x44.A * 4, none⟩)) rfl (by kernel_rfl) rfl rfl rfl rfl (fun a w ha => aidx_run (n := 8) 38 4 rfl rfl rfl (ain_some hi696).1 (ain_some hi696).2.1 (by kernel_rfl) (by kernel_rfl) a w ha) ?_
        refine OA.pure [5] [(74, .pointer (some ⟨b4, 0 + Int.toNat x44.A * 4 + 1, none⟩))] (by kernel_rfl) ?_
        refine OA.ldN (i := 6) (cs := [.int .u64 (p2 i695).Span.Lo, .int .u64 (p2 i695).Span.Hi]) rfl (by kernel_rfl) rfl rfl rfl (by kernel_rfl) (by kernel_rfl) (elN (hst.arrB 1 rfl enc_api_Type (fun _ => rfl) 8 p2 0 rfl rfl hi696) 1 2) ?_
        refine OA.pure [7] [(76, .pointer (some ⟨b118, 1, none⟩))] (by kernel_rfl) ?_
        refine OA.ldN (i := 8) (cs := [.int .u64 r114.Span.Lo, .int .u64 r114.Span.Hi]) rfl (by kernel_rfl) rfl rfl rfl (by kernel_rfl) (by kernel_rfl) (hst.blkN 3 rfl 1 2) ?_
        refine OA.pure [9] [(78, .bool x648)] (by kernel_rfl) ?_
        refine OA.acts [10, 14] 10 (by kernel_rfl) (by kernel_rfl) (by kernel_rfl) (alts_cons ?_ (alts_cons ?_ alts_nil))
        ·refine Alt.of (i := 10) [] rfl rfl (by kernel_rfl) (by kernel_rfl) ?_
         obtain ⟨r697, hr698, ho692⟩ := bind_some' ho692
         refine OW.fn rfl rfl rfl rfl (by kernel_rfl) (span_Refine_ok _ x44.Op (p2 i695).Span r114.Span x648 r697 hr698 (hst.part [] rfl)) ?_
         rintro e w699 ⟨rfl, hst700⟩
         refine ⟨_, rfl, ?_⟩
         have hst := hst.join (idx := []) (rest := [0, 1, 2, 3, 4, 5]) rfl hst700
         refine OA.next trivial ?_
         refine OA.pure [11, 12, 13] [(80, .agg [.int .u64 r697.1.Lo, .int .u64 r697.1.Hi].toArray), (81, .bool r697.2)] (by kernel_rfl) ?_
         refine OA.act (i := 14) [] (by kernel_rfl) rfl rfl (by kernel_rfl) (by kernel_rfl) ?_
         refine OW.alloc hst rfl rfl rfl [.int .u64 0, .int .u64 0] (by kernel_rfl) ?_
         intro b701 w702 hst
         refine OA.next trivial ?_
         refine OA.act (i := 15) [] (by kernel_rfl) rfl rfl (by kernel_rfl) (by kernel_rfl) ?_
         refine OW.stB hst 6 rfl rfl rfl rfl rfl (by kernel_rfl) rfl rfl [.int .u64 r697.1.Lo, .int .u64 r697.1.Hi] rfl ?_
         intro w703 hst
         refine OA.next trivial ?_
         refine OA.act (i := 16) [] (by kernel_rfl) rfl rfl (by kernel_rfl) (by kernel_rfl) ?_
         refine OW.pure 1 [(16, .bool r697.2)] (by kernel_rfl) ?_
         refine OA.next trivial ?_
         refine OA.fin (by kernel_rfl) (by kernel_rfl) ?_
         obtain rfl := Option.some.inj ho692
         exact QW.meet (fun a ha => ⟨b701, ha.agrees (by kernel_rfl), hst.keep [0, 1, 2, 3, 4, 6, 5] rfl⟩)
        ·refine Alt.of (i := 14) [8, 6, 3, 1] rfl rfl (by kernel_rfl) (by kernel_rfl) ?_
         refine OW.alloc hst rfl rfl rfl [.int .u64 0, .int .u64 0] (by kernel_rfl) ?_
         intro b704 w705 hst
         refine OA.next ⟨(hst.blkN 3 rfl 1 2), (elN (hst.arrB 1 rfl enc_api_Type (fun _ => rfl) 8 p2 0 rfl rfl hi696) 1 2), (hst.blk 2 rfl rfl), (hst.blk 2 rfl rfl), trivial⟩ ?_
         refine OA.act (i := 10) [] (by kernel_rfl) rfl rfl (by kernel_rfl) (by kernel_rfl) ?_
         obtain ⟨r706, hr707, ho692⟩ := bind_some' ho692
         refine OW.fn rfl rfl rfl rfl (by kernel_rfl) (span_Refine_ok _ x44.Op (p2 i695).Span r114.Span x648 r706 hr707 (hst.part [] rfl)) ?_
         rintro e w708 ⟨rfl, hst709⟩
         refine ⟨_, rfl, ?_⟩
         have hst := hst.join (idx := []) (rest := [0, 1, 2, 3, 4, 5, 6]) rfl hst709
         refine OA.next trivial ?_
         refine OA.pure [11, 12, 13] [(80, .agg [.int .u64 r706.1.Lo, .int .u64 r706.1.Hi].toArray), (81, .bool r706.2)] (by kernel_rfl) ?_
         refine OA.act (i := 15) [] (by kernel_rfl) rfl rfl (by kernel_rfl) (by kernel_rfl) ?_
         refine OW.stB hst 6 rfl rfl rfl rfl rfl (by kernel_rfl) rfl rfl [.int .u64 r706.1.Lo, .int .u64 r706.1.Hi] rfl ?_
         intro w710 hst
         refine OA.next trivial ?_
         refine OA.act (i := 16) [] (by kernel_rfl) rfl rfl (by kernel_rfl) (by kernel_rfl) ?_
         refine OW.pure 1 [(16, .bool r706.2)] (by kernel_rfl) ?_
         refine OA.next trivial ?_
         refine OA.fin (by kernel_rfl) (by kernel_rfl) ?_
         obtain rfl := Option.some.inj ho692
         exact QW.meet (fun a ha => ⟨b704, ha.agrees (by kernel_rfl), hst.keep [0, 1, 2, 3, 4, 6, 5] rfl⟩)
       ·rintro a w1 ⟨b690, ha, hst⟩
        refine CW.go ?_ ha
        refine CW.seq ?_
        refine CW.region ?_
        refine OW.pure 1 [(82, .bool o691.2)] (by kernel_rfl) ?_
        refine OW.nil rfl ?_
        refine QW.next ?_
        rcases Bool.eq_false_or_eq_true (o691.2) with hc711 | hc711
        ·have hl636 := ite_t hl636 hc711
         refine CW.cond_t rfl hc711 ?_
         refine CW.seq ?_
         refine CW.plan (by kernel_rfl) ?_
         intro w721 hch722
         have hst := hst.same hch722
         refine OA.pure [0] [(83, .pointer (some ⟨b50, 2, none⟩))] (by kernel_rfl) ?_
         refine OA.ld (i := 1) rfl (by kernel_rfl) rfl rfl rfl (by kernel_rfl) (hst.blk 2 rfl rfl) ?_
         refine OA.ldN (i := 2) (cs := [.int .u64 o691.1.Lo, .int .u64 o691.1.Hi]) rfl (by kernel_rfl) rfl rfl rfl (by kernel_rfl) (by kernel_rfl) (hst.blkN 5 rfl 0 2) ?_
         refine OA.act (i := 3) [1] (by kernel_rfl) rfl rfl (by kernel_rfl) (by kernel_rfl) ?_
         obtain ⟨r723, hr724, hl636⟩ := bind_some' hl636
         refine OW.fn rfl rfl rfl rfl (by kernel_rfl) (judge_number_ok _ o691.1 r723 hr724 (hst.part [] rfl)) ?_
         rintro e w725 ⟨rfl, hst726⟩
         refine ⟨_, rfl, ?_⟩
         have hst := hst.join (idx := []) (rest := [0, 1, 2, 3, 4, 5, 6]) rfl hst726
         refine OA.next ⟨(hst.blk 2 rfl rfl), trivial⟩ ?_
         obtain ⟨i727, hi728, hl636⟩ := bind_some' hl636
         refine OA.val (i := 4) (v := .pointer (some ⟨b661, 0 + Int.toNat x44.A * 4, none⟩)) rfl (by kernel_rfl) rfl rfl rfl rfl (fun a w ha => aidx_run (n := 8) 38 4 rfl rfl rfl (ain_some hi728).1 (ain_some hi728).2.1 (by kernel_rfl) (by kernel_rfl) a w ha) ?_
         refine OA.act (i := 5) [] (by kernel_rfl) rfl rfl (by kernel_rfl) (by kernel_rfl) ?_
         refine OW.stA hst 4 rfl rfl rfl rfl rfl (by kernel_rfl) rfl enc_api_Type (fun _ => rfl) 8 p2 0 rfl rfl hi728 0 rfl rfl r723 rfl [.int .i64 ((aset p2 i727 r723) 0).Kind, .int .u64 ((aset p2 i727 r723) 0).Span.Lo, .int .u64 ((aset p2 i727 r723) 0).Span.Hi, .int .i64 ((aset p2 i727 r723) 0).Map, .int .i64 ((aset p2 i727 r723) 1).Kind, .int .u64 ((aset p2 i727 r723) 1).Span.Lo, .int .u64 ((aset p2 i727 r723) 1).Span.Hi, .int .i64 ((aset p2 i727 r723) 1).Map, .int .i64 ((aset p2 i727 r723) 2).Kind, .int .u64 ((aset p2 i727 r723) 2).Span.Lo, .int .u64 ((aset p2 i727 r723) 2).Span.Hi, .int .i64 ((aset p2 i727 r723) 2).Map, .int .i64 ((aset p2 i727 r723) 3).Kind, .int .u64 ((aset p2 i727 r723) 3).Span.Lo, .int .u64 ((aset p2 i727 r723) 3).Span.Hi, .int .i64 ((aset p2 i727 r723) 3).Map, .int .i64 ((aset p2 i727 r723) 4).Kind, .int .u64 ((aset p2 i727 r723) 4).Span.Lo, .int .u64 ((aset p2 i727 r723) 4).Span.Hi, .int .i64 ((aset p2 i727 r723) 4).Map, .int .i64 ((aset p2 i727 r723) 5).Kind, .int .u64 ((aset p2 i727 r723) 5).Span.Lo, .int .u64 ((aset p2 i727 r723) 5).Span.Hi, .int .i64 ((aset p2 i727 r723) 5).Map, .int .i64 ((aset p2 i727 r723) 6).Kind, .int .u64 ((aset p2 i727 r723) 6).Span.Lo, .int .u64 ((aset p2 i727 r723) 6).Span.Hi, .int .i64 ((aset p2 i727 r723) 6).Map, .int .i64 ((aset p2 i727 r723) 7).Kind, .int .u64 ((aset p2 i727 r723) 7).Span.Lo, .int .u64 ((aset p2 i727 r723) 7).Span.Hi, .int .i64 ((aset p2 i727 r723) 7).Map] rfl ?_
         intro w729 hst
         refine OA.next trivial ?_
         refine OA.fin (by kernel_rfl) (by kernel_rfl) ?_
         refine QW.next ?_
         refine CW.region ?_
         refine OW.pure 2 [(88, .pointer (some ⟨b1, 0, none⟩)), (89, .int .i64 o665)] (by kernel_rfl) ?_
         refine OW.ldN (cs := [.int .i64 ((aset p2 i727 r723) 0).Kind, .int .u64 ((aset p2 i727 r723) 0).Span.Lo, .int .u64 ((aset p2 i727 r723) 0).Span.Hi, .int .i64 ((aset p2 i727 r723) 0).Map, .int .i64 ((aset p2 i727 r723) 1).Kind, .int .u64 ((aset p2 i727 r723) 1).Span.Lo, .int .u64 ((aset p2 i727 r723) 1).Span.Hi, .int .i64 ((aset p2 i727 r723) 1).Map, .int .i64 ((aset p2 i727 r723) 2).Kind, .int .u64 ((aset p2 i727 r723) 2).Span.Lo, .int .u64 ((aset p2 i727 r723) 2).Span.Hi, .int .i64 ((aset p2 i727 r723) 2).Map, .int .i64 ((aset p2 i727 r723) 3).Kind, .int .u64 ((aset p2 i727 r723) 3).Span.Lo, .int .u64 ((aset p2 i727 r723) 3).Span.Hi, .int .i64 ((aset p2 i727 r723) 3).Map, .int .i64 ((aset p2 i727 r723) 4).Kind, .int .u64 ((aset p2 i727 r723) 4).Span.Lo, .int .u64 ((aset p2 i727 r723) 4).Span.Hi, .int .i64 ((aset p2 i727 r723) 4).Map, .int .i64 ((aset p2 i727 r723) 5).Kind, .int .u64 ((aset p2 i727 r723) 5).Span.Lo, .int .u64 ((aset p2 i727 r723) 5).Span.Hi, .int .i64 ((aset p2 i727 r723) 5).Map, .int .i64 ((aset p2 i727 r723) 6).Kind, .int .u64 ((aset p2 i727 r723) 6).Span.Lo, .int .u64 ((aset p2 i727 r723) 6).Span.Hi, .int .i64 ((aset p2 i727 r723) 6).Map, .int .i64 ((aset p2 i727 r723) 7).Kind, .int .u64 ((aset p2 i727 r723) 7).Span.Lo, .int .u64 ((aset p2 i727 r723) 7).Span.Hi, .int .i64 ((aset p2 i727 r723) 7).Map]) rfl rfl rfl rfl (by kernel_rfl) (by kernel_rfl) (hst.blkN 4 rfl 0 32) ?_
         obtain ⟨r735, hr736, hl636⟩ := bind_some' hl636
         refine OW.fn rfl rfl rfl rfl (by kernel_rfl) (judge_judge_come_ok _ wb Sb (.pointer (some ⟨b1, 0, none⟩)) S638 s637 o665 (aset p2 i727 r723) r735 hr736 (hst.part [0] rfl) (hb.on hst [0])) ?_
         rintro e w737 ⟨S739, rfl, hst738⟩
         refine ⟨_, rfl, ?_⟩
         have hst := hst.join (idx := [0]) (rest := [1, 2, 3, 4, 5, 6]) rfl hst738
         refine OW.nil rfl ?_
         refine QW.block_normal ?_
         refine QW.next ?_
         refine CW.region ?_
         refine OW.pure 2 [(56, .int .i64 (w64 ((i639 : Int) + 1)))] (by kernel_rfl) ?_
         refine OW.nil rfl ?_
         refine QW.say 56 rfl (congrArg (Value.int .i64) (w64_cnt hc641 (by decide))) ?_
         exact QW.meet (fun a ha => ⟨n635, Nat.lt_succ_self _, i639 + 1, r735, S739, cnt_next hi640, ha.agrees (by kernel_rfl), hst.keep [0, 1, 2, 3, 6] rfl, hl636⟩)
        ·have hl636 := ite_f hl636 hc711
         refine CW.cond_f rfl hc711 ?_
         refine CW.skip ?_
         refine QW.block_normal ?_
         refine QW.next ?_
         refine CW.region ?_
         refine OW.pure 2 [(56, .int .i64 (w64 ((i639 : Int) + 1)))] (by kernel_rfl) ?_
         refine OW.nil rfl ?_
         refine QW.say 56 rfl (congrArg (Value.int .i64) (w64_cnt hc641 (by decide))) ?_
         exact QW.meet (fun a ha => ⟨n635, Nat.lt_succ_self _, i639 + 1, s637, S638, cnt_next hi640, ha.agrees (by kernel_rfl), hst.keep [0, 1, 2, 3, 6] rfl, hl636⟩)
     ·rcases n635 with _ | n635
      ·refine CW.cond_f rfl hc641 ?_
       refine CW.exit ?_
       refine QW.then_exit ?_
       refine QW.then_exit ?_
       refine QW.block_here ?_
       obtain rfl := Option.some.inj hl636
       exact QW.meet (fun a ha => ⟨S638, ha.agrees (by kernel_rfl), hst.keep [0] rfl⟩)
      ·exact (cnt1 hi640 hc641).elim
    ·rintro a w1 ⟨S431, ha, hst⟩
     refine QW.go ?_ ha
     obtain rfl := Option.some.inj hF
     refine QW.end0 rfl ?_
     exact ⟨S431, rfl, hst.keep [0] rfl⟩

set_option maxRecDepth 10000 in
set_option maxHeartbeats 4000000 in
theorem judge_judged_ok (w : World) (wb : World) (Sb : List Nat) (fu : Nat) (v0_0 : Value) (v0_1 : Value) (p0 : api_Module) (r : (Option judge_judge) × Int × Int) (hF : judge_judged fu p0 = some r)
    (hst : St w (fp []) w []) (hb : Bor wb Sb w (fp [])) (h0_0 : Rd wb Sb v0_0 (encInt .i64) 1 p0.Maps) (h0_1 : Rd wb Sb v0_1 enc_api_Inst 5 p0.Code) (hT0 : Rd w (fp []) (.slice (some ⟨0, 0, none⟩) 23 23) enc_ops_form 2 tab_g0) (hT1 : Rd w (fp []) (.slice (some ⟨1, 0, none⟩) 7 7) enc_sigs_sig 5 tab_g1) :
    Calls Tryd.prog 12 [.agg [v0_0, v0_1].toArray].toArray w (fun e w' => (∃ (k0 : judge_judge) (y0 : Value) (z0 : List Nat), r.1 = some k0 ∧ e = .returned (.tuple #[y0, .int .i64 r.2.1, .int .i64 r.2.2]) ∧ St w (fp []) w' [itI (R_t49 wb Sb) [y0] z0 k0]) ∨ (r.1 = none ∧ e = .returned (.tuple #[.pointer none, .int .i64 r.2.1, .int .i64 r.2.2]) ∧ St w (fp []) w' [])) := by
 refine CW.start (N := 83) Tryd.func12 rfl rfl rfl ?_
 have h0_0b := h0_0.bor hb
 have h0_1b := h0_1.bor hb
 obtain ⟨l1, a2, c3, rfl⟩ := h0_0b.len
 obtain ⟨l4, a5, c6, rfl⟩ := h0_1b.len
 refine CW.seq ?_
 refine CW.region ?_
 refine OW.box hst rfl rfl rfl rfl [.slice a2 (p0.Maps).length c3, .slice a5 (p0.Code).length c6] rfl ?_
 intro b9 w10 hst
 refine OW.pure 3 [] (by kernel_rfl) ?_
 refine OW.nil rfl ?_
 refine QW.next ?_
 refine CW.seq ?_
 refine CW.seq ?_
 refine CW.region ?_
 refine OW.pure 1 [(11, .pointer (some ⟨b9, 0, none⟩))] (by kernel_rfl) ?_
 refine OW.ld rfl rfl rfl rfl (by kernel_rfl) (hst.blk 0 rfl rfl) ?_
 obtain ⟨r15, hr16, hF⟩ := bind_some' hF
 refine OW.fn rfl rfl rfl rfl (by kernel_rfl) (judge_good_ok _ (.slice a2 (p0.Maps).length c3) p0.Maps r15 hr16 (hst.part [] rfl) (h0_0b.give hst [])) ?_
 rintro e w17 ⟨rfl, hst18⟩
 refine ⟨_, rfl, ?_⟩
 have hst := hst.join (idx := []) (rest := [0]) rfl hst18
 refine OW.pure 1 [(14, .bool (!r15))] (by kernel_rfl) ?_
 refine OW.nil rfl ?_
 refine QW.next ?_
 rcases Bool.eq_false_or_eq_true ((!r15)) with hc19 | hc19
 ·have hF := ite_t hF hc19
  refine CW.cond_t rfl hc19 ?_
  refine CW.seq ?_
  refine CW.region ?_
  refine OW.pure 3 [(2, .pointer none), (3, .int .i64 0), (4, .int .i64 2)] (by kernel_rfl) ?_
  refine OW.nil rfl ?_
  refine QW.next ?_
  refine CW.ret ?_
  refine QW.then_ret ?_
  obtain rfl := Option.some.inj hF
  refine QW.ret3 rfl rfl rfl rfl ?_
  exact .inr ⟨rfl, rfl, hst.keep [] rfl⟩
 ·have hF := ite_f hF hc19
  refine CW.cond_f rfl hc19 ?_
  refine CW.skip ?_
  refine QW.next ?_
  refine CW.seq ?_
  refine CW.seq ?_
  refine CW.region ?_
  refine OW.pure 1 [(16, .pointer (some ⟨b9, 1, none⟩))] (by kernel_rfl) ?_
  refine OW.ld rfl rfl rfl rfl (by kernel_rfl) (hst.blk 0 rfl rfl) ?_
  obtain ⟨r24, hr25, hF⟩ := bind_some' hF
  refine OW.fn rfl rfl rfl rfl (by kernel_rfl) (flow_Check_ok _ (.slice a5 (p0.Code).length c6) p0.Code r24 hr25 (hst.part [] rfl) (h0_1b.give hst []) (hT0.give hst [])) ?_
  rintro e w26 ⟨rfl, hst27⟩
  refine ⟨_, rfl, ?_⟩
  have hst := hst.join (idx := []) (rest := [0]) rfl hst27
  refine OW.pure 5 [(5, .int .i64 r24.1), (6, .int .i64 r24.2)] (by kernel_rfl) ?_
  refine OW.nil rfl ?_
  refine QW.next ?_
  refine CW.seq ?_
  refine CW.region ?_
  refine OW.pure 2 [(22, .bool (r24.2 != 0))] (by kernel_rfl) ?_
  refine OW.nil rfl ?_
  refine QW.next ?_
  rcases Bool.eq_false_or_eq_true ((r24.2 != 0)) with hc28 | hc28
  ·have hF := ite_t hF hc28
   refine CW.cond_t rfl hc28 ?_
   refine CW.seq ?_
   refine CW.region ?_
   refine OW.pure 5 [(2, .pointer none), (3, .int .i64 r24.1), (4, .int .i64 r24.2)] (by kernel_rfl) ?_
   refine OW.nil rfl ?_
   refine QW.next ?_
   refine CW.ret ?_
   refine QW.then_ret ?_
   obtain rfl := Option.some.inj hF
   refine QW.ret3 rfl rfl rfl rfl ?_
   exact .inr ⟨rfl, rfl, hst.keep [] rfl⟩
  ·have hF := ite_f hF hc28
   refine CW.cond_f rfl hc28 ?_
   refine CW.skip ?_
   refine QW.next ?_
   refine CW.seq ?_
   obtain ⟨o53, ho54, hF⟩ := bind_some' hF
   refine CW.cutK (fun a w1 => ∃ (b51 : Nat) (S52 : List Nat), Rep 83 [(1, .pointer (some ⟨b9, 0, none⟩)), (7, .pointer (some ⟨b51, 0, none⟩))] a ∧ St w (fp []) w1 [blkI b9 25 [.slice a2 (p0.Maps).length c3, .slice a5 (p0.Code).length c6], itI (R_t49 wb Sb) [.pointer (some ⟨b51, 0, none⟩)] S52 o53]) ?_ ?_
   ·refine CW.plan (by kernel_rfl) ?_
    intro w55 hch56
    have hst := hst.same hch56
    refine OA.ldN (i := 0) (cs := [.slice a2 (p0.Maps).length c3, .slice a5 (p0.Code).length c6]) rfl (by kernel_rfl) rfl rfl rfl (by kernel_rfl) (by kernel_rfl) (hst.blkN 0 rfl 0 2) ?_
    refine OA.pure [1] [(26, .pointer (some ⟨b9, 1, none⟩))] (by kernel_rfl) ?_
    refine OA.ld (i := 2) rfl (by kernel_rfl) rfl rfl rfl (by kernel_rfl) (hst.blk 0 rfl rfl) ?_
    refine OA.pure [3, 5] [(28, .int .i64 ((p0.Code).length : Int)), (30, .pointer (some ⟨b9, 1, none⟩))] (by kernel_rfl) ?_
    refine OA.ld (i := 6) rfl (by kernel_rfl) rfl rfl rfl (by kernel_rfl) (hst.blk 0 rfl rfl) ?_
    refine OA.pure [7] [(32, .int .i64 ((p0.Code).length : Int))] (by kernel_rfl) ?_
    refine OA.acts [4, 8] 4 (by kernel_rfl) (by kernel_rfl) (by kernel_rfl) (alts_cons ?_ (alts_cons ?_ alts_nil))
    ·refine Alt.of (i := 4) [6, 0] rfl rfl (by kernel_rfl) (by kernel_rfl) ?_
     obtain ⟨m57, hm58, ho54⟩ := bind_some' ho54
     refine OW.make (enc := arrC (enc_api_Type) 8) (sz := 32) hst rfl rfl rfl rfl rfl (by kernel_rfl) el58 (fun _ => (api_Type.mk 0 (api_Span.mk 0 0) 0)) (by kernel_rfl) (fun _ => rfl) hm58 ?_
     intro g59 w60 hst
     refine OA.next ⟨(hst.blk 0 rfl rfl), (hst.blkN 0 rfl 0 2), trivial⟩ ?_
     refine OA.act (i := 8) [0] (by kernel_rfl) rfl rfl (by kernel_rfl) (by kernel_rfl) ?_
     obtain ⟨m61, hm62, ho54⟩ := bind_some' ho54
     refine OW.make (enc := encBool) (sz := 1) hst rfl rfl rfl rfl rfl (by kernel_rfl) el4 false (by kernel_rfl) (fun _ => rfl) hm62 ?_
     intro g63 w64 hst
     refine OA.next ⟨(hst.blkN 0 rfl 0 2), trivial⟩ ?_
     refine OA.pure [9] [(34, .agg [.slice a2 (p0.Maps).length c3, .slice a5 (p0.Code).length c6, .slice (some ⟨g59, 0, none⟩) m57 m57, .slice (some ⟨g63, 0, none⟩) m61 m61, .slice none 0 0].toArray)] (by kernel_rfl) ?_
     refine OA.act (i := 10) [] (by kernel_rfl) rfl rfl (by kernel_rfl) (by kernel_rfl) ?_
     refine OW.box hst rfl rfl rfl rfl [.slice a2 (p0.Maps).length c3, .slice a5 (p0.Code).length c6, .slice (some ⟨g59, 0, none⟩) m57 m57, .slice (some ⟨g63, 0, none⟩) m61 m61, .slice none 0 0] rfl ?_
     intro b65 w66 hst
     refine OA.next trivial ?_
     refine OA.act (i := 11) [] (by kernel_rfl) rfl rfl (by kernel_rfl) (by kernel_rfl) ?_
     refine OW.pure 1 [(7, .pointer (some ⟨b65, 0, none⟩))] (by kernel_rfl) ?_
     refine OA.next trivial ?_
     refine OA.fin (by kernel_rfl) (by kernel_rfl) ?_
     have hst := hst.borIn h0_0
     have hst := hst.borIn h0_1
     have hst := hst.nilRow api_Loop 73 enc_api_Loop 3
     have hst := hst.toIt 1 rfl (fun _ => rfl) (by decide)
     have hst := hst.toIt 2 rfl (fun _ => rfl) (by decide)
     have hst := hst.toIt 6 rfl (fun _ => rfl) (by decide)
     obtain ⟨S67, hst⟩ := hst.shutP5 (R_t56 wb Sb) rfl 3 4 5 1 2 6 [0] rfl rfl rfl rfl rfl rfl rfl (judge_judge.mk p0 (List.replicate m57 (fun _ => (api_Type.mk 0 (api_Span.mk 0 0) 0))) (List.replicate m61 false) ([] : List api_Loop)) rfl rfl
     obtain rfl := Option.some.inj ho54
     exact QW.meet (fun a ha => ⟨b65, S67, ha.agrees (by kernel_rfl), hst.keep [0, 1] rfl⟩)
    ·obtain ⟨m57, hm58, ho54⟩ := bind_some' ho54
     obtain ⟨m61, hm62, ho54⟩ := bind_some' ho54
     refine Alt.of (i := 8) [2, 0] rfl rfl (by kernel_rfl) (by kernel_rfl) ?_
     refine OW.make (enc := encBool) (sz := 1) hst rfl rfl rfl rfl rfl (by kernel_rfl) el4 false (by kernel_rfl) (fun _ => rfl) hm62 ?_
     intro g68 w69 hst
     refine OA.next ⟨(hst.blk 0 rfl rfl), (hst.blkN 0 rfl 0 2), trivial⟩ ?_
     refine OA.act (i := 4) [0] (by kernel_rfl) rfl rfl (by kernel_rfl) (by kernel_rfl) ?_
     refine OW.make (enc := arrC (enc_api_Type) 8) (sz := 32) hst rfl rfl rfl rfl rfl (by kernel_rfl) el58 (fun _ => (api_Type.mk 0 (api_Span.mk 0 0) 0)) (by kernel_rfl) (fun _ => rfl) hm58 ?_
     intro g70 w71 hst
     refine OA.next ⟨(hst.blkN 0 rfl 0 2), trivial⟩ ?_
     refine OA.pure [9] [(34, .agg [.slice a2 (p0.Maps).length c3, .slice a5 (p0.Code).length c6, .slice (some ⟨g70, 0, none⟩) m57 m57, .slice (some ⟨g68, 0, none⟩) m61 m61, .slice none 0 0].toArray)] (by kernel_rfl) ?_
     refine OA.act (i := 10) [] (by kernel_rfl) rfl rfl (by kernel_rfl) (by kernel_rfl) ?_
     refine OW.box hst rfl rfl rfl rfl [.slice a2 (p0.Maps).length c3, .slice a5 (p0.Code).length c6, .slice (some ⟨g70, 0, none⟩) m57 m57, .slice (some ⟨g68, 0, none⟩) m61 m61, .slice none 0 0] rfl ?_
     intro b72 w73 hst
     refine OA.next trivial ?_
     refine OA.act (i := 11) [] (by kernel_rfl) rfl rfl (by kernel_rfl) (by kernel_rfl) ?_
     refine OW.pure 1 [(7, .pointer (some ⟨b72, 0, none⟩))] (by kernel_rfl) ?_
     refine OA.next trivial ?_
     refine OA.fin (by kernel_rfl) (by kernel_rfl) ?_
     have hst := hst.borIn h0_0
     have hst := hst.borIn h0_1
     have hst := hst.nilRow api_Loop 73 enc_api_Loop 3
     have hst := hst.toIt 2 rfl (fun _ => rfl) (by decide)
     have hst := hst.toIt 1 rfl (fun _ => rfl) (by decide)
     have hst := hst.toIt 6 rfl (fun _ => rfl) (by decide)
     obtain ⟨S74, hst⟩ := hst.shutP5 (R_t56 wb Sb) rfl 3 4 5 2 1 6 [0] rfl rfl rfl rfl rfl rfl rfl (judge_judge.mk p0 (List.replicate m57 (fun _ => (api_Type.mk 0 (api_Span.mk 0 0) 0))) (List.replicate m61 false) ([] : List api_Loop)) rfl rfl
     obtain rfl := Option.some.inj ho54
     exact QW.meet (fun a ha => ⟨b72, S74, ha.agrees (by kernel_rfl), hst.keep [0, 1] rfl⟩)
   ·rintro a w1 ⟨b51, S52, ha, hst⟩
    refine CW.go ?_ ha
    refine CW.seq ?_
    obtain ⟨v75, S76, v77, S78, v79, S80, v81, S82, v83, S84, hst⟩ := hst.openQ5 1 rfl rfl rfl rfl rfl rfl
    have hbo85 := hst.borOut 2 rfl
    have hbr86 := hbo85.bor hb
    have hbo87 := hst.borOut 3 rfl
    have hbr88 := hbo87.bor hb
    have hst := hst.toRow1 4 rfl
    have hst := hst.toRow1 5 rfl
    have hst := hst.toRow1 6 rfl
    have hst := hst.keep [0, 1, 4, 5, 6] rfl
    obtain ⟨l89, a90, c91, rfl⟩ := hbr86.len
    obtain ⟨l92, a93, c94, rfl⟩ := hbr88.len
    obtain ⟨l95, a96, c97, rfl⟩ := hst.len 2 rfl
    obtain ⟨l98, a99, c100, rfl⟩ := hst.len 3 rfl
    obtain ⟨l101, a102, c103, rfl⟩ := hst.len 4 rfl
    have hst : St _ _ _ [_, blkI b51 56 [.slice a90 (o53.Module.Maps).length c91, .slice a93 (o53.Module.Code).length c94, .slice a96 (o53.came).length c97, .slice a99 (o53.any).length c100, .slice a102 (o53.loops).length c103], _, _, _] := hst
    refine CW.region ?_
    refine OW.pure 2 [(37, .pointer (some ⟨b51, 0, none⟩)), (38, .pointer (some ⟨b9, 1, none⟩))] (by kernel_rfl) ?_
    refine OW.ld rfl rfl rfl rfl (by kernel_rfl) (hst.blk 0 rfl rfl) ?_
    obtain ⟨r113, hr114, hF⟩ := bind_some' hF
    refine OW.fn rfl rfl rfl rfl (by kernel_rfl) (flow_Loops_ok _ (.slice a5 (p0.Code).length c6) p0.Code r113 hr114 (hst.part [] rfl) (h0_1b.give hst []) (hT0.give hst [])) ?_
    rintro e w115 ⟨v117, rfl, hst116⟩
    refine ⟨_, rfl, ?_⟩
    have hst := hst.join (idx := []) (rest := [0, 1, 2, 3, 4]) rfl hst116
    obtain ⟨l118, a119, c120, rfl⟩ := hst.len 0 rfl
    refine OW.pure 5 [(41, .slice a119 (r113.1).length c120), (44, .pointer (some ⟨b51, 4, none⟩))] (by kernel_rfl) ?_
    refine OW.stB hst 2 rfl rfl rfl rfl rfl (by kernel_rfl) rfl rfl [.slice a90 (o53.Module.Maps).length c91, .slice a93 (o53.Module.Code).length c94, .slice a96 (o53.came).length c97, .slice a99 (o53.any).length c100, .slice a119 (r113.1).length c120] rfl ?_
    intro w121 hst
    refine OW.nil rfl ?_
    refine QW.next ?_
    refine CW.seq ?_
    refine CW.region ?_
    refine OW.pure 3 [(47, .pointer (some ⟨b51, 3, none⟩))] (by kernel_rfl) ?_
    refine OW.ld rfl rfl rfl rfl (by kernel_rfl) (hst.blk 2 rfl rfl) ?_
    obtain ⟨x129, hx130, hF⟩ := bind_some' hF
    obtain ⟨g132, o133, c134, hv131⟩ := hst.rowv 4 rfl hx130
    refine OW.idx 4 1 rfl rfl rfl rfl hv131 rfl (idx_some hx130).1 (idx_some hx130).2.1 (by kernel_rfl) (by kernel_rfl) ?_
    refine OW.stR hst 4 rfl hv131 (fun _ => rfl) rfl rfl hx130 0 rfl rfl rfl (by kernel_rfl) rfl rfl true rfl ?_
    intro w135 hst
    refine OW.nil rfl ?_
    refine QW.next ?_
    refine CW.seq ?_
    refine CW.seq ?_
    refine CW.region ?_
    refine OW.pure 1 [(50, .pointer (some ⟨b9, 1, none⟩))] (by kernel_rfl) ?_
    refine OW.ld rfl rfl rfl rfl (by kernel_rfl) (hst.blk 1 rfl rfl) ?_
    refine OW.pure 2 [(52, .int .i64 ((p0.Code).length : Int)), (53, .int .i64 0)] (by kernel_rfl) ?_
    refine OW.nil rfl ?_
    refine QW.next ?_
    obtain ⟨o396, ho397, hF⟩ := bind_some' hF
    refine CW.cutK (fun a w1 => ∃ (t398 : judge_judge) (S395 : List Nat), o396 = .inl t398 ∧ Rep 83 [(7, .pointer (some ⟨b51, 0, none⟩))] a ∧ St w (fp []) w1 [itI (R_t49 wb Sb) [.pointer (some ⟨b51, 0, none⟩)] S395 t398]) ?_ ?_
    ·refine CW.block ?_
     have hst := hst.borIn hbo85
     have hst := hst.borIn hbo87
     have hst := hst.toIt 3 rfl (fun _ => rfl) (by decide)
     have hst := hst.toIt 4 rfl (fun _ => rfl) (by decide)
     have hst := hst.toIt 0 rfl (fun _ => rfl) (by decide)
     obtain ⟨S399, hst⟩ := hst.shutP5 (R_t56 wb Sb) rfl 2 6 7 3 4 0 [1, 5] rfl rfl rfl rfl rfl rfl rfl (judge_judge.mk o53.Module o53.came (o53.any.set (Int.toNat 0) true) r113.1) rfl rfl
     refine CW.loop (fun n a w1 => ∃ (i573 : Nat) (s571 : judge_judge) (S572 : List Nat), i573 + n = (p0.Code).length ∧ Rep 83 [(7, .pointer (some ⟨b51, 0, none⟩)), (52, .int .i64 ((p0.Code).length : Int)), (53, .int .i64 (i573 : Int))] a ∧ St w (fp []) w1 [itI (R_t49 wb Sb) [.pointer (some ⟨b51, 0, none⟩)] S572 s571] ∧ forN (judge_judged_l1 fu) (fun (s571 : judge_judge) => (.inl s571)) n i573 s571 = some o396) (p0.Code).length (fun a ha => ⟨0, (judge_judge.mk o53.Module o53.came (o53.any.set (Int.toNat 0) true) r113.1), S399, Nat.zero_add _, ha.agrees (by kernel_rfl), hst.keep [2] rfl, ho397⟩) ?_
     rintro n569 a w1 ⟨i573, s571, S572, hi574, ha, hst, hl570⟩
     refine CW.go ?_ ha
     refine CW.seq ?_
     refine CW.region ?_
     refine OW.pure 1 [(54, .bool (decide ((i573 : Int) < ((p0.Code).length : Int))))] (by kernel_rfl) ?_
     refine OW.nil rfl ?_
     refine QW.next ?_
     refine CW.seq ?_
     rcases Bool.eq_false_or_eq_true (decide ((i573 : Int) < ((p0.Code).length : Int))) with hc575 | hc575
     ·rcases n569 with _ | n569
      ·exact (cnt0 hi574 hc575).elim
      refine CW.cond_t rfl hc575 ?_
      refine CW.skip ?_
      refine QW.next ?_
      refine CW.seq ?_
      refine CW.block ?_
      refine CW.seq ?_
      refine CW.region ?_
      refine OW.pure 2 [(8, .int .i64 (i573 : Int))] (by kernel_rfl) ?_
      refine OW.nil rfl ?_
      refine QW.next ?_
      refine CW.seq ?_
      refine CW.seq ?_
      obtain ⟨v576, S577, v578, S579, v580, S581, v582, S583, v584, S585, hst⟩ := hst.openQ5 0 rfl rfl rfl rfl rfl rfl
      have hbo586 := hst.borOut 1 rfl
      have hbr587 := hbo586.bor hb
      have hbo588 := hst.borOut 2 rfl
      have hbr589 := hbo588.bor hb
      have hst := hst.toRow1 3 rfl
      have hst := hst.toRow1 4 rfl
      have hst := hst.toRow1 5 rfl
      have hst := hst.keep [0, 3, 4, 5] rfl
      obtain ⟨l590, a591, c592, rfl⟩ := hbr587.len
      obtain ⟨l593, a594, c595, rfl⟩ := hbr589.len
      obtain ⟨l596, a597, c598, rfl⟩ := hst.len 1 rfl
      obtain ⟨l599, a600, c601, rfl⟩ := hst.len 2 rfl
      obtain ⟨l602, a603, c604, rfl⟩ := hst.len 3 rfl
      have hst : St _ _ _ [blkI b51 56 [.slice a591 (s571.Module.Maps).length c592, .slice a594 (s571.Module.Code).length c595, .slice a597 (s571.came).length c598, .slice a600 (s571.any).length c601, .slice a603 (s571.loops).length c604], _, _, _] := hst
      refine CW.region ?_
      refine OW.pure 3 [(58, .pointer (some ⟨b51, 3, none⟩))] (by kernel_rfl) ?_
      refine OW.ld rfl rfl rfl rfl (by kernel_rfl) (hst.blk 0 rfl rfl) ?_
      refine OW.pure 1 [(60, .int .i64 (i573 : Int))] (by kernel_rfl) ?_
      obtain ⟨x611, hx612, hl570⟩ := bind_some' hl570
      obtain ⟨g614, o615, c616, hv613⟩ := hst.rowv 2 rfl hx612
      refine OW.idx 4 1 rfl rfl rfl rfl hv613 rfl (idx_some hx612).1 (idx_some hx612).2.1 (by kernel_rfl) (by kernel_rfl) ?_
      refine OW.ld rfl rfl rfl rfl (by kernel_rfl) (hst.rowc 2 rfl (fun _ => rfl) hx612 hv613 0 _ rfl) ?_
      refine OW.pure 1 [(63, .bool (!x611))] (by kernel_rfl) ?_
      refine OW.nil rfl ?_
      refine QW.next ?_
      rcases Bool.eq_false_or_eq_true ((!x611)) with hc617 | hc617
      ·have hl570 := ite_t hl570 hc617
       refine CW.cond_t rfl hc617 ?_
       refine CW.exit ?_
       refine QW.then_exit ?_
       refine QW.block_here ?_
       refine QW.next ?_
       refine CW.region ?_
       refine OW.pure 2 [(53, .int .i64 (w64 ((i573 : Int) + 1)))] (by kernel_rfl) ?_
       refine OW.nil rfl ?_
       have hst := hst.borIn hbo586
       have hst := hst.borIn hbo588
       have hst := hst.toIt 1 rfl (fun _ => rfl) (by decide)
       have hst := hst.toIt 2 rfl (fun _ => rfl) (by decide)
       have hst := hst.toIt 3 rfl (fun _ => rfl) (by decide)
       obtain ⟨S618, hst⟩ := hst.shutP5 (R_t56 wb Sb) rfl 0 4 5 1 2 3 [] rfl rfl rfl rfl rfl rfl rfl s571 rfl rfl
       refine QW.say 53 rfl (congrArg (Value.int .i64) (w64_cnt hc575 l4)) ?_
       exact QW.meet (fun a ha => ⟨n569, Nat.lt_succ_self _, i573 + 1, s571, S618, cnt_next hi574, ha.agrees (by kernel_rfl), hst.keep [0] rfl, hl570⟩)
      ·have hl570 := ite_f hl570 hc617
       refine CW.cond_f rfl hc617 ?_
       refine CW.skip ?_
       refine QW.next ?_
       refine CW.seq ?_
       refine CW.region ?_
       refine OW.pure 2 [(64, .pointer (some ⟨b51, 0, none⟩)), (65, .int .i64 (i573 : Int))] (by kernel_rfl) ?_
       have hst := hst.borIn hbo586
       have hst := hst.borIn hbo588
       have hst := hst.toIt 1 rfl (fun _ => rfl) (by decide)
       have hst := hst.toIt 2 rfl (fun _ => rfl) (by decide)
       have hst := hst.toIt 3 rfl (fun _ => rfl) (by decide)
       obtain ⟨S625, hst⟩ := hst.shutP5 (R_t56 wb Sb) rfl 0 4 5 1 2 3 [] rfl rfl rfl rfl rfl rfl rfl s571 rfl rfl
       obtain ⟨r626, hr627, hl570⟩ := bind_some' hl570
       refine OW.fn rfl rfl rfl rfl (by kernel_rfl) (judge_judge_widen_ok _ wb Sb (.pointer (some ⟨b51, 0, none⟩)) S625 s571 (i573 : Int) r626 hr627 (hst.part [0] rfl) (hb.on hst [0]) (hT0.give hst [0])) ?_
       rintro e w628 ⟨S630, rfl, hst629⟩
       refine ⟨_, rfl, ?_⟩
       have hst := hst.join (idx := [0]) (rest := []) rfl hst629
       refine OW.nil rfl ?_
       refine QW.next ?_
       refine CW.seq ?_
       refine CW.region ?_
       refine OW.pure 2 [(68, .pointer (some ⟨b51, 0, none⟩)), (69, .int .i64 (i573 : Int))] (by kernel_rfl) ?_
       obtain ⟨r639, hr640, hl570⟩ := bind_some' hl570
       refine OW.fn rfl rfl rfl rfl (by kernel_rfl) (judge_judge_one_ok _ wb Sb fu (.pointer (some ⟨b51, 0, none⟩)) S630 r626 (i573 : Int) r639 hr640 (hst.part [0] rfl) (hb.on hst [0]) (hT0.give hst [0]) (hT1.give hst [0])) ?_
       rintro e w641 ⟨S643, rfl, hst642⟩
       refine ⟨_, rfl, ?_⟩
       have hst := hst.join (idx := [0]) (rest := []) rfl hst642
       refine OW.pure 3 [(71, .agg [.int .i64 (r639.1 0).Kind, .int .u64 (r639.1 0).Span.Lo, .int .u64 (r639.1 0).Span.Hi, .int .i64 (r639.1 0).Map, .int .i64 (r639.1 1).Kind, .int .u64 (r639.1 1).Span.Lo, .int .u64 (r639.1 1).Span.Hi, .int .i64 (r639.1 1).Map, .int .i64 (r639.1 2).Kind, .int .u64 (r639.1 2).Span.Lo, .int .u64 (r639.1 2).Span.Hi, .int .i64 (r639.1 2).Map, .int .i64 (r639.1 3).Kind, .int .u64 (r639.1 3).Span.Lo, .int .u64 (r639.1 3).Span.Hi, .int .i64 (r639.1 3).Map, .int .i64 (r639.1 4).Kind, .int .u64 (r639.1 4).Span.Lo, .int .u64 (r639.1 4).Span.Hi, .int .i64 (r639.1 4).Map, .int .i64 (r639.1 5).Kind, .int .u64 (r639.1 5).Span.Lo, .int .u64 (r639.1 5).Span.Hi, .int .i64 (r639.1 5).Map, .int .i64 (r639.1 6).Kind, .int .u64 (r639.1 6).Span.Lo, .int .u64 (r639.1 6).Span.Hi, .int .i64 (r639.1 6).Map, .int .i64 (r639.1 7).Kind, .int .u64 (r639.1 7).Span.Lo, .int .u64 (r639.1 7).Span.Hi, .int .i64 (r639.1 7).Map].toArray), (72, .int .i64 r639.2)] (by kernel_rfl) ?_
       refine OW.alloc hst rfl rfl rfl [.int .i64 0, .int .u64 0, .int .u64 0, .int .i64 0, .int .i64 0, .int .u64 0, .int .u64 0, .int .i64 0, .int .i64 0, .int .u64 0, .int .u64 0, .int .i64 0, .int .i64 0, .int .u64 0, .int .u64 0, .int .i64 0, .int .i64 0, .int .u64 0, .int .u64 0, .int .i64 0, .int .i64 0, .int .u64 0, .int .u64 0, .int .i64 0, .int .i64 0, .int .u64 0, .int .u64 0, .int .i64 0, .int .i64 0, .int .u64 0, .int .u64 0, .int .i64 0] (by kernel_rfl) ?_
       intro b644 w645 hst
       refine OW.stB hst 1 rfl rfl rfl rfl rfl (by kernel_rfl) rfl rfl [.int .i64 (r639.1 0).Kind, .int .u64 (r639.1 0).Span.Lo, .int .u64 (r639.1 0).Span.Hi, .int .i64 (r639.1 0).Map, .int .i64 (r639.1 1).Kind, .int .u64 (r639.1 1).Span.Lo, .int .u64 (r639.1 1).Span.Hi, .int .i64 (r639.1 1).Map, .int .i64 (r639.1 2).Kind, .int .u64 (r639.1 2).Span.Lo, .int .u64 (r639.1 2).Span.Hi, .int .i64 (r639.1 2).Map, .int .i64 (r639.1 3).Kind, .int .u64 (r639.1 3).Span.Lo, .int .u64 (r639.1 3).Span.Hi, .int .i64 (r639.1 3).Map, .int .i64 (r639.1 4).Kind, .int .u64 (r639.1 4).Span.Lo, .int .u64 (r639.1 4).Span.Hi, .int .i64 (r639.1 4).Map, .int .i64 (r639.1 5).Kind, .int .u64 (r639.1 5).Span.Lo, .int .u64 (r639.1 5).Span.Hi, .int .i64 (r639.1 5).Map, .int .i64 (r639.1 6).Kind, .int .u64 (r639.1 6).Span.Lo, .int .u64 (r639.1 6).Span.Hi, .int .i64 (r639.1 6).Map, .int .i64 (r639.1 7).Kind, .int .u64 (r639.1 7).Span.Lo, .int .u64 (r639.1 7).Span.Hi, .int .i64 (r639.1 7).Map] rfl ?_
       intro w646 hst
       refine OW.pure 1 [(10, .int .i64 r639.2)] (by kernel_rfl) ?_
       refine OW.nil rfl ?_
       refine QW.next ?_
       refine CW.seq ?_
       refine CW.seq ?_
       refine CW.region ?_
       refine OW.pure 2 [(74, .bool (r639.2 != 0))] (by kernel_rfl) ?_
       refine OW.nil rfl ?_
       refine QW.next ?_
       rcases Bool.eq_false_or_eq_true ((r639.2 != 0)) with hc647 | hc647
       ·have hl570 := ite_t hl570 hc647
        refine CW.cond_t rfl hc647 ?_
        refine CW.seq ?_
        refine CW.region ?_
        refine OW.pure 5 [(2, .pointer none), (3, .int .i64 (i573 : Int)), (4, .int .i64 r639.2)] (by kernel_rfl) ?_
        refine OW.nil rfl ?_
        refine QW.next ?_
        refine CW.ret ?_
        refine QW.then_ret ?_
        refine QW.block_ret ?_
        refine QW.then_ret ?_
        refine QW.then_ret ?_
        refine QW.block_ret ?_
        refine QW.then_ret ?_
        obtain rfl := Option.some.inj hl570
        obtain rfl := Option.some.inj hF
        refine QW.ret3 rfl rfl rfl rfl ?_
        exact .inr ⟨rfl, rfl, hst.keep [] rfl⟩
       ·have hl570 := ite_f hl570 hc647
        refine CW.cond_f rfl hc647 ?_
        refine CW.skip ?_
        refine QW.next ?_
        refine CW.region ?_
        refine OW.pure 2 [(77, .pointer (some ⟨b51, 0, none⟩)), (78, .int .i64 (i573 : Int))] (by kernel_rfl) ?_
        refine OW.ldN (cs := [.int .i64 (r639.1 0).Kind, .int .u64 (r639.1 0).Span.Lo, .int .u64 (r639.1 0).Span.Hi, .int .i64 (r639.1 0).Map, .int .i64 (r639.1 1).Kind, .int .u64 (r639.1 1).Span.Lo, .int .u64 (r639.1 1).Span.Hi, .int .i64 (r639.1 1).Map, .int .i64 (r639.1 2).Kind, .int .u64 (r639.1 2).Span.Lo, .int .u64 (r639.1 2).Span.Hi, .int .i64 (r639.1 2).Map, .int .i64 (r639.1 3).Kind, .int .u64 (r639.1 3).Span.Lo, .int .u64 (r639.1 3).Span.Hi, .int .i64 (r639.1 3).Map, .int .i64 (r639.1 4).Kind, .int .u64 (r639.1 4).Span.Lo, .int .u64 (r639.1 4).Span.Hi, .int .i64 (r639.1 4).Map, .int .i64 (r639.1 5).Kind, .int .u64 (r639.1 5).Span.Lo, .int .u64 (r639.1 5).Span.Hi, .int .i64 (r639.1 5).Map, .int .i64 (r639.1 6).Kind, .int .u64 (r639.1 6).Span.Lo, .int .u64 (r639.1 6).Span.Hi, .int .i64 (r639.1 6).Map, .int .i64 (r639.1 7).Kind, .int .u64 (r639.1 7).Span.Lo, .int .u64 (r639.1 7).Span.Hi, .int .i64 (r639.1 7).Map]) rfl rfl rfl rfl (by kernel_rfl) (by kernel_rfl) (hst.blkN 1 rfl 0 32) ?_
        obtain ⟨r653, hr654, hl570⟩ := bind_some' hl570
        refine OW.fn rfl rfl rfl rfl (by kernel_rfl) (judge_judge_ways_ok _ wb Sb (.pointer (some ⟨b51, 0, none⟩)) S643 r626 (i573 : Int) r639.1 r653 hr654 (hst.part [0] rfl) (hb.on hst [0]) (hT0.give hst [0])) ?_
        rintro e w655 ⟨S657, rfl, hst656⟩
        refine ⟨_, rfl, ?_⟩
        have hst := hst.join (idx := [0]) (rest := [1]) rfl hst656
        refine OW.nil rfl ?_
        refine QW.block_normal ?_
        refine QW.next ?_
        refine CW.region ?_
        refine OW.pure 2 [(53, .int .i64 (w64 ((i573 : Int) + 1)))] (by kernel_rfl) ?_
        refine OW.nil rfl ?_
        refine QW.say 53 rfl (congrArg (Value.int .i64) (w64_cnt hc575 l4)) ?_
        exact QW.meet (fun a ha => ⟨n569, Nat.lt_succ_self _, i573 + 1, r653, S657, cnt_next hi574, ha.agrees (by kernel_rfl), hst.keep [0] rfl, hl570⟩)
     ·rcases n569 with _ | n569
      ·refine CW.cond_f rfl hc575 ?_
       refine CW.exit ?_
       refine QW.then_exit ?_
       refine QW.then_exit ?_
       refine QW.block_here ?_
       obtain rfl := Option.some.inj hl570
       exact QW.meet (fun a ha => ⟨s571, S572, rfl, ha.agrees (by kernel_rfl), hst.keep [0] rfl⟩)
      ·exact (cnt1 hi574 hc575).elim
    ·rintro a w1 ⟨t398, S395, rfl, ha, hst⟩
     refine CW.go ?_ ha
     refine CW.seq ?_
     refine CW.region ?_
     refine OW.pure 4 [(2, .pointer (some ⟨b51, 0, none⟩)), (3, .int .i64 0), (4, .int .i64 0)] (by kernel_rfl) ?_
     refine OW.nil rfl ?_
     refine QW.next ?_
     refine CW.ret ?_
     obtain rfl := Option.some.inj hF
     refine QW.ret3 rfl rfl rfl rfl ?_
     exact .inl ⟨_, (.pointer (some ⟨b51, 0, none⟩)), S395, rfl, rfl, hst.keep [0] rfl⟩

set_option maxRecDepth 10000 in
set_option maxHeartbeats 4000000 in
theorem judge_Judge_ok (w : World) (wb : World) (Sb : List Nat) (fu : Nat) (v0_0 : Value) (v0_1 : Value) (p0 : api_Module) (r : Int × Int) (hF : judge_Judge fu p0 = some r)
    (hst : St w (fp []) w []) (hb : Bor wb Sb w (fp [])) (h0_0 : Rd wb Sb v0_0 (encInt .i64) 1 p0.Maps) (h0_1 : Rd wb Sb v0_1 enc_api_Inst 5 p0.Code) (hT0 : Rd w (fp []) (.slice (some ⟨0, 0, none⟩) 23 23) enc_ops_form 2 tab_g0) (hT1 : Rd w (fp []) (.slice (some ⟨1, 0, none⟩) 7 7) enc_sigs_sig 5 tab_g1) :
    Calls Tryd.prog 10 [.agg [v0_0, v0_1].toArray].toArray w (fun e w' => e = .returned (.tuple #[.int .i64 r.1, .int .i64 r.2]) ∧ St w (fp []) w' []) := by
 refine CW.start (N := 15) Tryd.func10 rfl rfl rfl ?_
 have h0_0b := h0_0.bor hb
 have h0_1b := h0_1.bor hb
 obtain ⟨l1, a2, c3, rfl⟩ := h0_0b.len
 obtain ⟨l4, a5, c6, rfl⟩ := h0_1b.len
 refine CW.seq ?_
 refine CW.region ?_
 refine OW.box hst rfl rfl rfl rfl [.slice a2 (p0.Maps).length c3, .slice a5 (p0.Code).length c6] rfl ?_
 intro b9 w10 hst
 refine OW.pure 2 [] (by kernel_rfl) ?_
 refine OW.nil rfl ?_
 refine QW.next ?_
 refine CW.seq ?_
 refine CW.region ?_
 refine OW.ldN (cs := [.slice a2 (p0.Maps).length c3, .slice a5 (p0.Code).length c6]) rfl rfl rfl rfl (by kernel_rfl) (by kernel_rfl) (hst.blkN 0 rfl 0 2) ?_
 obtain ⟨r21, hr22, hF⟩ := bind_some' hF
 refine OW.fn rfl rfl rfl rfl (by kernel_rfl) (judge_judged_ok _ wb Sb fu (.slice a2 (p0.Maps).length c3) (.slice a5 (p0.Code).length c6) p0 r21 hr22 (hst.part [] rfl) (hb.on hst []) h0_0 h0_1 (hT0.give hst []) (hT1.give hst [])) ?_
 rintro e w23 (⟨k25, v27, S28, he26, rfl, hst24⟩ | ⟨he29, rfl, hst24⟩)
 ·have hF := ocase_some hF he26
  refine ⟨_, rfl, ?_⟩
  have hst := hst.join (idx := []) (rest := [0]) rfl hst24
  obtain ⟨b30, rfl⟩ := hst.fptr 0 rfl
  refine OW.pure 7 [(5, .int .i64 r21.2.1), (6, .int .i64 r21.2.2)] (by kernel_rfl) ?_
  refine OW.nil rfl ?_
  refine QW.next ?_
  refine CW.seq ?_
  refine CW.region ?_
  refine OW.pure 4 [(2, .int .i64 r21.2.1), (3, .int .i64 r21.2.2)] (by kernel_rfl) ?_
  refine OW.nil rfl ?_
  refine QW.next ?_
  refine CW.ret ?_
  obtain rfl := Option.some.inj hF
  refine QW.ret2 rfl rfl rfl ?_
  exact ⟨rfl, hst.keep [] rfl⟩
 ·have hF := ocase_none hF he29
  refine ⟨_, rfl, ?_⟩
  have hst := hst.join (idx := []) (rest := [0]) rfl hst24
  refine OW.pure 7 [(5, .int .i64 r21.2.1), (6, .int .i64 r21.2.2)] (by kernel_rfl) ?_
  refine OW.nil rfl ?_
  refine QW.next ?_
  refine CW.seq ?_
  refine CW.region ?_
  refine OW.pure 4 [(2, .int .i64 r21.2.1), (3, .int .i64 r21.2.2)] (by kernel_rfl) ?_
  refine OW.nil rfl ?_
  refine QW.next ?_
  refine CW.ret ?_
  obtain rfl := Option.some.inj hF
  refine QW.ret2 rfl rfl rfl ?_
  exact ⟨rfl, hst.keep [] rfl⟩

set_option maxRecDepth 10000 in
set_option maxHeartbeats 4000000 in
theorem slices_Clone_tappet_api_Type_tappet_api_Type_ok (w : World) (v0 : Value) (p0 : List api_Type) (r : (List api_Type)) (hF : slices_Clone_tappet_api_Type_tappet_api_Type p0 = some r)
    (hst : St w (fp []) w []) (h0 : Rd w (fp []) v0 enc_api_Type 4 p0) :
    Calls Tryd.prog 13 [v0].toArray w (fun e w' => ∃ (x0 : Value), e = .returned (x0) ∧ St w (fp []) w' [rowI x0 38 enc_api_Type 4 r]) := by
 refine CW.start (N := 8) Tryd.func13 rfl rfl rfl ?_
 obtain ⟨l1, a2, c3, rfl⟩ := h0.len
 refine CW.seq ?_
 refine CW.region ?_
 refine OW.pure 1 [] (by kernel_rfl) ?_
 refine OW.nil rfl ?_
 refine QW.next ?_
 refine CW.seq ?_
 refine CW.seq ?_
 refine CW.region ?_
 refine OW.pure 1 [(3, .slice a2 (p0).length c3)] (by kernel_rfl) ?_
 refine OW.op (v := .bool (a2).isNone) rfl rfl rfl rfl (fun a ha => snil_run (e := 38) rfl rfl rfl (by kernel_rfl) a _ ha) ?_
 refine OW.nil rfl ?_
 refine QW.next ?_
 rcases Bool.eq_false_or_eq_true ((a2).isNone) with hc4 | hc4
 ·have hn5 := h0.isnil (fun _ => ⟨_, rfl⟩) hc4
  have hF : some ([] : List api_Type) = some r := by rw [hn5] at hF; exact hF
  refine CW.cond_t rfl hc4 ?_
  refine CW.seq ?_
  refine CW.region ?_
  refine OW.pure 1 [(2, .slice none 0 0)] (by kernel_rfl) ?_
  refine OW.nil rfl ?_
  refine QW.next ?_
  refine CW.ret ?_
  refine QW.then_ret ?_
  have hst := hst.nilRow api_Type 38 enc_api_Type 4
  obtain rfl := Option.some.inj hF
  refine QW.ret1 rfl rfl ?_
  exact ⟨(.slice none 0 0), rfl, hst.keep [0] rfl⟩
 ·refine CW.cond_f rfl hc4 ?_
  refine CW.skip ?_
  refine QW.next ?_
  refine CW.seq ?_
  refine CW.region ?_
  refine OW.row (α := api_Type) (e := 38) (enc := enc_api_Type) (sz := 4) hst rfl rfl rfl [] rfl (fun _ => rfl) rfl rfl (fun _ => by kernel_rfl) ?_
  intro g15 w16 hst
  refine OW.pure 1 [(6, .slice a2 (p0).length c3)] (by kernel_rfl) ?_
  obtain ⟨u17, hr18, hF⟩ := bind_some' hF
  refine OW.app hst 0 rfl (fun _ => rfl) (fun _ => rfl) rfl rfl rfl rfl rfl rfl (by kernel_rfl) el38 (h0.on hst) (room_le hr18) ?_
  intro v19 w20 hst
  obtain ⟨l21, a22, c23, rfl⟩ := hst.len 0 rfl
  refine OW.pure 1 [(2, .slice a22 ((([] : List api_Type) ++ p0)).length c23)] (by kernel_rfl) ?_
  refine OW.nil rfl ?_
  refine QW.next ?_
  refine CW.ret ?_
  obtain rfl := Option.some.inj hF
  refine QW.ret1 rfl rfl ?_
  exact ⟨(.slice a22 ((([] : List api_Type) ++ p0)).length c23), rfl, hst.keep [0] rfl⟩

set_option maxRecDepth 10000 in
set_option maxHeartbeats 4000000 in
theorem judge_Types_ok (w : World) (wb : World) (Sb : List Nat) (fu : Nat) (v0_0 : Value) (v0_1 : Value) (p0 : api_Module) (r : (List (List api_Type)) × Int) (hF : judge_Types fu p0 = some r)
    (hst : St w (fp []) w []) (hb : Bor wb Sb w (fp [])) (h0_0 : Rd wb Sb v0_0 (encInt .i64) 1 p0.Maps) (h0_1 : Rd wb Sb v0_1 enc_api_Inst 5 p0.Code) (hT0 : Rd w (fp []) (.slice (some ⟨0, 0, none⟩) 23 23) enc_ops_form 2 tab_g0) (hT1 : Rd w (fp []) (.slice (some ⟨1, 0, none⟩) 7 7) enc_sigs_sig 5 tab_g1) :
    Calls Tryd.prog 6 [.agg [v0_0, v0_1].toArray].toArray w (fun e w' => ∃ (x0 : Value) (Sx0 : List Nat), e = .returned (.tuple #[x0, .int .i64 r.2]) ∧ St w (fp []) w' [nI 32 R_t32 x0 Sx0 r.1 none]) := by
 refine CW.start (N := 47) Tryd.func6 rfl rfl rfl ?_
 have h0_0b := h0_0.bor hb
 have h0_1b := h0_1.bor hb
 obtain ⟨l1, a2, c3, rfl⟩ := h0_0b.len
 obtain ⟨l4, a5, c6, rfl⟩ := h0_1b.len
 refine CW.seq ?_
 refine CW.region ?_
 refine OW.box hst rfl rfl rfl rfl [.slice a2 (p0.Maps).length c3, .slice a5 (p0.Code).length c6] rfl ?_
 intro b9 w10 hst
 refine OW.pure 2 [] (by kernel_rfl) ?_
 refine OW.nil rfl ?_
 refine QW.next ?_
 refine CW.seq ?_
 refine CW.region ?_
 refine OW.ldN (cs := [.slice a2 (p0.Maps).length c3, .slice a5 (p0.Code).length c6]) rfl rfl rfl rfl (by kernel_rfl) (by kernel_rfl) (hst.blkN 0 rfl 0 2) ?_
 obtain ⟨r21, hr22, hF⟩ := bind_some' hF
 refine OW.fn rfl rfl rfl rfl (by kernel_rfl) (judge_judged_ok _ wb Sb fu (.slice a2 (p0.Maps).length c3) (.slice a5 (p0.Code).length c6) p0 r21 hr22 (hst.part [] rfl) (hb.on hst []) h0_0 h0_1 (hT0.give hst []) (hT1.give hst [])) ?_
 rintro e w23 (⟨k25, v27, S28, he26, rfl, hst24⟩ | ⟨he29, rfl, hst24⟩)
 ·have hF := ocase_some hF he26
  refine ⟨_, rfl, ?_⟩
  have hst := hst.join (idx := []) (rest := [0]) rfl hst24
  obtain ⟨b30, rfl⟩ := hst.fptr 0 rfl
  refine OW.pure 7 [(4, .pointer (some ⟨b30, 0, none⟩)), (6, .int .i64 r21.2.2)] (by kernel_rfl) ?_
  refine OW.nil rfl ?_
  refine QW.next ?_
  refine CW.seq ?_
  refine CW.seq ?_
  refine CW.region ?_
  refine OW.pure 2 [(17, .bool (r21.2.2 != 0))] (by kernel_rfl) ?_
  refine OW.nil rfl ?_
  refine QW.next ?_
  rcases Bool.eq_false_or_eq_true ((r21.2.2 != 0)) with hc31 | hc31
  ·have hF := ite_t hF hc31
   refine CW.cond_t rfl hc31 ?_
   refine CW.seq ?_
   refine CW.region ?_
   refine OW.pure 3 [(2, .slice none 0 0), (3, .int .i64 r21.2.2)] (by kernel_rfl) ?_
   refine OW.nil rfl ?_
   refine QW.next ?_
   refine CW.ret ?_
   refine QW.then_ret ?_
   have hst := hst.nNil 32 R_t32 none
   obtain rfl := Option.some.inj hF
   refine QW.ret2 rfl rfl rfl ?_
   exact ⟨(.slice none 0 0), ([]), rfl, hst.keep [2] rfl⟩
  ·have hF := ite_f hF hc31
   refine CW.cond_f rfl hc31 ?_
   refine CW.skip ?_
   refine QW.next ?_
   refine CW.seq ?_
   refine CW.region ?_
   refine OW.pure 1 [(19, .pointer (some ⟨b9, 1, none⟩))] (by kernel_rfl) ?_
   refine OW.ld rfl rfl rfl rfl (by kernel_rfl) (hst.blk 1 rfl rfl) ?_
   refine OW.pure 1 [(21, .int .i64 ((p0.Code).length : Int))] (by kernel_rfl) ?_
   obtain ⟨m36, hm37, hF⟩ := bind_some' hF
   refine OW.make (enc := fit 1) (sz := 1) hst rfl rfl rfl rfl rfl (by kernel_rfl) el32 [.slice none 0 0] (by kernel_rfl) (fun _ => fit_len _ _) hm37 ?_
   intro g38 w39 hst
   have hst := hst.nNew 2 R_t32 rfl rfl [] (fun w => ⟨_, rfl, rfl, Owns.nil w _ _ none⟩)
   refine OW.pure 1 [(7, .slice (some ⟨g38, 0, none⟩) m36 m36)] (by kernel_rfl) ?_
   refine OW.nil rfl ?_
   refine QW.next ?_
   refine CW.seq ?_
   refine CW.seq ?_
   obtain ⟨v40, S41, v42, S43, v44, S45, v46, S47, v48, S49, hst⟩ := hst.openQ5 0 rfl rfl rfl rfl rfl rfl
   have hbo50 := hst.borOut 3 rfl
   have hbr51 := hbo50.bor hb
   have hbo52 := hst.borOut 4 rfl
   have hbr53 := hbo52.bor hb
   have hst := hst.toRow1 5 rfl
   have hst := hst.toRow1 6 rfl
   have hst := hst.toRow1 7 rfl
   have hst := hst.keep [0, 1, 2, 5, 6, 7] rfl
   obtain ⟨l54, a55, c56, rfl⟩ := hbr51.len
   obtain ⟨l57, a58, c59, rfl⟩ := hbr53.len
   obtain ⟨l60, a61, c62, rfl⟩ := hst.len 3 rfl
   obtain ⟨l63, a64, c65, rfl⟩ := hst.len 4 rfl
   obtain ⟨l66, a67, c68, rfl⟩ := hst.len 5 rfl
   have hst : St _ _ _ [blkI b30 56 [.slice a55 (k25.Module.Maps).length c56, .slice a58 (k25.Module.Code).length c59, .slice a61 (k25.came).length c62, .slice a64 (k25.any).length c65, .slice a67 (k25.loops).length c68], _, _, _, _, _] := hst
   refine CW.region ?_
   refine OW.pure 3 [(25, .pointer (some ⟨b30, 2, none⟩))] (by kernel_rfl) ?_
   refine OW.ld rfl rfl rfl rfl (by kernel_rfl) (hst.blk 0 rfl rfl) ?_
   refine OW.pure 2 [(27, .int .i64 ((k25.came).length : Int)), (28, .int .i64 0)] (by kernel_rfl) ?_
   refine OW.nil rfl ?_
   refine QW.next ?_
   obtain ⟨o280, ho281, hF⟩ := bind_some' hF
   refine CW.cutK (fun a w1 => ∃ (S279 : List Nat), Rep 47 [(7, .slice (some ⟨g38, 0, none⟩) m36 m36)] a ∧ St w (fp []) w1 [nI 32 R_t32 (.slice (some ⟨g38, 0, none⟩) m36 m36) S279 o280 none]) ?_ ?_
   ·refine CW.block ?_
    refine CW.loop (fun n a w1 => ∃ (i423 : Nat) (s421 : (List (List api_Type))) (S422 : List Nat), i423 + n = (k25.came).length ∧ Rep 47 [(4, .pointer (some ⟨b30, 0, none⟩)), (7, .slice (some ⟨g38, 0, none⟩) m36 m36), (26, .slice a61 (k25.came).length c62), (27, .int .i64 ((k25.came).length : Int)), (28, .int .i64 (i423 : Int))] a ∧ St w (fp []) w1 [blkI b30 56 [.slice a55 (k25.Module.Maps).length c56, .slice a58 (k25.Module.Code).length c59, .slice a61 (k25.came).length c62, .slice a64 (k25.any).length c65, .slice a67 (k25.loops).length c68], rowI (.slice a61 (k25.came).length c62) 58 (arrC (enc_api_Type) 8) 32 k25.came, rowI (.slice a64 (k25.any).length c65) 4 encBool 1 k25.any, rowI (.slice a67 (k25.loops).length c68) 73 enc_api_Loop 3 k25.loops, nI 32 R_t32 (.slice (some ⟨g38, 0, none⟩) m36 m36) S422 s421 none] ∧ forN (judge_Types_l1 k25) (fun (s421 : (List (List api_Type))) => s421) n i423 s421 = some o280) (k25.came).length (fun a ha => ⟨0, (List.replicate m36 []), (ownB (.slice (some ⟨g38, 0, none⟩) m36 m36)).toList, Nat.zero_add _, ha.agrees (by kernel_rfl), hst.keep [0, 3, 4, 5, 2] rfl, ho281⟩) ?_
    rintro n419 a w1 ⟨i423, s421, S422, hi424, ha, hst, hl420⟩
    refine CW.go ?_ ha
    refine CW.seq ?_
    refine CW.region ?_
    refine OW.pure 1 [(29, .bool (decide ((i423 : Int) < ((k25.came).length : Int))))] (by kernel_rfl) ?_
    refine OW.nil rfl ?_
    refine QW.next ?_
    refine CW.seq ?_
    rcases Bool.eq_false_or_eq_true (decide ((i423 : Int) < ((k25.came).length : Int))) with hc425 | hc425
    ·rcases n419 with _ | n419
     ·exact (cnt0 hi424 hc425).elim
     refine CW.cond_t rfl hc425 ?_
     refine CW.skip ?_
     refine QW.next ?_
     refine CW.seq ?_
     refine CW.block ?_
     refine CW.seq ?_
     refine CW.region ?_
     refine OW.pure 1 [(30, .int .i64 (i423 : Int))] (by kernel_rfl) ?_
     obtain ⟨x435, hx436, hl420⟩ := bind_some' hl420
     obtain ⟨g438, o439, c440, hv437⟩ := hst.rowv 1 rfl hx436
     refine OW.idx 58 32 rfl rfl rfl rfl hv437 rfl (idx_some hx436).1 (idx_some hx436).2.1 (by kernel_rfl) (by kernel_rfl) ?_
     refine OW.ldN (cs := arrC (enc_api_Type) 8 x435) rfl rfl rfl rfl (by kernel_rfl) (by kernel_rfl) (hst.rowc 1 rfl (fun _ => rfl) hx436 hv437) ?_
     refine OW.alloc hst rfl rfl rfl [.int .i64 0, .int .u64 0, .int .u64 0, .int .i64 0, .int .i64 0, .int .u64 0, .int .u64 0, .int .i64 0, .int .i64 0, .int .u64 0, .int .u64 0, .int .i64 0, .int .i64 0, .int .u64 0, .int .u64 0, .int .i64 0, .int .i64 0, .int .u64 0, .int .u64 0, .int .i64 0, .int .i64 0, .int .u64 0, .int .u64 0, .int .i64 0, .int .i64 0, .int .u64 0, .int .u64 0, .int .i64 0, .int .i64 0, .int .u64 0, .int .u64 0, .int .i64 0] (by kernel_rfl) ?_
     intro b441 w442 hst
     refine OW.pure 1 [(8, .int .i64 (i423 : Int))] (by kernel_rfl) ?_
     refine OW.stB hst 5 rfl rfl rfl rfl rfl (by kernel_rfl) rfl rfl [.int .i64 (x435 0).Kind, .int .u64 (x435 0).Span.Lo, .int .u64 (x435 0).Span.Hi, .int .i64 (x435 0).Map, .int .i64 (x435 1).Kind, .int .u64 (x435 1).Span.Lo, .int .u64 (x435 1).Span.Hi, .int .i64 (x435 1).Map, .int .i64 (x435 2).Kind, .int .u64 (x435 2).Span.Lo, .int .u64 (x435 2).Span.Hi, .int .i64 (x435 2).Map, .int .i64 (x435 3).Kind, .int .u64 (x435 3).Span.Lo, .int .u64 (x435 3).Span.Hi, .int .i64 (x435 3).Map, .int .i64 (x435 4).Kind, .int .u64 (x435 4).Span.Lo, .int .u64 (x435 4).Span.Hi, .int .i64 (x435 4).Map, .int .i64 (x435 5).Kind, .int .u64 (x435 5).Span.Lo, .int .u64 (x435 5).Span.Hi, .int .i64 (x435 5).Map, .int .i64 (x435 6).Kind, .int .u64 (x435 6).Span.Lo, .int .u64 (x435 6).Span.Hi, .int .i64 (x435 6).Map, .int .i64 (x435 7).Kind, .int .u64 (x435 7).Span.Lo, .int .u64 (x435 7).Span.Hi, .int .i64 (x435 7).Map] rfl ?_
     intro w443 hst
     refine OW.nil rfl ?_
     refine QW.next ?_
     refine CW.seq ?_
     refine CW.region ?_
     refine OW.pure 3 [(35, .pointer (some ⟨b30, 3, none⟩))] (by kernel_rfl) ?_
     refine OW.ld rfl rfl rfl rfl (by kernel_rfl) (hst.blk 0 rfl rfl) ?_
     refine OW.pure 1 [(37, .int .i64 (i423 : Int))] (by kernel_rfl) ?_
     obtain ⟨x450, hx451, hl420⟩ := bind_some' hl420
     obtain ⟨g453, o454, c455, hv452⟩ := hst.rowv 2 rfl hx451
     refine OW.idx 4 1 rfl rfl rfl rfl hv452 rfl (idx_some hx451).1 (idx_some hx451).2.1 (by kernel_rfl) (by kernel_rfl) ?_
     refine OW.ld rfl rfl rfl rfl (by kernel_rfl) (hst.rowc 2 rfl (fun _ => rfl) hx451 hv452 0 _ rfl) ?_
     refine OW.nil rfl ?_
     refine QW.next ?_
     rcases Bool.eq_false_or_eq_true (x450) with hc456 | hc456
     ·have hl420 := ite_t hl420 hc456
      refine CW.cond_t rfl hc456 ?_
      refine CW.region ?_
      refine OW.pure 2 [(40, .slice (some ⟨g38, 0, none⟩) m36 m36), (41, .int .i64 (i423 : Int))] (by kernel_rfl) ?_
      refine OW.op (v := .slice (some ⟨b441, 0, none⟩) 8 8) rfl rfl rfl rfl (fun a ha => asl_all (e := 38) 4 rfl rfl (by kernel_rfl) (by kernel_rfl) a _ ha) ?_
      obtain ⟨r474, hr475, hl420⟩ := bind_some' hl420
      refine OW.fn rfl rfl rfl rfl (by kernel_rfl) (slices_Clone_tappet_api_Type_tappet_api_Type_ok _ (.slice (some ⟨b441, 0, none⟩) 8 8) (arrL 8 x435) r474 hr475 (hst.part [] rfl) (hst.arrRd 5 rfl enc_api_Type (fun _ => rfl) 8 x435 0 rfl rfl rfl [] rfl)) ?_
      rintro e w476 ⟨v478, rfl, hst477⟩
      refine ⟨_, rfl, ?_⟩
      have hst := hst.join (idx := []) (rest := [0, 1, 2, 3, 4, 5]) rfl hst477
      obtain ⟨l479, a480, c481, rfl⟩ := hst.len 0 rfl
      obtain ⟨x482, hx483, hl420⟩ := bind_some' hl420
      obtain ⟨g485, o486, c487, hv484⟩ := hst.nrowv 5 rfl hx483
      refine OW.idx 32 1 rfl rfl rfl rfl hv484 rfl (idx_some hx483).1 (idx_some hx483).2.1 (by kernel_rfl) (by kernel_rfl) ?_
      have hst := hst.toIt 0 rfl (fun _ => rfl) (by decide)
      refine OW.stN hst 5 0 rfl rfl (fun _ _ e => by cases e) rfl hv484 rfl rfl hx483 rfl rfl rfl rfl (by kernel_rfl) rfl ?_
      intro S490 w489 hst
      have hst := hst.keep [1, 2, 3, 4, 5, 6] rfl
      refine OW.nil rfl ?_
      refine QW.block_normal ?_
      refine QW.next ?_
      refine CW.region ?_
      refine OW.pure 2 [(28, .int .i64 (w64 ((i423 : Int) + 1)))] (by kernel_rfl) ?_
      refine OW.nil rfl ?_
      refine QW.say 28 rfl (congrArg (Value.int .i64) (w64_cnt hc425 l60)) ?_
      exact QW.meet (fun a ha => ⟨n419, Nat.lt_succ_self _, i423 + 1, (s421.set (Int.toNat (i423 : Int)) r474), S490, cnt_next hi424, ha.agrees (by kernel_rfl), hst.keep [0, 1, 2, 3, 4] rfl, hl420⟩)
     ·have hl420 := ite_f hl420 hc456
      refine CW.cond_f rfl hc456 ?_
      refine CW.skip ?_
      refine QW.block_normal ?_
      refine QW.next ?_
      refine CW.region ?_
      refine OW.pure 2 [(28, .int .i64 (w64 ((i423 : Int) + 1)))] (by kernel_rfl) ?_
      refine OW.nil rfl ?_
      refine QW.say 28 rfl (congrArg (Value.int .i64) (w64_cnt hc425 l60)) ?_
      exact QW.meet (fun a ha => ⟨n419, Nat.lt_succ_self _, i423 + 1, s421, S422, cnt_next hi424, ha.agrees (by kernel_rfl), hst.keep [0, 1, 2, 3, 4] rfl, hl420⟩)
    ·rcases n419 with _ | n419
     ·refine CW.cond_f rfl hc425 ?_
      refine CW.exit ?_
      refine QW.then_exit ?_
      refine QW.then_exit ?_
      refine QW.block_here ?_
      have hst := hst.borIn hbo50
      have hst := hst.borIn hbo52
      have hst := hst.toIt 1 rfl (fun _ => rfl) (by decide)
      have hst := hst.toIt 2 rfl (fun _ => rfl) (by decide)
      have hst := hst.toIt 3 rfl (fun _ => rfl) (by decide)
      obtain ⟨S491, hst⟩ := hst.shutP5 (R_t56 wb Sb) rfl 0 5 6 1 2 3 [4] rfl rfl rfl rfl rfl rfl rfl k25 rfl rfl
      obtain rfl := Option.some.inj hl420
      exact QW.meet (fun a ha => ⟨S422, ha.agrees (by kernel_rfl), hst.keep [0] rfl⟩)
     ·exact (cnt1 hi424 hc425).elim
   ·rintro a w1 ⟨S279, ha, hst⟩
    refine CW.go ?_ ha
    refine CW.seq ?_
    refine CW.region ?_
    refine OW.pure 3 [(2, .slice (some ⟨g38, 0, none⟩) m36 m36), (3, .int .i64 0)] (by kernel_rfl) ?_
    refine OW.nil rfl ?_
    refine QW.next ?_
    refine CW.ret ?_
    obtain rfl := Option.some.inj hF
    refine QW.ret2 rfl rfl rfl ?_
    exact ⟨(.slice (some ⟨g38, 0, none⟩) m36 m36), S279, rfl, hst.keep [0] rfl⟩
 ·have hF := ocase_none hF he29
  refine ⟨_, rfl, ?_⟩
  have hst := hst.join (idx := []) (rest := [0]) rfl hst24
  refine OW.pure 7 [(4, .pointer none), (6, .int .i64 r21.2.2)] (by kernel_rfl) ?_
  refine OW.nil rfl ?_
  refine QW.next ?_
  refine CW.seq ?_
  refine CW.seq ?_
  refine CW.region ?_
  refine OW.pure 2 [(17, .bool (r21.2.2 != 0))] (by kernel_rfl) ?_
  refine OW.nil rfl ?_
  refine QW.next ?_
  rcases Bool.eq_false_or_eq_true ((r21.2.2 != 0)) with hc492 | hc492
  ·have hF := ite_t hF hc492
   refine CW.cond_t rfl hc492 ?_
   refine CW.seq ?_
   refine CW.region ?_
   refine OW.pure 3 [(2, .slice none 0 0), (3, .int .i64 r21.2.2)] (by kernel_rfl) ?_
   refine OW.nil rfl ?_
   refine QW.next ?_
   refine CW.ret ?_
   refine QW.then_ret ?_
   have hst := hst.nNil 32 R_t32 none
   obtain rfl := Option.some.inj hF
   refine QW.ret2 rfl rfl rfl ?_
   exact ⟨(.slice none 0 0), ([]), rfl, hst.keep [1] rfl⟩
  ·have hF := ite_f hF hc492
   refine CW.cond_f rfl hc492 ?_
   refine CW.skip ?_
   refine QW.next ?_
   refine CW.seq ?_
   refine CW.region ?_
   refine OW.pure 1 [(19, .pointer (some ⟨b9, 1, none⟩))] (by kernel_rfl) ?_
   refine OW.ld rfl rfl rfl rfl (by kernel_rfl) (hst.blk 0 rfl rfl) ?_
   refine OW.pure 1 [(21, .int .i64 ((p0.Code).length : Int))] (by kernel_rfl) ?_
   obtain ⟨m497, hm498, hF⟩ := bind_some' hF
   refine OW.make (enc := fit 1) (sz := 1) hst rfl rfl rfl rfl rfl (by kernel_rfl) el32 [.slice none 0 0] (by kernel_rfl) (fun _ => fit_len _ _) hm498 ?_
   intro g499 w500 hst
   have hst := hst.nNew 1 R_t32 rfl rfl [] (fun w => ⟨_, rfl, rfl, Owns.nil w _ _ none⟩)
   refine OW.pure 1 [(7, .slice (some ⟨g499, 0, none⟩) m497 m497)] (by kernel_rfl) ?_
   refine OW.nil rfl ?_
   refine QW.next ?_
   refine CW.seq ?_
   refine CW.seq ?_
   refine CW.region ?_
   cases hF

set_option maxRecDepth 10000 in
set_option maxHeartbeats 4000000 in
theorem tappetlaw09_awake_ok (w : World) (fu : Nat)  (r : Bool) (hF : tappetlaw09_awake fu = some r)
    (hst : St w (fp []) w []) (hT0 : Rd w (fp []) (.slice (some ⟨0, 0, none⟩) 23 23) enc_ops_form 2 tab_g0) (hT1 : Rd w (fp []) (.slice (some ⟨1, 0, none⟩) 7 7) enc_sigs_sig 5 tab_g1) :
    Calls Tryd.prog 5 [].toArray w (fun e w' => e = .returned (.bool r) ∧ St w (fp []) w' []) := by
 refine CW.start (N := 62) Tryd.func5 rfl rfl rfl ?_
 refine CW.seq ?_
 refine CW.region ?_
 refine OW.pure 1 [] (by kernel_rfl) ?_
 refine OW.nil rfl ?_
 refine QW.next ?_
 refine CW.seq ?_
 refine CW.region ?_
 obtain ⟨r35, hr36, hF⟩ := bind_some' hF
 refine OW.fn rfl rfl rfl rfl (by kernel_rfl) (tappetlaw09_small_ok _ r35 hr36 (hst.part [] rfl)) ?_
 rintro e w37 ⟨v39, v40, rfl, hst38⟩
 refine ⟨_, rfl, ?_⟩
 have hst := hst.join (idx := []) (rest := []) rfl hst38
 obtain ⟨l59, a60, c61, rfl⟩ := hst.len 0 rfl
 obtain ⟨l62, a63, c64, rfl⟩ := hst.len 1 rfl
 obtain ⟨r65, hr66, hF⟩ := bind_some' hF
 refine OW.fn rfl rfl rfl rfl (by kernel_rfl) (judge_Judge_ok _ _ _ fu (.slice a60 (r35.Maps).length c61) (.slice a63 (r35.Code).length c64) r35 r65 hr66 (hst.part [] rfl) (Bor.refl _ _) (hst.rd 0 rfl (fun _ => rfl) [] rfl (hst.len 0 rfl).1) (hst.rd 1 rfl (fun _ => rfl) [] rfl (hst.len 1 rfl).1) (hT0.give hst []) (hT1.give hst [])) ?_
 rintro e w67 ⟨rfl, hst68⟩
 refine ⟨_, rfl, ?_⟩
 have hst := hst.join (idx := []) (rest := [0, 1]) rfl hst68
 refine OW.pure 5 [(2, .int .i64 r65.2)] (by kernel_rfl) ?_
 refine OW.nil rfl ?_
 refine QW.next ?_
 refine CW.seq ?_
 refine CW.region ?_
 obtain ⟨r107, hr108, hF⟩ := bind_some' hF
 refine OW.fn rfl rfl rfl rfl (by kernel_rfl) (tappetlaw09_small_ok _ r107 hr108 (hst.part [] rfl)) ?_
 rintro e w109 ⟨v111, v112, rfl, hst110⟩
 refine ⟨_, rfl, ?_⟩
 have hst := hst.join (idx := []) (rest := [0, 1]) rfl hst110
 obtain ⟨l131, a132, c133, rfl⟩ := hst.len 0 rfl
 obtain ⟨l134, a135, c136, rfl⟩ := hst.len 1 rfl
 obtain ⟨r137, hr138, hF⟩ := bind_some' hF
 refine OW.fn rfl rfl rfl rfl (by kernel_rfl) (judge_Types_ok _ _ _ fu (.slice a132 (r107.Maps).length c133) (.slice a135 (r107.Code).length c136) r107 r137 hr138 (hst.part [] rfl) (Bor.refl _ _) (hst.rd 0 rfl (fun _ => rfl) [] rfl (hst.len 0 rfl).1) (hst.rd 1 rfl (fun _ => rfl) [] rfl (hst.len 1 rfl).1) (hT0.give hst []) (hT1.give hst [])) ?_
 rintro e w139 ⟨v141, Sv141, rfl, hst140⟩
 refine ⟨_, rfl, ?_⟩
 have hst := hst.join (idx := []) (rest := [0, 1, 2, 3]) rfl hst140
 obtain ⟨l142, a143, c144, rfl⟩ := hst.nlen 0 rfl
 refine OW.pure 5 [(3, .slice a143 (r137.1).length c144), (4, .int .i64 r137.2)] (by kernel_rfl) ?_
 refine OW.nil rfl ?_
 refine QW.next ?_
 refine CW.seq ?_
 refine CW.region ?_
 refine OW.pure 3 [(18, .agg [.int .i64 13, .int .i64 1, .int .i64 0, .int .i64 0, .int .i64 0].toArray), (19, .agg [.int .i64 11, .int .i64 0, .int .i64 0, .int .i64 1, .int .i64 0].toArray), (20, .agg [.int .i64 22, .int .i64 0, .int .i64 0, .int .i64 0, .int .i64 0].toArray)] (by kernel_rfl) ?_
 refine OW.row (α := api_Inst) (e := 42) (enc := enc_api_Inst) (sz := 5) hst rfl rfl rfl [(api_Inst.mk 13 1 0 0 0), (api_Inst.mk 11 0 0 1 0), (api_Inst.mk 22 0 0 0 0)] rfl (fun _ => rfl) rfl rfl (fun _ => by kernel_rfl) ?_
 intro g151 w152 hst
 refine OW.pure 1 [(22, .agg [.slice none 0 0, .slice (some ⟨g151, 0, none⟩) 3 3].toArray)] (by kernel_rfl) ?_
 obtain ⟨r153, hr154, hF⟩ := bind_some' hF
 refine OW.fn rfl rfl rfl rfl (by kernel_rfl) (judge_Judge_ok _ _ _ fu (.slice none 0 0) (.slice (some ⟨g151, 0, none⟩) 3 3) (api_Module.mk ([] : List Int) ([(api_Inst.mk 13 1 0 0 0), (api_Inst.mk 11 0 0 1 0), (api_Inst.mk 22 0 0 0 0)])) r153 hr154 (hst.part [] rfl) (Bor.refl _ _) (Rd.nil _ _ _ _ _) (hst.rd 5 rfl (fun _ => rfl) [] rfl (hst.len 5 rfl).1) (hT0.give hst []) (hT1.give hst [])) ?_
 rintro e w155 ⟨rfl, hst156⟩
 refine ⟨_, rfl, ?_⟩
 have hst := hst.join (idx := []) (rest := [0, 1, 2, 3, 4, 5]) rfl hst156
 refine OW.pure 5 [(5, .int .i64 r153.1), (6, .int .i64 r153.2)] (by kernel_rfl) ?_
 refine OW.nil rfl ?_
 refine QW.next ?_
 refine CW.seq ?_
 obtain ⟨o190, ho191, hF⟩ := bind_some' hF
 refine CW.cutK (fun a w1 => Rep 62 [(0, .bool o190)] a ∧ St w (fp []) w1 []) ?_ ?_
 ·refine CW.region ?_
  refine OW.pure 3 [(28, .bool (r65.2 == 0))] (by kernel_rfl) ?_
  refine OW.split 28 rfl (fun hc192 => ?_) (fun hc192 => ?_)
  ·have ho191 := ite_t ho191 hc192
   refine OW.pure 4 [(32, .bool (r137.2 == 0))] (by kernel_rfl) ?_
   refine OW.split 32 rfl (fun hc193 => ?_) (fun hc193 => ?_)
   ·have ho191 := ite_t ho191 hc193
    refine OW.pure 5 [(37, .bool (((r137.1).length : Int) == 6))] (by kernel_rfl) ?_
    refine OW.split 37 rfl (fun hc194 => ?_) (fun hc194 => ?_)
    ·have ho191 := ite_t ho191 hc194
     refine OW.pure 1 [(38, .slice a143 (r137.1).length c144)] (by kernel_rfl) ?_
     obtain ⟨x195, hx196, ho191⟩ := bind_some' ho191
     obtain ⟨g198, o199, c200, hv197⟩ := hst.nrowv 0 rfl hx196
     refine OW.idx 32 1 rfl rfl rfl rfl hv197 rfl (idx_some hx196).1 (idx_some hx196).2.1 (by kernel_rfl) (by kernel_rfl) ?_
     obtain ⟨v201, S202, S203, hce204, hst⟩ := hst.nout1 0 rfl rfl hx196 hv197
     have hst := hst.toRow1 6 rfl
     obtain ⟨l205, a206, c207, rfl⟩ := hst.len 6 rfl
     refine OW.ld rfl rfl rfl rfl (by kernel_rfl) hce204 ?_
     refine OW.pure 4 [(44, .bool (((x195).length : Int) == 8))] (by kernel_rfl) ?_
     refine OW.split 44 rfl (fun hc208 => ?_) (fun hc208 => ?_)
     ·have ho191 := ite_t ho191 hc208
      refine OW.pure 1 [(45, .slice a143 (r137.1).length c144)] (by kernel_rfl) ?_
      obtain ⟨g210, o211, c212, hv209⟩ := hst.nrowv 0 rfl hx196
      refine OW.idx 32 1 rfl rfl rfl rfl hv209 rfl (idx_some hx196).1 (idx_some hx196).2.1 (by kernel_rfl) (by kernel_rfl) ?_
      refine OW.ld rfl rfl rfl rfl (by kernel_rfl) (hst.nhole 0 rfl hv209 0 _ rfl) ?_
      obtain ⟨x213, hx214, ho191⟩ := bind_some' ho191
      obtain ⟨g216, o217, c218, hv215⟩ := hst.rowv 6 rfl hx214
      refine OW.idx 38 4 rfl rfl rfl rfl hv215 rfl (idx_some hx214).1 (idx_some hx214).2.1 (by kernel_rfl) (by kernel_rfl) ?_
      refine OW.ldN (cs := enc_api_Type x213) rfl rfl rfl rfl (by kernel_rfl) (by kernel_rfl) (hst.rowc 6 rfl (fun _ => rfl) hx214 hv215) ?_
      refine OW.pure 2 [(51, .agg [.int .i64 1, .int .u64 0, .int .u64 15, .int .i64 0].toArray)] (by kernel_rfl) ?_
      refine OW.op (v := .bool ((x213.Kind == 1) && (((x213.Span.Lo == 0) && ((x213.Span.Hi == 15) && true)) && ((x213.Map == 0) && true)))) rfl rfl rfl rfl (fun a ha => seq_run rfl rfl rfl (by kernel_rfl) (by kernel_rfl) a _ ha) ?_
      refine OW.pure 2 [(54, .bool ((x213.Kind == 1) && (((x213.Span.Lo == 0) && ((x213.Span.Hi == 15) && true)) && ((x213.Map == 0) && true))))] (by kernel_rfl) ?_
      refine OW.split 54 rfl (fun hc219 => ?_) (fun hc219 => ?_)
      ·have ho191 := ite_t ho191 hc219
       refine OW.pure 4 [(58, .bool (r153.1 == 1))] (by kernel_rfl) ?_
       refine OW.split 58 rfl (fun hc220 => ?_) (fun hc220 => ?_)
       ·have ho191 := ite_t ho191 hc220
        refine OW.pure 4 [(0, .bool (r153.2 == 35))] (by kernel_rfl) ?_
        refine OW.nil rfl ?_
        have hst := hst.toIt 6 rfl (fun _ => rfl) (by decide)
        obtain ⟨S221, hst⟩ := hst.nback0 0 6 rfl rfl rfl hx196
        have hst := hst.keep [0, 1, 2, 3, 4, 5] rfl
        obtain rfl := Option.some.inj ho191
        exact QW.meet (fun a ha => ⟨ha.agrees (by kernel_rfl), hst.keep [] rfl⟩)
       ·have ho191 := ite_f ho191 hc220
        refine OW.pure 4 [(0, .bool false)] (by kernel_rfl) ?_
        refine OW.nil rfl ?_
        have hst := hst.toIt 6 rfl (fun _ => rfl) (by decide)
        obtain ⟨S222, hst⟩ := hst.nback0 0 6 rfl rfl rfl hx196
        have hst := hst.keep [0, 1, 2, 3, 4, 5] rfl
        obtain rfl := Option.some.inj ho191
        exact QW.meet (fun a ha => ⟨ha.agrees (by kernel_rfl), hst.keep [] rfl⟩)
      ·have ho191 := ite_f ho191 hc219
       refine OW.pure 8 [(0, .bool false)] (by kernel_rfl) ?_
       refine OW.nil rfl ?_
       have hst := hst.toIt 6 rfl (fun _ => rfl) (by decide)
       obtain ⟨S223, hst⟩ := hst.nback0 0 6 rfl rfl rfl hx196
       have hst := hst.keep [0, 1, 2, 3, 4, 5] rfl
       obtain rfl := Option.some.inj ho191
       exact QW.meet (fun a ha => ⟨ha.agrees (by kernel_rfl), hst.keep [] rfl⟩)
     ·have ho191 := ite_f ho191 hc208
      refine OW.pure 18 [(0, .bool false)] (by kernel_rfl) ?_
      refine OW.nil rfl ?_
      have hst := hst.toIt 6 rfl (fun _ => rfl) (by decide)
      obtain ⟨S224, hst⟩ := hst.nback0 0 6 rfl rfl rfl hx196
      have hst := hst.keep [0, 1, 2, 3, 4, 5] rfl
      obtain rfl := Option.some.inj ho191
      exact QW.meet (fun a ha => ⟨ha.agrees (by kernel_rfl), hst.keep [] rfl⟩)
    ·have ho191 := ite_f ho191 hc194
     refine OW.pure 25 [(0, .bool false)] (by kernel_rfl) ?_
     refine OW.nil rfl ?_
     obtain rfl := Option.some.inj ho191
     exact QW.meet (fun a ha => ⟨ha.agrees (by kernel_rfl), hst.keep [] rfl⟩)
   ·have ho191 := ite_f ho191 hc193
    refine OW.pure 30 [(0, .bool false)] (by kernel_rfl) ?_
    refine OW.nil rfl ?_
    obtain rfl := Option.some.inj ho191
    exact QW.meet (fun a ha => ⟨ha.agrees (by kernel_rfl), hst.keep [] rfl⟩)
  ·have ho191 := ite_f ho191 hc192
   refine OW.pure 34 [(0, .bool false)] (by kernel_rfl) ?_
   refine OW.nil rfl ?_
   obtain rfl := Option.some.inj ho191
   exact QW.meet (fun a ha => ⟨ha.agrees (by kernel_rfl), hst.keep [] rfl⟩)
 ·rintro a w1 ⟨ha, hst⟩
  refine CW.go ?_ ha
  refine CW.ret ?_
  obtain rfl := Option.some.inj hF
  refine QW.ret1 rfl rfl ?_
  exact ⟨rfl, hst.keep [] rfl⟩

set_option maxRecDepth 10000 in
set_option maxHeartbeats 4000000 in
theorem tappetlaw09_copied_ok (w : World) (v0_0 : Value) (v0_1 : Value) (p0 : api_Module) (r : api_Module) (hF : tappetlaw09_copied p0 = some r)
    (hst : St w (fp []) w []) (h0_0 : Rd w (fp []) v0_0 (encInt .i64) 1 p0.Maps) (h0_1 : Rd w (fp []) v0_1 enc_api_Inst 5 p0.Code) :
    Calls Tryd.prog 7 [.agg [v0_0, v0_1].toArray].toArray w (fun e w' => ∃ (x0_0 : Value) (x0_1 : Value), e = .returned (.agg [x0_0, x0_1].toArray) ∧ St w (fp []) w' [rowI x0_0 3 (encInt .i64) 1 r.Maps, rowI x0_1 42 enc_api_Inst 5 r.Code]) := by
 refine CW.start (N := 12) Tryd.func7 rfl rfl rfl ?_
 obtain ⟨l1, a2, c3, rfl⟩ := h0_0.len
 obtain ⟨l4, a5, c6, rfl⟩ := h0_1.len
 refine CW.seq ?_
 refine CW.region ?_
 refine OW.box hst rfl rfl rfl rfl [.slice a2 (p0.Maps).length c3, .slice a5 (p0.Code).length c6] rfl ?_
 intro b11 w12 hst
 refine OW.alloc hst rfl rfl rfl [.slice none 0 0, .slice none 0 0] (by kernel_rfl) ?_
 intro b13 w14 hst
 refine OW.nil rfl ?_
 refine QW.next ?_
 refine CW.seq ?_
 obtain ⟨o72, ho73, hF⟩ := bind_some' hF
 refine CW.cutK (fun a w1 => ∃ (v70 : Value) (v71 : Value), Rep 12 [(2, .pointer (some ⟨b13, 0, none⟩))] a ∧ St w (fp []) w1 [blkI b13 25 [v70, v71], rowI v70 3 (encInt .i64) 1 (([] : List Int) ++ p0.Maps), rowI v71 42 enc_api_Inst 5 (([] : List api_Inst) ++ p0.Code)]) ?_ ?_
 ·refine CW.plan (by kernel_rfl) ?_
  intro w74 hch75
  have hst := hst.same hch75
  refine OA.pure [1] [(4, .pointer (some ⟨b11, 0, none⟩))] (by kernel_rfl) ?_
  refine OA.ld (i := 2) rfl (by kernel_rfl) rfl rfl rfl (by kernel_rfl) (hst.blk 0 rfl rfl) ?_
  refine OA.pure [5] [(8, .pointer (some ⟨b11, 1, none⟩))] (by kernel_rfl) ?_
  refine OA.ld (i := 6) rfl (by kernel_rfl) rfl rfl rfl (by kernel_rfl) (hst.blk 0 rfl rfl) ?_
  refine OA.acts [0, 4] 0 (by kernel_rfl) (by kernel_rfl) (by kernel_rfl) (alts_cons ?_ (alts_cons ?_ alts_nil))
  ·refine Alt.of (i := 0) [6, 2] rfl rfl (by kernel_rfl) (by kernel_rfl) ?_
   refine OW.row (α := Int) (e := 3) (enc := encInt .i64) (sz := 1) hst rfl rfl rfl [] rfl (fun _ => rfl) rfl rfl (fun _ => by kernel_rfl) ?_
   intro g76 w77 hst
   refine OA.next ⟨(hst.blk 0 rfl rfl), (hst.blk 0 rfl rfl), trivial⟩ ?_
   refine OA.acts [3, 4] 3 (by kernel_rfl) (by kernel_rfl) (by kernel_rfl) (alts_cons ?_ (alts_cons ?_ alts_nil))
   ·refine Alt.of (i := 3) [6] rfl rfl (by kernel_rfl) (by kernel_rfl) ?_
    obtain ⟨u78, hr79, ho73⟩ := bind_some' ho73
    refine OW.app hst 2 rfl (fun _ => rfl) (fun _ => rfl) rfl rfl rfl rfl rfl rfl (by kernel_rfl) el3 (h0_0.on hst) (room_le hr79) ?_
    intro v80 w81 hst
    obtain ⟨l82, a83, c84, rfl⟩ := hst.len 2 rfl
    refine OA.next ⟨(hst.blk 0 rfl rfl), trivial⟩ ?_
    refine OA.act (i := 4) [6] (by kernel_rfl) rfl rfl (by kernel_rfl) (by kernel_rfl) ?_
    refine OW.row (α := api_Inst) (e := 42) (enc := enc_api_Inst) (sz := 5) hst rfl rfl rfl [] rfl (fun _ => rfl) rfl rfl (fun _ => by kernel_rfl) ?_
    intro g85 w86 hst
    refine OA.next ⟨(hst.blk 0 rfl rfl), trivial⟩ ?_
    refine OA.act (i := 7) [] (by kernel_rfl) rfl rfl (by kernel_rfl) (by kernel_rfl) ?_
    obtain ⟨u87, hr88, ho73⟩ := bind_some' ho73
    refine OW.app hst 3 rfl (fun _ => rfl) (fun _ => rfl) rfl rfl rfl rfl rfl rfl (by kernel_rfl) el42 (h0_1.on hst) (room_le hr88) ?_
    intro v89 w90 hst
    obtain ⟨l91, a92, c93, rfl⟩ := hst.len 3 rfl
    refine OA.next trivial ?_
    refine OA.pure [8] [(11, .agg [.slice a83 ((([] : List Int) ++ p0.Maps)).length c84, .slice a92 ((([] : List api_Inst) ++ p0.Code)).length c93].toArray)] (by kernel_rfl) ?_
    refine OA.act (i := 9) [] (by kernel_rfl) rfl rfl (by kernel_rfl) (by kernel_rfl) ?_
    refine OW.stB hst 1 rfl rfl rfl rfl rfl (by kernel_rfl) rfl rfl [.slice a83 ((([] : List Int) ++ p0.Maps)).length c84, .slice a92 ((([] : List api_Inst) ++ p0.Code)).length c93] rfl ?_
    intro w94 hst
    refine OA.next trivial ?_
    refine OA.fin (by kernel_rfl) (by kernel_rfl) ?_
    obtain rfl := Option.some.inj ho73
    exact QW.meet (fun a ha => ⟨(.slice a83 ((([] : List Int) ++ p0.Maps)).length c84), (.slice a92 ((([] : List api_Inst) ++ p0.Code)).length c93), ha.agrees (by kernel_rfl), hst.keep [1, 2, 3] rfl⟩)
   ·obtain ⟨u78, hr79, ho73⟩ := bind_some' ho73
    obtain ⟨u87, hr88, ho73⟩ := bind_some' ho73
    refine Alt.of (i := 4) [6, 2] rfl rfl (by kernel_rfl) (by kernel_rfl) ?_
    refine OW.row (α := api_Inst) (e := 42) (enc := enc_api_Inst) (sz := 5) hst rfl rfl rfl [] rfl (fun _ => rfl) rfl rfl (fun _ => by kernel_rfl) ?_
    intro g95 w96 hst
    refine OA.next ⟨(hst.blk 0 rfl rfl), (hst.blk 0 rfl rfl), trivial⟩ ?_
    refine OA.act (i := 3) [6] (by kernel_rfl) rfl rfl (by kernel_rfl) (by kernel_rfl) ?_
    refine OW.app hst 2 rfl (fun _ => rfl) (fun _ => rfl) rfl rfl rfl rfl rfl rfl (by kernel_rfl) el3 (h0_0.on hst) (room_le hr79) ?_
    intro v97 w98 hst
    obtain ⟨l99, a100, c101, rfl⟩ := hst.len 2 rfl
    refine OA.next ⟨(hst.blk 0 rfl rfl), trivial⟩ ?_
    refine OA.act (i := 7) [] (by kernel_rfl) rfl rfl (by kernel_rfl) (by kernel_rfl) ?_
    refine OW.app hst 3 rfl (fun _ => rfl) (fun _ => rfl) rfl rfl rfl rfl rfl rfl (by kernel_rfl) el42 (h0_1.on hst) (room_le hr88) ?_
    intro v102 w103 hst
    obtain ⟨l104, a105, c106, rfl⟩ := hst.len 3 rfl
    refine OA.next trivial ?_
    refine OA.pure [8] [(11, .agg [.slice a100 ((([] : List Int) ++ p0.Maps)).length c101, .slice a105 ((([] : List api_Inst) ++ p0.Code)).length c106].toArray)] (by kernel_rfl) ?_
    refine OA.act (i := 9) [] (by kernel_rfl) rfl rfl (by kernel_rfl) (by kernel_rfl) ?_
    refine OW.stB hst 1 rfl rfl rfl rfl rfl (by kernel_rfl) rfl rfl [.slice a100 ((([] : List Int) ++ p0.Maps)).length c101, .slice a105 ((([] : List api_Inst) ++ p0.Code)).length c106] rfl ?_
    intro w107 hst
    refine OA.next trivial ?_
    refine OA.fin (by kernel_rfl) (by kernel_rfl) ?_
    obtain rfl := Option.some.inj ho73
    exact QW.meet (fun a ha => ⟨(.slice a100 ((([] : List Int) ++ p0.Maps)).length c101), (.slice a105 ((([] : List api_Inst) ++ p0.Code)).length c106), ha.agrees (by kernel_rfl), hst.keep [1, 2, 3] rfl⟩)
  ·refine Alt.of (i := 4) [6, 2] rfl rfl (by kernel_rfl) (by kernel_rfl) ?_
   refine OW.row (α := api_Inst) (e := 42) (enc := enc_api_Inst) (sz := 5) hst rfl rfl rfl [] rfl (fun _ => rfl) rfl rfl (fun _ => by kernel_rfl) ?_
   intro g108 w109 hst
   refine OA.next ⟨(hst.blk 0 rfl rfl), (hst.blk 0 rfl rfl), trivial⟩ ?_
   refine OA.act (i := 0) [6, 2] (by kernel_rfl) rfl rfl (by kernel_rfl) (by kernel_rfl) ?_
   refine OW.row (α := Int) (e := 3) (enc := encInt .i64) (sz := 1) hst rfl rfl rfl [] rfl (fun _ => rfl) rfl rfl (fun _ => by kernel_rfl) ?_
   intro g110 w111 hst
   refine OA.next ⟨(hst.blk 0 rfl rfl), (hst.blk 0 rfl rfl), trivial⟩ ?_
   refine OA.act (i := 3) [6] (by kernel_rfl) rfl rfl (by kernel_rfl) (by kernel_rfl) ?_
   obtain ⟨u112, hr113, ho73⟩ := bind_some' ho73
   refine OW.app hst 3 rfl (fun _ => rfl) (fun _ => rfl) rfl rfl rfl rfl rfl rfl (by kernel_rfl) el3 (h0_0.on hst) (room_le hr113) ?_
   intro v114 w115 hst
   obtain ⟨l116, a117, c118, rfl⟩ := hst.len 3 rfl
   refine OA.next ⟨(hst.blk 0 rfl rfl), trivial⟩ ?_
   refine OA.act (i := 7) [] (by kernel_rfl) rfl rfl (by kernel_rfl) (by kernel_rfl) ?_
   obtain ⟨u119, hr120, ho73⟩ := bind_some' ho73
   refine OW.app hst 2 rfl (fun _ => rfl) (fun _ => rfl) rfl rfl rfl rfl rfl rfl (by kernel_rfl) el42 (h0_1.on hst) (room_le hr120) ?_
   intro v121 w122 hst
   obtain ⟨l123, a124, c125, rfl⟩ := hst.len 2 rfl
   refine OA.next trivial ?_
   refine OA.pure [8] [(11, .agg [.slice a117 ((([] : List Int) ++ p0.Maps)).length c118, .slice a124 ((([] : List api_Inst) ++ p0.Code)).length c125].toArray)] (by kernel_rfl) ?_
   refine OA.act (i := 9) [] (by kernel_rfl) rfl rfl (by kernel_rfl) (by kernel_rfl) ?_
   refine OW.stB hst 1 rfl rfl rfl rfl rfl (by kernel_rfl) rfl rfl [.slice a117 ((([] : List Int) ++ p0.Maps)).length c118, .slice a124 ((([] : List api_Inst) ++ p0.Code)).length c125] rfl ?_
   intro w126 hst
   refine OA.next trivial ?_
   refine OA.fin (by kernel_rfl) (by kernel_rfl) ?_
   obtain rfl := Option.some.inj ho73
   exact QW.meet (fun a ha => ⟨(.slice a117 ((([] : List Int) ++ p0.Maps)).length c118), (.slice a124 ((([] : List api_Inst) ++ p0.Code)).length c125), ha.agrees (by kernel_rfl), hst.keep [1, 3, 2] rfl⟩)
 ·rintro a w1 ⟨v70, v71, ha, hst⟩
  refine CW.go ?_ ha
  obtain ⟨l127, a128, c129, rfl⟩ := hst.len 1 rfl
  obtain ⟨l130, a131, c132, rfl⟩ := hst.len 2 rfl
  refine CW.ret ?_
  obtain rfl := Option.some.inj hF
  refine QW.ret_c rfl rfl (run_loadN (cs := [.slice a128 ((([] : List Int) ++ p0.Maps)).length c129, .slice a131 ((([] : List api_Inst) ++ p0.Code)).length c132]) (by kernel_rfl) (by kernel_rfl) (hst.blkN 0 rfl 0 2)) ?_
  exact ⟨(.slice a128 ((([] : List Int) ++ p0.Maps)).length c129), (.slice a131 ((([] : List api_Inst) ++ p0.Code)).length c132), rfl, hst.keep [1, 2] rfl⟩

set_option maxRecDepth 10000 in
set_option maxHeartbeats 4000000 in
theorem tappetlaw09_fits_ok (w : World) (p0 : api_Type) (p1 : api_Type) (r : Bool) (hF : tappetlaw09_fits p0 p1 = some r)
    (hst : St w (fp []) w []) :
    Calls Tryd.prog 9 [.agg [.int .i64 p0.Kind, .int .u64 p0.Span.Lo, .int .u64 p0.Span.Hi, .int .i64 p0.Map].toArray, .agg [.int .i64 p1.Kind, .int .u64 p1.Span.Lo, .int .u64 p1.Span.Hi, .int .i64 p1.Map].toArray].toArray w (fun e w' => e = .returned (.bool r) ∧ St w (fp []) w' []) := by
 refine CW.start (N := 35) Tryd.func9 rfl rfl rfl ?_
 refine CW.seq ?_
 refine CW.region ?_
 refine OW.box hst rfl rfl rfl rfl [.int .i64 p0.Kind, .int .u64 p0.Span.Lo, .int .u64 p0.Span.Hi, .int .i64 p0.Map] rfl ?_
 intro b5 w6 hst
 refine OW.box hst rfl rfl rfl rfl [.int .i64 p1.Kind, .int .u64 p1.Span.Lo, .int .u64 p1.Span.Hi, .int .i64 p1.Map] rfl ?_
 intro b7 w8 hst
 refine OW.pure 1 [] (by kernel_rfl) ?_
 refine OW.nil rfl ?_
 refine QW.next ?_
 refine CW.seq ?_
 refine CW.block ?_
 refine CW.seq ?_
 refine CW.region ?_
 refine OW.pure 1 [(6, .pointer (some ⟨b7, 0, none⟩))] (by kernel_rfl) ?_
 refine OW.ld rfl rfl rfl rfl (by kernel_rfl) (hst.blk 1 rfl rfl) ?_
 refine OW.pure 2 [(5, .bool (p1.Kind == 0))] (by kernel_rfl) ?_
 refine OW.nil rfl ?_
 refine QW.next ?_
 rcases Bool.eq_false_or_eq_true ((p1.Kind == 0)) with hc9 | hc9
 ·have hF := ite_t hF hc9
  refine CW.cond_t rfl hc9 ?_
  refine CW.seq ?_
  refine CW.region ?_
  refine OW.pure 1 [(4, .bool true)] (by kernel_rfl) ?_
  refine OW.nil rfl ?_
  refine QW.next ?_
  refine CW.ret ?_
  refine QW.block_ret ?_
  refine QW.then_ret ?_
  obtain rfl := Option.some.inj hF
  refine QW.ret1 rfl rfl ?_
  exact ⟨rfl, hst.keep [] rfl⟩
 ·have hF := ite_f hF hc9
  refine CW.cond_f rfl hc9 ?_
  refine CW.seq ?_
  refine CW.region ?_
  refine OW.pure 1 [(10, .pointer (some ⟨b7, 0, none⟩))] (by kernel_rfl) ?_
  refine OW.ld rfl rfl rfl rfl (by kernel_rfl) (hst.blk 1 rfl rfl) ?_
  refine OW.pure 2 [(9, .bool (p1.Kind == 1))] (by kernel_rfl) ?_
  refine OW.nil rfl ?_
  refine QW.next ?_
  rcases Bool.eq_false_or_eq_true ((p1.Kind == 1)) with hc10 | hc10
  ·have hF := ite_t hF hc10
   refine CW.cond_t rfl hc10 ?_
   refine CW.seq ?_
   obtain ⟨o16, ho17, hF⟩ := bind_some' hF
   refine CW.cutK (fun a w1 => Rep 35 [(4, .bool o16)] a ∧ St w (fp []) w1 []) ?_ ?_
   ·refine CW.region ?_
    refine OW.pure 1 [(13, .pointer (some ⟨b5, 0, none⟩))] (by kernel_rfl) ?_
    refine OW.ld rfl rfl rfl rfl (by kernel_rfl) (hst.blk 0 rfl rfl) ?_
    refine OW.pure 2 [(16, .bool (p0.Kind == 1))] (by kernel_rfl) ?_
    refine OW.split 16 rfl (fun hc18 => ?_) (fun hc18 => ?_)
    ·have ho17 := ite_t ho17 hc18
     refine OW.pure 1 [(17, .pointer (some ⟨b5, 1, none⟩))] (by kernel_rfl) ?_
     refine OW.ldN (cs := [.int .u64 p0.Span.Lo, .int .u64 p0.Span.Hi]) rfl rfl rfl rfl (by kernel_rfl) (by kernel_rfl) (hst.blkN 0 rfl 1 2) ?_
     refine OW.pure 1 [(19, .pointer (some ⟨b7, 1, none⟩))] (by kernel_rfl) ?_
     refine OW.ldN (cs := [.int .u64 p1.Span.Lo, .int .u64 p1.Span.Hi]) rfl rfl rfl rfl (by kernel_rfl) (by kernel_rfl) (hst.blkN 1 rfl 1 2) ?_
     obtain ⟨r19, hr20, ho17⟩ := bind_some' ho17
     refine OW.fn rfl rfl rfl rfl (by kernel_rfl) (span_Within_ok _ p0.Span p1.Span r19 hr20 (hst.part [] rfl)) ?_
     rintro e w21 ⟨rfl, hst22⟩
     refine ⟨_, rfl, ?_⟩
     have hst := hst.join (idx := []) (rest := [0, 1]) rfl hst22
     refine OW.pure 2 [(4, .bool r19)] (by kernel_rfl) ?_
     refine OW.nil rfl ?_
     obtain rfl := Option.some.inj ho17
     exact QW.meet (fun a ha => ⟨ha.agrees (by kernel_rfl), hst.keep [] rfl⟩)
    ·have ho17 := ite_f ho17 hc18
     refine OW.pure 7 [(4, .bool false)] (by kernel_rfl) ?_
     refine OW.nil rfl ?_
     obtain rfl := Option.some.inj ho17
     exact QW.meet (fun a ha => ⟨ha.agrees (by kernel_rfl), hst.keep [] rfl⟩)
   ·rintro a w1 ⟨ha, hst⟩
    refine CW.go ?_ ha
    refine CW.ret ?_
    refine QW.block_ret ?_
    refine QW.then_ret ?_
    obtain rfl := Option.some.inj hF
    refine QW.ret1 rfl rfl ?_
    exact ⟨rfl, hst.keep [] rfl⟩
  ·have hF := ite_f hF hc10
   refine CW.cond_f rfl hc10 ?_
   refine CW.skip ?_
   refine QW.block_normal ?_
   refine QW.next ?_
   refine CW.seq ?_
   refine CW.cutK (fun a w1 => Rep 35 [(4, .bool ((p0.Kind == p1.Kind) && (p0.Map == p1.Map)))] a ∧ St w (fp []) w1 []) ?_ ?_
   ·refine CW.region ?_
    refine OW.pure 1 [(23, .pointer (some ⟨b5, 0, none⟩))] (by kernel_rfl) ?_
    refine OW.ld rfl rfl rfl rfl (by kernel_rfl) (hst.blk 0 rfl rfl) ?_
    refine OW.pure 1 [(25, .pointer (some ⟨b7, 0, none⟩))] (by kernel_rfl) ?_
    refine OW.ld rfl rfl rfl rfl (by kernel_rfl) (hst.blk 1 rfl rfl) ?_
    refine OW.pure 2 [(28, .bool (p0.Kind == p1.Kind))] (by kernel_rfl) ?_
    refine OW.split 28 rfl (fun hc23 => ?_) (fun hc23 => ?_)
    ·refine OW.pure 1 [(29, .pointer (some ⟨b5, 3, none⟩))] (by kernel_rfl) ?_
     refine OW.ld rfl rfl rfl rfl (by kernel_rfl) (hst.blk 0 rfl rfl) ?_
     refine OW.pure 1 [(31, .pointer (some ⟨b7, 3, none⟩))] (by kernel_rfl) ?_
     refine OW.ld rfl rfl rfl rfl (by kernel_rfl) (hst.blk 1 rfl rfl) ?_
     refine OW.pure 3 [(4, .bool (p0.Map == p1.Map))] (by kernel_rfl) ?_
     refine OW.nil rfl ?_
     refine QW.say 4 (v := .bool ((p0.Kind == p1.Kind) && (p0.Map == p1.Map))) rfl (by first | (rw [hc23]; done) | (rw [hc23]; rfl) | simp [hc23]) ?_
     exact QW.meet (fun a ha => ⟨ha.agrees (by kernel_rfl), hst.keep [] rfl⟩)
    ·refine OW.pure 7 [(4, .bool false)] (by kernel_rfl) ?_
     refine OW.nil rfl ?_
     refine QW.say 4 (v := .bool ((p0.Kind == p1.Kind) && (p0.Map == p1.Map))) rfl (by first | (rw [hc23]; done) | (rw [hc23]; rfl) | simp [hc23]) ?_
     exact QW.meet (fun a ha => ⟨ha.agrees (by kernel_rfl), hst.keep [] rfl⟩)
   ·rintro a w1 ⟨ha, hst⟩
    refine CW.go ?_ ha
    refine CW.ret ?_
    obtain rfl := Option.some.inj hF
    refine QW.ret1 rfl rfl ?_
    exact ⟨rfl, hst.keep [] rfl⟩

set_option maxRecDepth 10000 in
set_option maxHeartbeats 4000000 in
theorem tappetlaw09_JudgeLoops_ok (w : World) (fu : Nat) (v0_0 : Value) (v0_1 : Value) (p0 : api_Module) (r : Bool) (hF : tappetlaw09_JudgeLoops fu p0 = some r)
    (hst : St w (fp []) w []) (h0_0 : Rd w (fp []) v0_0 (encInt .i64) 1 p0.Maps) (h0_1 : Rd w (fp []) v0_1 enc_api_Inst 5 p0.Code) (hT0 : Rd w (fp []) (.slice (some ⟨0, 0, none⟩) 23 23) enc_ops_form 2 tab_g0) (hT1 : Rd w (fp []) (.slice (some ⟨1, 0, none⟩) 7 7) enc_sigs_sig 5 tab_g1) :
    Calls Tryd.prog 3 [.agg [v0_0, v0_1].toArray].toArray w (fun e w' => e = .returned (.bool r) ∧ St w (fp []) w' []) := by
 refine CW.start (N := 159) Tryd.func3 rfl rfl rfl ?_
 obtain ⟨l1, a2, c3, rfl⟩ := h0_0.len
 obtain ⟨l4, a5, c6, rfl⟩ := h0_1.len
 refine CW.seq ?_
 refine CW.region ?_
 refine OW.box hst rfl rfl rfl rfl [.slice a2 (p0.Maps).length c3, .slice a5 (p0.Code).length c6] rfl ?_
 intro b9 w10 hst
 refine OW.pure 1 [] (by kernel_rfl) ?_
 refine OW.nil rfl ?_
 refine QW.next ?_
 refine CW.seq ?_
 refine CW.seq ?_
 refine CW.region ?_
 obtain ⟨r15, hr16, hF⟩ := bind_some' hF
 refine OW.fn rfl rfl rfl rfl (by kernel_rfl) (tappetlaw09_awake_ok _ fu r15 hr16 (hst.part [] rfl) (hT0.give hst []) (hT1.give hst [])) ?_
 rintro e w17 ⟨rfl, hst18⟩
 refine ⟨_, rfl, ?_⟩
 have hst := hst.join (idx := []) (rest := [0]) rfl hst18
 refine OW.pure 1 [(12, .bool (!r15))] (by kernel_rfl) ?_
 refine OW.nil rfl ?_
 refine QW.next ?_
 rcases Bool.eq_false_or_eq_true ((!r15)) with hc19 | hc19
 ·have hF := ite_t hF hc19
  refine CW.cond_t rfl hc19 ?_
  refine CW.seq ?_
  refine CW.region ?_
  refine OW.pure 1 [(2, .bool false)] (by kernel_rfl) ?_
  refine OW.nil rfl ?_
  refine QW.next ?_
  refine CW.ret ?_
  refine QW.then_ret ?_
  obtain rfl := Option.some.inj hF
  refine QW.ret1 rfl rfl ?_
  exact ⟨rfl, hst.keep [] rfl⟩
 ·have hF := ite_f hF hc19
  refine CW.cond_f rfl hc19 ?_
  refine CW.skip ?_
  refine QW.next ?_
  refine CW.seq ?_
  refine CW.region ?_
  refine OW.ldN (cs := [.slice a2 (p0.Maps).length c3, .slice a5 (p0.Code).length c6]) rfl rfl rfl rfl (by kernel_rfl) (by kernel_rfl) (hst.blkN 0 rfl 0 2) ?_
  obtain ⟨r58, hr59, hF⟩ := bind_some' hF
  refine OW.fn rfl rfl rfl rfl (by kernel_rfl) (tappetlaw09_copied_ok _ (.slice a2 (p0.Maps).length c3) (.slice a5 (p0.Code).length c6) p0 r58 hr59 (hst.part [] rfl) (h0_0.give hst []) (h0_1.give hst [])) ?_
  rintro e w60 ⟨v62, v63, rfl, hst61⟩
  refine ⟨_, rfl, ?_⟩
  have hst := hst.join (idx := []) (rest := [0]) rfl hst61
  obtain ⟨l82, a83, c84, rfl⟩ := hst.len 0 rfl
  obtain ⟨l85, a86, c87, rfl⟩ := hst.len 1 rfl
  obtain ⟨r88, hr89, hF⟩ := bind_some' hF
  refine OW.fn rfl rfl rfl rfl (by kernel_rfl) (judge_Types_ok _ _ _ fu (.slice a83 (r58.Maps).length c84) (.slice a86 (r58.Code).length c87) r58 r88 hr89 (hst.part [] rfl) (Bor.refl _ _) (hst.rd 0 rfl (fun _ => rfl) [] rfl (hst.len 0 rfl).1) (hst.rd 1 rfl (fun _ => rfl) [] rfl (hst.len 1 rfl).1) (hT0.give hst []) (hT1.give hst [])) ?_
  rintro e w90 ⟨v92, Sv92, rfl, hst91⟩
  refine ⟨_, rfl, ?_⟩
  have hst := hst.join (idx := []) (rest := [0, 1, 2]) rfl hst91
  obtain ⟨l93, a94, c95, rfl⟩ := hst.nlen 0 rfl
  refine OW.pure 5 [(3, .slice a94 (r88.1).length c95), (4, .int .i64 r88.2)] (by kernel_rfl) ?_
  refine OW.nil rfl ?_
  obtain ⟨wz96, Sz97, hg98, hz99, hst, hfr100⟩ := hst.freeze 0 rfl [1, 2, 3] rfl rfl
  have h0_0 := h0_0.bor hg98
  have h0_1 := h0_1.bor hg98
  have hT0 := hT0.bor hg98
  have hT1 := hT1.bor hg98
  refine QW.next ?_
  refine CW.seq ?_
  refine CW.seq ?_
  refine CW.region ?_
  refine OW.pure 2 [(20, .bool (r88.2 != 0))] (by kernel_rfl) ?_
  refine OW.nil rfl ?_
  refine QW.next ?_
  rcases Bool.eq_false_or_eq_true ((r88.2 != 0)) with hc101 | hc101
  ·have hF := ite_t hF hc101
   refine CW.cond_t rfl hc101 ?_
   refine CW.seq ?_
   refine CW.region ?_
   refine OW.pure 4 [(2, .bool (((r88.1).length : Int) == 0))] (by kernel_rfl) ?_
   refine OW.nil rfl ?_
   refine QW.next ?_
   refine CW.ret ?_
   refine QW.then_ret ?_
   have hst := hz99 _ _ hst
   obtain rfl := Option.some.inj hF
   refine QW.ret1 rfl rfl ?_
   exact ⟨rfl, hst.keep [] rfl⟩
  ·have hF := ite_f hF hc101
   refine CW.cond_f rfl hc101 ?_
   refine CW.skip ?_
   refine QW.next ?_
   refine CW.seq ?_
   refine CW.seq ?_
   obtain ⟨o117, ho118, hF⟩ := bind_some' hF
   refine CW.cutK (fun a w1 => Rep 159 [(1, .pointer (some ⟨b9, 0, none⟩)), (3, .slice a94 (r88.1).length c95), (36, .bool o117)] a ∧ St wz96 Sz97 w1 [blkI b9 25 [.slice a2 (p0.Maps).length c3, .slice a5 (p0.Code).length c6]]) ?_ ?_
   ·refine CW.region ?_
    refine OW.pure 3 [(25, .int .i64 ((r88.1).length : Int)), (26, .pointer (some ⟨b9, 1, none⟩))] (by kernel_rfl) ?_
    refine OW.ld rfl rfl rfl rfl (by kernel_rfl) (hst.blk 2 rfl rfl) ?_
    refine OW.pure 3 [(30, .bool (((r88.1).length : Int) != ((p0.Code).length : Int)))] (by kernel_rfl) ?_
    refine OW.split 30 rfl (fun hc119 => ?_) (fun hc119 => ?_)
    ·have ho118 := ite_t ho118 hc119
     refine OW.pure 6 [(36, .bool true)] (by kernel_rfl) ?_
     refine OW.nil rfl ?_
     obtain rfl := Option.some.inj ho118
     exact QW.meet (fun a ha => ⟨ha.agrees (by kernel_rfl), hst.keep [2] rfl⟩)
    ·have ho118 := ite_f ho118 hc119
     refine OW.pure 1 [(31, .slice a94 (r88.1).length c95)] (by kernel_rfl) ?_
     obtain ⟨x120, hx121, ho118⟩ := bind_some' ho118
     obtain ⟨g123, o124, c125, cs126, hv122, hd127, hl128⟩ := hfr100.formv hx121
     obtain ⟨v129, rfl, h130⟩ := hd127
     have h130 : Rd _ _ _ _ _ x120 := h130
     obtain ⟨l131, a132, c133, rfl⟩ := h130.len
     refine OW.idx 32 1 rfl rfl rfl rfl hv122 rfl (idx_some hx121).1 (idx_some hx121).2.1 (by kernel_rfl) (by kernel_rfl) ?_
     refine OW.ld rfl rfl rfl rfl (by kernel_rfl) (hl128 0 _ rfl _ _ hst) ?_
     refine OW.pure 3 [(36, .bool (((x120).length : Int) != 8))] (by kernel_rfl) ?_
     refine OW.nil rfl ?_
     obtain rfl := Option.some.inj ho118
     exact QW.meet (fun a ha => ⟨ha.agrees (by kernel_rfl), hst.keep [2] rfl⟩)
   ·rintro a w1 ⟨ha, hst⟩
    refine CW.go ?_ ha
    rcases Bool.eq_false_or_eq_true (o117) with hc134 | hc134
    ·have hF := ite_t hF hc134
     refine CW.cond_t rfl hc134 ?_
     refine CW.seq ?_
     refine CW.region ?_
     refine OW.pure 1 [(2, .bool false)] (by kernel_rfl) ?_
     refine OW.nil rfl ?_
     refine QW.next ?_
     refine CW.ret ?_
     refine QW.then_ret ?_
     have hst := hz99 _ _ hst
     obtain rfl := Option.some.inj hF
     refine QW.ret1 rfl rfl ?_
     exact ⟨rfl, hst.keep [] rfl⟩
    ·have hF := ite_f hF hc134
     refine CW.cond_f rfl hc134 ?_
     refine CW.skip ?_
     refine QW.next ?_
     refine CW.seq ?_
     refine CW.seq ?_
     refine CW.region ?_
     refine OW.pure 1 [(5, .int .i64 0)] (by kernel_rfl) ?_
     refine OW.nil rfl ?_
     refine QW.next ?_
     obtain ⟨o3732, ho3733, hF⟩ := bind_some' hF
     refine CW.cutK (fun a w1 => ∃ (t3734 : Unit), o3732 = .inl t3734 ∧ Rep 159 [] a ∧ St wz96 Sz97 w1 []) ?_ ?_
     ·refine CW.block ?_
      refine CW.loop (fun n a w1 => ∃ (i6133 : Nat) (s6132 : Unit), i6133 + n = (r88.1).length ∧ Rep 159 [(1, .pointer (some ⟨b9, 0, none⟩)), (3, .slice a94 (r88.1).length c95), (5, .int .i64 (i6133 : Int))] a ∧ St wz96 Sz97 w1 [blkI b9 25 [.slice a2 (p0.Maps).length c3, .slice a5 (p0.Code).length c6]] ∧ forN (tappetlaw09_JudgeLoops_l1 p0 r88) (fun (s6132 : Unit) => (.inl ())) n i6133 s6132 = some o3732) (r88.1).length (fun a ha => ⟨0, (), Nat.zero_add _, ha.agrees (by kernel_rfl), hst.keep [0] rfl, ho3733⟩) ?_
      rintro n6130 a w1 ⟨i6133, s6132, hi6134, ha, hst, hl6131⟩
      refine CW.go ?_ ha
      refine CW.seq ?_
      refine CW.seq ?_
      refine CW.region ?_
      refine OW.pure 4 [(40, .bool (decide ((i6133 : Int) < ((r88.1).length : Int))))] (by kernel_rfl) ?_
      refine OW.nil rfl ?_
      refine QW.next ?_
      rcases Bool.eq_false_or_eq_true (decide ((i6133 : Int) < ((r88.1).length : Int))) with hc6135 | hc6135
      ·rcases n6130 with _ | n6130
       ·exact (cnt0 hi6134 hc6135).elim
       refine CW.cond_t rfl hc6135 ?_
       refine CW.skip ?_
       refine QW.next ?_
       refine CW.seq ?_
       refine CW.block ?_
       refine CW.seq ?_
       refine CW.seq ?_
       refine CW.region ?_
       refine OW.pure 2 [(43, .slice a94 (r88.1).length c95), (44, .int .i64 (i6133 : Int))] (by kernel_rfl) ?_
       obtain ⟨x6150, hx6151, hl6131⟩ := bind_some' hl6131
       obtain ⟨g6153, o6154, c6155, cs6156, hv6152, hd6157, hl6158⟩ := hfr100.formv hx6151
       obtain ⟨v6159, rfl, h6160⟩ := hd6157
       have h6160 : Rd _ _ _ _ _ x6150 := h6160
       obtain ⟨l6161, a6162, c6163, rfl⟩ := h6160.len
       refine OW.idx 32 1 rfl rfl rfl rfl hv6152 rfl (idx_some hx6151).1 (idx_some hx6151).2.1 (by kernel_rfl) (by kernel_rfl) ?_
       refine OW.ld rfl rfl rfl rfl (by kernel_rfl) (hl6158 0 _ rfl _ _ hst) ?_
       refine OW.pure 2 [(48, .bool (((x6150).length : Int) == 0))] (by kernel_rfl) ?_
       refine OW.nil rfl ?_
       refine QW.next ?_
       rcases Bool.eq_false_or_eq_true ((((x6150).length : Int) == 0)) with hc6164 | hc6164
       ·have hl6131 := ite_t hl6131 hc6164
        refine CW.cond_t rfl hc6164 ?_
        refine CW.exit ?_
        refine QW.then_exit ?_
        refine QW.block_here ?_
        refine QW.next ?_
        refine CW.region ?_
        refine OW.pure 3 [(5, .int .i64 (w64 ((i6133 : Int) + 1)))] (by kernel_rfl) ?_
        refine OW.nil rfl ?_
        refine QW.say 5 rfl (congrArg (Value.int .i64) (w64_cnt hc6135 l93)) ?_
        exact QW.meet (fun a ha => ⟨n6130, Nat.lt_succ_self _, i6133 + 1, (), cnt_next hi6134, ha.agrees (by kernel_rfl), hst.keep [0] rfl, hl6131⟩)
       ·have hl6131 := ite_f hl6131 hc6164
        refine CW.cond_f rfl hc6164 ?_
        refine CW.skip ?_
        refine QW.next ?_
        refine CW.seq ?_
        refine CW.seq ?_
        refine CW.region ?_
        refine OW.pure 2 [(49, .slice a94 (r88.1).length c95), (50, .int .i64 (i6133 : Int))] (by kernel_rfl) ?_
        obtain ⟨g6178, o6179, c6180, cs6181, hv6177, hd6182, hl6183⟩ := hfr100.formv hx6151
        obtain ⟨v6184, rfl, h6185⟩ := hd6182
        have h6185 : Rd _ _ _ _ _ x6150 := h6185
        obtain ⟨l6186, a6187, c6188, rfl⟩ := h6185.len
        refine OW.idx 32 1 rfl rfl rfl rfl hv6177 rfl (idx_some hx6151).1 (idx_some hx6151).2.1 (by kernel_rfl) (by kernel_rfl) ?_
        refine OW.ld rfl rfl rfl rfl (by kernel_rfl) (hl6183 0 _ rfl _ _ hst) ?_
        refine OW.pure 2 [(54, .bool (((x6150).length : Int) != 8))] (by kernel_rfl) ?_
        refine OW.nil rfl ?_
        refine QW.next ?_
        rcases Bool.eq_false_or_eq_true ((((x6150).length : Int) != 8)) with hc6189 | hc6189
        ·have hl6131 := ite_t hl6131 hc6189
         refine CW.cond_t rfl hc6189 ?_
         refine CW.seq ?_
         refine CW.region ?_
         refine OW.pure 1 [(2, .bool false)] (by kernel_rfl) ?_
         refine OW.nil rfl ?_
         refine QW.next ?_
         refine CW.ret ?_
         refine QW.then_ret ?_
         refine QW.block_ret ?_
         refine QW.then_ret ?_
         refine QW.then_ret ?_
         refine QW.block_ret ?_
         refine QW.then_ret ?_
         have hst := hz99 _ _ hst
         obtain rfl := Option.some.inj hl6131
         obtain rfl := Option.some.inj hF
         refine QW.ret1 rfl rfl ?_
         exact ⟨rfl, hst.keep [] rfl⟩
        ·have hl6131 := ite_f hl6131 hc6189
         refine CW.cond_f rfl hc6189 ?_
         refine CW.skip ?_
         refine QW.next ?_
         refine CW.seq ?_
         refine CW.seq ?_
         refine CW.region ?_
         refine OW.pure 1 [(6, .int .i64 0)] (by kernel_rfl) ?_
         refine OW.nil rfl ?_
         refine QW.next ?_
         obtain ⟨o6531, ho6532, hl6131⟩ := bind_some' hl6131
         refine CW.cutK (fun a w1 => ∃ (t6533 : Unit), o6531 = .inl t6533 ∧ Rep 159 [(1, .pointer (some ⟨b9, 0, none⟩)), (3, .slice a94 (r88.1).length c95), (5, .int .i64 (i6133 : Int))] a ∧ St wz96 Sz97 w1 [blkI b9 25 [.slice a2 (p0.Maps).length c3, .slice a5 (p0.Code).length c6]]) ?_ ?_
         ·refine CW.block ?_
          refine CW.loop (fun n a w1 => ∃ (i6761 : Nat) (s6760 : Unit), i6761 + n = 8 ∧ Rep 159 [(1, .pointer (some ⟨b9, 0, none⟩)), (3, .slice a94 (r88.1).length c95), (5, .int .i64 (i6133 : Int)), (6, .int .i64 (i6761 : Int))] a ∧ St wz96 Sz97 w1 [blkI b9 25 [.slice a2 (p0.Maps).length c3, .slice a5 (p0.Code).length c6]] ∧ forN (tappetlaw09_JudgeLoops_l2 p0 r88 i6133) (fun (s6760 : Unit) => (.inl ())) n i6761 s6760 = some o6531) 8 (fun a ha => ⟨0, (), Nat.zero_add _, ha.agrees (by kernel_rfl), hst.keep [0] rfl, ho6532⟩) ?_
          rintro n6758 a w1 ⟨i6761, s6760, hi6762, ha, hst, hl6759⟩
          refine CW.go ?_ ha
          refine CW.seq ?_
          refine CW.seq ?_
          refine CW.region ?_
          refine OW.pure 2 [(56, .bool (decide ((i6761 : Int) < 8)))] (by kernel_rfl) ?_
          refine OW.nil rfl ?_
          refine QW.next ?_
          rcases Bool.eq_false_or_eq_true (decide ((i6761 : Int) < 8)) with hc6763 | hc6763
          ·rcases n6758 with _ | n6758
           ·exact (cnt0 hi6762 hc6763).elim
           refine CW.cond_t rfl hc6763 ?_
           refine CW.skip ?_
           refine QW.next ?_
           refine CW.seq ?_
           refine CW.block ?_
           refine CW.seq ?_
           refine CW.region ?_
           refine OW.pure 2 [(59, .slice a94 (r88.1).length c95), (60, .int .i64 (i6133 : Int))] (by kernel_rfl) ?_
           obtain ⟨x6787, hx6788, hl6759⟩ := bind_some' hl6759
           obtain ⟨g6790, o6791, c6792, cs6793, hv6789, hd6794, hl6795⟩ := hfr100.formv hx6788
           obtain ⟨v6796, rfl, h6797⟩ := hd6794
           have h6797 : Rd _ _ _ _ _ x6787 := h6797
           obtain ⟨l6798, a6799, c6800, rfl⟩ := h6797.len
           refine OW.idx 32 1 rfl rfl rfl rfl hv6789 rfl (idx_some hx6788).1 (idx_some hx6788).2.1 (by kernel_rfl) (by kernel_rfl) ?_
           refine OW.ld rfl rfl rfl rfl (by kernel_rfl) (hl6795 0 _ rfl _ _ hst) ?_
           refine OW.pure 1 [(63, .int .i64 (i6761 : Int))] (by kernel_rfl) ?_
           obtain ⟨x6801, hx6802, hl6759⟩ := bind_some' hl6759
           obtain ⟨g6804, o6805, c6806, hv6803⟩ := h6797.formv (fun _ => ⟨_, rfl⟩) hx6802
           refine OW.idx 38 4 rfl rfl rfl rfl hv6803 rfl (idx_some hx6802).1 (idx_some hx6802).2.1 (by kernel_rfl) (by kernel_rfl) ?_
           refine OW.ldN (cs := enc_api_Type x6801) rfl rfl rfl rfl (by kernel_rfl) (by kernel_rfl) (h6797.cellv hst hx6802 hv6803) ?_
           refine OW.alloc hst rfl rfl rfl [.int .i64 0, .int .u64 0, .int .u64 0, .int .i64 0] (by kernel_rfl) ?_
           intro b6807 w6808 hst
           refine OW.stB hst 1 rfl rfl rfl rfl rfl (by kernel_rfl) rfl rfl [.int .i64 x6801.Kind, .int .u64 x6801.Span.Lo, .int .u64 x6801.Span.Hi, .int .i64 x6801.Map] rfl ?_
           intro w6809 hst
           refine OW.nil rfl ?_
           refine QW.next ?_
           refine CW.seq ?_
           obtain ⟨o6841, ho6842, hl6759⟩ := bind_some' hl6759
           refine CW.cutK (fun a w1 => Rep 159 [(1, .pointer (some ⟨b9, 0, none⟩)), (3, .slice a94 (r88.1).length c95), (5, .int .i64 (i6133 : Int)), (6, .int .i64 (i6761 : Int)), (123, .bool o6841)] a ∧ St wz96 Sz97 w1 [blkI b9 25 [.slice a2 (p0.Maps).length c3, .slice a5 (p0.Code).length c6]]) ?_ ?_
           ·refine CW.region ?_
            refine OW.pure 1 [(66, .pointer (some ⟨b6807, 0, none⟩))] (by kernel_rfl) ?_
            refine OW.ld rfl rfl rfl rfl (by kernel_rfl) (hst.blk 1 rfl rfl) ?_
            refine OW.pure 2 [(69, .bool (x6801.Kind == 1))] (by kernel_rfl) ?_
            refine OW.split 69 rfl (fun hc6843 => ?_) (fun hc6843 => ?_)
            ·have ho6842 := ite_t ho6842 hc6843
             refine OW.pure 1 [(70, .pointer (some ⟨b6807, 1, none⟩))] (by kernel_rfl) ?_
             refine OW.ldN (cs := [.int .u64 x6801.Span.Lo, .int .u64 x6801.Span.Hi]) rfl rfl rfl rfl (by kernel_rfl) (by kernel_rfl) (hst.blkN 1 rfl 1 2) ?_
             obtain ⟨r6844, hr6845, ho6842⟩ := bind_some' ho6842
             refine OW.fn rfl rfl rfl rfl (by kernel_rfl) (span_Right_ok _ x6801.Span r6844 hr6845 (hst.part [] rfl)) ?_
             rintro e w6846 ⟨rfl, hst6847⟩
             refine ⟨_, rfl, ?_⟩
             have hst := hst.join (idx := []) (rest := [0, 1]) rfl hst6847
             refine OW.pure 2 [(74, .bool (!r6844))] (by kernel_rfl) ?_
             refine OW.split 74 rfl (fun hc6848 => ?_) (fun hc6848 => ?_)
             ·have ho6842 := ite_t ho6842 hc6848
              refine OW.pure 49 [(123, .bool true)] (by kernel_rfl) ?_
              refine OW.nil rfl ?_
              obtain rfl := Option.some.inj ho6842
              exact QW.meet (fun a ha => ⟨ha.agrees (by kernel_rfl), hst.keep [0] rfl⟩)
             ·have ho6842 := ite_f ho6842 hc6848
              refine OW.pure 1 [(75, .pointer (some ⟨b6807, 3, none⟩))] (by kernel_rfl) ?_
              refine OW.ld rfl rfl rfl rfl (by kernel_rfl) (hst.blk 1 rfl rfl) ?_
              refine OW.pure 4 [(80, .bool (x6801.Map != 0))] (by kernel_rfl) ?_
              refine OW.split 80 rfl (fun hc6849 => ?_) (fun hc6849 => ?_)
              ·have ho6842 := ite_t ho6842 hc6849
               refine OW.pure 43 [(123, .bool true)] (by kernel_rfl) ?_
               refine OW.nil rfl ?_
               obtain rfl := Option.some.inj ho6842
               exact QW.meet (fun a ha => ⟨ha.agrees (by kernel_rfl), hst.keep [0] rfl⟩)
              ·have ho6842 := ite_f ho6842 hc6849
               refine OW.pure 1 [(81, .pointer (some ⟨b6807, 0, none⟩))] (by kernel_rfl) ?_
               refine OW.ld rfl rfl rfl rfl (by kernel_rfl) (hst.blk 1 rfl rfl) ?_
               refine OW.pure 2 [(84, .bool (x6801.Kind == 2))] (by kernel_rfl) ?_
               refine OW.split 84 rfl (fun hc6850 => ?_) (fun hc6850 => ?_)
               ·have ho6842 := ite_t ho6842 hc6850
                refine OW.pure 1 [(85, .pointer (some ⟨b6807, 3, none⟩))] (by kernel_rfl) ?_
                refine OW.ld rfl rfl rfl rfl (by kernel_rfl) (hst.blk 1 rfl rfl) ?_
                refine OW.pure 2 [(88, .bool (decide (x6801.Map < 0)))] (by kernel_rfl) ?_
                refine OW.split 88 rfl (fun hc6851 => ?_) (fun hc6851 => ?_)
                ·have ho6842 := ite_t ho6842 hc6851
                 refine OW.pure 35 [(123, .bool true)] (by kernel_rfl) ?_
                 refine OW.nil rfl ?_
                 obtain rfl := Option.some.inj ho6842
                 exact QW.meet (fun a ha => ⟨ha.agrees (by kernel_rfl), hst.keep [0] rfl⟩)
                ·have ho6842 := ite_f ho6842 hc6851
                 refine OW.pure 1 [(89, .pointer (some ⟨b6807, 3, none⟩))] (by kernel_rfl) ?_
                 refine OW.ld rfl rfl rfl rfl (by kernel_rfl) (hst.blk 1 rfl rfl) ?_
                 refine OW.pure 1 [(91, .pointer (some ⟨b9, 0, none⟩))] (by kernel_rfl) ?_
                 refine OW.ld rfl rfl rfl rfl (by kernel_rfl) (hst.blk 0 rfl rfl) ?_
                 refine OW.pure 4 [(96, .bool (decide (x6801.Map ≥ ((p0.Maps).length : Int))))] (by kernel_rfl) ?_
                 refine OW.split 96 rfl (fun hc6852 => ?_) (fun hc6852 => ?_)
                 ·have ho6842 := ite_t ho6842 hc6852
                  refine OW.pure 27 [(123, .bool true)] (by kernel_rfl) ?_
                  refine OW.nil rfl ?_
                  obtain rfl := Option.some.inj ho6842
                  exact QW.meet (fun a ha => ⟨ha.agrees (by kernel_rfl), hst.keep [0] rfl⟩)
                 ·have ho6842 := ite_f ho6842 hc6852
                  refine OW.pure 1 [(97, .pointer (some ⟨b6807, 1, none⟩))] (by kernel_rfl) ?_
                  refine OW.ldN (cs := [.int .u64 x6801.Span.Lo, .int .u64 x6801.Span.Hi]) rfl rfl rfl rfl (by kernel_rfl) (by kernel_rfl) (hst.blkN 1 rfl 1 2) ?_
                  refine OW.pure 1 [(99, .agg [.int .u64 0, .int .u64 0].toArray)] (by kernel_rfl) ?_
                  refine OW.op (v := .bool (!((x6801.Span.Lo == 0) && ((x6801.Span.Hi == 0) && true)))) rfl rfl rfl rfl (fun a ha => sneq_run rfl rfl rfl (by kernel_rfl) (by kernel_rfl) a _ ha) ?_
                  refine OW.pure 4 [(104, .bool (!((x6801.Span.Lo == 0) && ((x6801.Span.Hi == 0) && true))))] (by kernel_rfl) ?_
                  refine OW.split 104 rfl (fun hc6853 => ?_) (fun hc6853 => ?_)
                  ·have ho6842 := ite_t ho6842 hc6853
                   refine OW.pure 19 [(123, .bool true)] (by kernel_rfl) ?_
                   refine OW.nil rfl ?_
                   obtain rfl := Option.some.inj ho6842
                   exact QW.meet (fun a ha => ⟨ha.agrees (by kernel_rfl), hst.keep [0] rfl⟩)
                  ·have ho6842 := ite_f ho6842 hc6853
                   refine OW.pure 1 [(105, .pointer (some ⟨b6807, 0, none⟩))] (by kernel_rfl) ?_
                   refine OW.ld rfl rfl rfl rfl (by kernel_rfl) (hst.blk 1 rfl rfl) ?_
                   refine OW.pure 2 [(108, .bool (x6801.Kind == 0))] (by kernel_rfl) ?_
                   refine OW.split 108 rfl (fun hc6854 => ?_) (fun hc6854 => ?_)
                   ·have ho6842 := ite_t ho6842 hc6854
                    refine OW.ldN (cs := [.int .i64 x6801.Kind, .int .u64 x6801.Span.Lo, .int .u64 x6801.Span.Hi, .int .i64 x6801.Map]) rfl rfl rfl rfl (by kernel_rfl) (by kernel_rfl) (hst.blkN 1 rfl 0 4) ?_
                    refine OW.pure 1 [(110, .agg [.int .i64 0, .int .u64 0, .int .u64 0, .int .i64 0].toArray)] (by kernel_rfl) ?_
                    refine OW.op (v := .bool (!((x6801.Kind == 0) && (((x6801.Span.Lo == 0) && ((x6801.Span.Hi == 0) && true)) && ((x6801.Map == 0) && true))))) rfl rfl rfl rfl (fun a ha => sneq_run rfl rfl rfl (by kernel_rfl) (by kernel_rfl) a _ ha) ?_
                    refine OW.pure 3 [(114, .bool (!((x6801.Kind == 0) && (((x6801.Span.Lo == 0) && ((x6801.Span.Hi == 0) && true)) && ((x6801.Map == 0) && true)))))] (by kernel_rfl) ?_
                    refine OW.split 114 rfl (fun hc6855 => ?_) (fun hc6855 => ?_)
                    ·have ho6842 := ite_t ho6842 hc6855
                     refine OW.pure 9 [(123, .bool true)] (by kernel_rfl) ?_
                     refine OW.nil rfl ?_
                     obtain rfl := Option.some.inj ho6842
                     exact QW.meet (fun a ha => ⟨ha.agrees (by kernel_rfl), hst.keep [0] rfl⟩)
                    ·have ho6842 := ite_f ho6842 hc6855
                     refine OW.pure 1 [(115, .pointer (some ⟨b6807, 0, none⟩))] (by kernel_rfl) ?_
                     refine OW.ld rfl rfl rfl rfl (by kernel_rfl) (hst.blk 1 rfl rfl) ?_
                     refine OW.pure 3 [(119, .bool (decide (x6801.Kind < 0)))] (by kernel_rfl) ?_
                     refine OW.split 119 rfl (fun hc6856 => ?_) (fun hc6856 => ?_)
                     ·have ho6842 := ite_t ho6842 hc6856
                      refine OW.pure 4 [(123, .bool true)] (by kernel_rfl) ?_
                      refine OW.nil rfl ?_
                      obtain rfl := Option.some.inj ho6842
                      exact QW.meet (fun a ha => ⟨ha.agrees (by kernel_rfl), hst.keep [0] rfl⟩)
                     ·have ho6842 := ite_f ho6842 hc6856
                      refine OW.pure 1 [(120, .pointer (some ⟨b6807, 0, none⟩))] (by kernel_rfl) ?_
                      refine OW.ld rfl rfl rfl rfl (by kernel_rfl) (hst.blk 1 rfl rfl) ?_
                      refine OW.pure 2 [(123, .bool (decide (x6801.Kind > 2)))] (by kernel_rfl) ?_
                      refine OW.nil rfl ?_
                      obtain rfl := Option.some.inj ho6842
                      exact QW.meet (fun a ha => ⟨ha.agrees (by kernel_rfl), hst.keep [0] rfl⟩)
                   ·have ho6842 := ite_f ho6842 hc6854
                    refine OW.pure 7 [(114, .bool false), (115, .pointer (some ⟨b6807, 0, none⟩))] (by kernel_rfl) ?_
                    refine OW.ld rfl rfl rfl rfl (by kernel_rfl) (hst.blk 1 rfl rfl) ?_
                    refine OW.pure 3 [(119, .bool (decide (x6801.Kind < 0)))] (by kernel_rfl) ?_
                    refine OW.split 119 rfl (fun hc6857 => ?_) (fun hc6857 => ?_)
                    ·have ho6842 := ite_t ho6842 hc6857
                     refine OW.pure 4 [(123, .bool true)] (by kernel_rfl) ?_
                     refine OW.nil rfl ?_
                     obtain rfl := Option.some.inj ho6842
                     exact QW.meet (fun a ha => ⟨ha.agrees (by kernel_rfl), hst.keep [0] rfl⟩)
                    ·have ho6842 := ite_f ho6842 hc6857
                     refine OW.pure 1 [(120, .pointer (some ⟨b6807, 0, none⟩))] (by kernel_rfl) ?_
                     refine OW.ld rfl rfl rfl rfl (by kernel_rfl) (hst.blk 1 rfl rfl) ?_
                     refine OW.pure 2 [(123, .bool (decide (x6801.Kind > 2)))] (by kernel_rfl) ?_
                     refine OW.nil rfl ?_
                     obtain rfl := Option.some.inj ho6842
                     exact QW.meet (fun a ha => ⟨ha.agrees (by kernel_rfl), hst.keep [0] rfl⟩)
               ·have ho6842 := ite_f ho6842 hc6850
                refine OW.pure 21 [(104, .bool false), (105, .pointer (some ⟨b6807, 0, none⟩))] (by kernel_rfl) ?_
                refine OW.ld rfl rfl rfl rfl (by kernel_rfl) (hst.blk 1 rfl rfl) ?_
                refine OW.pure 2 [(108, .bool (x6801.Kind == 0))] (by kernel_rfl) ?_
                refine OW.split 108 rfl (fun hc6858 => ?_) (fun hc6858 => ?_)
                ·have ho6842 := ite_t ho6842 hc6858
                 refine OW.ldN (cs := [.int .i64 x6801.Kind, .int .u64 x6801.Span.Lo, .int .u64 x6801.Span.Hi, .int .i64 x6801.Map]) rfl rfl rfl rfl (by kernel_rfl) (by kernel_rfl) (hst.blkN 1 rfl 0 4) ?_
                 refine OW.pure 1 [(110, .agg [.int .i64 0, .int .u64 0, .int .u64 0, .int .i64 0].toArray)] (by kernel_rfl) ?_
                 refine OW.op (v := .bool (!((x6801.Kind == 0) && (((x6801.Span.Lo == 0) && ((x6801.Span.Hi == 0) && true)) && ((x6801.Map == 0) && true))))) rfl rfl rfl rfl (fun a ha => sneq_run rfl rfl rfl (by kernel_rfl) (by kernel_rfl) a _ ha) ?_
                 refine OW.pure 3 [(114, .bool (!((x6801.Kind == 0) && (((x6801.Span.Lo == 0) && ((x6801.Span.Hi == 0) && true)) && ((x6801.Map == 0) && true)))))] (by kernel_rfl) ?_
                 refine OW.split 114 rfl (fun hc6859 => ?_) (fun hc6859 => ?_)
                 ·have ho6842 := ite_t ho6842 hc6859
                  refine OW.pure 9 [(123, .bool true)] (by kernel_rfl) ?_
                  refine OW.nil rfl ?_
                  obtain rfl := Option.some.inj ho6842
                  exact QW.meet (fun a ha => ⟨ha.agrees (by kernel_rfl), hst.keep [0] rfl⟩)
                 ·have ho6842 := ite_f ho6842 hc6859
                  refine OW.pure 1 [(115, .pointer (some ⟨b6807, 0, none⟩))] (by kernel_rfl) ?_
                  refine OW.ld rfl rfl rfl rfl (by kernel_rfl) (hst.blk 1 rfl rfl) ?_
                  refine OW.pure 3 [(119, .bool (decide (x6801.Kind < 0)))] (by kernel_rfl) ?_
                  refine OW.split 119 rfl (fun hc6860 => ?_) (fun hc6860 => ?_)
                  ·have ho6842 := ite_t ho6842 hc6860
                   refine OW.pure 4 [(123, .bool true)] (by kernel_rfl) ?_
                   refine OW.nil rfl ?_
                   obtain rfl := Option.some.inj ho6842
                   exact QW.meet (fun a ha => ⟨ha.agrees (by kernel_rfl), hst.keep [0] rfl⟩)
                  ·have ho6842 := ite_f ho6842 hc6860
                   refine OW.pure 1 [(120, .pointer (some ⟨b6807, 0, none⟩))] (by kernel_rfl) ?_
                   refine OW.ld rfl rfl rfl rfl (by kernel_rfl) (hst.blk 1 rfl rfl) ?_
                   refine OW.pure 2 [(123, .bool (decide (x6801.Kind > 2)))] (by kernel_rfl) ?_
                   refine OW.nil rfl ?_
                   obtain rfl := Option.some.inj ho6842
                   exact QW.meet (fun a ha => ⟨ha.agrees (by kernel_rfl), hst.keep [0] rfl⟩)
                ·have ho6842 := ite_f ho6842 hc6858
                 refine OW.pure 7 [(114, .bool false), (115, .pointer (some ⟨b6807, 0, none⟩))] (by kernel_rfl) ?_
                 refine OW.ld rfl rfl rfl rfl (by kernel_rfl) (hst.blk 1 rfl rfl) ?_
                 refine OW.pure 3 [(119, .bool (decide (x6801.Kind < 0)))] (by kernel_rfl) ?_
                 refine OW.split 119 rfl (fun hc6861 => ?_) (fun hc6861 => ?_)
                 ·have ho6842 := ite_t ho6842 hc6861
                  refine OW.pure 4 [(123, .bool true)] (by kernel_rfl) ?_
                  refine OW.nil rfl ?_
                  obtain rfl := Option.some.inj ho6842
                  exact QW.meet (fun a ha => ⟨ha.agrees (by kernel_rfl), hst.keep [0] rfl⟩)
                 ·have ho6842 := ite_f ho6842 hc6861
                  refine OW.pure 1 [(120, .pointer (some ⟨b6807, 0, none⟩))] (by kernel_rfl) ?_
                  refine OW.ld rfl rfl rfl rfl (by kernel_rfl) (hst.blk 1 rfl rfl) ?_
                  refine OW.pure 2 [(123, .bool (decide (x6801.Kind > 2)))] (by kernel_rfl) ?_
                  refine OW.nil rfl ?_
                  obtain rfl := Option.some.inj ho6842
                  exact QW.meet (fun a ha => ⟨ha.agrees (by kernel_rfl), hst.keep [0] rfl⟩)
            ·have ho6842 := ite_f ho6842 hc6843
             refine OW.pure 12 [(80, .bool false), (81, .pointer (some ⟨b6807, 0, none⟩))] (by kernel_rfl) ?_
             refine OW.ld rfl rfl rfl rfl (by kernel_rfl) (hst.blk 1 rfl rfl) ?_
             refine OW.pure 2 [(84, .bool (x6801.Kind == 2))] (by kernel_rfl) ?_
             refine OW.split 84 rfl (fun hc6862 => ?_) (fun hc6862 => ?_)
             ·have ho6842 := ite_t ho6842 hc6862
              refine OW.pure 1 [(85, .pointer (some ⟨b6807, 3, none⟩))] (by kernel_rfl) ?_
              refine OW.ld rfl rfl rfl rfl (by kernel_rfl) (hst.blk 1 rfl rfl) ?_
              refine OW.pure 2 [(88, .bool (decide (x6801.Map < 0)))] (by kernel_rfl) ?_
              refine OW.split 88 rfl (fun hc6863 => ?_) (fun hc6863 => ?_)
              ·have ho6842 := ite_t ho6842 hc6863
               refine OW.pure 35 [(123, .bool true)] (by kernel_rfl) ?_
               refine OW.nil rfl ?_
               obtain rfl := Option.some.inj ho6842
               exact QW.meet (fun a ha => ⟨ha.agrees (by kernel_rfl), hst.keep [0] rfl⟩)
              ·have ho6842 := ite_f ho6842 hc6863
               refine OW.pure 1 [(89, .pointer (some ⟨b6807, 3, none⟩))] (by kernel_rfl) ?_
               refine OW.ld rfl rfl rfl rfl (by kernel_rfl) (hst.blk 1 rfl rfl) ?_
               refine OW.pure 1 [(91, .pointer (some ⟨b9, 0, none⟩))] (by kernel_rfl) ?_
               refine OW.ld rfl rfl rfl rfl (by kernel_rfl) (hst.blk 0 rfl rfl) ?_
               refine OW.pure 4 [(96, .bool (decide (x6801.Map ≥ ((p0.Maps).length : Int))))] (by kernel_rfl) ?_
               refine OW.split 96 rfl (fun hc6864 => ?_) (fun hc6864 => ?_)
               ·have ho6842 := ite_t ho6842 hc6864
                refine OW.pure 27 [(123, .bool true)] (by kernel_rfl) ?_
                refine OW.nil rfl ?_
                obtain rfl := Option.some.inj ho6842
                exact QW.meet (fun a ha => ⟨ha.agrees (by kernel_rfl), hst.keep [0] rfl⟩)
               ·have ho6842 := ite_f ho6842 hc6864
                refine OW.pure 1 [(97, .pointer (some ⟨b6807, 1, none⟩))] (by kernel_rfl) ?_
                refine OW.ldN (cs := [.int .u64 x6801.Span.Lo, .int .u64 x6801.Span.Hi]) rfl rfl rfl rfl (by kernel_rfl) (by kernel_rfl) (hst.blkN 1 rfl 1 2) ?_
                refine OW.pure 1 [(99, .agg [.int .u64 0, .int .u64 0].toArray)] (by kernel_rfl) ?_
                refine OW.op (v := .bool (!((x6801.Span.Lo == 0) && ((x6801.Span.Hi == 0) && true)))) rfl rfl rfl rfl (fun a ha => sneq_run rfl rfl rfl (by kernel_rfl) (by kernel_rfl) a _ ha) ?_
                refine OW.pure 4 [(104, .bool (!((x6801.Span.Lo == 0) && ((x6801.Span.Hi == 0) && true))))] (by kernel_rfl) ?_
                refine OW.split 104 rfl (fun hc6865 => ?_) (fun hc6865 => ?_)
                ·have ho6842 := ite_t ho6842 hc6865
                 refine OW.pure 19 [(123, .bool true)] (by kernel_rfl) ?_
                 refine OW.nil rfl ?_
                 obtain rfl := Option.some.inj ho6842
                 exact QW.meet (fun a ha => ⟨ha.agrees (by kernel_rfl), hst.keep [0] rfl⟩)
                ·have ho6842 := ite_f ho6842 hc6865
                 refine OW.pure 1 [(105, .pointer (some ⟨b6807, 0, none⟩))] (by kernel_rfl) ?_
                 refine OW.ld rfl rfl rfl rfl (by kernel_rfl) (hst.blk 1 rfl rfl) ?_
                 refine OW.pure 2 [(108, .bool (x6801.Kind == 0))] (by kernel_rfl) ?_
                 refine OW.split 108 rfl (fun hc6866 => ?_) (fun hc6866 => ?_)
                 ·have ho6842 := ite_t ho6842 hc6866
                  refine OW.ldN (cs := [.int .i64 x6801.Kind, .int .u64 x6801.Span.Lo, .int .u64 x6801.Span.Hi, .int .i64 x6801.Map]) rfl rfl rfl rfl (by kernel_rfl) (by kernel_rfl) (hst.blkN 1 rfl 0 4) ?_
                  refine OW.pure 1 [(110, .agg [.int .i64 0, .int .u64 0, .int .u64 0, .int .i64 0].toArray)] (by kernel_rfl) ?_
                  refine OW.op (v := .bool (!((x6801.Kind == 0) && (((x6801.Span.Lo == 0) && ((x6801.Span.Hi == 0) && true)) && ((x6801.Map == 0) && true))))) rfl rfl rfl rfl (fun a ha => sneq_run rfl rfl rfl (by kernel_rfl) (by kernel_rfl) a _ ha) ?_
                  refine OW.pure 3 [(114, .bool (!((x6801.Kind == 0) && (((x6801.Span.Lo == 0) && ((x6801.Span.Hi == 0) && true)) && ((x6801.Map == 0) && true)))))] (by kernel_rfl) ?_
                  refine OW.split 114 rfl (fun hc6867 => ?_) (fun hc6867 => ?_)
                  ·have ho6842 := ite_t ho6842 hc6867
                   refine OW.pure 9 [(123, .bool true)] (by kernel_rfl) ?_
                   refine OW.nil rfl ?_
                   obtain rfl := Option.some.inj ho6842
                   exact QW.meet (fun a ha => ⟨ha.agrees (by kernel_rfl), hst.keep [0] rfl⟩)
                  ·have ho6842 := ite_f ho6842 hc6867
                   refine OW.pure 1 [(115, .pointer (some ⟨b6807, 0, none⟩))] (by kernel_rfl) ?_
                   refine OW.ld rfl rfl rfl rfl (by kernel_rfl) (hst.blk 1 rfl rfl) ?_
                   refine OW.pure 3 [(119, .bool (decide (x6801.Kind < 0)))] (by kernel_rfl) ?_
                   refine OW.split 119 rfl (fun hc6868 => ?_) (fun hc6868 => ?_)
                   ·have ho6842 := ite_t ho6842 hc6868
                    refine OW.pure 4 [(123, .bool true)] (by kernel_rfl) ?_
                    refine OW.nil rfl ?_
                    obtain rfl := Option.some.inj ho6842
                    exact QW.meet (fun a ha => ⟨ha.agrees (by kernel_rfl), hst.keep [0] rfl⟩)
                   ·have ho6842 := ite_f ho6842 hc6868
                    refine OW.pure 1 [(120, .pointer (some ⟨b6807, 0, none⟩))] (by kernel_rfl) ?_
                    refine OW.ld rfl rfl rfl rfl (by kernel_rfl) (hst.blk 1 rfl rfl) ?_
                    refine OW.pure 2 [(123, .bool (decide (x6801.Kind > 2)))] (by kernel_rfl) ?_
                    refine OW.nil rfl ?_
                    obtain rfl := Option.some.inj ho6842
                    exact QW.meet (fun a ha => ⟨ha.agrees (by kernel_rfl), hst.keep [0] rfl⟩)
                 ·have ho6842 := ite_f ho6842 hc6866
                  refine OW.pure 7 [(114, .bool false), (115, .pointer (some ⟨b6807, 0, none⟩))] (by kernel_rfl) ?_
                  refine OW.ld rfl rfl rfl rfl (by kernel_rfl) (hst.blk 1 rfl rfl) ?_
                  refine OW.pure 3 [(119, .bool (decide (x6801.Kind < 0)))] (by kernel_rfl) ?_
                  refine OW.split 119 rfl (fun hc6869 => ?_) (fun hc6869 => ?_)
                  ·have ho6842 := ite_t ho6842 hc6869
                   refine OW.pure 4 [(123, .bool true)] (by kernel_rfl) ?_
                   refine OW.nil rfl ?_
                   obtain rfl := Option.some.inj ho6842
                   exact QW.meet (fun a ha => ⟨ha.agrees (by kernel_rfl), hst.keep [0] rfl⟩)
                  ·have ho6842 := ite_f ho6842 hc6869
                   refine OW.pure 1 [(120, .pointer (some ⟨b6807, 0, none⟩))] (by kernel_rfl) ?_
                   refine OW.ld rfl rfl rfl rfl (by kernel_rfl) (hst.blk 1 rfl rfl) ?_
                   refine OW.pure 2 [(123, .bool (decide (x6801.Kind > 2)))] (by kernel_rfl) ?_
                   refine OW.nil rfl ?_
                   obtain rfl := Option.some.inj ho6842
                   exact QW.meet (fun a ha => ⟨ha.agrees (by kernel_rfl), hst.keep [0] rfl⟩)
             ·have ho6842 := ite_f ho6842 hc6862
              refine OW.pure 21 [(104, .bool false), (105, .pointer (some ⟨b6807, 0, none⟩))] (by kernel_rfl) ?_
              refine OW.ld rfl rfl rfl rfl (by kernel_rfl) (hst.blk 1 rfl rfl) ?_
              refine OW.pure 2 [(108, .bool (x6801.Kind == 0))] (by kernel_rfl) ?_
              refine OW.split 108 rfl (fun hc6870 => ?_) (fun hc6870 => ?_)
              ·have ho6842 := ite_t ho6842 hc6870
               refine OW.ldN (cs := [.int .i64 x6801.Kind, .int .u64 x6801.Span.Lo, .int .u64 x6801.Span.Hi, .int .i64 x6801.Map]) rfl rfl rfl rfl (by kernel_rfl) (by kernel_rfl) (hst.blkN 1 rfl 0 4) ?_
               refine OW.pure 1 [(110, .agg [.int .i64 0, .int .u64 0, .int .u64 0, .int .i64 0].toArray)] (by kernel_rfl) ?_
               refine OW.op (v := .bool (!((x6801.Kind == 0) && (((x6801.Span.Lo == 0) && ((x6801.Span.Hi == 0) && true)) && ((x6801.Map == 0) && true))))) rfl rfl rfl rfl (fun a ha => sneq_run rfl rfl rfl (by kernel_rfl) (by kernel_rfl) a _ ha) ?_
               refine OW.pure 3 [(114, .bool (!((x6801.Kind == 0) && (((x6801.Span.Lo == 0) && ((x6801.Span.Hi == 0) && true)) && ((x6801.Map == 0) && true)))))] (by kernel_rfl) ?_
               refine OW.split 114 rfl (fun hc6871 => ?_) (fun hc6871 => ?_)
               ·have ho6842 := ite_t ho6842 hc6871
                refine OW.pure 9 [(123, .bool true)] (by kernel_rfl) ?_
                refine OW.nil rfl ?_
                obtain rfl := Option.some.inj ho6842
                exact QW.meet (fun a ha => ⟨ha.agrees (by kernel_rfl), hst.keep [0] rfl⟩)
               ·have ho6842 := ite_f ho6842 hc6871
                refine OW.pure 1 [(115, .pointer (some ⟨b6807, 0, none⟩))] (by kernel_rfl) ?_
                refine OW.ld rfl rfl rfl rfl (by kernel_rfl) (hst.blk 1 rfl rfl) ?_
                refine OW.pure 3 [(119, .bool (decide (x6801.Kind < 0)))] (by kernel_rfl) ?_
                refine OW.split 119 rfl (fun hc6872 => ?_) (fun hc6872 => ?_)
                ·have ho6842 := ite_t ho6842 hc6872
                 refine OW.pure 4 [(123, .bool true)] (by kernel_rfl) ?_
                 refine OW.nil rfl ?_
                 obtain rfl := Option.some.inj ho6842
                 exact QW.meet (fun a ha => ⟨ha.agrees (by kernel_rfl), hst.keep [0] rfl⟩)
                ·have ho6842 := ite_f ho6842 hc6872
                 refine OW.pure 1 [(120, .pointer (some ⟨b6807, 0, none⟩))] (by kernel_rfl) ?_
                 refine OW.ld rfl rfl rfl rfl (by kernel_rfl) (hst.blk 1 rfl rfl) ?_
                 refine OW.pure 2 [(123, .bool (decide (x6801.Kind > 2)))] (by kernel_rfl) ?_
                 refine OW.nil rfl ?_
                 obtain rfl := Option.some.inj ho6842
                 exact QW.meet (fun a ha => ⟨ha.agrees (by kernel_rfl), hst.keep [0] rfl⟩)
              ·have ho6842 := ite_f ho6842 hc6870
               refine OW.pure 7 [(114, .bool false), (115, .pointer (some ⟨b6807, 0, none⟩))] (by kernel_rfl) ?_
               refine OW.ld rfl rfl rfl rfl (by kernel_rfl) (hst.blk 1 rfl rfl) ?_
               refine OW.pure 3 [(119, .bool (decide (x6801.Kind < 0)))] (by kernel_rfl) ?_
               refine OW.split 119 rfl (fun hc6873 => ?_) (fun hc6873 => ?_)
               ·have ho6842 := ite_t ho6842 hc6873
                refine OW.pure 4 [(123, .bool true)] (by kernel_rfl) ?_
                refine OW.nil rfl ?_
                obtain rfl := Option.some.inj ho6842
                exact QW.meet (fun a ha => ⟨ha.agrees (by kernel_rfl), hst.keep [0] rfl⟩)
               ·have ho6842 := ite_f ho6842 hc6873
                refine OW.pure 1 [(120, .pointer (some ⟨b6807, 0, none⟩))] (by kernel_rfl) ?_
                refine OW.ld rfl rfl rfl rfl (by kernel_rfl) (hst.blk 1 rfl rfl) ?_
                refine OW.pure 2 [(123, .bool (decide (x6801.Kind > 2)))] (by kernel_rfl) ?_
                refine OW.nil rfl ?_
                obtain rfl := Option.some.inj ho6842
                exact QW.meet (fun a ha => ⟨ha.agrees (by kernel_rfl), hst.keep [0] rfl⟩)
           ·rintro a w1 ⟨ha, hst⟩
            refine CW.go ?_ ha
            rcases Bool.eq_false_or_eq_true (o6841) with hc6874 | hc6874
            ·have hl6759 := ite_t hl6759 hc6874
             refine CW.cond_t rfl hc6874 ?_
             refine CW.seq ?_
             refine CW.region ?_
             refine OW.pure 1 [(2, .bool false)] (by kernel_rfl) ?_
             refine OW.nil rfl ?_
             refine QW.next ?_
             refine CW.ret ?_
             refine QW.block_ret ?_
             refine QW.then_ret ?_
             refine QW.then_ret ?_
             refine QW.block_ret ?_
             refine QW.then_ret ?_
             refine QW.block_ret ?_
             refine QW.then_ret ?_
             refine QW.then_ret ?_
             refine QW.block_ret ?_
             refine QW.then_ret ?_
             have hst := hz99 _ _ hst
             obtain rfl := Option.some.inj hl6759
             obtain rfl := Option.some.inj hl6131
             obtain rfl := Option.some.inj hF
             refine QW.ret1 rfl rfl ?_
             exact ⟨rfl, hst.keep [] rfl⟩
            ·have hl6759 := ite_f hl6759 hc6874
             refine CW.cond_f rfl hc6874 ?_
             refine CW.skip ?_
             refine QW.block_normal ?_
             refine QW.next ?_
             refine CW.region ?_
             refine OW.pure 3 [(6, .int .i64 (w64 ((i6761 : Int) + 1)))] (by kernel_rfl) ?_
             refine OW.nil rfl ?_
             refine QW.say 6 rfl (congrArg (Value.int .i64) (w64_cnt hc6763 (by decide))) ?_
             exact QW.meet (fun a ha => ⟨n6758, Nat.lt_succ_self _, i6761 + 1, (), cnt_next hi6762, ha.agrees (by kernel_rfl), hst.keep [0] rfl, hl6759⟩)
          ·rcases n6758 with _ | n6758
           ·refine CW.cond_f rfl hc6763 ?_
            refine CW.exit ?_
            refine QW.then_exit ?_
            refine QW.then_exit ?_
            refine QW.block_here ?_
            obtain rfl := Option.some.inj hl6759
            exact QW.meet (fun a ha => ⟨(), rfl, ha.agrees (by kernel_rfl), hst.keep [0] rfl⟩)
           ·exact (cnt1 hi6762 hc6763).elim
         ·rintro a w1 ⟨t6533, rfl, ha, hst⟩
          refine CW.go ?_ ha
          refine CW.seq ?_
          refine CW.region ?_
          refine OW.pure 1 [(124, .pointer (some ⟨b9, 1, none⟩))] (by kernel_rfl) ?_
          refine OW.ld rfl rfl rfl rfl (by kernel_rfl) (hst.blk 0 rfl rfl) ?_
          refine OW.pure 1 [(126, .int .i64 (i6133 : Int))] (by kernel_rfl) ?_
          obtain ⟨x6884, hx6885, hl6131⟩ := bind_some' hl6131
          obtain ⟨g6887, o6888, c6889, hv6886⟩ := h0_1.formv (fun _ => ⟨_, rfl⟩) hx6885
          refine OW.idx 42 5 rfl rfl rfl rfl hv6886 rfl (idx_some hx6885).1 (idx_some hx6885).2.1 (by kernel_rfl) (by kernel_rfl) ?_
          refine OW.ldN (cs := enc_api_Inst x6884) rfl rfl rfl rfl (by kernel_rfl) (by kernel_rfl) (h0_1.cellv hst hx6885 hv6886) ?_
          refine OW.alloc hst rfl rfl rfl [.int .i64 0, .int .i64 0, .int .i64 0, .int .i64 0, .int .i64 0] (by kernel_rfl) ?_
          intro b6890 w6891 hst
          refine OW.stB hst 1 rfl rfl rfl rfl rfl (by kernel_rfl) rfl rfl [.int .i64 x6884.Op, .int .i64 x6884.D, .int .i64 x6884.A, .int .i64 x6884.B, .int .i64 x6884.Imm] rfl ?_
          intro w6892 hst
          refine OW.nil rfl ?_
          refine QW.next ?_
          refine CW.seq ?_
          refine CW.seq ?_
          refine CW.region ?_
          refine OW.pure 1 [(129, .pointer (some ⟨b6890, 0, none⟩))] (by kernel_rfl) ?_
          refine OW.ld rfl rfl rfl rfl (by kernel_rfl) (hst.blk 1 rfl rfl) ?_
          refine OW.pure 1 [(131, .bool (x6884.Op != 20))] (by kernel_rfl) ?_
          refine OW.nil rfl ?_
          refine QW.next ?_
          rcases Bool.eq_false_or_eq_true ((x6884.Op != 20)) with hc6893 | hc6893
          ·have hl6131 := ite_t hl6131 hc6893
           refine CW.cond_t rfl hc6893 ?_
           refine CW.exit ?_
           refine QW.then_exit ?_
           refine QW.block_here ?_
           refine QW.next ?_
           refine CW.region ?_
           refine OW.pure 3 [(5, .int .i64 (w64 ((i6133 : Int) + 1)))] (by kernel_rfl) ?_
           refine OW.nil rfl ?_
           refine QW.say 5 rfl (congrArg (Value.int .i64) (w64_cnt hc6135 l93)) ?_
           exact QW.meet (fun a ha => ⟨n6130, Nat.lt_succ_self _, i6133 + 1, (), cnt_next hi6134, ha.agrees (by kernel_rfl), hst.keep [0] rfl, hl6131⟩)
          ·have hl6131 := ite_f hl6131 hc6893
           refine CW.cond_f rfl hc6893 ?_
           refine CW.skip ?_
           refine QW.next ?_
           refine CW.seq ?_
           refine CW.region ?_
           refine OW.pure 3 [(132, .slice a94 (r88.1).length c95), (133, .int .i64 (i6133 : Int)), (134, .pointer (some ⟨b6890, 1, none⟩))] (by kernel_rfl) ?_
           refine OW.ld rfl rfl rfl rfl (by kernel_rfl) (hst.blk 1 rfl rfl) ?_
           refine OW.pure 1 [(136, .int .i64 (w64 ((i6133 : Int) - x6884.D)))] (by kernel_rfl) ?_
           obtain ⟨x6908, hx6909, hl6131⟩ := bind_some' hl6131
           obtain ⟨g6911, o6912, c6913, cs6914, hv6910, hd6915, hl6916⟩ := hfr100.formv hx6909
           obtain ⟨v6917, rfl, h6918⟩ := hd6915
           have h6918 : Rd _ _ _ _ _ x6908 := h6918
           obtain ⟨l6919, a6920, c6921, rfl⟩ := h6918.len
           refine OW.idx 32 1 rfl rfl rfl rfl hv6910 rfl (idx_some hx6909).1 (idx_some hx6909).2.1 (by kernel_rfl) (by kernel_rfl) ?_
           refine OW.ld rfl rfl rfl rfl (by kernel_rfl) (hl6916 0 _ rfl _ _ hst) ?_
           refine OW.pure 1 [(9, .slice a6920 (x6908).length c6921)] (by kernel_rfl) ?_
           refine OW.nil rfl ?_
           refine QW.next ?_
           refine CW.seq ?_
           refine CW.seq ?_
           refine CW.region ?_
           refine OW.pure 3 [(141, .bool (((x6908).length : Int) == 0))] (by kernel_rfl) ?_
           refine OW.nil rfl ?_
           refine QW.next ?_
           rcases Bool.eq_false_or_eq_true ((((x6908).length : Int) == 0)) with hc6922 | hc6922
           ·have hl6131 := ite_t hl6131 hc6922
            refine CW.cond_t rfl hc6922 ?_
            refine CW.seq ?_
            refine CW.region ?_
            refine OW.pure 1 [(2, .bool false)] (by kernel_rfl) ?_
            refine OW.nil rfl ?_
            refine QW.next ?_
            refine CW.ret ?_
            refine QW.then_ret ?_
            refine QW.block_ret ?_
            refine QW.then_ret ?_
            refine QW.then_ret ?_
            refine QW.block_ret ?_
            refine QW.then_ret ?_
            have hst := hz99 _ _ hst
            obtain rfl := Option.some.inj hl6131
            obtain rfl := Option.some.inj hF
            refine QW.ret1 rfl rfl ?_
            exact ⟨rfl, hst.keep [] rfl⟩
           ·have hl6131 := ite_f hl6131 hc6922
            refine CW.cond_f rfl hc6922 ?_
            refine CW.skip ?_
            refine QW.next ?_
            refine CW.seq ?_
            refine CW.region ?_
            refine OW.pure 1 [(10, .int .i64 0)] (by kernel_rfl) ?_
            refine OW.nil rfl ?_
            refine QW.next ?_
            obtain ⟨o7126, ho7127, hl6131⟩ := bind_some' hl6131
            refine CW.cutQ (fun a w1 => ∃ (t7128 : Unit), o7126 = .inl t7128 ∧ Rep 159 [(1, .pointer (some ⟨b9, 0, none⟩)), (3, .slice a94 (r88.1).length c95), (5, .int .i64 (i6133 : Int))] a ∧ St wz96 Sz97 w1 [blkI b9 25 [.slice a2 (p0.Maps).length c3, .slice a5 (p0.Code).length c6]]) ?_ ?_
            ·refine CW.block ?_
             refine CW.loop (fun n a w1 => ∃ (i7264 : Nat) (s7263 : Unit), i7264 + n = 8 ∧ Rep 159 [(1, .pointer (some ⟨b9, 0, none⟩)), (3, .slice a94 (r88.1).length c95), (5, .int .i64 (i6133 : Int)), (9, .slice a6920 (x6908).length c6921), (10, .int .i64 (i7264 : Int))] a ∧ St wz96 Sz97 w1 [blkI b9 25 [.slice a2 (p0.Maps).length c3, .slice a5 (p0.Code).length c6]] ∧ forN (tappetlaw09_JudgeLoops_l3 r88 i6133 x6908) (fun (s7263 : Unit) => (.inl ())) n i7264 s7263 = some o7126) 8 (fun a ha => ⟨0, (), Nat.zero_add _, ha.agrees (by kernel_rfl), hst.keep [0] rfl, ho7127⟩) ?_
             rintro n7261 a w1 ⟨i7264, s7263, hi7265, ha, hst, hl7262⟩
             refine CW.go ?_ ha
             refine CW.seq ?_
             refine CW.seq ?_
             refine CW.region ?_
             refine OW.pure 2 [(143, .bool (decide ((i7264 : Int) < 8)))] (by kernel_rfl) ?_
             refine OW.nil rfl ?_
             refine QW.next ?_
             rcases Bool.eq_false_or_eq_true (decide ((i7264 : Int) < 8)) with hc7266 | hc7266
             ·rcases n7261 with _ | n7261
              ·exact (cnt0 hi7265 hc7266).elim
              refine CW.cond_t rfl hc7266 ?_
              refine CW.skip ?_
              refine QW.next ?_
              refine CW.seq ?_
              refine CW.block ?_
              refine CW.seq ?_
              refine CW.tail 11 (by kernel_rfl) (by kernel_rfl) ?_
              intro w7299 hch7300
              have hst := hst.same hch7300
              refine OS.pure 2 [(146, .slice a94 (r88.1).length c95), (147, .int .i64 (i6133 : Int))] rfl (by kernel_rfl) ?_
              obtain ⟨x7301, hx7302, hl7262⟩ := bind_some' hl7262
              obtain ⟨g7304, o7305, c7306, cs7307, hv7303, hd7308, hl7309⟩ := hfr100.formv hx7302
              obtain ⟨v7310, rfl, h7311⟩ := hd7308
              have h7311 : Rd _ _ _ _ _ x7301 := h7311
              obtain ⟨l7312, a7313, c7314, rfl⟩ := h7311.len
              refine OS.idx 32 1 rfl rfl rfl rfl rfl hv7303 rfl (idx_some hx7302).1 (idx_some hx7302).2.1 (by kernel_rfl) (by kernel_rfl) ?_
              refine OS.ld rfl rfl rfl rfl rfl (by kernel_rfl) (hl7309 0 _ rfl _ _ hst) ?_
              refine OS.pure 1 [(150, .int .i64 (i7264 : Int))] rfl (by kernel_rfl) ?_
              obtain ⟨x7315, hx7316, hl7262⟩ := bind_some' hl7262
              obtain ⟨g7318, o7319, c7320, hv7317⟩ := h7311.formv (fun _ => ⟨_, rfl⟩) hx7316
              refine OS.idx 38 4 rfl rfl rfl rfl rfl hv7317 rfl (idx_some hx7316).1 (idx_some hx7316).2.1 (by kernel_rfl) (by kernel_rfl) ?_
              refine OS.ldN (cs := enc_api_Type x7315) rfl rfl rfl rfl rfl (by kernel_rfl) (by kernel_rfl) (h7311.cellv hst hx7316 hv7317) ?_
              refine OS.pure 2 [(153, .slice a6920 (x6908).length c6921), (154, .int .i64 (i7264 : Int))] rfl (by kernel_rfl) ?_
              obtain ⟨x7321, hx7322, hl7262⟩ := bind_some' hl7262
              obtain ⟨g7324, o7325, c7326, hv7323⟩ := h6918.formv (fun _ => ⟨_, rfl⟩) hx7322
              refine OS.idx 38 4 rfl rfl rfl rfl rfl hv7323 rfl (idx_some hx7322).1 (idx_some hx7322).2.1 (by kernel_rfl) (by kernel_rfl) ?_
              refine OS.ldN (cs := enc_api_Type x7321) rfl rfl rfl rfl rfl (by kernel_rfl) (by kernel_rfl) (h6918.cellv hst hx7322 hv7323) ?_
              refine OS.on ?_
              obtain ⟨r7327, hr7328, hl7262⟩ := bind_some' hl7262
              refine OW.fn rfl rfl rfl rfl (by kernel_rfl) (tappetlaw09_fits_ok _ x7315 x7321 r7327 hr7328 (hst.part [] rfl)) ?_
              rintro e w7329 ⟨rfl, hst7330⟩
              refine ⟨_, rfl, ?_⟩
              have hst := hst.join (idx := []) (rest := [0]) rfl hst7330
              refine OW.pure 1 [(158, .bool (!r7327))] (by kernel_rfl) ?_
              refine OW.nil rfl ?_
              refine QW.next ?_
              rcases Bool.eq_false_or_eq_true ((!r7327)) with hc7331 | hc7331
              ·have hl7262 := ite_t hl7262 hc7331
               refine CW.cond_t rfl hc7331 ?_
               refine CW.seq ?_
               refine CW.region ?_
               refine OW.pure 1 [(2, .bool false)] (by kernel_rfl) ?_
               refine OW.nil rfl ?_
               refine QW.next ?_
               refine CW.ret ?_
               refine QW.block_ret ?_
               refine QW.then_ret ?_
               refine QW.then_ret ?_
               refine QW.block_ret ?_
               refine QW.then_ret ?_
               refine QW.block_ret ?_
               refine QW.then_ret ?_
               refine QW.then_ret ?_
               refine QW.block_ret ?_
               refine QW.then_ret ?_
               have hst := hz99 _ _ hst
               obtain rfl := Option.some.inj hl7262
               obtain rfl := Option.some.inj hl6131
               obtain rfl := Option.some.inj hF
               refine QW.ret1 rfl rfl ?_
               exact ⟨rfl, hst.keep [] rfl⟩
              ·have hl7262 := ite_f hl7262 hc7331
               refine CW.cond_f rfl hc7331 ?_
               refine CW.skip ?_
               refine QW.block_normal ?_
               refine QW.next ?_
               refine CW.region ?_
               refine OW.pure 3 [(10, .int .i64 (w64 ((i7264 : Int) + 1)))] (by kernel_rfl) ?_
               refine OW.nil rfl ?_
               refine QW.say 10 rfl (congrArg (Value.int .i64) (w64_cnt hc7266 (by decide))) ?_
               exact QW.meet (fun a ha => ⟨n7261, Nat.lt_succ_self _, i7264 + 1, (), cnt_next hi7265, ha.agrees (by kernel_rfl), hst.keep [0] rfl, hl7262⟩)
             ·rcases n7261 with _ | n7261
              ·refine CW.cond_f rfl hc7266 ?_
               refine CW.exit ?_
               refine QW.then_exit ?_
               refine QW.then_exit ?_
               refine QW.block_here ?_
               obtain rfl := Option.some.inj hl7262
               exact QW.meet (fun a ha => ⟨(), rfl, ha.agrees (by kernel_rfl), hst.keep [0] rfl⟩)
              ·exact (cnt1 hi7265 hc7266).elim
            ·rintro a w1 ⟨t7128, rfl, ha, hst⟩
             refine QW.go ?_ ha
             refine QW.block_normal ?_
             refine QW.next ?_
             refine CW.region ?_
             refine OW.pure 3 [(5, .int .i64 (w64 ((i6133 : Int) + 1)))] (by kernel_rfl) ?_
             refine OW.nil rfl ?_
             refine QW.say 5 rfl (congrArg (Value.int .i64) (w64_cnt hc6135 l93)) ?_
             exact QW.meet (fun a ha => ⟨n6130, Nat.lt_succ_self _, i6133 + 1, (), cnt_next hi6134, ha.agrees (by kernel_rfl), hst.keep [0] rfl, hl6131⟩)
      ·rcases n6130 with _ | n6130
       ·refine CW.cond_f rfl hc6135 ?_
        refine CW.exit ?_
        refine QW.then_exit ?_
        refine QW.then_exit ?_
        refine QW.block_here ?_
        obtain rfl := Option.some.inj hl6131
        exact QW.meet (fun a ha => ⟨(), rfl, ha.agrees (by kernel_rfl), hst.keep [] rfl⟩)
       ·exact (cnt1 hi6134 hc6135).elim
     ·rintro a w1 ⟨t3734, rfl, ha, hst⟩
      refine CW.go ?_ ha
      refine CW.seq ?_
      refine CW.region ?_
      refine OW.pure 1 [(2, .bool true)] (by kernel_rfl) ?_
      refine OW.nil rfl ?_
      refine QW.next ?_
      refine CW.ret ?_
      have hst := hz99 _ _ hst
      obtain rfl := Option.some.inj hF
      refine QW.ret1 rfl rfl ?_
      exact ⟨rfl, hst.keep [] rfl⟩

set_option maxRecDepth 10000 in
set_option maxHeartbeats 4000000 in
theorem tappetlaw09_JudgeAgain_ok (w : World) (fu : Nat) (v0_0 : Value) (v0_1 : Value) (p0 : api_Module) (p1 : Int) (r : Bool) (hF : tappetlaw09_JudgeAgain fu p0 p1 = some r)
    (hst : St w (fp []) w []) (h0_0 : Rd w (fp []) v0_0 (encInt .i64) 1 p0.Maps) (h0_1 : Rd w (fp []) v0_1 enc_api_Inst 5 p0.Code) (hT0 : Rd w (fp []) (.slice (some ⟨0, 0, none⟩) 23 23) enc_ops_form 2 tab_g0) (hT1 : Rd w (fp []) (.slice (some ⟨1, 0, none⟩) 7 7) enc_sigs_sig 5 tab_g1) :
    Calls Tryd.prog 4 [.agg [v0_0, v0_1].toArray, .int .i64 p1].toArray w (fun e w' => e = .returned (.bool r) ∧ St w (fp []) w' []) := by
 refine CW.start (N := 210) Tryd.func4 rfl rfl rfl ?_
 obtain ⟨l1, a2, c3, rfl⟩ := h0_0.len
 obtain ⟨l4, a5, c6, rfl⟩ := h0_1.len
 refine CW.seq ?_
 refine CW.region ?_
 refine OW.box hst rfl rfl rfl rfl [.slice a2 (p0.Maps).length c3, .slice a5 (p0.Code).length c6] rfl ?_
 intro b9 w10 hst
 refine OW.pure 1 [] (by kernel_rfl) ?_
 refine OW.nil rfl ?_
 refine QW.next ?_
 refine CW.seq ?_
 refine CW.seq ?_
 refine CW.region ?_
 obtain ⟨r15, hr16, hF⟩ := bind_some' hF
 refine OW.fn rfl rfl rfl rfl (by kernel_rfl) (tappetlaw09_awake_ok _ fu r15 hr16 (hst.part [] rfl) (hT0.give hst []) (hT1.give hst [])) ?_
 rintro e w17 ⟨rfl, hst18⟩
 refine ⟨_, rfl, ?_⟩
 have hst := hst.join (idx := []) (rest := [0]) rfl hst18
 refine OW.pure 1 [(21, .bool (!r15))] (by kernel_rfl) ?_
 refine OW.nil rfl ?_
 refine QW.next ?_
 rcases Bool.eq_false_or_eq_true ((!r15)) with hc19 | hc19
 ·have hF := ite_t hF hc19
  refine CW.cond_t rfl hc19 ?_
  refine CW.seq ?_
  refine CW.region ?_
  refine OW.pure 1 [(4, .bool false)] (by kernel_rfl) ?_
  refine OW.nil rfl ?_
  refine QW.next ?_
  refine CW.ret ?_
  refine QW.then_ret ?_
  obtain rfl := Option.some.inj hF
  refine QW.ret1 rfl rfl ?_
  exact ⟨rfl, hst.keep [] rfl⟩
 ·have hF := ite_f hF hc19
  refine CW.cond_f rfl hc19 ?_
  refine CW.skip ?_
  refine QW.next ?_
  refine CW.seq ?_
  refine CW.region ?_
  refine OW.ldN (cs := [.slice a2 (p0.Maps).length c3, .slice a5 (p0.Code).length c6]) rfl rfl rfl rfl (by kernel_rfl) (by kernel_rfl) (hst.blkN 0 rfl 0 2) ?_
  obtain ⟨r54, hr55, hF⟩ := bind_some' hF
  refine OW.fn rfl rfl rfl rfl (by kernel_rfl) (tappetlaw09_copied_ok _ (.slice a2 (p0.Maps).length c3) (.slice a5 (p0.Code).length c6) p0 r54 hr55 (hst.part [] rfl) (h0_0.give hst []) (h0_1.give hst [])) ?_
  rintro e w56 ⟨v58, v59, rfl, hst57⟩
  refine ⟨_, rfl, ?_⟩
  have hst := hst.join (idx := []) (rest := [0]) rfl hst57
  obtain ⟨l78, a79, c80, rfl⟩ := hst.len 0 rfl
  obtain ⟨l81, a82, c83, rfl⟩ := hst.len 1 rfl
  obtain ⟨r84, hr85, hF⟩ := bind_some' hF
  refine OW.fn rfl rfl rfl rfl (by kernel_rfl) (judge_Judge_ok _ _ _ fu (.slice a79 (r54.Maps).length c80) (.slice a82 (r54.Code).length c83) r54 r84 hr85 (hst.part [] rfl) (Bor.refl _ _) (hst.rd 0 rfl (fun _ => rfl) [] rfl (hst.len 0 rfl).1) (hst.rd 1 rfl (fun _ => rfl) [] rfl (hst.len 1 rfl).1) (hT0.give hst []) (hT1.give hst [])) ?_
  rintro e w86 ⟨rfl, hst87⟩
  refine ⟨_, rfl, ?_⟩
  have hst := hst.join (idx := []) (rest := [0, 1, 2]) rfl hst87
  refine OW.pure 5 [(5, .int .i64 r84.1), (6, .int .i64 r84.2)] (by kernel_rfl) ?_
  refine OW.nil rfl ?_
  refine QW.next ?_
  refine CW.seq ?_
  refine CW.seq ?_
  refine CW.region ?_
  refine OW.pure 2 [(29, .bool (r84.2 != 0))] (by kernel_rfl) ?_
  refine OW.nil rfl ?_
  refine QW.next ?_
  rcases Bool.eq_false_or_eq_true ((r84.2 != 0)) with hc88 | hc88
  ·have hF := ite_t hF hc88
   refine CW.cond_t rfl hc88 ?_
   refine CW.seq ?_
   refine CW.cutK (fun a w1 => Rep 210 [(4, .bool (decide (r84.1 ≥ 0) && ((r84.1 == 0) || decide (r84.1 < ((p0.Code).length : Int)))))] a ∧ St w (fp []) w1 []) ?_ ?_
   ·refine CW.region ?_
    refine OW.pure 3 [(32, .bool (decide (r84.1 ≥ 0)))] (by kernel_rfl) ?_
    refine OW.split 32 rfl (fun hc89 => ?_) (fun hc89 => ?_)
    ·refine OW.pure 3 [(35, .bool (r84.1 == 0))] (by kernel_rfl) ?_
     refine OW.split 35 rfl (fun hc90 => ?_) (fun hc90 => ?_)
     ·refine OW.pure 8 [(4, .bool true)] (by kernel_rfl) ?_
      refine OW.nil rfl ?_
      refine QW.say 4 (v := .bool (decide (r84.1 ≥ 0) && ((r84.1 == 0) || decide (r84.1 < ((p0.Code).length : Int))))) rfl (by first | (rw [hc89, hc90]; done) | (rw [hc89, hc90]; rfl) | simp [hc89, hc90]) ?_
      exact QW.meet (fun a ha => ⟨ha.agrees (by kernel_rfl), hst.keep [] rfl⟩)
     ·refine OW.pure 2 [(36, .int .i64 r84.1), (37, .pointer (some ⟨b9, 1, none⟩))] (by kernel_rfl) ?_
      refine OW.ld rfl rfl rfl rfl (by kernel_rfl) (hst.blk 2 rfl rfl) ?_
      refine OW.pure 5 [(4, .bool (decide (r84.1 < ((p0.Code).length : Int))))] (by kernel_rfl) ?_
      refine OW.nil rfl ?_
      refine QW.say 4 (v := .bool (decide (r84.1 ≥ 0) && ((r84.1 == 0) || decide (r84.1 < ((p0.Code).length : Int))))) rfl (by first | (rw [hc89, hc90]; done) | (rw [hc89, hc90]; rfl) | simp [hc89, hc90]) ?_
      exact QW.meet (fun a ha => ⟨ha.agrees (by kernel_rfl), hst.keep [] rfl⟩)
    ·refine OW.pure 11 [(4, .bool false)] (by kernel_rfl) ?_
     refine OW.nil rfl ?_
     refine QW.say 4 (v := .bool (decide (r84.1 ≥ 0) && ((r84.1 == 0) || decide (r84.1 < ((p0.Code).length : Int))))) rfl (by first | (rw [hc89]; done) | (rw [hc89]; rfl) | simp [hc89]) ?_
     exact QW.meet (fun a ha => ⟨ha.agrees (by kernel_rfl), hst.keep [] rfl⟩)
   ·rintro a w1 ⟨ha, hst⟩
    refine CW.go ?_ ha
    refine CW.ret ?_
    refine QW.then_ret ?_
    obtain rfl := Option.some.inj hF
    refine QW.ret1 rfl rfl ?_
    exact ⟨rfl, hst.keep [] rfl⟩
  ·have hF := ite_f hF hc88
   refine CW.cond_f rfl hc88 ?_
   refine CW.skip ?_
   refine QW.next ?_
   refine CW.seq ?_
   refine CW.region ?_
   refine OW.ldN (cs := [.slice a2 (p0.Maps).length c3, .slice a5 (p0.Code).length c6]) rfl rfl rfl rfl (by kernel_rfl) (by kernel_rfl) (hst.blkN 2 rfl 0 2) ?_
   obtain ⟨r129, hr130, hF⟩ := bind_some' hF
   refine OW.fn rfl rfl rfl rfl (by kernel_rfl) (tappetlaw09_copied_ok _ (.slice a2 (p0.Maps).length c3) (.slice a5 (p0.Code).length c6) p0 r129 hr130 (hst.part [] rfl) (h0_0.give hst []) (h0_1.give hst [])) ?_
   rintro e w131 ⟨v133, v134, rfl, hst132⟩
   refine ⟨_, rfl, ?_⟩
   have hst := hst.join (idx := []) (rest := [0, 1, 2]) rfl hst132
   obtain ⟨l153, a154, c155, rfl⟩ := hst.len 0 rfl
   obtain ⟨l156, a157, c158, rfl⟩ := hst.len 1 rfl
   obtain ⟨r159, hr160, hF⟩ := bind_some' hF
   refine OW.fn rfl rfl rfl rfl (by kernel_rfl) (judge_Types_ok _ _ _ fu (.slice a154 (r129.Maps).length c155) (.slice a157 (r129.Code).length c158) r129 r159 hr160 (hst.part [] rfl) (Bor.refl _ _) (hst.rd 0 rfl (fun _ => rfl) [] rfl (hst.len 0 rfl).1) (hst.rd 1 rfl (fun _ => rfl) [] rfl (hst.len 1 rfl).1) (hT0.give hst []) (hT1.give hst [])) ?_
   rintro e w161 ⟨v163, Sv163, rfl, hst162⟩
   refine ⟨_, rfl, ?_⟩
   have hst := hst.join (idx := []) (rest := [0, 1, 2, 3, 4]) rfl hst162
   obtain ⟨l164, a165, c166, rfl⟩ := hst.nlen 0 rfl
   refine OW.pure 5 [(7, .slice a165 (r159.1).length c166)] (by kernel_rfl) ?_
   refine OW.nil rfl ?_
   refine QW.next ?_
   refine CW.seq ?_
   refine CW.region ?_
   refine OW.ldN (cs := [.slice a2 (p0.Maps).length c3, .slice a5 (p0.Code).length c6]) rfl rfl rfl rfl (by kernel_rfl) (by kernel_rfl) (hst.blkN 5 rfl 0 2) ?_
   obtain ⟨r200, hr201, hF⟩ := bind_some' hF
   refine OW.fn rfl rfl rfl rfl (by kernel_rfl) (tappetlaw09_copied_ok _ (.slice a2 (p0.Maps).length c3) (.slice a5 (p0.Code).length c6) p0 r200 hr201 (hst.part [] rfl) (h0_0.give hst []) (h0_1.give hst [])) ?_
   rintro e w202 ⟨v204, v205, rfl, hst203⟩
   refine ⟨_, rfl, ?_⟩
   have hst := hst.join (idx := []) (rest := [0, 1, 2, 3, 4, 5]) rfl hst203
   obtain ⟨l224, a225, c226, rfl⟩ := hst.len 0 rfl
   obtain ⟨l227, a228, c229, rfl⟩ := hst.len 1 rfl
   refine OW.alloc hst rfl rfl rfl [.slice none 0 0, .slice none 0 0] (by kernel_rfl) ?_
   intro b230 w231 hst
   refine OW.stB hst 8 rfl rfl rfl rfl rfl (by kernel_rfl) rfl rfl [.slice a225 (r200.Maps).length c226, .slice a228 (r200.Code).length c229] rfl ?_
   intro w232 hst
   refine OW.nil rfl ?_
   refine QW.next ?_
   refine CW.seq ?_
   refine CW.seq ?_
   refine CW.region ?_
   refine OW.pure 1 [(10, .int .i64 0)] (by kernel_rfl) ?_
   refine OW.nil rfl ?_
   refine QW.next ?_
   obtain ⟨o536, ho537, hF⟩ := bind_some' hF
   refine CW.cutK (fun a w1 => ∃ (v535 : Value), Rep 210 [(1, .int .i64 p1), (2, .pointer (some ⟨b9, 0, none⟩)), (7, .slice a165 (r159.1).length c166), (9, .pointer (some ⟨b230, 0, none⟩))] a ∧ St w (fp []) w1 [blkI b9 25 [.slice a2 (p0.Maps).length c3, .slice a5 (p0.Code).length c6], nI 32 R_t32 (.slice a165 (r159.1).length c166) Sv163 r159.1 none, blkI b230 25 [v535, .slice a228 (r200.Code).length c229], rowI v535 3 (encInt .i64) 1 o536, rowI (.slice a228 (r200.Code).length c229) 42 enc_api_Inst 5 r200.Code]) ?_ ?_
   ·refine CW.block ?_
    refine CW.loop (fun n a w1 => ∃ (i739 : Nat) (s737 : (List Int)) (v738 : Value), i739 + n = 4 ∧ Rep 210 [(1, .int .i64 p1), (2, .pointer (some ⟨b9, 0, none⟩)), (7, .slice a165 (r159.1).length c166), (9, .pointer (some ⟨b230, 0, none⟩)), (10, .int .i64 (i739 : Int))] a ∧ St w (fp []) w1 [blkI b9 25 [.slice a2 (p0.Maps).length c3, .slice a5 (p0.Code).length c6], nI 32 R_t32 (.slice a165 (r159.1).length c166) Sv163 r159.1 none, blkI b230 25 [v738, .slice a228 (r200.Code).length c229], rowI v738 3 (encInt .i64) 1 s737, rowI (.slice a228 (r200.Code).length c229) 42 enc_api_Inst 5 r200.Code] ∧ forN tappetlaw09_JudgeAgain_l1 (fun (s737 : (List Int)) => s737) n i739 s737 = some o536) 4 (fun a ha => ⟨0, r200.Maps, (.slice a225 (r200.Maps).length c226), Nat.zero_add _, ha.agrees (by kernel_rfl), hst.keep [7, 2, 8, 0, 1] rfl, ho537⟩) ?_
    rintro n735 a w1 ⟨i739, s737, v738, hi740, ha, hst, hl736⟩
    refine CW.go ?_ ha
    obtain ⟨l741, a742, c743, rfl⟩ := hst.len 3 rfl
    refine CW.seq ?_
    refine CW.seq ?_
    refine CW.region ?_
    refine OW.pure 2 [(52, .bool (decide ((i739 : Int) < 4)))] (by kernel_rfl) ?_
    refine OW.nil rfl ?_
    refine QW.next ?_
    rcases Bool.eq_false_or_eq_true (decide ((i739 : Int) < 4)) with hc744 | hc744
    ·rcases n735 with _ | n735
     ·exact (cnt0 hi740 hc744).elim
     refine CW.cond_t rfl hc744 ?_
     refine CW.skip ?_
     refine QW.next ?_
     refine CW.seq ?_
     refine CW.block ?_
     refine CW.seq ?_
     refine CW.region ?_
     refine OW.pure 1 [(11, .bool false)] (by kernel_rfl) ?_
     refine OW.nil rfl ?_
     refine QW.next ?_
     refine CW.seq ?_
     refine CW.seq ?_
     refine CW.region ?_
     refine OW.pure 1 [(12, .int .i64 0)] (by kernel_rfl) ?_
     refine OW.nil rfl ?_
     refine QW.next ?_
     obtain ⟨o780, ho781, hl736⟩ := bind_some' hl736
     refine CW.cutK (fun a w1 => Rep 210 [(1, .int .i64 p1), (2, .pointer (some ⟨b9, 0, none⟩)), (7, .slice a165 (r159.1).length c166), (9, .pointer (some ⟨b230, 0, none⟩)), (10, .int .i64 (i739 : Int)), (11, .bool o780)] a ∧ St w (fp []) w1 [blkI b9 25 [.slice a2 (p0.Maps).length c3, .slice a5 (p0.Code).length c6], nI 32 R_t32 (.slice a165 (r159.1).length c166) Sv163 r159.1 none, blkI b230 25 [.slice a742 (s737).length c743, .slice a228 (r200.Code).length c229], rowI (.slice a742 (s737).length c743) 3 (encInt .i64) 1 s737, rowI (.slice a228 (r200.Code).length c229) 42 enc_api_Inst 5 r200.Code]) ?_ ?_
     ·refine CW.block ?_
      refine CW.loop (fun n a w1 => ∃ (i807 : Nat) (s806 : Bool), i807 + n = (s737).length ∧ Rep 210 [(1, .int .i64 p1), (2, .pointer (some ⟨b9, 0, none⟩)), (7, .slice a165 (r159.1).length c166), (9, .pointer (some ⟨b230, 0, none⟩)), (10, .int .i64 (i739 : Int)), (11, .bool s806), (12, .int .i64 (i807 : Int))] a ∧ St w (fp []) w1 [blkI b9 25 [.slice a2 (p0.Maps).length c3, .slice a5 (p0.Code).length c6], nI 32 R_t32 (.slice a165 (r159.1).length c166) Sv163 r159.1 none, blkI b230 25 [.slice a742 (s737).length c743, .slice a228 (r200.Code).length c229], rowI (.slice a742 (s737).length c743) 3 (encInt .i64) 1 s737, rowI (.slice a228 (r200.Code).length c229) 42 enc_api_Inst 5 r200.Code] ∧ forN (tappetlaw09_JudgeAgain_l2 i739 s737) (fun (s806 : Bool) => s806) n i807 s806 = some o780) (s737).length (fun a ha => ⟨0, false, Nat.zero_add _, ha.agrees (by kernel_rfl), hst.keep [0, 1, 2, 3, 4] rfl, ho781⟩) ?_
      rintro n804 a w1 ⟨i807, s806, hi808, ha, hst, hl805⟩
      refine CW.go ?_ ha
      refine CW.seq ?_
      refine CW.seq ?_
      refine CW.region ?_
      refine OW.pure 2 [(55, .int .i64 (i807 : Int)), (56, .pointer (some ⟨b230, 0, none⟩))] (by kernel_rfl) ?_
      refine OW.ld rfl rfl rfl rfl (by kernel_rfl) (hst.blk 2 rfl rfl) ?_
      refine OW.pure 2 [(59, .bool (decide ((i807 : Int) < ((s737).length : Int))))] (by kernel_rfl) ?_
      refine OW.nil rfl ?_
      refine QW.next ?_
      rcases Bool.eq_false_or_eq_true (decide ((i807 : Int) < ((s737).length : Int))) with hc809 | hc809
      ·rcases n804 with _ | n804
       ·exact (cnt0 hi808 hc809).elim
       refine CW.cond_t rfl hc809 ?_
       refine CW.skip ?_
       refine QW.next ?_
       refine CW.seq ?_
       refine CW.block ?_
       refine CW.region ?_
       refine OW.pure 2 [(63, .bool s806)] (by kernel_rfl) ?_
       refine OW.split 63 rfl (fun hc810 => ?_) (fun hc810 => ?_)
       ·have hl805 := ite_t hl805 hc810
        refine OW.pure 9 [(11, .bool true)] (by kernel_rfl) ?_
        refine OW.nil rfl ?_
        refine QW.block_normal ?_
        refine QW.next ?_
        refine CW.region ?_
        refine OW.pure 3 [(12, .int .i64 (w64 ((i807 : Int) + 1)))] (by kernel_rfl) ?_
        refine OW.nil rfl ?_
        refine QW.say 12 rfl (congrArg (Value.int .i64) (w64_cnt hc809 l741)) ?_
        exact QW.meet (fun a ha => ⟨n804, Nat.lt_succ_self _, i807 + 1, true, cnt_next hi808, ha.agrees (by kernel_rfl), hst.keep [0, 1, 2, 3, 4] rfl, hl805⟩)
       ·have hl805 := ite_f hl805 hc810
        refine OW.pure 1 [(64, .pointer (some ⟨b230, 0, none⟩))] (by kernel_rfl) ?_
        refine OW.ld rfl rfl rfl rfl (by kernel_rfl) (hst.blk 2 rfl rfl) ?_
        refine OW.pure 1 [(66, .int .i64 (i807 : Int))] (by kernel_rfl) ?_
        obtain ⟨x811, hx812, hl805⟩ := bind_some' hl805
        obtain ⟨g814, o815, c816, hv813⟩ := hst.rowv 3 rfl hx812
        refine OW.idx 3 1 rfl rfl rfl rfl hv813 rfl (idx_some hx812).1 (idx_some hx812).2.1 (by kernel_rfl) (by kernel_rfl) ?_
        refine OW.ld rfl rfl rfl rfl (by kernel_rfl) (hst.rowc 3 rfl (fun _ => rfl) hx812 hv813 0 _ rfl) ?_
        refine OW.pure 4 [(11, .bool (x811 == (i739 : Int)))] (by kernel_rfl) ?_
        refine OW.nil rfl ?_
        refine QW.block_normal ?_
        refine QW.next ?_
        refine CW.region ?_
        refine OW.pure 3 [(12, .int .i64 (w64 ((i807 : Int) + 1)))] (by kernel_rfl) ?_
        refine OW.nil rfl ?_
        refine QW.say 12 rfl (congrArg (Value.int .i64) (w64_cnt hc809 l741)) ?_
        exact QW.meet (fun a ha => ⟨n804, Nat.lt_succ_self _, i807 + 1, (x811 == (i739 : Int)), cnt_next hi808, ha.agrees (by kernel_rfl), hst.keep [0, 1, 2, 3, 4] rfl, hl805⟩)
      ·rcases n804 with _ | n804
       ·refine CW.cond_f rfl hc809 ?_
        refine CW.exit ?_
        refine QW.then_exit ?_
        refine QW.then_exit ?_
        refine QW.block_here ?_
        obtain rfl := Option.some.inj hl805
        exact QW.meet (fun a ha => ⟨ha.agrees (by kernel_rfl), hst.keep [0, 1, 2, 3, 4] rfl⟩)
       ·exact (cnt1 hi808 hc809).elim
     ·rintro a w1 ⟨ha, hst⟩
      refine CW.go ?_ ha
      refine CW.seq ?_
      refine CW.region ?_
      refine OW.pure 2 [(73, .bool (!o780))] (by kernel_rfl) ?_
      refine OW.nil rfl ?_
      refine QW.next ?_
      rcases Bool.eq_false_or_eq_true ((!o780)) with hc817 | hc817
      ·have hl736 := ite_t hl736 hc817
       refine CW.cond_t rfl hc817 ?_
       refine CW.region ?_
       refine OW.pure 1 [(74, .pointer (some ⟨b230, 0, none⟩))] (by kernel_rfl) ?_
       refine OW.ld rfl rfl rfl rfl (by kernel_rfl) (hst.blk 2 rfl rfl) ?_
       refine OW.pure 1 [(76, .int .i64 (i739 : Int))] (by kernel_rfl) ?_
       refine OW.row (α := Int) (e := 3) (enc := encInt .i64) (sz := 1) hst rfl rfl rfl [(i739 : Int)] rfl (fun _ => rfl) rfl rfl (fun _ => by kernel_rfl) ?_
       intro g828 w829 hst
       obtain ⟨u830, hr831, hl736⟩ := bind_some' hl736
       refine OW.app hst 3 rfl (fun _ => rfl) (fun _ => rfl) rfl rfl rfl rfl rfl rfl (by kernel_rfl) el3 (hst.rd 5 rfl (fun _ => rfl) [] rfl (hst.len 5 rfl).1) (room_le hr831) ?_
       intro v832 w833 hst
       obtain ⟨l834, a835, c836, rfl⟩ := hst.len 3 rfl
       refine OW.pure 1 [(79, .pointer (some ⟨b230, 0, none⟩))] (by kernel_rfl) ?_
       refine OW.stB hst 2 rfl rfl rfl rfl rfl (by kernel_rfl) rfl rfl [.slice a835 ((s737 ++ [(i739 : Int)])).length c836, .slice a228 (r200.Code).length c229] rfl ?_
       intro w837 hst
       refine OW.nil rfl ?_
       refine QW.block_normal ?_
       refine QW.next ?_
       refine CW.region ?_
       refine OW.pure 3 [(10, .int .i64 (w64 ((i739 : Int) + 1)))] (by kernel_rfl) ?_
       refine OW.nil rfl ?_
       refine QW.say 10 rfl (congrArg (Value.int .i64) (w64_cnt hc744 (by decide))) ?_
       exact QW.meet (fun a ha => ⟨n735, Nat.lt_succ_self _, i739 + 1, (s737 ++ [(i739 : Int)]), (.slice a835 ((s737 ++ [(i739 : Int)])).length c836), cnt_next hi740, ha.agrees (by kernel_rfl), hst.keep [0, 1, 2, 3, 4] rfl, hl736⟩)
      ·have hl736 := ite_f hl736 hc817
       refine CW.cond_f rfl hc817 ?_
       refine CW.skip ?_
       refine QW.block_normal ?_
       refine QW.next ?_
       refine CW.region ?_
       refine OW.pure 3 [(10, .int .i64 (w64 ((i739 : Int) + 1)))] (by kernel_rfl) ?_
       refine OW.nil rfl ?_
       refine QW.say 10 rfl (congrArg (Value.int .i64) (w64_cnt hc744 (by decide))) ?_
       exact QW.meet (fun a ha => ⟨n735, Nat.lt_succ_self _, i739 + 1, s737, (.slice a742 (s737).length c743), cnt_next hi740, ha.agrees (by kernel_rfl), hst.keep [0, 1, 2, 3, 4] rfl, hl736⟩)
    ·rcases n735 with _ | n735
     ·refine CW.cond_f rfl hc744 ?_
      refine CW.exit ?_
      refine QW.then_exit ?_
      refine QW.then_exit ?_
      refine QW.block_here ?_
      obtain rfl := Option.some.inj hl736
      exact QW.meet (fun a ha => ⟨(.slice a742 (s737).length c743), ha.agrees (by kernel_rfl), hst.keep [0, 1, 2, 3, 4] rfl⟩)
     ·exact (cnt1 hi740 hc744).elim
   ·rintro a w1 ⟨v535, ha, hst⟩
    refine CW.go ?_ ha
    obtain ⟨l842, a843, c844, rfl⟩ := hst.len 3 rfl
    refine CW.seq ?_
    refine CW.region ?_
    refine OW.ldN (cs := [.slice a843 (o536).length c844, .slice a228 (r200.Code).length c229]) rfl rfl rfl rfl (by kernel_rfl) (by kernel_rfl) (hst.blkN 2 rfl 0 2) ?_
    obtain ⟨r849, hr850, hF⟩ := bind_some' hF
    refine OW.fn rfl rfl rfl rfl (by kernel_rfl) (judge_Judge_ok _ _ _ fu (.slice a843 (o536).length c844) (.slice a228 (r200.Code).length c229) (api_Module.mk o536 r200.Code) r849 hr850 (hst.part [] rfl) (Bor.refl _ _) (hst.rd 3 rfl (fun _ => rfl) [] rfl (hst.len 3 rfl).1) (hst.rd 4 rfl (fun _ => rfl) [] rfl (hst.len 4 rfl).1) (hT0.give hst []) (hT1.give hst [])) ?_
    rintro e w851 ⟨rfl, hst852⟩
    refine ⟨_, rfl, ?_⟩
    have hst := hst.join (idx := []) (rest := [0, 1, 2, 3, 4]) rfl hst852
    refine OW.pure 5 [(14, .int .i64 r849.2)] (by kernel_rfl) ?_
    refine OW.nil rfl ?_
    refine QW.next ?_
    refine CW.seq ?_
    refine CW.seq ?_
    refine CW.cutK (fun a w1 => Rep 210 [(1, .int .i64 p1), (2, .pointer (some ⟨b9, 0, none⟩)), (7, .slice a165 (r159.1).length c166), (92, .bool ((r849.2 != 0) || (((o536).length : Int) != 4)))] a ∧ St w (fp []) w1 [blkI b9 25 [.slice a2 (p0.Maps).length c3, .slice a5 (p0.Code).length c6], nI 32 R_t32 (.slice a165 (r159.1).length c166) Sv163 r159.1 none]) ?_ ?_
    ·refine CW.region ?_
     refine OW.pure 3 [(87, .bool (r849.2 != 0))] (by kernel_rfl) ?_
     refine OW.split 87 rfl (fun hc853 => ?_) (fun hc853 => ?_)
     ·refine OW.pure 5 [(92, .bool true)] (by kernel_rfl) ?_
      refine OW.nil rfl ?_
      refine QW.say 92 (v := .bool ((r849.2 != 0) || (((o536).length : Int) != 4))) rfl (by first | (rw [hc853]; done) | (rw [hc853]; rfl) | simp [hc853]) ?_
      exact QW.meet (fun a ha => ⟨ha.agrees (by kernel_rfl), hst.keep [0, 1] rfl⟩)
     ·refine OW.pure 1 [(88, .pointer (some ⟨b230, 0, none⟩))] (by kernel_rfl) ?_
      refine OW.ld rfl rfl rfl rfl (by kernel_rfl) (hst.blk 2 rfl rfl) ?_
      refine OW.pure 3 [(92, .bool (((o536).length : Int) != 4))] (by kernel_rfl) ?_
      refine OW.nil rfl ?_
      refine QW.say 92 (v := .bool ((r849.2 != 0) || (((o536).length : Int) != 4))) rfl (by first | (rw [hc853]; done) | (rw [hc853]; rfl) | simp [hc853]) ?_
      exact QW.meet (fun a ha => ⟨ha.agrees (by kernel_rfl), hst.keep [0, 1] rfl⟩)
    ·rintro a w1 ⟨ha, hst⟩
     refine CW.go ?_ ha
     rcases Bool.eq_false_or_eq_true (((r849.2 != 0) || (((o536).length : Int) != 4))) with hc854 | hc854
     ·have hF := ite_t hF hc854
      refine CW.cond_t rfl hc854 ?_
      refine CW.seq ?_
      refine CW.region ?_
      refine OW.pure 1 [(4, .bool false)] (by kernel_rfl) ?_
      refine OW.nil rfl ?_
      refine QW.next ?_
      refine CW.ret ?_
      refine QW.then_ret ?_
      obtain rfl := Option.some.inj hF
      refine QW.ret1 rfl rfl ?_
      exact ⟨rfl, hst.keep [] rfl⟩
     ·have hF := ite_f hF hc854
      refine CW.cond_f rfl hc854 ?_
      refine CW.skip ?_
      refine QW.next ?_
      refine CW.seq ?_
      refine CW.seq ?_
      obtain ⟨o863, ho864, hF⟩ := bind_some' hF
      refine CW.cutK (fun a w1 => Rep 210 [(1, .int .i64 p1), (2, .pointer (some ⟨b9, 0, none⟩)), (7, .slice a165 (r159.1).length c166), (115, .bool o863)] a ∧ St w (fp []) w1 [blkI b9 25 [.slice a2 (p0.Maps).length c3, .slice a5 (p0.Code).length c6], nI 32 R_t32 (.slice a165 (r159.1).length c166) Sv163 r159.1 none]) ?_ ?_
      ·refine CW.region ?_
       refine OW.pure 1 [(93, .pointer (some ⟨b9, 1, none⟩))] (by kernel_rfl) ?_
       refine OW.ld rfl rfl rfl rfl (by kernel_rfl) (hst.blk 0 rfl rfl) ?_
       refine OW.pure 3 [(97, .bool (((p0.Code).length : Int) == 0))] (by kernel_rfl) ?_
       refine OW.split 97 rfl (fun hc865 => ?_) (fun hc865 => ?_)
       ·have ho864 := ite_t ho864 hc865
        refine OW.pure 18 [(115, .bool true)] (by kernel_rfl) ?_
        refine OW.nil rfl ?_
        obtain rfl := Option.some.inj ho864
        exact QW.meet (fun a ha => ⟨ha.agrees (by kernel_rfl), hst.keep [0, 1] rfl⟩)
       ·have ho864 := ite_f ho864 hc865
        refine OW.pure 1 [(98, .pointer (some ⟨b9, 1, none⟩))] (by kernel_rfl) ?_
        refine OW.ld rfl rfl rfl rfl (by kernel_rfl) (hst.blk 0 rfl rfl) ?_
        refine OW.pure 5 [(104, .bool (decide ((w64 (((p0.Code).length : Int) + 2)) > 64)))] (by kernel_rfl) ?_
        refine OW.split 104 rfl (fun hc866 => ?_) (fun hc866 => ?_)
        ·have ho864 := ite_t ho864 hc866
         refine OW.pure 11 [(115, .bool true)] (by kernel_rfl) ?_
         refine OW.nil rfl ?_
         obtain rfl := Option.some.inj ho864
         exact QW.meet (fun a ha => ⟨ha.agrees (by kernel_rfl), hst.keep [0, 1] rfl⟩)
        ·have ho864 := ite_f ho864 hc866
         refine OW.pure 1 [(105, .pointer (some ⟨b9, 1, none⟩))] (by kernel_rfl) ?_
         refine OW.ld rfl rfl rfl rfl (by kernel_rfl) (hst.blk 0 rfl rfl) ?_
         refine OW.pure 1 [(107, .pointer (some ⟨b9, 1, none⟩))] (by kernel_rfl) ?_
         refine OW.ld rfl rfl rfl rfl (by kernel_rfl) (hst.blk 0 rfl rfl) ?_
         refine OW.pure 2 [(110, .int .i64 (w64 (((p0.Code).length : Int) - 1)))] (by kernel_rfl) ?_
         obtain ⟨x867, hx868, ho864⟩ := bind_some' ho864
         obtain ⟨g870, o871, c872, hv869⟩ := h0_1.formv (fun _ => ⟨_, rfl⟩) hx868
         refine OW.idx 42 5 rfl rfl rfl rfl hv869 rfl (idx_some hx868).1 (idx_some hx868).2.1 (by kernel_rfl) (by kernel_rfl) ?_
         refine OW.pure 1 [(112, .pointer (some ⟨g870, o871 + Int.toNat (w64 (((p0.Code).length : Int) - 1)) * 5, none⟩))] (by kernel_rfl) ?_
         refine OW.ld rfl rfl rfl rfl (by kernel_rfl) (h0_1.cellv hst hx868 hv869 0 _ rfl) ?_
         refine OW.pure 2 [(115, .bool (x867.Op != 22))] (by kernel_rfl) ?_
         refine OW.nil rfl ?_
         obtain rfl := Option.some.inj ho864
         exact QW.meet (fun a ha => ⟨ha.agrees (by kernel_rfl), hst.keep [0, 1] rfl⟩)
      ·rintro a w1 ⟨ha, hst⟩
       refine CW.go ?_ ha
       rcases Bool.eq_false_or_eq_true (o863) with hc873 | hc873
       ·have hF := ite_t hF hc873
        refine CW.cond_t rfl hc873 ?_
        refine CW.seq ?_
        refine CW.region ?_
        refine OW.pure 1 [(116, .pointer (some ⟨b9, 1, none⟩))] (by kernel_rfl) ?_
        refine OW.ld rfl rfl rfl rfl (by kernel_rfl) (hst.blk 0 rfl rfl) ?_
        refine OW.pure 3 [(4, .bool (decide (((p0.Code).length : Int) > 0)))] (by kernel_rfl) ?_
        refine OW.nil rfl ?_
        refine QW.next ?_
        refine CW.ret ?_
        refine QW.then_ret ?_
        obtain rfl := Option.some.inj hF
        refine QW.ret1 rfl rfl ?_
        exact ⟨rfl, hst.keep [] rfl⟩
       ·have hF := ite_f hF hc873
        refine CW.cond_f rfl hc873 ?_
        refine CW.skip ?_
        refine QW.next ?_
        refine CW.seq ?_
        refine CW.region ?_
        refine OW.ldN (cs := [.slice a2 (p0.Maps).length c3, .slice a5 (p0.Code).length c6]) rfl rfl rfl rfl (by kernel_rfl) (by kernel_rfl) (hst.blkN 0 rfl 0 2) ?_
        obtain ⟨r907, hr908, hF⟩ := bind_some' hF
        refine OW.fn rfl rfl rfl rfl (by kernel_rfl) (tappetlaw09_copied_ok _ (.slice a2 (p0.Maps).length c3) (.slice a5 (p0.Code).length c6) p0 r907 hr908 (hst.part [] rfl) (h0_0.give hst []) (h0_1.give hst [])) ?_
        rintro e w909 ⟨v911, v912, rfl, hst910⟩
        refine ⟨_, rfl, ?_⟩
        have hst := hst.join (idx := []) (rest := [0, 1]) rfl hst910
        obtain ⟨l931, a932, c933, rfl⟩ := hst.len 0 rfl
        obtain ⟨l934, a935, c936, rfl⟩ := hst.len 1 rfl
        refine OW.alloc hst rfl rfl rfl [.slice none 0 0, .slice none 0 0] (by kernel_rfl) ?_
        intro b937 w938 hst
        refine OW.stB hst 4 rfl rfl rfl rfl rfl (by kernel_rfl) rfl rfl [.slice a932 (r907.Maps).length c933, .slice a935 (r907.Code).length c936] rfl ?_
        intro w939 hst
        refine OW.nil rfl ?_
        refine QW.next ?_
        refine CW.seq ?_
        refine CW.region ?_
        refine OW.pure 1 [(122, .pointer (some ⟨b937, 1, none⟩))] (by kernel_rfl) ?_
        refine OW.ld rfl rfl rfl rfl (by kernel_rfl) (hst.blk 4 rfl rfl) ?_
        refine OW.pure 6 [(128, .agg [.int .i64 1, .int .i64 1, .int .i64 ((w64 ((p1.tmod 8) + 8)).tmod 8), .int .i64 7, .int .i64 0].toArray), (129, .agg [.int .i64 22, .int .i64 0, .int .i64 7, .int .i64 0, .int .i64 0].toArray)] (by kernel_rfl) ?_
        refine OW.row (α := api_Inst) (e := 42) (enc := enc_api_Inst) (sz := 5) hst rfl rfl rfl [(api_Inst.mk 1 1 ((w64 ((p1.tmod 8) + 8)).tmod 8) 7 0), (api_Inst.mk 22 0 7 0 0)] rfl (fun _ => rfl) rfl rfl (fun _ => by kernel_rfl) ?_
        intro g950 w951 hst
        obtain ⟨u952, hr953, hF⟩ := bind_some' hF
        refine OW.app hst 1 rfl (fun _ => rfl) (fun _ => rfl) rfl rfl rfl rfl rfl rfl (by kernel_rfl) el42 (hst.rd 5 rfl (fun _ => rfl) [] rfl (hst.len 5 rfl).1) (room_le hr953) ?_
        intro v954 w955 hst
        obtain ⟨l956, a957, c958, rfl⟩ := hst.len 1 rfl
        refine OW.pure 1 [(132, .pointer (some ⟨b937, 1, none⟩))] (by kernel_rfl) ?_
        refine OW.stB hst 4 rfl rfl rfl rfl rfl (by kernel_rfl) rfl rfl [.slice a932 (r907.Maps).length c933, .slice a957 ((r907.Code ++ [(api_Inst.mk 1 1 ((w64 ((p1.tmod 8) + 8)).tmod 8) 7 0), (api_Inst.mk 22 0 7 0 0)])).length c958] rfl ?_
        intro w959 hst
        refine OW.nil rfl ?_
        refine QW.next ?_
        refine CW.seq ?_
        refine CW.region ?_
        refine OW.ldN (cs := [.slice a932 (r907.Maps).length c933, .slice a957 ((r907.Code ++ [(api_Inst.mk 1 1 ((w64 ((p1.tmod 8) + 8)).tmod 8) 7 0), (api_Inst.mk 22 0 7 0 0)])).length c958]) rfl rfl rfl rfl (by kernel_rfl) (by kernel_rfl) (hst.blkN 4 rfl 0 2) ?_
        obtain ⟨r968, hr969, hF⟩ := bind_some' hF
        refine OW.fn rfl rfl rfl rfl (by kernel_rfl) (judge_Types_ok _ _ _ fu (.slice a932 (r907.Maps).length c933) (.slice a957 ((r907.Code ++ [(api_Inst.mk 1 1 ((w64 ((p1.tmod 8) + 8)).tmod 8) 7 0), (api_Inst.mk 22 0 7 0 0)])).length c958) (api_Module.mk r907.Maps (r907.Code ++ [(api_Inst.mk 1 1 ((w64 ((p1.tmod 8) + 8)).tmod 8) 7 0), (api_Inst.mk 22 0 7 0 0)])) r968 hr969 (hst.part [] rfl) (Bor.refl _ _) (hst.rd 0 rfl (fun _ => rfl) [] rfl (hst.len 0 rfl).1) (hst.rd 1 rfl (fun _ => rfl) [] rfl (hst.len 1 rfl).1) (hT0.give hst []) (hT1.give hst [])) ?_
        rintro e w970 ⟨v972, Sv972, rfl, hst971⟩
        refine ⟨_, rfl, ?_⟩
        have hst := hst.join (idx := []) (rest := [0, 1, 2, 3, 4, 5]) rfl hst971
        obtain ⟨l973, a974, c975, rfl⟩ := hst.nlen 0 rfl
        refine OW.pure 5 [(16, .slice a974 (r968.1).length c975), (17, .int .i64 r968.2)] (by kernel_rfl) ?_
        refine OW.nil rfl ?_
        refine QW.next ?_
        refine CW.seq ?_
        refine CW.seq ?_
        refine CW.region ?_
        refine OW.pure 2 [(139, .bool (r968.2 == 32))] (by kernel_rfl) ?_
        refine OW.nil rfl ?_
        refine QW.next ?_
        rcases Bool.eq_false_or_eq_true ((r968.2 == 32)) with hc976 | hc976
        ·have hF := ite_t hF hc976
         refine CW.cond_t rfl hc976 ?_
         refine CW.seq ?_
         refine CW.region ?_
         refine OW.pure 1 [(4, .bool true)] (by kernel_rfl) ?_
         refine OW.nil rfl ?_
         refine QW.next ?_
         refine CW.ret ?_
         refine QW.then_ret ?_
         obtain rfl := Option.some.inj hF
         refine QW.ret1 rfl rfl ?_
         exact ⟨rfl, hst.keep [] rfl⟩
        ·have hF := ite_f hF hc976
         refine CW.cond_f rfl hc976 ?_
         refine CW.skip ?_
         refine QW.next ?_
         refine CW.seq ?_
         refine CW.seq ?_
         obtain ⟨o1010, ho1011, hF⟩ := bind_some' hF
         refine CW.cutK (fun a w1 => ∃ (S1009 : List Nat), Rep 210 [(7, .slice a165 (r159.1).length c166), (16, .slice a974 (r968.1).length c975), (168, .bool o1010)] a ∧ St w (fp []) w1 [nI 32 R_t32 (.slice a165 (r159.1).length c166) Sv163 r159.1 none, nI 32 R_t32 (.slice a974 (r968.1).length c975) S1009 r968.1 none]) ?_ ?_
         ·refine CW.region ?_
          refine OW.pure 3 [(142, .bool (r968.2 != 0))] (by kernel_rfl) ?_
          refine OW.split 142 rfl (fun hc1012 => ?_) (fun hc1012 => ?_)
          ·have ho1011 := ite_t ho1011 hc1012
           refine OW.pure 26 [(168, .bool true)] (by kernel_rfl) ?_
           refine OW.nil rfl ?_
           obtain rfl := Option.some.inj ho1011
           exact QW.meet (fun a ha => ⟨Sv972, ha.agrees (by kernel_rfl), hst.keep [4, 0] rfl⟩)
          ·have ho1011 := ite_f ho1011 hc1012
           refine OW.pure 8 [(150, .bool (((r968.1).length : Int) != (w64 (((r159.1).length : Int) + 2))))] (by kernel_rfl) ?_
           refine OW.split 150 rfl (fun hc1013 => ?_) (fun hc1013 => ?_)
           ·have ho1011 := ite_t ho1011 hc1013
            refine OW.pure 18 [(168, .bool true)] (by kernel_rfl) ?_
            refine OW.nil rfl ?_
            obtain rfl := Option.some.inj ho1011
            exact QW.meet (fun a ha => ⟨Sv972, ha.agrees (by kernel_rfl), hst.keep [4, 0] rfl⟩)
           ·have ho1011 := ite_f ho1011 hc1013
            refine OW.pure 3 [(151, .slice a974 (r968.1).length c975), (153, .int .i64 ((r159.1).length : Int))] (by kernel_rfl) ?_
            obtain ⟨x1014, hx1015, ho1011⟩ := bind_some' ho1011
            obtain ⟨g1017, o1018, c1019, hv1016⟩ := hst.nrowv 0 rfl hx1015
            refine OW.idx 32 1 rfl rfl rfl rfl hv1016 rfl (idx_some hx1015).1 (idx_some hx1015).2.1 (by kernel_rfl) (by kernel_rfl) ?_
            obtain ⟨v1020, S1021, S1022, hce1023, hst⟩ := hst.nout1 0 rfl rfl hx1015 hv1016
            have hst := hst.toRow1 7 rfl
            obtain ⟨l1024, a1025, c1026, rfl⟩ := hst.len 7 rfl
            refine OW.ld rfl rfl rfl rfl (by kernel_rfl) hce1023 ?_
            refine OW.pure 4 [(159, .bool (((x1014).length : Int) != 0))] (by kernel_rfl) ?_
            refine OW.split 159 rfl (fun hc1027 => ?_) (fun hc1027 => ?_)
            ·have ho1011 := ite_t ho1011 hc1027
             refine OW.pure 9 [(168, .bool true)] (by kernel_rfl) ?_
             refine OW.nil rfl ?_
             have hst := hst.toIt 7 rfl (fun _ => rfl) (by decide)
             obtain ⟨S1028, hst⟩ := hst.nback0 0 7 rfl rfl rfl hx1015
             have hst := hst.keep [0, 1, 2, 3, 4, 5, 6] rfl
             obtain rfl := Option.some.inj ho1011
             exact QW.meet (fun a ha => ⟨S1028, ha.agrees (by kernel_rfl), hst.keep [4, 0] rfl⟩)
            ·have ho1011 := ite_f ho1011 hc1027
             refine OW.pure 4 [(160, .slice a974 (r968.1).length c975), (163, .int .i64 (w64 (((r159.1).length : Int) + 1)))] (by kernel_rfl) ?_
             obtain ⟨x1029, hx1030, ho1011⟩ := bind_some' ho1011
             obtain ⟨g1032, o1033, c1034, hv1031⟩ := hst.nrowv 0 rfl hx1030
             refine OW.idx 32 1 rfl rfl rfl rfl hv1031 rfl (idx_some hx1030).1 (idx_some hx1030).2.1 (by kernel_rfl) (by kernel_rfl) ?_
             have hst := hst.toIt 7 rfl (fun _ => rfl) (by decide)
             obtain ⟨S1035, hst⟩ := hst.nback0 0 7 rfl rfl rfl hx1015
             have hst := hst.keep [0, 1, 2, 3, 4, 5, 6] rfl
             obtain ⟨v1036, S1037, S1038, hce1039, hst⟩ := hst.nout1 0 rfl rfl hx1030 hv1031
             have hst := hst.toRow1 7 rfl
             obtain ⟨l1040, a1041, c1042, rfl⟩ := hst.len 7 rfl
             refine OW.ld rfl rfl rfl rfl (by kernel_rfl) hce1039 ?_
             refine OW.pure 3 [(168, .bool (((x1029).length : Int) != 0))] (by kernel_rfl) ?_
             refine OW.nil rfl ?_
             have hst := hst.toIt 7 rfl (fun _ => rfl) (by decide)
             obtain ⟨S1043, hst⟩ := hst.nback0 0 7 rfl rfl rfl hx1030
             have hst := hst.keep [0, 1, 2, 3, 4, 5, 6] rfl
             obtain rfl := Option.some.inj ho1011
             exact QW.meet (fun a ha => ⟨S1043, ha.agrees (by kernel_rfl), hst.keep [4, 0] rfl⟩)
         ·rintro a w1 ⟨S1009, ha, hst⟩
          refine CW.go ?_ ha
          rcases Bool.eq_false_or_eq_true (o1010) with hc1044 | hc1044
          ·have hF := ite_t hF hc1044
           refine CW.cond_t rfl hc1044 ?_
           refine CW.seq ?_
           refine CW.region ?_
           refine OW.pure 1 [(4, .bool false)] (by kernel_rfl) ?_
           refine OW.nil rfl ?_
           refine QW.next ?_
           refine CW.ret ?_
           refine QW.then_ret ?_
           obtain rfl := Option.some.inj hF
           refine QW.ret1 rfl rfl ?_
           exact ⟨rfl, hst.keep [] rfl⟩
          ·have hF := ite_f hF hc1044
           refine CW.cond_f rfl hc1044 ?_
           refine CW.skip ?_
           refine QW.next ?_
           refine CW.seq ?_
           refine CW.seq ?_
           refine CW.region ?_
           refine OW.pure 1 [(18, .int .i64 0)] (by kernel_rfl) ?_
           refine OW.nil rfl ?_
           refine QW.next ?_
           obtain ⟨o3034, ho3035, hF⟩ := bind_some' hF
           refine CW.cutK (fun a w1 => ∃ (t3036 : Unit), o3034 = .inl t3036 ∧ Rep 210 [] a ∧ St w (fp []) w1 []) ?_ ?_
           ·refine CW.block ?_
            refine CW.loop (fun n a w1 => ∃ (i4365 : Nat) (s4362 : Unit) (S4363 : List Nat) (S4364 : List Nat), i4365 + n = (r159.1).length ∧ Rep 210 [(7, .slice a165 (r159.1).length c166), (16, .slice a974 (r968.1).length c975), (18, .int .i64 (i4365 : Int))] a ∧ St w (fp []) w1 [nI 32 R_t32 (.slice a165 (r159.1).length c166) S4363 r159.1 none, nI 32 R_t32 (.slice a974 (r968.1).length c975) S4364 r968.1 none] ∧ forN (tappetlaw09_JudgeAgain_l3 fu r159 r968) (fun (s4362 : Unit) => (.inl ())) n i4365 s4362 = some o3034) (r159.1).length (fun a ha => ⟨0, (), Sv163, S1009, Nat.zero_add _, ha.agrees (by kernel_rfl), hst.keep [0, 1] rfl, ho3035⟩) ?_
            rintro n4360 a w1 ⟨i4365, s4362, S4363, S4364, hi4366, ha, hst, hl4361⟩
            refine CW.go ?_ ha
            refine CW.seq ?_
            refine CW.seq ?_
            refine CW.region ?_
            refine OW.pure 4 [(172, .bool (decide ((i4365 : Int) < ((r159.1).length : Int))))] (by kernel_rfl) ?_
            refine OW.nil rfl ?_
            refine QW.next ?_
            rcases Bool.eq_false_or_eq_true (decide ((i4365 : Int) < ((r159.1).length : Int))) with hc4367 | hc4367
            ·rcases n4360 with _ | n4360
             ·exact (cnt0 hi4366 hc4367).elim
             refine CW.cond_t rfl hc4367 ?_
             refine CW.skip ?_
             refine QW.next ?_
             refine CW.seq ?_
             refine CW.block ?_
             refine CW.seq ?_
             refine CW.seq ?_
             refine CW.still (by kernel_rfl) (by kernel_rfl) ?_
             intro w4396 hch4397
             have hst := hst.same hch4397
             refine OS.pure 2 [(175, .slice a165 (r159.1).length c166), (176, .int .i64 (i4365 : Int))] rfl (by kernel_rfl) ?_
             obtain ⟨x4398, hx4399, hl4361⟩ := bind_some' hl4361
             obtain ⟨g4401, o4402, c4403, hv4400⟩ := hst.nrowv 0 rfl hx4399
             refine OS.idx 32 1 rfl rfl rfl rfl rfl hv4400 rfl (idx_some hx4399).1 (idx_some hx4399).2.1 (by kernel_rfl) (by kernel_rfl) ?_
             obtain ⟨v4404, S4405, S4406, hce4407, hst⟩ := hst.nout1 0 rfl rfl hx4399 hv4400
             have hst := hst.toRow1 2 rfl
             obtain ⟨l4408, a4409, c4410, rfl⟩ := hst.len 2 rfl
             refine OS.ld rfl rfl rfl rfl rfl (by kernel_rfl) hce4407 ?_
             refine OS.pure 3 [(179, .int .i64 ((x4398).length : Int)), (180, .slice a974 (r968.1).length c975), (181, .int .i64 (i4365 : Int))] rfl (by kernel_rfl) ?_
             obtain ⟨x4411, hx4412, hl4361⟩ := bind_some' hl4361
             obtain ⟨g4414, o4415, c4416, hv4413⟩ := hst.nrowv 1 rfl hx4412
             refine OS.idx 32 1 rfl rfl rfl rfl rfl hv4413 rfl (idx_some hx4412).1 (idx_some hx4412).2.1 (by kernel_rfl) (by kernel_rfl) ?_
             obtain ⟨v4417, S4418, S4419, hce4420, hst⟩ := hst.nout1 1 rfl rfl hx4412 hv4413
             have hst := hst.toRow1 3 rfl
             obtain ⟨l4421, a4422, c4423, rfl⟩ := hst.len 3 rfl
             refine OS.ld rfl rfl rfl rfl rfl (by kernel_rfl) hce4420 ?_
             refine OS.pure 2 [(185, .bool (((x4398).length : Int) != ((x4411).length : Int)))] rfl (by kernel_rfl) ?_
             refine OS.fin rfl ?_
             refine QW.next ?_
             rcases Bool.eq_false_or_eq_true ((((x4398).length : Int) != ((x4411).length : Int))) with hc4424 | hc4424
             ·have hl4361 := ite_t hl4361 hc4424
              refine CW.cond_t rfl hc4424 ?_
              refine CW.seq ?_
              refine CW.region ?_
              refine OW.pure 1 [(4, .bool false)] (by kernel_rfl) ?_
              refine OW.nil rfl ?_
              refine QW.next ?_
              refine CW.ret ?_
              refine QW.then_ret ?_
              refine QW.block_ret ?_
              refine QW.then_ret ?_
              refine QW.then_ret ?_
              refine QW.block_ret ?_
              refine QW.then_ret ?_
              have hst := hst.toIt 2 rfl (fun _ => rfl) (by decide)
              obtain ⟨S4425, hst⟩ := hst.nback0 0 2 rfl rfl rfl hx4399
              have hst := hst.keep [0, 1, 3] rfl
              have hst := hst.toIt 2 rfl (fun _ => rfl) (by decide)
              obtain ⟨S4426, hst⟩ := hst.nback0 1 2 rfl rfl rfl hx4412
              have hst := hst.keep [0, 1] rfl
              obtain rfl := Option.some.inj hl4361
              obtain rfl := Option.some.inj hF
              refine QW.ret1 rfl rfl ?_
              exact ⟨rfl, hst.keep [] rfl⟩
             ·have hl4361 := ite_f hl4361 hc4424
              refine CW.cond_f rfl hc4424 ?_
              refine CW.skip ?_
              refine QW.next ?_
              refine CW.seq ?_
              refine CW.region ?_
              refine OW.pure 1 [(19, .int .i64 0)] (by kernel_rfl) ?_
              refine OW.nil rfl ?_
              refine QW.next ?_
              obtain ⟨o4726, ho4727, hl4361⟩ := bind_some' hl4361
              refine CW.cutQ (fun a w1 => ∃ (t4728 : Unit) (S4724 : List Nat) (S4725 : List Nat), o4726 = .inl t4728 ∧ Rep 210 [(7, .slice a165 (r159.1).length c166), (16, .slice a974 (r968.1).length c975), (18, .int .i64 (i4365 : Int))] a ∧ St w (fp []) w1 [nI 32 R_t32 (.slice a165 (r159.1).length c166) S4724 r159.1 none, nI 32 R_t32 (.slice a974 (r968.1).length c975) S4725 r968.1 none]) ?_ ?_
              ·refine CW.block ?_
               have hst := hst.toIt 2 rfl (fun _ => rfl) (by decide)
               obtain ⟨S4729, hst⟩ := hst.nback0 0 2 rfl rfl rfl hx4399
               have hst := hst.keep [0, 1, 3] rfl
               have hst := hst.toIt 2 rfl (fun _ => rfl) (by decide)
               obtain ⟨S4730, hst⟩ := hst.nback0 1 2 rfl rfl rfl hx4412
               have hst := hst.keep [0, 1] rfl
               refine CW.loop (fun n a w1 => ∃ (s4928 : Int) (S4929 : List Nat) (S4930 : List Nat), Rep 210 [(7, .slice a165 (r159.1).length c166), (16, .slice a974 (r968.1).length c975), (18, .int .i64 (i4365 : Int)), (19, .int .i64 s4928)] a ∧ St w (fp []) w1 [nI 32 R_t32 (.slice a165 (r159.1).length c166) S4929 r159.1 none, nI 32 R_t32 (.slice a974 (r968.1).length c975) S4930 r968.1 none] ∧ loop (tappetlaw09_JudgeAgain_l4 r159 r968 i4365) n s4928 = some o4726) fu (fun a ha => ⟨0, S4729, S4730, ha.agrees (by kernel_rfl), hst.keep [0, 1] rfl, ho4727⟩) ?_
               rintro n4926 a w1 ⟨s4928, S4929, S4930, ha, hst, hl4927⟩
               rcases n4926 with _ | n4926
               ·exact (loop_zero hl4927).elim
               refine CW.go ?_ ha
               refine CW.seq ?_
               refine CW.seq ?_
               refine CW.region ?_
               refine OW.pure 3 [(186, .int .i64 s4928), (187, .slice a165 (r159.1).length c166), (188, .int .i64 (i4365 : Int))] (by kernel_rfl) ?_
               obtain ⟨x4944, hx4945, hl4927⟩ := bind_some' hl4927
               obtain ⟨g4947, o4948, c4949, hv4946⟩ := hst.nrowv 0 rfl hx4945
               refine OW.idx 32 1 rfl rfl rfl rfl hv4946 rfl (idx_some hx4945).1 (idx_some hx4945).2.1 (by kernel_rfl) (by kernel_rfl) ?_
               obtain ⟨v4950, S4951, S4952, hce4953, hst⟩ := hst.nout1 0 rfl rfl hx4945 hv4946
               have hst := hst.toRow1 2 rfl
               obtain ⟨l4954, a4955, c4956, rfl⟩ := hst.len 2 rfl
               refine OW.ld rfl rfl rfl rfl (by kernel_rfl) hce4953 ?_
               refine OW.pure 2 [(192, .bool (decide (s4928 < ((x4944).length : Int))))] (by kernel_rfl) ?_
               refine OW.nil rfl ?_
               refine QW.next ?_
               rcases Bool.eq_false_or_eq_true (decide (s4928 < ((x4944).length : Int))) with hc4957 | hc4957
               ·have hl4927 := ite_t hl4927 hc4957
                refine CW.cond_t rfl hc4957 ?_
                refine CW.skip ?_
                refine QW.next ?_
                refine CW.seq ?_
                refine CW.block ?_
                refine CW.seq ?_
                refine CW.still (by kernel_rfl) (by kernel_rfl) ?_
                intro w4989 hch4990
                have hst := hst.same hch4990
                refine OS.pure 2 [(195, .slice a165 (r159.1).length c166), (196, .int .i64 (i4365 : Int))] rfl (by kernel_rfl) ?_
                obtain ⟨g4992, o4993, c4994, hv4991⟩ := hst.nrowv 0 rfl hx4945
                refine OS.idx 32 1 rfl rfl rfl rfl rfl hv4991 rfl (idx_some hx4945).1 (idx_some hx4945).2.1 (by kernel_rfl) (by kernel_rfl) ?_
                refine OS.ld rfl rfl rfl rfl rfl (by kernel_rfl) (hst.nhole 0 rfl hv4991 0 _ rfl) ?_
                refine OS.pure 1 [(199, .int .i64 s4928)] rfl (by kernel_rfl) ?_
                obtain ⟨x4995, hx4996, hl4927⟩ := bind_some' hl4927
                obtain ⟨g4998, o4999, c5000, hv4997⟩ := hst.rowv 2 rfl hx4996
                refine OS.idx 38 4 rfl rfl rfl rfl rfl hv4997 rfl (idx_some hx4996).1 (idx_some hx4996).2.1 (by kernel_rfl) (by kernel_rfl) ?_
                refine OS.ldN (cs := enc_api_Type x4995) rfl rfl rfl rfl rfl (by kernel_rfl) (by kernel_rfl) (hst.rowc 2 rfl (fun _ => rfl) hx4996 hv4997) ?_
                refine OS.pure 2 [(202, .slice a974 (r968.1).length c975), (203, .int .i64 (i4365 : Int))] rfl (by kernel_rfl) ?_
                obtain ⟨x5001, hx5002, hl4927⟩ := bind_some' hl4927
                obtain ⟨g5004, o5005, c5006, hv5003⟩ := hst.nrowv 1 rfl hx5002
                refine OS.idx 32 1 rfl rfl rfl rfl rfl hv5003 rfl (idx_some hx5002).1 (idx_some hx5002).2.1 (by kernel_rfl) (by kernel_rfl) ?_
                obtain ⟨v5007, S5008, S5009, hce5010, hst⟩ := hst.nout1 1 rfl rfl hx5002 hv5003
                have hst := hst.toRow1 3 rfl
                obtain ⟨l5011, a5012, c5013, rfl⟩ := hst.len 3 rfl
                refine OS.ld rfl rfl rfl rfl rfl (by kernel_rfl) hce5010 ?_
                refine OS.pure 1 [(206, .int .i64 s4928)] rfl (by kernel_rfl) ?_
                obtain ⟨x5014, hx5015, hl4927⟩ := bind_some' hl4927
                obtain ⟨g5017, o5018, c5019, hv5016⟩ := hst.rowv 3 rfl hx5015
                refine OS.idx 38 4 rfl rfl rfl rfl rfl hv5016 rfl (idx_some hx5015).1 (idx_some hx5015).2.1 (by kernel_rfl) (by kernel_rfl) ?_
                refine OS.ldN (cs := enc_api_Type x5014) rfl rfl rfl rfl rfl (by kernel_rfl) (by kernel_rfl) (hst.rowc 3 rfl (fun _ => rfl) hx5015 hv5016) ?_
                refine OS.op (v := .bool (!((x4995.Kind == x5014.Kind) && (((x4995.Span.Lo == x5014.Span.Lo) && ((x4995.Span.Hi == x5014.Span.Hi) && true)) && ((x4995.Map == x5014.Map) && true))))) rfl rfl rfl rfl rfl (fun a ha => sneq_run rfl rfl rfl (by kernel_rfl) (by kernel_rfl) a _ ha) ?_
                refine OS.fin rfl ?_
                refine QW.next ?_
                rcases Bool.eq_false_or_eq_true ((!((x4995.Kind == x5014.Kind) && (((x4995.Span.Lo == x5014.Span.Lo) && ((x4995.Span.Hi == x5014.Span.Hi) && true)) && ((x4995.Map == x5014.Map) && true))))) with hc5020 | hc5020
                ·have hl4927 := ite_t hl4927 hc5020
                 refine CW.cond_t rfl hc5020 ?_
                 refine CW.seq ?_
                 refine CW.region ?_
                 refine OW.pure 1 [(4, .bool false)] (by kernel_rfl) ?_
                 refine OW.nil rfl ?_
                 refine QW.next ?_
                 refine CW.ret ?_
                 refine QW.block_ret ?_
                 refine QW.then_ret ?_
                 refine QW.then_ret ?_
                 refine QW.block_ret ?_
                 refine QW.then_ret ?_
                 refine QW.block_ret ?_
                 refine QW.then_ret ?_
                 refine QW.then_ret ?_
                 refine QW.block_ret ?_
                 refine QW.then_ret ?_
                 have hst := hst.toIt 2 rfl (fun _ => rfl) (by decide)
                 obtain ⟨S5021, hst⟩ := hst.nback0 0 2 rfl rfl rfl hx4945
                 have hst := hst.keep [0, 1, 3] rfl
                 have hst := hst.toIt 2 rfl (fun _ => rfl) (by decide)
                 obtain ⟨S5022, hst⟩ := hst.nback0 1 2 rfl rfl rfl hx5002
                 have hst := hst.keep [0, 1] rfl
                 obtain rfl := Option.some.inj hl4927
                 obtain rfl := Option.some.inj hl4361
                 obtain rfl := Option.some.inj hF
                 refine QW.ret1 rfl rfl ?_
                 exact ⟨rfl, hst.keep [] rfl⟩
                ·have hl4927 := ite_f hl4927 hc5020
                 refine CW.cond_f rfl hc5020 ?_
                 refine CW.skip ?_
                 refine QW.block_normal ?_
                 refine QW.next ?_
                 refine CW.region ?_
                 refine OW.pure 3 [(19, .int .i64 (w64 (s4928 + 1)))] (by kernel_rfl) ?_
                 refine OW.nil rfl ?_
                 have hst := hst.toIt 2 rfl (fun _ => rfl) (by decide)
                 obtain ⟨S5023, hst⟩ := hst.nback0 0 2 rfl rfl rfl hx4945
                 have hst := hst.keep [0, 1, 3] rfl
                 have hst := hst.toIt 2 rfl (fun _ => rfl) (by decide)
                 obtain ⟨S5024, hst⟩ := hst.nback0 1 2 rfl rfl rfl hx5002
                 have hst := hst.keep [0, 1] rfl
                 exact QW.meet (fun a ha => ⟨n4926, Nat.lt_succ_self _, (w64 (s4928 + 1)), S5023, S5024, ha.agrees (by kernel_rfl), hst.keep [0, 1] rfl, hl4927⟩)
               ·have hl4927 := ite_f hl4927 hc4957
                refine CW.cond_f rfl hc4957 ?_
                refine CW.exit ?_
                refine QW.then_exit ?_
                refine QW.then_exit ?_
                refine QW.block_here ?_
                have hst := hst.toIt 2 rfl (fun _ => rfl) (by decide)
                obtain ⟨S5025, hst⟩ := hst.nback0 0 2 rfl rfl rfl hx4945
                have hst := hst.keep [0, 1] rfl
                obtain rfl := Option.some.inj hl4927
                exact QW.meet (fun a ha => ⟨(), S5025, S4930, rfl, ha.agrees (by kernel_rfl), hst.keep [0, 1] rfl⟩)
              ·rintro a w1 ⟨t4728, S4724, S4725, rfl, ha, hst⟩
               refine QW.go ?_ ha
               refine QW.block_normal ?_
               refine QW.next ?_
               refine CW.region ?_
               refine OW.pure 3 [(18, .int .i64 (w64 ((i4365 : Int) + 1)))] (by kernel_rfl) ?_
               refine OW.nil rfl ?_
               refine QW.say 18 rfl (congrArg (Value.int .i64) (w64_cnt hc4367 l164)) ?_
               exact QW.meet (fun a ha => ⟨n4360, Nat.lt_succ_self _, i4365 + 1, (), S4724, S4725, cnt_next hi4366, ha.agrees (by kernel_rfl), hst.keep [0, 1] rfl, hl4361⟩)
            ·rcases n4360 with _ | n4360
             ·refine CW.cond_f rfl hc4367 ?_
              refine CW.exit ?_
              refine QW.then_exit ?_
              refine QW.then_exit ?_
              refine QW.block_here ?_
              obtain rfl := Option.some.inj hl4361
              exact QW.meet (fun a ha => ⟨(), rfl, ha.agrees (by kernel_rfl), hst.keep [] rfl⟩)
             ·exact (cnt1 hi4366 hc4367).elim
           ·rintro a w1 ⟨t3036, rfl, ha, hst⟩
            refine CW.go ?_ ha
            refine CW.seq ?_
            refine CW.region ?_
            refine OW.pure 1 [(4, .bool true)] (by kernel_rfl) ?_
            refine OW.nil rfl ?_
            refine QW.next ?_
            refine CW.ret ?_
            obtain rfl := Option.some.inj hF
            refine QW.ret1 rfl rfl ?_
            exact ⟨rfl, hst.keep [] rfl⟩


end Go.Proofs.YtojemiffchkkdaaDoor

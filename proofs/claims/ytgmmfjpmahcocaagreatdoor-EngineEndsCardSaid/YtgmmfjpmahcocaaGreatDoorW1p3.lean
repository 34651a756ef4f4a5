/- Written by a program (wip/gen): the walks: each Go function returns what its plain function computes. -/
import Derived.Test.YtgmmfjpmahcocaaGreatDoorProg
import Derived.Test.YtgmmfjpmahcocaaGreatDoorF1
import Derived.Test.YtgmmfjpmahcocaaGreatDoorOpen
import Derived.Test.YtgmmfjpmahcocaaGreatDoorPart
import Derived.Test.YtgmmfjpmahcocaaGreatDoorExt
import Derived.Test.YtgmmfjpmahcocaaGreatDoorSh
import Derived.Test.YtgmmfjpmahcocaaGreatDoorO1
import Derived.Test.YtgmmfjpmahcocaaGreatDoorW1p2
namespace Go.Proofs.YtgmmfjpmahcocaaGreatDoor
open Go.Sx
set_option linter.unusedVariables false
set_option maxRecDepth 10000
set_option maxHeartbeats 4000000
theorem judge_judge_ways_ok (w : World) (wb : World) (Sb : List Nat) (v0 : Value) (S0 : List Nat) (p0 : judge_judge) (p1 : Int) (p2 : Nat → api_Type) (r : judge_judge) (hF : judge_judge_ways p0 p1 p2 = some r)
    (hst : St w (fp [itI (R_t116 wb Sb) [v0] S0 p0]) w [itI (R_t116 wb Sb) [v0] S0 p0]) (hb : Bor wb Sb w (fp [itI (R_t116 wb Sb) [v0] S0 p0])) (hT0 : Rd w (fp [itI (R_t116 wb Sb) [v0] S0 p0]) (.slice (some ⟨0, 0, none⟩) 23 23) enc_ops_form 2 tab_g0) :
    Calls Tryz.prog 77 [v0, .int .i64 p1, .agg [.int .i64 (p2 0).Kind, .int .u64 (p2 0).Span.Lo, .int .u64 (p2 0).Span.Hi, .int .i64 (p2 0).Map, .int .i64 (p2 1).Kind, .int .u64 (p2 1).Span.Lo, .int .u64 (p2 1).Span.Hi, .int .i64 (p2 1).Map, .int .i64 (p2 2).Kind, .int .u64 (p2 2).Span.Lo, .int .u64 (p2 2).Span.Hi, .int .i64 (p2 2).Map, .int .i64 (p2 3).Kind, .int .u64 (p2 3).Span.Lo, .int .u64 (p2 3).Span.Hi, .int .i64 (p2 3).Map, .int .i64 (p2 4).Kind, .int .u64 (p2 4).Span.Lo, .int .u64 (p2 4).Span.Hi, .int .i64 (p2 4).Map, .int .i64 (p2 5).Kind, .int .u64 (p2 5).Span.Lo, .int .u64 (p2 5).Span.Hi, .int .i64 (p2 5).Map, .int .i64 (p2 6).Kind, .int .u64 (p2 6).Span.Lo, .int .u64 (p2 6).Span.Hi, .int .i64 (p2 6).Map, .int .i64 (p2 7).Kind, .int .u64 (p2 7).Span.Lo, .int .u64 (p2 7).Span.Hi, .int .i64 (p2 7).Map].toArray].toArray w (fun e w' => ∃ (s0 : List Nat), e = .returned (.tuple #[]) ∧ St w (fp [itI (R_t116 wb Sb) [v0] S0 p0]) w' [itI (R_t116 wb Sb) [v0] s0 r]) := by
 refine CW.start (N := 93) Tryz.func77 rfl rfl rfl ?_
 obtain ⟨b1, rfl⟩ := hst.fptr 0 rfl
 refine CW.seq (CW.region ?_)
 refine OW.box hst rfl rfl rfl rfl [.int .i64 (p2 0).Kind, .int .u64 (p2 0).Span.Lo, .int .u64 (p2 0).Span.Hi, .int .i64 (p2 0).Map, .int .i64 (p2 1).Kind, .int .u64 (p2 1).Span.Lo, .int .u64 (p2 1).Span.Hi, .int .i64 (p2 1).Map, .int .i64 (p2 2).Kind, .int .u64 (p2 2).Span.Lo, .int .u64 (p2 2).Span.Hi, .int .i64 (p2 2).Map, .int .i64 (p2 3).Kind, .int .u64 (p2 3).Span.Lo, .int .u64 (p2 3).Span.Hi, .int .i64 (p2 3).Map, .int .i64 (p2 4).Kind, .int .u64 (p2 4).Span.Lo, .int .u64 (p2 4).Span.Hi, .int .i64 (p2 4).Map, .int .i64 (p2 5).Kind, .int .u64 (p2 5).Span.Lo, .int .u64 (p2 5).Span.Hi, .int .i64 (p2 5).Map, .int .i64 (p2 6).Kind, .int .u64 (p2 6).Span.Lo, .int .u64 (p2 6).Span.Hi, .int .i64 (p2 6).Map, .int .i64 (p2 7).Kind, .int .u64 (p2 7).Span.Lo, .int .u64 (p2 7).Span.Hi, .int .i64 (p2 7).Map] rfl ?_
 intro b4 w5 hst
 refine OW.nil rfl (QW.next (CW.seq ?_))
 obtain ⟨v6, S7, v8, S9, v10, S11, v12, S13, v14, S15, hst⟩ := hst.openQ5 0 rfl rfl rfl rfl rfl rfl
 have hbo16 := hst.borOut 2 rfl
 have hbr17 := hbo16.bor hb
 have hbo18 := hst.borOut 3 rfl
 have hbr19 := hbo18.bor hb
 have hst := hst.toRow1 4 rfl
 have hst := hst.toRow1 5 rfl
 have hst := hst.toRow1 6 rfl
 have hst := hst.keep [0, 1, 4, 5, 6] rfl
 obtain ⟨l20, a21, c22, rfl⟩ := hbr17.len
 obtain ⟨l23, a24, c25, rfl⟩ := hbr19.len
 obtain ⟨l26, a27, c28, rfl⟩ := hst.len 2 rfl
 obtain ⟨l29, a30, c31, rfl⟩ := hst.len 3 rfl
 obtain ⟨l32, a33, c34, rfl⟩ := hst.len 4 rfl
 have hst : St _ _ _ [blkI b1 148 [.slice a21 (p0.Module.Maps).length c22, .slice a24 (p0.Module.Code).length c25, .slice a27 (p0.came).length c28, .slice a30 (p0.any).length c31, .slice a33 (p0.loops).length c34], _, _, _, _] := hst
 refine CW.region ?_
 refine OW.pure 4 [(20, .pointer (some ⟨b1, 1, none⟩))] (by kernel_rfl) ?_
 refine OW.ld rfl rfl rfl rfl (by kernel_rfl) (hst.blk 0 rfl rfl) ?_
 refine OW.pure 1 [(22, .int .i64 p1)] (by kernel_rfl) ?_
 obtain ⟨x44, hx45, hF⟩ := bind_some' hF
 obtain ⟨g47, o48, c49, hv46⟩ := hbr19.formv (fun _ => ⟨_, rfl⟩) hx45
 refine OW.idx 43 5 rfl rfl rfl rfl hv46 rfl (idx_some hx45).1 (idx_some hx45).2.1 (by kernel_rfl) (by kernel_rfl) ?_
 refine OW.ldN (cs := enc_api_Inst x44) rfl rfl rfl rfl (by kernel_rfl) (by kernel_rfl) (hbr19.cellv hst hx45 hv46) ?_
 refine OW.alloc hst rfl rfl rfl [.int .i64 0, .int .i64 0, .int .i64 0, .int .i64 0, .int .i64 0] (by kernel_rfl) ?_
 intro b50 w51 hst
 refine OW.stB hst 5 rfl rfl rfl rfl rfl (by kernel_rfl) rfl rfl [.int .i64 x44.Op, .int .i64 x44.D, .int .i64 x44.A, .int .i64 x44.B, .int .i64 x44.Imm] rfl ?_
 intro w52 hst
 refine OW.nil rfl (QW.next (CW.seq (CW.region ?_)))
 refine OW.ldN (cs := [.int .i64 x44.Op, .int .i64 x44.D, .int .i64 x44.A, .int .i64 x44.B, .int .i64 x44.Imm]) rfl rfl rfl rfl (by kernel_rfl) (by kernel_rfl) (hst.blkN 5 rfl 0 5) ?_
 obtain ⟨r57, hr58, hF⟩ := bind_some' hF
 refine OW.fn rfl rfl rfl rfl (by kernel_rfl) (ops_Goes_ok _ x44 r57 hr58 (hst.part [] rfl) (hT0.give hst [])) ?_
 rintro e w59 ⟨rfl, hst60⟩
 refine ⟨_, rfl, ?_⟩
 have hst := hst.join (idx := []) (rest := [0, 1, 2, 3, 4, 5]) rfl hst60
 refine OW.pure 7 [(7, .int .i64 r57.1), (8, .bool r57.2.1), (9, .bool r57.2.2)] (by kernel_rfl) (OW.nil rfl (QW.next (CW.seq (CW.seq ?_))))
 refine CW.cutK (fun a w1 => Rep 93 [(0, .pointer (some ⟨b1, 0, none⟩)), (1, .int .i64 p1), (5, .pointer (some ⟨b4, 0, none⟩)), (6, .pointer (some ⟨b50, 0, none⟩)), (7, .int .i64 r57.1), (9, .bool r57.2.2), (36, .bool ((!r57.2.1) || decide (r57.1 < 0)))] a ∧ St w (fp [itI (R_t116 wb Sb) [.pointer (some ⟨b1, 0, none⟩)] S0 p0]) w1 [blkI b1 148 [.slice a21 (p0.Module.Maps).length c22, .slice a24 (p0.Module.Code).length c25, .slice a27 (p0.came).length c28, .slice a30 (p0.any).length c31, .slice a33 (p0.loops).length c34], blkI b4 158 [.int .i64 (p2 0).Kind, .int .u64 (p2 0).Span.Lo, .int .u64 (p2 0).Span.Hi, .int .i64 (p2 0).Map, .int .i64 (p2 1).Kind, .int .u64 (p2 1).Span.Lo, .int .u64 (p2 1).Span.Hi, .int .i64 (p2 1).Map, .int .i64 (p2 2).Kind, .int .u64 (p2 2).Span.Lo, .int .u64 (p2 2).Span.Hi, .int .i64 (p2 2).Map, .int .i64 (p2 3).Kind, .int .u64 (p2 3).Span.Lo, .int .u64 (p2 3).Span.Hi, .int .i64 (p2 3).Map, .int .i64 (p2 4).Kind, .int .u64 (p2 4).Span.Lo, .int .u64 (p2 4).Span.Hi, .int .i64 (p2 4).Map, .int .i64 (p2 5).Kind, .int .u64 (p2 5).Span.Lo, .int .u64 (p2 5).Span.Hi, .int .i64 (p2 5).Map, .int .i64 (p2 6).Kind, .int .u64 (p2 6).Span.Lo, .int .u64 (p2 6).Span.Hi, .int .i64 (p2 6).Map, .int .i64 (p2 7).Kind, .int .u64 (p2 7).Span.Lo, .int .u64 (p2 7).Span.Hi, .int .i64 (p2 7).Map], rowI (.slice a27 (p0.came).length c28) 158 (arrC (enc_api_Type) 8) 32 p0.came, rowI (.slice a30 (p0.any).length c31) 4 encBool 1 p0.any, rowI (.slice a33 (p0.loops).length c34) 164 enc_api_Loop 3 p0.loops, blkI b50 43 [.int .i64 x44.Op, .int .i64 x44.D, .int .i64 x44.A, .int .i64 x44.B, .int .i64 x44.Imm]]) ?_ ?_
 ·refine CW.region ?_
  refine OW.pure 3 [(33, .bool (!r57.2.1))] (by kernel_rfl) ?_
  refine OW.split 33 rfl (fun hc61 => ?_) (fun hc61 => ?_)
  ·refine OW.pure 3 [(36, .bool true)] (by kernel_rfl) (OW.nil rfl ?_)
   refine QW.say 36 (v := .bool ((!r57.2.1) || decide (r57.1 < 0))) rfl (by first | (rw [hc61]; done) | (rw [hc61]; rfl) | simp [hc61]) ?_
   exact QW.meet (fun a ha => ⟨ha.agrees (by kernel_rfl), hst.keep [0, 1, 2, 3, 4, 5] rfl⟩)
  refine OW.pure 3 [(36, .bool (decide (r57.1 < 0)))] (by kernel_rfl) (OW.nil rfl ?_)
  refine QW.say 36 (v := .bool ((!r57.2.1) || decide (r57.1 < 0))) rfl (by first | (rw [hc61]; done) | (rw [hc61]; rfl) | simp [hc61]) ?_
  exact QW.meet (fun a ha => ⟨ha.agrees (by kernel_rfl), hst.keep [0, 1, 2, 3, 4, 5] rfl⟩)
 rintro a w1 ⟨ha, hst⟩
 refine CW.go ?_ ha
 rcases Bool.eq_false_or_eq_true (((!r57.2.1) || decide (r57.1 < 0))) with hc62 | hc62
 ·have hF := ite_t hF hc62
  refine CW.cond_t rfl hc62 (CW.seq (CW.seq (CW.region ?_)))
  refine OW.pure 1 [(37, .bool r57.2.2)] (by kernel_rfl) (OW.nil rfl (QW.next ?_))
  obtain ⟨o78, ho79, hF⟩ := bind_some' hF
  refine CW.cutK (fun a w1 => ∃ (S77 : List Nat), Rep 93 [] a ∧ St w (fp [itI (R_t116 wb Sb) [.pointer (some ⟨b1, 0, none⟩)] S0 p0]) w1 [itI (R_t116 wb Sb) [.pointer (some ⟨b1, 0, none⟩)] S77 o78]) ?_ ?_
  ·rcases Bool.eq_false_or_eq_true (r57.2.2) with hc80 | hc80
   ·have ho79 := ite_t ho79 hc80
    refine CW.cond_t rfl hc80 (CW.region ?_)
    refine OW.pure 3 [(38, .pointer (some ⟨b1, 0, none⟩)), (40, .int .i64 (w64 (p1 + 1)))] (by kernel_rfl) ?_
    refine OW.ldN (cs := [.int .i64 (p2 0).Kind, .int .u64 (p2 0).Span.Lo, .int .u64 (p2 0).Span.Hi, .int .i64 (p2 0).Map, .int .i64 (p2 1).Kind, .int .u64 (p2 1).Span.Lo, .int .u64 (p2 1).Span.Hi, .int .i64 (p2 1).Map, .int .i64 (p2 2).Kind, .int .u64 (p2 2).Span.Lo, .int .u64 (p2 2).Span.Hi, .int .i64 (p2 2).Map, .int .i64 (p2 3).Kind, .int .u64 (p2 3).Span.Lo, .int .u64 (p2 3).Span.Hi, .int .i64 (p2 3).Map, .int .i64 (p2 4).Kind, .int .u64 (p2 4).Span.Lo, .int .u64 (p2 4).Span.Hi, .int .i64 (p2 4).Map, .int .i64 (p2 5).Kind, .int .u64 (p2 5).Span.Lo, .int .u64 (p2 5).Span.Hi, .int .i64 (p2 5).Map, .int .i64 (p2 6).Kind, .int .u64 (p2 6).Span.Lo, .int .u64 (p2 6).Span.Hi, .int .i64 (p2 6).Map, .int .i64 (p2 7).Kind, .int .u64 (p2 7).Span.Lo, .int .u64 (p2 7).Span.Hi, .int .i64 (p2 7).Map]) rfl rfl rfl rfl (by kernel_rfl) (by kernel_rfl) (hst.blkN 1 rfl 0 32) ?_
    have hst := hst.borIn hbo16
    have hst := hst.borIn hbo18
    have hst := hst.toIt 2 rfl (fun _ => rfl) (by decide)
    have hst := hst.toIt 3 rfl (fun _ => rfl) (by decide)
    have hst := hst.toIt 4 rfl (fun _ => rfl) (by decide)
    obtain ⟨S87, hst⟩ := hst.shutP5 (R_t148 wb Sb) rfl 0 6 7 2 3 4 [1, 5] rfl rfl rfl rfl rfl rfl rfl p0 rfl rfl
    obtain ⟨r88, hr89, ho79⟩ := bind_some' ho79
    refine OW.fn rfl rfl rfl rfl (by kernel_rfl) (judge_judge_come_ok _ wb Sb (.pointer (some ⟨b1, 0, none⟩)) S87 p0 (w64 (p1 + 1)) p2 r88 hr89 (hst.part [2] rfl) (hb.on hst [2])) ?_
    rintro e w90 ⟨S92, rfl, hst91⟩
    refine ⟨_, rfl, ?_⟩
    have hst := hst.join (idx := [2]) (rest := [0, 1]) rfl hst91
    refine OW.nil rfl ?_
    obtain rfl := Option.some.inj ho79
    exact QW.meet (fun a ha => ⟨S92, ha.agrees (by kernel_rfl), hst.keep [0] rfl⟩)
   have ho79 := ite_f ho79 hc80
   refine CW.cond_f rfl hc80 (CW.skip ?_)
   have hst := hst.borIn hbo16
   have hst := hst.borIn hbo18
   have hst := hst.toIt 2 rfl (fun _ => rfl) (by decide)
   have hst := hst.toIt 3 rfl (fun _ => rfl) (by decide)
   have hst := hst.toIt 4 rfl (fun _ => rfl) (by decide)
   obtain ⟨S93, hst⟩ := hst.shutP5 (R_t148 wb Sb) rfl 0 6 7 2 3 4 [1, 5] rfl rfl rfl rfl rfl rfl rfl p0 rfl rfl
   obtain rfl := Option.some.inj ho79
   exact QW.meet (fun a ha => ⟨S93, ha.agrees (by kernel_rfl), hst.keep [2] rfl⟩)
  rintro a w1 ⟨S77, ha, hst⟩
  refine CW.go ?_ ha
  refine CW.ret (QW.then_ret ?_)
  obtain rfl := Option.some.inj hF
  refine QW.ret0 rfl ?_
  exact ⟨S77, rfl, hst.keep [0] rfl⟩
 have hF := ite_f hF hc62
 refine CW.cond_f rfl hc62 (CW.skip (QW.next (CW.seq (CW.seq (CW.region ?_)))))
 refine OW.pure 2 [(44, .bool (!r57.2.2))] (by kernel_rfl) (OW.nil rfl (QW.next ?_))
 rcases Bool.eq_false_or_eq_true ((!r57.2.2)) with hc94 | hc94
 ·have hF := ite_t hF hc94
  refine CW.cond_t rfl hc94 (CW.seq (CW.region ?_))
  refine OW.pure 4 [(45, .pointer (some ⟨b1, 0, none⟩)), (48, .int .i64 (w64 (p1 + r57.1)))] (by kernel_rfl) ?_
  refine OW.ldN (cs := [.int .i64 (p2 0).Kind, .int .u64 (p2 0).Span.Lo, .int .u64 (p2 0).Span.Hi, .int .i64 (p2 0).Map, .int .i64 (p2 1).Kind, .int .u64 (p2 1).Span.Lo, .int .u64 (p2 1).Span.Hi, .int .i64 (p2 1).Map, .int .i64 (p2 2).Kind, .int .u64 (p2 2).Span.Lo, .int .u64 (p2 2).Span.Hi, .int .i64 (p2 2).Map, .int .i64 (p2 3).Kind, .int .u64 (p2 3).Span.Lo, .int .u64 (p2 3).Span.Hi, .int .i64 (p2 3).Map, .int .i64 (p2 4).Kind, .int .u64 (p2 4).Span.Lo, .int .u64 (p2 4).Span.Hi, .int .i64 (p2 4).Map, .int .i64 (p2 5).Kind, .int .u64 (p2 5).Span.Lo, .int .u64 (p2 5).Span.Hi, .int .i64 (p2 5).Map, .int .i64 (p2 6).Kind, .int .u64 (p2 6).Span.Lo, .int .u64 (p2 6).Span.Hi, .int .i64 (p2 6).Map, .int .i64 (p2 7).Kind, .int .u64 (p2 7).Span.Lo, .int .u64 (p2 7).Span.Hi, .int .i64 (p2 7).Map]) rfl rfl rfl rfl (by kernel_rfl) (by kernel_rfl) (hst.blkN 1 rfl 0 32) ?_
  have hst := hst.borIn hbo16
  have hst := hst.borIn hbo18
  have hst := hst.toIt 2 rfl (fun _ => rfl) (by decide)
  have hst := hst.toIt 3 rfl (fun _ => rfl) (by decide)
  have hst := hst.toIt 4 rfl (fun _ => rfl) (by decide)
  obtain ⟨S101, hst⟩ := hst.shutP5 (R_t148 wb Sb) rfl 0 6 7 2 3 4 [1, 5] rfl rfl rfl rfl rfl rfl rfl p0 rfl rfl
  obtain ⟨r102, hr103, hF⟩ := bind_some' hF
  refine OW.fn rfl rfl rfl rfl (by kernel_rfl) (judge_judge_come_ok _ wb Sb (.pointer (some ⟨b1, 0, none⟩)) S101 p0 (w64 (p1 + r57.1)) p2 r102 hr103 (hst.part [2] rfl) (hb.on hst [2])) ?_
  rintro e w104 ⟨S106, rfl, hst105⟩
  refine ⟨_, rfl, ?_⟩
  have hst := hst.join (idx := [2]) (rest := [0, 1]) rfl hst105
  refine OW.nil rfl (QW.next (CW.ret (QW.then_ret ?_)))
  obtain rfl := Option.some.inj hF
  refine QW.ret0 rfl ?_
  exact ⟨S106, rfl, hst.keep [0] rfl⟩
 have hF := ite_f hF hc94
 refine CW.cond_f rfl hc94 (CW.skip (QW.next (CW.seq (CW.region ?_))))
 refine OW.ldN (cs := [.int .i64 x44.Op, .int .i64 x44.D, .int .i64 x44.A, .int .i64 x44.B, .int .i64 x44.Imm]) rfl rfl rfl rfl (by kernel_rfl) (by kernel_rfl) (hst.blkN 5 rfl 0 5) ?_
 refine OW.ldN (cs := [.int .i64 (p2 0).Kind, .int .u64 (p2 0).Span.Lo, .int .u64 (p2 0).Span.Hi, .int .i64 (p2 0).Map, .int .i64 (p2 1).Kind, .int .u64 (p2 1).Span.Lo, .int .u64 (p2 1).Span.Hi, .int .i64 (p2 1).Map, .int .i64 (p2 2).Kind, .int .u64 (p2 2).Span.Lo, .int .u64 (p2 2).Span.Hi, .int .i64 (p2 2).Map, .int .i64 (p2 3).Kind, .int .u64 (p2 3).Span.Lo, .int .u64 (p2 3).Span.Hi, .int .i64 (p2 3).Map, .int .i64 (p2 4).Kind, .int .u64 (p2 4).Span.Lo, .int .u64 (p2 4).Span.Hi, .int .i64 (p2 4).Map, .int .i64 (p2 5).Kind, .int .u64 (p2 5).Span.Lo, .int .u64 (p2 5).Span.Hi, .int .i64 (p2 5).Map, .int .i64 (p2 6).Kind, .int .u64 (p2 6).Span.Lo, .int .u64 (p2 6).Span.Hi, .int .i64 (p2 6).Map, .int .i64 (p2 7).Kind, .int .u64 (p2 7).Span.Lo, .int .u64 (p2 7).Span.Hi, .int .i64 (p2 7).Map]) rfl rfl rfl rfl (by kernel_rfl) (by kernel_rfl) (hst.blkN 1 rfl 0 32) ?_
 obtain ⟨r114, hr115, hF⟩ := bind_some' hF
 refine OW.fn rfl rfl rfl rfl (by kernel_rfl) (judge_source_ok _ x44 p2 r114 hr115 (hst.part [] rfl)) ?_
 rintro e w116 ⟨rfl, hst117⟩
 refine ⟨_, rfl, ?_⟩
 have hst := hst.join (idx := []) (rest := [0, 1, 2, 3, 4, 5]) rfl hst117
 refine OW.alloc hst rfl rfl rfl [.int .i64 0, .int .u64 0, .int .u64 0, .int .i64 0] (by kernel_rfl) ?_
 intro b118 w119 hst
 refine OW.stB hst 6 rfl rfl rfl rfl rfl (by kernel_rfl) rfl rfl [.int .i64 r114.Kind, .int .u64 r114.Span.Lo, .int .u64 r114.Span.Hi, .int .i64 r114.Map] rfl ?_
 intro w120 hst
 refine OW.nil rfl (QW.next (CW.seq (CW.region ?_)))
 refine OW.row (α := Bool) (e := 4) (enc := encBool) (sz := 1) hst rfl rfl rfl [true, false] rfl (fun _ => rfl) rfl rfl (fun _ => by kernel_rfl) ?_
 intro g123 w124 hst
 refine OW.pure 2 [(55, .int .i64 2), (56, .int .i64 0)] (by kernel_rfl) (OW.nil rfl (QW.next ?_))
 obtain ⟨o432, ho433, hF⟩ := bind_some' hF
 refine CW.cutQ (fun a w1 => ∃ (S431 : List Nat), Rep 93 [] a ∧ St w (fp [itI (R_t116 wb Sb) [.pointer (some ⟨b1, 0, none⟩)] S0 p0]) w1 [itI (R_t116 wb Sb) [.pointer (some ⟨b1, 0, none⟩)] S431 o432]) ?_ ?_
 ·refine CW.block ?_
  have hst := hst.borIn hbo16
  have hst := hst.borIn hbo18
  have hst := hst.toIt 2 rfl (fun _ => rfl) (by decide)
  have hst := hst.toIt 3 rfl (fun _ => rfl) (by decide)
  have hst := hst.toIt 4 rfl (fun _ => rfl) (by decide)
  obtain ⟨S434, hst⟩ := hst.shutP5 (R_t148 wb Sb) rfl 0 8 9 2 3 4 [1, 5, 6, 7] rfl rfl rfl rfl rfl rfl rfl p0 rfl rfl
  refine CW.loop (fun n a w1 => ∃ (i639 : Nat) (s637 : judge_judge) (S638 : List Nat), i639 + n = 2 ∧ Rep 93 [(0, .pointer (some ⟨b1, 0, none⟩)), (1, .int .i64 p1), (5, .pointer (some ⟨b4, 0, none⟩)), (6, .pointer (some ⟨b50, 0, none⟩)), (7, .int .i64 r57.1), (10, .pointer (some ⟨b118, 0, none⟩)), (54, .slice (some ⟨g123, 0, none⟩) 2 2), (55, .int .i64 2), (56, .int .i64 (i639 : Int))] a ∧ St w (fp [itI (R_t116 wb Sb) [.pointer (some ⟨b1, 0, none⟩)] S0 p0]) w1 [itI (R_t116 wb Sb) [.pointer (some ⟨b1, 0, none⟩)] S638 s637, blkI b4 158 [.int .i64 (p2 0).Kind, .int .u64 (p2 0).Span.Lo, .int .u64 (p2 0).Span.Hi, .int .i64 (p2 0).Map, .int .i64 (p2 1).Kind, .int .u64 (p2 1).Span.Lo, .int .u64 (p2 1).Span.Hi, .int .i64 (p2 1).Map, .int .i64 (p2 2).Kind, .int .u64 (p2 2).Span.Lo, .int .u64 (p2 2).Span.Hi, .int .i64 (p2 2).Map, .int .i64 (p2 3).Kind, .int .u64 (p2 3).Span.Lo, .int .u64 (p2 3).Span.Hi, .int .i64 (p2 3).Map, .int .i64 (p2 4).Kind, .int .u64 (p2 4).Span.Lo, .int .u64 (p2 4).Span.Hi, .int .i64 (p2 4).Map, .int .i64 (p2 5).Kind, .int .u64 (p2 5).Span.Lo, .int .u64 (p2 5).Span.Hi, .int .i64 (p2 5).Map, .int .i64 (p2 6).Kind, .int .u64 (p2 6).Span.Lo, .int .u64 (p2 6).Span.Hi, .int .i64 (p2 6).Map, .int .i64 (p2 7).Kind, .int .u64 (p2 7).Span.Lo, .int .u64 (p2 7).Span.Hi, .int .i64 (p2 7).Map], blkI b50 43 [.int .i64 x44.Op, .int .i64 x44.D, .int .i64 x44.A, .int .i64 x44.B, .int .i64 x44.Imm], blkI b118 156 [.int .i64 r114.Kind, .int .u64 r114.Span.Lo, .int .u64 r114.Span.Hi, .int .i64 r114.Map], rowI (.slice (some ⟨g123, 0, none⟩) 2 2) 4 encBool 1 ([true, false])] ∧ forN (judge_judge_ways_l1 p1 p2 x44 r57 r114) (fun (s637 : judge_judge) => s637) n i639 s637 = some o432) 2 (fun a ha => ⟨0, p0, S434, Nat.zero_add _, ha.agrees (by kernel_rfl), hst.keep [4, 0, 1, 2, 3] rfl, ho433⟩) ?_
  rintro n635 a w1 ⟨i639, s637, S638, hi640, ha, hst, hl636⟩
  refine CW.go ?_ ha
  refine CW.seq (CW.region ?_)
  refine OW.pure 1 [(57, .bool (decide ((i639 : Int) < 2)))] (by kernel_rfl) (OW.nil rfl (QW.next (CW.seq ?_)))
  rcases Bool.eq_false_or_eq_true (decide ((i639 : Int) < 2)) with hc641 | hc641
  ·rcases n635 with _ | n635
   ·exact (cnt0 hi640 hc641).elim
   refine CW.cond_t rfl hc641 (CW.skip (QW.next (CW.seq (CW.block (CW.seq (CW.region ?_))))))
   obtain ⟨x648, hx649, hl636⟩ := bind_some' hl636
   obtain ⟨g651, o652, c653, hv650⟩ := hst.rowv 4 rfl hx649
   refine OW.idx 4 1 rfl rfl rfl rfl hv650 rfl (idx_some hx649).1 (idx_some hx649).2.1 (by kernel_rfl) (by kernel_rfl) ?_
   refine OW.ld rfl rfl rfl rfl (by kernel_rfl) (hst.rowc 4 rfl (fun _ => rfl) hx649 hv650 0 _ rfl) ?_
   refine OW.pure 1 [(12, .bool x648)] (by kernel_rfl) (OW.nil rfl (QW.next (CW.seq ?_)))
   refine CW.plan (by kernel_rfl) ?_
   intro w659 hch660
   have hst := hst.same hch660
   refine OA.pure [0, 1, 2] [(62, .int .i64 (w64 (p1 + r57.1)))] (by kernel_rfl) ?_
   refine OA.ldN (i := 3) (cs := [.int .i64 (p2 0).Kind, .int .u64 (p2 0).Span.Lo, .int .u64 (p2 0).Span.Hi, .int .i64 (p2 0).Map, .int .i64 (p2 1).Kind, .int .u64 (p2 1).Span.Lo, .int .u64 (p2 1).Span.Hi, .int .i64 (p2 1).Map, .int .i64 (p2 2).Kind, .int .u64 (p2 2).Span.Lo, .int .u64 (p2 2).Span.Hi, .int .i64 (p2 2).Map, .int .i64 (p2 3).Kind, .int .u64 (p2 3).Span.Lo, .int .u64 (p2 3).Span.Hi, .int .i64 (p2 3).Map, .int .i64 (p2 4).Kind, .int .u64 (p2 4).Span.Lo, .int .u64 (p2 4).Span.Hi, .int .i64 (p2 4).Map, .int .i64 (p2 5).Kind, .int .u64 (p2 5).Span.Lo, .int .u64 (p2 5).Span.Hi, .int .i64 (p2 5).Map, .int .i64 (p2 6).Kind, .int .u64 (p2 6).Span.Lo, .int .u64 (p2 6).Span.Hi, .int .i64 (p2 6).Map, .int .i64 (p2 7).Kind, .int .u64 (p2 7).Span.Lo, .int .u64 (p2 7).Span.Hi, .int .i64 (p2 7).Map]) rfl (by kernel_rfl) rfl rfl rfl (by kernel_rfl) (by kernel_rfl) (hst.blkN 1 rfl 0 32) ?_
   refine OA.act (i := 4) [3] (by kernel_rfl) rfl rfl (by kernel_rfl) (by kernel_rfl) ?_
   refine OW.alloc hst rfl rfl rfl [.int .i64 0, .int .u64 0, .int .u64 0, .int .i64 0, .int .i64 0, .int .u64 0, .int .u64 0, .int .i64 0, .int .i64 0, .int .u64 0, .int .u64 0, .int .i64 0, .int .i64 0, .int .u64 0, .int .u64 0, .int .i64 0, .int .i64 0, .int .u64 0, .int .u64 0, .int .i64 0, .int .i64 0, .int .u64 0, .int .u64 0, .int .i64 0, .int .i64 0, .int .u64 0, .int .u64 0, .int .i64 0, .int .i64 0, .int .u64 0, .int .u64 0, .int .i64 0] (by kernel_rfl) ?_
   intro b661 w662 hst
   refine OA.next ⟨(hst.blkN 1 rfl 0 32), trivial⟩ ?_
   refine OA.act (i := 5) [3] (by kernel_rfl) rfl rfl (by kernel_rfl) (by kernel_rfl) ?_
   refine OW.pure 1 [(13, .int .i64 (w64 (p1 + r57.1)))] (by kernel_rfl) ?_
   refine OA.next ⟨(hst.blkN 1 rfl 0 32), trivial⟩ ?_
   refine OA.act (i := 6) [] (by kernel_rfl) rfl rfl (by kernel_rfl) (by kernel_rfl) ?_
   refine OW.stB hst 5 rfl rfl rfl rfl rfl (by kernel_rfl) rfl rfl [.int .i64 (p2 0).Kind, .int .u64 (p2 0).Span.Lo, .int .u64 (p2 0).Span.Hi, .int .i64 (p2 0).Map, .int .i64 (p2 1).Kind, .int .u64 (p2 1).Span.Lo, .int .u64 (p2 1).Span.Hi, .int .i64 (p2 1).Map, .int .i64 (p2 2).Kind, .int .u64 (p2 2).Span.Lo, .int .u64 (p2 2).Span.Hi, .int .i64 (p2 2).Map, .int .i64 (p2 3).Kind, .int .u64 (p2 3).Span.Lo, .int .u64 (p2 3).Span.Hi, .int .i64 (p2 3).Map, .int .i64 (p2 4).Kind, .int .u64 (p2 4).Span.Lo, .int .u64 (p2 4).Span.Hi, .int .i64 (p2 4).Map, .int .i64 (p2 5).Kind, .int .u64 (p2 5).Span.Lo, .int .u64 (p2 5).Span.Hi, .int .i64 (p2 5).Map, .int .i64 (p2 6).Kind, .int .u64 (p2 6).Span.Lo, .int .u64 (p2 6).Span.Hi, .int .i64 (p2 6).Map, .int .i64 (p2 7).Kind, .int .u64 (p2 7).Span.Lo, .int .u64 (p2 7).Span.Hi, .int .i64 (p2 7).Map] rfl ?_
   intro w663 hst
   refine OA.next trivial ?_
   refine OA.fin (by kernel_rfl) (by kernel_rfl) (QW.next (CW.seq (CW.seq (CW.region ?_))))
   refine OW.pure 2 [(65, .bool (!x648))] (by kernel_rfl) (OW.nil rfl (QW.next ?_))
   obtain ⟨o665, ho666, hl636⟩ := bind_some' hl636
   refine CW.cutK (fun a w1 => Rep 93 [(0, .pointer (some ⟨b1, 0, none⟩)), (1, .int .i64 p1), (5, .pointer (some ⟨b4, 0, none⟩)), (6, .pointer (some ⟨b50, 0, none⟩)), (7, .int .i64 r57.1), (10, .pointer (some ⟨b118, 0, none⟩)), (12, .bool x648), (13, .int .i64 o665), (14, .pointer (some ⟨b661, 0, none⟩)), (54, .slice (some ⟨g123, 0, none⟩) 2 2), (55, .int .i64 2), (56, .int .i64 (i639 : Int))] a ∧ St w (fp [itI (R_t116 wb Sb) [.pointer (some ⟨b1, 0, none⟩)] S0 p0]) w1 [itI (R_t116 wb Sb) [.pointer (some ⟨b1, 0, none⟩)] S638 s637, blkI b4 158 [.int .i64 (p2 0).Kind, .int .u64 (p2 0).Span.Lo, .int .u64 (p2 0).Span.Hi, .int .i64 (p2 0).Map, .int .i64 (p2 1).Kind, .int .u64 (p2 1).Span.Lo, .int .u64 (p2 1).Span.Hi, .int .i64 (p2 1).Map, .int .i64 (p2 2).Kind, .int .u64 (p2 2).Span.Lo, .int .u64 (p2 2).Span.Hi, .int .i64 (p2 2).Map, .int .i64 (p2 3).Kind, .int .u64 (p2 3).Span.Lo, .int .u64 (p2 3).Span.Hi, .int .i64 (p2 3).Map, .int .i64 (p2 4).Kind, .int .u64 (p2 4).Span.Lo, .int .u64 (p2 4).Span.Hi, .int .i64 (p2 4).Map, .int .i64 (p2 5).Kind, .int .u64 (p2 5).Span.Lo, .int .u64 (p2 5).Span.Hi, .int .i64 (p2 5).Map, .int .i64 (p2 6).Kind, .int .u64 (p2 6).Span.Lo, .int .u64 (p2 6).Span.Hi, .int .i64 (p2 6).Map, .int .i64 (p2 7).Kind, .int .u64 (p2 7).Span.Lo, .int .u64 (p2 7).Span.Hi, .int .i64 (p2 7).Map], blkI b50 43 [.int .i64 x44.Op, .int .i64 x44.D, .int .i64 x44.A, .int .i64 x44.B, .int .i64 x44.Imm], blkI b118 156 [.int .i64 r114.Kind, .int .u64 r114.Span.Lo, .int .u64 r114.Span.Hi, .int .i64 r114.Map], blkI b661 158 [.int .i64 (p2 0).Kind, .int .u64 (p2 0).Span.Lo, .int .u64 (p2 0).Span.Hi, .int .i64 (p2 0).Map, .int .i64 (p2 1).Kind, .int .u64 (p2 1).Span.Lo, .int .u64 (p2 1).Span.Hi, .int .i64 (p2 1).Map, .int .i64 (p2 2).Kind, .int .u64 (p2 2).Span.Lo, .int .u64 (p2 2).Span.Hi, .int .i64 (p2 2).Map, .int .i64 (p2 3).Kind, .int .u64 (p2 3).Span.Lo, .int .u64 (p2 3).Span.Hi, .int .i64 (p2 3).Map, .int .i64 (p2 4).Kind, .int .u64 (p2 4).Span.Lo, .int .u64 (p2 4).Span.Hi, .int .i64 (p2 4).Map, .int .i64 (p2 5).Kind, .int .u64 (p2 5).Span.Lo, .int .u64 (p2 5).Span.Hi, .int .i64 (p2 5).Map, .int .i64 (p2 6).Kind, .int .u64 (p2 6).Span.Lo, .int .u64 (p2 6).Span.Hi, .int .i64 (p2 6).Map, .int .i64 (p2 7).Kind, .int .u64 (p2 7).Span.Lo, .int .u64 (p2 7).Span.Hi, .int .i64 (p2 7).Map], rowI (.slice (some ⟨g123, 0, none⟩) 2 2) 4 encBool 1 ([true, false])]) ?_ ?_
   ·rcases Bool.eq_false_or_eq_true ((!x648)) with hc667 | hc667
    ·have ho666 := ite_t ho666 hc667
     refine CW.cond_t rfl hc667 (CW.region ?_)
     refine OW.pure 3 [(13, .int .i64 (w64 (p1 + 1)))] (by kernel_rfl) (OW.nil rfl ?_)
     obtain rfl := Option.some.inj ho666
     exact QW.meet (fun a ha => ⟨ha.agrees (by kernel_rfl), hst.keep [0, 1, 2, 3, 5, 4] rfl⟩)
    have ho666 := ite_f ho666 hc667
    refine CW.cond_f rfl hc667 (CW.skip ?_)
    obtain rfl := Option.some.inj ho666
    exact QW.meet (fun a ha => ⟨ha.agrees (by kernel_rfl), hst.keep [0, 1, 2, 3, 5, 4] rfl⟩)
   rintro a w1 ⟨ha, hst⟩
   refine CW.go ?_ ha
   refine CW.seq ?_
   obtain ⟨o691, ho692, hl636⟩ := bind_some' hl636
   refine CW.cutK (fun a w1 => ∃ (b690 : Nat), Rep 93 [(0, .pointer (some ⟨b1, 0, none⟩)), (1, .int .i64 p1), (5, .pointer (some ⟨b4, 0, none⟩)), (6, .pointer (some ⟨b50, 0, none⟩)), (7, .int .i64 r57.1), (10, .pointer (some ⟨b118, 0, none⟩)), (13, .int .i64 o665), (14, .pointer (some ⟨b661, 0, none⟩)), (15, .pointer (some ⟨b690, 0, none⟩)), (16, .bool o691.2), (54, .slice (some ⟨g123, 0, none⟩) 2 2), (55, .int .i64 2), (56, .int .i64 (i639 : Int))] a ∧ St w (fp [itI (R_t116 wb Sb) [.pointer (some ⟨b1, 0, none⟩)] S0 p0]) w1 [itI (R_t116 wb Sb) [.pointer (some ⟨b1, 0, none⟩)] S638 s637, blkI b4 158 [.int .i64 (p2 0).Kind, .int .u64 (p2 0).Span.Lo, .int .u64 (p2 0).Span.Hi, .int .i64 (p2 0).Map, .int .i64 (p2 1).Kind, .int .u64 (p2 1).Span.Lo, .int .u64 (p2 1).Span.Hi, .int .i64 (p2 1).Map, .int .i64 (p2 2).Kind, .int .u64 (p2 2).Span.Lo, .int .u64 (p2 2).Span.Hi, .int .i64 (p2 2).Map, .int .i64 (p2 3).Kind, .int .u64 (p2 3).Span.Lo, .int .u64 (p2 3).Span.Hi, .int .i64 (p2 3).Map, .int .i64 (p2 4).Kind, .int .u64 (p2 4).Span.Lo, .int .u64 (p2 4).Span.Hi, .int .i64 (p2 4).Map, .int .i64 (p2 5).Kind, .int .u64 (p2 5).Span.Lo, .int .u64 (p2 5).Span.Hi, .int .i64 (p2 5).Map, .int .i64 (p2 6).Kind, .int .u64 (p2 6).Span.Lo, .int .u64 (p2 6).Span.Hi, .int .i64 (p2 6).Map, .int .i64 (p2 7).Kind, .int .u64 (p2 7).Span.Lo, .int .u64 (p2 7).Span.Hi, .int .i64 (p2 7).Map], blkI b50 43 [.int .i64 x44.Op, .int .i64 x44.D, .int .i64 x44.A, .int .i64 x44.B, .int .i64 x44.Imm], blkI b118 156 [.int .i64 r114.Kind, .int .u64 r114.Span.Lo, .int .u64 r114.Span.Hi, .int .i64 r114.Map], blkI b661 158 [.int .i64 (p2 0).Kind, .int .u64 (p2 0).Span.Lo, .int .u64 (p2 0).Span.Hi, .int .i64 (p2 0).Map, .int .i64 (p2 1).Kind, .int .u64 (p2 1).Span.Lo, .int .u64 (p2 1).Span.Hi, .int .i64 (p2 1).Map, .int .i64 (p2 2).Kind, .int .u64 (p2 2).Span.Lo, .int .u64 (p2 2).Span.Hi, .int .i64 (p2 2).Map, .int .i64 (p2 3).Kind, .int .u64 (p2 3).Span.Lo, .int .u64 (p2 3).Span.Hi, .int .i64 (p2 3).Map, .int .i64 (p2 4).Kind, .int .u64 (p2 4).Span.Lo, .int .u64 (p2 4).Span.Hi, .int .i64 (p2 4).Map, .int .i64 (p2 5).Kind, .int .u64 (p2 5).Span.Lo, .int .u64 (p2 5).Span.Hi, .int .i64 (p2 5).Map, .int .i64 (p2 6).Kind, .int .u64 (p2 6).Span.Lo, .int .u64 (p2 6).Span.Hi, .int .i64 (p2 6).Map, .int .i64 (p2 7).Kind, .int .u64 (p2 7).Span.Lo, .int .u64 (p2 7).Span.Hi, .int .i64 (p2 7).Map], blkI b690 154 [.int .u64 o691.1.Lo, .int .u64 o691.1.Hi], rowI (.slice (some ⟨g123, 0, none⟩) 2 2) 4 encBool 1 ([true, false])]) ?_ ?_
   ·refine CW.plan (by kernel_rfl) ?_
    intro w693 hch694
    have hst := hst.same hch694
    refine OA.pure [0] [(69, .pointer (some ⟨b50, 0, none⟩))] (by kernel_rfl) ?_
    refine OA.ld (i := 1) rfl (by kernel_rfl) rfl rfl rfl (by kernel_rfl) (hst.blk 2 rfl rfl) ?_
    refine OA.pure [2] [(71, .pointer (some ⟨b50, 2, none⟩))] (by kernel_rfl) ?_
    refine OA.ld (i := 3) rfl (by kernel_rfl) rfl rfl rfl (by kernel_rfl) (hst.blk 2 rfl rfl) ?_
    obtain ⟨i695, hi696, ho692⟩ := bind_some' ho692
    refine OA.val (i := 4) (v := .pointer (some ⟨b4, 0 + Int.toNat x44.A * 4, none⟩)) rfl (by kernel_rfl) rfl rfl rfl rfl (fun a w ha => aidx_run (n := 8) 156 4 rfl rfl rfl (ain_some hi696).1 (ain_some hi696).2.1 (by kernel_rfl) (by kernel_rfl) a w ha) ?_
    refine OA.pure [5] [(74, .pointer (some ⟨b4, 0 + Int.toNat x44.A * 4 + 1, none⟩))] (by kernel_rfl) ?_
    refine OA.ldN (i := 6) (cs := [.int .u64 (p2 i695).Span.Lo, .int .u64 (p2 i695).Span.Hi]) rfl (by kernel_rfl) rfl rfl rfl (by kernel_rfl) (by kernel_rfl) (elN (hst.arrB 1 rfl enc_api_Type (fun _ => rfl) 8 p2 0 rfl rfl hi696) 1 2) ?_
    refine OA.pure [7] [(76, .pointer (some ⟨b118, 1, none⟩))] (by kernel_rfl) ?_
    refine OA.ldN (i := 8) (cs := [.int .u64 r114.Span.Lo, .int .u64 r114.Span.Hi]) rfl (by kernel_rfl) rfl rfl rfl (by kernel_rfl) (by kernel_rfl) (hst.blkN 3 rfl 1 2) ?_
    refine OA.pure [9] [(78, .bool x648)] (by kernel_rfl) ?_
    refine OA.acts [10, 14] 10 (by kernel_rfl) (by kernel_rfl) (by kernel_rfl) (alts_cons ?_ (alts_cons ?_ alts_nil))
    ·refine Alt.of (i := 10) [] rfl rfl (by kernel_rfl) (by kernel_rfl) ?_
     obtain ⟨r697, hr698, ho692⟩ := bind_some' ho692
     refine OW.fn rfl rfl rfl rfl (by kernel_rfl) (span_Refine_ok _ x44.Op (p2 i695).Span r114.Span x648 r697 hr698 (hst.part [] rfl)) ?_
     rintro e w699 ⟨rfl, hst700⟩
     refine ⟨_, rfl, ?_⟩
     have hst := hst.join (idx := []) (rest := [0, 1, 2, 3, 4, 5]) rfl hst700
     refine OA.next trivial ?_
     refine OA.pure [11, 12, 13] [(80, .agg [.int .u64 r697.1.Lo, .int .u64 r697.1.Hi].toArray), (81, .bool r697.2)] (by kernel_rfl) ?_
     refine OA.act (i := 14) [] (by kernel_rfl) rfl rfl (by kernel_rfl) (by kernel_rfl) ?_
     refine OW.alloc hst rfl rfl rfl [.int .u64 0, .int .u64 0] (by kernel_rfl) ?_
     intro b701 w702 hst
     refine OA.next trivial ?_
     refine OA.act (i := 15) [] (by kernel_rfl) rfl rfl (by kernel_rfl) (by kernel_rfl) ?_
     refine OW.stB hst 6 rfl rfl rfl rfl rfl (by kernel_rfl) rfl rfl [.int .u64 r697.1.Lo, .int .u64 r697.1.Hi] rfl ?_
     intro w703 hst
     refine OA.next trivial ?_
     refine OA.act (i := 16) [] (by kernel_rfl) rfl rfl (by kernel_rfl) (by kernel_rfl) ?_
     refine OW.pure 1 [(16, .bool r697.2)] (by kernel_rfl) (OA.next trivial ?_)
     refine OA.fin (by kernel_rfl) (by kernel_rfl) ?_
     obtain rfl := Option.some.inj ho692
     exact QW.meet (fun a ha => ⟨b701, ha.agrees (by kernel_rfl), hst.keep [0, 1, 2, 3, 4, 6, 5] rfl⟩)
    refine Alt.of (i := 14) [8, 6, 3, 1] rfl rfl (by kernel_rfl) (by kernel_rfl) ?_
    refine OW.alloc hst rfl rfl rfl [.int .u64 0, .int .u64 0] (by kernel_rfl) ?_
    intro b704 w705 hst
    refine OA.next ⟨(hst.blkN 3 rfl 1 2), (elN (hst.arrB 1 rfl enc_api_Type (fun _ => rfl) 8 p2 0 rfl rfl hi696) 1 2), (hst.blk 2 rfl rfl), (hst.blk 2 rfl rfl), trivial⟩ ?_
    refine OA.act (i := 10) [] (by kernel_rfl) rfl rfl (by kernel_rfl) (by kernel_rfl) ?_
    obtain ⟨r706, hr707, ho692⟩ := bind_some' ho692
    refine OW.fn rfl rfl rfl rfl (by kernel_rfl) (span_Refine_ok _ x44.Op (p2 i695).Span r114.Span x648 r706 hr707 (hst.part [] rfl)) ?_
    rintro e w708 ⟨rfl, hst709⟩
    refine ⟨_, rfl, ?_⟩
    have hst := hst.join (idx := []) (rest := [0, 1, 2, 3, 4, 5, 6]) rfl hst709
    refine OA.next trivial ?_
    refine OA.pure [11, 12, 13] [(80, .agg [.int .u64 r706.1.Lo, .int .u64 r706.1.Hi].toArray), (81, .bool r706.2)] (by kernel_rfl) ?_
    refine OA.act (i := 15) [] (by kernel_rfl) rfl rfl (by kernel_rfl) (by kernel_rfl) ?_
    refine OW.stB hst 6 rfl rfl rfl rfl rfl (by kernel_rfl) rfl rfl [.int .u64 r706.1.Lo, .int .u64 r706.1.Hi] rfl ?_
    intro w710 hst
    refine OA.next trivial ?_
    refine OA.act (i := 16) [] (by kernel_rfl) rfl rfl (by kernel_rfl) (by kernel_rfl) ?_
    refine OW.pure 1 [(16, .bool r706.2)] (by kernel_rfl) (OA.next trivial ?_)
    refine OA.fin (by kernel_rfl) (by kernel_rfl) ?_
    obtain rfl := Option.some.inj ho692
    exact QW.meet (fun a ha => ⟨b704, ha.agrees (by kernel_rfl), hst.keep [0, 1, 2, 3, 4, 6, 5] rfl⟩)
   rintro a w1 ⟨b690, ha, hst⟩
   refine CW.go ?_ ha
   refine CW.seq (CW.region ?_)
   refine OW.pure 1 [(82, .bool o691.2)] (by kernel_rfl) (OW.nil rfl (QW.next ?_))
   rcases Bool.eq_false_or_eq_true (o691.2) with hc711 | hc711
   ·have hl636 := ite_t hl636 hc711
    refine CW.cond_t rfl hc711 (CW.seq ?_)
    refine CW.plan (by kernel_rfl) ?_
    intro w721 hch722
    have hst := hst.same hch722
    refine OA.pure [0] [(83, .pointer (some ⟨b50, 2, none⟩))] (by kernel_rfl) ?_
    refine OA.ld (i := 1) rfl (by kernel_rfl) rfl rfl rfl (by kernel_rfl) (hst.blk 2 rfl rfl) ?_
    refine OA.ldN (i := 2) (cs := [.int .u64 o691.1.Lo, .int .u64 o691.1.Hi]) rfl (by kernel_rfl) rfl rfl rfl (by kernel_rfl) (by kernel_rfl) (hst.blkN 5 rfl 0 2) ?_
    refine OA.act (i := 3) [1] (by kernel_rfl) rfl rfl (by kernel_rfl) (by kernel_rfl) ?_
    obtain ⟨r723, hr724, hl636⟩ := bind_some' hl636
    refine OW.fn rfl rfl rfl rfl (by kernel_rfl) (judge_number_ok _ o691.1 r723 hr724 (hst.part [] rfl)) ?_
    rintro e w725 ⟨rfl, hst726⟩
    refine ⟨_, rfl, ?_⟩
    have hst := hst.join (idx := []) (rest := [0, 1, 2, 3, 4, 5, 6]) rfl hst726
    refine OA.next ⟨(hst.blk 2 rfl rfl), trivial⟩ ?_
    obtain ⟨i727, hi728, hl636⟩ := bind_some' hl636
    refine OA.val (i := 4) (v := .pointer (some ⟨b661, 0 + Int.toNat x44.A * 4, none⟩)) rfl (by kernel_rfl) rfl rfl rfl rfl (fun a w ha => aidx_run (n := 8) 156 4 rfl rfl rfl (ain_some hi728).1 (ain_some hi728).2.1 (by kernel_rfl) (by kernel_rfl) a w ha) ?_
    refine OA.act (i := 5) [] (by kernel_rfl) rfl rfl (by kernel_rfl) (by kernel_rfl) ?_
    refine OW.stA hst 4 rfl rfl rfl rfl rfl (by kernel_rfl) rfl enc_api_Type (fun _ => rfl) 8 p2 0 rfl rfl hi728 0 rfl rfl r723 rfl [.int .i64 ((aset p2 i727 r723) 0).Kind, .int .u64 ((aset p2 i727 r723) 0).Span.Lo, .int .u64 ((aset p2 i727 r723) 0).Span.Hi, .int .i64 ((aset p2 i727 r723) 0).Map, .int .i64 ((aset p2 i727 r723) 1).Kind, .int .u64 ((aset p2 i727 r723) 1).Span.Lo, .int .u64 ((aset p2 i727 r723) 1).Span.Hi, .int .i64 ((aset p2 i727 r723) 1).Map, .int .i64 ((aset p2 i727 r723) 2).Kind, .int .u64 ((aset p2 i727 r723) 2).Span.Lo, .int .u64 ((aset p2 i727 r723) 2).Span.Hi, .int .i64 ((aset p2 i727 r723) 2).Map, .int .i64 ((aset p2 i727 r723) 3).Kind, .int .u64 ((aset p2 i727 r723) 3).Span.Lo, .int .u64 ((aset p2 i727 r723) 3).Span.Hi, .int .i64 ((aset p2 i727 r723) 3).Map, .int .i64 ((aset p2 i727 r723) 4).Kind, .int .u64 ((aset p2 i727 r723) 4).Span.Lo, .int .u64 ((aset p2 i727 r723) 4).Span.Hi, .int .i64 ((aset p2 i727 r723) 4).Map, .int .i64 ((aset p2 i727 r723) 5).Kind, .int .u64 ((aset p2 i727 r723) 5).Span.Lo, .int .u64 ((aset p2 i727 r723) 5).Span.Hi, .int .i64 ((aset p2 i727 r723) 5).Map, .int .i64 ((aset p2 i727 r723) 6).Kind, .int .u64 ((aset p2 i727 r723) 6).Span.Lo, .int .u64 ((aset p2 i727 r723) 6).Span.Hi, .int .i64 ((aset p2 i727 r723) 6).Map, .int .i64 ((aset p2 i727 r723) 7).Kind, .int .u64 ((aset p2 i727 r723) 7).Span.Lo, .int .u64 ((aset p2 i727 r723) 7).Span.Hi, .int .i64 ((aset p2 i727 r723) 7).Map] rfl ?_
    intro w729 hst
    refine OA.next trivial ?_
    refine OA.fin (by kernel_rfl) (by kernel_rfl) (QW.next (CW.region ?_))
    refine OW.pure 2 [(88, .pointer (some ⟨b1, 0, none⟩)), (89, .int .i64 o665)] (by kernel_rfl) ?_
    refine OW.ldN (cs := [.int .i64 ((aset p2 i727 r723) 0).Kind, .int .u64 ((aset p2 i727 r723) 0).Span.Lo, .int .u64 ((aset p2 i727 r723) 0).Span.Hi, .int .i64 ((aset p2 i727 r723) 0).Map, .int .i64 ((aset p2 i727 r723) 1).Kind, .int .u64 ((aset p2 i727 r723) 1).Span.Lo, .int .u64 ((aset p2 i727 r723) 1).Span.Hi, .int .i64 ((aset p2 i727 r723) 1).Map, .int .i64 ((aset p2 i727 r723) 2).Kind, .int .u64 ((aset p2 i727 r723) 2).Span.Lo, .int .u64 ((aset p2 i727 r723) 2).Span.Hi, .int .i64 ((aset p2 i727 r723) 2).Map, .int .i64 ((aset p2 i727 r723) 3).Kind, .int .u64 ((aset p2 i727 r723) 3).Span.Lo, .int .u64 ((aset p2 i727 r723) 3).Span.Hi, .int .i64 ((aset p2 i727 r723) 3).Map, .int .i64 ((aset p2 i727 r723) 4).Kind, .int .u64 ((aset p2 i727 r723) 4).Span.Lo, .int .u64 ((aset p2 i727 r723) 4).Span.Hi, .int .i64 ((aset p2 i727 r723) 4).Map, .int .i64 ((aset p2 i727 r723) 5).Kind, .int .u64 ((aset p2 i727 r723) 5).Span.Lo, .int .u64 ((aset p2 i727 r723) 5).Span.Hi, .int .i64 ((aset p2 i727 r723) 5).Map, .int .i64 ((aset p2 i727 r723) 6).Kind, .int .u64 ((aset p2 i727 r723) 6).Span.Lo, .int .u64 ((aset p2 i727 r723) 6).Span.Hi, .int .i64 ((aset p2 i727 r723) 6).Map, .int .i64 ((aset p2 i727 r723) 7).Kind, .int .u64 ((aset p2 i727 r723) 7).Span.Lo, .int .u64 ((aset p2 i727 r723) 7).Span.Hi, .int .i64 ((aset p2 i727 r723) 7).Map]) rfl rfl rfl rfl (by kernel_rfl) (by kernel_rfl) (hst.blkN 4 rfl 0 32) ?_
    obtain ⟨r735, hr736, hl636⟩ := bind_some' hl636
    refine OW.fn rfl rfl rfl rfl (by kernel_rfl) (judge_judge_come_ok _ wb Sb (.pointer (some ⟨b1, 0, none⟩)) S638 s637 o665 (aset p2 i727 r723) r735 hr736 (hst.part [0] rfl) (hb.on hst [0])) ?_
    rintro e w737 ⟨S739, rfl, hst738⟩
    refine ⟨_, rfl, ?_⟩
    have hst := hst.join (idx := [0]) (rest := [1, 2, 3, 4, 5, 6]) rfl hst738
    refine OW.nil rfl (QW.block_normal (QW.next (CW.region ?_)))
    refine OW.pure 2 [(56, .int .i64 (w64 ((i639 : Int) + 1)))] (by kernel_rfl) (OW.nil rfl ?_)
    refine QW.say 56 rfl (congrArg (Value.int .i64) (w64_cnt hc641 (by decide))) ?_
    exact QW.meet (fun a ha => ⟨n635, Nat.lt_succ_self _, i639 + 1, r735, S739, cnt_next hi640, ha.agrees (by kernel_rfl), hst.keep [0, 1, 2, 3, 6] rfl, hl636⟩)
   have hl636 := ite_f hl636 hc711
   refine CW.cond_f rfl hc711 (CW.skip (QW.block_normal (QW.next (CW.region ?_))))
   refine OW.pure 2 [(56, .int .i64 (w64 ((i639 : Int) + 1)))] (by kernel_rfl) (OW.nil rfl ?_)
   refine QW.say 56 rfl (congrArg (Value.int .i64) (w64_cnt hc641 (by decide))) ?_
   exact QW.meet (fun a ha => ⟨n635, Nat.lt_succ_self _, i639 + 1, s637, S638, cnt_next hi640, ha.agrees (by kernel_rfl), hst.keep [0, 1, 2, 3, 6] rfl, hl636⟩)
  rcases n635 with _ | n635
  ·refine CW.cond_f rfl hc641 ?_
   refine CW.exit (QW.then_exit (QW.then_exit ?_))
   refine QW.block_here ?_
   obtain rfl := Option.some.inj hl636
   exact QW.meet (fun a ha => ⟨S638, ha.agrees (by kernel_rfl), hst.keep [0] rfl⟩)
  exact (cnt1 hi640 hc641).elim
 rintro a w1 ⟨S431, ha, hst⟩
 refine QW.go ?_ ha
 obtain rfl := Option.some.inj hF
 refine QW.end0 rfl ?_
 exact ⟨S431, rfl, hst.keep [0] rfl⟩
theorem judge_judged_ok (w : World) (wb : World) (Sb : List Nat) (fu : Nat) (v0_0 : Value) (v0_1 : Value) (p0 : api_Module) (r : (Option judge_judge) × Int × Int) (hF : judge_judged fu p0 = some r)
    (hst : St w (fp []) w []) (hb : Bor wb Sb w (fp [])) (h0_0 : Rd wb Sb v0_0 (encInt .i64) 1 p0.Maps) (h0_1 : Rd wb Sb v0_1 enc_api_Inst 5 p0.Code) (hT0 : Rd w (fp []) (.slice (some ⟨0, 0, none⟩) 23 23) enc_ops_form 2 tab_g0) (hT1 : Rd w (fp []) (.slice (some ⟨1, 0, none⟩) 7 7) enc_sigs_sig 5 tab_g1) :
    Calls Tryz.prog 46 [.agg [v0_0, v0_1].toArray].toArray w (fun e w' => (∃ (k0 : judge_judge) (y0 : Value) (z0 : List Nat), r.1 = some k0 ∧ e = .returned (.tuple #[y0, .int .i64 r.2.1, .int .i64 r.2.2]) ∧ St w (fp []) w' [itI (R_t116 wb Sb) [y0] z0 k0]) ∨ (r.1 = none ∧ e = .returned (.tuple #[.pointer none, .int .i64 r.2.1, .int .i64 r.2.2]) ∧ St w (fp []) w' [])) := by
 refine CW.start (N := 83) Tryz.func46 rfl rfl rfl ?_
 have h0_0b := h0_0.bor hb
 have h0_1b := h0_1.bor hb
 obtain ⟨l1, a2, c3, rfl⟩ := h0_0b.len
 obtain ⟨l4, a5, c6, rfl⟩ := h0_1b.len
 refine CW.seq (CW.region ?_)
 refine OW.box hst rfl rfl rfl rfl [.slice a2 (p0.Maps).length c3, .slice a5 (p0.Code).length c6] rfl ?_
 intro b9 w10 hst
 refine OW.pure 3 [] (by kernel_rfl) (OW.nil rfl (QW.next (CW.seq (CW.seq (CW.region ?_)))))
 refine OW.pure 1 [(11, .pointer (some ⟨b9, 0, none⟩))] (by kernel_rfl) ?_
 refine OW.ld rfl rfl rfl rfl (by kernel_rfl) (hst.blk 0 rfl rfl) ?_
 obtain ⟨r15, hr16, hF⟩ := bind_some' hF
 refine OW.fn rfl rfl rfl rfl (by kernel_rfl) (judge_good_ok _ (.slice a2 (p0.Maps).length c3) p0.Maps r15 hr16 (hst.part [] rfl) (h0_0b.give hst [])) ?_
 rintro e w17 ⟨rfl, hst18⟩
 refine ⟨_, rfl, ?_⟩
 have hst := hst.join (idx := []) (rest := [0]) rfl hst18
 refine OW.pure 1 [(14, .bool (!r15))] (by kernel_rfl) (OW.nil rfl (QW.next ?_))
 rcases Bool.eq_false_or_eq_true ((!r15)) with hc19 | hc19
 ·have hF := ite_t hF hc19
  refine CW.cond_t rfl hc19 (CW.seq (CW.region ?_))
  refine OW.pure 3 [(2, .pointer none), (3, .int .i64 0), (4, .int .i64 2)] (by kernel_rfl) (OW.nil rfl (QW.next (CW.ret (QW.then_ret ?_))))
  obtain rfl := Option.some.inj hF
  refine QW.ret3 rfl rfl rfl rfl ?_
  exact .inr ⟨rfl, rfl, hst.keep [] rfl⟩
 have hF := ite_f hF hc19
 refine CW.cond_f rfl hc19 (CW.skip (QW.next (CW.seq (CW.seq (CW.region ?_)))))
 refine OW.pure 1 [(16, .pointer (some ⟨b9, 1, none⟩))] (by kernel_rfl) ?_
 refine OW.ld rfl rfl rfl rfl (by kernel_rfl) (hst.blk 0 rfl rfl) ?_
 obtain ⟨r24, hr25, hF⟩ := bind_some' hF
 refine OW.fn rfl rfl rfl rfl (by kernel_rfl) (flow_Check_ok _ (.slice a5 (p0.Code).length c6) p0.Code r24 hr25 (hst.part [] rfl) (h0_1b.give hst []) (hT0.give hst [])) ?_
 rintro e w26 ⟨rfl, hst27⟩
 refine ⟨_, rfl, ?_⟩
 have hst := hst.join (idx := []) (rest := [0]) rfl hst27
 refine OW.pure 5 [(5, .int .i64 r24.1), (6, .int .i64 r24.2)] (by kernel_rfl) (OW.nil rfl (QW.next (CW.seq (CW.region ?_))))
 refine OW.pure 2 [(22, .bool (r24.2 != 0))] (by kernel_rfl) (OW.nil rfl (QW.next ?_))
 rcases Bool.eq_false_or_eq_true ((r24.2 != 0)) with hc28 | hc28
 ·have hF := ite_t hF hc28
  refine CW.cond_t rfl hc28 (CW.seq (CW.region ?_))
  refine OW.pure 5 [(2, .pointer none), (3, .int .i64 r24.1), (4, .int .i64 r24.2)] (by kernel_rfl) (OW.nil rfl (QW.next (CW.ret (QW.then_ret ?_))))
  obtain rfl := Option.some.inj hF
  refine QW.ret3 rfl rfl rfl rfl ?_
  exact .inr ⟨rfl, rfl, hst.keep [] rfl⟩
 have hF := ite_f hF hc28
 refine CW.cond_f rfl hc28 (CW.skip (QW.next (CW.seq ?_)))
 obtain ⟨o53, ho54, hF⟩ := bind_some' hF
 refine CW.cutK (fun a w1 => ∃ (b51 : Nat) (S52 : List Nat), Rep 83 [(1, .pointer (some ⟨b9, 0, none⟩)), (7, .pointer (some ⟨b51, 0, none⟩))] a ∧ St w (fp []) w1 [blkI b9 25 [.slice a2 (p0.Maps).length c3, .slice a5 (p0.Code).length c6], itI (R_t116 wb Sb) [.pointer (some ⟨b51, 0, none⟩)] S52 o53]) ?_ ?_
 ·refine CW.plan (by kernel_rfl) ?_
  intro w55 hch56
  have hst := hst.same hch56
  refine OA.ldN (i := 0) (cs := [.slice a2 (p0.Maps).length c3, .slice a5 (p0.Code).length c6]) rfl (by kernel_rfl) rfl rfl rfl (by kernel_rfl) (by kernel_rfl) (hst.blkN 0 rfl 0 2) ?_
  refine OA.pure [1] [(26, .pointer (some ⟨b9, 1, none⟩))] (by kernel_rfl) ?_
  refine OA.ld (i := 2) rfl (by kernel_rfl) rfl rfl rfl (by kernel_rfl) (hst.blk 0 rfl rfl) ?_
  refine OA.pure [3, 5] [(28, .int .i64 ((p0.Code).length : Int)), (30, .pointer (some ⟨b9, 1, none⟩))] (by kernel_rfl) ?_
  refine OA.ld (i := 6) rfl (by kernel_rfl) rfl rfl rfl (by kernel_rfl) (hst.blk 0 rfl rfl) ?_
  refine OA.pure [7] [(32, .int .i64 ((p0.Code).length : Int))] (by kernel_rfl) ?_
  refine OA.acts [4, 8] 4 (by kernel_rfl) (by kernel_rfl) (by kernel_rfl) (alts_cons ?_ (alts_cons ?_ alts_nil))
  ·refine Alt.of (i := 4) [6, 0] rfl rfl (by kernel_rfl) (by kernel_rfl) ?_
   obtain ⟨m57, hm58, ho54⟩ := bind_some' ho54
   refine OW.make (enc := arrC (enc_api_Type) 8) (sz := 32) hst rfl rfl rfl rfl rfl (by kernel_rfl) el158 (fun _ => (api_Type.mk 0 (api_Span.mk 0 0) 0)) (by kernel_rfl) (fun _ => rfl) hm58 ?_
   intro g59 w60 hst
   refine OA.next ⟨(hst.blk 0 rfl rfl), (hst.blkN 0 rfl 0 2), trivial⟩ ?_
   refine OA.act (i := 8) [0] (by kernel_rfl) rfl rfl (by kernel_rfl) (by kernel_rfl) ?_
   obtain ⟨m61, hm62, ho54⟩ := bind_some' ho54
   refine OW.make (enc := encBool) (sz := 1) hst rfl rfl rfl rfl rfl (by kernel_rfl) el4 false (by kernel_rfl) (fun _ => rfl) hm62 ?_
   intro g63 w64 hst
   refine OA.next ⟨(hst.blkN 0 rfl 0 2), trivial⟩ ?_
   refine OA.pure [9] [(34, .agg [.slice a2 (p0.Maps).length c3, .slice a5 (p0.Code).length c6, .slice (some ⟨g59, 0, none⟩) m57 m57, .slice (some ⟨g63, 0, none⟩) m61 m61, .slice none 0 0].toArray)] (by kernel_rfl) ?_
   refine OA.act (i := 10) [] (by kernel_rfl) rfl rfl (by kernel_rfl) (by kernel_rfl) ?_
   refine OW.box hst rfl rfl rfl rfl [.slice a2 (p0.Maps).length c3, .slice a5 (p0.Code).length c6, .slice (some ⟨g59, 0, none⟩) m57 m57, .slice (some ⟨g63, 0, none⟩) m61 m61, .slice none 0 0] rfl ?_
   intro b65 w66 hst
   refine OA.next trivial ?_
   refine OA.act (i := 11) [] (by kernel_rfl) rfl rfl (by kernel_rfl) (by kernel_rfl) ?_
   refine OW.pure 1 [(7, .pointer (some ⟨b65, 0, none⟩))] (by kernel_rfl) (OA.next trivial ?_)
   refine OA.fin (by kernel_rfl) (by kernel_rfl) ?_
   have hst := hst.borIn h0_0
   have hst := hst.borIn h0_1
   have hst := hst.nilRow api_Loop 164 enc_api_Loop 3
   have hst := hst.toIt 1 rfl (fun _ => rfl) (by decide)
   have hst := hst.toIt 2 rfl (fun _ => rfl) (by decide)
   have hst := hst.toIt 6 rfl (fun _ => rfl) (by decide)
   obtain ⟨S67, hst⟩ := hst.shutP5 (R_t148 wb Sb) rfl 3 4 5 1 2 6 [0] rfl rfl rfl rfl rfl rfl rfl (judge_judge.mk p0 (List.replicate m57 (fun _ => (api_Type.mk 0 (api_Span.mk 0 0) 0))) (List.replicate m61 false) ([] : List api_Loop)) rfl rfl
   obtain rfl := Option.some.inj ho54
   exact QW.meet (fun a ha => ⟨b65, S67, ha.agrees (by kernel_rfl), hst.keep [0, 1] rfl⟩)
  obtain ⟨m57, hm58, ho54⟩ := bind_some' ho54
  obtain ⟨m61, hm62, ho54⟩ := bind_some' ho54
  refine Alt.of (i := 8) [2, 0] rfl rfl (by kernel_rfl) (by kernel_rfl) ?_
  refine OW.make (enc := encBool) (sz := 1) hst rfl rfl rfl rfl rfl (by kernel_rfl) el4 false (by kernel_rfl) (fun _ => rfl) hm62 ?_
  intro g68 w69 hst
  refine OA.next ⟨(hst.blk 0 rfl rfl), (hst.blkN 0 rfl 0 2), trivial⟩ ?_
  refine OA.act (i := 4) [0] (by kernel_rfl) rfl rfl (by kernel_rfl) (by kernel_rfl) ?_
  refine OW.make (enc := arrC (enc_api_Type) 8) (sz := 32) hst rfl rfl rfl rfl rfl (by kernel_rfl) el158 (fun _ => (api_Type.mk 0 (api_Span.mk 0 0) 0)) (by kernel_rfl) (fun _ => rfl) hm58 ?_
  intro g70 w71 hst
  refine OA.next ⟨(hst.blkN 0 rfl 0 2), trivial⟩ ?_
  refine OA.pure [9] [(34, .agg [.slice a2 (p0.Maps).length c3, .slice a5 (p0.Code).length c6, .slice (some ⟨g70, 0, none⟩) m57 m57, .slice (some ⟨g68, 0, none⟩) m61 m61, .slice none 0 0].toArray)] (by kernel_rfl) ?_
  refine OA.act (i := 10) [] (by kernel_rfl) rfl rfl (by kernel_rfl) (by kernel_rfl) ?_
  refine OW.box hst rfl rfl rfl rfl [.slice a2 (p0.Maps).length c3, .slice a5 (p0.Code).length c6, .slice (some ⟨g70, 0, none⟩) m57 m57, .slice (some ⟨g68, 0, none⟩) m61 m61, .slice none 0 0] rfl ?_
  intro b72 w73 hst
  refine OA.next trivial ?_
  refine OA.act (i := 11) [] (by kernel_rfl) rfl rfl (by kernel_rfl) (by kernel_rfl) ?_
  refine OW.pure 1 [(7, .pointer (some ⟨b72, 0, none⟩))] (by kernel_rfl) (OA.next trivial ?_)
  refine OA.fin (by kernel_rfl) (by kernel_rfl) ?_
  have hst := hst.borIn h0_0
  have hst := hst.borIn h0_1
  have hst := hst.nilRow api_Loop 164 enc_api_Loop 3
  have hst := hst.toIt 2 rfl (fun _ => rfl) (by decide)
  have hst := hst.toIt 1 rfl (fun _ => rfl) (by decide)
  have hst := hst.toIt 6 rfl (fun _ => rfl) (by decide)
  obtain ⟨S74, hst⟩ := hst.shutP5 (R_t148 wb Sb) rfl 3 4 5 2 1 6 [0] rfl rfl rfl rfl rfl rfl rfl (judge_judge.mk p0 (List.replicate m57 (fun _ => (api_Type.mk 0 (api_Span.mk 0 0) 0))) (List.replicate m61 false) ([] : List api_Loop)) rfl rfl
  obtain rfl := Option.some.inj ho54
  exact QW.meet (fun a ha => ⟨b72, S74, ha.agrees (by kernel_rfl), hst.keep [0, 1] rfl⟩)
 rintro a w1 ⟨b51, S52, ha, hst⟩
 refine CW.go ?_ ha
 refine CW.seq ?_
 obtain ⟨v75, S76, v77, S78, v79, S80, v81, S82, v83, S84, hst⟩ := hst.openQ5 1 rfl rfl rfl rfl rfl rfl
 have hbo85 := hst.borOut 2 rfl
 have hbr86 := hbo85.bor hb
 have hbo87 := hst.borOut 3 rfl
 have hbr88 := hbo87.bor hb
 have hst := hst.toRow1 4 rfl
 have hst := hst.toRow1 5 rfl
 have hst := hst.toRow1 6 rfl
 have hst := hst.keep [0, 1, 4, 5, 6] rfl
 obtain ⟨l89, a90, c91, rfl⟩ := hbr86.len
 obtain ⟨l92, a93, c94, rfl⟩ := hbr88.len
 obtain ⟨l95, a96, c97, rfl⟩ := hst.len 2 rfl
 obtain ⟨l98, a99, c100, rfl⟩ := hst.len 3 rfl
 obtain ⟨l101, a102, c103, rfl⟩ := hst.len 4 rfl
 have hst : St _ _ _ [_, blkI b51 148 [.slice a90 (o53.Module.Maps).length c91, .slice a93 (o53.Module.Code).length c94, .slice a96 (o53.came).length c97, .slice a99 (o53.any).length c100, .slice a102 (o53.loops).length c103], _, _, _] := hst
 refine CW.region ?_
 refine OW.pure 2 [(37, .pointer (some ⟨b51, 0, none⟩)), (38, .pointer (some ⟨b9, 1, none⟩))] (by kernel_rfl) ?_
 refine OW.ld rfl rfl rfl rfl (by kernel_rfl) (hst.blk 0 rfl rfl) ?_
 obtain ⟨r113, hr114, hF⟩ := bind_some' hF
 refine OW.fn rfl rfl rfl rfl (by kernel_rfl) (flow_Loops_ok _ (.slice a5 (p0.Code).length c6) p0.Code r113 hr114 (hst.part [] rfl) (h0_1b.give hst []) (hT0.give hst [])) ?_
 rintro e w115 ⟨v117, rfl, hst116⟩
 refine ⟨_, rfl, ?_⟩
 have hst := hst.join (idx := []) (rest := [0, 1, 2, 3, 4]) rfl hst116
 obtain ⟨l118, a119, c120, rfl⟩ := hst.len 0 rfl
 refine OW.pure 5 [(41, .slice a119 (r113.1).length c120), (44, .pointer (some ⟨b51, 4, none⟩))] (by kernel_rfl) ?_
 refine OW.stB hst 2 rfl rfl rfl rfl rfl (by kernel_rfl) rfl rfl [.slice a90 (o53.Module.Maps).length c91, .slice a93 (o53.Module.Code).length c94, .slice a96 (o53.came).length c97, .slice a99 (o53.any).length c100, .slice a119 (r113.1).length c120] rfl ?_
 intro w121 hst
 refine OW.nil rfl (QW.next (CW.seq (CW.region ?_)))
 refine OW.pure 3 [(47, .pointer (some ⟨b51, 3, none⟩))] (by kernel_rfl) ?_
 refine OW.ld rfl rfl rfl rfl (by kernel_rfl) (hst.blk 2 rfl rfl) ?_
 obtain ⟨x129, hx130, hF⟩ := bind_some' hF
 obtain ⟨g132, o133, c134, hv131⟩ := hst.rowv 4 rfl hx130
 refine OW.idx 4 1 rfl rfl rfl rfl hv131 rfl (idx_some hx130).1 (idx_some hx130).2.1 (by kernel_rfl) (by kernel_rfl) ?_
 refine OW.stR hst 4 rfl hv131 (fun _ => rfl) rfl rfl hx130 0 rfl rfl rfl (by kernel_rfl) rfl rfl true rfl ?_
 intro w135 hst
 refine OW.nil rfl (QW.next (CW.seq (CW.seq (CW.region ?_))))
 refine OW.pure 1 [(50, .pointer (some ⟨b9, 1, none⟩))] (by kernel_rfl) ?_
 refine OW.ld rfl rfl rfl rfl (by kernel_rfl) (hst.blk 1 rfl rfl) ?_
 refine OW.pure 2 [(52, .int .i64 ((p0.Code).length : Int)), (53, .int .i64 0)] (by kernel_rfl) (OW.nil rfl (QW.next ?_))
 obtain ⟨o396, ho397, hF⟩ := bind_some' hF
 refine CW.cutK (fun a w1 => ∃ (t398 : judge_judge) (S395 : List Nat), o396 = .inl t398 ∧ Rep 83 [(7, .pointer (some ⟨b51, 0, none⟩))] a ∧ St w (fp []) w1 [itI (R_t116 wb Sb) [.pointer (some ⟨b51, 0, none⟩)] S395 t398]) ?_ ?_
 ·refine CW.block ?_
  have hst := hst.borIn hbo85
  have hst := hst.borIn hbo87
  have hst := hst.toIt 3 rfl (fun _ => rfl) (by decide)
  have hst := hst.toIt 4 rfl (fun _ => rfl) (by decide)
  have hst := hst.toIt 0 rfl (fun _ => rfl) (by decide)
  obtain ⟨S399, hst⟩ := hst.shutP5 (R_t148 wb Sb) rfl 2 6 7 3 4 0 [1, 5] rfl rfl rfl rfl rfl rfl rfl (judge_judge.mk o53.Module o53.came (o53.any.set (Int.toNat 0) true) r113.1) rfl rfl
  refine CW.loop (fun n a w1 => ∃ (i573 : Nat) (s571 : judge_judge) (S572 : List Nat), i573 + n = (p0.Code).length ∧ Rep 83 [(7, .pointer (some ⟨b51, 0, none⟩)), (52, .int .i64 ((p0.Code).length : Int)), (53, .int .i64 (i573 : Int))] a ∧ St w (fp []) w1 [itI (R_t116 wb Sb) [.pointer (some ⟨b51, 0, none⟩)] S572 s571] ∧ forN (judge_judged_l1 fu) (fun (s571 : judge_judge) => (.inl s571)) n i573 s571 = some o396) (p0.Code).length (fun a ha => ⟨0, (judge_judge.mk o53.Module o53.came (o53.any.set (Int.toNat 0) true) r113.1), S399, Nat.zero_add _, ha.agrees (by kernel_rfl), hst.keep [2] rfl, ho397⟩) ?_
  rintro n569 a w1 ⟨i573, s571, S572, hi574, ha, hst, hl570⟩
  refine CW.go ?_ ha
  refine CW.seq (CW.region ?_)
  refine OW.pure 1 [(54, .bool (decide ((i573 : Int) < ((p0.Code).length : Int))))] (by kernel_rfl) (OW.nil rfl (QW.next (CW.seq ?_)))
  rcases Bool.eq_false_or_eq_true (decide ((i573 : Int) < ((p0.Code).length : Int))) with hc575 | hc575
  ·rcases n569 with _ | n569
   ·exact (cnt0 hi574 hc575).elim
   refine CW.cond_t rfl hc575 (CW.skip (QW.next (CW.seq (CW.block (CW.seq (CW.region ?_))))))
   refine OW.pure 2 [(8, .int .i64 (i573 : Int))] (by kernel_rfl) (OW.nil rfl (QW.next (CW.seq (CW.seq ?_))))
   obtain ⟨v576, S577, v578, S579, v580, S581, v582, S583, v584, S585, hst⟩ := hst.openQ5 0 rfl rfl rfl rfl rfl rfl
   have hbo586 := hst.borOut 1 rfl
   have hbr587 := hbo586.bor hb
   have hbo588 := hst.borOut 2 rfl
   have hbr589 := hbo588.bor hb
   have hst := hst.toRow1 3 rfl
   have hst := hst.toRow1 4 rfl
   have hst := hst.toRow1 5 rfl
   have hst := hst.keep [0, 3, 4, 5] rfl
   obtain ⟨l590, a591, c592, rfl⟩ := hbr587.len
   obtain ⟨l593, a594, c595, rfl⟩ := hbr589.len
   obtain ⟨l596, a597, c598, rfl⟩ := hst.len 1 rfl
   obtain ⟨l599, a600, c601, rfl⟩ := hst.len 2 rfl
   obtain ⟨l602, a603, c604, rfl⟩ := hst.len 3 rfl
   have hst : St _ _ _ [blkI b51 148 [.slice a591 (s571.Module.Maps).length c592, .slice a594 (s571.Module.Code).length c595, .slice a597 (s571.came).length c598, .slice a600 (s571.any).length c601, .slice a603 (s571.loops).length c604], _, _, _] := hst
   refine CW.region ?_
   refine OW.pure 3 [(58, .pointer (some ⟨b51, 3, none⟩))] (by kernel_rfl) ?_
   refine OW.ld rfl rfl rfl rfl (by kernel_rfl) (hst.blk 0 rfl rfl) ?_
   refine OW.pure 1 [(60, .int .i64 (i573 : Int))] (by kernel_rfl) ?_
   obtain ⟨x611, hx612, hl570⟩ := bind_some' hl570
   obtain ⟨g614, o615, c616, hv613⟩ := hst.rowv 2 rfl hx612
   refine OW.idx 4 1 rfl rfl rfl rfl hv613 rfl (idx_some hx612).1 (idx_some hx612).2.1 (by kernel_rfl) (by kernel_rfl) ?_
   refine OW.ld rfl rfl rfl rfl (by kernel_rfl) (hst.rowc 2 rfl (fun _ => rfl) hx612 hv613 0 _ rfl) ?_
   refine OW.pure 1 [(63, .bool (!x611))] (by kernel_rfl) (OW.nil rfl (QW.next ?_))
   rcases Bool.eq_false_or_eq_true ((!x611)) with hc617 | hc617
   ·have hl570 := ite_t hl570 hc617
    refine CW.cond_t rfl hc617 ?_
    refine CW.exit (QW.then_exit ?_)
    refine QW.block_here (QW.next (CW.region ?_))
    refine OW.pure 2 [(53, .int .i64 (w64 ((i573 : Int) + 1)))] (by kernel_rfl) (OW.nil rfl ?_)
    have hst := hst.borIn hbo586
    have hst := hst.borIn hbo588
    have hst := hst.toIt 1 rfl (fun _ => rfl) (by decide)
    have hst := hst.toIt 2 rfl (fun _ => rfl) (by decide)
    have hst := hst.toIt 3 rfl (fun _ => rfl) (by decide)
    obtain ⟨S618, hst⟩ := hst.shutP5 (R_t148 wb Sb) rfl 0 4 5 1 2 3 [] rfl rfl rfl rfl rfl rfl rfl s571 rfl rfl
    refine QW.say 53 rfl (congrArg (Value.int .i64) (w64_cnt hc575 l4)) ?_
    exact QW.meet (fun a ha => ⟨n569, Nat.lt_succ_self _, i573 + 1, s571, S618, cnt_next hi574, ha.agrees (by kernel_rfl), hst.keep [0] rfl, hl570⟩)
   have hl570 := ite_f hl570 hc617
   refine CW.cond_f rfl hc617 (CW.skip (QW.next (CW.seq (CW.region ?_))))
   refine OW.pure 2 [(64, .pointer (some ⟨b51, 0, none⟩)), (65, .int .i64 (i573 : Int))] (by kernel_rfl) ?_
   have hst := hst.borIn hbo586
   have hst := hst.borIn hbo588
   have hst := hst.toIt 1 rfl (fun _ => rfl) (by decide)
   have hst := hst.toIt 2 rfl (fun _ => rfl) (by decide)
   have hst := hst.toIt 3 rfl (fun _ => rfl) (by decide)
   obtain ⟨S625, hst⟩ := hst.shutP5 (R_t148 wb Sb) rfl 0 4 5 1 2 3 [] rfl rfl rfl rfl rfl rfl rfl s571 rfl rfl
   obtain ⟨r626, hr627, hl570⟩ := bind_some' hl570
   refine OW.fn rfl rfl rfl rfl (by kernel_rfl) (judge_judge_widen_ok _ wb Sb (.pointer (some ⟨b51, 0, none⟩)) S625 s571 (i573 : Int) r626 hr627 (hst.part [0] rfl) (hb.on hst [0]) (hT0.give hst [0])) ?_
   rintro e w628 ⟨S630, rfl, hst629⟩
   refine ⟨_, rfl, ?_⟩
   have hst := hst.join (idx := [0]) (rest := []) rfl hst629
   refine OW.nil rfl (QW.next (CW.seq (CW.region ?_)))
   refine OW.pure 2 [(68, .pointer (some ⟨b51, 0, none⟩)), (69, .int .i64 (i573 : Int))] (by kernel_rfl) ?_
   obtain ⟨r639, hr640, hl570⟩ := bind_some' hl570
   refine OW.fn rfl rfl rfl rfl (by kernel_rfl) (judge_judge_one_ok _ wb Sb fu (.pointer (some ⟨b51, 0, none⟩)) S630 r626 (i573 : Int) r639 hr640 (hst.part [0] rfl) (hb.on hst [0]) (hT0.give hst [0]) (hT1.give hst [0])) ?_
   rintro e w641 ⟨S643, rfl, hst642⟩
   refine ⟨_, rfl, ?_⟩
   have hst := hst.join (idx := [0]) (rest := []) rfl hst642
   refine OW.pure 3 [(71, .agg [.int .i64 (r639.1 0).Kind, .int .u64 (r639.1 0).Span.Lo, .int .u64 (r639.1 0).Span.Hi, .int .i64 (r639.1 0).Map, .int .i64 (r639.1 1).Kind, .int .u64 (r639.1 1).Span.Lo, .int .u64 (r639.1 1).Span.Hi, .int .i64 (r639.1 1).Map, .int .i64 (r639.1 2).Kind, .int .u64 (r639.1 2).Span.Lo, .int .u64 (r639.1 2).Span.Hi, .int .i64 (r639.1 2).Map, .int .i64 (r639.1 3).Kind, .int .u64 (r639.1 3).Span.Lo, .int .u64 (r639.1 3).Span.Hi, .int .i64 (r639.1 3).Map, .int .i64 (r639.1 4).Kind, .int .u64 (r639.1 4).Span.Lo, .int .u64 (r639.1 4).Span.Hi, .int .i64 (r639.1 4).Map, .int .i64 (r639.1 5).Kind, .int .u64 (r639.1 5).Span.Lo, .int .u64 (r639.1 5).Span.Hi, .int .i64 (r639.1 5).Map, .int .i64 (r639.1 6).Kind, .int .u64 (r639.1 6).Span.Lo, .int .u64 (r639.1 6).Span.Hi, .int .i64 (r639.1 6).Map, .int .i64 (r639.1 7).Kind, .int .u64 (r639.1 7).Span.Lo, .int .u64 (r639.1 7).Span.Hi, .int .i64 (r639.1 7).Map].toArray), (72, .int .i64 r639.2)] (by kernel_rfl) ?_
   refine OW.alloc hst rfl rfl rfl [.int .i64 0, .int .u64 0, .int .u64 0, .int .i64 0, .int .i64 0, .int .u64 0, .int .u64 0, .int .i64 0, .int .i64 0, .int .u64 0, .int .u64 0, .int .i64 0, .int .i64 0, .int .u64 0, .int .u64 0, .int .i64 0, .int .i64 0, .int .u64 0, .int .u64 0, .int .i64 0, .int .i64 0, .int .u64 0, .int .u64 0, .int .i64 0, .int .i64 0, .int .u64 0, .int .u64 0, .int .i64 0, .int .i64 0, .int .u64 0, .int .u64 0, .int .i64 0] (by kernel_rfl) ?_
   intro b644 w645 hst
   refine OW.stB hst 1 rfl rfl rfl rfl rfl (by kernel_rfl) rfl rfl [.int .i64 (r639.1 0).Kind, .int .u64 (r639.1 0).Span.Lo, .int .u64 (r639.1 0).Span.Hi, .int .i64 (r639.1 0).Map, .int .i64 (r639.1 1).Kind, .int .u64 (r639.1 1).Span.Lo, .int .u64 (r639.1 1).Span.Hi, .int .i64 (r639.1 1).Map, .int .i64 (r639.1 2).Kind, .int .u64 (r639.1 2).Span.Lo, .int .u64 (r639.1 2).Span.Hi, .int .i64 (r639.1 2).Map, .int .i64 (r639.1 3).Kind, .int .u64 (r639.1 3).Span.Lo, .int .u64 (r639.1 3).Span.Hi, .int .i64 (r639.1 3).Map, .int .i64 (r639.1 4).Kind, .int .u64 (r639.1 4).Span.Lo, .int .u64 (r639.1 4).Span.Hi, .int .i64 (r639.1 4).Map, .int .i64 (r639.1 5).Kind, .int .u64 (r639.1 5).Span.Lo, .int .u64 (r639.1 5).Span.Hi, .int .i64 (r639.1 5).Map, .int .i64 (r639.1 6).Kind, .int .u64 (r639.1 6).Span.Lo, .int .u64 (r639.1 6).Span.Hi, .int .i64 (r639.1 6).Map, .int .i64 (r639.1 7).Kind, .int .u64 (r639.1 7).Span.Lo, .int .u64 (r639.1 7).Span.Hi, .int .i64 (r639.1 7).Map] rfl ?_
   intro w646 hst
   refine OW.pure 1 [(10, .int .i64 r639.2)] (by kernel_rfl) (OW.nil rfl (QW.next (CW.seq (CW.seq (CW.region ?_)))))
   refine OW.pure 2 [(74, .bool (r639.2 != 0))] (by kernel_rfl) (OW.nil rfl (QW.next ?_))
   rcases Bool.eq_false_or_eq_true ((r639.2 != 0)) with hc647 | hc647
   ·have hl570 := ite_t hl570 hc647
    refine CW.cond_t rfl hc647 (CW.seq (CW.region ?_))
    refine OW.pure 5 [(2, .pointer none), (3, .int .i64 (i573 : Int)), (4, .int .i64 r639.2)] (by kernel_rfl) (OW.nil rfl (QW.next (CW.ret (QW.then_ret (QW.block_ret (QW.then_ret (QW.then_ret (QW.block_ret (QW.then_ret ?_)))))))))
    obtain rfl := Option.some.inj hl570
    obtain rfl := Option.some.inj hF
    refine QW.ret3 rfl rfl rfl rfl ?_
    exact .inr ⟨rfl, rfl, hst.keep [] rfl⟩
   have hl570 := ite_f hl570 hc647
   refine CW.cond_f rfl hc647 (CW.skip (QW.next (CW.region ?_)))
   refine OW.pure 2 [(77, .pointer (some ⟨b51, 0, none⟩)), (78, .int .i64 (i573 : Int))] (by kernel_rfl) ?_
   refine OW.ldN (cs := [.int .i64 (r639.1 0).Kind, .int .u64 (r639.1 0).Span.Lo, .int .u64 (r639.1 0).Span.Hi, .int .i64 (r639.1 0).Map, .int .i64 (r639.1 1).Kind, .int .u64 (r639.1 1).Span.Lo, .int .u64 (r639.1 1).Span.Hi, .int .i64 (r639.1 1).Map, .int .i64 (r639.1 2).Kind, .int .u64 (r639.1 2).Span.Lo, .int .u64 (r639.1 2).Span.Hi, .int .i64 (r639.1 2).Map, .int .i64 (r639.1 3).Kind, .int .u64 (r639.1 3).Span.Lo, .int .u64 (r639.1 3).Span.Hi, .int .i64 (r639.1 3).Map, .int .i64 (r639.1 4).Kind, .int .u64 (r639.1 4).Span.Lo, .int .u64 (r639.1 4).Span.Hi, .int .i64 (r639.1 4).Map, .int .i64 (r639.1 5).Kind, .int .u64 (r639.1 5).Span.Lo, .int .u64 (r639.1 5).Span.Hi, .int .i64 (r639.1 5).Map, .int .i64 (r639.1 6).Kind, .int .u64 (r639.1 6).Span.Lo, .int .u64 (r639.1 6).Span.Hi, .int .i64 (r639.1 6).Map, .int .i64 (r639.1 7).Kind, .int .u64 (r639.1 7).Span.Lo, .int .u64 (r639.1 7).Span.Hi, .int .i64 (r639.1 7).Map]) rfl rfl rfl rfl (by kernel_rfl) (by kernel_rfl) (hst.blkN 1 rfl 0 32) ?_
   obtain ⟨r653, hr654, hl570⟩ := bind_some' hl570
   refine OW.fn rfl rfl rfl rfl (by kernel_rfl) (judge_judge_ways_ok _ wb Sb (.pointer (some ⟨b51, 0, none⟩)) S643 r626 (i573 : Int) r639.1 r653 hr654 (hst.part [0] rfl) (hb.on hst [0]) (hT0.give hst [0])) ?_
   rintro e w655 ⟨S657, rfl, hst656⟩
   refine ⟨_, rfl, ?_⟩
   have hst := hst.join (idx := [0]) (rest := [1]) rfl hst656
   refine OW.nil rfl (QW.block_normal (QW.next (CW.region ?_)))
   refine OW.pure 2 [(53, .int .i64 (w64 ((i573 : Int) + 1)))] (by kernel_rfl) (OW.nil rfl ?_)
   refine QW.say 53 rfl (congrArg (Value.int .i64) (w64_cnt hc575 l4)) ?_
   exact QW.meet (fun a ha => ⟨n569, Nat.lt_succ_self _, i573 + 1, r653, S657, cnt_next hi574, ha.agrees (by kernel_rfl), hst.keep [0] rfl, hl570⟩)
  rcases n569 with _ | n569
  ·refine CW.cond_f rfl hc575 ?_
   refine CW.exit (QW.then_exit (QW.then_exit ?_))
   refine QW.block_here ?_
   obtain rfl := Option.some.inj hl570
   exact QW.meet (fun a ha => ⟨s571, S572, rfl, ha.agrees (by kernel_rfl), hst.keep [0] rfl⟩)
  exact (cnt1 hi574 hc575).elim
 rintro a w1 ⟨t398, S395, rfl, ha, hst⟩
 refine CW.go ?_ ha
 refine CW.seq (CW.region ?_)
 refine OW.pure 4 [(2, .pointer (some ⟨b51, 0, none⟩)), (3, .int .i64 0), (4, .int .i64 0)] (by kernel_rfl) (OW.nil rfl (QW.next (CW.ret ?_)))
 obtain rfl := Option.some.inj hF
 refine QW.ret3 rfl rfl rfl rfl ?_
 exact .inl ⟨_, (.pointer (some ⟨b51, 0, none⟩)), S395, rfl, rfl, hst.keep [0] rfl⟩
theorem judge_Judge_ok (w : World) (wb : World) (Sb : List Nat) (fu : Nat) (v0_0 : Value) (v0_1 : Value) (p0 : api_Module) (r : Int × Int) (hF : judge_Judge fu p0 = some r)
    (hst : St w (fp []) w []) (hb : Bor wb Sb w (fp [])) (h0_0 : Rd wb Sb v0_0 (encInt .i64) 1 p0.Maps) (h0_1 : Rd wb Sb v0_1 enc_api_Inst 5 p0.Code) (hT0 : Rd w (fp []) (.slice (some ⟨0, 0, none⟩) 23 23) enc_ops_form 2 tab_g0) (hT1 : Rd w (fp []) (.slice (some ⟨1, 0, none⟩) 7 7) enc_sigs_sig 5 tab_g1) :
    Calls Tryz.prog 23 [.agg [v0_0, v0_1].toArray].toArray w (fun e w' => e = .returned (.tuple #[.int .i64 r.1, .int .i64 r.2]) ∧ St w (fp []) w' []) := by
 refine CW.start (N := 15) Tryz.func23 rfl rfl rfl ?_
 have h0_0b := h0_0.bor hb
 have h0_1b := h0_1.bor hb
 obtain ⟨l1, a2, c3, rfl⟩ := h0_0b.len
 obtain ⟨l4, a5, c6, rfl⟩ := h0_1b.len
 refine CW.seq (CW.region ?_)
 refine OW.box hst rfl rfl rfl rfl [.slice a2 (p0.Maps).length c3, .slice a5 (p0.Code).length c6] rfl ?_
 intro b9 w10 hst
 refine OW.pure 2 [] (by kernel_rfl) (OW.nil rfl (QW.next (CW.seq (CW.region ?_))))
 refine OW.ldN (cs := [.slice a2 (p0.Maps).length c3, .slice a5 (p0.Code).length c6]) rfl rfl rfl rfl (by kernel_rfl) (by kernel_rfl) (hst.blkN 0 rfl 0 2) ?_
 obtain ⟨r21, hr22, hF⟩ := bind_some' hF
 refine OW.fn rfl rfl rfl rfl (by kernel_rfl) (judge_judged_ok _ wb Sb fu (.slice a2 (p0.Maps).length c3) (.slice a5 (p0.Code).length c6) p0 r21 hr22 (hst.part [] rfl) (hb.on hst []) h0_0 h0_1 (hT0.give hst []) (hT1.give hst [])) ?_
 rintro e w23 (⟨k25, v27, S28, he26, rfl, hst24⟩ | ⟨he29, rfl, hst24⟩)
 ·have hF := ocase_some hF he26
  refine ⟨_, rfl, ?_⟩
  have hst := hst.join (idx := []) (rest := [0]) rfl hst24
  obtain ⟨b30, rfl⟩ := hst.fptr 0 rfl
  refine OW.pure 7 [(5, .int .i64 r21.2.1), (6, .int .i64 r21.2.2)] (by kernel_rfl) (OW.nil rfl (QW.next (CW.seq (CW.region ?_))))
  refine OW.pure 4 [(2, .int .i64 r21.2.1), (3, .int .i64 r21.2.2)] (by kernel_rfl) (OW.nil rfl (QW.next (CW.ret ?_)))
  obtain rfl := Option.some.inj hF
  refine QW.ret2 rfl rfl rfl ?_
  exact ⟨rfl, hst.keep [] rfl⟩
 have hF := ocase_none hF he29
 refine ⟨_, rfl, ?_⟩
 have hst := hst.join (idx := []) (rest := [0]) rfl hst24
 refine OW.pure 7 [(5, .int .i64 r21.2.1), (6, .int .i64 r21.2.2)] (by kernel_rfl) (OW.nil rfl (QW.next (CW.seq (CW.region ?_))))
 refine OW.pure 4 [(2, .int .i64 r21.2.1), (3, .int .i64 r21.2.2)] (by kernel_rfl) (OW.nil rfl (QW.next (CW.ret ?_)))
 obtain rfl := Option.some.inj hF
 refine QW.ret2 rfl rfl rfl ?_
 exact ⟨rfl, hst.keep [] rfl⟩
theorem scratch_Words_Wipe_ok (w : World) (b0 : Nat) (T0 : TypeId) (A0 C0 : List Value) (p0 : scratch_Words) (r : scratch_Words) (hF : scratch_Words_Wipe p0 = some r)
    (hst : St w (fp [partI b0 T0 A0 [.int .u64 (p0.words 0), .int .u64 (p0.words 1), .int .u64 (p0.words 2), .int .u64 (p0.words 3), .int .u64 (p0.words 4), .int .u64 (p0.words 5), .int .u64 (p0.words 6), .int .u64 (p0.words 7), .int .u64 (p0.words 8), .int .u64 (p0.words 9), .int .u64 (p0.words 10), .int .u64 (p0.words 11), .int .u64 (p0.words 12), .int .u64 (p0.words 13), .int .u64 (p0.words 14), .int .u64 (p0.words 15)] C0]) w [partI b0 T0 A0 [.int .u64 (p0.words 0), .int .u64 (p0.words 1), .int .u64 (p0.words 2), .int .u64 (p0.words 3), .int .u64 (p0.words 4), .int .u64 (p0.words 5), .int .u64 (p0.words 6), .int .u64 (p0.words 7), .int .u64 (p0.words 8), .int .u64 (p0.words 9), .int .u64 (p0.words 10), .int .u64 (p0.words 11), .int .u64 (p0.words 12), .int .u64 (p0.words 13), .int .u64 (p0.words 14), .int .u64 (p0.words 15)] C0]) :
    Calls Tryz.prog 27 [.pointer (some ⟨b0, A0.length + 0, none⟩)].toArray w (fun e w' => e = .returned (.tuple #[]) ∧ St w (fp [partI b0 T0 A0 [.int .u64 (p0.words 0), .int .u64 (p0.words 1), .int .u64 (p0.words 2), .int .u64 (p0.words 3), .int .u64 (p0.words 4), .int .u64 (p0.words 5), .int .u64 (p0.words 6), .int .u64 (p0.words 7), .int .u64 (p0.words 8), .int .u64 (p0.words 9), .int .u64 (p0.words 10), .int .u64 (p0.words 11), .int .u64 (p0.words 12), .int .u64 (p0.words 13), .int .u64 (p0.words 14), .int .u64 (p0.words 15)] C0]) w' [partI b0 T0 A0 [.int .u64 (r.words 0), .int .u64 (r.words 1), .int .u64 (r.words 2), .int .u64 (r.words 3), .int .u64 (r.words 4), .int .u64 (r.words 5), .int .u64 (r.words 6), .int .u64 (r.words 7), .int .u64 (r.words 8), .int .u64 (r.words 9), .int .u64 (r.words 10), .int .u64 (r.words 11), .int .u64 (r.words 12), .int .u64 (r.words 13), .int .u64 (r.words 14), .int .u64 (r.words 15)] C0]) := by
 refine CW.start (N := 6) Tryz.func27 rfl rfl rfl (CW.region ?_)
 refine OW.pure 3 [(4, .pointer (some ⟨b0, A0.length + 0, none⟩))] (by kernel_rfl) ?_
 refine OW.op (v := .slice (some ⟨b0, A0.length + 0, none⟩) 16 16) rfl rfl rfl rfl (fun a ha => asl_all (e := 26) 1 rfl rfl (by kernel_rfl) (by kernel_rfl) a _ ha) ?_
 refine OW.clearP (e := 26) (z := .int .u64 0) hst 0 rfl rfl rfl 0 (n := 15) rfl rfl (by kernel_rfl) (by kernel_rfl) [.int .u64 0, .int .u64 0, .int .u64 0, .int .u64 0, .int .u64 0, .int .u64 0, .int .u64 0, .int .u64 0, .int .u64 0, .int .u64 0, .int .u64 0, .int .u64 0, .int .u64 0, .int .u64 0, .int .u64 0, .int .u64 0] (by kernel_rfl) rfl rfl [.int .u64 0, .int .u64 0, .int .u64 0, .int .u64 0, .int .u64 0, .int .u64 0, .int .u64 0, .int .u64 0, .int .u64 0, .int .u64 0, .int .u64 0, .int .u64 0, .int .u64 0, .int .u64 0, .int .u64 0, .int .u64 0] rfl ?_
 intro w2 hst
 refine OW.nil rfl ?_
 obtain rfl := Option.some.inj hF
 refine QW.end0 rfl ?_
 exact ⟨rfl, hst.keep [0] rfl⟩
theorem slices_Clone_int_int_ok (w : World) (v0 : Value) (p0 : List Int) (r : (List Int)) (hF : slices_Clone_int_int p0 = some r)
    (hst : St w (fp []) w []) (h0 : Rd w (fp []) v0 (encInt .i64) 1 p0) :
    Calls Tryz.prog 28 [v0].toArray w (fun e w' => ∃ (x0 : Value), e = .returned (x0) ∧ St w (fp []) w' [rowI x0 3 (encInt .i64) 1 r]) := by
 refine CW.start (N := 8) Tryz.func28 rfl rfl rfl ?_
 obtain ⟨l1, a2, c3, rfl⟩ := h0.len
 refine CW.seq (CW.region ?_)
 refine OW.pure 1 [] (by kernel_rfl) (OW.nil rfl (QW.next (CW.seq (CW.seq (CW.region ?_)))))
 refine OW.pure 1 [(3, .slice a2 (p0).length c3)] (by kernel_rfl) ?_
 refine OW.op (v := .bool (a2).isNone) rfl rfl rfl rfl (fun a ha => snil_run (e := 3) rfl rfl rfl (by kernel_rfl) a _ ha) (OW.nil rfl (QW.next ?_))
 rcases Bool.eq_false_or_eq_true ((a2).isNone) with hc4 | hc4
 ·have hn5 := h0.isnil (fun _ => ⟨_, rfl⟩) hc4
  have hF : some ([] : List Int) = some r := by rw [hn5] at hF; exact hF
  refine CW.cond_t rfl hc4 (CW.seq (CW.region ?_))
  refine OW.pure 1 [(2, .slice none 0 0)] (by kernel_rfl) (OW.nil rfl (QW.next (CW.ret (QW.then_ret ?_))))
  have hst := hst.nilRow Int 3 (encInt .i64) 1
  obtain rfl := Option.some.inj hF
  refine QW.ret1 rfl rfl ?_
  exact ⟨(.slice none 0 0), rfl, hst.keep [0] rfl⟩
 refine CW.cond_f rfl hc4 (CW.skip (QW.next (CW.seq (CW.region ?_))))
 refine OW.row (α := Int) (e := 3) (enc := encInt .i64) (sz := 1) hst rfl rfl rfl [] rfl (fun _ => rfl) rfl rfl (fun _ => by kernel_rfl) ?_
 intro g15 w16 hst
 refine OW.pure 1 [(6, .slice a2 (p0).length c3)] (by kernel_rfl) ?_
 obtain ⟨u17, hr18, hF⟩ := bind_some' hF
 refine OW.app hst 0 rfl (fun _ => rfl) (fun _ => rfl) rfl rfl rfl rfl rfl rfl (by kernel_rfl) el3 (h0.on hst) (room_le hr18) ?_
 intro v19 w20 hst
 obtain ⟨l21, a22, c23, rfl⟩ := hst.len 0 rfl
 refine OW.pure 1 [(2, .slice a22 ((([] : List Int) ++ p0)).length c23)] (by kernel_rfl) (OW.nil rfl (QW.next (CW.ret ?_)))
 obtain rfl := Option.some.inj hF
 refine QW.ret1 rfl rfl ?_
 exact ⟨(.slice a22 ((([] : List Int) ++ p0)).length c23), rfl, hst.keep [0] rfl⟩
theorem slices_Clone_tappet_api_Inst_tappet_api_Inst_ok (w : World) (v0 : Value) (p0 : List api_Inst) (r : (List api_Inst)) (hF : slices_Clone_tappet_api_Inst_tappet_api_Inst p0 = some r)
    (hst : St w (fp []) w []) (h0 : Rd w (fp []) v0 enc_api_Inst 5 p0) :
    Calls Tryz.prog 29 [v0].toArray w (fun e w' => ∃ (x0 : Value), e = .returned (x0) ∧ St w (fp []) w' [rowI x0 43 enc_api_Inst 5 r]) := by
 refine CW.start (N := 8) Tryz.func29 rfl rfl rfl ?_
 obtain ⟨l1, a2, c3, rfl⟩ := h0.len
 refine CW.seq (CW.region ?_)
 refine OW.pure 1 [] (by kernel_rfl) (OW.nil rfl (QW.next (CW.seq (CW.seq (CW.region ?_)))))
 refine OW.pure 1 [(3, .slice a2 (p0).length c3)] (by kernel_rfl) ?_
 refine OW.op (v := .bool (a2).isNone) rfl rfl rfl rfl (fun a ha => snil_run (e := 43) rfl rfl rfl (by kernel_rfl) a _ ha) (OW.nil rfl (QW.next ?_))
 rcases Bool.eq_false_or_eq_true ((a2).isNone) with hc4 | hc4
 ·have hn5 := h0.isnil (fun _ => ⟨_, rfl⟩) hc4
  have hF : some ([] : List api_Inst) = some r := by rw [hn5] at hF; exact hF
  refine CW.cond_t rfl hc4 (CW.seq (CW.region ?_))
  refine OW.pure 1 [(2, .slice none 0 0)] (by kernel_rfl) (OW.nil rfl (QW.next (CW.ret (QW.then_ret ?_))))
  have hst := hst.nilRow api_Inst 43 enc_api_Inst 5
  obtain rfl := Option.some.inj hF
  refine QW.ret1 rfl rfl ?_
  exact ⟨(.slice none 0 0), rfl, hst.keep [0] rfl⟩
 refine CW.cond_f rfl hc4 (CW.skip (QW.next (CW.seq (CW.region ?_))))
 refine OW.row (α := api_Inst) (e := 43) (enc := enc_api_Inst) (sz := 5) hst rfl rfl rfl [] rfl (fun _ => rfl) rfl rfl (fun _ => by kernel_rfl) ?_
 intro g15 w16 hst
 refine OW.pure 1 [(6, .slice a2 (p0).length c3)] (by kernel_rfl) ?_
 obtain ⟨u17, hr18, hF⟩ := bind_some' hF
 refine OW.app hst 0 rfl (fun _ => rfl) (fun _ => rfl) rfl rfl rfl rfl rfl rfl (by kernel_rfl) el43 (h0.on hst) (room_le hr18) ?_
 intro v19 w20 hst
 obtain ⟨l21, a22, c23, rfl⟩ := hst.len 0 rfl
 refine OW.pure 1 [(2, .slice a22 ((([] : List api_Inst) ++ p0)).length c23)] (by kernel_rfl) (OW.nil rfl (QW.next (CW.ret ?_)))
 obtain rfl := Option.some.inj hF
 refine QW.ret1 rfl rfl ?_
 exact ⟨(.slice a22 ((([] : List api_Inst) ++ p0)).length c23), rfl, hst.keep [0] rfl⟩
theorem engine_New_ok (w : World) (fu : Nat) (v0_0 : Value) (v0_1 : Value) (p0 : api_Module) (p1 : api_Event) (v2 : Value) (S2 : List Nat) (p2 : scratch_Scratch) (r : (Option engine_Machine) × Int) (hF : engine_New fu p0 p1 p2 = some r)
    (hst : St w (fp [itI R_t47 [v2] S2 p2]) w [itI R_t47 [v2] S2 p2]) (h0_0 : Rd w (fp [itI R_t47 [v2] S2 p2]) v0_0 (encInt .i64) 1 p0.Maps) (h0_1 : Rd w (fp [itI R_t47 [v2] S2 p2]) v0_1 enc_api_Inst 5 p0.Code) (hT0 : Rd w (fp [itI R_t47 [v2] S2 p2]) (.slice (some ⟨0, 0, none⟩) 23 23) enc_ops_form 2 tab_g0) (hT1 : Rd w (fp [itI R_t47 [v2] S2 p2]) (.slice (some ⟨1, 0, none⟩) 7 7) enc_sigs_sig 5 tab_g1) :
    Calls Tryz.prog 12 [.agg [v0_0, v0_1].toArray, .agg [.int .u64 p1.A, .int .u64 p1.B].toArray, v2].toArray w (fun e w' => (∃ (k0 : engine_Machine) (y0 : Value) (z0 : List Nat), r.1 = some k0 ∧ e = .returned (.tuple #[y0, .int .i64 r.2]) ∧ St w (fp [itI R_t47 [v2] S2 p2]) w' [itI R_t49 [y0] z0 k0]) ∨ (r.1 = none ∧ e = .returned (.tuple #[.pointer none, .int .i64 r.2]) ∧ St w (fp [itI R_t47 [v2] S2 p2]) w' [])) := by
 refine CW.start (N := 35) Tryz.func12 rfl rfl rfl ?_
 obtain ⟨l1, a2, c3, rfl⟩ := h0_0.len
 obtain ⟨l4, a5, c6, rfl⟩ := h0_1.len
 obtain ⟨b7, rfl⟩ := hst.fptr 0 rfl
 refine CW.seq (CW.region ?_)
 refine OW.box hst rfl rfl rfl rfl [.slice a2 (p0.Maps).length c3, .slice a5 (p0.Code).length c6] rfl ?_
 intro b12 w13 hst
 refine OW.box hst rfl rfl rfl rfl [.int .u64 p1.A, .int .u64 p1.B] rfl ?_
 intro b14 w15 hst
 refine OW.pure 2 [] (by kernel_rfl) (OW.nil rfl (QW.next (CW.seq (CW.seq (CW.region ?_)))))
 refine OW.pure 2 [(11, .bool false)] (by kernel_rfl) (OW.nil rfl (QW.next (CW.cond_f rfl rfl (CW.skip (QW.next (CW.seq (CW.seq (CW.region ?_))))))))
 refine OW.ldN (cs := [.slice a2 (p0.Maps).length c3, .slice a5 (p0.Code).length c6]) rfl rfl rfl rfl (by kernel_rfl) (by kernel_rfl) (hst.blkN 1 rfl 0 2) ?_
 obtain ⟨r20, hr21, hF⟩ := bind_some' hF
 refine OW.fn rfl rfl rfl rfl (by kernel_rfl) (judge_Judge_ok _ _ _ fu (.slice a2 (p0.Maps).length c3) (.slice a5 (p0.Code).length c6) p0 r20 hr21 (hst.part [] rfl) (Bor.refl _ _) (h0_0.give hst []) (h0_1.give hst []) (hT0.give hst []) (hT1.give hst [])) ?_
 rintro e w22 ⟨rfl, hst23⟩
 refine ⟨_, rfl, ?_⟩
 have hst := hst.join (idx := []) (rest := [0, 1, 2]) rfl hst23
 refine OW.pure 5 [(9, .int .i64 r20.2)] (by kernel_rfl) (OW.nil rfl (QW.next (CW.seq (CW.region ?_))))
 refine OW.pure 2 [(18, .bool (r20.2 != 0))] (by kernel_rfl) (OW.nil rfl (QW.next ?_))
 rcases Bool.eq_false_or_eq_true ((r20.2 != 0)) with hc24 | hc24
 ·have hF := ite_t hF hc24
  refine CW.cond_t rfl hc24 (CW.seq (CW.region ?_))
  refine OW.pure 3 [(6, .pointer none), (7, .int .i64 r20.2)] (by kernel_rfl) (OW.nil rfl (QW.next (CW.ret (QW.then_ret ?_))))
  obtain rfl := Option.some.inj hF
  refine QW.ret2 rfl rfl rfl ?_
  exact .inr ⟨rfl, rfl, hst.keep [] rfl⟩
 have hF := ite_f hF hc24
 refine CW.cond_f rfl hc24 (CW.skip (QW.next (CW.seq ?_)))
 have hst := hst.openQ0 0 rfl
 refine CW.region ?_
 refine OW.pure 3 [(22, .pointer (some ⟨b7, 0, none⟩))] (by kernel_rfl) ?_
 obtain ⟨r29, hr30, hF⟩ := bind_some' hF
 refine OW.fn rfl rfl rfl rfl (by kernel_rfl) (scratch_Words_Wipe_ok _ b7 59 [] [.int .u64 (p2.Counters.counts 0), .int .u64 (p2.Counters.counts 1), .int .u64 (p2.Counters.counts 2), .int .u64 (p2.Counters.counts 3), .int .u64 (p2.Counters.counts 4), .int .u64 (p2.Counters.counts 5), .int .u64 (p2.Counters.counts 6), .int .u64 (p2.Counters.counts 7), .int .u64 (p2.Counters.counts 8), .int .u64 (p2.Counters.counts 9), .int .u64 (p2.Counters.counts 10), .int .u64 (p2.Counters.counts 11), .int .u64 (p2.Counters.counts 12), .int .u64 (p2.Counters.counts 13), .int .u64 (p2.Counters.counts 14), .int .u64 (p2.Counters.counts 15)] p2.Words r29 hr30 (hst.part [0] rfl)) ?_
 rintro e w31 ⟨rfl, hst32⟩
 refine ⟨_, rfl, ?_⟩
 have hst := hst.join (idx := [0]) (rest := [1, 2]) rfl hst32
 have hst : St _ _ _ [blkI b7 59 [.int .u64 (r29.words 0), .int .u64 (r29.words 1), .int .u64 (r29.words 2), .int .u64 (r29.words 3), .int .u64 (r29.words 4), .int .u64 (r29.words 5), .int .u64 (r29.words 6), .int .u64 (r29.words 7), .int .u64 (r29.words 8), .int .u64 (r29.words 9), .int .u64 (r29.words 10), .int .u64 (r29.words 11), .int .u64 (r29.words 12), .int .u64 (r29.words 13), .int .u64 (r29.words 14), .int .u64 (r29.words 15), .int .u64 (p2.Counters.counts 0), .int .u64 (p2.Counters.counts 1), .int .u64 (p2.Counters.counts 2), .int .u64 (p2.Counters.counts 3), .int .u64 (p2.Counters.counts 4), .int .u64 (p2.Counters.counts 5), .int .u64 (p2.Counters.counts 6), .int .u64 (p2.Counters.counts 7), .int .u64 (p2.Counters.counts 8), .int .u64 (p2.Counters.counts 9), .int .u64 (p2.Counters.counts 10), .int .u64 (p2.Counters.counts 11), .int .u64 (p2.Counters.counts 12), .int .u64 (p2.Counters.counts 13), .int .u64 (p2.Counters.counts 14), .int .u64 (p2.Counters.counts 15)], _, _] := hst
 refine OW.nil rfl (QW.next (CW.seq ?_))
 refine CW.plan (by kernel_rfl) ?_
 intro w53 hch54
 have hst := hst.same hch54
 refine OA.ldN (i := 0) (cs := [.int .u64 p1.A, .int .u64 p1.B]) rfl (by kernel_rfl) rfl rfl rfl (by kernel_rfl) (by kernel_rfl) (hst.blkN 2 rfl 0 2) ?_
 refine OA.pure [1] [(25, .pointer (some ⟨b12, 0, none⟩))] (by kernel_rfl) ?_
 refine OA.ld (i := 2) rfl (by kernel_rfl) rfl rfl rfl (by kernel_rfl) (hst.blk 1 rfl rfl) ?_
 refine OA.pure [4] [(28, .pointer (some ⟨b12, 1, none⟩))] (by kernel_rfl) ?_
 refine OA.ld (i := 5) rfl (by kernel_rfl) rfl rfl rfl (by kernel_rfl) (hst.blk 1 rfl rfl) ?_
 refine OA.pure [8] [(32, .pointer (some ⟨b7, 0, none⟩))] (by kernel_rfl) ?_
 refine OA.act (i := 3) [5, 0] (by kernel_rfl) rfl rfl (by kernel_rfl) (by kernel_rfl) ?_
 obtain ⟨r55, hr56, hF⟩ := bind_some' hF
 refine OW.fn rfl rfl rfl rfl (by kernel_rfl) (slices_Clone_int_int_ok _ (.slice a2 (p0.Maps).length c3) p0.Maps r55 hr56 (hst.part [] rfl) (h0_0.give hst [])) ?_
 rintro e w57 ⟨v59, rfl, hst58⟩
 refine ⟨_, rfl, ?_⟩
 have hst := hst.join (idx := []) (rest := [0, 1, 2]) rfl hst58
 obtain ⟨l60, a61, c62, rfl⟩ := hst.len 0 rfl
 refine OA.next ⟨(hst.blk 2 rfl rfl), (hst.blkN 3 rfl 0 2), trivial⟩ ?_
 refine OA.act (i := 6) [0] (by kernel_rfl) rfl rfl (by kernel_rfl) (by kernel_rfl) ?_
 obtain ⟨r63, hr64, hF⟩ := bind_some' hF
 refine OW.fn rfl rfl rfl rfl (by kernel_rfl) (slices_Clone_tappet_api_Inst_tappet_api_Inst_ok _ (.slice a5 (p0.Code).length c6) p0.Code r63 hr64 (hst.part [] rfl) (h0_1.give hst [])) ?_
 rintro e w65 ⟨v67, rfl, hst66⟩
 refine ⟨_, rfl, ?_⟩
 have hst := hst.join (idx := []) (rest := [0, 1, 2, 3]) rfl hst66
 obtain ⟨l68, a69, c70, rfl⟩ := hst.len 0 rfl
 refine OA.next ⟨(hst.blkN 4 rfl 0 2), trivial⟩ ?_
 refine OA.pure [7, 9] [(33, .agg [.int .u64 p1.A, .int .u64 p1.B, .slice a61 (r55).length c62, .slice a69 (r63).length c70, .pointer (some ⟨b7, 0, none⟩), .int .u64 0, .int .u64 0, .int .u64 0, .int .u64 0, .int .u64 0, .int .u64 0, .int .u64 0, .int .u64 0, .int .i64 0, .int .i64 0, .int .i64 0, .int .i64 0, .int .i64 0, .int .i64 0, .int .i64 0, .int .i64 0, .int .i64 0, .int .i64 0, .int .i64 0, .int .i64 0, .int .i64 0, .int .i64 0, .int .i64 0, .int .i64 0, .int .i64 0, .int .i64 0, .int .i64 0, .int .i64 0, .int .i64 0, .int .i64 0, .int .i64 0, .int .i64 0, .int .i64 0, .int .i64 0, .int .i64 0, .int .i64 0, .int .i64 0, .int .i64 0, .int .i64 0, .int .i64 0, .int .i64 0, .int .i64 0, .int .i64 0, .int .i64 0, .int .i64 0, .int .i64 0, .int .i64 0, .int .i64 0, .int .i64 0, .int .i64 0, .int .i64 0, .int .i64 0, .int .i64 0, .int .i64 0, .int .i64 0, .int .i64 0, .int .i64 0, .int .i64 0, .int .i64 0, .int .i64 0, .int .i64 0, .int .i64 0, .int .i64 0, .int .i64 0, .int .i64 0, .int .i64 0, .int .i64 0, .int .i64 0, .int .i64 0, .int .i64 0, .int .i64 0, .int .i64 0, .int .i64 0, .int .i64 0, .int .i64 0].toArray)] (by kernel_rfl) ?_
 refine OA.act (i := 10) [] (by kernel_rfl) rfl rfl (by kernel_rfl) (by kernel_rfl) ?_
 refine OW.box hst rfl rfl rfl rfl [.int .u64 p1.A, .int .u64 p1.B, .slice a61 (r55).length c62, .slice a69 (r63).length c70, .pointer (some ⟨b7, 0, none⟩), .int .u64 0, .int .u64 0, .int .u64 0, .int .u64 0, .int .u64 0, .int .u64 0, .int .u64 0, .int .u64 0, .int .i64 0, .int .i64 0, .int .i64 0, .int .i64 0, .int .i64 0, .int .i64 0, .int .i64 0, .int .i64 0, .int .i64 0, .int .i64 0, .int .i64 0, .int .i64 0, .int .i64 0, .int .i64 0, .int .i64 0, .int .i64 0, .int .i64 0, .int .i64 0, .int .i64 0, .int .i64 0, .int .i64 0, .int .i64 0, .int .i64 0, .int .i64 0, .int .i64 0, .int .i64 0, .int .i64 0, .int .i64 0, .int .i64 0, .int .i64 0, .int .i64 0, .int .i64 0, .int .i64 0, .int .i64 0, .int .i64 0, .int .i64 0, .int .i64 0, .int .i64 0, .int .i64 0, .int .i64 0, .int .i64 0, .int .i64 0, .int .i64 0, .int .i64 0, .int .i64 0, .int .i64 0, .int .i64 0, .int .i64 0, .int .i64 0, .int .i64 0, .int .i64 0, .int .i64 0, .int .i64 0, .int .i64 0, .int .i64 0, .int .i64 0, .int .i64 0, .int .i64 0, .int .i64 0, .int .i64 0, .int .i64 0, .int .i64 0, .int .i64 0, .int .i64 0, .int .i64 0, .int .i64 0, .int .i64 0] rfl ?_
 intro b71 w72 hst
 refine OA.next trivial ?_
 refine OA.act (i := 11) [] (by kernel_rfl) rfl rfl (by kernel_rfl) (by kernel_rfl) ?_
 refine OW.pure 1 [(6, .pointer (some ⟨b71, 0, none⟩))] (by kernel_rfl) (OA.next trivial ?_)
 refine OA.act (i := 12) [] (by kernel_rfl) rfl rfl (by kernel_rfl) (by kernel_rfl) ?_
 refine OW.pure 1 [(7, .int .i64 0)] (by kernel_rfl) (OA.next trivial ?_)
 refine OA.fin (by kernel_rfl) (by kernel_rfl) (QW.next (CW.ret ?_))
 have hst := hst.shutP0 (enc := enc_scratch_Scratch) (sz := 32) (he := fun _ => rfl) 2 rfl (scratch_Scratch.mk r29 p2.Counters) rfl
 have hst := hst.toIt 1 rfl (fun _ => rfl) (by decide)
 have hst := hst.toIt 0 rfl (fun _ => rfl) (by decide)
 obtain ⟨S73, hst⟩ := hst.shutP3 R_t96 rfl 5 1 0 2 [3, 4] rfl rfl rfl rfl rfl (engine_Machine.mk p1 (api_Module.mk r55 r63) (scratch_Scratch.mk r29 p2.Counters) (fun _ => 0) (fun _ => 0) 0 0 0) rfl rfl
 obtain rfl := Option.some.inj hF
 refine QW.ret2 rfl rfl rfl ?_
 exact .inl ⟨_, (.pointer (some ⟨b71, 0, none⟩)), S73, rfl, rfl, hst.keep [2] rfl⟩
theorem sigs_Asks_ok (w : World) (p0 : Int) (r : Int × Bool) (hF : sigs_Asks p0 = some r)
    (hst : St w (fp []) w []) (hT1 : Rd w (fp []) (.slice (some ⟨1, 0, none⟩) 7 7) enc_sigs_sig 5 tab_g1) :
    Calls Tryz.prog 57 [.int .i64 p0].toArray w (fun e w' => e = .returned (.tuple #[.int .i64 r.1, .bool r.2]) ∧ St w (fp []) w' []) := by
 refine CW.start (N := 15) Tryz.func57 rfl rfl rfl (CW.seq (CW.region ?_))
 refine OW.pure 2 [] (by kernel_rfl) (OW.nil rfl (QW.next (CW.seq (CW.region ?_))))
 refine OW.pure 1 [(7, .int .i64 p0)] (by kernel_rfl) ?_
 obtain ⟨r8, hr9, hF⟩ := bind_some' hF
 refine OW.fn rfl rfl rfl rfl (by kernel_rfl) (sigs_of_ok _ p0 r8 hr9 (hst.part [] rfl) (hT1.give hst [])) ?_
 rintro e w10 ⟨rfl, hst11⟩
 refine ⟨_, rfl, ?_⟩
 have hst := hst.join (idx := []) (rest := []) rfl hst11
 refine OW.pure 3 [(9, .agg [.string r8.1.name, .string r8.1.wants, .int .u64 r8.1.most, .int .i64 r8.1.asks, .bool r8.1.isAsked].toArray), (10, .bool r8.2)] (by kernel_rfl) ?_
 refine OW.alloc hst rfl rfl rfl [.string ByteArray.empty, .string ByteArray.empty, .int .u64 0, .int .i64 0, .bool false] (by kernel_rfl) ?_
 intro b12 w13 hst
 refine OW.stB hst 0 rfl rfl rfl rfl rfl (by kernel_rfl) rfl rfl [.string r8.1.name, .string r8.1.wants, .int .u64 r8.1.most, .int .i64 r8.1.asks, .bool r8.1.isAsked] rfl ?_
 intro w14 hst
 refine OW.pure 1 [] (by kernel_rfl) (OW.nil rfl (QW.next (CW.seq ?_)))
 refine CW.still (by kernel_rfl) (by kernel_rfl) ?_
 intro w17 hch18
 have hst := hst.same hch18
 refine OS.pure 1 [(11, .pointer (some ⟨b12, 3, none⟩))] rfl (by kernel_rfl) ?_
 refine OS.ld rfl rfl rfl rfl rfl (by kernel_rfl) (hst.blk 0 rfl rfl) ?_
 refine OS.pure 1 [(13, .pointer (some ⟨b12, 4, none⟩))] rfl (by kernel_rfl) ?_
 refine OS.ld rfl rfl rfl rfl rfl (by kernel_rfl) (hst.blk 0 rfl rfl) ?_
 refine OS.pure 2 [(2, .int .i64 r8.1.asks), (3, .bool r8.1.isAsked)] rfl (by kernel_rfl) ?_
 refine OS.fin rfl (QW.next (CW.ret ?_))
 obtain rfl := Option.some.inj hF
 refine QW.ret2 rfl rfl rfl ?_
 exact ⟨rfl, hst.keep [] rfl⟩
theorem scratch_Counters_Mark_ok (w : World) (b0 : Nat) (T0 : TypeId) (A0 C0 : List Value) (p0 : scratch_Counters) (p1 : Int) (r : Int × Int × scratch_Counters) (hF : scratch_Counters_Mark p0 p1 = some r)
    (hst : St w (fp [partI b0 T0 A0 [.int .u64 (p0.counts 0), .int .u64 (p0.counts 1), .int .u64 (p0.counts 2), .int .u64 (p0.counts 3), .int .u64 (p0.counts 4), .int .u64 (p0.counts 5), .int .u64 (p0.counts 6), .int .u64 (p0.counts 7), .int .u64 (p0.counts 8), .int .u64 (p0.counts 9), .int .u64 (p0.counts 10), .int .u64 (p0.counts 11), .int .u64 (p0.counts 12), .int .u64 (p0.counts 13), .int .u64 (p0.counts 14), .int .u64 (p0.counts 15)] C0]) w [partI b0 T0 A0 [.int .u64 (p0.counts 0), .int .u64 (p0.counts 1), .int .u64 (p0.counts 2), .int .u64 (p0.counts 3), .int .u64 (p0.counts 4), .int .u64 (p0.counts 5), .int .u64 (p0.counts 6), .int .u64 (p0.counts 7), .int .u64 (p0.counts 8), .int .u64 (p0.counts 9), .int .u64 (p0.counts 10), .int .u64 (p0.counts 11), .int .u64 (p0.counts 12), .int .u64 (p0.counts 13), .int .u64 (p0.counts 14), .int .u64 (p0.counts 15)] C0]) :
    Calls Tryz.prog 59 [.pointer (some ⟨b0, A0.length + 0, none⟩), .int .i64 p1].toArray w (fun e w' => e = .returned (.tuple #[.int .u64 r.1, .int .i64 r.2.1]) ∧ St w (fp [partI b0 T0 A0 [.int .u64 (p0.counts 0), .int .u64 (p0.counts 1), .int .u64 (p0.counts 2), .int .u64 (p0.counts 3), .int .u64 (p0.counts 4), .int .u64 (p0.counts 5), .int .u64 (p0.counts 6), .int .u64 (p0.counts 7), .int .u64 (p0.counts 8), .int .u64 (p0.counts 9), .int .u64 (p0.counts 10), .int .u64 (p0.counts 11), .int .u64 (p0.counts 12), .int .u64 (p0.counts 13), .int .u64 (p0.counts 14), .int .u64 (p0.counts 15)] C0]) w' [partI b0 T0 A0 [.int .u64 (r.2.2.counts 0), .int .u64 (r.2.2.counts 1), .int .u64 (r.2.2.counts 2), .int .u64 (r.2.2.counts 3), .int .u64 (r.2.2.counts 4), .int .u64 (r.2.2.counts 5), .int .u64 (r.2.2.counts 6), .int .u64 (r.2.2.counts 7), .int .u64 (r.2.2.counts 8), .int .u64 (r.2.2.counts 9), .int .u64 (r.2.2.counts 10), .int .u64 (r.2.2.counts 11), .int .u64 (r.2.2.counts 12), .int .u64 (r.2.2.counts 13), .int .u64 (r.2.2.counts 14), .int .u64 (r.2.2.counts 15)] C0]) := by
 refine CW.start (N := 28) Tryz.func59 rfl rfl rfl (CW.seq (CW.region ?_))
 refine OW.pure 2 [] (by kernel_rfl) (OW.nil rfl (QW.next (CW.seq (CW.seq ?_))))
 refine CW.cutK (fun a w1 => Rep 28 [(0, .pointer (some ⟨b0, A0.length + 0, none⟩)), (1, .int .i64 p1), (11, .bool (decide (p1 < 0) || decide (p1 ≥ 16)))] a ∧ St w (fp [partI b0 T0 A0 [.int .u64 (p0.counts 0), .int .u64 (p0.counts 1), .int .u64 (p0.counts 2), .int .u64 (p0.counts 3), .int .u64 (p0.counts 4), .int .u64 (p0.counts 5), .int .u64 (p0.counts 6), .int .u64 (p0.counts 7), .int .u64 (p0.counts 8), .int .u64 (p0.counts 9), .int .u64 (p0.counts 10), .int .u64 (p0.counts 11), .int .u64 (p0.counts 12), .int .u64 (p0.counts 13), .int .u64 (p0.counts 14), .int .u64 (p0.counts 15)] C0]) w1 [partI b0 T0 A0 [.int .u64 (p0.counts 0), .int .u64 (p0.counts 1), .int .u64 (p0.counts 2), .int .u64 (p0.counts 3), .int .u64 (p0.counts 4), .int .u64 (p0.counts 5), .int .u64 (p0.counts 6), .int .u64 (p0.counts 7), .int .u64 (p0.counts 8), .int .u64 (p0.counts 9), .int .u64 (p0.counts 10), .int .u64 (p0.counts 11), .int .u64 (p0.counts 12), .int .u64 (p0.counts 13), .int .u64 (p0.counts 14), .int .u64 (p0.counts 15)] C0]) ?_ ?_
 ·refine CW.region ?_
  refine OW.pure 3 [(8, .bool (decide (p1 < 0)))] (by kernel_rfl) ?_
  refine OW.split 8 rfl (fun hc1 => ?_) (fun hc1 => ?_)
  ·refine OW.pure 3 [(11, .bool true)] (by kernel_rfl) (OW.nil rfl ?_)
   refine QW.say 11 (v := .bool (decide (p1 < 0) || decide (p1 ≥ 16))) rfl (by first | (rw [hc1]; done) | (rw [hc1]; rfl) | simp [hc1]) ?_
   exact QW.meet (fun a ha => ⟨ha.agrees (by kernel_rfl), hst.keep [0] rfl⟩)
  refine OW.pure 3 [(11, .bool (decide (p1 ≥ 16)))] (by kernel_rfl) (OW.nil rfl ?_)
  refine QW.say 11 (v := .bool (decide (p1 < 0) || decide (p1 ≥ 16))) rfl (by first | (rw [hc1]; done) | (rw [hc1]; rfl) | simp [hc1]) ?_
  exact QW.meet (fun a ha => ⟨ha.agrees (by kernel_rfl), hst.keep [0] rfl⟩)
 rintro a w1 ⟨ha, hst⟩
 refine CW.go ?_ ha
 rcases Bool.eq_false_or_eq_true ((decide (p1 < 0) || decide (p1 ≥ 16))) with hc2 | hc2
 ·have hF := ite_t hF hc2
  refine CW.cond_t rfl hc2 (CW.seq (CW.region ?_))
  refine OW.pure 2 [(4, .int .u64 0), (5, .int .i64 35)] (by kernel_rfl) (OW.nil rfl (QW.next (CW.ret (QW.then_ret ?_))))
  obtain rfl := Option.some.inj hF
  refine QW.ret2 rfl rfl rfl ?_
  exact ⟨rfl, hst.keep [0] rfl⟩
 have hF := ite_f hF hc2
 refine CW.cond_f rfl hc2 (CW.skip (QW.next (CW.seq ?_)))
 refine CW.tail 10 (by kernel_rfl) (by kernel_rfl) ?_
 intro w8 hch9
 have hst := hst.same hch9
 refine OS.pure 4 [(12, .pointer (some ⟨b0, A0.length + 0, none⟩)), (13, .int .i64 p1), (15, .pointer (some ⟨b0, A0.length + 0, none⟩))] rfl (by kernel_rfl) ?_
 obtain ⟨i10, hi11, hF⟩ := bind_some' hF
 refine OS.op (v := .pointer (some ⟨b0, A0.length + 0 + Int.toNat p1 * 1, none⟩)) rfl rfl rfl rfl rfl (fun a ha => aidx_run (n := 16) 26 1 rfl rfl rfl (ain_some hi11).1 (ain_some hi11).2.1 (by kernel_rfl) (by kernel_rfl) a _ ha) ?_
 refine OS.ld rfl rfl rfl rfl rfl (by kernel_rfl) (hst.arrP 0 rfl (encInt .u64) (fun _ => rfl) 16 p0.counts 0 rfl rfl hi11 0 _ rfl) ?_
 refine OS.pure 3 [(18, .int .u64 (wu64 ((p0.counts i10) + 1))), (20, .pointer (some ⟨b0, A0.length + 0, none⟩))] rfl (by kernel_rfl) ?_
 refine OS.op (v := .pointer (some ⟨b0, A0.length + 0 + Int.toNat p1 * 1, none⟩)) rfl rfl rfl rfl rfl (fun a ha => aidx_run (n := 16) 26 1 rfl rfl rfl (ain_some hi11).1 (ain_some hi11).2.1 (by kernel_rfl) (by kernel_rfl) a _ ha) ?_
 refine OS.on ?_
 refine OW.stPA hst 0 rfl rfl rfl rfl rfl (by kernel_rfl) rfl (encInt .u64) (fun _ => rfl) 16 p0.counts 0 rfl rfl hi11 0 rfl rfl (wu64 ((p0.counts i10) + 1)) rfl [.int .u64 ((aset p0.counts i10 (wu64 ((p0.counts i10) + 1))) 0), .int .u64 ((aset p0.counts i10 (wu64 ((p0.counts i10) + 1))) 1), .int .u64 ((aset p0.counts i10 (wu64 ((p0.counts i10) + 1))) 2), .int .u64 ((aset p0.counts i10 (wu64 ((p0.counts i10) + 1))) 3), .int .u64 ((aset p0.counts i10 (wu64 ((p0.counts i10) + 1))) 4), .int .u64 ((aset p0.counts i10 (wu64 ((p0.counts i10) + 1))) 5), .int .u64 ((aset p0.counts i10 (wu64 ((p0.counts i10) + 1))) 6), .int .u64 ((aset p0.counts i10 (wu64 ((p0.counts i10) + 1))) 7), .int .u64 ((aset p0.counts i10 (wu64 ((p0.counts i10) + 1))) 8), .int .u64 ((aset p0.counts i10 (wu64 ((p0.counts i10) + 1))) 9), .int .u64 ((aset p0.counts i10 (wu64 ((p0.counts i10) + 1))) 10), .int .u64 ((aset p0.counts i10 (wu64 ((p0.counts i10) + 1))) 11), .int .u64 ((aset p0.counts i10 (wu64 ((p0.counts i10) + 1))) 12), .int .u64 ((aset p0.counts i10 (wu64 ((p0.counts i10) + 1))) 13), .int .u64 ((aset p0.counts i10 (wu64 ((p0.counts i10) + 1))) 14), .int .u64 ((aset p0.counts i10 (wu64 ((p0.counts i10) + 1))) 15)] rfl ?_
 intro w12 hst
 refine OW.nil rfl (QW.next (CW.seq (CW.region ?_)))
 refine OW.pure 4 [(23, .int .i64 p1), (25, .pointer (some ⟨b0, A0.length + 0, none⟩))] (by kernel_rfl) ?_
 refine OW.op (v := .pointer (some ⟨b0, A0.length + 0 + Int.toNat p1 * 1, none⟩)) rfl rfl rfl rfl (fun a ha => aidx_run (n := 16) 26 1 rfl rfl rfl (ain_some hi11).1 (ain_some hi11).2.1 (by kernel_rfl) (by kernel_rfl) a _ ha) ?_
 refine OW.ld rfl rfl rfl rfl (by kernel_rfl) (hst.arrP 0 rfl (encInt .u64) (fun _ => rfl) 16 (aset p0.counts i10 (wu64 ((p0.counts i10) + 1))) 0 rfl rfl hi11 0 _ rfl) ?_
 refine OW.pure 2 [(4, .int .u64 ((aset p0.counts i10 (wu64 ((p0.counts i10) + 1))) i10)), (5, .int .i64 0)] (by kernel_rfl) (OW.nil rfl (QW.next (CW.ret ?_)))
 obtain rfl := Option.some.inj hF
 refine QW.ret2 rfl rfl rfl ?_
 exact ⟨rfl, hst.keep [0] rfl⟩
theorem engine_Machine_call_ok (w : World) (fu : Nat) (v0 : Value) (S0 : List Nat) (p0 : engine_Machine) (p1 : Int) (r : api_Act × engine_Machine) (hF : engine_Machine_call fu p0 p1 = some r)
    (hst : St w (fp [itI R_t49 [v0] S0 p0]) w [itI R_t49 [v0] S0 p0]) (hT1 : Rd w (fp [itI R_t49 [v0] S0 p0]) (.slice (some ⟨1, 0, none⟩) 7 7) enc_sigs_sig 5 tab_g1) :
    Calls Tryz.prog 33 [v0, .int .i64 p1].toArray w (fun e w' => ∃ (s0 : List Nat), e = .returned (.agg [.int .i64 r.1.Kind, .int .i64 r.1.Pc, .int .i64 r.1.Item.Map, .int .i64 r.1.Item.Op, .int .u64 r.1.Item.Key, .int .u64 r.1.Item.Val, .int .u64 r.1.Val].toArray) ∧ St w (fp [itI R_t49 [v0] S0 p0]) w' [itI R_t49 [v0] s0 r.2]) := by
 refine CW.start (N := 99) Tryz.func33 rfl rfl rfl ?_
 obtain ⟨b1, rfl⟩ := hst.fptr 0 rfl
 refine CW.seq (CW.region ?_)
 refine OW.alloc hst rfl rfl rfl [.int .i64 0, .int .i64 0, .int .i64 0, .int .i64 0, .int .u64 0, .int .u64 0, .int .u64 0] (by kernel_rfl) ?_
 intro b4 w5 hst
 refine OW.nil rfl (QW.next (CW.seq ?_))
 obtain ⟨v6, S7, v8, S9, v10, S11, hst⟩ := hst.openQ3 0 rfl rfl rfl rfl
 have hst := hst.toRow1 2 rfl
 have hst := hst.toRow1 3 rfl
 obtain ⟨l12, a13, c14, rfl⟩ := hst.len 2 rfl
 obtain ⟨l15, a16, c17, rfl⟩ := hst.len 3 rfl
 obtain ⟨b18, rfl⟩ := hst.fptr 4 rfl
 have hst : St _ _ _ [blkI b1 96 [.int .u64 p0.Event.A, .int .u64 p0.Event.B, .slice a13 (p0.module.Maps).length c14, .slice a16 (p0.module.Code).length c17, .pointer (some ⟨b18, 0, none⟩), .int .u64 (p0.regs 0), .int .u64 (p0.regs 1), .int .u64 (p0.regs 2), .int .u64 (p0.regs 3), .int .u64 (p0.regs 4), .int .u64 (p0.regs 5), .int .u64 (p0.regs 6), .int .u64 (p0.regs 7), .int .i64 (p0.turns 0), .int .i64 (p0.turns 1), .int .i64 (p0.turns 2), .int .i64 (p0.turns 3), .int .i64 (p0.turns 4), .int .i64 (p0.turns 5), .int .i64 (p0.turns 6), .int .i64 (p0.turns 7), .int .i64 (p0.turns 8), .int .i64 (p0.turns 9), .int .i64 (p0.turns 10), .int .i64 (p0.turns 11), .int .i64 (p0.turns 12), .int .i64 (p0.turns 13), .int .i64 (p0.turns 14), .int .i64 (p0.turns 15), .int .i64 (p0.turns 16), .int .i64 (p0.turns 17), .int .i64 (p0.turns 18), .int .i64 (p0.turns 19), .int .i64 (p0.turns 20), .int .i64 (p0.turns 21), .int .i64 (p0.turns 22), .int .i64 (p0.turns 23), .int .i64 (p0.turns 24), .int .i64 (p0.turns 25), .int .i64 (p0.turns 26), .int .i64 (p0.turns 27), .int .i64 (p0.turns 28), .int .i64 (p0.turns 29), .int .i64 (p0.turns 30), .int .i64 (p0.turns 31), .int .i64 (p0.turns 32), .int .i64 (p0.turns 33), .int .i64 (p0.turns 34), .int .i64 (p0.turns 35), .int .i64 (p0.turns 36), .int .i64 (p0.turns 37), .int .i64 (p0.turns 38), .int .i64 (p0.turns 39), .int .i64 (p0.turns 40), .int .i64 (p0.turns 41), .int .i64 (p0.turns 42), .int .i64 (p0.turns 43), .int .i64 (p0.turns 44), .int .i64 (p0.turns 45), .int .i64 (p0.turns 46), .int .i64 (p0.turns 47), .int .i64 (p0.turns 48), .int .i64 (p0.turns 49), .int .i64 (p0.turns 50), .int .i64 (p0.turns 51), .int .i64 (p0.turns 52), .int .i64 (p0.turns 53), .int .i64 (p0.turns 54), .int .i64 (p0.turns 55), .int .i64 (p0.turns 56), .int .i64 (p0.turns 57), .int .i64 (p0.turns 58), .int .i64 (p0.turns 59), .int .i64 (p0.turns 60), .int .i64 (p0.turns 61), .int .i64 (p0.turns 62), .int .i64 (p0.turns 63), .int .i64 p0.at_, .int .i64 p0.steps, .int .i64 p0.state], _, _, _, _] := hst
 refine CW.region ?_
 refine OW.pure 3 [(10, .pointer (some ⟨b1, 77, none⟩))] (by kernel_rfl) ?_
 refine OW.ld rfl rfl rfl rfl (by kernel_rfl) (hst.blk 0 rfl rfl) ?_
 refine OW.pure 1 [(12, .agg [.int .i64 1, .int .i64 p0.at_, .int .i64 0, .int .i64 0, .int .u64 0, .int .u64 0, .int .u64 0].toArray)] (by kernel_rfl) ?_
 refine OW.alloc hst rfl rfl rfl [.int .i64 0, .int .i64 0, .int .i64 0, .int .i64 0, .int .u64 0, .int .u64 0, .int .u64 0] (by kernel_rfl) ?_
 intro b22 w23 hst
 refine OW.stB hst 5 rfl rfl rfl rfl rfl (by kernel_rfl) rfl rfl [.int .i64 1, .int .i64 p0.at_, .int .i64 0, .int .i64 0, .int .u64 0, .int .u64 0, .int .u64 0] rfl ?_
 intro w24 hst
 refine OW.nil rfl (QW.next (CW.seq (CW.seq (CW.region ?_))))
 refine OW.pure 1 [(14, .int .i64 p1)] (by kernel_rfl) ?_
 obtain ⟨r29, hr30, hF⟩ := bind_some' hF
 refine OW.fn rfl rfl rfl rfl (by kernel_rfl) (sigs_Asks_ok _ p1 r29 hr30 (hst.part [] rfl) (hT1.give hst [])) ?_
 rintro e w31 ⟨rfl, hst32⟩
 refine ⟨_, rfl, ?_⟩
 have hst := hst.join (idx := []) (rest := [0, 1, 2, 3, 4, 5]) rfl hst32
 refine OW.pure 5 [(6, .int .i64 r29.1), (7, .bool r29.2)] (by kernel_rfl) (OW.nil rfl (QW.next (CW.seq (CW.region ?_))))
 refine OW.pure 1 [(18, .bool r29.2)] (by kernel_rfl) (OW.nil rfl (QW.next ?_))
 rcases Bool.eq_false_or_eq_true (r29.2) with hc33 | hc33
 ·have hF := ite_t hF hc33
  refine CW.cond_t rfl hc33 (CW.seq (CW.region ?_))
  refine OW.pure 3 [(21, .pointer (some ⟨b1, 79, none⟩))] (by kernel_rfl) ?_
  refine OW.stB hst 0 rfl rfl rfl rfl rfl (by kernel_rfl) rfl rfl [.int .u64 p0.Event.A, .int .u64 p0.Event.B, .slice a13 (p0.module.Maps).length c14, .slice a16 (p0.module.Code).length c17, .pointer (some ⟨b18, 0, none⟩), .int .u64 (p0.regs 0), .int .u64 (p0.regs 1), .int .u64 (p0.regs 2), .int .u64 (p0.regs 3), .int .u64 (p0.regs 4), .int .u64 (p0.regs 5), .int .u64 (p0.regs 6), .int .u64 (p0.regs 7), .int .i64 (p0.turns 0), .int .i64 (p0.turns 1), .int .i64 (p0.turns 2), .int .i64 (p0.turns 3), .int .i64 (p0.turns 4), .int .i64 (p0.turns 5), .int .i64 (p0.turns 6), .int .i64 (p0.turns 7), .int .i64 (p0.turns 8), .int .i64 (p0.turns 9), .int .i64 (p0.turns 10), .int .i64 (p0.turns 11), .int .i64 (p0.turns 12), .int .i64 (p0.turns 13), .int .i64 (p0.turns 14), .int .i64 (p0.turns 15), .int .i64 (p0.turns 16), .int .i64 (p0.turns 17), .int .i64 (p0.turns 18), .int .i64 (p0.turns 19), .int .i64 (p0.turns 20), .int .i64 (p0.turns 21), .int .i64 (p0.turns 22), .int .i64 (p0.turns 23), .int .i64 (p0.turns 24), .int .i64 (p0.turns 25), .int .i64 (p0.turns 26), .int .i64 (p0.turns 27), .int .i64 (p0.turns 28), .int .i64 (p0.turns 29), .int .i64 (p0.turns 30), .int .i64 (p0.turns 31), .int .i64 (p0.turns 32), .int .i64 (p0.turns 33), .int .i64 (p0.turns 34), .int .i64 (p0.turns 35), .int .i64 (p0.turns 36), .int .i64 (p0.turns 37), .int .i64 (p0.turns 38), .int .i64 (p0.turns 39), .int .i64 (p0.turns 40), .int .i64 (p0.turns 41), .int .i64 (p0.turns 42), .int .i64 (p0.turns 43), .int .i64 (p0.turns 44), .int .i64 (p0.turns 45), .int .i64 (p0.turns 46), .int .i64 (p0.turns 47), .int .i64 (p0.turns 48), .int .i64 (p0.turns 49), .int .i64 (p0.turns 50), .int .i64 (p0.turns 51), .int .i64 (p0.turns 52), .int .i64 (p0.turns 53), .int .i64 (p0.turns 54), .int .i64 (p0.turns 55), .int .i64 (p0.turns 56), .int .i64 (p0.turns 57), .int .i64 (p0.turns 58), .int .i64 (p0.turns 59), .int .i64 (p0.turns 60), .int .i64 (p0.turns 61), .int .i64 (p0.turns 62), .int .i64 (p0.turns 63), .int .i64 p0.at_, .int .i64 p0.steps, .int .i64 1] rfl ?_
  intro w35 hst
  refine OW.nil rfl (QW.next (CW.seq (CW.region ?_)))
  refine OW.pure 1 [(22, .pointer (some ⟨b22, 0, none⟩))] (by kernel_rfl) ?_
  refine OW.stB hst 5 rfl rfl rfl rfl rfl (by kernel_rfl) rfl rfl [.int .i64 2, .int .i64 p0.at_, .int .i64 0, .int .i64 0, .int .u64 0, .int .u64 0, .int .u64 0] rfl ?_
  intro w37 hst
  refine OW.nil rfl (QW.next (CW.seq ?_))
  refine CW.tail 20 (by kernel_rfl) (by kernel_rfl) ?_
  intro w47 hch48
  have hst := hst.same hch48
  refine OS.pure 4 [(26, .pointer (some ⟨b1, 2, none⟩))] rfl (by kernel_rfl) ?_
  refine OS.ld rfl rfl rfl rfl rfl (by kernel_rfl) (hst.blk 0 rfl rfl) ?_
  refine OS.pure 3 [(30, .pointer (some ⟨b1, 5, none⟩))] rfl (by kernel_rfl) ?_
  refine OS.op (v := .pointer (some ⟨b1, 6, none⟩)) rfl rfl rfl rfl rfl (fun a ha => aidx_run (n := 8) (q := 1) 26 1 rfl rfl rfl (by decide) (by decide) (by kernel_rfl) (by kernel_rfl) a _ ha) ?_
  refine OS.ld rfl rfl rfl rfl rfl (by kernel_rfl) (hst.blk 0 rfl rfl) ?_
  obtain ⟨x49, hx50, hF⟩ := bind_some' hF
  obtain ⟨g52, o53, c54, hv51⟩ := hst.rowv 2 rfl hx50
  refine OS.idx 3 1 rfl rfl rfl rfl rfl hv51 rfl (idx_some hx50).1 (idx_some hx50).2.1 (by kernel_rfl) (by kernel_rfl) ?_
  refine OS.ld rfl rfl rfl rfl rfl (by kernel_rfl) (hst.rowc 2 rfl (fun _ => rfl) hx50 hv51 0 _ rfl) ?_
  refine OS.pure 4 [(35, .int .i64 r29.1), (38, .pointer (some ⟨b1, 5, none⟩))] rfl (by kernel_rfl) ?_
  refine OS.op (v := .pointer (some ⟨b1, 7, none⟩)) rfl rfl rfl rfl rfl (fun a ha => aidx_run (n := 8) (q := 2) 26 1 rfl rfl rfl (by decide) (by decide) (by kernel_rfl) (by kernel_rfl) a _ ha) ?_
  refine OS.ld rfl rfl rfl rfl rfl (by kernel_rfl) (hst.blk 0 rfl rfl) ?_
  refine OS.pure 2 [(41, .agg [.int .i64 x49, .int .i64 r29.1, .int .u64 (p0.regs 2), .int .u64 0].toArray), (42, .pointer (some ⟨b22, 2, none⟩))] rfl (by kernel_rfl) ?_
  refine OS.on ?_
  refine OW.stB hst 5 rfl rfl rfl rfl rfl (by kernel_rfl) rfl rfl [.int .i64 2, .int .i64 p0.at_, .int .i64 x49, .int .i64 r29.1, .int .u64 (p0.regs 2), .int .u64 0, .int .u64 0] rfl ?_
  intro w55 hst
  refine OW.nil rfl (QW.next (CW.seq (CW.seq (CW.region ?_))))
  refine OW.pure 1 [(43, .int .i64 p1)] (by kernel_rfl) ?_
  obtain ⟨r64, hr65, hF⟩ := bind_some' hF
  refine OW.fn rfl rfl rfl rfl (by kernel_rfl) (sigs_Args_ok _ fu p1 r64 hr65 (hst.part [] rfl) (hT1.give hst [])) ?_
  rintro e w66 ⟨v68, rfl, hst67⟩
  refine ⟨_, rfl, ?_⟩
  have hst := hst.join (idx := []) (rest := [0, 1, 2, 3, 4, 5]) rfl hst67
  obtain ⟨l69, a70, c71, rfl⟩ := hst.len 0 rfl
  refine OW.pure 2 [(46, .bool (decide (((r64).length : Int) > 2)))] (by kernel_rfl) (OW.nil rfl (QW.next ?_))
  obtain ⟨o78, ho79, hF⟩ := bind_some' hF
  refine CW.cutK (fun a w1 => ∃ (S77 : List Nat), Rep 99 [(4, .pointer (some ⟨b4, 0, none⟩)), (5, .pointer (some ⟨b22, 0, none⟩))] a ∧ St w (fp [itI R_t49 [.pointer (some ⟨b1, 0, none⟩)] S0 p0]) w1 [blkI b4 80 [.int .i64 0, .int .i64 0, .int .i64 0, .int .i64 0, .int .u64 0, .int .u64 0, .int .u64 0], blkI b22 80 [.int .i64 2, .int .i64 p0.at_, .int .i64 x49, .int .i64 r29.1, .int .u64 (p0.regs 2), .int .u64 o78, .int .u64 0], itI R_t49 [.pointer (some ⟨b1, 0, none⟩)] S77 (engine_Machine.mk p0.Event p0.module p0.scratch p0.regs p0.turns p0.at_ p0.steps 1)]) ?_ ?_
  ·rcases Bool.eq_false_or_eq_true (decide (((r64).length : Int) > 2)) with hc80 | hc80
   ·have ho79 := ite_t ho79 hc80
    refine CW.cond_t rfl hc80 (CW.region ?_)
    refine OW.pure 3 [(49, .pointer (some ⟨b1, 5, none⟩))] (by kernel_rfl) ?_
    refine OW.op (v := .pointer (some ⟨b1, 8, none⟩)) rfl rfl rfl rfl (fun a ha => aidx_run (n := 8) (q := 3) 26 1 rfl rfl rfl (by decide) (by decide) (by kernel_rfl) (by kernel_rfl) a _ ha) ?_
    refine OW.ld rfl rfl rfl rfl (by kernel_rfl) (hst.blk 1 rfl rfl) ?_
    refine OW.pure 2 [(53, .pointer (some ⟨b22, 5, none⟩))] (by kernel_rfl) ?_
    refine OW.stB hst 6 rfl rfl rfl rfl rfl (by kernel_rfl) rfl rfl [.int .i64 2, .int .i64 p0.at_, .int .i64 x49, .int .i64 r29.1, .int .u64 (p0.regs 2), .int .u64 (p0.regs 3), .int .u64 0] rfl ?_
    intro w82 hst
    refine OW.nil rfl ?_
    have hst := hst.toIt 3 rfl (fun _ => rfl) (by decide)
    have hst := hst.toIt 4 rfl (fun _ => rfl) (by decide)
    obtain ⟨S83, hst⟩ := hst.shutP3 R_t96 rfl 1 3 4 5 [0, 2, 6] rfl rfl rfl rfl rfl (engine_Machine.mk p0.Event p0.module p0.scratch p0.regs p0.turns p0.at_ p0.steps 1) rfl rfl
    obtain rfl := Option.some.inj ho79
    exact QW.meet (fun a ha => ⟨S83, ha.agrees (by kernel_rfl), hst.keep [1, 2, 3] rfl⟩)
   have ho79 := ite_f ho79 hc80
   refine CW.cond_f rfl hc80 (CW.skip ?_)
   have hst := hst.toIt 3 rfl (fun _ => rfl) (by decide)
   have hst := hst.toIt 4 rfl (fun _ => rfl) (by decide)
   obtain ⟨S84, hst⟩ := hst.shutP3 R_t96 rfl 1 3 4 5 [0, 2, 6] rfl rfl rfl rfl rfl (engine_Machine.mk p0.Event p0.module p0.scratch p0.regs p0.turns p0.at_ p0.steps 1) rfl rfl
   obtain rfl := Option.some.inj ho79
   exact QW.meet (fun a ha => ⟨S84, ha.agrees (by kernel_rfl), hst.keep [1, 2, 3] rfl⟩)
  rintro a w1 ⟨S77, ha, hst⟩
  refine CW.go ?_ ha
  refine CW.seq (CW.region ?_)
  refine OW.ldN (cs := [.int .i64 2, .int .i64 p0.at_, .int .i64 x49, .int .i64 r29.1, .int .u64 (p0.regs 2), .int .u64 o78, .int .u64 0]) rfl rfl rfl rfl (by kernel_rfl) (by kernel_rfl) (hst.blkN 1 rfl 0 7) ?_
  refine OW.stB hst 0 rfl rfl rfl rfl rfl (by kernel_rfl) rfl rfl [.int .i64 2, .int .i64 p0.at_, .int .i64 x49, .int .i64 r29.1, .int .u64 (p0.regs 2), .int .u64 o78, .int .u64 0] rfl ?_
  intro w86 hst
  refine OW.nil rfl (QW.next (CW.ret (QW.then_ret ?_)))
  obtain rfl := Option.some.inj hF
  refine QW.ret_c rfl rfl (run_loadN (cs := [.int .i64 2, .int .i64 p0.at_, .int .i64 x49, .int .i64 r29.1, .int .u64 (p0.regs 2), .int .u64 o78, .int .u64 0]) (by kernel_rfl) (by kernel_rfl) (hst.blkN 0 rfl 0 7)) ?_
  exact ⟨S77, rfl, hst.keep [2] rfl⟩
 have hF := ite_f hF hc33
 refine CW.cond_f rfl hc33 (CW.skip (QW.next (CW.seq (CW.seq (CW.region ?_)))))
 refine OW.pure 2 [(56, .bool (p1 == 5))] (by kernel_rfl) (OW.nil rfl (QW.next ?_))
 obtain ⟨o121, ho122, hF⟩ := bind_some' hF
 refine CW.cutK (fun a w1 => ∃ (S120 : List Nat), Rep 99 [(0, .pointer (some ⟨b1, 0, none⟩)), (4, .pointer (some ⟨b4, 0, none⟩)), (5, .pointer (some ⟨b22, 0, none⟩))] a ∧ St w (fp [itI R_t49 [.pointer (some ⟨b1, 0, none⟩)] S0 p0]) w1 [itI R_t49 [.pointer (some ⟨b1, 0, none⟩)] S120 o121.1, blkI b4 80 [.int .i64 0, .int .i64 0, .int .i64 0, .int .i64 0, .int .u64 0, .int .u64 0, .int .u64 0], blkI b22 80 [.int .i64 o121.2.Kind, .int .i64 o121.2.Pc, .int .i64 o121.2.Item.Map, .int .i64 o121.2.Item.Op, .int .u64 o121.2.Item.Key, .int .u64 o121.2.Item.Val, .int .u64 o121.2.Val]]) ?_ ?_
 ·rcases Bool.eq_false_or_eq_true ((p1 == 5)) with hc123 | hc123
  ·have ho122 := ite_t ho122 hc123
   refine CW.cond_t rfl hc123 (CW.seq ?_)
   refine CW.plan (by kernel_rfl) ?_
   intro w131 hch132
   have hst := hst.same hch132
   refine OA.pure [0, 1, 2] [(60, .pointer (some ⟨b1, 4, none⟩))] (by kernel_rfl) ?_
   refine OA.ld (i := 3) rfl (by kernel_rfl) rfl rfl rfl (by kernel_rfl) (hst.blk 0 rfl rfl) ?_
   have hst := hst.openQ0 4 rfl
   refine OA.pure [4, 5, 6, 7, 8] [(63, .pointer (some ⟨b18, 16, none⟩)), (66, .pointer (some ⟨b1, 5, none⟩))] (by kernel_rfl) ?_
   refine OA.val (i := 9) (v := .pointer (some ⟨b1, 6, none⟩)) rfl (by kernel_rfl) rfl rfl rfl rfl (fun a w ha => aidx_run (n := 8) (q := 1) 26 1 rfl rfl rfl (by decide) (by decide) (by kernel_rfl) (by kernel_rfl) a w ha) ?_
   refine OA.ld (i := 10) rfl (by kernel_rfl) rfl rfl rfl (by kernel_rfl) (hst.blk 0 rfl rfl) ?_
   refine OA.pure [11] [(69, .int .i64 (w64 (p0.regs 1)))] (by kernel_rfl) ?_
   refine OA.act (i := 12) [] (by kernel_rfl) rfl rfl (by kernel_rfl) (by kernel_rfl) ?_
   obtain ⟨r133, hr134, ho122⟩ := bind_some' ho122
   refine OW.fn rfl rfl rfl rfl (by kernel_rfl) (scratch_Counters_Mark_ok _ b18 59 [.int .u64 (p0.scratch.Words.words 0), .int .u64 (p0.scratch.Words.words 1), .int .u64 (p0.scratch.Words.words 2), .int .u64 (p0.scratch.Words.words 3), .int .u64 (p0.scratch.Words.words 4), .int .u64 (p0.scratch.Words.words 5), .int .u64 (p0.scratch.Words.words 6), .int .u64 (p0.scratch.Words.words 7), .int .u64 (p0.scratch.Words.words 8), .int .u64 (p0.scratch.Words.words 9), .int .u64 (p0.scratch.Words.words 10), .int .u64 (p0.scratch.Words.words 11), .int .u64 (p0.scratch.Words.words 12), .int .u64 (p0.scratch.Words.words 13), .int .u64 (p0.scratch.Words.words 14), .int .u64 (p0.scratch.Words.words 15)] [] p0.scratch.Counters (w64 (p0.regs 1)) r133 hr134 (hst.part [4] rfl)) ?_
   rintro e w135 ⟨rfl, hst136⟩
   refine ⟨_, rfl, ?_⟩
   have hst := hst.join (idx := [4]) (rest := [0, 1, 2, 3, 5]) rfl hst136
   have hst : St _ _ _ [blkI b18 59 [.int .u64 (p0.scratch.Words.words 0), .int .u64 (p0.scratch.Words.words 1), .int .u64 (p0.scratch.Words.words 2), .int .u64 (p0.scratch.Words.words 3), .int .u64 (p0.scratch.Words.words 4), .int .u64 (p0.scratch.Words.words 5), .int .u64 (p0.scratch.Words.words 6), .int .u64 (p0.scratch.Words.words 7), .int .u64 (p0.scratch.Words.words 8), .int .u64 (p0.scratch.Words.words 9), .int .u64 (p0.scratch.Words.words 10), .int .u64 (p0.scratch.Words.words 11), .int .u64 (p0.scratch.Words.words 12), .int .u64 (p0.scratch.Words.words 13), .int .u64 (p0.scratch.Words.words 14), .int .u64 (p0.scratch.Words.words 15), .int .u64 (r133.2.2.counts 0), .int .u64 (r133.2.2.counts 1), .int .u64 (r133.2.2.counts 2), .int .u64 (r133.2.2.counts 3), .int .u64 (r133.2.2.counts 4), .int .u64 (r133.2.2.counts 5), .int .u64 (r133.2.2.counts 6), .int .u64 (r133.2.2.counts 7), .int .u64 (r133.2.2.counts 8), .int .u64 (r133.2.2.counts 9), .int .u64 (r133.2.2.counts 10), .int .u64 (r133.2.2.counts 11), .int .u64 (r133.2.2.counts 12), .int .u64 (r133.2.2.counts 13), .int .u64 (r133.2.2.counts 14), .int .u64 (r133.2.2.counts 15)], _, _, _, _, _] := hst
   refine OA.next trivial ?_
   refine OA.pure [13, 14, 15, 16] [(71, .int .u64 r133.1), (73, .pointer (some ⟨b22, 6, none⟩))] (by kernel_rfl) ?_
   refine OA.act (i := 17) [] (by kernel_rfl) rfl rfl (by kernel_rfl) (by kernel_rfl) ?_
   refine OW.stB hst 5 rfl rfl rfl rfl rfl (by kernel_rfl) rfl rfl [.int .i64 1, .int .i64 p0.at_, .int .i64 0, .int .i64 0, .int .u64 0, .int .u64 0, .int .u64 r133.1] rfl ?_
   intro w137 hst
   refine OA.next trivial ?_
   refine OA.fin (by kernel_rfl) (by kernel_rfl) (QW.next ?_)
   refine CW.tail 6 (by kernel_rfl) (by kernel_rfl) ?_
   intro w141 hch142
   have hst := hst.same hch142
   refine OS.pure 2 [(74, .pointer (some ⟨b1, 0, none⟩)), (75, .pointer (some ⟨b22, 6, none⟩))] rfl (by kernel_rfl) ?_
   refine OS.ld rfl rfl rfl rfl rfl (by kernel_rfl) (hst.blk 5 rfl rfl) ?_
   refine OS.pure 2 [(78, .pointer (some ⟨b1, 5, none⟩))] rfl (by kernel_rfl) ?_
   refine OS.op (v := .pointer (some ⟨b1, 5, none⟩)) rfl rfl rfl rfl rfl (fun a ha => aidx_run (n := 8) (q := 0) 26 1 rfl rfl rfl (by decide) (by decide) (by kernel_rfl) (by kernel_rfl) a _ ha) ?_
   refine OS.on ?_
   refine OW.stB hst 1 rfl rfl rfl rfl rfl (by kernel_rfl) rfl rfl [.int .u64 p0.Event.A, .int .u64 p0.Event.B, .slice a13 (p0.module.Maps).length c14, .slice a16 (p0.module.Code).length c17, .pointer (some ⟨b18, 0, none⟩), .int .u64 r133.1, .int .u64 (p0.regs 1), .int .u64 (p0.regs 2), .int .u64 (p0.regs 3), .int .u64 (p0.regs 4), .int .u64 (p0.regs 5), .int .u64 (p0.regs 6), .int .u64 (p0.regs 7), .int .i64 (p0.turns 0), .int .i64 (p0.turns 1), .int .i64 (p0.turns 2), .int .i64 (p0.turns 3), .int .i64 (p0.turns 4), .int .i64 (p0.turns 5), .int .i64 (p0.turns 6), .int .i64 (p0.turns 7), .int .i64 (p0.turns 8), .int .i64 (p0.turns 9), .int .i64 (p0.turns 10), .int .i64 (p0.turns 11), .int .i64 (p0.turns 12), .int .i64 (p0.turns 13), .int .i64 (p0.turns 14), .int .i64 (p0.turns 15), .int .i64 (p0.turns 16), .int .i64 (p0.turns 17), .int .i64 (p0.turns 18), .int .i64 (p0.turns 19), .int .i64 (p0.turns 20), .int .i64 (p0.turns 21), .int .i64 (p0.turns 22), .int .i64 (p0.turns 23), .int .i64 (p0.turns 24), .int .i64 (p0.turns 25), .int .i64 (p0.turns 26), .int .i64 (p0.turns 27), .int .i64 (p0.turns 28), .int .i64 (p0.turns 29), .int .i64 (p0.turns 30), .int .i64 (p0.turns 31), .int .i64 (p0.turns 32), .int .i64 (p0.turns 33), .int .i64 (p0.turns 34), .int .i64 (p0.turns 35), .int .i64 (p0.turns 36), .int .i64 (p0.turns 37), .int .i64 (p0.turns 38), .int .i64 (p0.turns 39), .int .i64 (p0.turns 40), .int .i64 (p0.turns 41), .int .i64 (p0.turns 42), .int .i64 (p0.turns 43), .int .i64 (p0.turns 44), .int .i64 (p0.turns 45), .int .i64 (p0.turns 46), .int .i64 (p0.turns 47), .int .i64 (p0.turns 48), .int .i64 (p0.turns 49), .int .i64 (p0.turns 50), .int .i64 (p0.turns 51), .int .i64 (p0.turns 52), .int .i64 (p0.turns 53), .int .i64 (p0.turns 54), .int .i64 (p0.turns 55), .int .i64 (p0.turns 56), .int .i64 (p0.turns 57), .int .i64 (p0.turns 58), .int .i64 (p0.turns 59), .int .i64 (p0.turns 60), .int .i64 (p0.turns 61), .int .i64 (p0.turns 62), .int .i64 (p0.turns 63), .int .i64 p0.at_, .int .i64 p0.steps, .int .i64 p0.state] rfl ?_
   intro w143 hst
   refine OW.nil rfl ?_
   have hst := hst.shutP0 (enc := enc_scratch_Scratch) (sz := 32) (he := fun _ => rfl) 0 rfl (scratch_Scratch.mk p0.scratch.Words r133.2.2) rfl
   have hst := hst.toIt 3 rfl (fun _ => rfl) (by decide)
   have hst := hst.toIt 4 rfl (fun _ => rfl) (by decide)
   obtain ⟨S144, hst⟩ := hst.shutP3 R_t96 rfl 1 3 4 0 [2, 5] rfl rfl rfl rfl rfl (engine_Machine.mk p0.Event p0.module (scratch_Scratch.mk p0.scratch.Words r133.2.2) (aset p0.regs 0 r133.1) p0.turns p0.at_ p0.steps p0.state) rfl rfl
   obtain rfl := Option.some.inj ho122
   exact QW.meet (fun a ha => ⟨S144, ha.agrees (by kernel_rfl), hst.keep [2, 0, 1] rfl⟩)
  have ho122 := ite_f ho122 hc123
  refine CW.cond_f rfl hc123 (CW.seq ?_)
  refine CW.plan (by kernel_rfl) ?_
  intro w149 hch150
  have hst := hst.same hch150
  refine OA.pure [0, 1, 2] [(82, .pointer (some ⟨b1, 5, none⟩))] (by kernel_rfl) ?_
  refine OA.val (i := 3) (v := .pointer (some ⟨b1, 6, none⟩)) rfl (by kernel_rfl) rfl rfl rfl rfl (fun a w ha => aidx_run (n := 8) (q := 1) 26 1 rfl rfl rfl (by decide) (by decide) (by kernel_rfl) (by kernel_rfl) a w ha) ?_
  refine OA.ld (i := 4) rfl (by kernel_rfl) rfl rfl rfl (by kernel_rfl) (hst.blk 0 rfl rfl) ?_
  refine OA.pure [5] [(85, .pointer (some ⟨b22, 0, none⟩))] (by kernel_rfl) ?_
  refine OA.act (i := 6) [4] (by kernel_rfl) rfl rfl (by kernel_rfl) (by kernel_rfl) ?_
  refine OW.stB hst 5 rfl rfl rfl rfl rfl (by kernel_rfl) rfl rfl [.int .i64 3, .int .i64 p0.at_, .int .i64 0, .int .i64 0, .int .u64 0, .int .u64 0, .int .u64 0] rfl ?_
  intro w151 hst
  refine OA.next ⟨(hst.blk 0 rfl rfl), trivial⟩ ?_
  refine OA.pure [7] [(86, .pointer (some ⟨b22, 6, none⟩))] (by kernel_rfl) ?_
  refine OA.act (i := 8) [] (by kernel_rfl) rfl rfl (by kernel_rfl) (by kernel_rfl) ?_
  refine OW.stB hst 5 rfl rfl rfl rfl rfl (by kernel_rfl) rfl rfl [.int .i64 3, .int .i64 p0.at_, .int .i64 0, .int .i64 0, .int .u64 0, .int .u64 0, .int .u64 (p0.regs 1)] rfl ?_
  intro w152 hst
  refine OA.next trivial ?_
  refine OA.fin (by kernel_rfl) (by kernel_rfl) (QW.next (CW.region ?_))
  refine OW.pure 3 [(89, .pointer (some ⟨b1, 5, none⟩))] (by kernel_rfl) ?_
  refine OW.op (v := .pointer (some ⟨b1, 5, none⟩)) rfl rfl rfl rfl (fun a ha => aidx_run (n := 8) (q := 0) 26 1 rfl rfl rfl (by decide) (by decide) (by kernel_rfl) (by kernel_rfl) a _ ha) ?_
  refine OW.stB hst 0 rfl rfl rfl rfl rfl (by kernel_rfl) rfl rfl [.int .u64 p0.Event.A, .int .u64 p0.Event.B, .slice a13 (p0.module.Maps).length c14, .slice a16 (p0.module.Code).length c17, .pointer (some ⟨b18, 0, none⟩), .int .u64 0, .int .u64 (p0.regs 1), .int .u64 (p0.regs 2), .int .u64 (p0.regs 3), .int .u64 (p0.regs 4), .int .u64 (p0.regs 5), .int .u64 (p0.regs 6), .int .u64 (p0.regs 7), .int .i64 (p0.turns 0), .int .i64 (p0.turns 1), .int .i64 (p0.turns 2), .int .i64 (p0.turns 3), .int .i64 (p0.turns 4), .int .i64 (p0.turns 5), .int .i64 (p0.turns 6), .int .i64 (p0.turns 7), .int .i64 (p0.turns 8), .int .i64 (p0.turns 9), .int .i64 (p0.turns 10), .int .i64 (p0.turns 11), .int .i64 (p0.turns 12), .int .i64 (p0.turns 13), .int .i64 (p0.turns 14), .int .i64 (p0.turns 15), .int .i64 (p0.turns 16), .int .i64 (p0.turns 17), .int .i64 (p0.turns 18), .int .i64 (p0.turns 19), .int .i64 (p0.turns 20), .int .i64 (p0.turns 21), .int .i64 (p0.turns 22), .int .i64 (p0.turns 23), .int .i64 (p0.turns 24), .int .i64 (p0.turns 25), .int .i64 (p0.turns 26), .int .i64 (p0.turns 27), .int .i64 (p0.turns 28), .int .i64 (p0.turns 29), .int .i64 (p0.turns 30), .int .i64 (p0.turns 31), .int .i64 (p0.turns 32), .int .i64 (p0.turns 33), .int .i64 (p0.turns 34), .int .i64 (p0.turns 35), .int .i64 (p0.turns 36), .int .i64 (p0.turns 37), .int .i64 (p0.turns 38), .int .i64 (p0.turns 39), .int .i64 (p0.turns 40), .int .i64 (p0.turns 41), .int .i64 (p0.turns 42), .int .i64 (p0.turns 43), .int .i64 (p0.turns 44), .int .i64 (p0.turns 45), .int .i64 (p0.turns 46), .int .i64 (p0.turns 47), .int .i64 (p0.turns 48), .int .i64 (p0.turns 49), .int .i64 (p0.turns 50), .int .i64 (p0.turns 51), .int .i64 (p0.turns 52), .int .i64 (p0.turns 53), .int .i64 (p0.turns 54), .int .i64 (p0.turns 55), .int .i64 (p0.turns 56), .int .i64 (p0.turns 57), .int .i64 (p0.turns 58), .int .i64 (p0.turns 59), .int .i64 (p0.turns 60), .int .i64 (p0.turns 61), .int .i64 (p0.turns 62), .int .i64 (p0.turns 63), .int .i64 p0.at_, .int .i64 p0.steps, .int .i64 p0.state] rfl ?_
  intro w154 hst
  refine OW.nil rfl ?_
  have hst := hst.toIt 2 rfl (fun _ => rfl) (by decide)
  have hst := hst.toIt 3 rfl (fun _ => rfl) (by decide)
  obtain ⟨S155, hst⟩ := hst.shutP3 R_t96 rfl 0 2 3 4 [1, 5] rfl rfl rfl rfl rfl (engine_Machine.mk p0.Event p0.module p0.scratch (aset p0.regs 0 0) p0.turns p0.at_ p0.steps p0.state) rfl rfl
  obtain rfl := Option.some.inj ho122
  exact QW.meet (fun a ha => ⟨S155, ha.agrees (by kernel_rfl), hst.keep [2, 0, 1] rfl⟩)
 rintro a w1 ⟨S120, ha, hst⟩
 refine CW.go ?_ ha
 refine CW.seq ?_
 obtain ⟨v156, S157, v158, S159, v160, S161, hst⟩ := hst.openQ3 0 rfl rfl rfl rfl
 have hst := hst.toRow1 3 rfl
 have hst := hst.toRow1 4 rfl
 obtain ⟨l162, a163, c164, rfl⟩ := hst.len 3 rfl
 obtain ⟨l165, a166, c167, rfl⟩ := hst.len 4 rfl
 obtain ⟨b168, rfl⟩ := hst.fptr 5 rfl
 have hst : St _ _ _ [blkI b1 96 [.int .u64 o121.1.Event.A, .int .u64 o121.1.Event.B, .slice a163 (o121.1.module.Maps).length c164, .slice a166 (o121.1.module.Code).length c167, .pointer (some ⟨b168, 0, none⟩), .int .u64 (o121.1.regs 0), .int .u64 (o121.1.regs 1), .int .u64 (o121.1.regs 2), .int .u64 (o121.1.regs 3), .int .u64 (o121.1.regs 4), .int .u64 (o121.1.regs 5), .int .u64 (o121.1.regs 6), .int .u64 (o121.1.regs 7), .int .i64 (o121.1.turns 0), .int .i64 (o121.1.turns 1), .int .i64 (o121.1.turns 2), .int .i64 (o121.1.turns 3), .int .i64 (o121.1.turns 4), .int .i64 (o121.1.turns 5), .int .i64 (o121.1.turns 6), .int .i64 (o121.1.turns 7), .int .i64 (o121.1.turns 8), .int .i64 (o121.1.turns 9), .int .i64 (o121.1.turns 10), .int .i64 (o121.1.turns 11), .int .i64 (o121.1.turns 12), .int .i64 (o121.1.turns 13), .int .i64 (o121.1.turns 14), .int .i64 (o121.1.turns 15), .int .i64 (o121.1.turns 16), .int .i64 (o121.1.turns 17), .int .i64 (o121.1.turns 18), .int .i64 (o121.1.turns 19), .int .i64 (o121.1.turns 20), .int .i64 (o121.1.turns 21), .int .i64 (o121.1.turns 22), .int .i64 (o121.1.turns 23), .int .i64 (o121.1.turns 24), .int .i64 (o121.1.turns 25), .int .i64 (o121.1.turns 26), .int .i64 (o121.1.turns 27), .int .i64 (o121.1.turns 28), .int .i64 (o121.1.turns 29), .int .i64 (o121.1.turns 30), .int .i64 (o121.1.turns 31), .int .i64 (o121.1.turns 32), .int .i64 (o121.1.turns 33), .int .i64 (o121.1.turns 34), .int .i64 (o121.1.turns 35), .int .i64 (o121.1.turns 36), .int .i64 (o121.1.turns 37), .int .i64 (o121.1.turns 38), .int .i64 (o121.1.turns 39), .int .i64 (o121.1.turns 40), .int .i64 (o121.1.turns 41), .int .i64 (o121.1.turns 42), .int .i64 (o121.1.turns 43), .int .i64 (o121.1.turns 44), .int .i64 (o121.1.turns 45), .int .i64 (o121.1.turns 46), .int .i64 (o121.1.turns 47), .int .i64 (o121.1.turns 48), .int .i64 (o121.1.turns 49), .int .i64 (o121.1.turns 50), .int .i64 (o121.1.turns 51), .int .i64 (o121.1.turns 52), .int .i64 (o121.1.turns 53), .int .i64 (o121.1.turns 54), .int .i64 (o121.1.turns 55), .int .i64 (o121.1.turns 56), .int .i64 (o121.1.turns 57), .int .i64 (o121.1.turns 58), .int .i64 (o121.1.turns 59), .int .i64 (o121.1.turns 60), .int .i64 (o121.1.turns 61), .int .i64 (o121.1.turns 62), .int .i64 (o121.1.turns 63), .int .i64 o121.1.at_, .int .i64 o121.1.steps, .int .i64 o121.1.state], _, _, _, _, _] := hst
 refine CW.region ?_
 refine OW.pure 3 [(91, .pointer (some ⟨b1, 0, none⟩)), (93, .pointer (some ⟨b1, 77, none⟩))] (by kernel_rfl) ?_
 refine OW.ld rfl rfl rfl rfl (by kernel_rfl) (hst.blk 0 rfl rfl) ?_
 refine OW.pure 3 [(95, .int .i64 (w64 (o121.1.at_ + 1))), (97, .pointer (some ⟨b1, 77, none⟩))] (by kernel_rfl) ?_
 refine OW.stB hst 0 rfl rfl rfl rfl rfl (by kernel_rfl) rfl rfl [.int .u64 o121.1.Event.A, .int .u64 o121.1.Event.B, .slice a163 (o121.1.module.Maps).length c164, .slice a166 (o121.1.module.Code).length c167, .pointer (some ⟨b168, 0, none⟩), .int .u64 (o121.1.regs 0), .int .u64 (o121.1.regs 1), .int .u64 (o121.1.regs 2), .int .u64 (o121.1.regs 3), .int .u64 (o121.1.regs 4), .int .u64 (o121.1.regs 5), .int .u64 (o121.1.regs 6), .int .u64 (o121.1.regs 7), .int .i64 (o121.1.turns 0), .int .i64 (o121.1.turns 1), .int .i64 (o121.1.turns 2), .int .i64 (o121.1.turns 3), .int .i64 (o121.1.turns 4), .int .i64 (o121.1.turns 5), .int .i64 (o121.1.turns 6), .int .i64 (o121.1.turns 7), .int .i64 (o121.1.turns 8), .int .i64 (o121.1.turns 9), .int .i64 (o121.1.turns 10), .int .i64 (o121.1.turns 11), .int .i64 (o121.1.turns 12), .int .i64 (o121.1.turns 13), .int .i64 (o121.1.turns 14), .int .i64 (o121.1.turns 15), .int .i64 (o121.1.turns 16), .int .i64 (o121.1.turns 17), .int .i64 (o121.1.turns 18), .int .i64 (o121.1.turns 19), .int .i64 (o121.1.turns 20), .int .i64 (o121.1.turns 21), .int .i64 (o121.1.turns 22), .int .i64 (o121.1.turns 23), .int .i64 (o121.1.turns 24), .int .i64 (o121.1.turns 25), .int .i64 (o121.1.turns 26), .int .i64 (o121.1.turns 27), .int .i64 (o121.1.turns 28), .int .i64 (o121.1.turns 29), .int .i64 (o121.1.turns 30), .int .i64 (o121.1.turns 31), .int .i64 (o121.1.turns 32), .int .i64 (o121.1.turns 33), .int .i64 (o121.1.turns 34), .int .i64 (o121.1.turns 35), .int .i64 (o121.1.turns 36), .int .i64 (o121.1.turns 37), .int .i64 (o121.1.turns 38), .int .i64 (o121.1.turns 39), .int .i64 (o121.1.turns 40), .int .i64 (o121.1.turns 41), .int .i64 (o121.1.turns 42), .int .i64 (o121.1.turns 43), .int .i64 (o121.1.turns 44), .int .i64 (o121.1.turns 45), .int .i64 (o121.1.turns 46), .int .i64 (o121.1.turns 47), .int .i64 (o121.1.turns 48), .int .i64 (o121.1.turns 49), .int .i64 (o121.1.turns 50), .int .i64 (o121.1.turns 51), .int .i64 (o121.1.turns 52), .int .i64 (o121.1.turns 53), .int .i64 (o121.1.turns 54), .int .i64 (o121.1.turns 55), .int .i64 (o121.1.turns 56), .int .i64 (o121.1.turns 57), .int .i64 (o121.1.turns 58), .int .i64 (o121.1.turns 59), .int .i64 (o121.1.turns 60), .int .i64 (o121.1.turns 61), .int .i64 (o121.1.turns 62), .int .i64 (o121.1.turns 63), .int .i64 (w64 (o121.1.at_ + 1)), .int .i64 o121.1.steps, .int .i64 o121.1.state] rfl ?_
 intro w170 hst
 refine OW.nil rfl (QW.next (CW.seq (CW.region ?_)))
 refine OW.ldN (cs := [.int .i64 o121.2.Kind, .int .i64 o121.2.Pc, .int .i64 o121.2.Item.Map, .int .i64 o121.2.Item.Op, .int .u64 o121.2.Item.Key, .int .u64 o121.2.Item.Val, .int .u64 o121.2.Val]) rfl rfl rfl rfl (by kernel_rfl) (by kernel_rfl) (hst.blkN 2 rfl 0 7) ?_
 refine OW.stB hst 1 rfl rfl rfl rfl rfl (by kernel_rfl) rfl rfl [.int .i64 o121.2.Kind, .int .i64 o121.2.Pc, .int .i64 o121.2.Item.Map, .int .i64 o121.2.Item.Op, .int .u64 o121.2.Item.Key, .int .u64 o121.2.Item.Val, .int .u64 o121.2.Val] rfl ?_
 intro w172 hst
 refine OW.nil rfl (QW.next (CW.ret ?_))
 have hst := hst.toIt 3 rfl (fun _ => rfl) (by decide)
 have hst := hst.toIt 4 rfl (fun _ => rfl) (by decide)
 obtain ⟨S173, hst⟩ := hst.shutP3 R_t96 rfl 0 3 4 5 [1, 2] rfl rfl rfl rfl rfl (engine_Machine.mk o121.1.Event o121.1.module o121.1.scratch o121.1.regs o121.1.turns (w64 (o121.1.at_ + 1)) o121.1.steps o121.1.state) rfl rfl
 obtain rfl := Option.some.inj hF
 refine QW.ret_c rfl rfl (run_loadN (cs := [.int .i64 o121.2.Kind, .int .i64 o121.2.Pc, .int .i64 o121.2.Item.Map, .int .i64 o121.2.Item.Op, .int .u64 o121.2.Item.Key, .int .u64 o121.2.Item.Val, .int .u64 o121.2.Val]) (by kernel_rfl) (by kernel_rfl) (hst.blkN 0 rfl 0 7)) ?_
 exact ⟨S173, rfl, hst.keep [2] rfl⟩
theorem engine_Machine_source_ok (w : World) (b0 : Nat) (v0_0 : Value) (v0_1 : Value) (v0_2 : Value) (p0 : engine_Machine) (p1 : api_Inst) (r : Int) (hF : engine_Machine_source p0 p1 = some r)
    (hst : St w (fp []) w []) (h0 : RdB w (fp []) b0 [.int .u64 p0.Event.A, .int .u64 p0.Event.B, v0_0, v0_1, v0_2, .int .u64 (p0.regs 0), .int .u64 (p0.regs 1), .int .u64 (p0.regs 2), .int .u64 (p0.regs 3), .int .u64 (p0.regs 4), .int .u64 (p0.regs 5), .int .u64 (p0.regs 6), .int .u64 (p0.regs 7), .int .i64 (p0.turns 0), .int .i64 (p0.turns 1), .int .i64 (p0.turns 2), .int .i64 (p0.turns 3), .int .i64 (p0.turns 4), .int .i64 (p0.turns 5), .int .i64 (p0.turns 6), .int .i64 (p0.turns 7), .int .i64 (p0.turns 8), .int .i64 (p0.turns 9), .int .i64 (p0.turns 10), .int .i64 (p0.turns 11), .int .i64 (p0.turns 12), .int .i64 (p0.turns 13), .int .i64 (p0.turns 14), .int .i64 (p0.turns 15), .int .i64 (p0.turns 16), .int .i64 (p0.turns 17), .int .i64 (p0.turns 18), .int .i64 (p0.turns 19), .int .i64 (p0.turns 20), .int .i64 (p0.turns 21), .int .i64 (p0.turns 22), .int .i64 (p0.turns 23), .int .i64 (p0.turns 24), .int .i64 (p0.turns 25), .int .i64 (p0.turns 26), .int .i64 (p0.turns 27), .int .i64 (p0.turns 28), .int .i64 (p0.turns 29), .int .i64 (p0.turns 30), .int .i64 (p0.turns 31), .int .i64 (p0.turns 32), .int .i64 (p0.turns 33), .int .i64 (p0.turns 34), .int .i64 (p0.turns 35), .int .i64 (p0.turns 36), .int .i64 (p0.turns 37), .int .i64 (p0.turns 38), .int .i64 (p0.turns 39), .int .i64 (p0.turns 40), .int .i64 (p0.turns 41), .int .i64 (p0.turns 42), .int .i64 (p0.turns 43), .int .i64 (p0.turns 44), .int .i64 (p0.turns 45), .int .i64 (p0.turns 46), .int .i64 (p0.turns 47), .int .i64 (p0.turns 48), .int .i64 (p0.turns 49), .int .i64 (p0.turns 50), .int .i64 (p0.turns 51), .int .i64 (p0.turns 52), .int .i64 (p0.turns 53), .int .i64 (p0.turns 54), .int .i64 (p0.turns 55), .int .i64 (p0.turns 56), .int .i64 (p0.turns 57), .int .i64 (p0.turns 58), .int .i64 (p0.turns 59), .int .i64 (p0.turns 60), .int .i64 (p0.turns 61), .int .i64 (p0.turns 62), .int .i64 (p0.turns 63), .int .i64 p0.at_, .int .i64 p0.steps, .int .i64 p0.state]) :
    Calls Tryz.prog 60 [.pointer (some ⟨b0, 0, none⟩), .agg [.int .i64 p1.Op, .int .i64 p1.D, .int .i64 p1.A, .int .i64 p1.B, .int .i64 p1.Imm].toArray].toArray w (fun e w' => e = .returned (.int .u64 r) ∧ St w (fp []) w' []) := by
 refine CW.start (N := 18) Tryz.func60 rfl rfl rfl (CW.seq (CW.region ?_))
 refine OW.box hst rfl rfl rfl rfl [.int .i64 p1.Op, .int .i64 p1.D, .int .i64 p1.A, .int .i64 p1.B, .int .i64 p1.Imm] rfl ?_
 intro b3 w4 hst
 refine OW.pure 1 [] (by kernel_rfl) (OW.nil rfl (QW.next (CW.seq (CW.seq (CW.region ?_)))))
 refine OW.pure 1 [(5, .pointer (some ⟨b3, 3, none⟩))] (by kernel_rfl) ?_
 refine OW.ld rfl rfl rfl rfl (by kernel_rfl) (hst.blk 0 rfl rfl) ?_
 refine OW.pure 1 [(7, .bool (p1.B == 8))] (by kernel_rfl) (OW.nil rfl (QW.next ?_))
 rcases Bool.eq_false_or_eq_true ((p1.B == 8)) with hc5 | hc5
 ·have hF := ite_t hF hc5
  refine CW.cond_t rfl hc5 (CW.seq (CW.region ?_))
  refine OW.pure 1 [(8, .pointer (some ⟨b3, 4, none⟩))] (by kernel_rfl) ?_
  refine OW.ld rfl rfl rfl rfl (by kernel_rfl) (hst.blk 0 rfl rfl) ?_
  refine OW.pure 2 [(4, .int .u64 (wu64 p1.Imm))] (by kernel_rfl) (OW.nil rfl (QW.next (CW.ret (QW.then_ret ?_))))
  obtain rfl := Option.some.inj hF
  refine QW.ret1 rfl rfl ?_
  exact ⟨rfl, hst.keep [] rfl⟩
 have hF := ite_f hF hc5
 refine CW.cond_f rfl hc5 (CW.skip (QW.next (CW.seq ?_)))
 refine CW.still (by kernel_rfl) (by kernel_rfl) ?_
 intro w10 hch11
 have hst := hst.same hch11
 refine OS.pure 2 [(11, .pointer (some ⟨b0, 0, none⟩)), (12, .pointer (some ⟨b3, 3, none⟩))] rfl (by kernel_rfl) ?_
 refine OS.ld rfl rfl rfl rfl rfl (by kernel_rfl) (hst.blk 0 rfl rfl) ?_
 refine OS.pure 2 [(15, .pointer (some ⟨b0, 5, none⟩))] rfl (by kernel_rfl) ?_
 obtain ⟨i12, hi13, hF⟩ := bind_some' hF
 refine OS.op (v := .pointer (some ⟨b0, 5 + Int.toNat p1.B * 1, none⟩)) rfl rfl rfl rfl rfl (fun a ha => aidx_run (n := 8) 26 1 rfl rfl rfl (ain_some hi13).1 (ain_some hi13).2.1 (by kernel_rfl) (by kernel_rfl) a _ ha) ?_
 refine OS.ld rfl rfl rfl rfl rfl (by kernel_rfl) (h0.arr hst (encInt .u64) (fun _ => rfl) 8 p0.regs 5 rfl rfl hi13 0 _ rfl) ?_
 refine OS.pure 1 [(4, .int .u64 (p0.regs i12))] rfl (by kernel_rfl) ?_
 refine OS.fin rfl (QW.next (CW.ret ?_))
 obtain rfl := Option.some.inj hF
 refine QW.ret1 rfl rfl ?_
 exact ⟨rfl, hst.keep [] rfl⟩
theorem scratch_Words_Load_ok (w : World) (b0 : Nat) (T0 : TypeId) (A0 C0 : List Value) (p0 : scratch_Words) (p1 : Int) (r : Int × Int) (hF : scratch_Words_Load p0 p1 = some r)
    (hst : St w (fp [partI b0 T0 A0 [.int .u64 (p0.words 0), .int .u64 (p0.words 1), .int .u64 (p0.words 2), .int .u64 (p0.words 3), .int .u64 (p0.words 4), .int .u64 (p0.words 5), .int .u64 (p0.words 6), .int .u64 (p0.words 7), .int .u64 (p0.words 8), .int .u64 (p0.words 9), .int .u64 (p0.words 10), .int .u64 (p0.words 11), .int .u64 (p0.words 12), .int .u64 (p0.words 13), .int .u64 (p0.words 14), .int .u64 (p0.words 15)] C0]) w [partI b0 T0 A0 [.int .u64 (p0.words 0), .int .u64 (p0.words 1), .int .u64 (p0.words 2), .int .u64 (p0.words 3), .int .u64 (p0.words 4), .int .u64 (p0.words 5), .int .u64 (p0.words 6), .int .u64 (p0.words 7), .int .u64 (p0.words 8), .int .u64 (p0.words 9), .int .u64 (p0.words 10), .int .u64 (p0.words 11), .int .u64 (p0.words 12), .int .u64 (p0.words 13), .int .u64 (p0.words 14), .int .u64 (p0.words 15)] C0]) :
    Calls Tryz.prog 61 [.pointer (some ⟨b0, A0.length + 0, none⟩), .int .i64 p1].toArray w (fun e w' => e = .returned (.tuple #[.int .u64 r.1, .int .i64 r.2]) ∧ St w (fp [partI b0 T0 A0 [.int .u64 (p0.words 0), .int .u64 (p0.words 1), .int .u64 (p0.words 2), .int .u64 (p0.words 3), .int .u64 (p0.words 4), .int .u64 (p0.words 5), .int .u64 (p0.words 6), .int .u64 (p0.words 7), .int .u64 (p0.words 8), .int .u64 (p0.words 9), .int .u64 (p0.words 10), .int .u64 (p0.words 11), .int .u64 (p0.words 12), .int .u64 (p0.words 13), .int .u64 (p0.words 14), .int .u64 (p0.words 15)] C0]) w' [partI b0 T0 A0 [.int .u64 (p0.words 0), .int .u64 (p0.words 1), .int .u64 (p0.words 2), .int .u64 (p0.words 3), .int .u64 (p0.words 4), .int .u64 (p0.words 5), .int .u64 (p0.words 6), .int .u64 (p0.words 7), .int .u64 (p0.words 8), .int .u64 (p0.words 9), .int .u64 (p0.words 10), .int .u64 (p0.words 11), .int .u64 (p0.words 12), .int .u64 (p0.words 13), .int .u64 (p0.words 14), .int .u64 (p0.words 15)] C0]) := by
 refine CW.start (N := 18) Tryz.func61 rfl rfl rfl (CW.seq (CW.region ?_))
 refine OW.pure 2 [] (by kernel_rfl) (OW.nil rfl (QW.next (CW.seq (CW.seq ?_))))
 refine CW.cutK (fun a w1 => Rep 18 [(0, .pointer (some ⟨b0, A0.length + 0, none⟩)), (1, .int .i64 p1), (11, .bool (decide (p1 < 0) || decide (p1 ≥ 16)))] a ∧ St w (fp [partI b0 T0 A0 [.int .u64 (p0.words 0), .int .u64 (p0.words 1), .int .u64 (p0.words 2), .int .u64 (p0.words 3), .int .u64 (p0.words 4), .int .u64 (p0.words 5), .int .u64 (p0.words 6), .int .u64 (p0.words 7), .int .u64 (p0.words 8), .int .u64 (p0.words 9), .int .u64 (p0.words 10), .int .u64 (p0.words 11), .int .u64 (p0.words 12), .int .u64 (p0.words 13), .int .u64 (p0.words 14), .int .u64 (p0.words 15)] C0]) w1 [partI b0 T0 A0 [.int .u64 (p0.words 0), .int .u64 (p0.words 1), .int .u64 (p0.words 2), .int .u64 (p0.words 3), .int .u64 (p0.words 4), .int .u64 (p0.words 5), .int .u64 (p0.words 6), .int .u64 (p0.words 7), .int .u64 (p0.words 8), .int .u64 (p0.words 9), .int .u64 (p0.words 10), .int .u64 (p0.words 11), .int .u64 (p0.words 12), .int .u64 (p0.words 13), .int .u64 (p0.words 14), .int .u64 (p0.words 15)] C0]) ?_ ?_
 ·refine CW.region ?_
  refine OW.pure 3 [(8, .bool (decide (p1 < 0)))] (by kernel_rfl) ?_
  refine OW.split 8 rfl (fun hc1 => ?_) (fun hc1 => ?_)
  ·refine OW.pure 3 [(11, .bool true)] (by kernel_rfl) (OW.nil rfl ?_)
   refine QW.say 11 (v := .bool (decide (p1 < 0) || decide (p1 ≥ 16))) rfl (by first | (rw [hc1]; done) | (rw [hc1]; rfl) | simp [hc1]) ?_
   exact QW.meet (fun a ha => ⟨ha.agrees (by kernel_rfl), hst.keep [0] rfl⟩)
  refine OW.pure 3 [(11, .bool (decide (p1 ≥ 16)))] (by kernel_rfl) (OW.nil rfl ?_)
  refine QW.say 11 (v := .bool (decide (p1 < 0) || decide (p1 ≥ 16))) rfl (by first | (rw [hc1]; done) | (rw [hc1]; rfl) | simp [hc1]) ?_
  exact QW.meet (fun a ha => ⟨ha.agrees (by kernel_rfl), hst.keep [0] rfl⟩)
 rintro a w1 ⟨ha, hst⟩
 refine CW.go ?_ ha
 rcases Bool.eq_false_or_eq_true ((decide (p1 < 0) || decide (p1 ≥ 16))) with hc2 | hc2
 ·have hF := ite_t hF hc2
  refine CW.cond_t rfl hc2 (CW.seq (CW.region ?_))
  refine OW.pure 2 [(4, .int .u64 0), (5, .int .i64 35)] (by kernel_rfl) (OW.nil rfl (QW.next (CW.ret (QW.then_ret ?_))))
  obtain rfl := Option.some.inj hF
  refine QW.ret2 rfl rfl rfl ?_
  exact ⟨rfl, hst.keep [0] rfl⟩
 have hF := ite_f hF hc2
 refine CW.cond_f rfl hc2 (CW.skip (QW.next (CW.seq (CW.region ?_))))
 refine OW.pure 4 [(13, .int .i64 p1), (15, .pointer (some ⟨b0, A0.length + 0, none⟩))] (by kernel_rfl) ?_
 obtain ⟨i5, hi6, hF⟩ := bind_some' hF
 refine OW.op (v := .pointer (some ⟨b0, A0.length + 0 + Int.toNat p1 * 1, none⟩)) rfl rfl rfl rfl (fun a ha => aidx_run (n := 16) 26 1 rfl rfl rfl (ain_some hi6).1 (ain_some hi6).2.1 (by kernel_rfl) (by kernel_rfl) a _ ha) ?_
 refine OW.ld rfl rfl rfl rfl (by kernel_rfl) (hst.arrP 0 rfl (encInt .u64) (fun _ => rfl) 16 p0.words 0 rfl rfl hi6 0 _ rfl) ?_
 refine OW.pure 2 [(4, .int .u64 (p0.words i5)), (5, .int .i64 0)] (by kernel_rfl) (OW.nil rfl (QW.next (CW.ret ?_)))
 obtain rfl := Option.some.inj hF
 refine QW.ret2 rfl rfl rfl ?_
 exact ⟨rfl, hst.keep [0] rfl⟩
theorem scratch_Words_Store_ok (w : World) (b0 : Nat) (T0 : TypeId) (A0 C0 : List Value) (p0 : scratch_Words) (p1 : Int) (p2 : Int) (r : Int × scratch_Words) (hF : scratch_Words_Store p0 p1 p2 = some r)
    (hst : St w (fp [partI b0 T0 A0 [.int .u64 (p0.words 0), .int .u64 (p0.words 1), .int .u64 (p0.words 2), .int .u64 (p0.words 3), .int .u64 (p0.words 4), .int .u64 (p0.words 5), .int .u64 (p0.words 6), .int .u64 (p0.words 7), .int .u64 (p0.words 8), .int .u64 (p0.words 9), .int .u64 (p0.words 10), .int .u64 (p0.words 11), .int .u64 (p0.words 12), .int .u64 (p0.words 13), .int .u64 (p0.words 14), .int .u64 (p0.words 15)] C0]) w [partI b0 T0 A0 [.int .u64 (p0.words 0), .int .u64 (p0.words 1), .int .u64 (p0.words 2), .int .u64 (p0.words 3), .int .u64 (p0.words 4), .int .u64 (p0.words 5), .int .u64 (p0.words 6), .int .u64 (p0.words 7), .int .u64 (p0.words 8), .int .u64 (p0.words 9), .int .u64 (p0.words 10), .int .u64 (p0.words 11), .int .u64 (p0.words 12), .int .u64 (p0.words 13), .int .u64 (p0.words 14), .int .u64 (p0.words 15)] C0]) :
    Calls Tryz.prog 13 [.pointer (some ⟨b0, A0.length + 0, none⟩), .int .i64 p1, .int .u64 p2].toArray w (fun e w' => e = .returned (.int .i64 r.1) ∧ St w (fp [partI b0 T0 A0 [.int .u64 (p0.words 0), .int .u64 (p0.words 1), .int .u64 (p0.words 2), .int .u64 (p0.words 3), .int .u64 (p0.words 4), .int .u64 (p0.words 5), .int .u64 (p0.words 6), .int .u64 (p0.words 7), .int .u64 (p0.words 8), .int .u64 (p0.words 9), .int .u64 (p0.words 10), .int .u64 (p0.words 11), .int .u64 (p0.words 12), .int .u64 (p0.words 13), .int .u64 (p0.words 14), .int .u64 (p0.words 15)] C0]) w' [partI b0 T0 A0 [.int .u64 (r.2.words 0), .int .u64 (r.2.words 1), .int .u64 (r.2.words 2), .int .u64 (r.2.words 3), .int .u64 (r.2.words 4), .int .u64 (r.2.words 5), .int .u64 (r.2.words 6), .int .u64 (r.2.words 7), .int .u64 (r.2.words 8), .int .u64 (r.2.words 9), .int .u64 (r.2.words 10), .int .u64 (r.2.words 11), .int .u64 (r.2.words 12), .int .u64 (r.2.words 13), .int .u64 (r.2.words 14), .int .u64 (r.2.words 15)] C0]) := by
 refine CW.start (N := 19) Tryz.func13 rfl rfl rfl (CW.seq (CW.region ?_))
 refine OW.pure 1 [] (by kernel_rfl) (OW.nil rfl (QW.next (CW.seq (CW.seq ?_))))
 refine CW.cutK (fun a w1 => Rep 19 [(0, .pointer (some ⟨b0, A0.length + 0, none⟩)), (1, .int .i64 p1), (2, .int .u64 p2), (12, .bool (decide (p1 < 0) || decide (p1 ≥ 16)))] a ∧ St w (fp [partI b0 T0 A0 [.int .u64 (p0.words 0), .int .u64 (p0.words 1), .int .u64 (p0.words 2), .int .u64 (p0.words 3), .int .u64 (p0.words 4), .int .u64 (p0.words 5), .int .u64 (p0.words 6), .int .u64 (p0.words 7), .int .u64 (p0.words 8), .int .u64 (p0.words 9), .int .u64 (p0.words 10), .int .u64 (p0.words 11), .int .u64 (p0.words 12), .int .u64 (p0.words 13), .int .u64 (p0.words 14), .int .u64 (p0.words 15)] C0]) w1 [partI b0 T0 A0 [.int .u64 (p0.words 0), .int .u64 (p0.words 1), .int .u64 (p0.words 2), .int .u64 (p0.words 3), .int .u64 (p0.words 4), .int .u64 (p0.words 5), .int .u64 (p0.words 6), .int .u64 (p0.words 7), .int .u64 (p0.words 8), .int .u64 (p0.words 9), .int .u64 (p0.words 10), .int .u64 (p0.words 11), .int .u64 (p0.words 12), .int .u64 (p0.words 13), .int .u64 (p0.words 14), .int .u64 (p0.words 15)] C0]) ?_ ?_
 ·refine CW.region ?_
  refine OW.pure 3 [(9, .bool (decide (p1 < 0)))] (by kernel_rfl) ?_
  refine OW.split 9 rfl (fun hc1 => ?_) (fun hc1 => ?_)
  ·refine OW.pure 3 [(12, .bool true)] (by kernel_rfl) (OW.nil rfl ?_)
   refine QW.say 12 (v := .bool (decide (p1 < 0) || decide (p1 ≥ 16))) rfl (by first | (rw [hc1]; done) | (rw [hc1]; rfl) | simp [hc1]) ?_
   exact QW.meet (fun a ha => ⟨ha.agrees (by kernel_rfl), hst.keep [0] rfl⟩)
  refine OW.pure 3 [(12, .bool (decide (p1 ≥ 16)))] (by kernel_rfl) (OW.nil rfl ?_)
  refine QW.say 12 (v := .bool (decide (p1 < 0) || decide (p1 ≥ 16))) rfl (by first | (rw [hc1]; done) | (rw [hc1]; rfl) | simp [hc1]) ?_
  exact QW.meet (fun a ha => ⟨ha.agrees (by kernel_rfl), hst.keep [0] rfl⟩)
 rintro a w1 ⟨ha, hst⟩
 refine CW.go ?_ ha
 rcases Bool.eq_false_or_eq_true ((decide (p1 < 0) || decide (p1 ≥ 16))) with hc2 | hc2
 ·have hF := ite_t hF hc2
  refine CW.cond_t rfl hc2 (CW.seq (CW.region ?_))
  refine OW.pure 1 [(6, .int .i64 35)] (by kernel_rfl) (OW.nil rfl (QW.next (CW.ret (QW.then_ret ?_))))
  obtain rfl := Option.some.inj hF
  refine QW.ret1 rfl rfl ?_
  exact ⟨rfl, hst.keep [0] rfl⟩
 have hF := ite_f hF hc2
 refine CW.cond_f rfl hc2 (CW.skip (QW.next (CW.seq (CW.region ?_))))
 refine OW.pure 5 [(14, .int .i64 p1), (15, .int .u64 p2), (17, .pointer (some ⟨b0, A0.length + 0, none⟩))] (by kernel_rfl) ?_
 obtain ⟨i6, hi7, hF⟩ := bind_some' hF
 refine OW.op (v := .pointer (some ⟨b0, A0.length + 0 + Int.toNat p1 * 1, none⟩)) rfl rfl rfl rfl (fun a ha => aidx_run (n := 16) 26 1 rfl rfl rfl (ain_some hi7).1 (ain_some hi7).2.1 (by kernel_rfl) (by kernel_rfl) a _ ha) ?_
 refine OW.stPA hst 0 rfl rfl rfl rfl rfl (by kernel_rfl) rfl (encInt .u64) (fun _ => rfl) 16 p0.words 0 rfl rfl hi7 0 rfl rfl p2 rfl [.int .u64 ((aset p0.words i6 p2) 0), .int .u64 ((aset p0.words i6 p2) 1), .int .u64 ((aset p0.words i6 p2) 2), .int .u64 ((aset p0.words i6 p2) 3), .int .u64 ((aset p0.words i6 p2) 4), .int .u64 ((aset p0.words i6 p2) 5), .int .u64 ((aset p0.words i6 p2) 6), .int .u64 ((aset p0.words i6 p2) 7), .int .u64 ((aset p0.words i6 p2) 8), .int .u64 ((aset p0.words i6 p2) 9), .int .u64 ((aset p0.words i6 p2) 10), .int .u64 ((aset p0.words i6 p2) 11), .int .u64 ((aset p0.words i6 p2) 12), .int .u64 ((aset p0.words i6 p2) 13), .int .u64 ((aset p0.words i6 p2) 14), .int .u64 ((aset p0.words i6 p2) 15)] rfl ?_
 intro w8 hst
 refine OW.nil rfl (QW.next (CW.seq (CW.region ?_)))
 refine OW.pure 1 [(6, .int .i64 0)] (by kernel_rfl) (OW.nil rfl (QW.next (CW.ret ?_)))
 obtain rfl := Option.some.inj hF
 refine QW.ret1 rfl rfl ?_
 exact ⟨rfl, hst.keep [0] rfl⟩
theorem engine_Machine_run_ok (w : World) (v0 : Value) (S0 : List Nat) (p0 : engine_Machine) (p1 : api_Inst) (r : Int × engine_Machine) (hF : engine_Machine_run p0 p1 = some r)
    (hst : St w (fp [itI R_t49 [v0] S0 p0]) w [itI R_t49 [v0] S0 p0]) :
    Calls Tryz.prog 34 [v0, .agg [.int .i64 p1.Op, .int .i64 p1.D, .int .i64 p1.A, .int .i64 p1.B, .int .i64 p1.Imm].toArray].toArray w (fun e w' => ∃ (s0 : List Nat), e = .returned (.int .i64 r.1) ∧ St w (fp [itI R_t49 [v0] S0 p0]) w' [itI R_t49 [v0] s0 r.2]) := by
 refine CW.start (N := 199) Tryz.func34 rfl rfl rfl ?_
 obtain ⟨b1, rfl⟩ := hst.fptr 0 rfl
 refine CW.seq (CW.region ?_)
 refine OW.box hst rfl rfl rfl rfl [.int .i64 p1.Op, .int .i64 p1.D, .int .i64 p1.A, .int .i64 p1.B, .int .i64 p1.Imm] rfl ?_
 intro b4 w5 hst
 refine OW.pure 1 [] (by kernel_rfl) (OW.nil rfl (QW.next (CW.seq (CW.seq (CW.region ?_)))))
 refine OW.pure 1 [(9, .pointer (some ⟨b4, 0, none⟩))] (by kernel_rfl) ?_
 refine OW.ld rfl rfl rfl rfl (by kernel_rfl) (hst.blk 1 rfl rfl) (OW.nil rfl (QW.next (CW.block (CW.seq (CW.region ?_)))))
 refine OW.pure 2 [(55, .bool (p1.Op == 0))] (by kernel_rfl) (OW.nil rfl (QW.next ?_))
 rcases Bool.eq_false_or_eq_true ((p1.Op == 0)) with hc6 | hc6
 ·have hF := ite_t hF hc6
  refine CW.cond_t rfl hc6 ?_
  obtain ⟨v7, S8, v9, S10, v11, S12, hst⟩ := hst.openQ3 0 rfl rfl rfl rfl
  have hst := hst.toRow1 2 rfl
  have hst := hst.toRow1 3 rfl
  obtain ⟨l13, a14, c15, rfl⟩ := hst.len 2 rfl
  obtain ⟨l16, a17, c18, rfl⟩ := hst.len 3 rfl
  obtain ⟨b19, rfl⟩ := hst.fptr 4 rfl
  have hst : St _ _ _ [blkI b1 96 [.int .u64 p0.Event.A, .int .u64 p0.Event.B, .slice a14 (p0.module.Maps).length c15, .slice a17 (p0.module.Code).length c18, .pointer (some ⟨b19, 0, none⟩), .int .u64 (p0.regs 0), .int .u64 (p0.regs 1), .int .u64 (p0.regs 2), .int .u64 (p0.regs 3), .int .u64 (p0.regs 4), .int .u64 (p0.regs 5), .int .u64 (p0.regs 6), .int .u64 (p0.regs 7), .int .i64 (p0.turns 0), .int .i64 (p0.turns 1), .int .i64 (p0.turns 2), .int .i64 (p0.turns 3), .int .i64 (p0.turns 4), .int .i64 (p0.turns 5), .int .i64 (p0.turns 6), .int .i64 (p0.turns 7), .int .i64 (p0.turns 8), .int .i64 (p0.turns 9), .int .i64 (p0.turns 10), .int .i64 (p0.turns 11), .int .i64 (p0.turns 12), .int .i64 (p0.turns 13), .int .i64 (p0.turns 14), .int .i64 (p0.turns 15), .int .i64 (p0.turns 16), .int .i64 (p0.turns 17), .int .i64 (p0.turns 18), .int .i64 (p0.turns 19), .int .i64 (p0.turns 20), .int .i64 (p0.turns 21), .int .i64 (p0.turns 22), .int .i64 (p0.turns 23), .int .i64 (p0.turns 24), .int .i64 (p0.turns 25), .int .i64 (p0.turns 26), .int .i64 (p0.turns 27), .int .i64 (p0.turns 28), .int .i64 (p0.turns 29), .int .i64 (p0.turns 30), .int .i64 (p0.turns 31), .int .i64 (p0.turns 32), .int .i64 (p0.turns 33), .int .i64 (p0.turns 34), .int .i64 (p0.turns 35), .int .i64 (p0.turns 36), .int .i64 (p0.turns 37), .int .i64 (p0.turns 38), .int .i64 (p0.turns 39), .int .i64 (p0.turns 40), .int .i64 (p0.turns 41), .int .i64 (p0.turns 42), .int .i64 (p0.turns 43), .int .i64 (p0.turns 44), .int .i64 (p0.turns 45), .int .i64 (p0.turns 46), .int .i64 (p0.turns 47), .int .i64 (p0.turns 48), .int .i64 (p0.turns 49), .int .i64 (p0.turns 50), .int .i64 (p0.turns 51), .int .i64 (p0.turns 52), .int .i64 (p0.turns 53), .int .i64 (p0.turns 54), .int .i64 (p0.turns 55), .int .i64 (p0.turns 56), .int .i64 (p0.turns 57), .int .i64 (p0.turns 58), .int .i64 (p0.turns 59), .int .i64 (p0.turns 60), .int .i64 (p0.turns 61), .int .i64 (p0.turns 62), .int .i64 (p0.turns 63), .int .i64 p0.at_, .int .i64 p0.steps, .int .i64 p0.state], _, _, _, _] := hst
  refine CW.plan (by kernel_rfl) ?_
  intro w29 hch30
  have hst := hst.same hch30
  refine OA.pure [0, 1] [(57, .pointer (some ⟨b1, 0, none⟩)), (58, .pointer (some ⟨b4, 1, none⟩))] (by kernel_rfl) ?_
  refine OA.ld (i := 2) rfl (by kernel_rfl) rfl rfl rfl (by kernel_rfl) (hst.blk 1 rfl rfl) ?_
  refine OA.pure [3] [(60, .pointer (some ⟨b1, 0, none⟩))] (by kernel_rfl) ?_
  refine OA.ldN (i := 4) (cs := [.int .i64 p1.Op, .int .i64 p1.D, .int .i64 p1.A, .int .i64 p1.B, .int .i64 p1.Imm]) rfl (by kernel_rfl) rfl rfl rfl (by kernel_rfl) (by kernel_rfl) (hst.blkN 1 rfl 0 5) ?_
  refine OA.pure [6, 7] [(64, .pointer (some ⟨b1, 5, none⟩))] (by kernel_rfl) ?_
  refine OA.act (i := 5) [2] (by kernel_rfl) rfl rfl (by kernel_rfl) (by kernel_rfl) ?_
  obtain ⟨r31, hr32, hF⟩ := bind_some' hF
  refine OW.fn rfl rfl rfl rfl (by kernel_rfl) (engine_Machine_source_ok _ b1 (.slice a14 (p0.module.Maps).length c15) (.slice a17 (p0.module.Code).length c18) (.pointer (some ⟨b19, 0, none⟩)) p0 p1 r31 hr32 (hst.part [] rfl) (hst.rdB 0 rfl [] rfl)) ?_
  rintro e w33 ⟨rfl, hst34⟩
  refine ⟨_, rfl, ?_⟩
  have hst := hst.join (idx := []) (rest := [0, 1, 2, 3, 4]) rfl hst34
  refine OA.next ⟨(hst.blk 1 rfl rfl), trivial⟩ ?_
  obtain ⟨i35, hi36, hF⟩ := bind_some' hF
  refine OA.val (i := 8) (v := .pointer (some ⟨b1, 5 + Int.toNat p1.D * 1, none⟩)) rfl (by kernel_rfl) rfl rfl rfl rfl (fun a w ha => aidx_run (n := 8) 26 1 rfl rfl rfl (ain_some hi36).1 (ain_some hi36).2.1 (by kernel_rfl) (by kernel_rfl) a w ha) ?_
  refine OA.act (i := 9) [] (by kernel_rfl) rfl rfl (by kernel_rfl) (by kernel_rfl) ?_
  refine OW.stA hst 0 rfl rfl rfl rfl rfl (by kernel_rfl) rfl (encInt .u64) (fun _ => rfl) 8 p0.regs 5 rfl rfl hi36 0 rfl rfl r31 rfl [.int .u64 p0.Event.A, .int .u64 p0.Event.B, .slice a14 (p0.module.Maps).length c15, .slice a17 (p0.module.Code).length c18, .pointer (some ⟨b19, 0, none⟩), .int .u64 ((aset p0.regs i35 r31) 0), .int .u64 ((aset p0.regs i35 r31) 1), .int .u64 ((aset p0.regs i35 r31) 2), .int .u64 ((aset p0.regs i35 r31) 3), .int .u64 ((aset p0.regs i35 r31) 4), .int .u64 ((aset p0.regs i35 r31) 5), .int .u64 ((aset p0.regs i35 r31) 6), .int .u64 ((aset p0.regs i35 r31) 7), .int .i64 (p0.turns 0), .int .i64 (p0.turns 1), .int .i64 (p0.turns 2), .int .i64 (p0.turns 3), .int .i64 (p0.turns 4), .int .i64 (p0.turns 5), .int .i64 (p0.turns 6), .int .i64 (p0.turns 7), .int .i64 (p0.turns 8), .int .i64 (p0.turns 9), .int .i64 (p0.turns 10), .int .i64 (p0.turns 11), .int .i64 (p0.turns 12), .int .i64 (p0.turns 13), .int .i64 (p0.turns 14), .int .i64 (p0.turns 15), .int .i64 (p0.turns 16), .int .i64 (p0.turns 17), .int .i64 (p0.turns 18), .int .i64 (p0.turns 19), .int .i64 (p0.turns 20), .int .i64 (p0.turns 21), .int .i64 (p0.turns 22), .int .i64 (p0.turns 23), .int .i64 (p0.turns 24), .int .i64 (p0.turns 25), .int .i64 (p0.turns 26), .int .i64 (p0.turns 27), .int .i64 (p0.turns 28), .int .i64 (p0.turns 29), .int .i64 (p0.turns 30), .int .i64 (p0.turns 31), .int .i64 (p0.turns 32), .int .i64 (p0.turns 33), .int .i64 (p0.turns 34), .int .i64 (p0.turns 35), .int .i64 (p0.turns 36), .int .i64 (p0.turns 37), .int .i64 (p0.turns 38), .int .i64 (p0.turns 39), .int .i64 (p0.turns 40), .int .i64 (p0.turns 41), .int .i64 (p0.turns 42), .int .i64 (p0.turns 43), .int .i64 (p0.turns 44), .int .i64 (p0.turns 45), .int .i64 (p0.turns 46), .int .i64 (p0.turns 47), .int .i64 (p0.turns 48), .int .i64 (p0.turns 49), .int .i64 (p0.turns 50), .int .i64 (p0.turns 51), .int .i64 (p0.turns 52), .int .i64 (p0.turns 53), .int .i64 (p0.turns 54), .int .i64 (p0.turns 55), .int .i64 (p0.turns 56), .int .i64 (p0.turns 57), .int .i64 (p0.turns 58), .int .i64 (p0.turns 59), .int .i64 (p0.turns 60), .int .i64 (p0.turns 61), .int .i64 (p0.turns 62), .int .i64 (p0.turns 63), .int .i64 p0.at_, .int .i64 p0.steps, .int .i64 p0.state] rfl ?_
  intro w37 hst
  refine OA.next trivial ?_
  refine OA.fin (by kernel_rfl) (by kernel_rfl) (QW.block_normal (QW.next (CW.seq (CW.region ?_))))
  refine OW.pure 1 [(4, .int .i64 1)] (by kernel_rfl) (OW.nil rfl (QW.next (CW.ret ?_)))
  have hst := hst.toIt 2 rfl (fun _ => rfl) (by decide)
  have hst := hst.toIt 3 rfl (fun _ => rfl) (by decide)
  obtain ⟨S38, hst⟩ := hst.shutP3 R_t96 rfl 0 2 3 4 [1] rfl rfl rfl rfl rfl (engine_Machine.mk p0.Event p0.module p0.scratch (aset p0.regs i35 r31) p0.turns p0.at_ p0.steps p0.state) rfl rfl
  obtain rfl := Option.some.inj hF
  refine QW.ret1 rfl rfl ?_
  exact ⟨S38, rfl, hst.keep [1] rfl⟩
 have hF := ite_f hF hc6
 refine CW.cond_f rfl hc6 (CW.seq (CW.region ?_))
 refine OW.pure 2 [(66, .bool (p1.Op == 11))] (by kernel_rfl) (OW.nil rfl (QW.next ?_))
 rcases Bool.eq_false_or_eq_true ((p1.Op == 11)) with hc39 | hc39
 ·have hF := ite_t hF hc39
  refine CW.cond_t rfl hc39 ?_
  obtain ⟨v40, S41, v42, S43, v44, S45, hst⟩ := hst.openQ3 0 rfl rfl rfl rfl
  have hst := hst.toRow1 2 rfl
  have hst := hst.toRow1 3 rfl
  obtain ⟨l46, a47, c48, rfl⟩ := hst.len 2 rfl
  obtain ⟨l49, a50, c51, rfl⟩ := hst.len 3 rfl
  obtain ⟨b52, rfl⟩ := hst.fptr 4 rfl
  have hst : St _ _ _ [blkI b1 96 [.int .u64 p0.Event.A, .int .u64 p0.Event.B, .slice a47 (p0.module.Maps).length c48, .slice a50 (p0.module.Code).length c51, .pointer (some ⟨b52, 0, none⟩), .int .u64 (p0.regs 0), .int .u64 (p0.regs 1), .int .u64 (p0.regs 2), .int .u64 (p0.regs 3), .int .u64 (p0.regs 4), .int .u64 (p0.regs 5), .int .u64 (p0.regs 6), .int .u64 (p0.regs 7), .int .i64 (p0.turns 0), .int .i64 (p0.turns 1), .int .i64 (p0.turns 2), .int .i64 (p0.turns 3), .int .i64 (p0.turns 4), .int .i64 (p0.turns 5), .int .i64 (p0.turns 6), .int .i64 (p0.turns 7), .int .i64 (p0.turns 8), .int .i64 (p0.turns 9), .int .i64 (p0.turns 10), .int .i64 (p0.turns 11), .int .i64 (p0.turns 12), .int .i64 (p0.turns 13), .int .i64 (p0.turns 14), .int .i64 (p0.turns 15), .int .i64 (p0.turns 16), .int .i64 (p0.turns 17), .int .i64 (p0.turns 18), .int .i64 (p0.turns 19), .int .i64 (p0.turns 20), .int .i64 (p0.turns 21), .int .i64 (p0.turns 22), .int .i64 (p0.turns 23), .int .i64 (p0.turns 24), .int .i64 (p0.turns 25), .int .i64 (p0.turns 26), .int .i64 (p0.turns 27), .int .i64 (p0.turns 28), .int .i64 (p0.turns 29), .int .i64 (p0.turns 30), .int .i64 (p0.turns 31), .int .i64 (p0.turns 32), .int .i64 (p0.turns 33), .int .i64 (p0.turns 34), .int .i64 (p0.turns 35), .int .i64 (p0.turns 36), .int .i64 (p0.turns 37), .int .i64 (p0.turns 38), .int .i64 (p0.turns 39), .int .i64 (p0.turns 40), .int .i64 (p0.turns 41), .int .i64 (p0.turns 42), .int .i64 (p0.turns 43), .int .i64 (p0.turns 44), .int .i64 (p0.turns 45), .int .i64 (p0.turns 46), .int .i64 (p0.turns 47), .int .i64 (p0.turns 48), .int .i64 (p0.turns 49), .int .i64 (p0.turns 50), .int .i64 (p0.turns 51), .int .i64 (p0.turns 52), .int .i64 (p0.turns 53), .int .i64 (p0.turns 54), .int .i64 (p0.turns 55), .int .i64 (p0.turns 56), .int .i64 (p0.turns 57), .int .i64 (p0.turns 58), .int .i64 (p0.turns 59), .int .i64 (p0.turns 60), .int .i64 (p0.turns 61), .int .i64 (p0.turns 62), .int .i64 (p0.turns 63), .int .i64 p0.at_, .int .i64 p0.steps, .int .i64 p0.state], _, _, _, _] := hst
  refine CW.plan (by kernel_rfl) ?_
  intro w66 hch67
  have hst := hst.same hch67
  refine OA.pure [0, 1] [(69, .pointer (some ⟨b1, 0, none⟩)), (70, .pointer (some ⟨b4, 1, none⟩))] (by kernel_rfl) ?_
  refine OA.ld (i := 2) rfl (by kernel_rfl) rfl rfl rfl (by kernel_rfl) (hst.blk 1 rfl rfl) ?_
  refine OA.pure [3, 4, 5] [(74, .pointer (some ⟨b1, 4, none⟩))] (by kernel_rfl) ?_
  refine OA.ld (i := 6) rfl (by kernel_rfl) rfl rfl rfl (by kernel_rfl) (hst.blk 0 rfl rfl) ?_
  have hst := hst.openQ0 4 rfl
  refine OA.pure [7, 8, 9] [(77, .pointer (some ⟨b52, 0, none⟩)), (78, .pointer (some ⟨b1, 0, none⟩))] (by kernel_rfl) ?_
  refine OA.ldN (i := 10) (cs := [.int .i64 p1.Op, .int .i64 p1.D, .int .i64 p1.A, .int .i64 p1.B, .int .i64 p1.Imm]) rfl (by kernel_rfl) rfl rfl rfl (by kernel_rfl) (by kernel_rfl) (hst.blkN 1 rfl 0 5) ?_
  refine OA.pure [17, 18] [(86, .pointer (some ⟨b1, 5, none⟩))] (by kernel_rfl) ?_
  refine OA.act (i := 11) [6, 2] (by kernel_rfl) rfl rfl (by kernel_rfl) (by kernel_rfl) ?_
  obtain ⟨r68, hr69, hF⟩ := bind_some' hF
  refine OW.fn rfl rfl rfl rfl (by kernel_rfl) (engine_Machine_source_ok _ b1 (.slice a47 (p0.module.Maps).length c48) (.slice a50 (p0.module.Code).length c51) (.pointer (some ⟨b52, 0, none⟩)) p0 p1 r68 hr69 (hst.part [] rfl) (hst.rdB 0 rfl [] rfl)) ?_
  rintro e w70 ⟨rfl, hst71⟩
  refine ⟨_, rfl, ?_⟩
  have hst := hst.join (idx := []) (rest := [0, 1, 2, 3, 4]) rfl hst71
  refine OA.next ⟨(hst.blk 0 rfl rfl), (hst.blk 1 rfl rfl), trivial⟩ ?_
  refine OA.pure [12] [(81, .int .i64 (w64 r68))] (by kernel_rfl) ?_
  refine OA.act (i := 13) [2] (by kernel_rfl) rfl rfl (by kernel_rfl) (by kernel_rfl) ?_
  obtain ⟨r72, hr73, hF⟩ := bind_some' hF
  refine OW.fn rfl rfl rfl rfl (by kernel_rfl) (scratch_Words_Load_ok _ b52 59 [] [.int .u64 (p0.scratch.Counters.counts 0), .int .u64 (p0.scratch.Counters.counts 1), .int .u64 (p0.scratch.Counters.counts 2), .int .u64 (p0.scratch.Counters.counts 3), .int .u64 (p0.scratch.Counters.counts 4), .int .u64 (p0.scratch.Counters.counts 5), .int .u64 (p0.scratch.Counters.counts 6), .int .u64 (p0.scratch.Counters.counts 7), .int .u64 (p0.scratch.Counters.counts 8), .int .u64 (p0.scratch.Counters.counts 9), .int .u64 (p0.scratch.Counters.counts 10), .int .u64 (p0.scratch.Counters.counts 11), .int .u64 (p0.scratch.Counters.counts 12), .int .u64 (p0.scratch.Counters.counts 13), .int .u64 (p0.scratch.Counters.counts 14), .int .u64 (p0.scratch.Counters.counts 15)] p0.scratch.Words (w64 r68) r72 hr73 (hst.part [4] rfl)) ?_
  rintro e w74 ⟨rfl, hst75⟩
  refine ⟨_, rfl, ?_⟩
  have hst := hst.join (idx := [4]) (rest := [0, 1, 2, 3]) rfl hst75
  have hst : St _ _ _ [blkI b52 59 [.int .u64 (p0.scratch.Words.words 0), .int .u64 (p0.scratch.Words.words 1), .int .u64 (p0.scratch.Words.words 2), .int .u64 (p0.scratch.Words.words 3), .int .u64 (p0.scratch.Words.words 4), .int .u64 (p0.scratch.Words.words 5), .int .u64 (p0.scratch.Words.words 6), .int .u64 (p0.scratch.Words.words 7), .int .u64 (p0.scratch.Words.words 8), .int .u64 (p0.scratch.Words.words 9), .int .u64 (p0.scratch.Words.words 10), .int .u64 (p0.scratch.Words.words 11), .int .u64 (p0.scratch.Words.words 12), .int .u64 (p0.scratch.Words.words 13), .int .u64 (p0.scratch.Words.words 14), .int .u64 (p0.scratch.Words.words 15), .int .u64 (p0.scratch.Counters.counts 0), .int .u64 (p0.scratch.Counters.counts 1), .int .u64 (p0.scratch.Counters.counts 2), .int .u64 (p0.scratch.Counters.counts 3), .int .u64 (p0.scratch.Counters.counts 4), .int .u64 (p0.scratch.Counters.counts 5), .int .u64 (p0.scratch.Counters.counts 6), .int .u64 (p0.scratch.Counters.counts 7), .int .u64 (p0.scratch.Counters.counts 8), .int .u64 (p0.scratch.Counters.counts 9), .int .u64 (p0.scratch.Counters.counts 10), .int .u64 (p0.scratch.Counters.counts 11), .int .u64 (p0.scratch.Counters.counts 12), .int .u64 (p0.scratch.Counters.counts 13), .int .u64 (p0.scratch.Counters.counts 14), .int .u64 (p0.scratch.Counters.counts 15)], _, _, _, _] := hst
  refine OA.next ⟨(hst.blk 2 rfl rfl), trivial⟩ ?_
  refine OA.pure [14, 15, 16] [(83, .int .u64 r72.1)] (by kernel_rfl) ?_
  obtain ⟨i76, hi77, hF⟩ := bind_some' hF
  refine OA.val (i := 19) (v := .pointer (some ⟨b1, 5 + Int.toNat p1.D * 1, none⟩)) rfl (by kernel_rfl) rfl rfl rfl rfl (fun a w ha => aidx_run (n := 8) 26 1 rfl rfl rfl (ain_some hi77).1 (ain_some hi77).2.1 (by kernel_rfl) (by kernel_rfl) a w ha) ?_
  refine OA.act (i := 20) [] (by kernel_rfl) rfl rfl (by kernel_rfl) (by kernel_rfl) ?_
  refine OW.stA hst 1 rfl rfl rfl rfl rfl (by kernel_rfl) rfl (encInt .u64) (fun _ => rfl) 8 p0.regs 5 rfl rfl hi77 0 rfl rfl r72.1 rfl [.int .u64 p0.Event.A, .int .u64 p0.Event.B, .slice a47 (p0.module.Maps).length c48, .slice a50 (p0.module.Code).length c51, .pointer (some ⟨b52, 0, none⟩), .int .u64 ((aset p0.regs i76 r72.1) 0), .int .u64 ((aset p0.regs i76 r72.1) 1), .int .u64 ((aset p0.regs i76 r72.1) 2), .int .u64 ((aset p0.regs i76 r72.1) 3), .int .u64 ((aset p0.regs i76 r72.1) 4), .int .u64 ((aset p0.regs i76 r72.1) 5), .int .u64 ((aset p0.regs i76 r72.1) 6), .int .u64 ((aset p0.regs i76 r72.1) 7), .int .i64 (p0.turns 0), .int .i64 (p0.turns 1), .int .i64 (p0.turns 2), .int .i64 (p0.turns 3), .int .i64 (p0.turns 4), .int .i64 (p0.turns 5), .int .i64 (p0.turns 6), .int .i64 (p0.turns 7), .int .i64 (p0.turns 8), .int .i64 (p0.turns 9), .int .i64 (p0.turns 10), .int .i64 (p0.turns 11), .int .i64 (p0.turns 12), .int .i64 (p0.turns 13), .int .i64 (p0.turns 14), .int .i64 (p0.turns 15), .int .i64 (p0.turns 16), .int .i64 (p0.turns 17), .int .i64 (p0.turns 18), .int .i64 (p0.turns 19), .int .i64 (p0.turns 20), .int .i64 (p0.turns 21), .int .i64 (p0.turns 22), .int .i64 (p0.turns 23), .int .i64 (p0.turns 24), .int .i64 (p0.turns 25), .int .i64 (p0.turns 26), .int .i64 (p0.turns 27), .int .i64 (p0.turns 28), .int .i64 (p0.turns 29), .int .i64 (p0.turns 30), .int .i64 (p0.turns 31), .int .i64 (p0.turns 32), .int .i64 (p0.turns 33), .int .i64 (p0.turns 34), .int .i64 (p0.turns 35), .int .i64 (p0.turns 36), .int .i64 (p0.turns 37), .int .i64 (p0.turns 38), .int .i64 (p0.turns 39), .int .i64 (p0.turns 40), .int .i64 (p0.turns 41), .int .i64 (p0.turns 42), .int .i64 (p0.turns 43), .int .i64 (p0.turns 44), .int .i64 (p0.turns 45), .int .i64 (p0.turns 46), .int .i64 (p0.turns 47), .int .i64 (p0.turns 48), .int .i64 (p0.turns 49), .int .i64 (p0.turns 50), .int .i64 (p0.turns 51), .int .i64 (p0.turns 52), .int .i64 (p0.turns 53), .int .i64 (p0.turns 54), .int .i64 (p0.turns 55), .int .i64 (p0.turns 56), .int .i64 (p0.turns 57), .int .i64 (p0.turns 58), .int .i64 (p0.turns 59), .int .i64 (p0.turns 60), .int .i64 (p0.turns 61), .int .i64 (p0.turns 62), .int .i64 (p0.turns 63), .int .i64 p0.at_, .int .i64 p0.steps, .int .i64 p0.state] rfl ?_
  intro w78 hst
  refine OA.next trivial ?_
  refine OA.fin (by kernel_rfl) (by kernel_rfl) (QW.block_normal (QW.next (CW.seq (CW.region ?_))))
  refine OW.pure 1 [(4, .int .i64 1)] (by kernel_rfl) (OW.nil rfl (QW.next (CW.ret ?_)))
  have hst := hst.shutP0 (enc := enc_scratch_Scratch) (sz := 32) (he := fun _ => rfl) 0 rfl p0.scratch rfl
  have hst := hst.toIt 3 rfl (fun _ => rfl) (by decide)
  have hst := hst.toIt 4 rfl (fun _ => rfl) (by decide)
  obtain ⟨S79, hst⟩ := hst.shutP3 R_t96 rfl 1 3 4 0 [2] rfl rfl rfl rfl rfl (engine_Machine.mk p0.Event p0.module p0.scratch (aset p0.regs i76 r72.1) p0.turns p0.at_ p0.steps p0.state) rfl rfl
  obtain rfl := Option.some.inj hF
  refine QW.ret1 rfl rfl ?_
  exact ⟨S79, rfl, hst.keep [1] rfl⟩
 have hF := ite_f hF hc39
 refine CW.cond_f rfl hc39 (CW.seq (CW.region ?_))
 refine OW.pure 2 [(88, .bool (p1.Op == 12))] (by kernel_rfl) (OW.nil rfl (QW.next ?_))
 rcases Bool.eq_false_or_eq_true ((p1.Op == 12)) with hc80 | hc80
 ·have hF := ite_t hF hc80
  refine CW.cond_t rfl hc80 ?_
  obtain ⟨v81, S82, v83, S84, v85, S86, hst⟩ := hst.openQ3 0 rfl rfl rfl rfl
  have hst := hst.toRow1 2 rfl
  have hst := hst.toRow1 3 rfl
  obtain ⟨l87, a88, c89, rfl⟩ := hst.len 2 rfl
  obtain ⟨l90, a91, c92, rfl⟩ := hst.len 3 rfl
  obtain ⟨b93, rfl⟩ := hst.fptr 4 rfl
  have hst : St _ _ _ [blkI b1 96 [.int .u64 p0.Event.A, .int .u64 p0.Event.B, .slice a88 (p0.module.Maps).length c89, .slice a91 (p0.module.Code).length c92, .pointer (some ⟨b93, 0, none⟩), .int .u64 (p0.regs 0), .int .u64 (p0.regs 1), .int .u64 (p0.regs 2), .int .u64 (p0.regs 3), .int .u64 (p0.regs 4), .int .u64 (p0.regs 5), .int .u64 (p0.regs 6), .int .u64 (p0.regs 7), .int .i64 (p0.turns 0), .int .i64 (p0.turns 1), .int .i64 (p0.turns 2), .int .i64 (p0.turns 3), .int .i64 (p0.turns 4), .int .i64 (p0.turns 5), .int .i64 (p0.turns 6), .int .i64 (p0.turns 7), .int .i64 (p0.turns 8), .int .i64 (p0.turns 9), .int .i64 (p0.turns 10), .int .i64 (p0.turns 11), .int .i64 (p0.turns 12), .int .i64 (p0.turns 13), .int .i64 (p0.turns 14), .int .i64 (p0.turns 15), .int .i64 (p0.turns 16), .int .i64 (p0.turns 17), .int .i64 (p0.turns 18), .int .i64 (p0.turns 19), .int .i64 (p0.turns 20), .int .i64 (p0.turns 21), .int .i64 (p0.turns 22), .int .i64 (p0.turns 23), .int .i64 (p0.turns 24), .int .i64 (p0.turns 25), .int .i64 (p0.turns 26), .int .i64 (p0.turns 27), .int .i64 (p0.turns 28), .int .i64 (p0.turns 29), .int .i64 (p0.turns 30), .int .i64 (p0.turns 31), .int .i64 (p0.turns 32), .int .i64 (p0.turns 33), .int .i64 (p0.turns 34), .int .i64 (p0.turns 35), .int .i64 (p0.turns 36), .int .i64 (p0.turns 37), .int .i64 (p0.turns 38), .int .i64 (p0.turns 39), .int .i64 (p0.turns 40), .int .i64 (p0.turns 41), .int .i64 (p0.turns 42), .int .i64 (p0.turns 43), .int .i64 (p0.turns 44), .int .i64 (p0.turns 45), .int .i64 (p0.turns 46), .int .i64 (p0.turns 47), .int .i64 (p0.turns 48), .int .i64 (p0.turns 49), .int .i64 (p0.turns 50), .int .i64 (p0.turns 51), .int .i64 (p0.turns 52), .int .i64 (p0.turns 53), .int .i64 (p0.turns 54), .int .i64 (p0.turns 55), .int .i64 (p0.turns 56), .int .i64 (p0.turns 57), .int .i64 (p0.turns 58), .int .i64 (p0.turns 59), .int .i64 (p0.turns 60), .int .i64 (p0.turns 61), .int .i64 (p0.turns 62), .int .i64 (p0.turns 63), .int .i64 p0.at_, .int .i64 p0.steps, .int .i64 p0.state], _, _, _, _] := hst
  refine CW.plan (by kernel_rfl) ?_
  intro w106 hch107
  have hst := hst.same hch107
  refine OA.pure [0, 1, 2] [(92, .pointer (some ⟨b1, 4, none⟩))] (by kernel_rfl) ?_
  refine OA.ld (i := 3) rfl (by kernel_rfl) rfl rfl rfl (by kernel_rfl) (hst.blk 0 rfl rfl) ?_
  have hst := hst.openQ0 4 rfl
  refine OA.pure [4, 5, 6] [(95, .pointer (some ⟨b93, 0, none⟩)), (96, .pointer (some ⟨b1, 0, none⟩))] (by kernel_rfl) ?_
  refine OA.ldN (i := 7) (cs := [.int .i64 p1.Op, .int .i64 p1.D, .int .i64 p1.A, .int .i64 p1.B, .int .i64 p1.Imm]) rfl (by kernel_rfl) rfl rfl rfl (by kernel_rfl) (by kernel_rfl) (hst.blkN 1 rfl 0 5) ?_
  refine OA.pure [10, 11] [(100, .pointer (some ⟨b1, 0, none⟩)), (101, .pointer (some ⟨b4, 2, none⟩))] (by kernel_rfl) ?_
  refine OA.ld (i := 12) rfl (by kernel_rfl) rfl rfl rfl (by kernel_rfl) (hst.blk 1 rfl rfl) ?_
  refine OA.pure [13, 14] [(104, .pointer (some ⟨b1, 5, none⟩))] (by kernel_rfl) ?_
  obtain ⟨i108, hi109, hF⟩ := bind_some' hF
  refine OA.val (i := 15) (v := .pointer (some ⟨b1, 5 + Int.toNat p1.A * 1, none⟩)) rfl (by kernel_rfl) rfl rfl rfl rfl (fun a w ha => aidx_run (n := 8) 26 1 rfl rfl rfl (ain_some hi109).1 (ain_some hi109).2.1 (by kernel_rfl) (by kernel_rfl) a w ha) ?_
  refine OA.ld (i := 16) rfl (by kernel_rfl) rfl rfl rfl (by kernel_rfl) (hst.arrB 0 rfl (encInt .u64) (fun _ => rfl) 8 p0.regs 5 rfl rfl hi109 0 _ rfl) ?_
  refine OA.act (i := 8) [16, 12, 3] (by kernel_rfl) rfl rfl (by kernel_rfl) (by kernel_rfl) ?_
  obtain ⟨r110, hr111, hF⟩ := bind_some' hF
  refine OW.fn rfl rfl rfl rfl (by kernel_rfl) (engine_Machine_source_ok _ b1 (.slice a88 (p0.module.Maps).length c89) (.slice a91 (p0.module.Code).length c92) (.pointer (some ⟨b93, 0, none⟩)) p0 p1 r110 hr111 (hst.part [] rfl) (hst.rdB 0 rfl [] rfl)) ?_
  rintro e w112 ⟨rfl, hst113⟩
  refine ⟨_, rfl, ?_⟩
  have hst := hst.join (idx := []) (rest := [0, 1, 2, 3, 4]) rfl hst113
  refine OA.next ⟨(hst.arrB 0 rfl (encInt .u64) (fun _ => rfl) 8 p0.regs 5 rfl rfl hi109 0 _ rfl), (hst.blk 1 rfl rfl), (hst.blk 0 rfl rfl), trivial⟩ ?_
  refine OA.pure [9] [(99, .int .i64 (w64 r110))] (by kernel_rfl) ?_
  refine OA.act (i := 17) [] (by kernel_rfl) rfl rfl (by kernel_rfl) (by kernel_rfl) ?_
  obtain ⟨r114, hr115, hF⟩ := bind_some' hF
  refine OW.fn rfl rfl rfl rfl (by kernel_rfl) (scratch_Words_Store_ok _ b93 59 [] [.int .u64 (p0.scratch.Counters.counts 0), .int .u64 (p0.scratch.Counters.counts 1), .int .u64 (p0.scratch.Counters.counts 2), .int .u64 (p0.scratch.Counters.counts 3), .int .u64 (p0.scratch.Counters.counts 4), .int .u64 (p0.scratch.Counters.counts 5), .int .u64 (p0.scratch.Counters.counts 6), .int .u64 (p0.scratch.Counters.counts 7), .int .u64 (p0.scratch.Counters.counts 8), .int .u64 (p0.scratch.Counters.counts 9), .int .u64 (p0.scratch.Counters.counts 10), .int .u64 (p0.scratch.Counters.counts 11), .int .u64 (p0.scratch.Counters.counts 12), .int .u64 (p0.scratch.Counters.counts 13), .int .u64 (p0.scratch.Counters.counts 14), .int .u64 (p0.scratch.Counters.counts 15)] p0.scratch.Words (w64 r110) (p0.regs i108) r114 hr115 (hst.part [4] rfl)) ?_
  rintro e w116 ⟨rfl, hst117⟩
  refine ⟨_, rfl, ?_⟩
  have hst := hst.join (idx := [4]) (rest := [0, 1, 2, 3]) rfl hst117
  have hst : St _ _ _ [blkI b93 59 [.int .u64 (r114.2.words 0), .int .u64 (r114.2.words 1), .int .u64 (r114.2.words 2), .int .u64 (r114.2.words 3), .int .u64 (r114.2.words 4), .int .u64 (r114.2.words 5), .int .u64 (r114.2.words 6), .int .u64 (r114.2.words 7), .int .u64 (r114.2.words 8), .int .u64 (r114.2.words 9), .int .u64 (r114.2.words 10), .int .u64 (r114.2.words 11), .int .u64 (r114.2.words 12), .int .u64 (r114.2.words 13), .int .u64 (r114.2.words 14), .int .u64 (r114.2.words 15), .int .u64 (p0.scratch.Counters.counts 0), .int .u64 (p0.scratch.Counters.counts 1), .int .u64 (p0.scratch.Counters.counts 2), .int .u64 (p0.scratch.Counters.counts 3), .int .u64 (p0.scratch.Counters.counts 4), .int .u64 (p0.scratch.Counters.counts 5), .int .u64 (p0.scratch.Counters.counts 6), .int .u64 (p0.scratch.Counters.counts 7), .int .u64 (p0.scratch.Counters.counts 8), .int .u64 (p0.scratch.Counters.counts 9), .int .u64 (p0.scratch.Counters.counts 10), .int .u64 (p0.scratch.Counters.counts 11), .int .u64 (p0.scratch.Counters.counts 12), .int .u64 (p0.scratch.Counters.counts 13), .int .u64 (p0.scratch.Counters.counts 14), .int .u64 (p0.scratch.Counters.counts 15)], _, _, _, _] := hst
  refine OA.next trivial ?_
  refine OA.fin (by kernel_rfl) (by kernel_rfl) (QW.block_normal (QW.next (CW.seq (CW.region ?_))))
  refine OW.pure 1 [(4, .int .i64 1)] (by kernel_rfl) (OW.nil rfl (QW.next (CW.ret ?_)))
  have hst := hst.shutP0 (enc := enc_scratch_Scratch) (sz := 32) (he := fun _ => rfl) 0 rfl (scratch_Scratch.mk r114.2 p0.scratch.Counters) rfl
  have hst := hst.toIt 3 rfl (fun _ => rfl) (by decide)
  have hst := hst.toIt 4 rfl (fun _ => rfl) (by decide)
  obtain ⟨S118, hst⟩ := hst.shutP3 R_t96 rfl 1 3 4 0 [2] rfl rfl rfl rfl rfl (engine_Machine.mk p0.Event p0.module (scratch_Scratch.mk r114.2 p0.scratch.Counters) p0.regs p0.turns p0.at_ p0.steps p0.state) rfl rfl
  obtain rfl := Option.some.inj hF
  refine QW.ret1 rfl rfl ?_
  exact ⟨S118, rfl, hst.keep [1] rfl⟩
 have hF := ite_f hF hc80
 refine CW.cond_f rfl hc80 (CW.seq (CW.region ?_))
 refine OW.pure 2 [(108, .bool (p1.Op == 13))] (by kernel_rfl) (OW.nil rfl (QW.next ?_))
 rcases Bool.eq_false_or_eq_true ((p1.Op == 13)) with hc119 | hc119
 ·have hF := ite_t hF hc119
  refine CW.cond_t rfl hc119 (CW.seq ?_)
  obtain ⟨v120, S121, v122, S123, v124, S125, hst⟩ := hst.openQ3 0 rfl rfl rfl rfl
  have hst := hst.toRow1 2 rfl
  have hst := hst.toRow1 3 rfl
  obtain ⟨l126, a127, c128, rfl⟩ := hst.len 2 rfl
  obtain ⟨l129, a130, c131, rfl⟩ := hst.len 3 rfl
  obtain ⟨b132, rfl⟩ := hst.fptr 4 rfl
  have hst : St _ _ _ [blkI b1 96 [.int .u64 p0.Event.A, .int .u64 p0.Event.B, .slice a127 (p0.module.Maps).length c128, .slice a130 (p0.module.Code).length c131, .pointer (some ⟨b132, 0, none⟩), .int .u64 (p0.regs 0), .int .u64 (p0.regs 1), .int .u64 (p0.regs 2), .int .u64 (p0.regs 3), .int .u64 (p0.regs 4), .int .u64 (p0.regs 5), .int .u64 (p0.regs 6), .int .u64 (p0.regs 7), .int .i64 (p0.turns 0), .int .i64 (p0.turns 1), .int .i64 (p0.turns 2), .int .i64 (p0.turns 3), .int .i64 (p0.turns 4), .int .i64 (p0.turns 5), .int .i64 (p0.turns 6), .int .i64 (p0.turns 7), .int .i64 (p0.turns 8), .int .i64 (p0.turns 9), .int .i64 (p0.turns 10), .int .i64 (p0.turns 11), .int .i64 (p0.turns 12), .int .i64 (p0.turns 13), .int .i64 (p0.turns 14), .int .i64 (p0.turns 15), .int .i64 (p0.turns 16), .int .i64 (p0.turns 17), .int .i64 (p0.turns 18), .int .i64 (p0.turns 19), .int .i64 (p0.turns 20), .int .i64 (p0.turns 21), .int .i64 (p0.turns 22), .int .i64 (p0.turns 23), .int .i64 (p0.turns 24), .int .i64 (p0.turns 25), .int .i64 (p0.turns 26), .int .i64 (p0.turns 27), .int .i64 (p0.turns 28), .int .i64 (p0.turns 29), .int .i64 (p0.turns 30), .int .i64 (p0.turns 31), .int .i64 (p0.turns 32), .int .i64 (p0.turns 33), .int .i64 (p0.turns 34), .int .i64 (p0.turns 35), .int .i64 (p0.turns 36), .int .i64 (p0.turns 37), .int .i64 (p0.turns 38), .int .i64 (p0.turns 39), .int .i64 (p0.turns 40), .int .i64 (p0.turns 41), .int .i64 (p0.turns 42), .int .i64 (p0.turns 43), .int .i64 (p0.turns 44), .int .i64 (p0.turns 45), .int .i64 (p0.turns 46), .int .i64 (p0.turns 47), .int .i64 (p0.turns 48), .int .i64 (p0.turns 49), .int .i64 (p0.turns 50), .int .i64 (p0.turns 51), .int .i64 (p0.turns 52), .int .i64 (p0.turns 53), .int .i64 (p0.turns 54), .int .i64 (p0.turns 55), .int .i64 (p0.turns 56), .int .i64 (p0.turns 57), .int .i64 (p0.turns 58), .int .i64 (p0.turns 59), .int .i64 (p0.turns 60), .int .i64 (p0.turns 61), .int .i64 (p0.turns 62), .int .i64 (p0.turns 63), .int .i64 p0.at_, .int .i64 p0.steps, .int .i64 p0.state], _, _, _, _] := hst
  refine CW.tail 11 (by kernel_rfl) (by kernel_rfl) ?_
  intro w138 hch139
  have hst := hst.same hch139
  refine OS.pure 2 [(110, .pointer (some ⟨b1, 0, none⟩)), (111, .pointer (some ⟨b4, 1, none⟩))] rfl (by kernel_rfl) ?_
  refine OS.ld rfl rfl rfl rfl rfl (by kernel_rfl) (hst.blk 1 rfl rfl) ?_
  refine OS.pure 4 [(116, .pointer (some ⟨b1, 0, none⟩))] rfl (by kernel_rfl) ?_
  refine OS.ld rfl rfl rfl rfl rfl (by kernel_rfl) (hst.blk 0 rfl rfl) ?_
  refine OS.pure 2 [(119, .pointer (some ⟨b1, 5, none⟩))] rfl (by kernel_rfl) ?_
  obtain ⟨i140, hi141, hF⟩ := bind_some' hF
  refine OS.op (v := .pointer (some ⟨b1, 5 + Int.toNat p1.D * 1, none⟩)) rfl rfl rfl rfl rfl (fun a ha => aidx_run (n := 8) 26 1 rfl rfl rfl (ain_some hi141).1 (ain_some hi141).2.1 (by kernel_rfl) (by kernel_rfl) a _ ha) ?_
  refine OS.on ?_
  refine OW.stA hst 0 rfl rfl rfl rfl rfl (by kernel_rfl) rfl (encInt .u64) (fun _ => rfl) 8 p0.regs 5 rfl rfl hi141 0 rfl rfl p0.Event.A rfl [.int .u64 p0.Event.A, .int .u64 p0.Event.B, .slice a127 (p0.module.Maps).length c128, .slice a130 (p0.module.Code).length c131, .pointer (some ⟨b132, 0, none⟩), .int .u64 ((aset p0.regs i140 p0.Event.A) 0), .int .u64 ((aset p0.regs i140 p0.Event.A) 1), .int .u64 ((aset p0.regs i140 p0.Event.A) 2), .int .u64 ((aset p0.regs i140 p0.Event.A) 3), .int .u64 ((aset p0.regs i140 p0.Event.A) 4), .int .u64 ((aset p0.regs i140 p0.Event.A) 5), .int .u64 ((aset p0.regs i140 p0.Event.A) 6), .int .u64 ((aset p0.regs i140 p0.Event.A) 7), .int .i64 (p0.turns 0), .int .i64 (p0.turns 1), .int .i64 (p0.turns 2), .int .i64 (p0.turns 3), .int .i64 (p0.turns 4), .int .i64 (p0.turns 5), .int .i64 (p0.turns 6), .int .i64 (p0.turns 7), .int .i64 (p0.turns 8), .int .i64 (p0.turns 9), .int .i64 (p0.turns 10), .int .i64 (p0.turns 11), .int .i64 (p0.turns 12), .int .i64 (p0.turns 13), .int .i64 (p0.turns 14), .int .i64 (p0.turns 15), .int .i64 (p0.turns 16), .int .i64 (p0.turns 17), .int .i64 (p0.turns 18), .int .i64 (p0.turns 19), .int .i64 (p0.turns 20), .int .i64 (p0.turns 21), .int .i64 (p0.turns 22), .int .i64 (p0.turns 23), .int .i64 (p0.turns 24), .int .i64 (p0.turns 25), .int .i64 (p0.turns 26), .int .i64 (p0.turns 27), .int .i64 (p0.turns 28), .int .i64 (p0.turns 29), .int .i64 (p0.turns 30), .int .i64 (p0.turns 31), .int .i64 (p0.turns 32), .int .i64 (p0.turns 33), .int .i64 (p0.turns 34), .int .i64 (p0.turns 35), .int .i64 (p0.turns 36), .int .i64 (p0.turns 37), .int .i64 (p0.turns 38), .int .i64 (p0.turns 39), .int .i64 (p0.turns 40), .int .i64 (p0.turns 41), .int .i64 (p0.turns 42), .int .i64 (p0.turns 43), .int .i64 (p0.turns 44), .int .i64 (p0.turns 45), .int .i64 (p0.turns 46), .int .i64 (p0.turns 47), .int .i64 (p0.turns 48), .int .i64 (p0.turns 49), .int .i64 (p0.turns 50), .int .i64 (p0.turns 51), .int .i64 (p0.turns 52), .int .i64 (p0.turns 53), .int .i64 (p0.turns 54), .int .i64 (p0.turns 55), .int .i64 (p0.turns 56), .int .i64 (p0.turns 57), .int .i64 (p0.turns 58), .int .i64 (p0.turns 59), .int .i64 (p0.turns 60), .int .i64 (p0.turns 61), .int .i64 (p0.turns 62), .int .i64 (p0.turns 63), .int .i64 p0.at_, .int .i64 p0.steps, .int .i64 p0.state] rfl ?_
  intro w142 hst
  refine OW.nil rfl (QW.next (CW.seq (CW.region ?_)))
  refine OW.pure 1 [(121, .pointer (some ⟨b4, 4, none⟩))] (by kernel_rfl) ?_
  refine OW.ld rfl rfl rfl rfl (by kernel_rfl) (hst.blk 1 rfl rfl) ?_
  refine OW.pure 1 [(123, .bool (p1.Imm == 1))] (by kernel_rfl) (OW.nil rfl (QW.next ?_))
  rcases Bool.eq_false_or_eq_true ((p1.Imm == 1)) with hc143 | hc143
  ·have hF := ite_t hF hc143
   refine CW.cond_t rfl hc143 ?_
   refine CW.tail 11 (by kernel_rfl) (by kernel_rfl) ?_
   intro w147 hch148
   have hst := hst.same hch148
   refine OS.pure 2 [(124, .pointer (some ⟨b1, 0, none⟩)), (125, .pointer (some ⟨b4, 1, none⟩))] rfl (by kernel_rfl) ?_
   refine OS.ld rfl rfl rfl rfl rfl (by kernel_rfl) (hst.blk 1 rfl rfl) ?_
   refine OS.pure 4 [(130, .pointer (some ⟨b1, 1, none⟩))] rfl (by kernel_rfl) ?_
   refine OS.ld rfl rfl rfl rfl rfl (by kernel_rfl) (hst.blk 0 rfl rfl) ?_
   refine OS.pure 2 [(133, .pointer (some ⟨b1, 5, none⟩))] rfl (by kernel_rfl) ?_
   refine OS.op (v := .pointer (some ⟨b1, 5 + Int.toNat p1.D * 1, none⟩)) rfl rfl rfl rfl rfl (fun a ha => aidx_run (n := 8) 26 1 rfl rfl rfl (ain_some hi141).1 (ain_some hi141).2.1 (by kernel_rfl) (by kernel_rfl) a _ ha) ?_
   refine OS.on ?_
   refine OW.stA hst 0 rfl rfl rfl rfl rfl (by kernel_rfl) rfl (encInt .u64) (fun _ => rfl) 8 (aset p0.regs i140 p0.Event.A) 5 rfl rfl hi141 0 rfl rfl p0.Event.B rfl [.int .u64 p0.Event.A, .int .u64 p0.Event.B, .slice a127 (p0.module.Maps).length c128, .slice a130 (p0.module.Code).length c131, .pointer (some ⟨b132, 0, none⟩), .int .u64 ((aset (aset p0.regs i140 p0.Event.A) i140 p0.Event.B) 0), .int .u64 ((aset (aset p0.regs i140 p0.Event.A) i140 p0.Event.B) 1), .int .u64 ((aset (aset p0.regs i140 p0.Event.A) i140 p0.Event.B) 2), .int .u64 ((aset (aset p0.regs i140 p0.Event.A) i140 p0.Event.B) 3), .int .u64 ((aset (aset p0.regs i140 p0.Event.A) i140 p0.Event.B) 4), .int .u64 ((aset (aset p0.regs i140 p0.Event.A) i140 p0.Event.B) 5), .int .u64 ((aset (aset p0.regs i140 p0.Event.A) i140 p0.Event.B) 6), .int .u64 ((aset (aset p0.regs i140 p0.Event.A) i140 p0.Event.B) 7), .int .i64 (p0.turns 0), .int .i64 (p0.turns 1), .int .i64 (p0.turns 2), .int .i64 (p0.turns 3), .int .i64 (p0.turns 4), .int .i64 (p0.turns 5), .int .i64 (p0.turns 6), .int .i64 (p0.turns 7), .int .i64 (p0.turns 8), .int .i64 (p0.turns 9), .int .i64 (p0.turns 10), .int .i64 (p0.turns 11), .int .i64 (p0.turns 12), .int .i64 (p0.turns 13), .int .i64 (p0.turns 14), .int .i64 (p0.turns 15), .int .i64 (p0.turns 16), .int .i64 (p0.turns 17), .int .i64 (p0.turns 18), .int .i64 (p0.turns 19), .int .i64 (p0.turns 20), .int .i64 (p0.turns 21), .int .i64 (p0.turns 22), .int .i64 (p0.turns 23), .int .i64 (p0.turns 24), .int .i64 (p0.turns 25), .int .i64 (p0.turns 26), .int .i64 (p0.turns 27), .int .i64 (p0.turns 28), .int .i64 (p0.turns 29), .int .i64 (p0.turns 30), .int .i64 (p0.turns 31), .int .i64 (p0.turns 32), .int .i64 (p0.turns 33), .int .i64 (p0.turns 34), .int .i64 (p0.turns 35), .int .i64 (p0.turns 36), .int .i64 (p0.turns 37), .int .i64 (p0.turns 38), .int .i64 (p0.turns 39), .int .i64 (p0.turns 40), .int .i64 (p0.turns 41), .int .i64 (p0.turns 42), .int .i64 (p0.turns 43), .int .i64 (p0.turns 44), .int .i64 (p0.turns 45), .int .i64 (p0.turns 46), .int .i64 (p0.turns 47), .int .i64 (p0.turns 48), .int .i64 (p0.turns 49), .int .i64 (p0.turns 50), .int .i64 (p0.turns 51), .int .i64 (p0.turns 52), .int .i64 (p0.turns 53), .int .i64 (p0.turns 54), .int .i64 (p0.turns 55), .int .i64 (p0.turns 56), .int .i64 (p0.turns 57), .int .i64 (p0.turns 58), .int .i64 (p0.turns 59), .int .i64 (p0.turns 60), .int .i64 (p0.turns 61), .int .i64 (p0.turns 62), .int .i64 (p0.turns 63), .int .i64 p0.at_, .int .i64 p0.steps, .int .i64 p0.state] rfl ?_
   intro w149 hst
   refine OW.nil rfl (QW.block_normal (QW.next (CW.seq (CW.region ?_))))
   refine OW.pure 1 [(4, .int .i64 1)] (by kernel_rfl) (OW.nil rfl (QW.next (CW.ret ?_)))
   have hst := hst.toIt 2 rfl (fun _ => rfl) (by decide)
   have hst := hst.toIt 3 rfl (fun _ => rfl) (by decide)
   obtain ⟨S150, hst⟩ := hst.shutP3 R_t96 rfl 0 2 3 4 [1] rfl rfl rfl rfl rfl (engine_Machine.mk p0.Event p0.module p0.scratch (aset (aset p0.regs i140 p0.Event.A) i140 p0.Event.B) p0.turns p0.at_ p0.steps p0.state) rfl rfl
   obtain rfl := Option.some.inj hF
   refine QW.ret1 rfl rfl ?_
   exact ⟨S150, rfl, hst.keep [1] rfl⟩
  have hF := ite_f hF hc143
  refine CW.cond_f rfl hc143 (CW.skip (QW.block_normal (QW.next (CW.seq (CW.region ?_)))))
  refine OW.pure 1 [(4, .int .i64 1)] (by kernel_rfl) (OW.nil rfl (QW.next (CW.ret ?_)))
  have hst := hst.toIt 2 rfl (fun _ => rfl) (by decide)
  have hst := hst.toIt 3 rfl (fun _ => rfl) (by decide)
  obtain ⟨S151, hst⟩ := hst.shutP3 R_t96 rfl 0 2 3 4 [1] rfl rfl rfl rfl rfl (engine_Machine.mk p0.Event p0.module p0.scratch (aset p0.regs i140 p0.Event.A) p0.turns p0.at_ p0.steps p0.state) rfl rfl
  obtain rfl := Option.some.inj hF
  refine QW.ret1 rfl rfl ?_
  exact ⟨S151, rfl, hst.keep [1] rfl⟩
 have hF := ite_f hF hc119
 refine CW.cond_f rfl hc119 (CW.seq (CW.region ?_))
 refine OW.pure 2 [(135, .bool (p1.Op == 14))] (by kernel_rfl) (OW.nil rfl (QW.next ?_))
 rcases Bool.eq_false_or_eq_true ((p1.Op == 14)) with hc152 | hc152
 ·have hF := ite_t hF hc152
  refine CW.cond_t rfl hc152 ?_
  obtain ⟨v153, S154, v155, S156, v157, S158, hst⟩ := hst.openQ3 0 rfl rfl rfl rfl
  have hst := hst.toRow1 2 rfl
  have hst := hst.toRow1 3 rfl
  obtain ⟨l159, a160, c161, rfl⟩ := hst.len 2 rfl
  obtain ⟨l162, a163, c164, rfl⟩ := hst.len 3 rfl
  obtain ⟨b165, rfl⟩ := hst.fptr 4 rfl
  have hst : St _ _ _ [blkI b1 96 [.int .u64 p0.Event.A, .int .u64 p0.Event.B, .slice a160 (p0.module.Maps).length c161, .slice a163 (p0.module.Code).length c164, .pointer (some ⟨b165, 0, none⟩), .int .u64 (p0.regs 0), .int .u64 (p0.regs 1), .int .u64 (p0.regs 2), .int .u64 (p0.regs 3), .int .u64 (p0.regs 4), .int .u64 (p0.regs 5), .int .u64 (p0.regs 6), .int .u64 (p0.regs 7), .int .i64 (p0.turns 0), .int .i64 (p0.turns 1), .int .i64 (p0.turns 2), .int .i64 (p0.turns 3), .int .i64 (p0.turns 4), .int .i64 (p0.turns 5), .int .i64 (p0.turns 6), .int .i64 (p0.turns 7), .int .i64 (p0.turns 8), .int .i64 (p0.turns 9), .int .i64 (p0.turns 10), .int .i64 (p0.turns 11), .int .i64 (p0.turns 12), .int .i64 (p0.turns 13), .int .i64 (p0.turns 14), .int .i64 (p0.turns 15), .int .i64 (p0.turns 16), .int .i64 (p0.turns 17), .int .i64 (p0.turns 18), .int .i64 (p0.turns 19), .int .i64 (p0.turns 20), .int .i64 (p0.turns 21), .int .i64 (p0.turns 22), .int .i64 (p0.turns 23), .int .i64 (p0.turns 24), .int .i64 (p0.turns 25), .int .i64 (p0.turns 26), .int .i64 (p0.turns 27), .int .i64 (p0.turns 28), .int .i64 (p0.turns 29), .int .i64 (p0.turns 30), .int .i64 (p0.turns 31), .int .i64 (p0.turns 32), .int .i64 (p0.turns 33), .int .i64 (p0.turns 34), .int .i64 (p0.turns 35), .int .i64 (p0.turns 36), .int .i64 (p0.turns 37), .int .i64 (p0.turns 38), .int .i64 (p0.turns 39), .int .i64 (p0.turns 40), .int .i64 (p0.turns 41), .int .i64 (p0.turns 42), .int .i64 (p0.turns 43), .int .i64 (p0.turns 44), .int .i64 (p0.turns 45), .int .i64 (p0.turns 46), .int .i64 (p0.turns 47), .int .i64 (p0.turns 48), .int .i64 (p0.turns 49), .int .i64 (p0.turns 50), .int .i64 (p0.turns 51), .int .i64 (p0.turns 52), .int .i64 (p0.turns 53), .int .i64 (p0.turns 54), .int .i64 (p0.turns 55), .int .i64 (p0.turns 56), .int .i64 (p0.turns 57), .int .i64 (p0.turns 58), .int .i64 (p0.turns 59), .int .i64 (p0.turns 60), .int .i64 (p0.turns 61), .int .i64 (p0.turns 62), .int .i64 (p0.turns 63), .int .i64 p0.at_, .int .i64 p0.steps, .int .i64 p0.state], _, _, _, _] := hst
  refine CW.tail 9 (by kernel_rfl) (by kernel_rfl) ?_
  intro w171 hch172
  have hst := hst.same hch172
  refine OS.pure 2 [(137, .pointer (some ⟨b1, 0, none⟩)), (138, .pointer (some ⟨b4, 1, none⟩))] rfl (by kernel_rfl) ?_
  refine OS.ld rfl rfl rfl rfl rfl (by kernel_rfl) (hst.blk 1 rfl rfl) ?_
  refine OS.pure 1 [(140, .pointer (some ⟨b4, 4, none⟩))] rfl (by kernel_rfl) ?_
  refine OS.ld rfl rfl rfl rfl rfl (by kernel_rfl) (hst.blk 1 rfl rfl) ?_
  refine OS.pure 3 [(142, .int .u64 (wu64 p1.Imm)), (144, .pointer (some ⟨b1, 5, none⟩))] rfl (by kernel_rfl) ?_
  obtain ⟨i173, hi174, hF⟩ := bind_some' hF
  refine OS.op (v := .pointer (some ⟨b1, 5 + Int.toNat p1.D * 1, none⟩)) rfl rfl rfl rfl rfl (fun a ha => aidx_run (n := 8) 26 1 rfl rfl rfl (ain_some hi174).1 (ain_some hi174).2.1 (by kernel_rfl) (by kernel_rfl) a _ ha) ?_
  refine OS.on ?_
  refine OW.stA hst 0 rfl rfl rfl rfl rfl (by kernel_rfl) rfl (encInt .u64) (fun _ => rfl) 8 p0.regs 5 rfl rfl hi174 0 rfl rfl (wu64 p1.Imm) rfl [.int .u64 p0.Event.A, .int .u64 p0.Event.B, .slice a160 (p0.module.Maps).length c161, .slice a163 (p0.module.Code).length c164, .pointer (some ⟨b165, 0, none⟩), .int .u64 ((aset p0.regs i173 (wu64 p1.Imm)) 0), .int .u64 ((aset p0.regs i173 (wu64 p1.Imm)) 1), .int .u64 ((aset p0.regs i173 (wu64 p1.Imm)) 2), .int .u64 ((aset p0.regs i173 (wu64 p1.Imm)) 3), .int .u64 ((aset p0.regs i173 (wu64 p1.Imm)) 4), .int .u64 ((aset p0.regs i173 (wu64 p1.Imm)) 5), .int .u64 ((aset p0.regs i173 (wu64 p1.Imm)) 6), .int .u64 ((aset p0.regs i173 (wu64 p1.Imm)) 7), .int .i64 (p0.turns 0), .int .i64 (p0.turns 1), .int .i64 (p0.turns 2), .int .i64 (p0.turns 3), .int .i64 (p0.turns 4), .int .i64 (p0.turns 5), .int .i64 (p0.turns 6), .int .i64 (p0.turns 7), .int .i64 (p0.turns 8), .int .i64 (p0.turns 9), .int .i64 (p0.turns 10), .int .i64 (p0.turns 11), .int .i64 (p0.turns 12), .int .i64 (p0.turns 13), .int .i64 (p0.turns 14), .int .i64 (p0.turns 15), .int .i64 (p0.turns 16), .int .i64 (p0.turns 17), .int .i64 (p0.turns 18), .int .i64 (p0.turns 19), .int .i64 (p0.turns 20), .int .i64 (p0.turns 21), .int .i64 (p0.turns 22), .int .i64 (p0.turns 23), .int .i64 (p0.turns 24), .int .i64 (p0.turns 25), .int .i64 (p0.turns 26), .int .i64 (p0.turns 27), .int .i64 (p0.turns 28), .int .i64 (p0.turns 29), .int .i64 (p0.turns 30), .int .i64 (p0.turns 31), .int .i64 (p0.turns 32), .int .i64 (p0.turns 33), .int .i64 (p0.turns 34), .int .i64 (p0.turns 35), .int .i64 (p0.turns 36), .int .i64 (p0.turns 37), .int .i64 (p0.turns 38), .int .i64 (p0.turns 39), .int .i64 (p0.turns 40), .int .i64 (p0.turns 41), .int .i64 (p0.turns 42), .int .i64 (p0.turns 43), .int .i64 (p0.turns 44), .int .i64 (p0.turns 45), .int .i64 (p0.turns 46), .int .i64 (p0.turns 47), .int .i64 (p0.turns 48), .int .i64 (p0.turns 49), .int .i64 (p0.turns 50), .int .i64 (p0.turns 51), .int .i64 (p0.turns 52), .int .i64 (p0.turns 53), .int .i64 (p0.turns 54), .int .i64 (p0.turns 55), .int .i64 (p0.turns 56), .int .i64 (p0.turns 57), .int .i64 (p0.turns 58), .int .i64 (p0.turns 59), .int .i64 (p0.turns 60), .int .i64 (p0.turns 61), .int .i64 (p0.turns 62), .int .i64 (p0.turns 63), .int .i64 p0.at_, .int .i64 p0.steps, .int .i64 p0.state] rfl ?_
  intro w175 hst
  refine OW.nil rfl (QW.block_normal (QW.next (CW.seq (CW.region ?_))))
  refine OW.pure 1 [(4, .int .i64 1)] (by kernel_rfl) (OW.nil rfl (QW.next (CW.ret ?_)))
  have hst := hst.toIt 2 rfl (fun _ => rfl) (by decide)
  have hst := hst.toIt 3 rfl (fun _ => rfl) (by decide)
  obtain ⟨S176, hst⟩ := hst.shutP3 R_t96 rfl 0 2 3 4 [1] rfl rfl rfl rfl rfl (engine_Machine.mk p0.Event p0.module p0.scratch (aset p0.regs i173 (wu64 p1.Imm)) p0.turns p0.at_ p0.steps p0.state) rfl rfl
  obtain rfl := Option.some.inj hF
  refine QW.ret1 rfl rfl ?_
  exact ⟨S176, rfl, hst.keep [1] rfl⟩
 have hF := ite_f hF hc152
 refine CW.cond_f rfl hc152 (CW.seq (CW.region ?_))
 refine OW.pure 2 [(146, .bool (p1.Op == 15))] (by kernel_rfl) (OW.nil rfl (QW.next ?_))
 rcases Bool.eq_false_or_eq_true ((p1.Op == 15)) with hc177 | hc177
 ·have hF := ite_t hF hc177
  refine CW.cond_t rfl hc177 (CW.seq (CW.region ?_))
  refine OW.pure 1 [(148, .pointer (some ⟨b4, 1, none⟩))] (by kernel_rfl) ?_
  refine OW.ld rfl rfl rfl rfl (by kernel_rfl) (hst.blk 1 rfl rfl) ?_
  refine OW.pure 2 [(4, .int .i64 (w64 (p1.D + 1)))] (by kernel_rfl) (OW.nil rfl (QW.next (CW.ret (QW.block_ret (QW.then_ret ?_)))))
  obtain rfl := Option.some.inj hF
  refine QW.ret1 rfl rfl ?_
  exact ⟨S0, rfl, hst.keep [0] rfl⟩
 have hF := ite_f hF hc177
 refine CW.cond_f rfl hc177 (CW.seq (CW.region ?_))
 refine OW.pure 2 [(151, .bool (p1.Op == 20))] (by kernel_rfl) (OW.nil rfl (QW.next ?_))
 rcases Bool.eq_false_or_eq_true ((p1.Op == 20)) with hc178 | hc178
 ·have hF := ite_t hF hc178
  refine CW.cond_t rfl hc178 (CW.seq (CW.seq ?_))
  obtain ⟨v179, S180, v181, S182, v183, S184, hst⟩ := hst.openQ3 0 rfl rfl rfl rfl
  have hst := hst.toRow1 2 rfl
  have hst := hst.toRow1 3 rfl
  obtain ⟨l185, a186, c187, rfl⟩ := hst.len 2 rfl
  obtain ⟨l188, a189, c190, rfl⟩ := hst.len 3 rfl
  obtain ⟨b191, rfl⟩ := hst.fptr 4 rfl
  have hst : St _ _ _ [blkI b1 96 [.int .u64 p0.Event.A, .int .u64 p0.Event.B, .slice a186 (p0.module.Maps).length c187, .slice a189 (p0.module.Code).length c190, .pointer (some ⟨b191, 0, none⟩), .int .u64 (p0.regs 0), .int .u64 (p0.regs 1), .int .u64 (p0.regs 2), .int .u64 (p0.regs 3), .int .u64 (p0.regs 4), .int .u64 (p0.regs 5), .int .u64 (p0.regs 6), .int .u64 (p0.regs 7), .int .i64 (p0.turns 0), .int .i64 (p0.turns 1), .int .i64 (p0.turns 2), .int .i64 (p0.turns 3), .int .i64 (p0.turns 4), .int .i64 (p0.turns 5), .int .i64 (p0.turns 6), .int .i64 (p0.turns 7), .int .i64 (p0.turns 8), .int .i64 (p0.turns 9), .int .i64 (p0.turns 10), .int .i64 (p0.turns 11), .int .i64 (p0.turns 12), .int .i64 (p0.turns 13), .int .i64 (p0.turns 14), .int .i64 (p0.turns 15), .int .i64 (p0.turns 16), .int .i64 (p0.turns 17), .int .i64 (p0.turns 18), .int .i64 (p0.turns 19), .int .i64 (p0.turns 20), .int .i64 (p0.turns 21), .int .i64 (p0.turns 22), .int .i64 (p0.turns 23), .int .i64 (p0.turns 24), .int .i64 (p0.turns 25), .int .i64 (p0.turns 26), .int .i64 (p0.turns 27), .int .i64 (p0.turns 28), .int .i64 (p0.turns 29), .int .i64 (p0.turns 30), .int .i64 (p0.turns 31), .int .i64 (p0.turns 32), .int .i64 (p0.turns 33), .int .i64 (p0.turns 34), .int .i64 (p0.turns 35), .int .i64 (p0.turns 36), .int .i64 (p0.turns 37), .int .i64 (p0.turns 38), .int .i64 (p0.turns 39), .int .i64 (p0.turns 40), .int .i64 (p0.turns 41), .int .i64 (p0.turns 42), .int .i64 (p0.turns 43), .int .i64 (p0.turns 44), .int .i64 (p0.turns 45), .int .i64 (p0.turns 46), .int .i64 (p0.turns 47), .int .i64 (p0.turns 48), .int .i64 (p0.turns 49), .int .i64 (p0.turns 50), .int .i64 (p0.turns 51), .int .i64 (p0.turns 52), .int .i64 (p0.turns 53), .int .i64 (p0.turns 54), .int .i64 (p0.turns 55), .int .i64 (p0.turns 56), .int .i64 (p0.turns 57), .int .i64 (p0.turns 58), .int .i64 (p0.turns 59), .int .i64 (p0.turns 60), .int .i64 (p0.turns 61), .int .i64 (p0.turns 62), .int .i64 (p0.turns 63), .int .i64 p0.at_, .int .i64 p0.steps, .int .i64 p0.state], _, _, _, _] := hst
  obtain ⟨o206, ho207, hF⟩ := bind_some' hF
  refine CW.cutK (fun a w1 => ∃ (S205 : List Nat), Rep 199 [(0, .pointer (some ⟨b1, 0, none⟩)), (3, .pointer (some ⟨b4, 0, none⟩)), (174, .bool o206)] a ∧ St w (fp [itI R_t49 [.pointer (some ⟨b1, 0, none⟩)] S0 p0]) w1 [itI R_t49 [.pointer (some ⟨b1, 0, none⟩)] S205 p0, blkI b4 43 [.int .i64 p1.Op, .int .i64 p1.D, .int .i64 p1.A, .int .i64 p1.B, .int .i64 p1.Imm]]) ?_ ?_
  ·refine CW.still (by kernel_rfl) (by kernel_rfl) ?_
   intro w208 hch209
   have hst := hst.same hch209
   refine OS.pure 2 [(153, .pointer (some ⟨b1, 0, none⟩)), (154, .pointer (some ⟨b4, 2, none⟩))] rfl (by kernel_rfl) ?_
   refine OS.ld rfl rfl rfl rfl rfl (by kernel_rfl) (hst.blk 1 rfl rfl) ?_
   refine OS.pure 2 [(157, .pointer (some ⟨b1, 5, none⟩))] rfl (by kernel_rfl) ?_
   obtain ⟨i210, hi211, ho207⟩ := bind_some' ho207
   refine OS.op (v := .pointer (some ⟨b1, 5 + Int.toNat p1.A * 1, none⟩)) rfl rfl rfl rfl rfl (fun a ha => aidx_run (n := 8) 26 1 rfl rfl rfl (ain_some hi211).1 (ain_some hi211).2.1 (by kernel_rfl) (by kernel_rfl) a _ ha) ?_
   refine OS.ld rfl rfl rfl rfl rfl (by kernel_rfl) (hst.arrB 0 rfl (encInt .u64) (fun _ => rfl) 8 p0.regs 5 rfl rfl hi211 0 _ rfl) ?_
   refine OS.pure 2 [(161, .bool ((p0.regs i210) != 0))] rfl (by kernel_rfl) ?_
   refine OS.split 161 rfl (fun hc212 => ?_) (fun hc212 => ?_)
   ·have ho207 := ite_t ho207 hc212
    refine OS.pure 4 [(162, .pointer (some ⟨b1, 0, none⟩)), (165, .pointer (some ⟨b1, 77, none⟩))] rfl (by kernel_rfl) ?_
    refine OS.ld rfl rfl rfl rfl rfl (by kernel_rfl) (hst.blk 0 rfl rfl) ?_
    refine OS.pure 2 [(168, .pointer (some ⟨b1, 13, none⟩))] rfl (by kernel_rfl) ?_
    obtain ⟨i213, hi214, ho207⟩ := bind_some' ho207
    refine OS.op (v := .pointer (some ⟨b1, 13 + Int.toNat p0.at_ * 1, none⟩)) rfl rfl rfl rfl rfl (fun a ha => aidx_run (n := 64) 2 1 rfl rfl rfl (ain_some hi214).1 (ain_some hi214).2.1 (by kernel_rfl) (by kernel_rfl) a _ ha) ?_
    refine OS.ld rfl rfl rfl rfl rfl (by kernel_rfl) (hst.arrB 0 rfl (encInt .i64) (fun _ => rfl) 64 p0.turns 13 rfl rfl hi214 0 _ rfl) ?_
    refine OS.pure 1 [(171, .pointer (some ⟨b4, 4, none⟩))] rfl (by kernel_rfl) ?_
    refine OS.ld rfl rfl rfl rfl rfl (by kernel_rfl) (hst.blk 1 rfl rfl) ?_
    refine OS.pure 2 [(174, .bool (decide ((p0.turns i213) < p1.Imm)))] rfl (by kernel_rfl) ?_
    refine OS.fin rfl ?_
    have hst := hst.toIt 2 rfl (fun _ => rfl) (by decide)
    have hst := hst.toIt 3 rfl (fun _ => rfl) (by decide)
    obtain ⟨S215, hst⟩ := hst.shutP3 R_t96 rfl 0 2 3 4 [1] rfl rfl rfl rfl rfl p0 rfl rfl
    obtain rfl := Option.some.inj ho207
    exact QW.meet (fun a ha => ⟨S215, ha.agrees (by kernel_rfl), hst.keep [1, 0] rfl⟩)
   have ho207 := ite_f ho207 hc212
   refine OS.pure 13 [(174, .bool false)] rfl (by kernel_rfl) ?_
   refine OS.fin rfl ?_
   have hst := hst.toIt 2 rfl (fun _ => rfl) (by decide)
   have hst := hst.toIt 3 rfl (fun _ => rfl) (by decide)
   obtain ⟨S216, hst⟩ := hst.shutP3 R_t96 rfl 0 2 3 4 [1] rfl rfl rfl rfl rfl p0 rfl rfl
   obtain rfl := Option.some.inj ho207
   exact QW.meet (fun a ha => ⟨S216, ha.agrees (by kernel_rfl), hst.keep [1, 0] rfl⟩)
  rintro a w1 ⟨S205, ha, hst⟩
  refine CW.go ?_ ha
  rcases Bool.eq_false_or_eq_true (o206) with hc217 | hc217
  ·have hF := ite_t hF hc217
   refine CW.cond_t rfl hc217 (CW.seq ?_)
   obtain ⟨v218, S219, v220, S221, v222, S223, hst⟩ := hst.openQ3 0 rfl rfl rfl rfl
   have hst := hst.toRow1 2 rfl
   have hst := hst.toRow1 3 rfl
   obtain ⟨l224, a225, c226, rfl⟩ := hst.len 2 rfl
   obtain ⟨l227, a228, c229, rfl⟩ := hst.len 3 rfl
   obtain ⟨b230, rfl⟩ := hst.fptr 4 rfl
   have hst : St _ _ _ [blkI b1 96 [.int .u64 p0.Event.A, .int .u64 p0.Event.B, .slice a225 (p0.module.Maps).length c226, .slice a228 (p0.module.Code).length c229, .pointer (some ⟨b230, 0, none⟩), .int .u64 (p0.regs 0), .int .u64 (p0.regs 1), .int .u64 (p0.regs 2), .int .u64 (p0.regs 3), .int .u64 (p0.regs 4), .int .u64 (p0.regs 5), .int .u64 (p0.regs 6), .int .u64 (p0.regs 7), .int .i64 (p0.turns 0), .int .i64 (p0.turns 1), .int .i64 (p0.turns 2), .int .i64 (p0.turns 3), .int .i64 (p0.turns 4), .int .i64 (p0.turns 5), .int .i64 (p0.turns 6), .int .i64 (p0.turns 7), .int .i64 (p0.turns 8), .int .i64 (p0.turns 9), .int .i64 (p0.turns 10), .int .i64 (p0.turns 11), .int .i64 (p0.turns 12), .int .i64 (p0.turns 13), .int .i64 (p0.turns 14), .int .i64 (p0.turns 15), .int .i64 (p0.turns 16), .int .i64 (p0.turns 17), .int .i64 (p0.turns 18), .int .i64 (p0.turns 19), .int .i64 (p0.turns 20), .int .i64 (p0.turns 21), .int .i64 (p0.turns 22), .int .i64 (p0.turns 23), .int .i64 (p0.turns 24), .int .i64 (p0.turns 25), .int .i64 (p0.turns 26), .int .i64 (p0.turns 27), .int .i64 (p0.turns 28), .int .i64 (p0.turns 29), .int .i64 (p0.turns 30), .int .i64 (p0.turns 31), .int .i64 (p0.turns 32), .int .i64 (p0.turns 33), .int .i64 (p0.turns 34), .int .i64 (p0.turns 35), .int .i64 (p0.turns 36), .int .i64 (p0.turns 37), .int .i64 (p0.turns 38), .int .i64 (p0.turns 39), .int .i64 (p0.turns 40), .int .i64 (p0.turns 41), .int .i64 (p0.turns 42), .int .i64 (p0.turns 43), .int .i64 (p0.turns 44), .int .i64 (p0.turns 45), .int .i64 (p0.turns 46), .int .i64 (p0.turns 47), .int .i64 (p0.turns 48), .int .i64 (p0.turns 49), .int .i64 (p0.turns 50), .int .i64 (p0.turns 51), .int .i64 (p0.turns 52), .int .i64 (p0.turns 53), .int .i64 (p0.turns 54), .int .i64 (p0.turns 55), .int .i64 (p0.turns 56), .int .i64 (p0.turns 57), .int .i64 (p0.turns 58), .int .i64 (p0.turns 59), .int .i64 (p0.turns 60), .int .i64 (p0.turns 61), .int .i64 (p0.turns 62), .int .i64 (p0.turns 63), .int .i64 p0.at_, .int .i64 p0.steps, .int .i64 p0.state], _, _, _, _] := hst
   refine CW.tail 13 (by kernel_rfl) (by kernel_rfl) ?_
   intro w236 hch237
   have hst := hst.same hch237
   refine OS.pure 4 [(175, .pointer (some ⟨b1, 0, none⟩)), (178, .pointer (some ⟨b1, 77, none⟩))] rfl (by kernel_rfl) ?_
   refine OS.ld rfl rfl rfl rfl rfl (by kernel_rfl) (hst.blk 0 rfl rfl) ?_
   refine OS.pure 2 [(181, .pointer (some ⟨b1, 13, none⟩))] rfl (by kernel_rfl) ?_
   obtain ⟨i238, hi239, hF⟩ := bind_some' hF
   refine OS.op (v := .pointer (some ⟨b1, 13 + Int.toNat p0.at_ * 1, none⟩)) rfl rfl rfl rfl rfl (fun a ha => aidx_run (n := 64) 2 1 rfl rfl rfl (ain_some hi239).1 (ain_some hi239).2.1 (by kernel_rfl) (by kernel_rfl) a _ ha) ?_
   refine OS.ld rfl rfl rfl rfl rfl (by kernel_rfl) (hst.arrB 0 rfl (encInt .i64) (fun _ => rfl) 64 p0.turns 13 rfl rfl hi239 0 _ rfl) ?_
   refine OS.pure 3 [(184, .int .i64 (w64 ((p0.turns i238) + 1))), (186, .pointer (some ⟨b1, 13, none⟩))] rfl (by kernel_rfl) ?_
   refine OS.op (v := .pointer (some ⟨b1, 13 + Int.toNat p0.at_ * 1, none⟩)) rfl rfl rfl rfl rfl (fun a ha => aidx_run (n := 64) 2 1 rfl rfl rfl (ain_some hi239).1 (ain_some hi239).2.1 (by kernel_rfl) (by kernel_rfl) a _ ha) ?_
   refine OS.on ?_
   refine OW.stA hst 0 rfl rfl rfl rfl rfl (by kernel_rfl) rfl (encInt .i64) (fun _ => rfl) 64 p0.turns 13 rfl rfl hi239 0 rfl rfl (w64 ((p0.turns i238) + 1)) rfl [.int .u64 p0.Event.A, .int .u64 p0.Event.B, .slice a225 (p0.module.Maps).length c226, .slice a228 (p0.module.Code).length c229, .pointer (some ⟨b230, 0, none⟩), .int .u64 (p0.regs 0), .int .u64 (p0.regs 1), .int .u64 (p0.regs 2), .int .u64 (p0.regs 3), .int .u64 (p0.regs 4), .int .u64 (p0.regs 5), .int .u64 (p0.regs 6), .int .u64 (p0.regs 7), .int .i64 ((aset p0.turns i238 (w64 ((p0.turns i238) + 1))) 0), .int .i64 ((aset p0.turns i238 (w64 ((p0.turns i238) + 1))) 1), .int .i64 ((aset p0.turns i238 (w64 ((p0.turns i238) + 1))) 2), .int .i64 ((aset p0.turns i238 (w64 ((p0.turns i238) + 1))) 3), .int .i64 ((aset p0.turns i238 (w64 ((p0.turns i238) + 1))) 4), .int .i64 ((aset p0.turns i238 (w64 ((p0.turns i238) + 1))) 5), .int .i64 ((aset p0.turns i238 (w64 ((p0.turns i238) + 1))) 6), .int .i64 ((aset p0.turns i238 (w64 ((p0.turns i238) + 1))) 7), .int .i64 ((aset p0.turns i238 (w64 ((p0.turns i238) + 1))) 8), .int .i64 ((aset p0.turns i238 (w64 ((p0.turns i238) + 1))) 9), .int .i64 ((aset p0.turns i238 (w64 ((p0.turns i238) + 1))) 10), .int .i64 ((aset p0.turns i238 (w64 ((p0.turns i238) + 1))) 11), .int .i64 ((aset p0.turns i238 (w64 ((p0.turns i238) + 1))) 12), .int .i64 ((aset p0.turns i238 (w64 ((p0.turns i238) + 1))) 13), .int .i64 ((aset p0.turns i238 (w64 ((p0.turns i238) + 1))) 14), .int .i64 ((aset p0.turns i238 (w64 ((p0.turns i238) + 1))) 15), .int .i64 ((aset p0.turns i238 (w64 ((p0.turns i238) + 1))) 16), .int .i64 ((aset p0.turns i238 (w64 ((p0.turns i238) + 1))) 17), .int .i64 ((aset p0.turns i238 (w64 ((p0.turns i238) + 1))) 18), .int .i64 ((aset p0.turns i238 (w64 ((p0.turns i238) + 1))) 19), .int .i64 ((aset p0.turns i238 (w64 ((p0.turns i238) + 1))) 20), .int .i64 ((aset p0.turns i238 (w64 ((p0.turns i238) + 1))) 21), .int .i64 ((aset p0.turns i238 (w64 ((p0.turns i238) + 1))) 22), .int .i64 ((aset p0.turns i238 (w64 ((p0.turns i238) + 1))) 23), .int .i64 ((aset p0.turns i238 (w64 ((p0.turns i238) + 1))) 24), .int .i64 ((aset p0.turns i238 (w64 ((p0.turns i238) + 1))) 25), .int .i64 ((aset p0.turns i238 (w64 ((p0.turns i238) + 1))) 26), .int .i64 ((aset p0.turns i238 (w64 ((p0.turns i238) + 1))) 27), .int .i64 ((aset p0.turns i238 (w64 ((p0.turns i238) + 1))) 28), .int .i64 ((aset p0.turns i238 (w64 ((p0.turns i238) + 1))) 29), .int .i64 ((aset p0.turns i238 (w64 ((p0.turns i238) + 1))) 30), .int .i64 ((aset p0.turns i238 (w64 ((p0.turns i238) + 1))) 31), .int .i64 ((aset p0.turns i238 (w64 ((p0.turns i238) + 1))) 32), .int .i64 ((aset p0.turns i238 (w64 ((p0.turns i238) + 1))) 33), .int .i64 ((aset p0.turns i238 (w64 ((p0.turns i238) + 1))) 34), .int .i64 ((aset p0.turns i238 (w64 ((p0.turns i238) + 1))) 35), .int .i64 ((aset p0.turns i238 (w64 ((p0.turns i238) + 1))) 36), .int .i64 ((aset p0.turns i238 (w64 ((p0.turns i238) + 1))) 37), .int .i64 ((aset p0.turns i238 (w64 ((p0.turns i238) + 1))) 38), .int .i64 ((aset p0.turns i238 (w64 ((p0.turns i238) + 1))) 39), .int .i64 ((aset p0.turns i238 (w64 ((p0.turns i238) + 1))) 40), .int .i64 ((aset p0.turns i238 (w64 ((p0.turns i238) + 1))) 41), .int .i64 ((aset p0.turns i238 (w64 ((p0.turns i238) + 1))) 42), .int .i64 ((aset p0.turns i238 (w64 ((p0.turns i238) + 1))) 43), .int .i64 ((aset p0.turns i238 (w64 ((p0.turns i238) + 1))) 44), .int .i64 ((aset p0.turns i238 (w64 ((p0.turns i238) + 1))) 45), .int .i64 ((aset p0.turns i238 (w64 ((p0.turns i238) + 1))) 46), .int .i64 ((aset p0.turns i238 (w64 ((p0.turns i238) + 1))) 47), .int .i64 ((aset p0.turns i238 (w64 ((p0.turns i238) + 1))) 48), .int .i64 ((aset p0.turns i238 (w64 ((p0.turns i238) + 1))) 49), .int .i64 ((aset p0.turns i238 (w64 ((p0.turns i238) + 1))) 50), .int .i64 ((aset p0.turns i238 (w64 ((p0.turns i238) + 1))) 51), .int .i64 ((aset p0.turns i238 (w64 ((p0.turns i238) + 1))) 52), .int .i64 ((aset p0.turns i238 (w64 ((p0.turns i238) + 1))) 53), .int .i64 ((aset p0.turns i238 (w64 ((p0.turns i238) + 1))) 54), .int .i64 ((aset p0.turns i238 (w64 ((p0.turns i238) + 1))) 55), .int .i64 ((aset p0.turns i238 (w64 ((p0.turns i238) + 1))) 56), .int .i64 ((aset p0.turns i238 (w64 ((p0.turns i238) + 1))) 57), .int .i64 ((aset p0.turns i238 (w64 ((p0.turns i238) + 1))) 58), .int .i64 ((aset p0.turns i238 (w64 ((p0.turns i238) + 1))) 59), .int .i64 ((aset p0.turns i238 (w64 ((p0.turns i238) + 1))) 60), .int .i64 ((aset p0.turns i238 (w64 ((p0.turns i238) + 1))) 61), .int .i64 ((aset p0.turns i238 (w64 ((p0.turns i238) + 1))) 62), .int .i64 ((aset p0.turns i238 (w64 ((p0.turns i238) + 1))) 63), .int .i64 p0.at_, .int .i64 p0.steps, .int .i64 p0.state] rfl ?_
   intro w240 hst
   refine OW.nil rfl (QW.next (CW.seq (CW.region ?_)))
   refine OW.pure 1 [(188, .pointer (some ⟨b4, 1, none⟩))] (by kernel_rfl) ?_
   refine OW.ld rfl rfl rfl rfl (by kernel_rfl) (hst.blk 1 rfl rfl) ?_
   refine OW.pure 2 [(4, .int .i64 (w64 (0 - p1.D)))] (by kernel_rfl) (OW.nil rfl (QW.next (CW.ret (QW.then_ret (QW.block_ret (QW.then_ret ?_))))))
   have hst := hst.toIt 2 rfl (fun _ => rfl) (by decide)
   have hst := hst.toIt 3 rfl (fun _ => rfl) (by decide)
   obtain ⟨S241, hst⟩ := hst.shutP3 R_t96 rfl 0 2 3 4 [1] rfl rfl rfl rfl rfl (engine_Machine.mk p0.Event p0.module p0.scratch p0.regs (aset p0.turns i238 (w64 ((p0.turns i238) + 1))) p0.at_ p0.steps p0.state) rfl rfl
   obtain rfl := Option.some.inj hF
   refine QW.ret1 rfl rfl ?_
   exact ⟨S241, rfl, hst.keep [1] rfl⟩
  have hF := ite_f hF hc217
  refine CW.cond_f rfl hc217 (CW.skip (QW.next ?_))
  obtain ⟨v242, S243, v244, S245, v246, S247, hst⟩ := hst.openQ3 0 rfl rfl rfl rfl
  have hst := hst.toRow1 2 rfl
  have hst := hst.toRow1 3 rfl
  obtain ⟨l248, a249, c250, rfl⟩ := hst.len 2 rfl
  obtain ⟨l251, a252, c253, rfl⟩ := hst.len 3 rfl
  obtain ⟨b254, rfl⟩ := hst.fptr 4 rfl
  have hst : St _ _ _ [blkI b1 96 [.int .u64 p0.Event.A, .int .u64 p0.Event.B, .slice a249 (p0.module.Maps).length c250, .slice a252 (p0.module.Code).length c253, .pointer (some ⟨b254, 0, none⟩), .int .u64 (p0.regs 0), .int .u64 (p0.regs 1), .int .u64 (p0.regs 2), .int .u64 (p0.regs 3), .int .u64 (p0.regs 4), .int .u64 (p0.regs 5), .int .u64 (p0.regs 6), .int .u64 (p0.regs 7), .int .i64 (p0.turns 0), .int .i64 (p0.turns 1), .int .i64 (p0.turns 2), .int .i64 (p0.turns 3), .int .i64 (p0.turns 4), .int .i64 (p0.turns 5), .int .i64 (p0.turns 6), .int .i64 (p0.turns 7), .int .i64 (p0.turns 8), .int .i64 (p0.turns 9), .int .i64 (p0.turns 10), .int .i64 (p0.turns 11), .int .i64 (p0.turns 12), .int .i64 (p0.turns 13), .int .i64 (p0.turns 14), .int .i64 (p0.turns 15), .int .i64 (p0.turns 16), .int .i64 (p0.turns 17), .int .i64 (p0.turns 18), .int .i64 (p0.turns 19), .int .i64 (p0.turns 20), .int .i64 (p0.turns 21), .int .i64 (p0.turns 22), .int .i64 (p0.turns 23), .int .i64 (p0.turns 24), .int .i64 (p0.turns 25), .int .i64 (p0.turns 26), .int .i64 (p0.turns 27), .int .i64 (p0.turns 28), .int .i64 (p0.turns 29), .int .i64 (p0.turns 30), .int .i64 (p0.turns 31), .int .i64 (p0.turns 32), .int .i64 (p0.turns 33), .int .i64 (p0.turns 34), .int .i64 (p0.turns 35), .int .i64 (p0.turns 36), .int .i64 (p0.turns 37), .int .i64 (p0.turns 38), .int .i64 (p0.turns 39), .int .i64 (p0.turns 40), .int .i64 (p0.turns 41), .int .i64 (p0.turns 42), .int .i64 (p0.turns 43), .int .i64 (p0.turns 44), .int .i64 (p0.turns 45), .int .i64 (p0.turns 46), .int .i64 (p0.turns 47), .int .i64 (p0.turns 48), .int .i64 (p0.turns 49), .int .i64 (p0.turns 50), .int .i64 (p0.turns 51), .int .i64 (p0.turns 52), .int .i64 (p0.turns 53), .int .i64 (p0.turns 54), .int .i64 (p0.turns 55), .int .i64 (p0.turns 56), .int .i64 (p0.turns 57), .int .i64 (p0.turns 58), .int .i64 (p0.turns 59), .int .i64 (p0.turns 60), .int .i64 (p0.turns 61), .int .i64 (p0.turns 62), .int .i64 (p0.turns 63), .int .i64 p0.at_, .int .i64 p0.steps, .int .i64 p0.state], _, _, _, _] := hst
  refine CW.tail 8 (by kernel_rfl) (by kernel_rfl) ?_
  intro w260 hch261
  have hst := hst.same hch261
  refine OS.pure 4 [(191, .pointer (some ⟨b1, 0, none⟩)), (194, .pointer (some ⟨b1, 77, none⟩))] rfl (by kernel_rfl) ?_
  refine OS.ld rfl rfl rfl rfl rfl (by kernel_rfl) (hst.blk 0 rfl rfl) ?_
  refine OS.pure 2 [(197, .pointer (some ⟨b1, 13, none⟩))] rfl (by kernel_rfl) ?_
  obtain ⟨i262, hi263, hF⟩ := bind_some' hF
  refine OS.op (v := .pointer (some ⟨b1, 13 + Int.toNat p0.at_ * 1, none⟩)) rfl rfl rfl rfl rfl (fun a ha => aidx_run (n := 64) 2 1 rfl rfl rfl (ain_some hi263).1 (ain_some hi263).2.1 (by kernel_rfl) (by kernel_rfl) a _ ha) ?_
  refine OS.on ?_
  refine OW.stA hst 0 rfl rfl rfl rfl rfl (by kernel_rfl) rfl (encInt .i64) (fun _ => rfl) 64 p0.turns 13 rfl rfl hi263 0 rfl rfl 0 rfl [.int .u64 p0.Event.A, .int .u64 p0.Event.B, .slice a249 (p0.module.Maps).length c250, .slice a252 (p0.module.Code).length c253, .pointer (some ⟨b254, 0, none⟩), .int .u64 (p0.regs 0), .int .u64 (p0.regs 1), .int .u64 (p0.regs 2), .int .u64 (p0.regs 3), .int .u64 (p0.regs 4), .int .u64 (p0.regs 5), .int .u64 (p0.regs 6), .int .u64 (p0.regs 7), .int .i64 ((aset p0.turns i262 0) 0), .int .i64 ((aset p0.turns i262 0) 1), .int .i64 ((aset p0.turns i262 0) 2), .int .i64 ((aset p0.turns i262 0) 3), .int .i64 ((aset p0.turns i262 0) 4), .int .i64 ((aset p0.turns i262 0) 5), .int .i64 ((aset p0.turns i262 0) 6), .int .i64 ((aset p0.turns i262 0) 7), .int .i64 ((aset p0.turns i262 0) 8), .int .i64 ((aset p0.turns i262 0) 9), .int .i64 ((aset p0.turns i262 0) 10), .int .i64 ((aset p0.turns i262 0) 11), .int .i64 ((aset p0.turns i262 0) 12), .int .i64 ((aset p0.turns i262 0) 13), .int .i64 ((aset p0.turns i262 0) 14), .int .i64 ((aset p0.turns i262 0) 15), .int .i64 ((aset p0.turns i262 0) 16), .int .i64 ((aset p0.turns i262 0) 17), .int .i64 ((aset p0.turns i262 0) 18), .int .i64 ((aset p0.turns i262 0) 19), .int .i64 ((aset p0.turns i262 0) 20), .int .i64 ((aset p0.turns i262 0) 21), .int .i64 ((aset p0.turns i262 0) 22), .int .i64 ((aset p0.turns i262 0) 23), .int .i64 ((aset p0.turns i262 0) 24), .int .i64 ((aset p0.turns i262 0) 25), .int .i64 ((aset p0.turns i262 0) 26), .int .i64 ((aset p0.turns i262 0) 27), .int .i64 ((aset p0.turns i262 0) 28), .int .i64 ((aset p0.turns i262 0) 29), .int .i64 ((aset p0.turns i262 0) 30), .int .i64 ((aset p0.turns i262 0) 31), .int .i64 ((aset p0.turns i262 0) 32), .int .i64 ((aset p0.turns i262 0) 33), .int .i64 ((aset p0.turns i262 0) 34), .int .i64 ((aset p0.turns i262 0) 35), .int .i64 ((aset p0.turns i262 0) 36), .int .i64 ((aset p0.turns i262 0) 37), .int .i64 ((aset p0.turns i262 0) 38), .int .i64 ((aset p0.turns i262 0) 39), .int .i64 ((aset p0.turns i262 0) 40), .int .i64 ((aset p0.turns i262 0) 41), .int .i64 ((aset p0.turns i262 0) 42), .int .i64 ((aset p0.turns i262 0) 43), .int .i64 ((aset p0.turns i262 0) 44), .int .i64 ((aset p0.turns i262 0) 45), .int .i64 ((aset p0.turns i262 0) 46), .int .i64 ((aset p0.turns i262 0) 47), .int .i64 ((aset p0.turns i262 0) 48), .int .i64 ((aset p0.turns i262 0) 49), .int .i64 ((aset p0.turns i262 0) 50), .int .i64 ((aset p0.turns i262 0) 51), .int .i64 ((aset p0.turns i262 0) 52), .int .i64 ((aset p0.turns i262 0) 53), .int .i64 ((aset p0.turns i262 0) 54), .int .i64 ((aset p0.turns i262 0) 55), .int .i64 ((aset p0.turns i262 0) 56), .int .i64 ((aset p0.turns i262 0) 57), .int .i64 ((aset p0.turns i262 0) 58), .int .i64 ((aset p0.turns i262 0) 59), .int .i64 ((aset p0.turns i262 0) 60), .int .i64 ((aset p0.turns i262 0) 61), .int .i64 ((aset p0.turns i262 0) 62), .int .i64 ((aset p0.turns i262 0) 63), .int .i64 p0.at_, .int .i64 p0.steps, .int .i64 p0.state] rfl ?_
  intro w264 hst
  refine OW.nil rfl (QW.block_normal (QW.next (CW.seq (CW.region ?_))))
  refine OW.pure 1 [(4, .int .i64 1)] (by kernel_rfl) (OW.nil rfl (QW.next (CW.ret ?_)))
  have hst := hst.toIt 2 rfl (fun _ => rfl) (by decide)
  have hst := hst.toIt 3 rfl (fun _ => rfl) (by decide)
  obtain ⟨S265, hst⟩ := hst.shutP3 R_t96 rfl 0 2 3 4 [1] rfl rfl rfl rfl rfl (engine_Machine.mk p0.Event p0.module p0.scratch p0.regs (aset p0.turns i262 0) p0.at_ p0.steps p0.state) rfl rfl
  obtain rfl := Option.some.inj hF
  refine QW.ret1 rfl rfl ?_
  exact ⟨S265, rfl, hst.keep [1] rfl⟩
 have hF := ite_f hF hc178
 refine CW.cond_f rfl hc178 (CW.seq ?_)
 obtain ⟨v266, S267, v268, S269, v270, S271, hst⟩ := hst.openQ3 0 rfl rfl rfl rfl
 have hst := hst.toRow1 2 rfl
 have hst := hst.toRow1 3 rfl
 obtain ⟨l272, a273, c274, rfl⟩ := hst.len 2 rfl
 obtain ⟨l275, a276, c277, rfl⟩ := hst.len 3 rfl
 obtain ⟨b278, rfl⟩ := hst.fptr 4 rfl
 have hst : St _ _ _ [blkI b1 96 [.int .u64 p0.Event.A, .int .u64 p0.Event.B, .slice a273 (p0.module.Maps).length c274, .slice a276 (p0.module.Code).length c277, .pointer (some ⟨b278, 0, none⟩), .int .u64 (p0.regs 0), .int .u64 (p0.regs 1), .int .u64 (p0.regs 2), .int .u64 (p0.regs 3), .int .u64 (p0.regs 4), .int .u64 (p0.regs 5), .int .u64 (p0.regs 6), .int .u64 (p0.regs 7), .int .i64 (p0.turns 0), .int .i64 (p0.turns 1), .int .i64 (p0.turns 2), .int .i64 (p0.turns 3), .int .i64 (p0.turns 4), .int .i64 (p0.turns 5), .int .i64 (p0.turns 6), .int .i64 (p0.turns 7), .int .i64 (p0.turns 8), .int .i64 (p0.turns 9), .int .i64 (p0.turns 10), .int .i64 (p0.turns 11), .int .i64 (p0.turns 12), .int .i64 (p0.turns 13), .int .i64 (p0.turns 14), .int .i64 (p0.turns 15), .int .i64 (p0.turns 16), .int .i64 (p0.turns 17), .int .i64 (p0.turns 18), .int .i64 (p0.turns 19), .int .i64 (p0.turns 20), .int .i64 (p0.turns 21), .int .i64 (p0.turns 22), .int .i64 (p0.turns 23), .int .i64 (p0.turns 24), .int .i64 (p0.turns 25), .int .i64 (p0.turns 26), .int .i64 (p0.turns 27), .int .i64 (p0.turns 28), .int .i64 (p0.turns 29), .int .i64 (p0.turns 30), .int .i64 (p0.turns 31), .int .i64 (p0.turns 32), .int .i64 (p0.turns 33), .int .i64 (p0.turns 34), .int .i64 (p0.turns 35), .int .i64 (p0.turns 36), .int .i64 (p0.turns 37), .int .i64 (p0.turns 38), .int .i64 (p0.turns 39), .int .i64 (p0.turns 40), .int .i64 (p0.turns 41), .int .i64 (p0.turns 42), .int .i64 (p0.turns 43), .int .i64 (p0.turns 44), .int .i64 (p0.turns 45), .int .i64 (p0.turns 46), .int .i64 (p0.turns 47), .int .i64 (p0.turns 48), .int .i64 (p0.turns 49), .int .i64 (p0.turns 50), .int .i64 (p0.turns 51), .int .i64 (p0.turns 52), .int .i64 (p0.turns 53), .int .i64 (p0.turns 54), .int .i64 (p0.turns 55), .int .i64 (p0.turns 56), .int .i64 (p0.turns 57), .int .i64 (p0.turns 58), .int .i64 (p0.turns 59), .int .i64 (p0.turns 60), .int .i64 (p0.turns 61), .int .i64 (p0.turns 62), .int .i64 (p0.turns 63), .int .i64 p0.at_, .int .i64 p0.steps, .int .i64 p0.state], _, _, _, _] := hst
 refine CW.plan (by kernel_rfl) ?_
 intro w291 hch292
 have hst := hst.same hch292
 refine OA.pure [0] [(12, .pointer (some ⟨b4, 0, none⟩))] (by kernel_rfl) ?_
 refine OA.ld (i := 1) rfl (by kernel_rfl) rfl rfl rfl (by kernel_rfl) (hst.blk 1 rfl rfl) ?_
 refine OA.pure [2, 3] [(14, .pointer (some ⟨b1, 0, none⟩)), (15, .pointer (some ⟨b4, 2, none⟩))] (by kernel_rfl) ?_
 refine OA.ld (i := 4) rfl (by kernel_rfl) rfl rfl rfl (by kernel_rfl) (hst.blk 1 rfl rfl) ?_
 refine OA.pure [5, 6] [(18, .pointer (some ⟨b1, 5, none⟩))] (by kernel_rfl) ?_
 obtain ⟨i293, hi294, hF⟩ := bind_some' hF
 refine OA.val (i := 7) (v := .pointer (some ⟨b1, 5 + Int.toNat p1.A * 1, none⟩)) rfl (by kernel_rfl) rfl rfl rfl rfl (fun a w ha => aidx_run (n := 8) 26 1 rfl rfl rfl (ain_some hi294).1 (ain_some hi294).2.1 (by kernel_rfl) (by kernel_rfl) a w ha) ?_
 refine OA.ld (i := 8) rfl (by kernel_rfl) rfl rfl rfl (by kernel_rfl) (hst.arrB 0 rfl (encInt .u64) (fun _ => rfl) 8 p0.regs 5 rfl rfl hi294 0 _ rfl) ?_
 refine OA.pure [9] [(21, .pointer (some ⟨b1, 0, none⟩))] (by kernel_rfl) ?_
 refine OA.ldN (i := 10) (cs := [.int .i64 p1.Op, .int .i64 p1.D, .int .i64 p1.A, .int .i64 p1.B, .int .i64 p1.Imm]) rfl (by kernel_rfl) rfl rfl rfl (by kernel_rfl) (by kernel_rfl) (hst.blkN 1 rfl 0 5) ?_
 refine OA.act (i := 11) [8, 4, 1] (by kernel_rfl) rfl rfl (by kernel_rfl) (by kernel_rfl) ?_
 obtain ⟨r295, hr296, hF⟩ := bind_some' hF
 refine OW.fn rfl rfl rfl rfl (by kernel_rfl) (engine_Machine_source_ok _ b1 (.slice a273 (p0.module.Maps).length c274) (.slice a276 (p0.module.Code).length c277) (.pointer (some ⟨b278, 0, none⟩)) p0 p1 r295 hr296 (hst.part [] rfl) (hst.rdB 0 rfl [] rfl)) ?_
 rintro e w297 ⟨rfl, hst298⟩
 refine ⟨_, rfl, ?_⟩
 have hst := hst.join (idx := []) (rest := [0, 1, 2, 3, 4]) rfl hst298
 refine OA.next ⟨(hst.arrB 0 rfl (encInt .u64) (fun _ => rfl) 8 p0.regs 5 rfl rfl hi294 0 _ rfl), (hst.blk 1 rfl rfl), (hst.blk 1 rfl rfl), trivial⟩ ?_
 refine OA.act (i := 12) [] (by kernel_rfl) rfl rfl (by kernel_rfl) (by kernel_rfl) ?_
 obtain ⟨r299, hr300, hF⟩ := bind_some' hF
 refine OW.fn rfl rfl rfl rfl (by kernel_rfl) (arith_Do_ok _ p1.Op (p0.regs i293) r295 r299 hr300 (hst.part [] rfl)) ?_
 rintro e w301 ⟨rfl, hst302⟩
 refine ⟨_, rfl, ?_⟩
 have hst := hst.join (idx := []) (rest := [0, 1, 2, 3, 4]) rfl hst302
 refine OA.next trivial ?_
 refine OA.pure [13, 14, 15] [(25, .int .u64 r299.1), (26, .bool r299.2)] (by kernel_rfl) ?_
 refine OA.act (i := 16) [] (by kernel_rfl) rfl rfl (by kernel_rfl) (by kernel_rfl) ?_
 refine OW.pure 1 [(5, .int .u64 r299.1)] (by kernel_rfl) (OA.next trivial ?_)
 refine OA.act (i := 17) [] (by kernel_rfl) rfl rfl (by kernel_rfl) (by kernel_rfl) ?_
 refine OW.pure 1 [(6, .bool r299.2)] (by kernel_rfl) (OA.next trivial ?_)
 refine OA.fin (by kernel_rfl) (by kernel_rfl) (QW.next (CW.seq (CW.region ?_)))
 refine OW.pure 1 [(27, .bool r299.2)] (by kernel_rfl) (OW.nil rfl (QW.next ?_))
 rcases Bool.eq_false_or_eq_true (r299.2) with hc303 | hc303
 ·have hF := ite_t hF hc303
  refine CW.cond_t rfl hc303 ?_
  refine CW.tail 7 (by kernel_rfl) (by kernel_rfl) ?_
  intro w309 hch310
  have hst := hst.same hch310
  refine OS.pure 2 [(28, .pointer (some ⟨b1, 0, none⟩)), (29, .pointer (some ⟨b4, 1, none⟩))] rfl (by kernel_rfl) ?_
  refine OS.ld rfl rfl rfl rfl rfl (by kernel_rfl) (hst.blk 1 rfl rfl) ?_
  refine OS.pure 3 [(31, .int .u64 r299.1), (33, .pointer (some ⟨b1, 5, none⟩))] rfl (by kernel_rfl) ?_
  obtain ⟨i311, hi312, hF⟩ := bind_some' hF
  refine OS.op (v := .pointer (some ⟨b1, 5 + Int.toNat p1.D * 1, none⟩)) rfl rfl rfl rfl rfl (fun a ha => aidx_run (n := 8) 26 1 rfl rfl rfl (ain_some hi312).1 (ain_some hi312).2.1 (by kernel_rfl) (by kernel_rfl) a _ ha) ?_
  refine OS.on ?_
  refine OW.stA hst 0 rfl rfl rfl rfl rfl (by kernel_rfl) rfl (encInt .u64) (fun _ => rfl) 8 p0.regs 5 rfl rfl hi312 0 rfl rfl r299.1 rfl [.int .u64 p0.Event.A, .int .u64 p0.Event.B, .slice a273 (p0.module.Maps).length c274, .slice a276 (p0.module.Code).length c277, .pointer (some ⟨b278, 0, none⟩), .int .u64 ((aset p0.regs i311 r299.1) 0), .int .u64 ((aset p0.regs i311 r299.1) 1), .int .u64 ((aset p0.regs i311 r299.1) 2), .int .u64 ((aset p0.regs i311 r299.1) 3), .int .u64 ((aset p0.regs i311 r299.1) 4), .int .u64 ((aset p0.regs i311 r299.1) 5), .int .u64 ((aset p0.regs i311 r299.1) 6), .int .u64 ((aset p0.regs i311 r299.1) 7), .int .i64 (p0.turns 0), .int .i64 (p0.turns 1), .int .i64 (p0.turns 2), .int .i64 (p0.turns 3), .int .i64 (p0.turns 4), .int .i64 (p0.turns 5), .int .i64 (p0.turns 6), .int .i64 (p0.turns 7), .int .i64 (p0.turns 8), .int .i64 (p0.turns 9), .int .i64 (p0.turns 10), .int .i64 (p0.turns 11), .int .i64 (p0.turns 12), .int .i64 (p0.turns 13), .int .i64 (p0.turns 14), .int .i64 (p0.turns 15), .int .i64 (p0.turns 16), .int .i64 (p0.turns 17), .int .i64 (p0.turns 18), .int .i64 (p0.turns 19), .int .i64 (p0.turns 20), .int .i64 (p0.turns 21), .int .i64 (p0.turns 22), .int .i64 (p0.turns 23), .int .i64 (p0.turns 24), .int .i64 (p0.turns 25), .int .i64 (p0.turns 26), .int .i64 (p0.turns 27), .int .i64 (p0.turns 28), .int .i64 (p0.turns 29), .int .i64 (p0.turns 30), .int .i64 (p0.turns 31), .int .i64 (p0.turns 32), .int .i64 (p0.turns 33), .int .i64 (p0.turns 34), .int .i64 (p0.turns 35), .int .i64 (p0.turns 36), .int .i64 (p0.turns 37), .int .i64 (p0.turns 38), .int .i64 (p0.turns 39), .int .i64 (p0.turns 40), .int .i64 (p0.turns 41), .int .i64 (p0.turns 42), .int .i64 (p0.turns 43), .int .i64 (p0.turns 44), .int .i64 (p0.turns 45), .int .i64 (p0.turns 46), .int .i64 (p0.turns 47), .int .i64 (p0.turns 48), .int .i64 (p0.turns 49), .int .i64 (p0.turns 50), .int .i64 (p0.turns 51), .int .i64 (p0.turns 52), .int .i64 (p0.turns 53), .int .i64 (p0.turns 54), .int .i64 (p0.turns 55), .int .i64 (p0.turns 56), .int .i64 (p0.turns 57), .int .i64 (p0.turns 58), .int .i64 (p0.turns 59), .int .i64 (p0.turns 60), .int .i64 (p0.turns 61), .int .i64 (p0.turns 62), .int .i64 (p0.turns 63), .int .i64 p0.at_, .int .i64 p0.steps, .int .i64 p0.state] rfl ?_
  intro w313 hst
  refine OW.nil rfl (QW.block_normal (QW.next (CW.seq (CW.region ?_))))
  refine OW.pure 1 [(4, .int .i64 1)] (by kernel_rfl) (OW.nil rfl (QW.next (CW.ret ?_)))
  have hst := hst.toIt 2 rfl (fun _ => rfl) (by decide)
  have hst := hst.toIt 3 rfl (fun _ => rfl) (by decide)
  obtain ⟨S314, hst⟩ := hst.shutP3 R_t96 rfl 0 2 3 4 [1] rfl rfl rfl rfl rfl (engine_Machine.mk p0.Event p0.module p0.scratch (aset p0.regs i311 r299.1) p0.turns p0.at_ p0.steps p0.state) rfl rfl
  obtain rfl := Option.some.inj hF
  refine QW.ret1 rfl rfl ?_
  exact ⟨S314, rfl, hst.keep [1] rfl⟩
 have hF := ite_f hF hc303
 refine CW.cond_f rfl hc303 (CW.seq ?_)
 refine CW.plan (by kernel_rfl) ?_
 intro w325 hch326
 have hst := hst.same hch326
 refine OA.pure [0] [(36, .pointer (some ⟨b4, 0, none⟩))] (by kernel_rfl) ?_
 refine OA.ld (i := 1) rfl (by kernel_rfl) rfl rfl rfl (by kernel_rfl) (hst.blk 1 rfl rfl) ?_
 refine OA.pure [2, 3] [(38, .pointer (some ⟨b1, 0, none⟩)), (39, .pointer (some ⟨b4, 2, none⟩))] (by kernel_rfl) ?_
 refine OA.ld (i := 4) rfl (by kernel_rfl) rfl rfl rfl (by kernel_rfl) (hst.blk 1 rfl rfl) ?_
 refine OA.pure [5, 6] [(42, .pointer (some ⟨b1, 5, none⟩))] (by kernel_rfl) ?_
 refine OA.val (i := 7) (v := .pointer (some ⟨b1, 5 + Int.toNat p1.A * 1, none⟩)) rfl (by kernel_rfl) rfl rfl rfl rfl (fun a w ha => aidx_run (n := 8) 26 1 rfl rfl rfl (ain_some hi294).1 (ain_some hi294).2.1 (by kernel_rfl) (by kernel_rfl) a w ha) ?_
 refine OA.ld (i := 8) rfl (by kernel_rfl) rfl rfl rfl (by kernel_rfl) (hst.arrB 0 rfl (encInt .u64) (fun _ => rfl) 8 p0.regs 5 rfl rfl hi294 0 _ rfl) ?_
 refine OA.pure [9] [(45, .pointer (some ⟨b1, 0, none⟩))] (by kernel_rfl) ?_
 refine OA.ldN (i := 10) (cs := [.int .i64 p1.Op, .int .i64 p1.D, .int .i64 p1.A, .int .i64 p1.B, .int .i64 p1.Imm]) rfl (by kernel_rfl) rfl rfl rfl (by kernel_rfl) (by kernel_rfl) (hst.blkN 1 rfl 0 5) ?_
 refine OA.act (i := 11) [8, 4, 1] (by kernel_rfl) rfl rfl (by kernel_rfl) (by kernel_rfl) ?_
 obtain ⟨r327, hr328, hF⟩ := bind_some' hF
 refine OW.fn rfl rfl rfl rfl (by kernel_rfl) (engine_Machine_source_ok _ b1 (.slice a273 (p0.module.Maps).length c274) (.slice a276 (p0.module.Code).length c277) (.pointer (some ⟨b278, 0, none⟩)) p0 p1 r327 hr328 (hst.part [] rfl) (hst.rdB 0 rfl [] rfl)) ?_
 rintro e w329 ⟨rfl, hst330⟩
 refine ⟨_, rfl, ?_⟩
 have hst := hst.join (idx := []) (rest := [0, 1, 2, 3, 4]) rfl hst330
 refine OA.next ⟨(hst.arrB 0 rfl (encInt .u64) (fun _ => rfl) 8 p0.regs 5 rfl rfl hi294 0 _ rfl), (hst.blk 1 rfl rfl), (hst.blk 1 rfl rfl), trivial⟩ ?_
 refine OA.act (i := 12) [] (by kernel_rfl) rfl rfl (by kernel_rfl) (by kernel_rfl) ?_
 obtain ⟨r331, hr332, hF⟩ := bind_some' hF
 refine OW.fn rfl rfl rfl rfl (by kernel_rfl) (arith_Holds_ok _ p1.Op (p0.regs i293) r327 r331 hr332 (hst.part [] rfl)) ?_
 rintro e w333 ⟨rfl, hst334⟩
 refine ⟨_, rfl, ?_⟩
 have hst := hst.join (idx := []) (rest := [0, 1, 2, 3, 4]) rfl hst334
 refine OA.next trivial ?_
 refine OA.pure [13, 14, 15] [(49, .bool r331.1), (50, .bool r331.2)] (by kernel_rfl) ?_
 refine OA.act (i := 16) [] (by kernel_rfl) rfl rfl (by kernel_rfl) (by kernel_rfl) ?_
 refine OW.pure 1 [(7, .bool r331.1)] (by kernel_rfl) (OA.next trivial ?_)
 refine OA.act (i := 17) [] (by kernel_rfl) rfl rfl (by kernel_rfl) (by kernel_rfl) ?_
 refine OW.pure 1 [(8, .bool r331.2)] (by kernel_rfl) (OA.next trivial ?_)
 refine OA.fin (by kernel_rfl) (by kernel_rfl) (QW.next (CW.seq (CW.region ?_)))
 refine OW.pure 1 [(51, .bool r331.1)] (by kernel_rfl) (OW.nil rfl (QW.next ?_))
 rcases Bool.eq_false_or_eq_true (r331.1) with hc335 | hc335
 ·have hF := ite_t hF hc335
  refine CW.cond_t rfl hc335 (CW.seq (CW.region ?_))
  refine OW.pure 1 [(52, .pointer (some ⟨b4, 1, none⟩))] (by kernel_rfl) ?_
  refine OW.ld rfl rfl rfl rfl (by kernel_rfl) (hst.blk 1 rfl rfl) ?_
  refine OW.pure 2 [(4, .int .i64 (w64 (p1.D + 1)))] (by kernel_rfl) (OW.nil rfl (QW.next (CW.ret (QW.block_ret (QW.then_ret ?_)))))
  have hst := hst.toIt 2 rfl (fun _ => rfl) (by decide)
  have hst := hst.toIt 3 rfl (fun _ => rfl) (by decide)
  obtain ⟨S336, hst⟩ := hst.shutP3 R_t96 rfl 0 2 3 4 [1] rfl rfl rfl rfl rfl p0 rfl rfl
  obtain rfl := Option.some.inj hF
  refine QW.ret1 rfl rfl ?_
  exact ⟨S336, rfl, hst.keep [1] rfl⟩
 have hF := ite_f hF hc335
 refine CW.cond_f rfl hc335 (CW.skip (QW.block_normal (QW.next (CW.seq (CW.region ?_)))))
 refine OW.pure 1 [(4, .int .i64 1)] (by kernel_rfl) (OW.nil rfl (QW.next (CW.ret ?_)))
 have hst := hst.toIt 2 rfl (fun _ => rfl) (by decide)
 have hst := hst.toIt 3 rfl (fun _ => rfl) (by decide)
 obtain ⟨S337, hst⟩ := hst.shutP3 R_t96 rfl 0 2 3 4 [1] rfl rfl rfl rfl rfl p0 rfl rfl
 obtain rfl := Option.some.inj hF
 refine QW.ret1 rfl rfl ?_
 exact ⟨S337, rfl, hst.keep [1] rfl⟩
theorem engine_Machine_Step_ok (w : World) (fu : Nat) (v0 : Value) (S0 : List Nat) (p0 : engine_Machine) (r : api_Act × engine_Machine) (hF : engine_Machine_Step fu p0 = some r)
    (hst : St w (fp [itI R_t49 [v0] S0 p0]) w [itI R_t49 [v0] S0 p0]) (hT1 : Rd w (fp [itI R_t49 [v0] S0 p0]) (.slice (some ⟨1, 0, none⟩) 7 7) enc_sigs_sig 5 tab_g1) :
    Calls Tryz.prog 19 [v0].toArray w (fun e w' => ∃ (s0 : List Nat), e = .returned (.agg [.int .i64 r.1.Kind, .int .i64 r.1.Pc, .int .i64 r.1.Item.Map, .int .i64 r.1.Item.Op, .int .u64 r.1.Item.Key, .int .u64 r.1.Item.Val, .int .u64 r.1.Val].toArray) ∧ St w (fp [itI R_t49 [v0] S0 p0]) w' [itI R_t49 [v0] s0 r.2]) := by
 refine CW.start (N := 99) Tryz.func19 rfl rfl rfl ?_
 obtain ⟨b1, rfl⟩ := hst.fptr 0 rfl
 refine CW.seq (CW.region ?_)
 refine OW.alloc hst rfl rfl rfl [.int .i64 0, .int .i64 0, .int .i64 0, .int .i64 0, .int .u64 0, .int .u64 0, .int .u64 0] (by kernel_rfl) ?_
 intro b4 w5 hst
 refine OW.nil rfl (QW.next (CW.seq (CW.seq ?_)))
 obtain ⟨v6, S7, v8, S9, v10, S11, hst⟩ := hst.openQ3 0 rfl rfl rfl rfl
 have hst := hst.toRow1 2 rfl
 have hst := hst.toRow1 3 rfl
 obtain ⟨l12, a13, c14, rfl⟩ := hst.len 2 rfl
 obtain ⟨l15, a16, c17, rfl⟩ := hst.len 3 rfl
 obtain ⟨b18, rfl⟩ := hst.fptr 4 rfl
 have hst : St _ _ _ [blkI b1 96 [.int .u64 p0.Event.A, .int .u64 p0.Event.B, .slice a13 (p0.module.Maps).length c14, .slice a16 (p0.module.Code).length c17, .pointer (some ⟨b18, 0, none⟩), .int .u64 (p0.regs 0), .int .u64 (p0.regs 1), .int .u64 (p0.regs 2), .int .u64 (p0.regs 3), .int .u64 (p0.regs 4), .int .u64 (p0.regs 5), .int .u64 (p0.regs 6), .int .u64 (p0.regs 7), .int .i64 (p0.turns 0), .int .i64 (p0.turns 1), .int .i64 (p0.turns 2), .int .i64 (p0.turns 3), .int .i64 (p0.turns 4), .int .i64 (p0.turns 5), .int .i64 (p0.turns 6), .int .i64 (p0.turns 7), .int .i64 (p0.turns 8), .int .i64 (p0.turns 9), .int .i64 (p0.turns 10), .int .i64 (p0.turns 11), .int .i64 (p0.turns 12), .int .i64 (p0.turns 13), .int .i64 (p0.turns 14), .int .i64 (p0.turns 15), .int .i64 (p0.turns 16), .int .i64 (p0.turns 17), .int .i64 (p0.turns 18), .int .i64 (p0.turns 19), .int .i64 (p0.turns 20), .int .i64 (p0.turns 21), .int .i64 (p0.turns 22), .int .i64 (p0.turns 23), .int .i64 (p0.turns 24), .int .i64 (p0.turns 25), .int .i64 (p0.turns 26), .int .i64 (p0.turns 27), .int .i64 (p0.turns 28), .int .i64 (p0.turns 29), .int .i64 (p0.turns 30), .int .i64 (p0.turns 31), .int .i64 (p0.turns 32), .int .i64 (p0.turns 33), .int .i64 (p0.turns 34), .int .i64 (p0.turns 35), .int .i64 (p0.turns 36), .int .i64 (p0.turns 37), .int .i64 (p0.turns 38), .int .i64 (p0.turns 39), .int .i64 (p0.turns 40), .int .i64 (p0.turns 41), .int .i64 (p0.turns 42), .int .i64 (p0.turns 43), .int .i64 (p0.turns 44), .int .i64 (p0.turns 45), .int .i64 (p0.turns 46), .int .i64 (p0.turns 47), .int .i64 (p0.turns 48), .int .i64 (p0.turns 49), .int .i64 (p0.turns 50), .int .i64 (p0.turns 51), .int .i64 (p0.turns 52), .int .i64 (p0.turns 53), .int .i64 (p0.turns 54), .int .i64 (p0.turns 55), .int .i64 (p0.turns 56), .int .i64 (p0.turns 57), .int .i64 (p0.turns 58), .int .i64 (p0.turns 59), .int .i64 (p0.turns 60), .int .i64 (p0.turns 61), .int .i64 (p0.turns 62), .int .i64 (p0.turns 63), .int .i64 p0.at_, .int .i64 p0.steps, .int .i64 p0.state], _, _, _, _] := hst
 refine CW.region ?_
 refine OW.pure 3 [(7, .pointer (some ⟨b1, 79, none⟩))] (by kernel_rfl) ?_
 refine OW.ld rfl rfl rfl rfl (by kernel_rfl) (hst.blk 0 rfl rfl) (OW.nil rfl (QW.next (CW.block (CW.seq (CW.region ?_)))))
 refine OW.pure 2 [(9, .bool (p0.state == 1))] (by kernel_rfl) (OW.nil rfl (QW.next ?_))
 rcases Bool.eq_false_or_eq_true ((p0.state == 1)) with hc19 | hc19
 ·have hF := ite_t hF hc19
  refine CW.cond_t rfl hc19 (CW.seq (CW.region ?_))
  refine OW.pure 3 [(13, .pointer (some ⟨b1, 77, none⟩))] (by kernel_rfl) ?_
  refine OW.ld rfl rfl rfl rfl (by kernel_rfl) (hst.blk 0 rfl rfl) ?_
  refine OW.pure 1 [(15, .agg [.int .i64 5, .int .i64 p0.at_, .int .i64 0, .int .i64 0, .int .u64 0, .int .u64 0, .int .u64 0].toArray)] (by kernel_rfl) ?_
  refine OW.stB hst 1 rfl rfl rfl rfl rfl (by kernel_rfl) rfl rfl [.int .i64 5, .int .i64 p0.at_, .int .i64 0, .int .i64 0, .int .u64 0, .int .u64 0, .int .u64 0] rfl ?_
  intro w21 hst
  refine OW.nil rfl (QW.next (CW.ret (QW.block_ret (QW.then_ret ?_))))
  have hst := hst.toIt 2 rfl (fun _ => rfl) (by decide)
  have hst := hst.toIt 3 rfl (fun _ => rfl) (by decide)
  obtain ⟨S22, hst⟩ := hst.shutP3 R_t96 rfl 0 2 3 4 [1] rfl rfl rfl rfl rfl p0 rfl rfl
  obtain rfl := Option.some.inj hF
  refine QW.ret_c rfl rfl (run_loadN (cs := [.int .i64 5, .int .i64 p0.at_, .int .i64 0, .int .i64 0, .int .u64 0, .int .u64 0, .int .u64 0]) (by kernel_rfl) (by kernel_rfl) (hst.blkN 0 rfl 0 7)) ?_
  exact ⟨S22, rfl, hst.keep [1] rfl⟩
 have hF := ite_f hF hc19
 refine CW.cond_f rfl hc19 (CW.seq (CW.region ?_))
 refine OW.pure 2 [(16, .bool (p0.state == 2))] (by kernel_rfl) (OW.nil rfl (QW.next ?_))
 rcases Bool.eq_false_or_eq_true ((p0.state == 2)) with hc23 | hc23
 ·have hF := ite_t hF hc23
  refine CW.cond_t rfl hc23 (CW.seq ?_)
  refine CW.tail 22 (by kernel_rfl) (by kernel_rfl) ?_
  intro w35 hch36
  have hst := hst.same hch36
  refine OS.pure 3 [(20, .pointer (some ⟨b1, 77, none⟩))] rfl (by kernel_rfl) ?_
  refine OS.ld rfl rfl rfl rfl rfl (by kernel_rfl) (hst.blk 0 rfl rfl) ?_
  refine OS.pure 5 [(22, .pointer (some ⟨b1, 0, none⟩)), (26, .pointer (some ⟨b1, 3, none⟩))] rfl (by kernel_rfl) ?_
  refine OS.ld rfl rfl rfl rfl rfl (by kernel_rfl) (hst.blk 0 rfl rfl) ?_
  refine OS.pure 3 [(30, .pointer (some ⟨b1, 77, none⟩))] rfl (by kernel_rfl) ?_
  refine OS.ld rfl rfl rfl rfl rfl (by kernel_rfl) (hst.blk 0 rfl rfl) ?_
  obtain ⟨x37, hx38, hF⟩ := bind_some' hF
  obtain ⟨g40, o41, c42, hv39⟩ := hst.rowv 3 rfl hx38
  refine OS.idx 43 5 rfl rfl rfl rfl rfl hv39 rfl (idx_some hx38).1 (idx_some hx38).2.1 (by kernel_rfl) (by kernel_rfl) ?_
  refine OS.pure 1 [(33, .pointer (some ⟨g40, o41 + Int.toNat p0.at_ * 5 + 2, none⟩))] rfl (by kernel_rfl) ?_
  refine OS.ld rfl rfl rfl rfl rfl (by kernel_rfl) (hst.rowc 3 rfl (fun _ => rfl) hx38 hv39 2 _ rfl) ?_
  refine OS.pure 2 [(36, .pointer (some ⟨b1, 5, none⟩))] rfl (by kernel_rfl) ?_
  obtain ⟨i43, hi44, hF⟩ := bind_some' hF
  refine OS.op (v := .pointer (some ⟨b1, 5 + Int.toNat x37.A * 1, none⟩)) rfl rfl rfl rfl rfl (fun a ha => aidx_run (n := 8) 26 1 rfl rfl rfl (ain_some hi44).1 (ain_some hi44).2.1 (by kernel_rfl) (by kernel_rfl) a _ ha) ?_
  refine OS.ld rfl rfl rfl rfl rfl (by kernel_rfl) (hst.arrB 0 rfl (encInt .u64) (fun _ => rfl) 8 p0.regs 5 rfl rfl hi44 0 _ rfl) ?_
  refine OS.pure 1 [(39, .agg [.int .i64 6, .int .i64 p0.at_, .int .i64 0, .int .i64 0, .int .u64 0, .int .u64 0, .int .u64 (p0.regs i43)].toArray)] rfl (by kernel_rfl) ?_
  refine OS.on ?_
  refine OW.stB hst 1 rfl rfl rfl rfl rfl (by kernel_rfl) rfl rfl [.int .i64 6, .int .i64 p0.at_, .int .i64 0, .int .i64 0, .int .u64 0, .int .u64 0, .int .u64 (p0.regs i43)] rfl ?_
  intro w45 hst
  refine OW.nil rfl (QW.next (CW.ret (QW.block_ret (QW.then_ret ?_))))
  have hst := hst.toIt 2 rfl (fun _ => rfl) (by decide)
  have hst := hst.toIt 3 rfl (fun _ => rfl) (by decide)
  obtain ⟨S46, hst⟩ := hst.shutP3 R_t96 rfl 0 2 3 4 [1] rfl rfl rfl rfl rfl p0 rfl rfl
  obtain rfl := Option.some.inj hF
  refine QW.ret_c rfl rfl (run_loadN (cs := [.int .i64 6, .int .i64 p0.at_, .int .i64 0, .int .i64 0, .int .u64 0, .int .u64 0, .int .u64 (p0.regs i43)]) (by kernel_rfl) (by kernel_rfl) (hst.blkN 0 rfl 0 7)) ?_
  exact ⟨S46, rfl, hst.keep [1] rfl⟩
 have hF := ite_f hF hc23
 refine CW.cond_f rfl hc23 (CW.skip (QW.block_normal (QW.next (CW.seq (CW.region ?_)))))
 refine OW.pure 3 [(40, .pointer (some ⟨b1, 0, none⟩)), (42, .pointer (some ⟨b1, 78, none⟩))] (by kernel_rfl) ?_
 refine OW.ld rfl rfl rfl rfl (by kernel_rfl) (hst.blk 0 rfl rfl) ?_
 refine OW.pure 3 [(44, .int .i64 (w64 (p0.steps + 1))), (46, .pointer (some ⟨b1, 78, none⟩))] (by kernel_rfl) ?_
 refine OW.stB hst 0 rfl rfl rfl rfl rfl (by kernel_rfl) rfl rfl [.int .u64 p0.Event.A, .int .u64 p0.Event.B, .slice a13 (p0.module.Maps).length c14, .slice a16 (p0.module.Code).length c17, .pointer (some ⟨b18, 0, none⟩), .int .u64 (p0.regs 0), .int .u64 (p0.regs 1), .int .u64 (p0.regs 2), .int .u64 (p0.regs 3), .int .u64 (p0.regs 4), .int .u64 (p0.regs 5), .int .u64 (p0.regs 6), .int .u64 (p0.regs 7), .int .i64 (p0.turns 0), .int .i64 (p0.turns 1), .int .i64 (p0.turns 2), .int .i64 (p0.turns 3), .int .i64 (p0.turns 4), .int .i64 (p0.turns 5), .int .i64 (p0.turns 6), .int .i64 (p0.turns 7), .int .i64 (p0.turns 8), .int .i64 (p0.turns 9), .int .i64 (p0.turns 10), .int .i64 (p0.turns 11), .int .i64 (p0.turns 12), .int .i64 (p0.turns 13), .int .i64 (p0.turns 14), .int .i64 (p0.turns 15), .int .i64 (p0.turns 16), .int .i64 (p0.turns 17), .int .i64 (p0.turns 18), .int .i64 (p0.turns 19), .int .i64 (p0.turns 20), .int .i64 (p0.turns 21), .int .i64 (p0.turns 22), .int .i64 (p0.turns 23), .int .i64 (p0.turns 24), .int .i64 (p0.turns 25), .int .i64 (p0.turns 26), .int .i64 (p0.turns 27), .int .i64 (p0.turns 28), .int .i64 (p0.turns 29), .int .i64 (p0.turns 30), .int .i64 (p0.turns 31), .int .i64 (p0.turns 32), .int .i64 (p0.turns 33), .int .i64 (p0.turns 34), .int .i64 (p0.turns 35), .int .i64 (p0.turns 36), .int .i64 (p0.turns 37), .int .i64 (p0.turns 38), .int .i64 (p0.turns 39), .int .i64 (p0.turns 40), .int .i64 (p0.turns 41), .int .i64 (p0.turns 42), .int .i64 (p0.turns 43), .int .i64 (p0.turns 44), .int .i64 (p0.turns 45), .int .i64 (p0.turns 46), .int .i64 (p0.turns 47), .int .i64 (p0.turns 48), .int .i64 (p0.turns 49), .int .i64 (p0.turns 50), .int .i64 (p0.turns 51), .int .i64 (p0.turns 52), .int .i64 (p0.turns 53), .int .i64 (p0.turns 54), .int .i64 (p0.turns 55), .int .i64 (p0.turns 56), .int .i64 (p0.turns 57), .int .i64 (p0.turns 58), .int .i64 (p0.turns 59), .int .i64 (p0.turns 60), .int .i64 (p0.turns 61), .int .i64 (p0.turns 62), .int .i64 (p0.turns 63), .int .i64 p0.at_, .int .i64 (w64 (p0.steps + 1)), .int .i64 p0.state] rfl ?_
 intro w48 hst
 refine OW.nil rfl (QW.next (CW.seq ?_))
 refine CW.plan (by kernel_rfl) ?_
 intro w60 hch61
 have hst := hst.same hch61
 refine OA.pure [0, 1, 2, 3] [(50, .pointer (some ⟨b1, 3, none⟩))] (by kernel_rfl) ?_
 refine OA.ld (i := 4) rfl (by kernel_rfl) rfl rfl rfl (by kernel_rfl) (hst.blk 0 rfl rfl) ?_
 refine OA.pure [5, 6, 7] [(54, .pointer (some ⟨b1, 77, none⟩))] (by kernel_rfl) ?_
 refine OA.ld (i := 8) rfl (by kernel_rfl) rfl rfl rfl (by kernel_rfl) (hst.blk 0 rfl rfl) ?_
 obtain ⟨x62, hx63, hF⟩ := bind_some' hF
 obtain ⟨g65, o66, c67, hv64⟩ := hst.rowv 3 rfl hx63
 refine OA.idx (i := 9) 43 5 rfl (by kernel_rfl) rfl rfl rfl hv64 rfl (idx_some hx63).1 (idx_some hx63).2.1 (by kernel_rfl) (by kernel_rfl) ?_
 refine OA.ldN (i := 10) (cs := enc_api_Inst x62) rfl (by kernel_rfl) rfl rfl rfl (by kernel_rfl) (by kernel_rfl) (hst.rowc 3 rfl (fun _ => rfl) hx63 hv64) ?_
 refine OA.act (i := 11) [10, 8, 4] (by kernel_rfl) rfl rfl (by kernel_rfl) (by kernel_rfl) ?_
 refine OW.alloc hst rfl rfl rfl [.int .i64 0, .int .i64 0, .int .i64 0, .int .i64 0, .int .i64 0] (by kernel_rfl) ?_
 intro b68 w69 hst
 refine OA.next ⟨(hst.rowc 3 rfl (fun _ => rfl) hx63 hv64), (hst.blk 0 rfl rfl), (hst.blk 0 rfl rfl), trivial⟩ ?_
 refine OA.act (i := 12) [] (by kernel_rfl) rfl rfl (by kernel_rfl) (by kernel_rfl) ?_
 refine OW.stB hst 5 rfl rfl rfl rfl rfl (by kernel_rfl) rfl rfl [.int .i64 x62.Op, .int .i64 x62.D, .int .i64 x62.A, .int .i64 x62.B, .int .i64 x62.Imm] rfl ?_
 intro w70 hst
 refine OA.next trivial ?_
 refine OA.fin (by kernel_rfl) (by kernel_rfl) (QW.next (CW.seq (CW.seq (CW.region ?_))))
 refine OW.pure 1 [(58, .pointer (some ⟨b68, 0, none⟩))] (by kernel_rfl) ?_
 refine OW.ld rfl rfl rfl rfl (by kernel_rfl) (hst.blk 5 rfl rfl) (OW.nil rfl (QW.next (CW.block (CW.seq (CW.region ?_)))))
 refine OW.pure 2 [(60, .bool (x62.Op == 21))] (by kernel_rfl) (OW.nil rfl (QW.next ?_))
 rcases Bool.eq_false_or_eq_true ((x62.Op == 21)) with hc71 | hc71
 ·have hF := ite_t hF hc71
  refine CW.cond_t rfl hc71 (CW.seq (CW.region ?_))
  refine OW.pure 2 [(62, .pointer (some ⟨b1, 0, none⟩)), (63, .pointer (some ⟨b68, 4, none⟩))] (by kernel_rfl) ?_
  refine OW.ld rfl rfl rfl rfl (by kernel_rfl) (hst.blk 5 rfl rfl) ?_
  have hst := hst.toIt 2 rfl (fun _ => rfl) (by decide)
  have hst := hst.toIt 3 rfl (fun _ => rfl) (by decide)
  obtain ⟨S79, hst⟩ := hst.shutP3 R_t96 rfl 0 2 3 4 [1, 5] rfl rfl rfl rfl rfl (engine_Machine.mk p0.Event p0.module p0.scratch p0.regs p0.turns p0.at_ (w64 (p0.steps + 1)) p0.state) rfl rfl
  obtain ⟨r80, hr81, hF⟩ := bind_some' hF
  refine OW.fn rfl rfl rfl rfl (by kernel_rfl) (engine_Machine_call_ok _ fu (.pointer (some ⟨b1, 0, none⟩)) S79 (engine_Machine.mk p0.Event p0.module p0.scratch p0.regs p0.turns p0.at_ (w64 (p0.steps + 1)) p0.state) x62.Imm r80 hr81 (hst.part [2] rfl) (hT1.give hst [2])) ?_
  rintro e w82 ⟨S84, rfl, hst83⟩
  refine ⟨_, rfl, ?_⟩
  have hst := hst.join (idx := [2]) (rest := [0, 1]) rfl hst83
  refine OW.stB hst 1 rfl rfl rfl rfl rfl (by kernel_rfl) rfl rfl [.int .i64 r80.1.Kind, .int .i64 r80.1.Pc, .int .i64 r80.1.Item.Map, .int .i64 r80.1.Item.Op, .int .u64 r80.1.Item.Key, .int .u64 r80.1.Item.Val, .int .u64 r80.1.Val] rfl ?_
  intro w85 hst
  refine OW.nil rfl (QW.next (CW.ret (QW.block_ret (QW.then_ret ?_))))
  obtain rfl := Option.some.inj hF
  refine QW.ret_c rfl rfl (run_loadN (cs := [.int .i64 r80.1.Kind, .int .i64 r80.1.Pc, .int .i64 r80.1.Item.Map, .int .i64 r80.1.Item.Op, .int .u64 r80.1.Item.Key, .int .u64 r80.1.Item.Val, .int .u64 r80.1.Val]) (by kernel_rfl) (by kernel_rfl) (hst.blkN 1 rfl 0 7)) ?_
  exact ⟨S84, rfl, hst.keep [0] rfl⟩
 have hF := ite_f hF hc71
 refine CW.cond_f rfl hc71 (CW.seq (CW.region ?_))
 refine OW.pure 2 [(66, .bool (x62.Op == 22))] (by kernel_rfl) (OW.nil rfl (QW.next ?_))
 rcases Bool.eq_false_or_eq_true ((x62.Op == 22)) with hc86 | hc86
 ·have hF := ite_t hF hc86
  refine CW.cond_t rfl hc86 (CW.seq (CW.region ?_))
  refine OW.pure 3 [(70, .pointer (some ⟨b1, 79, none⟩))] (by kernel_rfl) ?_
  refine OW.stB hst 0 rfl rfl rfl rfl rfl (by kernel_rfl) rfl rfl [.int .u64 p0.Event.A, .int .u64 p0.Event.B, .slice a13 (p0.module.Maps).length c14, .slice a16 (p0.module.Code).length c17, .pointer (some ⟨b18, 0, none⟩), .int .u64 (p0.regs 0), .int .u64 (p0.regs 1), .int .u64 (p0.regs 2), .int .u64 (p0.regs 3), .int .u64 (p0.regs 4), .int .u64 (p0.regs 5), .int .u64 (p0.regs 6), .int .u64 (p0.regs 7), .int .i64 (p0.turns 0), .int .i64 (p0.turns 1), .int .i64 (p0.turns 2), .int .i64 (p0.turns 3), .int .i64 (p0.turns 4), .int .i64 (p0.turns 5), .int .i64 (p0.turns 6), .int .i64 (p0.turns 7), .int .i64 (p0.turns 8), .int .i64 (p0.turns 9), .int .i64 (p0.turns 10), .int .i64 (p0.turns 11), .int .i64 (p0.turns 12), .int .i64 (p0.turns 13), .int .i64 (p0.turns 14), .int .i64 (p0.turns 15), .int .i64 (p0.turns 16), .int .i64 (p0.turns 17), .int .i64 (p0.turns 18), .int .i64 (p0.turns 19), .int .i64 (p0.turns 20), .int .i64 (p0.turns 21), .int .i64 (p0.turns 22), .int .i64 (p0.turns 23), .int .i64 (p0.turns 24), .int .i64 (p0.turns 25), .int .i64 (p0.turns 26), .int .i64 (p0.turns 27), .int .i64 (p0.turns 28), .int .i64 (p0.turns 29), .int .i64 (p0.turns 30), .int .i64 (p0.turns 31), .int .i64 (p0.turns 32), .int .i64 (p0.turns 33), .int .i64 (p0.turns 34), .int .i64 (p0.turns 35), .int .i64 (p0.turns 36), .int .i64 (p0.turns 37), .int .i64 (p0.turns 38), .int .i64 (p0.turns 39), .int .i64 (p0.turns 40), .int .i64 (p0.turns 41), .int .i64 (p0.turns 42), .int .i64 (p0.turns 43), .int .i64 (p0.turns 44), .int .i64 (p0.turns 45), .int .i64 (p0.turns 46), .int .i64 (p0.turns 47), .int .i64 (p0.turns 48), .int .i64 (p0.turns 49), .int .i64 (p0.turns 50), .int .i64 (p0.turns 51), .int .i64 (p0.turns 52), .int .i64 (p0.turns 53), .int .i64 (p0.turns 54), .int .i64 (p0.turns 55), .int .i64 (p0.turns 56), .int .i64 (p0.turns 57), .int .i64 (p0.turns 58), .int .i64 (p0.turns 59), .int .i64 (p0.turns 60), .int .i64 (p0.turns 61), .int .i64 (p0.turns 62), .int .i64 (p0.turns 63), .int .i64 p0.at_, .int .i64 (w64 (p0.steps + 1)), .int .i64 2] rfl ?_
  intro w88 hst
  refine OW.nil rfl (QW.next (CW.seq ?_))
  refine CW.tail 12 (by kernel_rfl) (by kernel_rfl) ?_
  intro w94 hch95
  have hst := hst.same hch95
  refine OS.pure 3 [(73, .pointer (some ⟨b1, 77, none⟩))] rfl (by kernel_rfl) ?_
  refine OS.ld rfl rfl rfl rfl rfl (by kernel_rfl) (hst.blk 0 rfl rfl) ?_
  refine OS.pure 2 [(75, .pointer (some ⟨b1, 0, none⟩)), (76, .pointer (some ⟨b68, 2, none⟩))] rfl (by kernel_rfl) ?_
  refine OS.ld rfl rfl rfl rfl rfl (by kernel_rfl) (hst.blk 5 rfl rfl) ?_
  refine OS.pure 2 [(79, .pointer (some ⟨b1, 5, none⟩))] rfl (by kernel_rfl) ?_
  obtain ⟨i96, hi97, hF⟩ := bind_some' hF
  refine OS.op (v := .pointer (some ⟨b1, 5 + Int.toNat x62.A * 1, none⟩)) rfl rfl rfl rfl rfl (fun a ha => aidx_run (n := 8) 26 1 rfl rfl rfl (ain_some hi97).1 (ain_some hi97).2.1 (by kernel_rfl) (by kernel_rfl) a _ ha) ?_
  refine OS.ld rfl rfl rfl rfl rfl (by kernel_rfl) (hst.arrB 0 rfl (encInt .u64) (fun _ => rfl) 8 p0.regs 5 rfl rfl hi97 0 _ rfl) ?_
  refine OS.pure 1 [(82, .agg [.int .i64 4, .int .i64 p0.at_, .int .i64 0, .int .i64 0, .int .u64 0, .int .u64 0, .int .u64 (p0.regs i96)].toArray)] rfl (by kernel_rfl) ?_
  refine OS.on ?_
  refine OW.stB hst 1 rfl rfl rfl rfl rfl (by kernel_rfl) rfl rfl [.int .i64 4, .int .i64 p0.at_, .int .i64 0, .int .i64 0, .int .u64 0, .int .u64 0, .int .u64 (p0.regs i96)] rfl ?_
  intro w98 hst
  refine OW.nil rfl (QW.next (CW.ret (QW.block_ret (QW.then_ret ?_))))
  have hst := hst.toIt 2 rfl (fun _ => rfl) (by decide)
  have hst := hst.toIt 3 rfl (fun _ => rfl) (by decide)
  obtain ⟨S99, hst⟩ := hst.shutP3 R_t96 rfl 0 2 3 4 [1, 5] rfl rfl rfl rfl rfl (engine_Machine.mk p0.Event p0.module p0.scratch p0.regs p0.turns p0.at_ (w64 (p0.steps + 1)) 2) rfl rfl
  obtain rfl := Option.some.inj hF
  refine QW.ret_c rfl rfl (run_loadN (cs := [.int .i64 4, .int .i64 p0.at_, .int .i64 0, .int .i64 0, .int .u64 0, .int .u64 0, .int .u64 (p0.regs i96)]) (by kernel_rfl) (by kernel_rfl) (hst.blkN 0 rfl 0 7)) ?_
  exact ⟨S99, rfl, hst.keep [2] rfl⟩
 have hF := ite_f hF hc86
 refine CW.cond_f rfl hc86 (CW.skip (QW.block_normal (QW.next (CW.seq (CW.region ?_)))))
 refine OW.pure 3 [(85, .pointer (some ⟨b1, 77, none⟩))] (by kernel_rfl) ?_
 refine OW.ld rfl rfl rfl rfl (by kernel_rfl) (hst.blk 0 rfl rfl) ?_
 refine OW.pure 1 [(87, .agg [.int .i64 1, .int .i64 p0.at_, .int .i64 0, .int .i64 0, .int .u64 0, .int .u64 0, .int .u64 0].toArray)] (by kernel_rfl) ?_
 refine OW.alloc hst rfl rfl rfl [.int .i64 0, .int .i64 0, .int .i64 0, .int .i64 0, .int .u64 0, .int .u64 0, .int .u64 0] (by kernel_rfl) ?_
 intro b103 w104 hst
 refine OW.stB hst 6 rfl rfl rfl rfl rfl (by kernel_rfl) rfl rfl [.int .i64 1, .int .i64 p0.at_, .int .i64 0, .int .i64 0, .int .u64 0, .int .u64 0, .int .u64 0] rfl ?_
 intro w105 hst
 refine OW.nil rfl (QW.next (CW.seq ?_))
 refine CW.plan (by kernel_rfl) ?_
 intro w129 hch130
 have hst := hst.same hch130
 refine OA.pure [0, 1, 2] [(88, .pointer (some ⟨b1, 0, none⟩)), (90, .pointer (some ⟨b1, 77, none⟩))] (by kernel_rfl) ?_
 refine OA.ld (i := 3) rfl (by kernel_rfl) rfl rfl rfl (by kernel_rfl) (hst.blk 0 rfl rfl) ?_
 refine OA.pure [4] [(92, .pointer (some ⟨b1, 0, none⟩))] (by kernel_rfl) ?_
 refine OA.ldN (i := 5) (cs := [.int .i64 x62.Op, .int .i64 x62.D, .int .i64 x62.A, .int .i64 x62.B, .int .i64 x62.Imm]) rfl (by kernel_rfl) rfl rfl rfl (by kernel_rfl) (by kernel_rfl) (hst.blkN 5 rfl 0 5) ?_
 refine OA.act (i := 6) [3] (by kernel_rfl) rfl rfl (by kernel_rfl) (by kernel_rfl) ?_
 have hst := hst.toIt 2 rfl (fun _ => rfl) (by decide)
 have hst := hst.toIt 3 rfl (fun _ => rfl) (by decide)
 obtain ⟨S131, hst⟩ := hst.shutP3 R_t96 rfl 0 2 3 4 [1, 5, 6] rfl rfl rfl rfl rfl (engine_Machine.mk p0.Event p0.module p0.scratch p0.regs p0.turns p0.at_ (w64 (p0.steps + 1)) p0.state) rfl rfl
 obtain ⟨r132, hr133, hF⟩ := bind_some' hF
 refine OW.fn rfl rfl rfl rfl (by kernel_rfl) (engine_Machine_run_ok _ (.pointer (some ⟨b1, 0, none⟩)) S131 (engine_Machine.mk p0.Event p0.module p0.scratch p0.regs p0.turns p0.at_ (w64 (p0.steps + 1)) p0.state) x62 r132 hr133 (hst.part [3] rfl)) ?_
 rintro e w134 ⟨S136, rfl, hst135⟩
 refine ⟨_, rfl, ?_⟩
 have hk137 := engine_Machine_run_keeps_at_ hr133
 have hst := hst.join (idx := [3]) (rest := [0, 1, 2]) rfl hst135
 obtain ⟨v138, S139, v140, S141, v142, S143, hst⟩ := hst.openQ3 0 rfl rfl rfl rfl
 have hst := hst.toRow1 4 rfl
 have hst := hst.toRow1 5 rfl
 obtain ⟨l144, a145, c146, rfl⟩ := hst.len 4 rfl
 obtain ⟨l147, a148, c149, rfl⟩ := hst.len 5 rfl
 obtain ⟨b150, rfl⟩ := hst.fptr 6 rfl
 have hst : St _ _ _ [blkI b1 96 [.int .u64 r132.2.Event.A, .int .u64 r132.2.Event.B, .slice a145 (r132.2.module.Maps).length c146, .slice a148 (r132.2.module.Code).length c149, .pointer (some ⟨b150, 0, none⟩), .int .u64 (r132.2.regs 0), .int .u64 (r132.2.regs 1), .int .u64 (r132.2.regs 2), .int .u64 (r132.2.regs 3), .int .u64 (r132.2.regs 4), .int .u64 (r132.2.regs 5), .int .u64 (r132.2.regs 6), .int .u64 (r132.2.regs 7), .int .i64 (r132.2.turns 0), .int .i64 (r132.2.turns 1), .int .i64 (r132.2.turns 2), .int .i64 (r132.2.turns 3), .int .i64 (r132.2.turns 4), .int .i64 (r132.2.turns 5), .int .i64 (r132.2.turns 6), .int .i64 (r132.2.turns 7), .int .i64 (r132.2.turns 8), .int .i64 (r132.2.turns 9), .int .i64 (r132.2.turns 10), .int .i64 (r132.2.turns 11), .int .i64 (r132.2.turns 12), .int .i64 (r132.2.turns 13), .int .i64 (r132.2.turns 14), .int .i64 (r132.2.turns 15), .int .i64 (r132.2.turns 16), .int .i64 (r132.2.turns 17), .int .i64 (r132.2.turns 18), .int .i64 (r132.2.turns 19), .int .i64 (r132.2.turns 20), .int .i64 (r132.2.turns 21), .int .i64 (r132.2.turns 22), .int .i64 (r132.2.turns 23), .int .i64 (r132.2.turns 24), .int .i64 (r132.2.turns 25), .int .i64 (r132.2.turns 26), .int .i64 (r132.2.turns 27), .int .i64 (r132.2.turns 28), .int .i64 (r132.2.turns 29), .int .i64 (r132.2.turns 30), .int .i64 (r132.2.turns 31), .int .i64 (r132.2.turns 32), .int .i64 (r132.2.turns 33), .int .i64 (r132.2.turns 34), .int .i64 (r132.2.turns 35), .int .i64 (r132.2.turns 36), .int .i64 (r132.2.turns 37), .int .i64 (r132.2.turns 38), .int .i64 (r132.2.turns 39), .int .i64 (r132.2.turns 40), .int .i64 (r132.2.turns 41), .int .i64 (r132.2.turns 42), .int .i64 (r132.2.turns 43), .int .i64 (r132.2.turns 44), .int .i64 (r132.2.turns 45), .int .i64 (r132.2.turns 46), .int .i64 (r132.2.turns 47), .int .i64 (r132.2.turns 48), .int .i64 (r132.2.turns 49), .int .i64 (r132.2.turns 50), .int .i64 (r132.2.turns 51), .int .i64 (r132.2.turns 52), .int .i64 (r132.2.turns 53), .int .i64 (r132.2.turns 54), .int .i64 (r132.2.turns 55), .int .i64 (r132.2.turns 56), .int .i64 (r132.2.turns 57), .int .i64 (r132.2.turns 58), .int .i64 (r132.2.turns 59), .int .i64 (r132.2.turns 60), .int .i64 (r132.2.turns 61), .int .i64 (r132.2.turns 62), .int .i64 (r132.2.turns 63), .int .i64 r132.2.at_, .int .i64 r132.2.steps, .int .i64 r132.2.state], _, _, _, _, _, _] := hst
 refine OA.next ⟨((hst.blk 0 rfl rfl).trans (congrArg some (congrArg (Value.int .i64) hk137))), trivial⟩ ?_
 refine OA.pure [7, 8, 9] [(95, .int .i64 (w64 (p0.at_ + r132.1))), (97, .pointer (some ⟨b1, 77, none⟩))] (by kernel_rfl) ?_
 refine OA.act (i := 10) [] (by kernel_rfl) rfl rfl (by kernel_rfl) (by kernel_rfl) ?_
 refine OW.stB hst 0 rfl rfl rfl rfl rfl (by kernel_rfl) rfl rfl [.int .u64 r132.2.Event.A, .int .u64 r132.2.Event.B, .slice a145 (r132.2.module.Maps).length c146, .slice a148 (r132.2.module.Code).length c149, .pointer (some ⟨b150, 0, none⟩), .int .u64 (r132.2.regs 0), .int .u64 (r132.2.regs 1), .int .u64 (r132.2.regs 2), .int .u64 (r132.2.regs 3), .int .u64 (r132.2.regs 4), .int .u64 (r132.2.regs 5), .int .u64 (r132.2.regs 6), .int .u64 (r132.2.regs 7), .int .i64 (r132.2.turns 0), .int .i64 (r132.2.turns 1), .int .i64 (r132.2.turns 2), .int .i64 (r132.2.turns 3), .int .i64 (r132.2.turns 4), .int .i64 (r132.2.turns 5), .int .i64 (r132.2.turns 6), .int .i64 (r132.2.turns 7), .int .i64 (r132.2.turns 8), .int .i64 (r132.2.turns 9), .int .i64 (r132.2.turns 10), .int .i64 (r132.2.turns 11), .int .i64 (r132.2.turns 12), .int .i64 (r132.2.turns 13), .int .i64 (r132.2.turns 14), .int .i64 (r132.2.turns 15), .int .i64 (r132.2.turns 16), .int .i64 (r132.2.turns 17), .int .i64 (r132.2.turns 18), .int .i64 (r132.2.turns 19), .int .i64 (r132.2.turns 20), .int .i64 (r132.2.turns 21), .int .i64 (r132.2.turns 22), .int .i64 (r132.2.turns 23), .int .i64 (r132.2.turns 24), .int .i64 (r132.2.turns 25), .int .i64 (r132.2.turns 26), .int .i64 (r132.2.turns 27), .int .i64 (r132.2.turns 28), .int .i64 (r132.2.turns 29), .int .i64 (r132.2.turns 30), .int .i64 (r132.2.turns 31), .int .i64 (r132.2.turns 32), .int .i64 (r132.2.turns 33), .int .i64 (r132.2.turns 34), .int .i64 (r132.2.turns 35), .int .i64 (r132.2.turns 36), .int .i64 (r132.2.turns 37), .int .i64 (r132.2.turns 38), .int .i64 (r132.2.turns 39), .int .i64 (r132.2.turns 40), .int .i64 (r132.2.turns 41), .int .i64 (r132.2.turns 42), .int .i64 (r132.2.turns 43), .int .i64 (r132.2.turns 44), .int .i64 (r132.2.turns 45), .int .i64 (r132.2.turns 46), .int .i64 (r132.2.turns 47), .int .i64 (r132.2.turns 48), .int .i64 (r132.2.turns 49), .int .i64 (r132.2.turns 50), .int .i64 (r132.2.turns 51), .int .i64 (r132.2.turns 52), .int .i64 (r132.2.turns 53), .int .i64 (r132.2.turns 54), .int .i64 (r132.2.turns 55), .int .i64 (r132.2.turns 56), .int .i64 (r132.2.turns 57), .int .i64 (r132.2.turns 58), .int .i64 (r132.2.turns 59), .int .i64 (r132.2.turns 60), .int .i64 (r132.2.turns 61), .int .i64 (r132.2.turns 62), .int .i64 (r132.2.turns 63), .int .i64 (w64 (p0.at_ + r132.1)), .int .i64 r132.2.steps, .int .i64 r132.2.state] rfl ?_
 intro w151 hst
 refine OA.next trivial ?_
 refine OA.fin (by kernel_rfl) (by kernel_rfl) (QW.next (CW.seq (CW.region ?_)))
 refine OW.ldN (cs := [.int .i64 1, .int .i64 p0.at_, .int .i64 0, .int .i64 0, .int .u64 0, .int .u64 0, .int .u64 0]) rfl rfl rfl rfl (by kernel_rfl) (by kernel_rfl) (hst.blkN 3 rfl 0 7) ?_
 refine OW.stB hst 1 rfl rfl rfl rfl rfl (by kernel_rfl) rfl rfl [.int .i64 1, .int .i64 p0.at_, .int .i64 0, .int .i64 0, .int .u64 0, .int .u64 0, .int .u64 0] rfl ?_
 intro w153 hst
 refine OW.nil rfl (QW.next (CW.ret ?_))
 have hst := hst.toIt 4 rfl (fun _ => rfl) (by decide)
 have hst := hst.toIt 5 rfl (fun _ => rfl) (by decide)
 obtain ⟨S154, hst⟩ := hst.shutP3 R_t96 rfl 0 4 5 6 [1, 2, 3] rfl rfl rfl rfl rfl (engine_Machine.mk r132.2.Event r132.2.module r132.2.scratch r132.2.regs r132.2.turns (w64 (p0.at_ + r132.1)) r132.2.steps r132.2.state) rfl rfl
 obtain rfl := Option.some.inj hF
 refine QW.ret_c rfl rfl (run_loadN (cs := [.int .i64 1, .int .i64 p0.at_, .int .i64 0, .int .i64 0, .int .u64 0, .int .u64 0, .int .u64 0]) (by kernel_rfl) (by kernel_rfl) (hst.blkN 0 rfl 0 7)) ?_
 exact ⟨S154, rfl, hst.keep [3] rfl⟩
theorem sigs_Value_ok (w : World) (p0 : Int) (p1 : api_Res) (r : Int) (hF : sigs_Value p0 p1 = some r)
    (hst : St w (fp []) w []) :
    Calls Tryz.prog 32 [.int .i64 p0, .agg [.int .i64 p1.E, .bool p1.Found, .int .u64 p1.Val, .bool p1.Out, .int .u64 p1.OutKey, .int .u64 p1.OutVal].toArray].toArray w (fun e w' => e = .returned (.int .u64 r) ∧ St w (fp []) w' []) := by
 refine CW.start (N := 23) Tryz.func32 rfl rfl rfl (CW.seq (CW.region ?_))
 refine OW.box hst rfl rfl rfl rfl [.int .i64 p1.E, .bool p1.Found, .int .u64 p1.Val, .bool p1.Out, .int .u64 p1.OutKey, .int .u64 p1.OutVal] rfl ?_
 intro b3 w4 hst
 refine OW.pure 1 [] (by kernel_rfl) (OW.nil rfl (QW.next (CW.seq (CW.region ?_))))
 refine OW.pure 1 [(5, .bool false)] (by kernel_rfl) (OW.nil rfl (QW.next (CW.seq (CW.seq (CW.region ?_)))))
 refine OW.pure 1 [(6, .int .i64 p0)] (by kernel_rfl) (OW.nil rfl (QW.next (CW.block (CW.seq (CW.seq (CW.region ?_))))))
 refine OW.pure 2 [(7, .bool (p0 == 0))] (by kernel_rfl) (OW.nil rfl (QW.next ?_))
 obtain ⟨o6, ho7, hF⟩ := bind_some' hF
 refine CW.cutK (fun a w1 => Rep 23 [(3, .pointer (some ⟨b3, 0, none⟩)), (5, .bool false), (6, .int .i64 p0), (7, .bool o6)] a ∧ St w (fp []) w1 [blkI b3 45 [.int .i64 p1.E, .bool p1.Found, .int .u64 p1.Val, .bool p1.Out, .int .u64 p1.OutKey, .int .u64 p1.OutVal]]) ?_ ?_
 ·rcases Bool.eq_false_or_eq_true ((p0 == 0)) with hc8 | hc8
  ·have ho7 := ite_t ho7 hc8
   refine CW.cond_t rfl hc8 (CW.skip ?_)
   obtain rfl := Option.some.inj ho7
   exact QW.meet (fun a ha => ⟨ha.agrees (by kernel_rfl), hst.keep [0] rfl⟩)
  have ho7 := ite_f ho7 hc8
  refine CW.cond_f rfl hc8 (CW.region ?_)
  refine OW.pure 2 [(7, .bool (p0 == 4))] (by kernel_rfl) (OW.nil rfl ?_)
  obtain rfl := Option.some.inj ho7
  exact QW.meet (fun a ha => ⟨ha.agrees (by kernel_rfl), hst.keep [0] rfl⟩)
 rintro a w1 ⟨ha, hst⟩
 refine CW.go ?_ ha
 rcases Bool.eq_false_or_eq_true (o6) with hc9 | hc9
 ·have hF := ite_t hF hc9
  refine CW.cond_t rfl hc9 (CW.seq (CW.region ?_))
  refine OW.pure 1 [(10, .pointer (some ⟨b3, 2, none⟩))] (by kernel_rfl) ?_
  refine OW.ld rfl rfl rfl rfl (by kernel_rfl) (hst.blk 0 rfl rfl) ?_
  refine OW.pure 1 [(4, .int .u64 p1.Val)] (by kernel_rfl) (OW.nil rfl (QW.next (CW.ret (QW.block_ret (QW.then_ret ?_)))))
  obtain rfl := Option.some.inj hF
  refine QW.ret1 rfl rfl ?_
  exact ⟨rfl, hst.keep [] rfl⟩
 have hF := ite_f hF hc9
 refine CW.cond_f rfl hc9 (CW.seq (CW.seq (CW.region ?_)))
 refine OW.pure 2 [(12, .bool (p0 == 1))] (by kernel_rfl) (OW.nil rfl (QW.next ?_))
 obtain ⟨o11, ho12, hF⟩ := bind_some' hF
 refine CW.cutK (fun a w1 => Rep 23 [(3, .pointer (some ⟨b3, 0, none⟩)), (5, .bool false), (6, .int .i64 p0), (12, .bool o11)] a ∧ St w (fp []) w1 [blkI b3 45 [.int .i64 p1.E, .bool p1.Found, .int .u64 p1.Val, .bool p1.Out, .int .u64 p1.OutKey, .int .u64 p1.OutVal]]) ?_ ?_
 ·rcases Bool.eq_false_or_eq_true ((p0 == 1)) with hc13 | hc13
  ·have ho12 := ite_t ho12 hc13
   refine CW.cond_t rfl hc13 (CW.skip ?_)
   obtain rfl := Option.some.inj ho12
   exact QW.meet (fun a ha => ⟨ha.agrees (by kernel_rfl), hst.keep [0] rfl⟩)
  have ho12 := ite_f ho12 hc13
  refine CW.cond_f rfl hc13 (CW.region ?_)
  refine OW.pure 2 [(12, .bool (p0 == 3))] (by kernel_rfl) (OW.nil rfl ?_)
  obtain rfl := Option.some.inj ho12
  exact QW.meet (fun a ha => ⟨ha.agrees (by kernel_rfl), hst.keep [0] rfl⟩)
 rintro a w1 ⟨ha, hst⟩
 refine CW.go ?_ ha
 rcases Bool.eq_false_or_eq_true (o11) with hc14 | hc14
 ·have hF := ite_t hF hc14
  refine CW.cond_t rfl hc14 (CW.region ?_)
  refine OW.pure 1 [(15, .pointer (some ⟨b3, 1, none⟩))] (by kernel_rfl) ?_
  refine OW.ld rfl rfl rfl rfl (by kernel_rfl) (hst.blk 0 rfl rfl) ?_
  refine OW.pure 1 [(5, .bool p1.Found)] (by kernel_rfl) (OW.nil rfl (QW.block_normal (QW.next (CW.seq (CW.seq (CW.region ?_))))))
  refine OW.pure 1 [(22, .bool p1.Found)] (by kernel_rfl) (OW.nil rfl (QW.next ?_))
  rcases Bool.eq_false_or_eq_true (p1.Found) with hc15 | hc15
  ·have hF := ite_t hF hc15
   refine CW.cond_t rfl hc15 (CW.seq (CW.region ?_))
   refine OW.pure 1 [(4, .int .u64 1)] (by kernel_rfl) (OW.nil rfl (QW.next (CW.ret (QW.then_ret ?_))))
   obtain rfl := Option.some.inj hF
   refine QW.ret1 rfl rfl ?_
   exact ⟨rfl, hst.keep [] rfl⟩
  have hF := ite_f hF hc15
  refine CW.cond_f rfl hc15 (CW.skip (QW.next (CW.seq (CW.region ?_))))
  refine OW.pure 1 [(4, .int .u64 0)] (by kernel_rfl) (OW.nil rfl (QW.next (CW.ret ?_)))
  obtain rfl := Option.some.inj hF
  refine QW.ret1 rfl rfl ?_
  exact ⟨rfl, hst.keep [] rfl⟩
 have hF := ite_f hF hc14
 refine CW.cond_f rfl hc14 (CW.seq (CW.region ?_))
 refine OW.pure 2 [(17, .bool (p0 == 2))] (by kernel_rfl) (OW.nil rfl (QW.next ?_))
 rcases Bool.eq_false_or_eq_true ((p0 == 2)) with hc16 | hc16
 ·have hF := ite_t hF hc16
  refine CW.cond_t rfl hc16 (CW.region ?_)
  refine OW.pure 1 [(19, .pointer (some ⟨b3, 0, none⟩))] (by kernel_rfl) ?_
  refine OW.ld rfl rfl rfl rfl (by kernel_rfl) (hst.blk 0 rfl rfl) ?_
  refine OW.pure 2 [(5, .bool (p1.E == 0))] (by kernel_rfl) (OW.nil rfl (QW.block_normal (QW.next (CW.seq (CW.seq (CW.region ?_))))))
  refine OW.pure 1 [(22, .bool (p1.E == 0))] (by kernel_rfl) (OW.nil rfl (QW.next ?_))
  rcases Bool.eq_false_or_eq_true ((p1.E == 0)) with hc17 | hc17
  ·have hF := ite_t hF hc17
   refine CW.cond_t rfl hc17 (CW.seq (CW.region ?_))
   refine OW.pure 1 [(4, .int .u64 1)] (by kernel_rfl) (OW.nil rfl (QW.next (CW.ret (QW.then_ret ?_))))
   obtain rfl := Option.some.inj hF
   refine QW.ret1 rfl rfl ?_
   exact ⟨rfl, hst.keep [] rfl⟩
  have hF := ite_f hF hc17
  refine CW.cond_f rfl hc17 (CW.skip (QW.next (CW.seq (CW.region ?_))))
  refine OW.pure 1 [(4, .int .u64 0)] (by kernel_rfl) (OW.nil rfl (QW.next (CW.ret ?_)))
  obtain rfl := Option.some.inj hF
  refine QW.ret1 rfl rfl ?_
  exact ⟨rfl, hst.keep [] rfl⟩
 have hF := ite_f hF hc16
 refine CW.cond_f rfl hc16 (CW.skip (QW.block_normal (QW.next (CW.seq (CW.seq (CW.region ?_))))))
 refine OW.pure 1 [(22, .bool false)] (by kernel_rfl) (OW.nil rfl (QW.next (CW.cond_f rfl rfl (CW.skip (QW.next (CW.seq (CW.region ?_)))))))
 refine OW.pure 1 [(4, .int .u64 0)] (by kernel_rfl) (OW.nil rfl (QW.next (CW.ret ?_)))
 obtain rfl := Option.some.inj hF
 refine QW.ret1 rfl rfl ?_
 exact ⟨rfl, hst.keep [] rfl⟩
end Go.Proofs.YtgmmfjpmahcocaaGreatDoor

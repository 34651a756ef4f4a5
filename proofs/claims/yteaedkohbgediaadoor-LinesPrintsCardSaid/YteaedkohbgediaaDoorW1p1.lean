/- Written by a program (wip/gen): the walks: each Go function returns what its plain function computes. -/
import Derived.Test.YteaedkohbgediaaDoorProg
import Derived.Test.YteaedkohbgediaaDoorF1
import Derived.Test.YteaedkohbgediaaDoorOpen
import Derived.Test.YteaedkohbgediaaDoorPart
import Derived.Test.YteaedkohbgediaaDoorExt
import Derived.Test.YteaedkohbgediaaDoorSh
import Derived.Test.YteaedkohbgediaaDoorBld
namespace Go.Proofs.YteaedkohbgediaaDoor
open Go.Sx
set_option linter.unusedVariables false

theorem el9 : Elem Tryd.prog 9 1 16 := Elem.of (i := Tryd.t9) (by kernel_rfl) (by kernel_rfl) (by kernel_rfl) (by kernel_rfl) (by kernel_rfl) (by decide) (by decide)

theorem el32 : Elem Tryd.prog 32 5 40 := Elem.of (i := Tryd.t32) (by kernel_rfl) (by kernel_rfl) (by kernel_rfl) (by kernel_rfl) (by kernel_rfl) (by decide) (by decide)

theorem el5 : Elem Tryd.prog 5 1 1 := Elem.of (i := Tryd.t5) (by kernel_rfl) (by kernel_rfl) (by kernel_rfl) (by kernel_rfl) (by kernel_rfl) (by decide) (by decide)

set_option maxRecDepth 10000 in
set_option maxHeartbeats 4000000 in
theorem ops_of_ok (w : World) (p0 : Int) (r : ops_form × Bool) (hF : ops_of p0 = some r)
    (hst : St w (fp []) w []) (hT0 : Rd w (fp []) (.slice (some ⟨0, 0, none⟩) 23 23) enc_ops_form 2 tab_g0) :
    Calls Tryd.prog 48 [.int .i64 p0].toArray w (fun e w' => e = .returned (.tuple #[.agg [.string r.1.name, .string r.1.fields].toArray, .bool r.2]) ∧ St w (fp []) w' []) := by
 refine CW.start (N := 14) Tryd.func48 rfl rfl rfl ?_
 refine CW.seq ?_
 refine CW.region ?_
 refine OW.alloc hst rfl rfl rfl [.string ByteArray.empty, .string ByteArray.empty] (by kernel_rfl) ?_
 intro b3 w4 hst
 refine OW.pure 1 [] (by kernel_rfl) ?_
 refine OW.nil rfl ?_
 refine QW.next ?_
 refine CW.seq ?_
 refine CW.seq ?_
 refine CW.cutK (fun a w1 => Rep 14 [(0, .int .i64 p0), (2, .pointer (some ⟨b3, 0, none⟩)), (9, .bool (decide (p0 < 0) || decide (p0 ≥ 23)))] a ∧ St w (fp []) w1 [blkI b3 79 [.string ByteArray.empty, .string ByteArray.empty]]) ?_ ?_
 ·refine CW.region ?_
  refine OW.pure 3 [(6, .bool (decide (p0 < 0)))] (by kernel_rfl) ?_
  refine OW.split 6 rfl (fun hc5 => ?_) (fun hc5 => ?_)
  ·refine OW.pure 3 [(9, .bool true)] (by kernel_rfl) ?_
   refine OW.nil rfl ?_
   refine QW.say 9 (v := .bool (decide (p0 < 0) || decide (p0 ≥ 23))) rfl (by first | (rw [hc5]; done) | (rw [hc5]; rfl) | simp [hc5]) ?_
   exact QW.meet (fun a ha => ⟨ha.agrees (by kernel_rfl), hst.keep [0] rfl⟩)
  ·refine OW.pure 3 [(9, .bool (decide (p0 ≥ 23)))] (by kernel_rfl) ?_
   refine OW.nil rfl ?_
   refine QW.say 9 (v := .bool (decide (p0 < 0) || decide (p0 ≥ 23))) rfl (by first | (rw [hc5]; done) | (rw [hc5]; rfl) | simp [hc5]) ?_
   exact QW.meet (fun a ha => ⟨ha.agrees (by kernel_rfl), hst.keep [0] rfl⟩)
 ·rintro a w1 ⟨ha, hst⟩
  refine CW.go ?_ ha
  rcases Bool.eq_false_or_eq_true ((decide (p0 < 0) || decide (p0 ≥ 23))) with hc6 | hc6
  ·have hF := ite_t hF hc6
   refine CW.cond_t rfl hc6 ?_
   refine CW.seq ?_
   refine CW.region ?_
   refine OW.pure 1 [(10, .agg [.string ByteArray.empty, .string ByteArray.empty].toArray)] (by kernel_rfl) ?_
   refine OW.stB hst 0 rfl rfl rfl rfl rfl (by kernel_rfl) rfl rfl [.string ByteArray.empty, .string ByteArray.empty] rfl ?_
   intro w8 hst
   refine OW.pure 1 [(3, .bool false)] (by kernel_rfl) ?_
   refine OW.nil rfl ?_
   refine QW.next ?_
   refine CW.ret ?_
   refine QW.then_ret ?_
   obtain rfl := Option.some.inj hF
   refine QW.ret_ct rfl rfl (run_loadN (cs := [.string ByteArray.empty, .string ByteArray.empty]) (by kernel_rfl) (by kernel_rfl) (hst.blkN 0 rfl 0 2)) rfl ?_
   exact ⟨rfl, hst.keep [] rfl⟩
  ·have hF := ite_f hF hc6
   refine CW.cond_f rfl hc6 ?_
   refine CW.skip ?_
   refine QW.next ?_
   refine CW.seq ?_
   refine CW.region ?_
   refine OW.pure 1 [(11, .int .i64 p0)] (by kernel_rfl) ?_
   obtain ⟨x12, hx13, hF⟩ := bind_some' hF
   refine OW.op (v := .pointer (some ⟨0, 0 + Int.toNat p0 * 2, none⟩)) rfl rfl rfl rfl (fun a ha => aidx_run (n := tab_g0.length) 79 2 rfl rfl rfl (idx_some hx13).1 (idx_some hx13).2.1 (by kernel_rfl) (by kernel_rfl) a _ ha) ?_
   refine OW.ldN (cs := enc_ops_form x12) rfl rfl rfl rfl (by kernel_rfl) (by kernel_rfl) (hT0.cellv hst hx13 (show Value.slice (some ⟨0, 0, none⟩) 23 23 = .slice (some ⟨0, 0, none⟩) tab_g0.length 23 from rfl)) ?_
   refine OW.stB hst 0 rfl rfl rfl rfl rfl (by kernel_rfl) rfl rfl [.string x12.name, .string x12.fields] rfl ?_
   intro w14 hst
   refine OW.pure 1 [(3, .bool true)] (by kernel_rfl) ?_
   refine OW.nil rfl ?_
   refine QW.next ?_
   refine CW.ret ?_
   obtain rfl := Option.some.inj hF
   refine QW.ret_ct rfl rfl (run_loadN (cs := [.string x12.name, .string x12.fields]) (by kernel_rfl) (by kernel_rfl) (hst.blkN 0 rfl 0 2)) rfl ?_
   exact ⟨rfl, hst.keep [] rfl⟩

set_option maxRecDepth 10000 in
set_option maxHeartbeats 4000000 in
theorem ops_register_ok (w : World) (p0 : Int) (r : Bool) (hF : ops_register p0 = some r)
    (hst : St w (fp []) w []) :
    Calls Tryd.prog 49 [.int .i64 p0].toArray w (fun e w' => e = .returned (.bool r) ∧ St w (fp []) w' []) := by
 refine CW.start (N := 9) Tryd.func49 rfl rfl rfl ?_
 refine CW.seq ?_
 refine CW.region ?_
 refine OW.pure 1 [] (by kernel_rfl) ?_
 refine OW.nil rfl ?_
 refine QW.next ?_
 refine CW.seq ?_
 refine CW.cutK (fun a w1 => Rep 9 [(2, .bool (decide (p0 ≥ 0) && decide (p0 < 8)))] a ∧ St w (fp []) w1 []) ?_ ?_
 ·refine CW.region ?_
  refine OW.pure 3 [(5, .bool (decide (p0 ≥ 0)))] (by kernel_rfl) ?_
  refine OW.split 5 rfl (fun hc1 => ?_) (fun hc1 => ?_)
  ·refine OW.pure 4 [(2, .bool (decide (p0 < 8)))] (by kernel_rfl) ?_
   refine OW.nil rfl ?_
   refine QW.say 2 (v := .bool (decide (p0 ≥ 0) && decide (p0 < 8))) rfl (by first | (rw [hc1]; done) | (rw [hc1]; rfl) | simp [hc1]) ?_
   exact QW.meet (fun a ha => ⟨ha.agrees (by kernel_rfl), hst.keep [] rfl⟩)
  ·refine OW.pure 4 [(2, .bool false)] (by kernel_rfl) ?_
   refine OW.nil rfl ?_
   refine QW.say 2 (v := .bool (decide (p0 ≥ 0) && decide (p0 < 8))) rfl (by first | (rw [hc1]; done) | (rw [hc1]; rfl) | simp [hc1]) ?_
   exact QW.meet (fun a ha => ⟨ha.agrees (by kernel_rfl), hst.keep [] rfl⟩)
 ·rintro a w1 ⟨ha, hst⟩
  refine CW.go ?_ ha
  refine CW.ret ?_
  obtain rfl := Option.some.inj hF
  refine QW.ret1 rfl rfl ?_
  exact ⟨rfl, hst.keep [] rfl⟩

set_option maxRecDepth 10000 in
set_option maxHeartbeats 4000000 in
theorem ops_within_ok (w : World) (p0 : Int) (p1 : Int) (p2 : Int) (r : Bool) (hF : ops_within p0 p1 p2 = some r)
    (hst : St w (fp []) w []) :
    Calls Tryd.prog 50 [.int .i64 p0, .int .i64 p1, .int .i64 p2].toArray w (fun e w' => e = .returned (.bool r) ∧ St w (fp []) w' []) := by
 refine CW.start (N := 15) Tryd.func50 rfl rfl rfl ?_
 refine CW.seq ?_
 refine CW.region ?_
 refine OW.pure 1 [] (by kernel_rfl) ?_
 refine OW.nil rfl ?_
 refine QW.next ?_
 refine CW.seq ?_
 refine CW.cutK (fun a w1 => Rep 15 [(6, .bool (decide (p0 ≥ p1) && decide (p0 ≤ p2)))] a ∧ St w (fp []) w1 []) ?_ ?_
 ·refine CW.region ?_
  refine OW.pure 4 [(10, .bool (decide (p0 ≥ p1)))] (by kernel_rfl) ?_
  refine OW.split 10 rfl (fun hc1 => ?_) (fun hc1 => ?_)
  ·refine OW.pure 5 [(6, .bool (decide (p0 ≤ p2)))] (by kernel_rfl) ?_
   refine OW.nil rfl ?_
   refine QW.say 6 (v := .bool (decide (p0 ≥ p1) && decide (p0 ≤ p2))) rfl (by first | (rw [hc1]; done) | (rw [hc1]; rfl) | simp [hc1]) ?_
   exact QW.meet (fun a ha => ⟨ha.agrees (by kernel_rfl), hst.keep [] rfl⟩)
  ·refine OW.pure 5 [(6, .bool false)] (by kernel_rfl) ?_
   refine OW.nil rfl ?_
   refine QW.say 6 (v := .bool (decide (p0 ≥ p1) && decide (p0 ≤ p2))) rfl (by first | (rw [hc1]; done) | (rw [hc1]; rfl) | simp [hc1]) ?_
   exact QW.meet (fun a ha => ⟨ha.agrees (by kernel_rfl), hst.keep [] rfl⟩)
 ·rintro a w1 ⟨ha, hst⟩
  refine CW.go ?_ ha
  refine CW.ret ?_
  obtain rfl := Option.some.inj hF
  refine QW.ret1 rfl rfl ?_
  exact ⟨rfl, hst.keep [] rfl⟩

set_option maxRecDepth 10000 in
set_option maxHeartbeats 4000000 in
theorem ops_right_ok (w : World) (p0 : api_Inst) (r : Bool) (hF : ops_right p0 = some r)
    (hst : St w (fp []) w []) (hT0 : Rd w (fp []) (.slice (some ⟨0, 0, none⟩) 23 23) enc_ops_form 2 tab_g0) :
    Calls Tryd.prog 24 [.agg [.int .i64 p0.Op, .int .i64 p0.D, .int .i64 p0.A, .int .i64 p0.B, .int .i64 p0.Imm].toArray].toArray w (fun e w' => e = .returned (.bool r) ∧ St w (fp []) w' []) := by
 refine CW.start (N := 129) Tryd.func24 rfl rfl rfl ?_
 refine CW.seq ?_
 refine CW.region ?_
 refine OW.box hst rfl rfl rfl rfl [.int .i64 p0.Op, .int .i64 p0.D, .int .i64 p0.A, .int .i64 p0.B, .int .i64 p0.Imm] rfl ?_
 intro b3 w4 hst
 refine OW.pure 1 [] (by kernel_rfl) ?_
 refine OW.nil rfl ?_
 refine QW.next ?_
 refine CW.seq ?_
 refine CW.region ?_
 refine OW.pure 1 [(8, .pointer (some ⟨b3, 0, none⟩))] (by kernel_rfl) ?_
 refine OW.ld rfl rfl rfl rfl (by kernel_rfl) (hst.blk 0 rfl rfl) ?_
 obtain ⟨r12, hr13, hF⟩ := bind_some' hF
 refine OW.fn rfl rfl rfl rfl (by kernel_rfl) (ops_of_ok _ p0.Op r12 hr13 (hst.part [] rfl) (hT0.give hst [])) ?_
 rintro e w14 ⟨rfl, hst15⟩
 refine ⟨_, rfl, ?_⟩
 have hst := hst.join (idx := []) (rest := [0]) rfl hst15
 refine OW.pure 3 [(11, .agg [.string r12.1.name, .string r12.1.fields].toArray), (12, .bool r12.2)] (by kernel_rfl) ?_
 refine OW.alloc hst rfl rfl rfl [.string ByteArray.empty, .string ByteArray.empty] (by kernel_rfl) ?_
 intro b16 w17 hst
 refine OW.stB hst 1 rfl rfl rfl rfl rfl (by kernel_rfl) rfl rfl [.string r12.1.name, .string r12.1.fields] rfl ?_
 intro w18 hst
 refine OW.pure 1 [(4, .bool r12.2)] (by kernel_rfl) ?_
 refine OW.nil rfl ?_
 refine QW.next ?_
 refine CW.seq ?_
 refine CW.seq ?_
 refine CW.region ?_
 refine OW.pure 2 [(14, .bool (!r12.2))] (by kernel_rfl) ?_
 refine OW.nil rfl ?_
 refine QW.next ?_
 rcases Bool.eq_false_or_eq_true ((!r12.2)) with hc19 | hc19
 ·have hF := ite_t hF hc19
  refine CW.cond_t rfl hc19 ?_
  refine CW.seq ?_
  refine CW.region ?_
  refine OW.pure 1 [(2, .bool false)] (by kernel_rfl) ?_
  refine OW.nil rfl ?_
  refine QW.next ?_
  refine CW.ret ?_
  refine QW.then_ret ?_
  obtain rfl := Option.some.inj hF
  refine QW.ret1 rfl rfl ?_
  exact ⟨rfl, hst.keep [] rfl⟩
 ·have hF := ite_f hF hc19
  refine CW.cond_f rfl hc19 ?_
  refine CW.skip ?_
  refine QW.next ?_
  refine CW.seq ?_
  refine CW.region ?_
  refine OW.alloc hst rfl rfl rfl [.int .i64 0, .int .i64 0, .int .i64 0, .int .i64 0, .int .i64 0] (by kernel_rfl) ?_
  intro b22 w23 hst
  refine OW.nil rfl ?_
  refine QW.next ?_
  refine CW.seq ?_
  refine CW.plan (by kernel_rfl) ?_
  intro w30 hch31
  have hst := hst.same hch31
  refine OA.pure [0] [(15, .pointer (some ⟨b3, 1, none⟩))] (by kernel_rfl) ?_
  refine OA.ld (i := 1) rfl (by kernel_rfl) rfl rfl rfl (by kernel_rfl) (hst.blk 0 rfl rfl) ?_
  refine OA.pure [2] [(17, .pointer (some ⟨b3, 2, none⟩))] (by kernel_rfl) ?_
  refine OA.ld (i := 3) rfl (by kernel_rfl) rfl rfl rfl (by kernel_rfl) (hst.blk 0 rfl rfl) ?_
  refine OA.pure [4] [(19, .pointer (some ⟨b3, 3, none⟩))] (by kernel_rfl) ?_
  refine OA.ld (i := 5) rfl (by kernel_rfl) rfl rfl rfl (by kernel_rfl) (hst.blk 0 rfl rfl) ?_
  refine OA.pure [6] [(21, .pointer (some ⟨b3, 4, none⟩))] (by kernel_rfl) ?_
  refine OA.ld (i := 7) rfl (by kernel_rfl) rfl rfl rfl (by kernel_rfl) (hst.blk 0 rfl rfl) ?_
  refine OA.pure [8] [(23, .pointer (some ⟨b22, 1, none⟩))] (by kernel_rfl) ?_
  refine OA.act (i := 9) [7, 5, 3] (by kernel_rfl) rfl rfl (by kernel_rfl) (by kernel_rfl) ?_
  refine OW.stB hst 2 rfl rfl rfl rfl rfl (by kernel_rfl) rfl rfl [.int .i64 0, .int .i64 p0.D, .int .i64 0, .int .i64 0, .int .i64 0] rfl ?_
  intro w32 hst
  refine OA.next ⟨(hst.blk 0 rfl rfl), (hst.blk 0 rfl rfl), (hst.blk 0 rfl rfl), trivial⟩ ?_
  refine OA.pure [10] [(24, .pointer (some ⟨b22, 2, none⟩))] (by kernel_rfl) ?_
  refine OA.act (i := 11) [7, 5] (by kernel_rfl) rfl rfl (by kernel_rfl) (by kernel_rfl) ?_
  refine OW.stB hst 2 rfl rfl rfl rfl rfl (by kernel_rfl) rfl rfl [.int .i64 0, .int .i64 p0.D, .int .i64 p0.A, .int .i64 0, .int .i64 0] rfl ?_
  intro w33 hst
  refine OA.next ⟨(hst.blk 0 rfl rfl), (hst.blk 0 rfl rfl), trivial⟩ ?_
  refine OA.pure [12] [(25, .pointer (some ⟨b22, 3, none⟩))] (by kernel_rfl) ?_
  refine OA.act (i := 13) [7] (by kernel_rfl) rfl rfl (by kernel_rfl) (by kernel_rfl) ?_
  refine OW.stB hst 2 rfl rfl rfl rfl rfl (by kernel_rfl) rfl rfl [.int .i64 0, .int .i64 p0.D, .int .i64 p0.A, .int .i64 p0.B, .int .i64 0] rfl ?_
  intro w34 hst
  refine OA.next ⟨(hst.blk 0 rfl rfl), trivial⟩ ?_
  refine OA.pure [14] [(26, .pointer (some ⟨b22, 4, none⟩))] (by kernel_rfl) ?_
  refine OA.act (i := 15) [] (by kernel_rfl) rfl rfl (by kernel_rfl) (by kernel_rfl) ?_
  refine OW.stB hst 2 rfl rfl rfl rfl rfl (by kernel_rfl) rfl rfl [.int .i64 0, .int .i64 p0.D, .int .i64 p0.A, .int .i64 p0.B, .int .i64 p0.Imm] rfl ?_
  intro w35 hst
  refine OA.next trivial ?_
  refine OA.fin (by kernel_rfl) (by kernel_rfl) ?_
  refine QW.next ?_
  refine CW.seq ?_
  refine CW.seq ?_
  refine CW.region ?_
  refine OW.pure 1 [(27, .pointer (some ⟨b16, 1, none⟩))] (by kernel_rfl) ?_
  refine OW.ld rfl rfl rfl rfl (by kernel_rfl) (hst.blk 1 rfl rfl) ?_
  refine OW.pure 2 [(29, .int .i64 (r12.1.fields.size : Int)), (30, .int .i64 0)] (by kernel_rfl) ?_
  refine OW.nil rfl ?_
  refine QW.next ?_
  obtain ⟨o364, ho365, hF⟩ := bind_some' hF
  refine CW.cutK (fun a w1 => Rep 129 [(4, .bool o364.1), (5, .pointer (some ⟨b22, 0, none⟩))] a ∧ St w (fp []) w1 [blkI b22 32 [.int .i64 o364.2.Op, .int .i64 o364.2.D, .int .i64 o364.2.A, .int .i64 o364.2.B, .int .i64 o364.2.Imm]]) ?_ ?_
  ·refine CW.block ?_
   obtain ⟨u612, hr613, ho365⟩ := bind_some' ho365
   refine CW.loop (fun n a w1 => ∃ (i610 : Nat) (s609 : Bool × api_Inst), i610 + n = r12.1.fields.size ∧ Rep 129 [(1, .pointer (some ⟨b3, 0, none⟩)), (3, .pointer (some ⟨b16, 0, none⟩)), (4, .bool s609.1), (5, .pointer (some ⟨b22, 0, none⟩)), (29, .int .i64 (r12.1.fields.size : Int)), (30, .int .i64 (i610 : Int))] a ∧ St w (fp []) w1 [blkI b3 32 [.int .i64 p0.Op, .int .i64 p0.D, .int .i64 p0.A, .int .i64 p0.B, .int .i64 p0.Imm], blkI b16 79 [.string r12.1.name, .string r12.1.fields], blkI b22 32 [.int .i64 s609.2.Op, .int .i64 s609.2.D, .int .i64 s609.2.A, .int .i64 s609.2.B, .int .i64 s609.2.Imm]] ∧ forN (ops_right_l1 p0 r12) (fun (s609 : Bool × api_Inst) => (s609.1, s609.2)) n i610 s609 = some o364) r12.1.fields.size (fun a ha => ⟨0, (r12.2, (api_Inst.mk 0 p0.D p0.A p0.B p0.Imm)), Nat.zero_add _, ha.agrees (by kernel_rfl), hst.keep [0, 1, 2] rfl, ho365⟩) ?_
   rintro n607 a w1 ⟨i610, s609, hi611, ha, hst, hl608⟩
   refine CW.go ?_ ha
   refine CW.seq ?_
   refine CW.region ?_
   refine OW.pure 1 [(31, .bool (decide ((i610 : Int) < (r12.1.fields.size : Int))))] (by kernel_rfl) ?_
   refine OW.nil rfl ?_
   refine QW.next ?_
   refine CW.seq ?_
   rcases Bool.eq_false_or_eq_true (decide ((i610 : Int) < (r12.1.fields.size : Int))) with hc614 | hc614
   ·rcases n607 with _ | n607
    ·exact (cnt0 hi611 hc614).elim
    refine CW.cond_t rfl hc614 ?_
    refine CW.skip ?_
    refine QW.next ?_
    refine CW.seq ?_
    refine CW.block ?_
    refine CW.seq ?_
    refine CW.region ?_
    refine OW.pure 2 [(6, .int .i64 (i610 : Int))] (by kernel_rfl) ?_
    refine OW.nil rfl ?_
    refine QW.next ?_
    refine CW.seq ?_
    refine CW.region ?_
    refine OW.pure 1 [(33, .pointer (some ⟨b16, 1, none⟩))] (by kernel_rfl) ?_
    refine OW.ld rfl rfl rfl rfl (by kernel_rfl) (hst.blk 1 rfl rfl) ?_
    refine OW.pure 1 [(35, .int .i64 (i610 : Int))] (by kernel_rfl) ?_
    obtain ⟨c617, hx618, hl608⟩ := bind_some' hl608
    refine OW.op (v := .int .u8 c617) rfl rfl rfl rfl (fun a ha => sidx_run rfl rfl rfl (by kernel_rfl) hx618 a _ ha) ?_
    refine OW.nil rfl ?_
    refine QW.next ?_
    refine CW.block ?_
    refine CW.seq ?_
    refine CW.region ?_
    refine OW.pure 2 [(37, .bool (c617 == 100))] (by kernel_rfl) ?_
    refine OW.nil rfl ?_
    refine QW.next ?_
    rcases Bool.eq_false_or_eq_true ((c617 == 100)) with hc619 | hc619
    ·have hl608 := ite_t hl608 hc619
     refine CW.cond_t rfl hc619 ?_
     refine CW.region ?_
     refine OW.pure 2 [(40, .bool s609.1)] (by kernel_rfl) ?_
     refine OW.split 40 rfl (fun hc620 => ?_) (fun hc620 => ?_)
     ·have hl608 := ite_t hl608 hc620
      refine OW.pure 1 [(41, .pointer (some ⟨b3, 1, none⟩))] (by kernel_rfl) ?_
      refine OW.ld rfl rfl rfl rfl (by kernel_rfl) (hst.blk 0 rfl rfl) ?_
      obtain ⟨r621, hr622, hl608⟩ := bind_some' hl608
      refine OW.fn rfl rfl rfl rfl (by kernel_rfl) (ops_register_ok _ p0.D r621 hr622 (hst.part [] rfl)) ?_
      rintro e w623 ⟨rfl, hst624⟩
      refine ⟨_, rfl, ?_⟩
      have hst := hst.join (idx := []) (rest := [0, 1, 2]) rfl hst624
      refine OW.pure 3 [(4, .bool r621), (45, .pointer (some ⟨b22, 1, none⟩))] (by kernel_rfl) ?_
      refine OW.stB hst 2 rfl rfl rfl rfl rfl (by kernel_rfl) rfl rfl [.int .i64 s609.2.Op, .int .i64 0, .int .i64 s609.2.A, .int .i64 s609.2.B, .int .i64 s609.2.Imm] rfl ?_
      intro w625 hst
      refine OW.nil rfl ?_
      refine QW.block_normal ?_
      refine QW.block_normal ?_
      refine QW.next ?_
      refine CW.region ?_
      refine OW.pure 2 [(30, .int .i64 (w64 ((i610 : Int) + 1)))] (by kernel_rfl) ?_
      refine OW.nil rfl ?_
      refine QW.say 30 rfl (congrArg (Value.int .i64) (w64_cnt hc614 (room_sz hr613))) ?_
      exact QW.meet (fun a ha => ⟨n607, Nat.lt_succ_self _, i610 + 1, (r621, (api_Inst.mk s609.2.Op 0 s609.2.A s609.2.B s609.2.Imm)), cnt_next hi611, ha.agrees (by kernel_rfl), hst.keep [0, 1, 2] rfl, hl608⟩)
     ·have hl608 := ite_f hl608 hc620
      refine OW.pure 6 [(4, .bool false), (45, .pointer (some ⟨b22, 1, none⟩))] (by kernel_rfl) ?_
      refine OW.stB hst 2 rfl rfl rfl rfl rfl (by kernel_rfl) rfl rfl [.int .i64 s609.2.Op, .int .i64 0, .int .i64 s609.2.A, .int .i64 s609.2.B, .int .i64 s609.2.Imm] rfl ?_
      intro w626 hst
      refine OW.nil rfl ?_
      refine QW.block_normal ?_
      refine QW.block_normal ?_
      refine QW.next ?_
      refine CW.region ?_
      refine OW.pure 2 [(30, .int .i64 (w64 ((i610 : Int) + 1)))] (by kernel_rfl) ?_
      refine OW.nil rfl ?_
      refine QW.say 30 rfl (congrArg (Value.int .i64) (w64_cnt hc614 (room_sz hr613))) ?_
      exact QW.meet (fun a ha => ⟨n607, Nat.lt_succ_self _, i610 + 1, (false, (api_Inst.mk s609.2.Op 0 s609.2.A s609.2.B s609.2.Imm)), cnt_next hi611, ha.agrees (by kernel_rfl), hst.keep [0, 1, 2] rfl, hl608⟩)
    ·have hl608 := ite_f hl608 hc619
     refine CW.cond_f rfl hc619 ?_
     refine CW.seq ?_
     refine CW.region ?_
     refine OW.pure 2 [(46, .bool (c617 == 97))] (by kernel_rfl) ?_
     refine OW.nil rfl ?_
     refine QW.next ?_
     rcases Bool.eq_false_or_eq_true ((c617 == 97)) with hc627 | hc627
     ·have hl608 := ite_t hl608 hc627
      refine CW.cond_t rfl hc627 ?_
      refine CW.region ?_
      refine OW.pure 2 [(49, .bool s609.1)] (by kernel_rfl) ?_
      refine OW.split 49 rfl (fun hc628 => ?_) (fun hc628 => ?_)
      ·have hl608 := ite_t hl608 hc628
       refine OW.pure 1 [(50, .pointer (some ⟨b3, 2, none⟩))] (by kernel_rfl) ?_
       refine OW.ld rfl rfl rfl rfl (by kernel_rfl) (hst.blk 0 rfl rfl) ?_
       obtain ⟨r629, hr630, hl608⟩ := bind_some' hl608
       refine OW.fn rfl rfl rfl rfl (by kernel_rfl) (ops_register_ok _ p0.A r629 hr630 (hst.part [] rfl)) ?_
       rintro e w631 ⟨rfl, hst632⟩
       refine ⟨_, rfl, ?_⟩
       have hst := hst.join (idx := []) (rest := [0, 1, 2]) rfl hst632
       refine OW.pure 3 [(4, .bool r629), (54, .pointer (some ⟨b22, 2, none⟩))] (by kernel_rfl) ?_
       refine OW.stB hst 2 rfl rfl rfl rfl rfl (by kernel_rfl) rfl rfl [.int .i64 s609.2.Op, .int .i64 s609.2.D, .int .i64 0, .int .i64 s609.2.B, .int .i64 s609.2.Imm] rfl ?_
       intro w633 hst
       refine OW.nil rfl ?_
       refine QW.block_normal ?_
       refine QW.block_normal ?_
       refine QW.next ?_
       refine CW.region ?_
       refine OW.pure 2 [(30, .int .i64 (w64 ((i610 : Int) + 1)))] (by kernel_rfl) ?_
       refine OW.nil rfl ?_
       refine QW.say 30 rfl (congrArg (Value.int .i64) (w64_cnt hc614 (room_sz hr613))) ?_
       exact QW.meet (fun a ha => ⟨n607, Nat.lt_succ_self _, i610 + 1, (r629, (api_Inst.mk s609.2.Op s609.2.D 0 s609.2.B s609.2.Imm)), cnt_next hi611, ha.agrees (by kernel_rfl), hst.keep [0, 1, 2] rfl, hl608⟩)
      ·have hl608 := ite_f hl608 hc628
       refine OW.pure 6 [(4, .bool false), (54, .pointer (some ⟨b22, 2, none⟩))] (by kernel_rfl) ?_
       refine OW.stB hst 2 rfl rfl rfl rfl rfl (by kernel_rfl) rfl rfl [.int .i64 s609.2.Op, .int .i64 s609.2.D, .int .i64 0, .int .i64 s609.2.B, .int .i64 s609.2.Imm] rfl ?_
       intro w634 hst
       refine OW.nil rfl ?_
       refine QW.block_normal ?_
       refine QW.block_normal ?_
       refine QW.next ?_
       refine CW.region ?_
       refine OW.pure 2 [(30, .int .i64 (w64 ((i610 : Int) + 1)))] (by kernel_rfl) ?_
       refine OW.nil rfl ?_
       refine QW.say 30 rfl (congrArg (Value.int .i64) (w64_cnt hc614 (room_sz hr613))) ?_
       exact QW.meet (fun a ha => ⟨n607, Nat.lt_succ_self _, i610 + 1, (false, (api_Inst.mk s609.2.Op s609.2.D 0 s609.2.B s609.2.Imm)), cnt_next hi611, ha.agrees (by kernel_rfl), hst.keep [0, 1, 2] rfl, hl608⟩)
     ·have hl608 := ite_f hl608 hc627
      refine CW.cond_f rfl hc627 ?_
      refine CW.seq ?_
      refine CW.region ?_
      refine OW.pure 2 [(55, .bool (c617 == 115))] (by kernel_rfl) ?_
      refine OW.nil rfl ?_
      refine QW.next ?_
      rcases Bool.eq_false_or_eq_true ((c617 == 115)) with hc635 | hc635
      ·have hl608 := ite_t hl608 hc635
       refine CW.cond_t rfl hc635 ?_
       refine CW.seq ?_
       refine CW.region ?_
       refine OW.pure 1 [(57, .pointer (some ⟨b22, 3, none⟩))] (by kernel_rfl) ?_
       refine OW.stB hst 2 rfl rfl rfl rfl rfl (by kernel_rfl) rfl rfl [.int .i64 s609.2.Op, .int .i64 s609.2.D, .int .i64 s609.2.A, .int .i64 0, .int .i64 s609.2.Imm] rfl ?_
       intro w637 hst
       refine OW.nil rfl ?_
       refine QW.next ?_
       refine CW.seq ?_
       refine CW.region ?_
       refine OW.pure 1 [(58, .pointer (some ⟨b3, 3, none⟩))] (by kernel_rfl) ?_
       refine OW.ld rfl rfl rfl rfl (by kernel_rfl) (hst.blk 0 rfl rfl) ?_
       refine OW.pure 1 [(60, .bool (p0.B == 8))] (by kernel_rfl) ?_
       refine OW.nil rfl ?_
       refine QW.next ?_
       rcases Bool.eq_false_or_eq_true ((p0.B == 8)) with hc638 | hc638
       ·have hl608 := ite_t hl608 hc638
        refine CW.cond_t rfl hc638 ?_
        refine CW.region ?_
        refine OW.pure 1 [(61, .pointer (some ⟨b22, 4, none⟩))] (by kernel_rfl) ?_
        refine OW.stB hst 2 rfl rfl rfl rfl rfl (by kernel_rfl) rfl rfl [.int .i64 s609.2.Op, .int .i64 s609.2.D, .int .i64 s609.2.A, .int .i64 0, .int .i64 0] rfl ?_
        intro w640 hst
        refine OW.nil rfl ?_
        refine QW.block_normal ?_
        refine QW.block_normal ?_
        refine QW.next ?_
        refine CW.region ?_
        refine OW.pure 2 [(30, .int .i64 (w64 ((i610 : Int) + 1)))] (by kernel_rfl) ?_
        refine OW.nil rfl ?_
        refine QW.say 30 rfl (congrArg (Value.int .i64) (w64_cnt hc614 (room_sz hr613))) ?_
        exact QW.meet (fun a ha => ⟨n607, Nat.lt_succ_self _, i610 + 1, (s609.1, (api_Inst.mk s609.2.Op s609.2.D s609.2.A 0 0)), cnt_next hi611, ha.agrees (by kernel_rfl), hst.keep [0, 1, 2] rfl, hl608⟩)
       ·have hl608 := ite_f hl608 hc638
        refine CW.cond_f rfl hc638 ?_
        refine CW.region ?_
        refine OW.pure 2 [(63, .bool s609.1)] (by kernel_rfl) ?_
        refine OW.split 63 rfl (fun hc641 => ?_) (fun hc641 => ?_)
        ·have hl608 := ite_t hl608 hc641
         refine OW.pure 1 [(64, .pointer (some ⟨b3, 3, none⟩))] (by kernel_rfl) ?_
         refine OW.ld rfl rfl rfl rfl (by kernel_rfl) (hst.blk 0 rfl rfl) ?_
         obtain ⟨r642, hr643, hl608⟩ := bind_some' hl608
         refine OW.fn rfl rfl rfl rfl (by kernel_rfl) (ops_register_ok _ p0.B r642 hr643 (hst.part [] rfl)) ?_
         rintro e w644 ⟨rfl, hst645⟩
         refine ⟨_, rfl, ?_⟩
         have hst := hst.join (idx := []) (rest := [0, 1, 2]) rfl hst645
         refine OW.pure 2 [(4, .bool r642)] (by kernel_rfl) ?_
         refine OW.nil rfl ?_
         refine QW.block_normal ?_
         refine QW.block_normal ?_
         refine QW.next ?_
         refine CW.region ?_
         refine OW.pure 2 [(30, .int .i64 (w64 ((i610 : Int) + 1)))] (by kernel_rfl) ?_
         refine OW.nil rfl ?_
         refine QW.say 30 rfl (congrArg (Value.int .i64) (w64_cnt hc614 (room_sz hr613))) ?_
         exact QW.meet (fun a ha => ⟨n607, Nat.lt_succ_self _, i610 + 1, (r642, (api_Inst.mk s609.2.Op s609.2.D s609.2.A 0 s609.2.Imm)), cnt_next hi611, ha.agrees (by kernel_rfl), hst.keep [0, 1, 2] rfl, hl608⟩)
        ·have hl608 := ite_f hl608 hc641
         refine OW.pure 5 [(4, .bool false)] (by kernel_rfl) ?_
         refine OW.nil rfl ?_
         refine QW.block_normal ?_
         refine QW.block_normal ?_
         refine QW.next ?_
         refine CW.region ?_
         refine OW.pure 2 [(30, .int .i64 (w64 ((i610 : Int) + 1)))] (by kernel_rfl) ?_
         refine OW.nil rfl ?_
         refine QW.say 30 rfl (congrArg (Value.int .i64) (w64_cnt hc614 (room_sz hr613))) ?_
         exact QW.meet (fun a ha => ⟨n607, Nat.lt_succ_self _, i610 + 1, (false, (api_Inst.mk s609.2.Op s609.2.D s609.2.A 0 s609.2.Imm)), cnt_next hi611, ha.agrees (by kernel_rfl), hst.keep [0, 1, 2] rfl, hl608⟩)
      ·have hl608 := ite_f hl608 hc635
       refine CW.cond_f rfl hc635 ?_
       refine CW.seq ?_
       refine CW.region ?_
       refine OW.pure 2 [(68, .bool (c617 == 102))] (by kernel_rfl) ?_
       refine OW.nil rfl ?_
       refine QW.next ?_
       rcases Bool.eq_false_or_eq_true ((c617 == 102)) with hc646 | hc646
       ·have hl608 := ite_t hl608 hc646
        refine CW.cond_t rfl hc646 ?_
        refine CW.region ?_
        refine OW.pure 2 [(71, .bool s609.1)] (by kernel_rfl) ?_
        refine OW.split 71 rfl (fun hc647 => ?_) (fun hc647 => ?_)
        ·have hl608 := ite_t hl608 hc647
         refine OW.pure 1 [(72, .pointer (some ⟨b3, 4, none⟩))] (by kernel_rfl) ?_
         refine OW.ld rfl rfl rfl rfl (by kernel_rfl) (hst.blk 0 rfl rfl) ?_
         obtain ⟨r648, hr649, hl608⟩ := bind_some' hl608
         refine OW.fn rfl rfl rfl rfl (by kernel_rfl) (ops_within_ok _ p0.Imm 0 1 r648 hr649 (hst.part [] rfl)) ?_
         rintro e w650 ⟨rfl, hst651⟩
         refine ⟨_, rfl, ?_⟩
         have hst := hst.join (idx := []) (rest := [0, 1, 2]) rfl hst651
         refine OW.pure 3 [(4, .bool r648), (76, .pointer (some ⟨b22, 4, none⟩))] (by kernel_rfl) ?_
         refine OW.stB hst 2 rfl rfl rfl rfl rfl (by kernel_rfl) rfl rfl [.int .i64 s609.2.Op, .int .i64 s609.2.D, .int .i64 s609.2.A, .int .i64 s609.2.B, .int .i64 0] rfl ?_
         intro w652 hst
         refine OW.nil rfl ?_
         refine QW.block_normal ?_
         refine QW.block_normal ?_
         refine QW.next ?_
         refine CW.region ?_
         refine OW.pure 2 [(30, .int .i64 (w64 ((i610 : Int) + 1)))] (by kernel_rfl) ?_
         refine OW.nil rfl ?_
         refine QW.say 30 rfl (congrArg (Value.int .i64) (w64_cnt hc614 (room_sz hr613))) ?_
         exact QW.meet (fun a ha => ⟨n607, Nat.lt_succ_self _, i610 + 1, (r648, (api_Inst.mk s609.2.Op s609.2.D s609.2.A s609.2.B 0)), cnt_next hi611, ha.agrees (by kernel_rfl), hst.keep [0, 1, 2] rfl, hl608⟩)
        ·have hl608 := ite_f hl608 hc647
         refine OW.pure 6 [(4, .bool false), (76, .pointer (some ⟨b22, 4, none⟩))] (by kernel_rfl) ?_
         refine OW.stB hst 2 rfl rfl rfl rfl rfl (by kernel_rfl) rfl rfl [.int .i64 s609.2.Op, .int .i64 s609.2.D, .int .i64 s609.2.A, .int .i64 s609.2.B, .int .i64 0] rfl ?_
         intro w653 hst
         refine OW.nil rfl ?_
         refine QW.block_normal ?_
         refine QW.block_normal ?_
         refine QW.next ?_
         refine CW.region ?_
         refine OW.pure 2 [(30, .int .i64 (w64 ((i610 : Int) + 1)))] (by kernel_rfl) ?_
         refine OW.nil rfl ?_
         refine QW.say 30 rfl (congrArg (Value.int .i64) (w64_cnt hc614 (room_sz hr613))) ?_
         exact QW.meet (fun a ha => ⟨n607, Nat.lt_succ_self _, i610 + 1, (false, (api_Inst.mk s609.2.Op s609.2.D s609.2.A s609.2.B 0)), cnt_next hi611, ha.agrees (by kernel_rfl), hst.keep [0, 1, 2] rfl, hl608⟩)
       ·have hl608 := ite_f hl608 hc646
        refine CW.cond_f rfl hc646 ?_
        refine CW.seq ?_
        refine CW.region ?_
        refine OW.pure 2 [(77, .bool (c617 == 109))] (by kernel_rfl) ?_
        refine OW.nil rfl ?_
        refine QW.next ?_
        rcases Bool.eq_false_or_eq_true ((c617 == 109)) with hc654 | hc654
        ·have hl608 := ite_t hl608 hc654
         refine CW.cond_t rfl hc654 ?_
         refine CW.region ?_
         refine OW.pure 2 [(80, .bool s609.1)] (by kernel_rfl) ?_
         refine OW.split 80 rfl (fun hc655 => ?_) (fun hc655 => ?_)
         ·have hl608 := ite_t hl608 hc655
          refine OW.pure 1 [(81, .pointer (some ⟨b3, 4, none⟩))] (by kernel_rfl) ?_
          refine OW.ld rfl rfl rfl rfl (by kernel_rfl) (hst.blk 0 rfl rfl) ?_
          obtain ⟨r656, hr657, hl608⟩ := bind_some' hl608
          refine OW.fn rfl rfl rfl rfl (by kernel_rfl) (ops_within_ok _ p0.Imm 0 3 r656 hr657 (hst.part [] rfl)) ?_
          rintro e w658 ⟨rfl, hst659⟩
          refine ⟨_, rfl, ?_⟩
          have hst := hst.join (idx := []) (rest := [0, 1, 2]) rfl hst659
          refine OW.pure 3 [(4, .bool r656), (85, .pointer (some ⟨b22, 4, none⟩))] (by kernel_rfl) ?_
          refine OW.stB hst 2 rfl rfl rfl rfl rfl (by kernel_rfl) rfl rfl [.int .i64 s609.2.Op, .int .i64 s609.2.D, .int .i64 s609.2.A, .int .i64 s609.2.B, .int .i64 0] rfl ?_
          intro w660 hst
          refine OW.nil rfl ?_
          refine QW.block_normal ?_
          refine QW.block_normal ?_
          refine QW.next ?_
          refine CW.region ?_
          refine OW.pure 2 [(30, .int .i64 (w64 ((i610 : Int) + 1)))] (by kernel_rfl) ?_
          refine OW.nil rfl ?_
          refine QW.say 30 rfl (congrArg (Value.int .i64) (w64_cnt hc614 (room_sz hr613))) ?_
          exact QW.meet (fun a ha => ⟨n607, Nat.lt_succ_self _, i610 + 1, (r656, (api_Inst.mk s609.2.Op s609.2.D s609.2.A s609.2.B 0)), cnt_next hi611, ha.agrees (by kernel_rfl), hst.keep [0, 1, 2] rfl, hl608⟩)
         ·have hl608 := ite_f hl608 hc655
          refine OW.pure 6 [(4, .bool false), (85, .pointer (some ⟨b22, 4, none⟩))] (by kernel_rfl) ?_
          refine OW.stB hst 2 rfl rfl rfl rfl rfl (by kernel_rfl) rfl rfl [.int .i64 s609.2.Op, .int .i64 s609.2.D, .int .i64 s609.2.A, .int .i64 s609.2.B, .int .i64 0] rfl ?_
          intro w661 hst
          refine OW.nil rfl ?_
          refine QW.block_normal ?_
          refine QW.block_normal ?_
          refine QW.next ?_
          refine CW.region ?_
          refine OW.pure 2 [(30, .int .i64 (w64 ((i610 : Int) + 1)))] (by kernel_rfl) ?_
          refine OW.nil rfl ?_
          refine QW.say 30 rfl (congrArg (Value.int .i64) (w64_cnt hc614 (room_sz hr613))) ?_
          exact QW.meet (fun a ha => ⟨n607, Nat.lt_succ_self _, i610 + 1, (false, (api_Inst.mk s609.2.Op s609.2.D s609.2.A s609.2.B 0)), cnt_next hi611, ha.agrees (by kernel_rfl), hst.keep [0, 1, 2] rfl, hl608⟩)
        ·have hl608 := ite_f hl608 hc654
         refine CW.cond_f rfl hc654 ?_
         refine CW.seq ?_
         refine CW.region ?_
         refine OW.pure 2 [(86, .bool (c617 == 104))] (by kernel_rfl) ?_
         refine OW.nil rfl ?_
         refine QW.next ?_
         rcases Bool.eq_false_or_eq_true ((c617 == 104)) with hc662 | hc662
         ·have hl608 := ite_t hl608 hc662
          refine CW.cond_t rfl hc662 ?_
          refine CW.region ?_
          refine OW.pure 2 [(89, .bool s609.1)] (by kernel_rfl) ?_
          refine OW.split 89 rfl (fun hc663 => ?_) (fun hc663 => ?_)
          ·have hl608 := ite_t hl608 hc663
           refine OW.pure 1 [(90, .pointer (some ⟨b3, 4, none⟩))] (by kernel_rfl) ?_
           refine OW.ld rfl rfl rfl rfl (by kernel_rfl) (hst.blk 0 rfl rfl) ?_
           obtain ⟨r664, hr665, hl608⟩ := bind_some' hl608
           refine OW.fn rfl rfl rfl rfl (by kernel_rfl) (ops_within_ok _ p0.Imm 0 6 r664 hr665 (hst.part [] rfl)) ?_
           rintro e w666 ⟨rfl, hst667⟩
           refine ⟨_, rfl, ?_⟩
           have hst := hst.join (idx := []) (rest := [0, 1, 2]) rfl hst667
           refine OW.pure 3 [(4, .bool r664), (94, .pointer (some ⟨b22, 4, none⟩))] (by kernel_rfl) ?_
           refine OW.stB hst 2 rfl rfl rfl rfl rfl (by kernel_rfl) rfl rfl [.int .i64 s609.2.Op, .int .i64 s609.2.D, .int .i64 s609.2.A, .int .i64 s609.2.B, .int .i64 0] rfl ?_
           intro w668 hst
           refine OW.nil rfl ?_
           refine QW.block_normal ?_
           refine QW.block_normal ?_
           refine QW.next ?_
           refine CW.region ?_
           refine OW.pure 2 [(30, .int .i64 (w64 ((i610 : Int) + 1)))] (by kernel_rfl) ?_
           refine OW.nil rfl ?_
           refine QW.say 30 rfl (congrArg (Value.int .i64) (w64_cnt hc614 (room_sz hr613))) ?_
           exact QW.meet (fun a ha => ⟨n607, Nat.lt_succ_self _, i610 + 1, (r664, (api_Inst.mk s609.2.Op s609.2.D s609.2.A s609.2.B 0)), cnt_next hi611, ha.agrees (by kernel_rfl), hst.keep [0, 1, 2] rfl, hl608⟩)
          ·have hl608 := ite_f hl608 hc663
           refine OW.pure 6 [(4, .bool false), (94, .pointer (some ⟨b22, 4, none⟩))] (by kernel_rfl) ?_
           refine OW.stB hst 2 rfl rfl rfl rfl rfl (by kernel_rfl) rfl rfl [.int .i64 s609.2.Op, .int .i64 s609.2.D, .int .i64 s609.2.A, .int .i64 s609.2.B, .int .i64 0] rfl ?_
           intro w669 hst
           refine OW.nil rfl ?_
           refine QW.block_normal ?_
           refine QW.block_normal ?_
           refine QW.next ?_
           refine CW.region ?_
           refine OW.pure 2 [(30, .int .i64 (w64 ((i610 : Int) + 1)))] (by kernel_rfl) ?_
           refine OW.nil rfl ?_
           refine QW.say 30 rfl (congrArg (Value.int .i64) (w64_cnt hc614 (room_sz hr613))) ?_
           exact QW.meet (fun a ha => ⟨n607, Nat.lt_succ_self _, i610 + 1, (false, (api_Inst.mk s609.2.Op s609.2.D s609.2.A s609.2.B 0)), cnt_next hi611, ha.agrees (by kernel_rfl), hst.keep [0, 1, 2] rfl, hl608⟩)
         ·have hl608 := ite_f hl608 hc662
          refine CW.cond_f rfl hc662 ?_
          refine CW.seq ?_
          refine CW.region ?_
          refine OW.pure 2 [(95, .bool (c617 == 110))] (by kernel_rfl) ?_
          refine OW.nil rfl ?_
          refine QW.next ?_
          rcases Bool.eq_false_or_eq_true ((c617 == 110)) with hc670 | hc670
          ·have hl608 := ite_t hl608 hc670
           refine CW.cond_t rfl hc670 ?_
           refine CW.region ?_
           refine OW.pure 2 [(98, .bool s609.1)] (by kernel_rfl) ?_
           refine OW.split 98 rfl (fun hc671 => ?_) (fun hc671 => ?_)
           ·have hl608 := ite_t hl608 hc671
            refine OW.pure 1 [(99, .pointer (some ⟨b3, 4, none⟩))] (by kernel_rfl) ?_
            refine OW.ld rfl rfl rfl rfl (by kernel_rfl) (hst.blk 0 rfl rfl) ?_
            obtain ⟨r672, hr673, hl608⟩ := bind_some' hl608
            refine OW.fn rfl rfl rfl rfl (by kernel_rfl) (ops_within_ok _ p0.Imm 1 255 r672 hr673 (hst.part [] rfl)) ?_
            rintro e w674 ⟨rfl, hst675⟩
            refine ⟨_, rfl, ?_⟩
            have hst := hst.join (idx := []) (rest := [0, 1, 2]) rfl hst675
            refine OW.pure 3 [(4, .bool r672), (103, .pointer (some ⟨b22, 4, none⟩))] (by kernel_rfl) ?_
            refine OW.stB hst 2 rfl rfl rfl rfl rfl (by kernel_rfl) rfl rfl [.int .i64 s609.2.Op, .int .i64 s609.2.D, .int .i64 s609.2.A, .int .i64 s609.2.B, .int .i64 0] rfl ?_
            intro w676 hst
            refine OW.nil rfl ?_
            refine QW.block_normal ?_
            refine QW.block_normal ?_
            refine QW.next ?_
            refine CW.region ?_
            refine OW.pure 2 [(30, .int .i64 (w64 ((i610 : Int) + 1)))] (by kernel_rfl) ?_
            refine OW.nil rfl ?_
            refine QW.say 30 rfl (congrArg (Value.int .i64) (w64_cnt hc614 (room_sz hr613))) ?_
            exact QW.meet (fun a ha => ⟨n607, Nat.lt_succ_self _, i610 + 1, (r672, (api_Inst.mk s609.2.Op s609.2.D s609.2.A s609.2.B 0)), cnt_next hi611, ha.agrees (by kernel_rfl), hst.keep [0, 1, 2] rfl, hl608⟩)
           ·have hl608 := ite_f hl608 hc671
            refine OW.pure 6 [(4, .bool false), (103, .pointer (some ⟨b22, 4, none⟩))] (by kernel_rfl) ?_
            refine OW.stB hst 2 rfl rfl rfl rfl rfl (by kernel_rfl) rfl rfl [.int .i64 s609.2.Op, .int .i64 s609.2.D, .int .i64 s609.2.A, .int .i64 s609.2.B, .int .i64 0] rfl ?_
            intro w677 hst
            refine OW.nil rfl ?_
            refine QW.block_normal ?_
            refine QW.block_normal ?_
            refine QW.next ?_
            refine CW.region ?_
            refine OW.pure 2 [(30, .int .i64 (w64 ((i610 : Int) + 1)))] (by kernel_rfl) ?_
            refine OW.nil rfl ?_
            refine QW.say 30 rfl (congrArg (Value.int .i64) (w64_cnt hc614 (room_sz hr613))) ?_
            exact QW.meet (fun a ha => ⟨n607, Nat.lt_succ_self _, i610 + 1, (false, (api_Inst.mk s609.2.Op s609.2.D s609.2.A s609.2.B 0)), cnt_next hi611, ha.agrees (by kernel_rfl), hst.keep [0, 1, 2] rfl, hl608⟩)
          ·have hl608 := ite_f hl608 hc670
           refine CW.cond_f rfl hc670 ?_
           refine CW.seq ?_
           refine CW.region ?_
           refine OW.pure 2 [(104, .bool (c617 == 106))] (by kernel_rfl) ?_
           refine OW.nil rfl ?_
           refine QW.next ?_
           rcases Bool.eq_false_or_eq_true ((c617 == 106)) with hc678 | hc678
           ·have hl608 := ite_t hl608 hc678
            refine CW.cond_t rfl hc678 ?_
            refine CW.region ?_
            refine OW.pure 2 [(107, .bool s609.1)] (by kernel_rfl) ?_
            refine OW.split 107 rfl (fun hc679 => ?_) (fun hc679 => ?_)
            ·have hl608 := ite_t hl608 hc679
             refine OW.pure 1 [(108, .pointer (some ⟨b3, 1, none⟩))] (by kernel_rfl) ?_
             refine OW.ld rfl rfl rfl rfl (by kernel_rfl) (hst.blk 0 rfl rfl) ?_
             obtain ⟨r680, hr681, hl608⟩ := bind_some' hl608
             refine OW.fn rfl rfl rfl rfl (by kernel_rfl) (ops_within_ok _ p0.D 0 63 r680 hr681 (hst.part [] rfl)) ?_
             rintro e w682 ⟨rfl, hst683⟩
             refine ⟨_, rfl, ?_⟩
             have hst := hst.join (idx := []) (rest := [0, 1, 2]) rfl hst683
             refine OW.pure 3 [(4, .bool r680), (112, .pointer (some ⟨b22, 1, none⟩))] (by kernel_rfl) ?_
             refine OW.stB hst 2 rfl rfl rfl rfl rfl (by kernel_rfl) rfl rfl [.int .i64 s609.2.Op, .int .i64 0, .int .i64 s609.2.A, .int .i64 s609.2.B, .int .i64 s609.2.Imm] rfl ?_
             intro w684 hst
             refine OW.nil rfl ?_
             refine QW.block_normal ?_
             refine QW.block_normal ?_
             refine QW.next ?_
             refine CW.region ?_
             refine OW.pure 2 [(30, .int .i64 (w64 ((i610 : Int) + 1)))] (by kernel_rfl) ?_
             refine OW.nil rfl ?_
             refine QW.say 30 rfl (congrArg (Value.int .i64) (w64_cnt hc614 (room_sz hr613))) ?_
             exact QW.meet (fun a ha => ⟨n607, Nat.lt_succ_self _, i610 + 1, (r680, (api_Inst.mk s609.2.Op 0 s609.2.A s609.2.B s609.2.Imm)), cnt_next hi611, ha.agrees (by kernel_rfl), hst.keep [0, 1, 2] rfl, hl608⟩)
            ·have hl608 := ite_f hl608 hc679
             refine OW.pure 6 [(4, .bool false), (112, .pointer (some ⟨b22, 1, none⟩))] (by kernel_rfl) ?_
             refine OW.stB hst 2 rfl rfl rfl rfl rfl (by kernel_rfl) rfl rfl [.int .i64 s609.2.Op, .int .i64 0, .int .i64 s609.2.A, .int .i64 s609.2.B, .int .i64 s609.2.Imm] rfl ?_
             intro w685 hst
             refine OW.nil rfl ?_
             refine QW.block_normal ?_
             refine QW.block_normal ?_
             refine QW.next ?_
             refine CW.region ?_
             refine OW.pure 2 [(30, .int .i64 (w64 ((i610 : Int) + 1)))] (by kernel_rfl) ?_
             refine OW.nil rfl ?_
             refine QW.say 30 rfl (congrArg (Value.int .i64) (w64_cnt hc614 (room_sz hr613))) ?_
             exact QW.meet (fun a ha => ⟨n607, Nat.lt_succ_self _, i610 + 1, (false, (api_Inst.mk s609.2.Op 0 s609.2.A s609.2.B s609.2.Imm)), cnt_next hi611, ha.agrees (by kernel_rfl), hst.keep [0, 1, 2] rfl, hl608⟩)
           ·have hl608 := ite_f hl608 hc678
            refine CW.cond_f rfl hc678 ?_
            refine CW.seq ?_
            refine CW.region ?_
            refine OW.pure 2 [(113, .bool (c617 == 98))] (by kernel_rfl) ?_
            refine OW.nil rfl ?_
            refine QW.next ?_
            rcases Bool.eq_false_or_eq_true ((c617 == 98)) with hc686 | hc686
            ·have hl608 := ite_t hl608 hc686
             refine CW.cond_t rfl hc686 ?_
             refine CW.region ?_
             refine OW.pure 2 [(116, .bool s609.1)] (by kernel_rfl) ?_
             refine OW.split 116 rfl (fun hc687 => ?_) (fun hc687 => ?_)
             ·have hl608 := ite_t hl608 hc687
              refine OW.pure 1 [(117, .pointer (some ⟨b3, 1, none⟩))] (by kernel_rfl) ?_
              refine OW.ld rfl rfl rfl rfl (by kernel_rfl) (hst.blk 0 rfl rfl) ?_
              obtain ⟨r688, hr689, hl608⟩ := bind_some' hl608
              refine OW.fn rfl rfl rfl rfl (by kernel_rfl) (ops_within_ok _ p0.D 1 63 r688 hr689 (hst.part [] rfl)) ?_
              rintro e w690 ⟨rfl, hst691⟩
              refine ⟨_, rfl, ?_⟩
              have hst := hst.join (idx := []) (rest := [0, 1, 2]) rfl hst691
              refine OW.pure 3 [(4, .bool r688), (121, .pointer (some ⟨b22, 1, none⟩))] (by kernel_rfl) ?_
              refine OW.stB hst 2 rfl rfl rfl rfl rfl (by kernel_rfl) rfl rfl [.int .i64 s609.2.Op, .int .i64 0, .int .i64 s609.2.A, .int .i64 s609.2.B, .int .i64 s609.2.Imm] rfl ?_
              intro w692 hst
              refine OW.nil rfl ?_
              refine QW.block_normal ?_
              refine QW.block_normal ?_
              refine QW.next ?_
              refine CW.region ?_
              refine OW.pure 2 [(30, .int .i64 (w64 ((i610 : Int) + 1)))] (by kernel_rfl) ?_
              refine OW.nil rfl ?_
              refine QW.say 30 rfl (congrArg (Value.int .i64) (w64_cnt hc614 (room_sz hr613))) ?_
              exact QW.meet (fun a ha => ⟨n607, Nat.lt_succ_self _, i610 + 1, (r688, (api_Inst.mk s609.2.Op 0 s609.2.A s609.2.B s609.2.Imm)), cnt_next hi611, ha.agrees (by kernel_rfl), hst.keep [0, 1, 2] rfl, hl608⟩)
             ·have hl608 := ite_f hl608 hc687
              refine OW.pure 6 [(4, .bool false), (121, .pointer (some ⟨b22, 1, none⟩))] (by kernel_rfl) ?_
              refine OW.stB hst 2 rfl rfl rfl rfl rfl (by kernel_rfl) rfl rfl [.int .i64 s609.2.Op, .int .i64 0, .int .i64 s609.2.A, .int .i64 s609.2.B, .int .i64 s609.2.Imm] rfl ?_
              intro w693 hst
              refine OW.nil rfl ?_
              refine QW.block_normal ?_
              refine QW.block_normal ?_
              refine QW.next ?_
              refine CW.region ?_
              refine OW.pure 2 [(30, .int .i64 (w64 ((i610 : Int) + 1)))] (by kernel_rfl) ?_
              refine OW.nil rfl ?_
              refine QW.say 30 rfl (congrArg (Value.int .i64) (w64_cnt hc614 (room_sz hr613))) ?_
              exact QW.meet (fun a ha => ⟨n607, Nat.lt_succ_self _, i610 + 1, (false, (api_Inst.mk s609.2.Op 0 s609.2.A s609.2.B s609.2.Imm)), cnt_next hi611, ha.agrees (by kernel_rfl), hst.keep [0, 1, 2] rfl, hl608⟩)
            ·have hl608 := ite_f hl608 hc686
             refine CW.cond_f rfl hc686 ?_
             refine CW.skip ?_
             refine QW.block_normal ?_
             refine QW.block_normal ?_
             refine QW.next ?_
             refine CW.region ?_
             refine OW.pure 2 [(30, .int .i64 (w64 ((i610 : Int) + 1)))] (by kernel_rfl) ?_
             refine OW.nil rfl ?_
             refine QW.say 30 rfl (congrArg (Value.int .i64) (w64_cnt hc614 (room_sz hr613))) ?_
             exact QW.meet (fun a ha => ⟨n607, Nat.lt_succ_self _, i610 + 1, (s609.1, s609.2), cnt_next hi611, ha.agrees (by kernel_rfl), hst.keep [0, 1, 2] rfl, hl608⟩)
   ·rcases n607 with _ | n607
    ·refine CW.cond_f rfl hc614 ?_
     refine CW.exit ?_
     refine QW.then_exit ?_
     refine QW.then_exit ?_
     refine QW.block_here ?_
     obtain rfl := Option.some.inj hl608
     exact QW.meet (fun a ha => ⟨ha.agrees (by kernel_rfl), hst.keep [2] rfl⟩)
    ·exact (cnt1 hi611 hc614).elim
  ·rintro a w1 ⟨ha, hst⟩
   refine CW.go ?_ ha
   refine CW.seq ?_
   obtain ⟨o695, ho696, hF⟩ := bind_some' hF
   refine CW.cutK (fun a w1 => Rep 129 [(2, .bool o695)] a ∧ St w (fp []) w1 []) ?_ ?_
   ·refine CW.region ?_
    refine OW.pure 2 [(124, .bool o364.1)] (by kernel_rfl) ?_
    refine OW.split 124 rfl (fun hc697 => ?_) (fun hc697 => ?_)
    ·have ho696 := ite_t ho696 hc697
     refine OW.ldN (cs := [.int .i64 o364.2.Op, .int .i64 o364.2.D, .int .i64 o364.2.A, .int .i64 o364.2.B, .int .i64 o364.2.Imm]) rfl rfl rfl rfl (by kernel_rfl) (by kernel_rfl) (hst.blkN 0 rfl 0 5) ?_
     refine OW.pure 1 [(126, .agg [.int .i64 0, .int .i64 0, .int .i64 0, .int .i64 0, .int .i64 0].toArray)] (by kernel_rfl) ?_
     refine OW.op (v := .bool ((o364.2.Op == 0) && ((o364.2.D == 0) && ((o364.2.A == 0) && ((o364.2.B == 0) && ((o364.2.Imm == 0) && true)))))) rfl rfl rfl rfl (fun a ha => seq_run rfl rfl rfl (by kernel_rfl) (by kernel_rfl) a _ ha) ?_
     refine OW.pure 2 [(2, .bool ((o364.2.Op == 0) && ((o364.2.D == 0) && ((o364.2.A == 0) && ((o364.2.B == 0) && ((o364.2.Imm == 0) && true))))))] (by kernel_rfl) ?_
     refine OW.nil rfl ?_
     obtain rfl := Option.some.inj ho696
     exact QW.meet (fun a ha => ⟨ha.agrees (by kernel_rfl), hst.keep [] rfl⟩)
    ·have ho696 := ite_f ho696 hc697
     refine OW.pure 5 [(2, .bool false)] (by kernel_rfl) ?_
     refine OW.nil rfl ?_
     obtain rfl := Option.some.inj ho696
     exact QW.meet (fun a ha => ⟨ha.agrees (by kernel_rfl), hst.keep [] rfl⟩)
   ·rintro a w1 ⟨ha, hst⟩
    refine CW.go ?_ ha
    refine CW.ret ?_
    obtain rfl := Option.some.inj hF
    refine QW.ret1 rfl rfl ?_
    exact ⟨rfl, hst.keep [] rfl⟩

set_option maxRecDepth 10000 in
set_option maxHeartbeats 4000000 in
theorem ops_Right_ok (w : World) (v0 : Value) (p0 : List api_Inst) (r : Bool) (hF : ops_Right p0 = some r)
    (hst : St w (fp []) w []) (h0 : Rd w (fp []) v0 enc_api_Inst 5 p0) (hT0 : Rd w (fp []) (.slice (some ⟨0, 0, none⟩) 23 23) enc_ops_form 2 tab_g0) :
    Calls Tryd.prog 15 [v0].toArray w (fun e w' => e = .returned (.bool r) ∧ St w (fp []) w' []) := by
 refine CW.start (N := 15) Tryd.func15 rfl rfl rfl ?_
 obtain ⟨l1, a2, c3, rfl⟩ := h0.len
 refine CW.seq ?_
 refine CW.region ?_
 refine OW.pure 1 [] (by kernel_rfl) ?_
 refine OW.nil rfl ?_
 refine QW.next ?_
 refine CW.seq ?_
 refine CW.seq ?_
 refine CW.region ?_
 refine OW.pure 3 [(5, .slice a2 (p0).length c3), (6, .int .i64 ((p0).length : Int)), (7, .int .i64 0)] (by kernel_rfl) ?_
 refine OW.nil rfl ?_
 refine QW.next ?_
 obtain ⟨o94, ho95, hF⟩ := bind_some' hF
 refine CW.cutK (fun a w1 => ∃ (t96 : Unit), o94 = .inl t96 ∧ Rep 15 [] a ∧ St w (fp []) w1 []) ?_ ?_
 ·refine CW.block ?_
  refine CW.loop (fun n a w1 => ∃ (i157 : Nat) (s156 : Unit), i157 + n = (p0).length ∧ Rep 15 [(5, .slice a2 (p0).length c3), (6, .int .i64 ((p0).length : Int)), (7, .int .i64 (i157 : Int))] a ∧ St w (fp []) w1 [] ∧ forN (ops_Right_l1 p0) (fun (s156 : Unit) => (.inl ())) n i157 s156 = some o94) (p0).length (fun a ha => ⟨0, (), Nat.zero_add _, ha.agrees (by kernel_rfl), hst.keep [] rfl, ho95⟩) ?_
  rintro n154 a w1 ⟨i157, s156, hi158, ha, hst, hl155⟩
  refine CW.go ?_ ha
  refine CW.seq ?_
  refine CW.region ?_
  refine OW.pure 1 [(8, .bool (decide ((i157 : Int) < ((p0).length : Int))))] (by kernel_rfl) ?_
  refine OW.nil rfl ?_
  refine QW.next ?_
  refine CW.seq ?_
  rcases Bool.eq_false_or_eq_true (decide ((i157 : Int) < ((p0).length : Int))) with hc159 | hc159
  ·rcases n154 with _ | n154
   ·exact (cnt0 hi158 hc159).elim
   refine CW.cond_t rfl hc159 ?_
   refine CW.skip ?_
   refine QW.next ?_
   refine CW.seq ?_
   refine CW.block ?_
   refine CW.seq ?_
   refine CW.region ?_
   obtain ⟨x169, hx170, hl155⟩ := bind_some' hl155
   obtain ⟨g172, o173, c174, hv171⟩ := h0.formv (fun _ => ⟨_, rfl⟩) hx170
   refine OW.idx 32 5 rfl rfl rfl rfl hv171 rfl (idx_some hx170).1 (idx_some hx170).2.1 (by kernel_rfl) (by kernel_rfl) ?_
   refine OW.ldN (cs := enc_api_Inst x169) rfl rfl rfl rfl (by kernel_rfl) (by kernel_rfl) (h0.cellv hst hx170 hv171) ?_
   refine OW.alloc hst rfl rfl rfl [.int .i64 0, .int .i64 0, .int .i64 0, .int .i64 0, .int .i64 0] (by kernel_rfl) ?_
   intro b175 w176 hst
   refine OW.stB hst 0 rfl rfl rfl rfl rfl (by kernel_rfl) rfl rfl [.int .i64 x169.Op, .int .i64 x169.D, .int .i64 x169.A, .int .i64 x169.B, .int .i64 x169.Imm] rfl ?_
   intro w177 hst
   refine OW.nil rfl ?_
   refine QW.next ?_
   refine CW.seq ?_
   refine CW.region ?_
   refine OW.ldN (cs := [.int .i64 x169.Op, .int .i64 x169.D, .int .i64 x169.A, .int .i64 x169.B, .int .i64 x169.Imm]) rfl rfl rfl rfl (by kernel_rfl) (by kernel_rfl) (hst.blkN 0 rfl 0 5) ?_
   obtain ⟨r182, hr183, hl155⟩ := bind_some' hl155
   refine OW.fn rfl rfl rfl rfl (by kernel_rfl) (ops_right_ok _ x169 r182 hr183 (hst.part [] rfl) (hT0.give hst [])) ?_
   rintro e w184 ⟨rfl, hst185⟩
   refine ⟨_, rfl, ?_⟩
   have hst := hst.join (idx := []) (rest := [0]) rfl hst185
   refine OW.pure 1 [(13, .bool (!r182))] (by kernel_rfl) ?_
   refine OW.nil rfl ?_
   refine QW.next ?_
   rcases Bool.eq_false_or_eq_true ((!r182)) with hc186 | hc186
   ·have hl155 := ite_t hl155 hc186
    refine CW.cond_t rfl hc186 ?_
    refine CW.seq ?_
    refine CW.region ?_
    refine OW.pure 1 [(2, .bool false)] (by kernel_rfl) ?_
    refine OW.nil rfl ?_
    refine QW.next ?_
    refine CW.ret ?_
    refine QW.block_ret ?_
    refine QW.then_ret ?_
    refine QW.then_ret ?_
    refine QW.block_ret ?_
    refine QW.then_ret ?_
    obtain rfl := Option.some.inj hl155
    obtain rfl := Option.some.inj hF
    refine QW.ret1 rfl rfl ?_
    exact ⟨rfl, hst.keep [] rfl⟩
   ·have hl155 := ite_f hl155 hc186
    refine CW.cond_f rfl hc186 ?_
    refine CW.skip ?_
    refine QW.block_normal ?_
    refine QW.next ?_
    refine CW.region ?_
    refine OW.pure 2 [(7, .int .i64 (w64 ((i157 : Int) + 1)))] (by kernel_rfl) ?_
    refine OW.nil rfl ?_
    refine QW.say 7 rfl (congrArg (Value.int .i64) (w64_cnt hc159 l1)) ?_
    exact QW.meet (fun a ha => ⟨n154, Nat.lt_succ_self _, i157 + 1, (), cnt_next hi158, ha.agrees (by kernel_rfl), hst.keep [] rfl, hl155⟩)
  ·rcases n154 with _ | n154
   ·refine CW.cond_f rfl hc159 ?_
    refine CW.exit ?_
    refine QW.then_exit ?_
    refine QW.then_exit ?_
    refine QW.block_here ?_
    obtain rfl := Option.some.inj hl155
    exact QW.meet (fun a ha => ⟨(), rfl, ha.agrees (by kernel_rfl), hst.keep [] rfl⟩)
   ·exact (cnt1 hi158 hc159).elim
 ·rintro a w1 ⟨t96, rfl, ha, hst⟩
  refine CW.go ?_ ha
  refine CW.seq ?_
  refine CW.region ?_
  refine OW.pure 1 [(2, .bool true)] (by kernel_rfl) ?_
  refine OW.nil rfl ?_
  refine QW.next ?_
  refine CW.ret ?_
  obtain rfl := Option.some.inj hF
  refine QW.ret1 rfl rfl ?_
  exact ⟨rfl, hst.keep [] rfl⟩

set_option maxRecDepth 10000 in
set_option maxHeartbeats 4000000 in
theorem ops_Name_ok (w : World) (p0 : Int) (r : ByteArray) (hF : ops_Name p0 = some r)
    (hst : St w (fp []) w []) (hT0 : Rd w (fp []) (.slice (some ⟨0, 0, none⟩) 23 23) enc_ops_form 2 tab_g0) :
    Calls Tryd.prog 26 [.int .i64 p0].toArray w (fun e w' => e = .returned (.string r) ∧ St w (fp []) w' []) := by
 refine CW.start (N := 12) Tryd.func26 rfl rfl rfl ?_
 refine CW.seq ?_
 refine CW.region ?_
 refine OW.pure 1 [] (by kernel_rfl) ?_
 refine OW.nil rfl ?_
 refine QW.next ?_
 refine CW.seq ?_
 refine CW.region ?_
 refine OW.pure 1 [(6, .int .i64 p0)] (by kernel_rfl) ?_
 obtain ⟨r8, hr9, hF⟩ := bind_some' hF
 refine OW.fn rfl rfl rfl rfl (by kernel_rfl) (ops_of_ok _ p0 r8 hr9 (hst.part [] rfl) (hT0.give hst [])) ?_
 rintro e w10 ⟨rfl, hst11⟩
 refine ⟨_, rfl, ?_⟩
 have hst := hst.join (idx := []) (rest := []) rfl hst11
 refine OW.pure 3 [(8, .agg [.string r8.1.name, .string r8.1.fields].toArray), (9, .bool r8.2)] (by kernel_rfl) ?_
 refine OW.alloc hst rfl rfl rfl [.string ByteArray.empty, .string ByteArray.empty] (by kernel_rfl) ?_
 intro b12 w13 hst
 refine OW.stB hst 0 rfl rfl rfl rfl rfl (by kernel_rfl) rfl rfl [.string r8.1.name, .string r8.1.fields] rfl ?_
 intro w14 hst
 refine OW.pure 1 [] (by kernel_rfl) ?_
 refine OW.nil rfl ?_
 refine QW.next ?_
 refine CW.seq ?_
 refine CW.region ?_
 refine OW.pure 1 [(10, .pointer (some ⟨b12, 0, none⟩))] (by kernel_rfl) ?_
 refine OW.ld rfl rfl rfl rfl (by kernel_rfl) (hst.blk 0 rfl rfl) ?_
 refine OW.pure 1 [(2, .string r8.1.name)] (by kernel_rfl) ?_
 refine OW.nil rfl ?_
 refine QW.next ?_
 refine CW.ret ?_
 obtain rfl := Option.some.inj hF
 refine QW.ret1 rfl rfl ?_
 exact ⟨rfl, hst.keep [] rfl⟩

set_option maxRecDepth 10000 in
set_option maxHeartbeats 4000000 in
theorem lines_order_ok (w : World) (p0 : Int) (r : ByteArray) (hF : lines_order p0 = some r)
    (hst : St w (fp []) w []) :
    Calls Tryd.prog 27 [.int .i64 p0].toArray w (fun e w' => e = .returned (.string r) ∧ St w (fp []) w' []) := by
 refine CW.start (N := 25) Tryd.func27 rfl rfl rfl ?_
 refine CW.seq ?_
 refine CW.region ?_
 refine OW.pure 1 [] (by kernel_rfl) ?_
 refine OW.nil rfl ?_
 refine QW.next ?_
 refine CW.seq ?_
 refine CW.seq ?_
 refine CW.region ?_
 refine OW.pure 1 [(3, .int .i64 p0)] (by kernel_rfl) ?_
 refine OW.nil rfl ?_
 refine QW.next ?_
 refine CW.block ?_
 refine CW.seq ?_
 refine CW.seq ?_
 refine CW.region ?_
 refine OW.pure 2 [(4, .bool (p0 == 0))] (by kernel_rfl) ?_
 refine OW.nil rfl ?_
 refine QW.next ?_
 obtain ⟨o2, ho3, hF⟩ := bind_some' hF
 refine CW.cutK (fun a w1 => Rep 25 [(3, .int .i64 p0), (4, .bool o2)] a ∧ St w (fp []) w1 []) ?_ ?_
 ·rcases Bool.eq_false_or_eq_true ((p0 == 0)) with hc4 | hc4
  ·have ho3 := ite_t ho3 hc4
   refine CW.cond_t rfl hc4 ?_
   refine CW.skip ?_
   obtain rfl := Option.some.inj ho3
   exact QW.meet (fun a ha => ⟨ha.agrees (by kernel_rfl), hst.keep [] rfl⟩)
  ·have ho3 := ite_f ho3 hc4
   refine CW.cond_f rfl hc4 ?_
   refine CW.region ?_
   refine OW.pure 2 [(4, .bool (p0 == 11))] (by kernel_rfl) ?_
   refine OW.nil rfl ?_
   obtain rfl := Option.some.inj ho3
   exact QW.meet (fun a ha => ⟨ha.agrees (by kernel_rfl), hst.keep [] rfl⟩)
 ·rintro a w1 ⟨ha, hst⟩
  refine CW.go ?_ ha
  rcases Bool.eq_false_or_eq_true (o2) with hc5 | hc5
  ·have hF := ite_t hF hc5
   refine CW.cond_t rfl hc5 ?_
   refine CW.seq ?_
   refine CW.region ?_
   refine OW.pure 1 [(2, .string (⟨[100, 115].toArray⟩))] (by kernel_rfl) ?_
   refine OW.nil rfl ?_
   refine QW.next ?_
   refine CW.ret ?_
   refine QW.block_ret ?_
   refine QW.then_ret ?_
   obtain rfl := Option.some.inj hF
   refine QW.ret1 rfl rfl ?_
   exact ⟨rfl, hst.keep [] rfl⟩
  ·have hF := ite_f hF hc5
   refine CW.cond_f rfl hc5 ?_
   refine CW.seq ?_
   refine CW.region ?_
   refine OW.pure 2 [(7, .bool (p0 == 12))] (by kernel_rfl) ?_
   refine OW.nil rfl ?_
   refine QW.next ?_
   rcases Bool.eq_false_or_eq_true ((p0 == 12)) with hc6 | hc6
   ·have hF := ite_t hF hc6
    refine CW.cond_t rfl hc6 ?_
    refine CW.seq ?_
    refine CW.region ?_
    refine OW.pure 1 [(2, .string (⟨[97, 115].toArray⟩))] (by kernel_rfl) ?_
    refine OW.nil rfl ?_
    refine QW.next ?_
    refine CW.ret ?_
    refine QW.block_ret ?_
    refine QW.then_ret ?_
    obtain rfl := Option.some.inj hF
    refine QW.ret1 rfl rfl ?_
    exact ⟨rfl, hst.keep [] rfl⟩
   ·have hF := ite_f hF hc6
    refine CW.cond_f rfl hc6 ?_
    refine CW.seq ?_
    refine CW.seq ?_
    refine CW.region ?_
    refine OW.pure 2 [(9, .bool (p0 == 13))] (by kernel_rfl) ?_
    refine OW.nil rfl ?_
    refine QW.next ?_
    obtain ⟨o8, ho9, hF⟩ := bind_some' hF
    refine CW.cutK (fun a w1 => Rep 25 [(3, .int .i64 p0), (9, .bool o8)] a ∧ St w (fp []) w1 []) ?_ ?_
    ·rcases Bool.eq_false_or_eq_true ((p0 == 13)) with hc10 | hc10
     ·have ho9 := ite_t ho9 hc10
      refine CW.cond_t rfl hc10 ?_
      refine CW.skip ?_
      obtain rfl := Option.some.inj ho9
      exact QW.meet (fun a ha => ⟨ha.agrees (by kernel_rfl), hst.keep [] rfl⟩)
     ·have ho9 := ite_f ho9 hc10
      refine CW.cond_f rfl hc10 ?_
      refine CW.region ?_
      refine OW.pure 2 [(9, .bool (p0 == 14))] (by kernel_rfl) ?_
      refine OW.nil rfl ?_
      obtain rfl := Option.some.inj ho9
      exact QW.meet (fun a ha => ⟨ha.agrees (by kernel_rfl), hst.keep [] rfl⟩)
    ·rintro a w1 ⟨ha, hst⟩
     refine CW.go ?_ ha
     rcases Bool.eq_false_or_eq_true (o8) with hc11 | hc11
     ·have hF := ite_t hF hc11
      refine CW.cond_t rfl hc11 ?_
      refine CW.seq ?_
      refine CW.region ?_
      refine OW.pure 1 [(2, .string (⟨[100, 110].toArray⟩))] (by kernel_rfl) ?_
      refine OW.nil rfl ?_
      refine QW.next ?_
      refine CW.ret ?_
      refine QW.block_ret ?_
      refine QW.then_ret ?_
      obtain rfl := Option.some.inj hF
      refine QW.ret1 rfl rfl ?_
      exact ⟨rfl, hst.keep [] rfl⟩
     ·have hF := ite_f hF hc11
      refine CW.cond_f rfl hc11 ?_
      refine CW.seq ?_
      refine CW.region ?_
      refine OW.pure 2 [(12, .bool (p0 == 15))] (by kernel_rfl) ?_
      refine OW.nil rfl ?_
      refine QW.next ?_
      rcases Bool.eq_false_or_eq_true ((p0 == 15)) with hc12 | hc12
      ·have hF := ite_t hF hc12
       refine CW.cond_t rfl hc12 ?_
       refine CW.seq ?_
       refine CW.region ?_
       refine OW.pure 1 [(2, .string (⟨[106].toArray⟩))] (by kernel_rfl) ?_
       refine OW.nil rfl ?_
       refine QW.next ?_
       refine CW.ret ?_
       refine QW.block_ret ?_
       refine QW.then_ret ?_
       obtain rfl := Option.some.inj hF
       refine QW.ret1 rfl rfl ?_
       exact ⟨rfl, hst.keep [] rfl⟩
      ·have hF := ite_f hF hc12
       refine CW.cond_f rfl hc12 ?_
       refine CW.seq ?_
       refine CW.seq ?_
       refine CW.region ?_
       refine OW.pure 2 [(14, .bool (p0 == 16))] (by kernel_rfl) ?_
       refine OW.nil rfl ?_
       refine QW.next ?_
       obtain ⟨o16, ho17, hF⟩ := bind_some' hF
       refine CW.cutK (fun a w1 => Rep 25 [(3, .int .i64 p0), (14, .bool o16)] a ∧ St w (fp []) w1 []) ?_ ?_
       ·rcases Bool.eq_false_or_eq_true ((p0 == 16)) with hc18 | hc18
        ·have ho17 := ite_t ho17 hc18
         refine CW.cond_t rfl hc18 ?_
         refine CW.skip ?_
         obtain rfl := Option.some.inj ho17
         exact QW.meet (fun a ha => ⟨ha.agrees (by kernel_rfl), hst.keep [] rfl⟩)
        ·have ho17 := ite_f ho17 hc18
         refine CW.cond_f rfl hc18 ?_
         refine CW.seq ?_
         refine CW.region ?_
         refine OW.pure 2 [(14, .bool (p0 == 17))] (by kernel_rfl) ?_
         refine OW.nil rfl ?_
         refine QW.next ?_
         rcases Bool.eq_false_or_eq_true ((p0 == 17)) with hc19 | hc19
         ·have ho17 := ite_t ho17 hc19
          refine CW.cond_t rfl hc19 ?_
          refine CW.skip ?_
          obtain rfl := Option.some.inj ho17
          exact QW.meet (fun a ha => ⟨ha.agrees (by kernel_rfl), hst.keep [] rfl⟩)
         ·have ho17 := ite_f ho17 hc19
          refine CW.cond_f rfl hc19 ?_
          refine CW.seq ?_
          refine CW.region ?_
          refine OW.pure 2 [(14, .bool (p0 == 18))] (by kernel_rfl) ?_
          refine OW.nil rfl ?_
          refine QW.next ?_
          rcases Bool.eq_false_or_eq_true ((p0 == 18)) with hc20 | hc20
          ·have ho17 := ite_t ho17 hc20
           refine CW.cond_t rfl hc20 ?_
           refine CW.skip ?_
           obtain rfl := Option.some.inj ho17
           exact QW.meet (fun a ha => ⟨ha.agrees (by kernel_rfl), hst.keep [] rfl⟩)
          ·have ho17 := ite_f ho17 hc20
           refine CW.cond_f rfl hc20 ?_
           refine CW.region ?_
           refine OW.pure 2 [(14, .bool (p0 == 19))] (by kernel_rfl) ?_
           refine OW.nil rfl ?_
           obtain rfl := Option.some.inj ho17
           exact QW.meet (fun a ha => ⟨ha.agrees (by kernel_rfl), hst.keep [] rfl⟩)
       ·rintro a w1 ⟨ha, hst⟩
        refine CW.go ?_ ha
        rcases Bool.eq_false_or_eq_true (o16) with hc21 | hc21
        ·have hF := ite_t hF hc21
         refine CW.cond_t rfl hc21 ?_
         refine CW.seq ?_
         refine CW.region ?_
         refine OW.pure 1 [(2, .string (⟨[97, 115, 106].toArray⟩))] (by kernel_rfl) ?_
         refine OW.nil rfl ?_
         refine QW.next ?_
         refine CW.ret ?_
         refine QW.block_ret ?_
         refine QW.then_ret ?_
         obtain rfl := Option.some.inj hF
         refine QW.ret1 rfl rfl ?_
         exact ⟨rfl, hst.keep [] rfl⟩
        ·have hF := ite_f hF hc21
         refine CW.cond_f rfl hc21 ?_
         refine CW.seq ?_
         refine CW.region ?_
         refine OW.pure 2 [(19, .bool (p0 == 20))] (by kernel_rfl) ?_
         refine OW.nil rfl ?_
         refine QW.next ?_
         rcases Bool.eq_false_or_eq_true ((p0 == 20)) with hc22 | hc22
         ·have hF := ite_t hF hc22
          refine CW.cond_t rfl hc22 ?_
          refine CW.seq ?_
          refine CW.region ?_
          refine OW.pure 1 [(2, .string (⟨[97, 106, 110].toArray⟩))] (by kernel_rfl) ?_
          refine OW.nil rfl ?_
          refine QW.next ?_
          refine CW.ret ?_
          refine QW.block_ret ?_
          refine QW.then_ret ?_
          obtain rfl := Option.some.inj hF
          refine QW.ret1 rfl rfl ?_
          exact ⟨rfl, hst.keep [] rfl⟩
         ·have hF := ite_f hF hc22
          refine CW.cond_f rfl hc22 ?_
          refine CW.seq ?_
          refine CW.region ?_
          refine OW.pure 2 [(21, .bool (p0 == 21))] (by kernel_rfl) ?_
          refine OW.nil rfl ?_
          refine QW.next ?_
          rcases Bool.eq_false_or_eq_true ((p0 == 21)) with hc23 | hc23
          ·have hF := ite_t hF hc23
           refine CW.cond_t rfl hc23 ?_
           refine CW.seq ?_
           refine CW.region ?_
           refine OW.pure 1 [(2, .string (⟨[110].toArray⟩))] (by kernel_rfl) ?_
           refine OW.nil rfl ?_
           refine QW.next ?_
           refine CW.ret ?_
           refine QW.block_ret ?_
           refine QW.then_ret ?_
           obtain rfl := Option.some.inj hF
           refine QW.ret1 rfl rfl ?_
           exact ⟨rfl, hst.keep [] rfl⟩
          ·have hF := ite_f hF hc23
           refine CW.cond_f rfl hc23 ?_
           refine CW.seq ?_
           refine CW.region ?_
           refine OW.pure 2 [(23, .bool (p0 == 22))] (by kernel_rfl) ?_
           refine OW.nil rfl ?_
           refine QW.next ?_
           rcases Bool.eq_false_or_eq_true ((p0 == 22)) with hc24 | hc24
           ·have hF := ite_t hF hc24
            refine CW.cond_t rfl hc24 ?_
            refine CW.seq ?_
            refine CW.region ?_
            refine OW.pure 1 [(2, .string (⟨[97].toArray⟩))] (by kernel_rfl) ?_
            refine OW.nil rfl ?_
            refine QW.next ?_
            refine CW.ret ?_
            refine QW.block_ret ?_
            refine QW.then_ret ?_
            obtain rfl := Option.some.inj hF
            refine QW.ret1 rfl rfl ?_
            exact ⟨rfl, hst.keep [] rfl⟩
           ·have hF := ite_f hF hc24
            refine CW.cond_f rfl hc24 ?_
            refine CW.skip ?_
            refine QW.block_normal ?_
            refine QW.next ?_
            refine CW.seq ?_
            refine CW.region ?_
            refine OW.pure 1 [(2, .string (⟨[100, 97, 115].toArray⟩))] (by kernel_rfl) ?_
            refine OW.nil rfl ?_
            refine QW.next ?_
            refine CW.ret ?_
            obtain rfl := Option.some.inj hF
            refine QW.ret1 rfl rfl ?_
            exact ⟨rfl, hst.keep [] rfl⟩

theorem strconv_Itoa_ok (w : World) (p0 : Int) (r : ByteArray) (hF : strconv_Itoa p0 = some r) (hst : St w (fp []) w []) (hTL : LibG Tryd.prog 2 1 3 4 w (fp [])) :
    Calls Tryd.prog 29 [.int .i64 p0].toArray w (fun e w' => e = .returned (.string r) ∧ St w (fp []) w' []) :=
  itoa_ok Tryd.strconv_Itoa hF (hTL.tab (by kernel_rfl))

set_option maxRecDepth 10000 in
set_option maxHeartbeats 4000000 in
theorem lines_reg_ok (w : World) (p0 : Int) (r : ByteArray) (hF : lines_reg p0 = some r)
    (hst : St w (fp []) w []) (hTL : LibG Tryd.prog 2 1 3 4 w (fp [])) :
    Calls Tryd.prog 28 [.int .i64 p0].toArray w (fun e w' => e = .returned (.string r) ∧ St w (fp []) w' []) := by
 refine CW.start (N := 6) Tryd.func28 rfl rfl rfl ?_
 refine CW.seq ?_
 refine CW.region ?_
 refine OW.pure 1 [] (by kernel_rfl) ?_
 refine OW.nil rfl ?_
 refine QW.next ?_
 refine CW.seq ?_
 refine CW.region ?_
 refine OW.pure 1 [(3, .int .i64 p0)] (by kernel_rfl) ?_
 obtain ⟨r7, hr8, hF⟩ := bind_some' hF
 refine OW.fn rfl rfl rfl rfl (by kernel_rfl) (strconv_Itoa_ok _ p0 r7 hr8 (hst.part [] rfl) (hTL.give hst [])) ?_
 rintro e w9 ⟨rfl, hst10⟩
 refine ⟨_, rfl, ?_⟩
 have hst := hst.join (idx := []) (rest := []) rfl hst10
 obtain ⟨x11, hx12, hF⟩ := bind_some' hF
 refine OW.op (v := .string x11) rfl rfl rfl rfl (fun a ha => cat_run rfl rfl rfl (by kernel_rfl) hx12 a _ ha) ?_
 refine OW.pure 1 [(2, .string x11)] (by kernel_rfl) ?_
 refine OW.nil rfl ?_
 refine QW.next ?_
 refine CW.ret ?_
 obtain rfl := Option.some.inj hF
 refine QW.ret1 rfl rfl ?_
 exact ⟨rfl, hst.keep [] rfl⟩

theorem strconv_FormatInt_ok (w : World) (p0 p1 : Int) (r : ByteArray) (hF : strconv_FormatInt p0 p1 = some r) (hst : St w (fp []) w []) (hTL : LibG Tryd.prog 2 1 3 4 w (fp [])) :
    Calls Tryd.prog 30 [.int .i64 p0, .int .i64 p1].toArray w (fun e w' => e = .returned (.string r) ∧ St w (fp []) w' []) :=
  format_ok Tryd.strconv_FormatInt_10 hF (hTL.tab (by kernel_rfl))

theorem strings_Join_ok (w : World) (v0 : Value) (p0 : List ByteArray) (p1 : ByteArray) (r : ByteArray) (hF : strings_Join p0 p1 = some r) (hst : St w (fp []) w []) (h0 : Rd w (fp []) v0 encText 1 p0) :
    Calls Tryd.prog 31 [v0, .string p1].toArray w (fun e w' => e = .returned (.string r) ∧ St w (fp []) w' []) :=
  join_ok Tryd.strings_Join Tryd.strings_Join_none hF h0

set_option maxRecDepth 10000 in
set_option maxHeartbeats 4000000 in
theorem lines_line_ok (w : World) (fu : Nat) (p0 : api_Inst) (r : ByteArray) (hF : lines_line fu p0 = some r)
    (hst : St w (fp []) w []) (hT0 : Rd w (fp []) (.slice (some ⟨0, 0, none⟩) 23 23) enc_ops_form 2 tab_g0) (hTL : LibG Tryd.prog 2 1 3 4 w (fp [])) :
    Calls Tryd.prog 17 [.agg [.int .i64 p0.Op, .int .i64 p0.D, .int .i64 p0.A, .int .i64 p0.B, .int .i64 p0.Imm].toArray].toArray w (fun e w' => e = .returned (.string r) ∧ St w (fp []) w' []) := by
 refine CW.start (N := 66) Tryd.func17 rfl rfl rfl ?_
 refine CW.seq ?_
 refine CW.region ?_
 refine OW.box hst rfl rfl rfl rfl [.int .i64 p0.Op, .int .i64 p0.D, .int .i64 p0.A, .int .i64 p0.B, .int .i64 p0.Imm] rfl ?_
 intro b3 w4 hst
 refine OW.pure 1 [] (by kernel_rfl) ?_
 refine OW.nil rfl ?_
 refine QW.next ?_
 refine CW.seq ?_
 refine CW.region ?_
 refine OW.pure 1 [(6, .pointer (some ⟨b3, 0, none⟩))] (by kernel_rfl) ?_
 refine OW.ld rfl rfl rfl rfl (by kernel_rfl) (hst.blk 0 rfl rfl) ?_
 obtain ⟨r11, hr12, hF⟩ := bind_some' hF
 refine OW.fn rfl rfl rfl rfl (by kernel_rfl) (ops_Name_ok _ p0.Op r11 hr12 (hst.part [] rfl) (hT0.give hst [])) ?_
 rintro e w13 ⟨rfl, hst14⟩
 refine ⟨_, rfl, ?_⟩
 have hst := hst.join (idx := []) (rest := [0]) rfl hst14
 refine OW.row (α := ByteArray) (e := 9) (enc := encText) (sz := 1) hst rfl rfl rfl [r11] rfl (fun _ => rfl) rfl rfl (fun _ => by kernel_rfl) ?_
 intro g15 w16 hst
 refine OW.pure 1 [(3, .slice (some ⟨g15, 0, none⟩) 1 1)] (by kernel_rfl) ?_
 refine OW.nil rfl ?_
 refine QW.next ?_
 refine CW.seq ?_
 refine CW.seq ?_
 refine CW.region ?_
 refine OW.pure 1 [(10, .pointer (some ⟨b3, 0, none⟩))] (by kernel_rfl) ?_
 refine OW.ld rfl rfl rfl rfl (by kernel_rfl) (hst.blk 0 rfl rfl) ?_
 obtain ⟨r23, hr24, hF⟩ := bind_some' hF
 refine OW.fn rfl rfl rfl rfl (by kernel_rfl) (lines_order_ok _ p0.Op r23 hr24 (hst.part [] rfl)) ?_
 rintro e w25 ⟨rfl, hst26⟩
 refine ⟨_, rfl, ?_⟩
 have hst := hst.join (idx := []) (rest := [0, 1]) rfl hst26
 refine OW.srange (s := r23) hst rfl rfl rfl rfl (by kernel_rfl) ?_
 intro it27 w28 hst
 refine OW.nil rfl ?_
 refine QW.next ?_
 obtain ⟨o465, ho466, hF⟩ := bind_some' hF
 refine CW.cutK (fun a w1 => ∃ (v464 : Value), Rep 66 [(3, v464)] a ∧ St w (fp []) w1 [rowI v464 9 encText 1 o465]) ?_ ?_
 ·refine CW.block ?_
  refine CW.loop (fun n a w1 => ∃ (s754 : (List ByteArray) × Nat) (v755 : Value), Rep 66 [(1, .pointer (some ⟨b3, 0, none⟩)), (3, v755), (13, .pointer (some ⟨it27, 0, none⟩))] a ∧ St w (fp []) w1 [blkI b3 32 [.int .i64 p0.Op, .int .i64 p0.D, .int .i64 p0.A, .int .i64 p0.B, .int .i64 p0.Imm], rowI v755 9 encText 1 s754.1, sitI it27 r23 s754.2] ∧ loop (lines_line_l1 p0 r23) n s754 = some o465) fu (fun a ha => ⟨([r11], 0), (.slice (some ⟨g15, 0, none⟩) 1 1), ha.agrees (by kernel_rfl), hst.keep [0, 1, 2] rfl, ho466⟩) ?_
  rintro n752 a w1 ⟨s754, v755, ha, hst, hl753⟩
  rcases n752 with _ | n752
  ·exact (loop_zero hl753).elim
  refine CW.go ?_ ha
  obtain ⟨l756, a757, c758, rfl⟩ := hst.len 1 rfl
  refine CW.seq ?_
  refine CW.region ?_
  refine OW.snext hst 2 rfl rfl rfl rfl rfl ?_ ?_
  ·intro hp761 w762 hst
   have hl753 := ite_t hl753 hp761
   refine OW.pure 1 [(15, .bool true)] (by kernel_rfl) ?_
   refine OW.nil rfl ?_
   refine QW.next ?_
   refine CW.seq ?_
   refine CW.cond_t rfl rfl ?_
   refine CW.skip ?_
   refine QW.next ?_
   refine CW.block ?_
   refine CW.seq ?_
   refine CW.region ?_
   refine OW.pure 2 [(5, .int .i32 (runeAt r23 s754.2))] (by kernel_rfl) ?_
   refine OW.nil rfl ?_
   refine QW.next ?_
   refine CW.block ?_
   refine CW.seq ?_
   refine CW.region ?_
   refine OW.pure 3 [(23, .bool ((runeAt r23 s754.2) == 100))] (by kernel_rfl) ?_
   refine OW.nil rfl ?_
   refine QW.next ?_
   rcases Bool.eq_false_or_eq_true (((runeAt r23 s754.2) == 100)) with hc763 | hc763
   ·have hl753 := ite_t hl753 hc763
    refine CW.cond_t rfl hc763 ?_
    refine CW.region ?_
    refine OW.pure 2 [(26, .slice a757 (s754.1).length c758), (27, .pointer (some ⟨b3, 1, none⟩))] (by kernel_rfl) ?_
    refine OW.ld rfl rfl rfl rfl (by kernel_rfl) (hst.blk 0 rfl rfl) ?_
    obtain ⟨r777, hr778, hl753⟩ := bind_some' hl753
    refine OW.fn rfl rfl rfl rfl (by kernel_rfl) (lines_reg_ok _ p0.D r777 hr778 (hst.part [] rfl) (hTL.give hst [])) ?_
    rintro e w779 ⟨rfl, hst780⟩
    refine ⟨_, rfl, ?_⟩
    have hst := hst.join (idx := []) (rest := [0, 1, 2]) rfl hst780
    refine OW.row (α := ByteArray) (e := 9) (enc := encText) (sz := 1) hst rfl rfl rfl [r777] rfl (fun _ => rfl) rfl rfl (fun _ => by kernel_rfl) ?_
    intro g781 w782 hst
    obtain ⟨u783, hr784, hl753⟩ := bind_some' hl753
    refine OW.app hst 1 rfl (fun _ => rfl) (fun _ => rfl) rfl rfl rfl rfl rfl rfl (by kernel_rfl) el9 (hst.rd 3 rfl (fun _ => rfl) [] rfl (hst.len 3 rfl).1) (room_le hr784) ?_
    intro v785 w786 hst
    obtain ⟨l787, a788, c789, rfl⟩ := hst.len 1 rfl
    refine OW.pure 1 [(3, .slice a788 ((s754.1 ++ [r777])).length c789)] (by kernel_rfl) ?_
    refine OW.nil rfl ?_
    refine QW.block_normal ?_
    refine QW.block_normal ?_
    exact QW.meet (fun a ha => ⟨n752, Nat.lt_succ_self _, ((s754.1 ++ [r777]), (runeEnd r23 s754.2)), (.slice a788 ((s754.1 ++ [r777])).length c789), ha.agrees (by kernel_rfl), hst.keep [0, 1, 2] rfl, hl753⟩)
   ·have hl753 := ite_f hl753 hc763
    refine CW.cond_f rfl hc763 ?_
    refine CW.seq ?_
    refine CW.region ?_
    refine OW.pure 3 [(32, .bool ((runeAt r23 s754.2) == 97))] (by kernel_rfl) ?_
    refine OW.nil rfl ?_
    refine QW.next ?_
    rcases Bool.eq_false_or_eq_true (((runeAt r23 s754.2) == 97)) with hc791 | hc791
    ·have hl753 := ite_t hl753 hc791
     refine CW.cond_t rfl hc791 ?_
     refine CW.region ?_
     refine OW.pure 2 [(35, .slice a757 (s754.1).length c758), (36, .pointer (some ⟨b3, 2, none⟩))] (by kernel_rfl) ?_
     refine OW.ld rfl rfl rfl rfl (by kernel_rfl) (hst.blk 0 rfl rfl) ?_
     obtain ⟨r805, hr806, hl753⟩ := bind_some' hl753
     refine OW.fn rfl rfl rfl rfl (by kernel_rfl) (lines_reg_ok _ p0.A r805 hr806 (hst.part [] rfl) (hTL.give hst [])) ?_
     rintro e w807 ⟨rfl, hst808⟩
     refine ⟨_, rfl, ?_⟩
     have hst := hst.join (idx := []) (rest := [0, 1, 2]) rfl hst808
     refine OW.row (α := ByteArray) (e := 9) (enc := encText) (sz := 1) hst rfl rfl rfl [r805] rfl (fun _ => rfl) rfl rfl (fun _ => by kernel_rfl) ?_
     intro g809 w810 hst
     obtain ⟨u811, hr812, hl753⟩ := bind_some' hl753
     refine OW.app hst 1 rfl (fun _ => rfl) (fun _ => rfl) rfl rfl rfl rfl rfl rfl (by kernel_rfl) el9 (hst.rd 3 rfl (fun _ => rfl) [] rfl (hst.len 3 rfl).1) (room_le hr812) ?_
     intro v813 w814 hst
     obtain ⟨l815, a816, c817, rfl⟩ := hst.len 1 rfl
     refine OW.pure 1 [(3, .slice a816 ((s754.1 ++ [r805])).length c817)] (by kernel_rfl) ?_
     refine OW.nil rfl ?_
     refine QW.block_normal ?_
     refine QW.block_normal ?_
     exact QW.meet (fun a ha => ⟨n752, Nat.lt_succ_self _, ((s754.1 ++ [r805]), (runeEnd r23 s754.2)), (.slice a816 ((s754.1 ++ [r805])).length c817), ha.agrees (by kernel_rfl), hst.keep [0, 1, 2] rfl, hl753⟩)
    ·have hl753 := ite_f hl753 hc791
     refine CW.cond_f rfl hc791 ?_
     refine CW.seq ?_
     refine CW.region ?_
     refine OW.pure 3 [(41, .bool ((runeAt r23 s754.2) == 106))] (by kernel_rfl) ?_
     refine OW.nil rfl ?_
     refine QW.next ?_
     rcases Bool.eq_false_or_eq_true (((runeAt r23 s754.2) == 106)) with hc819 | hc819
     ·have hl753 := ite_t hl753 hc819
      refine CW.cond_t rfl hc819 ?_
      refine CW.region ?_
      refine OW.pure 2 [(44, .slice a757 (s754.1).length c758), (45, .pointer (some ⟨b3, 1, none⟩))] (by kernel_rfl) ?_
      refine OW.ld rfl rfl rfl rfl (by kernel_rfl) (hst.blk 0 rfl rfl) ?_
      obtain ⟨r833, hr834, hl753⟩ := bind_some' hl753
      refine OW.fn rfl rfl rfl rfl (by kernel_rfl) (strconv_Itoa_ok _ p0.D r833 hr834 (hst.part [] rfl) (hTL.give hst [])) ?_
      rintro e w835 ⟨rfl, hst836⟩
      refine ⟨_, rfl, ?_⟩
      have hst := hst.join (idx := []) (rest := [0, 1, 2]) rfl hst836
      refine OW.row (α := ByteArray) (e := 9) (enc := encText) (sz := 1) hst rfl rfl rfl [r833] rfl (fun _ => rfl) rfl rfl (fun _ => by kernel_rfl) ?_
      intro g837 w838 hst
      obtain ⟨u839, hr840, hl753⟩ := bind_some' hl753
      refine OW.app hst 1 rfl (fun _ => rfl) (fun _ => rfl) rfl rfl rfl rfl rfl rfl (by kernel_rfl) el9 (hst.rd 3 rfl (fun _ => rfl) [] rfl (hst.len 3 rfl).1) (room_le hr840) ?_
      intro v841 w842 hst
      obtain ⟨l843, a844, c845, rfl⟩ := hst.len 1 rfl
      refine OW.pure 1 [(3, .slice a844 ((s754.1 ++ [r833])).length c845)] (by kernel_rfl) ?_
      refine OW.nil rfl ?_
      refine QW.block_normal ?_
      refine QW.block_normal ?_
      exact QW.meet (fun a ha => ⟨n752, Nat.lt_succ_self _, ((s754.1 ++ [r833]), (runeEnd r23 s754.2)), (.slice a844 ((s754.1 ++ [r833])).length c845), ha.agrees (by kernel_rfl), hst.keep [0, 1, 2] rfl, hl753⟩)
     ·have hl753 := ite_f hl753 hc819
      refine CW.cond_f rfl hc819 ?_
      refine CW.seq ?_
      refine CW.cutK (fun a w1 => Rep 66 [(1, .pointer (some ⟨b3, 0, none⟩)), (3, .slice a757 (s754.1).length c758), (13, .pointer (some ⟨it27, 0, none⟩)), (50, .bool (((runeAt r23 s754.2) == 115) && (p0.B != 8)))] a ∧ St w (fp []) w1 [blkI b3 32 [.int .i64 p0.Op, .int .i64 p0.D, .int .i64 p0.A, .int .i64 p0.B, .int .i64 p0.Imm], rowI (.slice a757 (s754.1).length c758) 9 encText 1 s754.1, sitI it27 r23 (runeEnd r23 s754.2)]) ?_ ?_
      ·refine CW.region ?_
       refine OW.pure 3 [(53, .bool ((runeAt r23 s754.2) == 115))] (by kernel_rfl) ?_
       refine OW.split 53 rfl (fun hc847 => ?_) (fun hc847 => ?_)
       ·refine OW.pure 1 [(54, .pointer (some ⟨b3, 3, none⟩))] (by kernel_rfl) ?_
        refine OW.ld rfl rfl rfl rfl (by kernel_rfl) (hst.blk 0 rfl rfl) ?_
        refine OW.pure 3 [(50, .bool (p0.B != 8))] (by kernel_rfl) ?_
        refine OW.nil rfl ?_
        refine QW.say 50 (v := .bool (((runeAt r23 s754.2) == 115) && (p0.B != 8))) rfl (by first | (rw [hc847]; done) | (rw [hc847]; rfl) | simp [hc847]) ?_
        exact QW.meet (fun a ha => ⟨ha.agrees (by kernel_rfl), hst.keep [0, 1, 2] rfl⟩)
       ·refine OW.pure 5 [(50, .bool false)] (by kernel_rfl) ?_
        refine OW.nil rfl ?_
        refine QW.say 50 (v := .bool (((runeAt r23 s754.2) == 115) && (p0.B != 8))) rfl (by first | (rw [hc847]; done) | (rw [hc847]; rfl) | simp [hc847]) ?_
        exact QW.meet (fun a ha => ⟨ha.agrees (by kernel_rfl), hst.keep [0, 1, 2] rfl⟩)
      ·rintro a w1 ⟨ha, hst⟩
       refine CW.go ?_ ha
       rcases Bool.eq_false_or_eq_true ((((runeAt r23 s754.2) == 115) && (p0.B != 8))) with hc848 | hc848
       ·have hl753 := ite_t hl753 hc848
        refine CW.cond_t rfl hc848 ?_
        refine CW.region ?_
        refine OW.pure 2 [(58, .slice a757 (s754.1).length c758), (59, .pointer (some ⟨b3, 3, none⟩))] (by kernel_rfl) ?_
        refine OW.ld rfl rfl rfl rfl (by kernel_rfl) (hst.blk 0 rfl rfl) ?_
        obtain ⟨r862, hr863, hl753⟩ := bind_some' hl753
        refine OW.fn rfl rfl rfl rfl (by kernel_rfl) (lines_reg_ok _ p0.B r862 hr863 (hst.part [] rfl) (hTL.give hst [])) ?_
        rintro e w864 ⟨rfl, hst865⟩
        refine ⟨_, rfl, ?_⟩
        have hst := hst.join (idx := []) (rest := [0, 1, 2]) rfl hst865
        refine OW.row (α := ByteArray) (e := 9) (enc := encText) (sz := 1) hst rfl rfl rfl [r862] rfl (fun _ => rfl) rfl rfl (fun _ => by kernel_rfl) ?_
        intro g866 w867 hst
        obtain ⟨u868, hr869, hl753⟩ := bind_some' hl753
        refine OW.app hst 1 rfl (fun _ => rfl) (fun _ => rfl) rfl rfl rfl rfl rfl rfl (by kernel_rfl) el9 (hst.rd 3 rfl (fun _ => rfl) [] rfl (hst.len 3 rfl).1) (room_le hr869) ?_
        intro v870 w871 hst
        obtain ⟨l872, a873, c874, rfl⟩ := hst.len 1 rfl
        refine OW.pure 1 [(3, .slice a873 ((s754.1 ++ [r862])).length c874)] (by kernel_rfl) ?_
        refine OW.nil rfl ?_
        refine QW.block_normal ?_
        refine QW.block_normal ?_
        exact QW.meet (fun a ha => ⟨n752, Nat.lt_succ_self _, ((s754.1 ++ [r862]), (runeEnd r23 s754.2)), (.slice a873 ((s754.1 ++ [r862])).length c874), ha.agrees (by kernel_rfl), hst.keep [0, 1, 2] rfl, hl753⟩)
       ·have hl753 := ite_f hl753 hc848
        refine CW.cond_f rfl hc848 ?_
        refine CW.region ?_
        refine OW.pure 2 [(17, .slice a757 (s754.1).length c758), (18, .pointer (some ⟨b3, 4, none⟩))] (by kernel_rfl) ?_
        refine OW.ld rfl rfl rfl rfl (by kernel_rfl) (hst.blk 0 rfl rfl) ?_
        obtain ⟨r889, hr890, hl753⟩ := bind_some' hl753
        refine OW.fn rfl rfl rfl rfl (by kernel_rfl) (strconv_FormatInt_ok _ p0.Imm 10 r889 hr890 (hst.part [] rfl) (hTL.give hst [])) ?_
        rintro e w891 ⟨rfl, hst892⟩
        refine ⟨_, rfl, ?_⟩
        have hst := hst.join (idx := []) (rest := [0, 1, 2]) rfl hst892
        refine OW.row (α := ByteArray) (e := 9) (enc := encText) (sz := 1) hst rfl rfl rfl [r889] rfl (fun _ => rfl) rfl rfl (fun _ => by kernel_rfl) ?_
        intro g893 w894 hst
        obtain ⟨u895, hr896, hl753⟩ := bind_some' hl753
        refine OW.app hst 1 rfl (fun _ => rfl) (fun _ => rfl) rfl rfl rfl rfl rfl rfl (by kernel_rfl) el9 (hst.rd 3 rfl (fun _ => rfl) [] rfl (hst.len 3 rfl).1) (room_le hr896) ?_
        intro v897 w898 hst
        obtain ⟨l899, a900, c901, rfl⟩ := hst.len 1 rfl
        refine OW.pure 1 [(3, .slice a900 ((s754.1 ++ [r889])).length c901)] (by kernel_rfl) ?_
        refine OW.nil rfl ?_
        refine QW.block_normal ?_
        refine QW.block_normal ?_
        exact QW.meet (fun a ha => ⟨n752, Nat.lt_succ_self _, ((s754.1 ++ [r889]), (runeEnd r23 s754.2)), (.slice a900 ((s754.1 ++ [r889])).length c901), ha.agrees (by kernel_rfl), hst.keep [0, 1, 2] rfl, hl753⟩)
  ·intro hp761
   have hl753 := ite_f hl753 hp761
   refine OW.pure 1 [(15, .bool false)] (by kernel_rfl) ?_
   refine OW.nil rfl ?_
   refine QW.next ?_
   refine CW.seq ?_
   refine CW.cond_f rfl rfl ?_
   refine CW.exit ?_
   refine QW.then_exit ?_
   refine QW.then_exit ?_
   refine QW.block_here ?_
   obtain rfl := Option.some.inj hl753
   exact QW.meet (fun a ha => ⟨(.slice a757 (s754.1).length c758), ha.agrees (by kernel_rfl), hst.keep [1] rfl⟩)
 ·rintro a w1 ⟨v464, ha, hst⟩
  refine CW.go ?_ ha
  obtain ⟨l904, a905, c906, rfl⟩ := hst.len 0 rfl
  refine CW.seq ?_
  refine CW.region ?_
  refine OW.pure 1 [(64, .slice a905 (o465).length c906)] (by kernel_rfl) ?_
  obtain ⟨r911, hr912, hF⟩ := bind_some' hF
  refine OW.fn rfl rfl rfl rfl (by kernel_rfl) (strings_Join_ok _ (.slice a905 (o465).length c906) o465 (⟨[32].toArray⟩) r911 hr912 (hst.part [] rfl) (hst.rd 0 rfl (fun _ => rfl) [] rfl (hst.len 0 rfl).1)) ?_
  rintro e w913 ⟨rfl, hst914⟩
  refine ⟨_, rfl, ?_⟩
  have hst := hst.join (idx := []) (rest := [0]) rfl hst914
  refine OW.pure 1 [(2, .string r911)] (by kernel_rfl) ?_
  refine OW.nil rfl ?_
  refine QW.next ?_
  refine CW.ret ?_
  obtain rfl := Option.some.inj hF
  refine QW.ret1 rfl rfl ?_
  exact ⟨rfl, hst.keep [] rfl⟩

set_option maxRecDepth 10000 in
set_option maxHeartbeats 4000000 in
theorem lines_Print_ok (w : World) (fu : Nat) (v0 : Value) (p0 : List api_Inst) (r : ByteArray × Int) (hF : lines_Print fu p0 = some r)
    (hst : St w (fp []) w []) (h0 : Rd w (fp []) v0 enc_api_Inst 5 p0) (hT0 : Rd w (fp []) (.slice (some ⟨0, 0, none⟩) 23 23) enc_ops_form 2 tab_g0) (hTL : LibG Tryd.prog 2 1 3 4 w (fp [])) :
    Calls Tryd.prog 10 [v0].toArray w (fun e w' => e = .returned (.tuple #[.string r.1, .int .i64 r.2]) ∧ St w (fp []) w' []) := by
 refine CW.start (N := 22) Tryd.func10 rfl rfl rfl ?_
 obtain ⟨l1, a2, c3, rfl⟩ := h0.len
 refine CW.seq ?_
 refine CW.region ?_
 refine OW.pure 2 [] (by kernel_rfl) ?_
 refine OW.nil rfl ?_
 refine QW.next ?_
 refine CW.seq ?_
 refine CW.seq ?_
 refine CW.region ?_
 refine OW.pure 1 [(7, .slice a2 (p0).length c3)] (by kernel_rfl) ?_
 obtain ⟨r8, hr9, hF⟩ := bind_some' hF
 refine OW.fn rfl rfl rfl rfl (by kernel_rfl) (ops_Right_ok _ (.slice a2 (p0).length c3) p0 r8 hr9 (hst.part [] rfl) (h0.give hst []) (hT0.give hst [])) ?_
 rintro e w10 ⟨rfl, hst11⟩
 refine ⟨_, rfl, ?_⟩
 have hst := hst.join (idx := []) (rest := []) rfl hst11
 refine OW.pure 1 [(9, .bool (!r8))] (by kernel_rfl) ?_
 refine OW.nil rfl ?_
 refine QW.next ?_
 rcases Bool.eq_false_or_eq_true ((!r8)) with hc12 | hc12
 ·have hF := ite_t hF hc12
  refine CW.cond_t rfl hc12 ?_
  refine CW.seq ?_
  refine CW.region ?_
  refine OW.pure 2 [(2, .string ByteArray.empty), (3, .int .i64 12)] (by kernel_rfl) ?_
  refine OW.nil rfl ?_
  refine QW.next ?_
  refine CW.ret ?_
  refine QW.then_ret ?_
  obtain rfl := Option.some.inj hF
  refine QW.ret2 rfl rfl rfl ?_
  exact ⟨rfl, hst.keep [] rfl⟩
 ·have hF := ite_f hF hc12
  refine CW.cond_f rfl hc12 ?_
  refine CW.skip ?_
  refine QW.next ?_
  refine CW.seq ?_
  refine CW.region ?_
  refine OW.alloc hst rfl rfl rfl [.pointer none, .slice none 0 0] (by kernel_rfl) ?_
  intro b15 w16 hst
  have hst := hst.toBld 5 0 rfl
  refine OW.nil rfl ?_
  refine QW.next ?_
  refine CW.seq ?_
  refine CW.seq ?_
  refine CW.region ?_
  refine OW.pure 3 [(10, .slice a2 (p0).length c3), (11, .int .i64 ((p0).length : Int)), (12, .int .i64 0)] (by kernel_rfl) ?_
  refine OW.nil rfl ?_
  refine QW.next ?_
  obtain ⟨o144, ho145, hF⟩ := bind_some' hF
  refine CW.cutK (fun a w1 => ∃ (S143 : List Nat), Rep 22 [(4, .pointer (some ⟨b15, 0, none⟩))] a ∧ St w (fp []) w1 [itI R_t42 [.pointer (some ⟨b15, 0, none⟩)] S143 o144]) ?_ ?_
  ·refine CW.block ?_
   refine CW.loop (fun n a w1 => ∃ (i231 : Nat) (s229 : ByteArray) (S230 : List Nat), i231 + n = (p0).length ∧ Rep 22 [(4, .pointer (some ⟨b15, 0, none⟩)), (10, .slice a2 (p0).length c3), (11, .int .i64 ((p0).length : Int)), (12, .int .i64 (i231 : Int))] a ∧ St w (fp []) w1 [itI R_t42 [.pointer (some ⟨b15, 0, none⟩)] S230 s229] ∧ forN (lines_Print_l1 fu p0) (fun (s229 : ByteArray) => s229) n i231 s229 = some o144) (p0).length (fun a ha => ⟨0, ByteArray.empty, ([b15]), Nat.zero_add _, ha.agrees (by kernel_rfl), hst.keep [0] rfl, ho145⟩) ?_
   rintro n227 a w1 ⟨i231, s229, S230, hi232, ha, hst, hl228⟩
   refine CW.go ?_ ha
   refine CW.seq ?_
   refine CW.region ?_
   refine OW.pure 1 [(13, .bool (decide ((i231 : Int) < ((p0).length : Int))))] (by kernel_rfl) ?_
   refine OW.nil rfl ?_
   refine QW.next ?_
   refine CW.seq ?_
   rcases Bool.eq_false_or_eq_true (decide ((i231 : Int) < ((p0).length : Int))) with hc233 | hc233
   ·rcases n227 with _ | n227
    ·exact (cnt0 hi232 hc233).elim
    refine CW.cond_t rfl hc233 ?_
    refine CW.skip ?_
    refine QW.next ?_
    refine CW.seq ?_
    refine CW.block ?_
    refine CW.seq ?_
    refine CW.region ?_
    obtain ⟨x243, hx244, hl228⟩ := bind_some' hl228
    obtain ⟨g246, o247, c248, hv245⟩ := h0.formv (fun _ => ⟨_, rfl⟩) hx244
    refine OW.idx 32 5 rfl rfl rfl rfl hv245 rfl (idx_some hx244).1 (idx_some hx244).2.1 (by kernel_rfl) (by kernel_rfl) ?_
    refine OW.ldN (cs := enc_api_Inst x243) rfl rfl rfl rfl (by kernel_rfl) (by kernel_rfl) (h0.cellv hst hx244 hv245) ?_
    refine OW.alloc hst rfl rfl rfl [.int .i64 0, .int .i64 0, .int .i64 0, .int .i64 0, .int .i64 0] (by kernel_rfl) ?_
    intro b249 w250 hst
    refine OW.stB hst 1 rfl rfl rfl rfl rfl (by kernel_rfl) rfl rfl [.int .i64 x243.Op, .int .i64 x243.D, .int .i64 x243.A, .int .i64 x243.B, .int .i64 x243.Imm] rfl ?_
    intro w251 hst
    refine OW.nil rfl ?_
    refine QW.next ?_
    refine CW.region ?_
    refine OW.ldN (cs := [.int .i64 x243.Op, .int .i64 x243.D, .int .i64 x243.A, .int .i64 x243.B, .int .i64 x243.Imm]) rfl rfl rfl rfl (by kernel_rfl) (by kernel_rfl) (hst.blkN 1 rfl 0 5) ?_
    obtain ⟨r262, hr263, hl228⟩ := bind_some' hl228
    refine OW.fn rfl rfl rfl rfl (by kernel_rfl) (lines_line_ok _ fu x243 r262 hr263 (hst.part [] rfl) (hT0.give hst []) (hTL.give hst [])) ?_
    rintro e w264 ⟨rfl, hst265⟩
    refine ⟨_, rfl, ?_⟩
    have hst := hst.join (idx := []) (rest := [0, 1]) rfl hst265
    obtain ⟨x266, hx267, hl228⟩ := bind_some' hl228
    refine OW.op (v := .string x266) rfl rfl rfl rfl (fun a ha => cat_run rfl rfl rfl (by kernel_rfl) hx267 a _ ha) ?_
    obtain ⟨r268, hr269, hl228⟩ := bind_some' hl228
    refine OW.fn rfl rfl rfl rfl (by kernel_rfl) (Tryd.bwrite_st hst 0 rfl (fun i it hi h => match i, hi, h with | 0, hi, _ => absurd rfl hi | 1, _, h => ⟨_, _, _, (Option.some.inj h).symm, by decide⟩ | n + 2, _, h => absurd (show n + 2 < 2 from (List.getElem?_eq_some_iff.1 h).1) (by omega)) hr269) ?_
    rintro e w271 ⟨S270, rfl, hst⟩
    refine ⟨_, rfl, ?_⟩
    refine OW.nil rfl ?_
    refine QW.block_normal ?_
    refine QW.next ?_
    refine CW.region ?_
    refine OW.pure 2 [(12, .int .i64 (w64 ((i231 : Int) + 1)))] (by kernel_rfl) ?_
    refine OW.nil rfl ?_
    refine QW.say 12 rfl (congrArg (Value.int .i64) (w64_cnt hc233 l1)) ?_
    exact QW.meet (fun a ha => ⟨n227, Nat.lt_succ_self _, i231 + 1, r268, S270, cnt_next hi232, ha.agrees (by kernel_rfl), hst.keep [0] rfl, hl228⟩)
   ·rcases n227 with _ | n227
    ·refine CW.cond_f rfl hc233 ?_
     refine CW.exit ?_
     refine QW.then_exit ?_
     refine QW.then_exit ?_
     refine QW.block_here ?_
     obtain rfl := Option.some.inj hl228
     exact QW.meet (fun a ha => ⟨S230, ha.agrees (by kernel_rfl), hst.keep [0] rfl⟩)
    ·exact (cnt1 hi232 hc233).elim
  ·rintro a w1 ⟨S143, ha, hst⟩
   refine CW.go ?_ ha
   refine CW.seq ?_
   refine CW.region ?_
   refine OW.fn rfl rfl rfl rfl (by kernel_rfl) (bstring_ok Tryd.Builder_String_any_f hst) ?_
   rintro e w275 ⟨S274, rfl, hst⟩
   refine ⟨_, rfl, ?_⟩
   refine OW.pure 2 [(2, .string o144), (3, .int .i64 0)] (by kernel_rfl) ?_
   refine OW.nil rfl ?_
   refine QW.next ?_
   refine CW.ret ?_
   obtain rfl := Option.some.inj hF
   refine QW.ret2 rfl rfl rfl ?_
   exact ⟨rfl, hst.keep [] rfl⟩

theorem stringslite_Index_ok (w : World) (p0 p1 : ByteArray) (r : Int) (hF : stringslite_Index p0 p1 = some r) (hst : St w (fp []) w []) :
    Calls Tryd.prog 56 [.string p0, .string p1].toArray w (fun e w' => e = .returned (.int .i64 r) ∧ St w (fp []) w' []) :=
  index_ok Tryd.stringslite_Index_one hF

set_option maxRecDepth 10000 in
set_option maxHeartbeats 4000000 in
theorem stringslite_Cut_ok (w : World) (p0 : ByteArray) (p1 : ByteArray) (r : ByteArray × ByteArray × Bool) (hF : stringslite_Cut p0 p1 = some r)
    (hst : St w (fp []) w []) :
    Calls Tryd.prog 40 [.string p0, .string p1].toArray w (fun e w' => e = .returned (.tuple #[.string r.1, .string r.2.1, .bool r.2.2]) ∧ St w (fp []) w' []) := by
 refine CW.start (N := 23) Tryd.func40 rfl rfl rfl ?_
 refine CW.seq ?_
 refine CW.region ?_
 refine OW.pure 3 [] (by kernel_rfl) ?_
 refine OW.nil rfl ?_
 refine QW.next ?_
 refine CW.seq ?_
 refine CW.seq ?_
 refine CW.region ?_
 refine OW.pure 2 [(8, .string p0), (9, .string p1)] (by kernel_rfl) ?_
 obtain ⟨r5, hr6, hF⟩ := bind_some' hF
 refine OW.fn rfl rfl rfl rfl (by kernel_rfl) (stringslite_Index_ok _ p0 p1 r5 hr6 (hst.part [] rfl)) ?_
 rintro e w7 ⟨rfl, hst8⟩
 refine ⟨_, rfl, ?_⟩
 have hst := hst.join (idx := []) (rest := []) rfl hst8
 refine OW.pure 1 [(7, .int .i64 r5)] (by kernel_rfl) ?_
 refine OW.nil rfl ?_
 refine QW.next ?_
 refine CW.seq ?_
 refine CW.region ?_
 refine OW.pure 2 [(12, .bool (decide (r5 ≥ 0)))] (by kernel_rfl) ?_
 refine OW.nil rfl ?_
 refine QW.next ?_
 rcases Bool.eq_false_or_eq_true (decide (r5 ≥ 0)) with hc9 | hc9
 ·have hF := ite_t hF hc9
  refine CW.cond_t rfl hc9 ?_
  refine CW.seq ?_
  refine CW.still (by kernel_rfl) (by kernel_rfl) ?_
  intro w16 hch17
  have hst := hst.same hch17
  refine OS.pure 2 [(13, .string p0), (14, .int .i64 r5)] rfl (by kernel_rfl) ?_
  obtain ⟨x18, hx19, hF⟩ := bind_some' hF
  refine OS.op (v := .string x18) rfl rfl rfl rfl rfl (fun a ha => spre_run rfl rfl rfl (by kernel_rfl) hx19 a _ ha) ?_
  refine OS.pure 5 [(16, .string p0), (20, .int .i64 (w64 (r5 + (p1.size : Int))))] rfl (by kernel_rfl) ?_
  obtain ⟨x20, hx21, hF⟩ := bind_some' hF
  refine OS.op (v := .string x20) rfl rfl rfl rfl rfl (fun a ha => ssuf_run rfl rfl rfl (by kernel_rfl) hx21 a _ ha) ?_
  refine OS.pure 3 [(4, .string x18), (5, .string x20), (6, .bool true)] rfl (by kernel_rfl) ?_
  refine OS.fin rfl ?_
  refine QW.next ?_
  refine CW.ret ?_
  refine QW.then_ret ?_
  obtain rfl := Option.some.inj hF
  refine QW.ret3 rfl rfl rfl rfl ?_
  exact ⟨rfl, hst.keep [] rfl⟩
 ·have hF := ite_f hF hc9
  refine CW.cond_f rfl hc9 ?_
  refine CW.skip ?_
  refine QW.next ?_
  refine CW.seq ?_
  refine CW.region ?_
  refine OW.pure 4 [(4, .string p0), (5, .string ByteArray.empty), (6, .bool false)] (by kernel_rfl) ?_
  refine OW.nil rfl ?_
  refine QW.next ?_
  refine CW.ret ?_
  obtain rfl := Option.some.inj hF
  refine QW.ret3 rfl rfl rfl rfl ?_
  exact ⟨rfl, hst.keep [] rfl⟩

set_option maxRecDepth 10000 in
set_option maxHeartbeats 4000000 in
theorem strings_Cut_ok (w : World) (p0 : ByteArray) (p1 : ByteArray) (r : ByteArray × ByteArray × Bool) (hF : strings_Cut p0 p1 = some r)
    (hst : St w (fp []) w []) :
    Calls Tryd.prog 21 [.string p0, .string p1].toArray w (fun e w' => e = .returned (.tuple #[.string r.1, .string r.2.1, .bool r.2.2]) ∧ St w (fp []) w' []) := by
 refine CW.start (N := 13) Tryd.func21 rfl rfl rfl ?_
 refine CW.seq ?_
 refine CW.region ?_
 refine OW.pure 3 [] (by kernel_rfl) ?_
 refine OW.nil rfl ?_
 refine QW.next ?_
 refine CW.seq ?_
 refine CW.region ?_
 refine OW.pure 2 [(7, .string p0), (8, .string p1)] (by kernel_rfl) ?_
 obtain ⟨r5, hr6, hF⟩ := bind_some' hF
 refine OW.fn rfl rfl rfl rfl (by kernel_rfl) (stringslite_Cut_ok _ p0 p1 r5 hr6 (hst.part [] rfl)) ?_
 rintro e w7 ⟨rfl, hst8⟩
 refine ⟨_, rfl, ?_⟩
 have hst := hst.join (idx := []) (rest := []) rfl hst8
 refine OW.pure 6 [(4, .string r5.1), (5, .string r5.2.1), (6, .bool r5.2.2)] (by kernel_rfl) ?_
 refine OW.nil rfl ?_
 refine QW.next ?_
 refine CW.ret ?_
 obtain rfl := Option.some.inj hF
 refine QW.ret3 rfl rfl rfl rfl ?_
 exact ⟨rfl, hst.keep [] rfl⟩

theorem strings_Split_ok (w : World) (p0 p1 : ByteArray) (r : List ByteArray) (hF : strings_Split p0 p1 = some r) (hst : St w (fp []) w []) (hTL : LibG Tryd.prog 2 1 3 4 w (fp [])) :
    Calls Tryd.prog 41 [.string p0, .string p1].toArray w (fun e w' => ∃ x0 : Value, e = .returned x0 ∧ St w (fp []) w' [rowI x0 9 encText 1 r]) :=
  hTL.max.elim fun _ hm => split_ok Tryd.strings_Split hF hm

set_option maxRecDepth 10000 in
set_option maxHeartbeats 4000000 in
theorem ops_Find_ok (w : World) (p0 : ByteArray) (r : Int × Bool) (hF : ops_Find p0 = some r)
    (hst : St w (fp []) w []) (hT0 : Rd w (fp []) (.slice (some ⟨0, 0, none⟩) 23 23) enc_ops_form 2 tab_g0) :
    Calls Tryd.prog 42 [.string p0].toArray w (fun e w' => e = .returned (.tuple #[.int .i64 r.1, .bool r.2]) ∧ St w (fp []) w' []) := by
 refine CW.start (N := 17) Tryd.func42 rfl rfl rfl ?_
 refine CW.seq ?_
 refine CW.region ?_
 refine OW.pure 2 [] (by kernel_rfl) ?_
 refine OW.nil rfl ?_
 refine QW.next ?_
 refine CW.seq ?_
 refine CW.seq ?_
 refine CW.region ?_
 refine OW.ldN (cs := flat enc_ops_form tab_g0) rfl rfl rfl rfl (by kernel_rfl) (by kernel_rfl) (hT0.flatAll hst (fun _ => rfl) (by decide)) ?_
 refine OW.pure 1 [(7, .int .i64 0)] (by kernel_rfl) ?_
 refine OW.nil rfl ?_
 refine QW.next ?_
 obtain ⟨o42, ho43, hF⟩ := bind_some' hF
 refine CW.cutK (fun a w1 => ∃ (t44 : Unit), o42 = .inl t44 ∧ Rep 17 [] a ∧ St w (fp []) w1 []) ?_ ?_
 ·refine CW.block ?_
  refine CW.loop (fun n a w1 => ∃ (i72 : Nat) (s71 : Unit), i72 + n = 23 ∧ Rep 17 [(0, .string p0), (6, .agg (flat enc_ops_form tab_g0).toArray), (7, .int .i64 (i72 : Int))] a ∧ St w (fp []) w1 [] ∧ forN (ops_Find_l1 p0) (fun (s71 : Unit) => (.inl ())) n i72 s71 = some o42) 23 (fun a ha => ⟨0, (), Nat.zero_add _, ha.agrees (by kernel_rfl), hst.keep [] rfl, ho43⟩) ?_
  rintro n69 a w1 ⟨i72, s71, hi73, ha, hst, hl70⟩
  refine CW.go ?_ ha
  refine CW.seq ?_
  refine CW.region ?_
  refine OW.pure 1 [(8, .bool (decide ((i72 : Int) < 23)))] (by kernel_rfl) ?_
  refine OW.nil rfl ?_
  refine QW.next ?_
  refine CW.seq ?_
  rcases Bool.eq_false_or_eq_true (decide ((i72 : Int) < 23)) with hc74 | hc74
  ·rcases n69 with _ | n69
   ·exact (cnt0 hi73 hc74).elim
   refine CW.cond_t rfl hc74 ?_
   refine CW.skip ?_
   refine QW.next ?_
   refine CW.seq ?_
   refine CW.block ?_
   refine CW.seq ?_
   refine CW.region ?_
   refine OW.pure 1 [(9, .int .i64 (i72 : Int))] (by kernel_rfl) ?_
   obtain ⟨x80, hx81, hl70⟩ := bind_some' hl70
   refine OW.op (v := .agg [.string x80.name, .string x80.fields].toArray) rfl rfl rfl rfl (fun a ha => vidx_run (e := 79) (sz := 2) (enc := enc_ops_form) (xs := tab_g0) rfl rfl rfl (by kernel_rfl) (by kernel_rfl) (by kernel_rfl) (fun _ => rfl) rfl hx81 a _ ha) ?_
   refine OW.alloc hst rfl rfl rfl [.string ByteArray.empty, .string ByteArray.empty] (by kernel_rfl) ?_
   intro b82 w83 hst
   refine OW.pure 1 [(4, .int .i64 (i72 : Int))] (by kernel_rfl) ?_
   refine OW.stB hst 0 rfl rfl rfl rfl rfl (by kernel_rfl) rfl rfl [.string x80.name, .string x80.fields] rfl ?_
   intro w84 hst
   refine OW.nil rfl ?_
   refine QW.next ?_
   refine CW.seq ?_
   refine CW.region ?_
   refine OW.pure 1 [(11, .pointer (some ⟨b82, 0, none⟩))] (by kernel_rfl) ?_
   refine OW.ld rfl rfl rfl rfl (by kernel_rfl) (hst.blk 0 rfl rfl) ?_
   refine OW.pure 2 [(14, .bool (sEq x80.name p0))] (by kernel_rfl) ?_
   refine OW.nil rfl ?_
   refine QW.next ?_
   rcases Bool.eq_false_or_eq_true (sEq x80.name p0) with hc85 | hc85
   ·have hl70 := ite_t hl70 hc85
    refine CW.cond_t rfl hc85 ?_
    refine CW.seq ?_
    refine CW.region ?_
    refine OW.pure 3 [(2, .int .i64 (i72 : Int)), (3, .bool true)] (by kernel_rfl) ?_
    refine OW.nil rfl ?_
    refine QW.next ?_
    refine CW.ret ?_
    refine QW.block_ret ?_
    refine QW.then_ret ?_
    refine QW.then_ret ?_
    refine QW.block_ret ?_
    refine QW.then_ret ?_
    obtain rfl := Option.some.inj hl70
    obtain rfl := Option.some.inj hF
    refine QW.ret2 rfl rfl rfl ?_
    exact ⟨rfl, hst.keep [] rfl⟩
   ·have hl70 := ite_f hl70 hc85
    refine CW.cond_f rfl hc85 ?_
    refine CW.skip ?_
    refine QW.block_normal ?_
    refine QW.next ?_
    refine CW.region ?_
    refine OW.pure 2 [(7, .int .i64 (w64 ((i72 : Int) + 1)))] (by kernel_rfl) ?_
    refine OW.nil rfl ?_
    refine QW.say 7 rfl (congrArg (Value.int .i64) (w64_cnt hc74 (by decide))) ?_
    exact QW.meet (fun a ha => ⟨n69, Nat.lt_succ_self _, i72 + 1, (), cnt_next hi73, ha.agrees (by kernel_rfl), hst.keep [] rfl, hl70⟩)
  ·rcases n69 with _ | n69
   ·refine CW.cond_f rfl hc74 ?_
    refine CW.exit ?_
    refine QW.then_exit ?_
    refine QW.then_exit ?_
    refine QW.block_here ?_
    obtain rfl := Option.some.inj hl70
    exact QW.meet (fun a ha => ⟨(), rfl, ha.agrees (by kernel_rfl), hst.keep [] rfl⟩)
   ·exact (cnt1 hi73 hc74).elim
 ·rintro a w1 ⟨t44, rfl, ha, hst⟩
  refine CW.go ?_ ha
  refine CW.seq ?_
  refine CW.region ?_
  refine OW.pure 2 [(2, .int .i64 0), (3, .bool false)] (by kernel_rfl) ?_
  refine OW.nil rfl ?_
  refine QW.next ?_
  refine CW.ret ?_
  obtain rfl := Option.some.inj hF
  refine QW.ret2 rfl rfl rfl ?_
  exact ⟨rfl, hst.keep [] rfl⟩

set_option maxRecDepth 10000 in
set_option maxHeartbeats 4000000 in
theorem lines_register_ok (w : World) (p0 : ByteArray) (r : Int × Bool) (hF : lines_register p0 = some r)
    (hst : St w (fp []) w []) :
    Calls Tryd.prog 43 [.string p0].toArray w (fun e w' => e = .returned (.tuple #[.int .i64 r.1, .bool r.2]) ∧ St w (fp []) w' []) := by
 refine CW.start (N := 26) Tryd.func43 rfl rfl rfl ?_
 refine CW.seq ?_
 refine CW.region ?_
 refine OW.pure 2 [] (by kernel_rfl) ?_
 refine OW.nil rfl ?_
 refine QW.next ?_
 refine CW.seq ?_
 refine CW.seq ?_
 obtain ⟨o8, ho9, hF⟩ := bind_some' hF
 refine CW.cutK (fun a w1 => Rep 26 [(0, .string p0), (21, .bool o8)] a ∧ St w (fp []) w1 []) ?_ ?_
 ·refine CW.region ?_
  refine OW.pure 4 [(7, .bool ((p0.size : Int) != 2))] (by kernel_rfl) ?_
  refine OW.split 7 rfl (fun hc10 => ?_) (fun hc10 => ?_)
  ·have ho9 := ite_t ho9 hc10
   refine OW.pure 14 [(21, .bool true)] (by kernel_rfl) ?_
   refine OW.nil rfl ?_
   obtain rfl := Option.some.inj ho9
   exact QW.meet (fun a ha => ⟨ha.agrees (by kernel_rfl), hst.keep [] rfl⟩)
  ·have ho9 := ite_f ho9 hc10
   refine OW.pure 1 [(8, .string p0)] (by kernel_rfl) ?_
   obtain ⟨c11, hx12, ho9⟩ := bind_some' ho9
   refine OW.op (v := .int .u8 c11) rfl rfl rfl rfl (fun a ha => sidx_run rfl rfl rfl (by kernel_rfl) hx12 a _ ha) ?_
   refine OW.pure 3 [(12, .bool (c11 != 114))] (by kernel_rfl) ?_
   refine OW.split 12 rfl (fun hc13 => ?_) (fun hc13 => ?_)
   ·have ho9 := ite_t ho9 hc13
    refine OW.pure 9 [(21, .bool true)] (by kernel_rfl) ?_
    refine OW.nil rfl ?_
    obtain rfl := Option.some.inj ho9
    exact QW.meet (fun a ha => ⟨ha.agrees (by kernel_rfl), hst.keep [] rfl⟩)
   ·have ho9 := ite_f ho9 hc13
    refine OW.pure 1 [(13, .string p0)] (by kernel_rfl) ?_
    obtain ⟨c14, hx15, ho9⟩ := bind_some' ho9
    refine OW.op (v := .int .u8 c14) rfl rfl rfl rfl (fun a ha => sidx_run rfl rfl rfl (by kernel_rfl) hx15 a _ ha) ?_
    refine OW.pure 3 [(17, .bool (decide (c14 < 48)))] (by kernel_rfl) ?_
    refine OW.split 17 rfl (fun hc16 => ?_) (fun hc16 => ?_)
    ·have ho9 := ite_t ho9 hc16
     refine OW.pure 4 [(21, .bool true)] (by kernel_rfl) ?_
     refine OW.nil rfl ?_
     obtain rfl := Option.some.inj ho9
     exact QW.meet (fun a ha => ⟨ha.agrees (by kernel_rfl), hst.keep [] rfl⟩)
    ·have ho9 := ite_f ho9 hc16
     refine OW.pure 1 [(18, .string p0)] (by kernel_rfl) ?_
     refine OW.op (v := .int .u8 c14) rfl rfl rfl rfl (fun a ha => sidx_run rfl rfl rfl (by kernel_rfl) hx15 a _ ha) ?_
     refine OW.pure 2 [(21, .bool (decide (c14 > 55)))] (by kernel_rfl) ?_
     refine OW.nil rfl ?_
     obtain rfl := Option.some.inj ho9
     exact QW.meet (fun a ha => ⟨ha.agrees (by kernel_rfl), hst.keep [] rfl⟩)
 ·rintro a w1 ⟨ha, hst⟩
  refine CW.go ?_ ha
  rcases Bool.eq_false_or_eq_true (o8) with hc17 | hc17
  ·have hF := ite_t hF hc17
   refine CW.cond_t rfl hc17 ?_
   refine CW.seq ?_
   refine CW.region ?_
   refine OW.pure 2 [(2, .int .i64 0), (3, .bool false)] (by kernel_rfl) ?_
   refine OW.nil rfl ?_
   refine QW.next ?_
   refine CW.ret ?_
   refine QW.then_ret ?_
   obtain rfl := Option.some.inj hF
   refine QW.ret2 rfl rfl rfl ?_
   exact ⟨rfl, hst.keep [] rfl⟩
  ·have hF := ite_f hF hc17
   refine CW.cond_f rfl hc17 ?_
   refine CW.skip ?_
   refine QW.next ?_
   refine CW.seq ?_
   refine CW.region ?_
   refine OW.pure 1 [(22, .string p0)] (by kernel_rfl) ?_
   obtain ⟨c20, hx21, hF⟩ := bind_some' hF
   refine OW.op (v := .int .u8 c20) rfl rfl rfl rfl (fun a ha => sidx_run rfl rfl rfl (by kernel_rfl) hx21 a _ ha) ?_
   refine OW.pure 4 [(2, .int .i64 (w64 (IntKind.u8.wrap (c20 - 48)))), (3, .bool true)] (by kernel_rfl) ?_
   refine OW.nil rfl ?_
   refine QW.next ?_
   refine CW.ret ?_
   obtain rfl := Option.some.inj hF
   refine QW.ret2 rfl rfl rfl ?_
   exact ⟨rfl, hst.keep [] rfl⟩

theorem strconv_ParseInt_ok (w : World) (p0 : ByteArray) (p1 p2 : Int) (r : Int × Bool) (hF : strconv_ParseInt p0 p1 p2 = some r) (hst : St w (fp []) w []) (hTL : LibG Tryd.prog 2 1 3 4 w (fp [])) :
    Calls Tryd.prog 44 [.string p0, .int .i64 p1, .int .i64 p2].toArray w (fun e w' => ∃ x : Value, e = .returned (.tuple #[.int .i64 r.1, errV 104 r.2 x]) ∧ St w (fp []) w' []) :=
  parse_ok Tryd.strconv_ParseInt_10_at64_ok Tryd.strconv_ParseInt_10_at64_syntax Tryd.strconv_ParseInt_10_at64_range hF hTL.syn hTL.rng

set_option maxRecDepth 10000 in
set_option maxHeartbeats 4000000 in
theorem lines_read_ok (w : World) (fu : Nat) (p0 : ByteArray) (r : api_Inst × Bool) (hF : lines_read fu p0 = some r)
    (hst : St w (fp []) w []) (hT0 : Rd w (fp []) (.slice (some ⟨0, 0, none⟩) 23 23) enc_ops_form 2 tab_g0) (hTL : LibG Tryd.prog 2 1 3 4 w (fp [])) :
    Calls Tryd.prog 22 [.string p0].toArray w (fun e w' => e = .returned (.tuple #[.agg [.int .i64 r.1.Op, .int .i64 r.1.D, .int .i64 r.1.A, .int .i64 r.1.B, .int .i64 r.1.Imm].toArray, .bool r.2]) ∧ St w (fp []) w' []) := by
 refine CW.start (N := 125) Tryd.func22 rfl rfl rfl ?_
 refine CW.seq ?_
 refine CW.region ?_
 refine OW.alloc hst rfl rfl rfl [.int .i64 0, .int .i64 0, .int .i64 0, .int .i64 0, .int .i64 0] (by kernel_rfl) ?_
 intro b3 w4 hst
 refine OW.pure 1 [] (by kernel_rfl) ?_
 refine OW.nil rfl ?_
 refine QW.next ?_
 refine CW.seq ?_
 refine CW.region ?_
 refine OW.pure 1 [(15, .string p0)] (by kernel_rfl) ?_
 obtain ⟨r13, hr14, hF⟩ := bind_some' hF
 refine OW.fn rfl rfl rfl rfl (by kernel_rfl) (strings_Split_ok _ p0 (⟨[32].toArray⟩) r13 hr14 (hst.part [] rfl) (hTL.give hst [])) ?_
 rintro e w15 ⟨v17, rfl, hst16⟩
 refine ⟨_, rfl, ?_⟩
 have hst := hst.join (idx := []) (rest := [0]) rfl hst16
 obtain ⟨l18, a19, c20, rfl⟩ := hst.len 0 rfl
 refine OW.pure 1 [(4, .slice a19 (r13).length c20)] (by kernel_rfl) ?_
 refine OW.nil rfl ?_
 obtain ⟨wz21, Sz22, hg23, hz24, hst, hfr25⟩ := hst.freezeRow 0 rfl (fun _ => rfl) [1] rfl rfl
 have hT0 := hT0.bor hg23
 have hTL := hTL.bor hg23
 refine QW.next ?_
 refine CW.seq ?_
 refine CW.region ?_
 refine OW.pure 1 [(18, .slice a19 (r13).length c20)] (by kernel_rfl) ?_
 obtain ⟨x36, hx37, hF⟩ := bind_some' hF
 obtain ⟨g39, o40, c41, hv38⟩ := hfr25.formv (fun _ => ⟨_, rfl⟩) hx37
 refine OW.idx 9 1 rfl rfl rfl rfl hv38 rfl (idx_some hx37).1 (idx_some hx37).2.1 (by kernel_rfl) (by kernel_rfl) ?_
 refine OW.ld rfl rfl rfl rfl (by kernel_rfl) (hfr25.cellv hst hx37 hv38 0 _ rfl) ?_
 obtain ⟨r42, hr43, hF⟩ := bind_some' hF
 refine OW.fn rfl rfl rfl rfl (by kernel_rfl) (ops_Find_ok _ x36 r42 hr43 (hst.part [] rfl) (hT0.give hst [])) ?_
 rintro e w44 ⟨rfl, hst45⟩
 refine ⟨_, rfl, ?_⟩
 have hst := hst.join (idx := []) (rest := [0]) rfl hst45
 refine OW.pure 5 [(5, .int .i64 r42.1), (6, .bool r42.2)] (by kernel_rfl) ?_
 refine OW.nil rfl ?_
 refine QW.next ?_
 refine CW.seq ?_
 refine CW.region ?_
 refine OW.pure 1 [(24, .int .i64 r42.1)] (by kernel_rfl) ?_
 obtain ⟨r50, hr51, hF⟩ := bind_some' hF
 refine OW.fn rfl rfl rfl rfl (by kernel_rfl) (lines_order_ok _ r42.1 r50 hr51 (hst.part [] rfl)) ?_
 rintro e w52 ⟨rfl, hst53⟩
 refine ⟨_, rfl, ?_⟩
 have hst := hst.join (idx := []) (rest := [0]) rfl hst53
 refine OW.pure 1 [(7, .string r50)] (by kernel_rfl) ?_
 refine OW.nil rfl ?_
 refine QW.next ?_
 refine CW.seq ?_
 refine CW.seq ?_
 refine CW.cutK (fun a w1 => Rep 125 [(0, .string p0), (2, .pointer (some ⟨b3, 0, none⟩)), (4, .slice a19 (r13).length c20), (5, .int .i64 r42.1), (7, .string r50), (35, .bool ((!r42.2) || (((r13).length : Int) != (w64 ((r50.size : Int) + 1)))))] a ∧ St wz21 Sz22 w1 [blkI b3 32 [.int .i64 0, .int .i64 0, .int .i64 0, .int .i64 0, .int .i64 0]]) ?_ ?_
 ·refine CW.region ?_
  refine OW.pure 3 [(28, .bool (!r42.2))] (by kernel_rfl) ?_
  refine OW.split 28 rfl (fun hc54 => ?_) (fun hc54 => ?_)
  ·refine OW.pure 7 [(35, .bool true)] (by kernel_rfl) ?_
   refine OW.nil rfl ?_
   refine QW.say 35 (v := .bool ((!r42.2) || (((r13).length : Int) != (w64 ((r50.size : Int) + 1))))) rfl (by first | (rw [hc54]; done) | (rw [hc54]; rfl) | simp [hc54]) ?_
   exact QW.meet (fun a ha => ⟨ha.agrees (by kernel_rfl), hst.keep [0] rfl⟩)
  ·refine OW.pure 7 [(35, .bool (((r13).length : Int) != (w64 ((r50.size : Int) + 1))))] (by kernel_rfl) ?_
   refine OW.nil rfl ?_
   refine QW.say 35 (v := .bool ((!r42.2) || (((r13).length : Int) != (w64 ((r50.size : Int) + 1))))) rfl (by first | (rw [hc54]; done) | (rw [hc54]; rfl) | simp [hc54]) ?_
   exact QW.meet (fun a ha => ⟨ha.agrees (by kernel_rfl), hst.keep [0] rfl⟩)
 ·rintro a w1 ⟨ha, hst⟩
  refine CW.go ?_ ha
  rcases Bool.eq_false_or_eq_true (((!r42.2) || (((r13).length : Int) != (w64 ((r50.size : Int) + 1))))) with hc55 | hc55
  ·have hF := ite_t hF hc55
   refine CW.cond_t rfl hc55 ?_
   refine CW.seq ?_
   refine CW.region ?_
   refine OW.pure 1 [(36, .agg [.int .i64 0, .int .i64 0, .int .i64 0, .int .i64 0, .int .i64 0].toArray)] (by kernel_rfl) ?_
   refine OW.stB hst 0 rfl rfl rfl rfl rfl (by kernel_rfl) rfl rfl [.int .i64 0, .int .i64 0, .int .i64 0, .int .i64 0, .int .i64 0] rfl ?_
   intro w57 hst
   refine OW.pure 1 [(3, .bool false)] (by kernel_rfl) ?_
   refine OW.nil rfl ?_
   refine QW.next ?_
   refine CW.ret ?_
   refine QW.then_ret ?_
   have hst := hz24 _ _ hst
   obtain rfl := Option.some.inj hF
   refine QW.ret_ct rfl rfl (run_loadN (cs := [.int .i64 0, .int .i64 0, .int .i64 0, .int .i64 0, .int .i64 0]) (by kernel_rfl) (by kernel_rfl) (hst.blkN 0 rfl 0 5)) rfl ?_
   exact ⟨rfl, hst.keep [] rfl⟩
  ·have hF := ite_f hF hc55
   refine CW.cond_f rfl hc55 ?_
   refine CW.skip ?_
   refine QW.next ?_
   refine CW.seq ?_
   refine CW.region ?_
   refine OW.pure 2 [(38, .agg [.int .i64 r42.1, .int .i64 0, .int .i64 0, .int .i64 0, .int .i64 0].toArray)] (by kernel_rfl) ?_
   refine OW.alloc hst rfl rfl rfl [.int .i64 0, .int .i64 0, .int .i64 0, .int .i64 0, .int .i64 0] (by kernel_rfl) ?_
   intro b61 w62 hst
   refine OW.stB hst 1 rfl rfl rfl rfl rfl (by kernel_rfl) rfl rfl [.int .i64 r42.1, .int .i64 0, .int .i64 0, .int .i64 0, .int .i64 0] rfl ?_
   intro w63 hst
   refine OW.nil rfl ?_
   refine QW.next ?_
   refine CW.seq ?_
   refine CW.seq ?_
   refine CW.region ?_
   refine OW.pure 1 [(39, .slice a19 (r13).length c20)] (by kernel_rfl) ?_
   obtain ⟨ys67, hcut68, hF⟩ := bind_some' hF
   refine OW.op (v := .slice (shd a19 c20 (Int.toNat 1) 1) (ys67).length (c20 - Int.toNat 1)) rfl rfl rfl rfl (fun a ha => suf_run (e := 9) 1 rfl rfl rfl rfl hcut68 (by kernel_rfl) (by kernel_rfl) a _ ha) ?_
   have hp69 := hfr25.part hcut68
   refine OW.pure 2 [(41, .int .i64 ((ys67).length : Int)), (42, .int .i64 0)] (by kernel_rfl) ?_
   refine OW.nil rfl ?_
   refine QW.next ?_
   obtain ⟨o436, ho437, hF⟩ := bind_some' hF
   refine CW.cutK (fun a w1 => ∃ (t438 : api_Inst), o436 = .inl t438 ∧ Rep 125 [(0, .string p0), (2, .pointer (some ⟨b3, 0, none⟩)), (8, .pointer (some ⟨b61, 0, none⟩))] a ∧ St wz21 Sz22 w1 [blkI b3 32 [.int .i64 0, .int .i64 0, .int .i64 0, .int .i64 0, .int .i64 0], blkI b61 32 [.int .i64 t438.Op, .int .i64 t438.D, .int .i64 t438.A, .int .i64 t438.B, .int .i64 t438.Imm]]) ?_ ?_
   ·refine CW.block ?_
    refine CW.loop (fun n a w1 => ∃ (i713 : Nat) (s712 : api_Inst), i713 + n = (ys67).length ∧ Rep 125 [(0, .string p0), (2, .pointer (some ⟨b3, 0, none⟩)), (7, .string r50), (8, .pointer (some ⟨b61, 0, none⟩)), (40, .slice (shd a19 c20 (Int.toNat 1) 1) (ys67).length (c20 - Int.toNat 1)), (41, .int .i64 ((ys67).length : Int)), (42, .int .i64 (i713 : Int))] a ∧ St wz21 Sz22 w1 [blkI b3 32 [.int .i64 0, .int .i64 0, .int .i64 0, .int .i64 0, .int .i64 0], blkI b61 32 [.int .i64 s712.Op, .int .i64 s712.D, .int .i64 s712.A, .int .i64 s712.B, .int .i64 s712.Imm]] ∧ forN (lines_read_l1 r50 ys67) (fun (s712 : api_Inst) => (.inl s712)) n i713 s712 = some o436) (ys67).length (fun a ha => ⟨0, (api_Inst.mk r42.1 0 0 0 0), Nat.zero_add _, ha.agrees (by kernel_rfl), hst.keep [0, 1] rfl, ho437⟩) ?_
    rintro n710 a w1 ⟨i713, s712, hi714, ha, hst, hl711⟩
    refine CW.go ?_ ha
    refine CW.seq ?_
    refine CW.region ?_
    refine OW.pure 1 [(43, .bool (decide ((i713 : Int) < ((ys67).length : Int))))] (by kernel_rfl) ?_
    refine OW.nil rfl ?_
    refine QW.next ?_
    refine CW.seq ?_
    rcases Bool.eq_false_or_eq_true (decide ((i713 : Int) < ((ys67).length : Int))) with hc715 | hc715
    ·rcases n710 with _ | n710
     ·exact (cnt0 hi714 hc715).elim
     refine CW.cond_t rfl hc715 ?_
     refine CW.skip ?_
     refine QW.next ?_
     refine CW.seq ?_
     refine CW.block ?_
     refine CW.seq ?_
     refine CW.region ?_
     refine OW.pure 1 [(44, .int .i64 (i713 : Int))] (by kernel_rfl) ?_
     obtain ⟨x722, hx723, hl711⟩ := bind_some' hl711
     obtain ⟨g725, o726, c727, hv724⟩ := hp69.formv (fun _ => ⟨_, rfl⟩) hx723
     refine OW.idx 9 1 rfl rfl rfl rfl hv724 rfl (idx_some hx723).1 (idx_some hx723).2.1 (by kernel_rfl) (by kernel_rfl) ?_
     refine OW.ld rfl rfl rfl rfl (by kernel_rfl) (hp69.cellv hst hx723 hv724 0 _ rfl) ?_
     refine OW.pure 2 [(9, .int .i64 (i713 : Int)), (10, .string x722)] (by kernel_rfl) ?_
     refine OW.nil rfl ?_
     refine QW.next ?_
     refine CW.seq ?_
     refine CW.region ?_
     refine OW.pure 1 [(48, .string x722)] (by kernel_rfl) ?_
     obtain ⟨r732, hr733, hl711⟩ := bind_some' hl711
     refine OW.fn rfl rfl rfl rfl (by kernel_rfl) (lines_register_ok _ x722 r732 hr733 (hst.part [] rfl)) ?_
     rintro e w734 ⟨rfl, hst735⟩
     refine ⟨_, rfl, ?_⟩
     have hst := hst.join (idx := []) (rest := [0, 1]) rfl hst735
     refine OW.pure 5 [(11, .int .i64 r732.1), (12, .bool r732.2)] (by kernel_rfl) ?_
     refine OW.nil rfl ?_
     refine QW.next ?_
     refine CW.seq ?_
     refine CW.region ?_
     refine OW.pure 1 [(53, .string x722)] (by kernel_rfl) ?_
     obtain ⟨r741, hr742, hl711⟩ := bind_some' hl711
     refine OW.fn rfl rfl rfl rfl (by kernel_rfl) (strconv_ParseInt_ok _ x722 10 64 r741 hr742 (hst.part [] rfl) (hTL.give hst [])) ?_
     rintro e w743 ⟨v745, rfl, hst744⟩
     refine ⟨_, rfl, ?_⟩
     have hst := hst.join (idx := []) (rest := [0, 1]) rfl hst744
     refine OW.pure 5 [(13, .int .i64 r741.1), (14, errV 104 r741.2 v745)] (by kernel_rfl) ?_
     refine OW.nil rfl ?_
     refine QW.next ?_
     refine CW.block ?_
     refine CW.seq ?_
     obtain ⟨o751, ho752, hl711⟩ := bind_some' hl711
     refine CW.cutK (fun a w1 => Rep 125 [(0, .string p0), (2, .pointer (some ⟨b3, 0, none⟩)), (7, .string r50), (8, .pointer (some ⟨b61, 0, none⟩)), (9, .int .i64 (i713 : Int)), (11, .int .i64 r732.1), (12, .bool r732.2), (13, .int .i64 r741.1), (14, errV 104 r741.2 v745), (40, .slice (shd a19 c20 (Int.toNat 1) 1) (ys67).length (c20 - Int.toNat 1)), (41, .int .i64 ((ys67).length : Int)), (42, .int .i64 (i713 : Int)), (58, .bool o751)] a ∧ St wz21 Sz22 w1 [blkI b3 32 [.int .i64 0, .int .i64 0, .int .i64 0, .int .i64 0, .int .i64 0], blkI b61 32 [.int .i64 s712.Op, .int .i64 s712.D, .int .i64 s712.A, .int .i64 s712.B, .int .i64 s712.Imm]]) ?_ ?_
     ·refine CW.region ?_
      refine OW.pure 2 [(59, .string r50), (60, .int .i64 (i713 : Int))] (by kernel_rfl) ?_
      obtain ⟨c753, hx754, ho752⟩ := bind_some' ho752
      refine OW.op (v := .int .u8 c753) rfl rfl rfl rfl (fun a ha => sidx_run rfl rfl rfl (by kernel_rfl) hx754 a _ ha) ?_
      refine OW.pure 2 [(63, .bool (c753 == 100))] (by kernel_rfl) ?_
      refine OW.split 63 rfl (fun hc755 => ?_) (fun hc755 => ?_)
      ·have ho752 := ite_t ho752 hc755
       refine OW.pure 3 [(58, .bool r732.2)] (by kernel_rfl) ?_
       refine OW.nil rfl ?_
       obtain rfl := Option.some.inj ho752
       exact QW.meet (fun a ha => ⟨ha.agrees (by kernel_rfl), hst.keep [0, 1] rfl⟩)
      ·have ho752 := ite_f ho752 hc755
       refine OW.pure 3 [(58, .bool false)] (by kernel_rfl) ?_
       refine OW.nil rfl ?_
       obtain rfl := Option.some.inj ho752
       exact QW.meet (fun a ha => ⟨ha.agrees (by kernel_rfl), hst.keep [0, 1] rfl⟩)
     ·rintro a w1 ⟨ha, hst⟩
      refine CW.go ?_ ha
      rcases Bool.eq_false_or_eq_true (o751) with hc756 | hc756
      ·have hl711 := ite_t hl711 hc756
       refine CW.cond_t rfl hc756 ?_
       refine CW.region ?_
       refine OW.pure 2 [(66, .int .i64 r732.1), (67, .pointer (some ⟨b61, 1, none⟩))] (by kernel_rfl) ?_
       refine OW.stB hst 1 rfl rfl rfl rfl rfl (by kernel_rfl) rfl rfl [.int .i64 s712.Op, .int .i64 r732.1, .int .i64 s712.A, .int .i64 s712.B, .int .i64 s712.Imm] rfl ?_
       intro w758 hst
       refine OW.nil rfl ?_
       refine QW.block_normal ?_
       refine QW.block_normal ?_
       refine QW.next ?_
       refine CW.region ?_
       refine OW.pure 2 [(42, .int .i64 (w64 ((i713 : Int) + 1)))] (by kernel_rfl) ?_
       refine OW.nil rfl ?_
       refine QW.say 42 rfl (congrArg (Value.int .i64) (w64_cnt hc715 (Nat.le_trans (cut_le hcut68) l18))) ?_
       exact QW.meet (fun a ha => ⟨n710, Nat.lt_succ_self _, i713 + 1, (api_Inst.mk s712.Op r732.1 s712.A s712.B s712.Imm), cnt_next hi714, ha.agrees (by kernel_rfl), hst.keep [0, 1] rfl, hl711⟩)
      ·have hl711 := ite_f hl711 hc756
       refine CW.cond_f rfl hc756 ?_
       refine CW.seq ?_
       obtain ⟨o764, ho765, hl711⟩ := bind_some' hl711
       refine CW.cutK (fun a w1 => Rep 125 [(0, .string p0), (2, .pointer (some ⟨b3, 0, none⟩)), (7, .string r50), (8, .pointer (some ⟨b61, 0, none⟩)), (9, .int .i64 (i713 : Int)), (11, .int .i64 r732.1), (12, .bool r732.2), (13, .int .i64 r741.1), (14, errV 104 r741.2 v745), (40, .slice (shd a19 c20 (Int.toNat 1) 1) (ys67).length (c20 - Int.toNat 1)), (41, .int .i64 ((ys67).length : Int)), (42, .int .i64 (i713 : Int)), (68, .bool o764)] a ∧ St wz21 Sz22 w1 [blkI b3 32 [.int .i64 0, .int .i64 0, .int .i64 0, .int .i64 0, .int .i64 0], blkI b61 32 [.int .i64 s712.Op, .int .i64 s712.D, .int .i64 s712.A, .int .i64 s712.B, .int .i64 s712.Imm]]) ?_ ?_
       ·refine CW.region ?_
        refine OW.pure 2 [(69, .string r50), (70, .int .i64 (i713 : Int))] (by kernel_rfl) ?_
        obtain ⟨c766, hx767, ho765⟩ := bind_some' ho765
        refine OW.op (v := .int .u8 c766) rfl rfl rfl rfl (fun a ha => sidx_run rfl rfl rfl (by kernel_rfl) hx767 a _ ha) ?_
        refine OW.pure 2 [(73, .bool (c766 == 97))] (by kernel_rfl) ?_
        refine OW.split 73 rfl (fun hc768 => ?_) (fun hc768 => ?_)
        ·have ho765 := ite_t ho765 hc768
         refine OW.pure 3 [(68, .bool r732.2)] (by kernel_rfl) ?_
         refine OW.nil rfl ?_
         obtain rfl := Option.some.inj ho765
         exact QW.meet (fun a ha => ⟨ha.agrees (by kernel_rfl), hst.keep [0, 1] rfl⟩)
        ·have ho765 := ite_f ho765 hc768
         refine OW.pure 3 [(68, .bool false)] (by kernel_rfl) ?_
         refine OW.nil rfl ?_
         obtain rfl := Option.some.inj ho765
         exact QW.meet (fun a ha => ⟨ha.agrees (by kernel_rfl), hst.keep [0, 1] rfl⟩)
       ·rintro a w1 ⟨ha, hst⟩
        refine CW.go ?_ ha
        rcases Bool.eq_false_or_eq_true (o764) with hc769 | hc769
        ·have hl711 := ite_t hl711 hc769
         refine CW.cond_t rfl hc769 ?_
         refine CW.region ?_
         refine OW.pure 2 [(76, .int .i64 r732.1), (77, .pointer (some ⟨b61, 2, none⟩))] (by kernel_rfl) ?_
         refine OW.stB hst 1 rfl rfl rfl rfl rfl (by kernel_rfl) rfl rfl [.int .i64 s712.Op, .int .i64 s712.D, .int .i64 r732.1, .int .i64 s712.B, .int .i64 s712.Imm] rfl ?_
         intro w771 hst
         refine OW.nil rfl ?_
         refine QW.block_normal ?_
         refine QW.block_normal ?_
         refine QW.next ?_
         refine CW.region ?_
         refine OW.pure 2 [(42, .int .i64 (w64 ((i713 : Int) + 1)))] (by kernel_rfl) ?_
         refine OW.nil rfl ?_
         refine QW.say 42 rfl (congrArg (Value.int .i64) (w64_cnt hc715 (Nat.le_trans (cut_le hcut68) l18))) ?_
         exact QW.meet (fun a ha => ⟨n710, Nat.lt_succ_self _, i713 + 1, (api_Inst.mk s712.Op s712.D r732.1 s712.B s712.Imm), cnt_next hi714, ha.agrees (by kernel_rfl), hst.keep [0, 1] rfl, hl711⟩)
        ·have hl711 := ite_f hl711 hc769
         refine CW.cond_f rfl hc769 ?_
         refine CW.seq ?_
         obtain ⟨o777, ho778, hl711⟩ := bind_some' hl711
         refine CW.cutK (fun a w1 => Rep 125 [(0, .string p0), (2, .pointer (some ⟨b3, 0, none⟩)), (7, .string r50), (8, .pointer (some ⟨b61, 0, none⟩)), (9, .int .i64 (i713 : Int)), (11, .int .i64 r732.1), (13, .int .i64 r741.1), (14, errV 104 r741.2 v745), (40, .slice (shd a19 c20 (Int.toNat 1) 1) (ys67).length (c20 - Int.toNat 1)), (41, .int .i64 ((ys67).length : Int)), (42, .int .i64 (i713 : Int)), (78, .bool o777)] a ∧ St wz21 Sz22 w1 [blkI b3 32 [.int .i64 0, .int .i64 0, .int .i64 0, .int .i64 0, .int .i64 0], blkI b61 32 [.int .i64 s712.Op, .int .i64 s712.D, .int .i64 s712.A, .int .i64 s712.B, .int .i64 s712.Imm]]) ?_ ?_
         ·refine CW.region ?_
          refine OW.pure 2 [(79, .string r50), (80, .int .i64 (i713 : Int))] (by kernel_rfl) ?_
          obtain ⟨c779, hx780, ho778⟩ := bind_some' ho778
          refine OW.op (v := .int .u8 c779) rfl rfl rfl rfl (fun a ha => sidx_run rfl rfl rfl (by kernel_rfl) hx780 a _ ha) ?_
          refine OW.pure 2 [(83, .bool (c779 == 115))] (by kernel_rfl) ?_
          refine OW.split 83 rfl (fun hc781 => ?_) (fun hc781 => ?_)
          ·have ho778 := ite_t ho778 hc781
           refine OW.pure 3 [(78, .bool r732.2)] (by kernel_rfl) ?_
           refine OW.nil rfl ?_
           obtain rfl := Option.some.inj ho778
           exact QW.meet (fun a ha => ⟨ha.agrees (by kernel_rfl), hst.keep [0, 1] rfl⟩)
          ·have ho778 := ite_f ho778 hc781
           refine OW.pure 3 [(78, .bool false)] (by kernel_rfl) ?_
           refine OW.nil rfl ?_
           obtain rfl := Option.some.inj ho778
           exact QW.meet (fun a ha => ⟨ha.agrees (by kernel_rfl), hst.keep [0, 1] rfl⟩)
         ·rintro a w1 ⟨ha, hst⟩
          refine CW.go ?_ ha
          rcases Bool.eq_false_or_eq_true (o777) with hc782 | hc782
          ·have hl711 := ite_t hl711 hc782
           refine CW.cond_t rfl hc782 ?_
           refine CW.region ?_
           refine OW.pure 2 [(86, .int .i64 r732.1), (87, .pointer (some ⟨b61, 3, none⟩))] (by kernel_rfl) ?_
           refine OW.stB hst 1 rfl rfl rfl rfl rfl (by kernel_rfl) rfl rfl [.int .i64 s712.Op, .int .i64 s712.D, .int .i64 s712.A, .int .i64 r732.1, .int .i64 s712.Imm] rfl ?_
           intro w784 hst
           refine OW.nil rfl ?_
           refine QW.block_normal ?_
           refine QW.block_normal ?_
           refine QW.next ?_
           refine CW.region ?_
           refine OW.pure 2 [(42, .int .i64 (w64 ((i713 : Int) + 1)))] (by kernel_rfl) ?_
           refine OW.nil rfl ?_
           refine QW.say 42 rfl (congrArg (Value.int .i64) (w64_cnt hc715 (Nat.le_trans (cut_le hcut68) l18))) ?_
           exact QW.meet (fun a ha => ⟨n710, Nat.lt_succ_self _, i713 + 1, (api_Inst.mk s712.Op s712.D s712.A r732.1 s712.Imm), cnt_next hi714, ha.agrees (by kernel_rfl), hst.keep [0, 1] rfl, hl711⟩)
          ·have hl711 := ite_f hl711 hc782
           refine CW.cond_f rfl hc782 ?_
           refine CW.seq ?_
           refine CW.region ?_
           refine OW.pure 1 [(89, errV 104 r741.2 v745)] (by kernel_rfl) ?_
           refine OW.op (v := .bool r741.2) rfl rfl rfl rfl (fun a ha => errneq_run rfl rfl rfl (by kernel_rfl) a _ ha) ?_
           refine OW.pure 1 [(88, .bool r741.2)] (by kernel_rfl) ?_
           refine OW.nil rfl ?_
           refine QW.next ?_
           rcases Bool.eq_false_or_eq_true (r741.2) with hc785 | hc785
           ·have hl711 := ite_t hl711 hc785
            refine CW.cond_t rfl hc785 ?_
            refine CW.seq ?_
            refine CW.region ?_
            refine OW.pure 1 [(91, .agg [.int .i64 0, .int .i64 0, .int .i64 0, .int .i64 0, .int .i64 0].toArray)] (by kernel_rfl) ?_
            refine OW.stB hst 0 rfl rfl rfl rfl rfl (by kernel_rfl) rfl rfl [.int .i64 0, .int .i64 0, .int .i64 0, .int .i64 0, .int .i64 0] rfl ?_
            intro w787 hst
            refine OW.pure 1 [(3, .bool false)] (by kernel_rfl) ?_
            refine OW.nil rfl ?_
            refine QW.next ?_
            refine CW.ret ?_
            refine QW.block_ret ?_
            refine QW.block_ret ?_
            refine QW.then_ret ?_
            refine QW.then_ret ?_
            refine QW.block_ret ?_
            refine QW.then_ret ?_
            have hst := hz24 _ _ hst
            obtain rfl := Option.some.inj hl711
            obtain rfl := Option.some.inj hF
            refine QW.ret_ct rfl rfl (run_loadN (cs := [.int .i64 0, .int .i64 0, .int .i64 0, .int .i64 0, .int .i64 0]) (by kernel_rfl) (by kernel_rfl) (hst.blkN 0 rfl 0 5)) rfl ?_
            exact ⟨rfl, hst.keep [] rfl⟩
           ·have hl711 := ite_f hl711 hc785
            refine CW.cond_f rfl hc785 ?_
            refine CW.seq ?_
            refine CW.region ?_
            refine OW.pure 2 [(93, .string r50), (94, .int .i64 (i713 : Int))] (by kernel_rfl) ?_
            obtain ⟨c790, hx791, hl711⟩ := bind_some' hl711
            refine OW.op (v := .int .u8 c790) rfl rfl rfl rfl (fun a ha => sidx_run rfl rfl rfl (by kernel_rfl) hx791 a _ ha) ?_
            refine OW.pure 2 [(92, .bool (c790 == 115))] (by kernel_rfl) ?_
            refine OW.nil rfl ?_
            refine QW.next ?_
            rcases Bool.eq_false_or_eq_true ((c790 == 115)) with hc792 | hc792
            ·have hl711 := ite_t hl711 hc792
             refine CW.cond_t rfl hc792 ?_
             refine CW.region ?_
             refine OW.pure 2 [(97, .int .i64 r741.1), (98, .pointer (some ⟨b61, 3, none⟩))] (by kernel_rfl) ?_
             refine OW.stB hst 1 rfl rfl rfl rfl rfl (by kernel_rfl) rfl rfl [.int .i64 s712.Op, .int .i64 s712.D, .int .i64 s712.A, .int .i64 8, .int .i64 s712.Imm] rfl ?_
             intro w795 hst
             refine OW.pure 1 [(99, .pointer (some ⟨b61, 4, none⟩))] (by kernel_rfl) ?_
             refine OW.stB hst 1 rfl rfl rfl rfl rfl (by kernel_rfl) rfl rfl [.int .i64 s712.Op, .int .i64 s712.D, .int .i64 s712.A, .int .i64 8, .int .i64 r741.1] rfl ?_
             intro w796 hst
             refine OW.nil rfl ?_
             refine QW.block_normal ?_
             refine QW.block_normal ?_
             refine QW.next ?_
             refine CW.region ?_
             refine OW.pure 2 [(42, .int .i64 (w64 ((i713 : Int) + 1)))] (by kernel_rfl) ?_
             refine OW.nil rfl ?_
             refine QW.say 42 rfl (congrArg (Value.int .i64) (w64_cnt hc715 (Nat.le_trans (cut_le hcut68) l18))) ?_
             exact QW.meet (fun a ha => ⟨n710, Nat.lt_succ_self _, i713 + 1, (api_Inst.mk s712.Op s712.D s712.A 8 r741.1), cnt_next hi714, ha.agrees (by kernel_rfl), hst.keep [0, 1] rfl, hl711⟩)
            ·have hl711 := ite_f hl711 hc792
             refine CW.cond_f rfl hc792 ?_
             refine CW.seq ?_
             refine CW.region ?_
             refine OW.pure 2 [(101, .string r50), (102, .int .i64 (i713 : Int))] (by kernel_rfl) ?_
             refine OW.op (v := .int .u8 c790) rfl rfl rfl rfl (fun a ha => sidx_run rfl rfl rfl (by kernel_rfl) hx791 a _ ha) ?_
             refine OW.pure 2 [(100, .bool (c790 == 106))] (by kernel_rfl) ?_
             refine OW.nil rfl ?_
             refine QW.next ?_
             rcases Bool.eq_false_or_eq_true ((c790 == 106)) with hc797 | hc797
             ·have hl711 := ite_t hl711 hc797
              refine CW.cond_t rfl hc797 ?_
              refine CW.region ?_
              refine OW.pure 2 [(105, .int .i64 r741.1), (106, .pointer (some ⟨b61, 1, none⟩))] (by kernel_rfl) ?_
              refine OW.stB hst 1 rfl rfl rfl rfl rfl (by kernel_rfl) rfl rfl [.int .i64 s712.Op, .int .i64 r741.1, .int .i64 s712.A, .int .i64 s712.B, .int .i64 s712.Imm] rfl ?_
              intro w799 hst
              refine OW.nil rfl ?_
              refine QW.block_normal ?_
              refine QW.block_normal ?_
              refine QW.next ?_
              refine CW.region ?_
              refine OW.pure 2 [(42, .int .i64 (w64 ((i713 : Int) + 1)))] (by kernel_rfl) ?_
              refine OW.nil rfl ?_
              refine QW.say 42 rfl (congrArg (Value.int .i64) (w64_cnt hc715 (Nat.le_trans (cut_le hcut68) l18))) ?_
              exact QW.meet (fun a ha => ⟨n710, Nat.lt_succ_self _, i713 + 1, (api_Inst.mk s712.Op r741.1 s712.A s712.B s712.Imm), cnt_next hi714, ha.agrees (by kernel_rfl), hst.keep [0, 1] rfl, hl711⟩)
             ·have hl711 := ite_f hl711 hc797
              refine CW.cond_f rfl hc797 ?_
              refine CW.seq ?_
              refine CW.region ?_
              refine OW.pure 2 [(108, .string r50), (109, .int .i64 (i713 : Int))] (by kernel_rfl) ?_
              refine OW.op (v := .int .u8 c790) rfl rfl rfl rfl (fun a ha => sidx_run rfl rfl rfl (by kernel_rfl) hx791 a _ ha) ?_
              refine OW.pure 2 [(107, .bool (c790 == 110))] (by kernel_rfl) ?_
              refine OW.nil rfl ?_
              refine QW.next ?_
              rcases Bool.eq_false_or_eq_true ((c790 == 110)) with hc800 | hc800
              ·have hl711 := ite_t hl711 hc800
               refine CW.cond_t rfl hc800 ?_
               refine CW.region ?_
               refine OW.pure 2 [(112, .int .i64 r741.1), (113, .pointer (some ⟨b61, 4, none⟩))] (by kernel_rfl) ?_
               refine OW.stB hst 1 rfl rfl rfl rfl rfl (by kernel_rfl) rfl rfl [.int .i64 s712.Op, .int .i64 s712.D, .int .i64 s712.A, .int .i64 s712.B, .int .i64 r741.1] rfl ?_
               intro w802 hst
               refine OW.nil rfl ?_
               refine QW.block_normal ?_
               refine QW.block_normal ?_
               refine QW.next ?_
               refine CW.region ?_
               refine OW.pure 2 [(42, .int .i64 (w64 ((i713 : Int) + 1)))] (by kernel_rfl) ?_
               refine OW.nil rfl ?_
               refine QW.say 42 rfl (congrArg (Value.int .i64) (w64_cnt hc715 (Nat.le_trans (cut_le hcut68) l18))) ?_
               exact QW.meet (fun a ha => ⟨n710, Nat.lt_succ_self _, i713 + 1, (api_Inst.mk s712.Op s712.D s712.A s712.B r741.1), cnt_next hi714, ha.agrees (by kernel_rfl), hst.keep [0, 1] rfl, hl711⟩)
              ·have hl711 := ite_f hl711 hc800
               refine CW.cond_f rfl hc800 ?_
               refine CW.seq ?_
               refine CW.region ?_
               refine OW.pure 1 [(57, .agg [.int .i64 0, .int .i64 0, .int .i64 0, .int .i64 0, .int .i64 0].toArray)] (by kernel_rfl) ?_
               refine OW.stB hst 0 rfl rfl rfl rfl rfl (by kernel_rfl) rfl rfl [.int .i64 0, .int .i64 0, .int .i64 0, .int .i64 0, .int .i64 0] rfl ?_
               intro w804 hst
               refine OW.pure 1 [(3, .bool false)] (by kernel_rfl) ?_
               refine OW.nil rfl ?_
               refine QW.next ?_
               refine CW.ret ?_
               refine QW.block_ret ?_
               refine QW.block_ret ?_
               refine QW.then_ret ?_
               refine QW.then_ret ?_
               refine QW.block_ret ?_
               refine QW.then_ret ?_
               have hst := hz24 _ _ hst
               obtain rfl := Option.some.inj hl711
               obtain rfl := Option.some.inj hF
               refine QW.ret_ct rfl rfl (run_loadN (cs := [.int .i64 0, .int .i64 0, .int .i64 0, .int .i64 0, .int .i64 0]) (by kernel_rfl) (by kernel_rfl) (hst.blkN 0 rfl 0 5)) rfl ?_
               exact ⟨rfl, hst.keep [] rfl⟩
    ·rcases n710 with _ | n710
     ·refine CW.cond_f rfl hc715 ?_
      refine CW.exit ?_
      refine QW.then_exit ?_
      refine QW.then_exit ?_
      refine QW.block_here ?_
      obtain rfl := Option.some.inj hl711
      exact QW.meet (fun a ha => ⟨s712, rfl, ha.agrees (by kernel_rfl), hst.keep [0, 1] rfl⟩)
     ·exact (cnt1 hi714 hc715).elim
   ·rintro a w1 ⟨t438, rfl, ha, hst⟩
    refine CW.go ?_ ha
    refine CW.seq ?_
    obtain ⟨o828, ho829, hF⟩ := bind_some' hF
    refine CW.cutK (fun a w1 => Rep 125 [(2, .pointer (some ⟨b3, 0, none⟩)), (3, .bool o828)] a ∧ St wz21 Sz22 w1 [blkI b3 32 [.int .i64 t438.Op, .int .i64 t438.D, .int .i64 t438.A, .int .i64 t438.B, .int .i64 t438.Imm]]) ?_ ?_
    ·refine CW.plan (by kernel_rfl) ?_
     intro w830 hch831
     have hst := hst.same hch831
     refine OA.ldN (i := 0) (cs := [.int .i64 t438.Op, .int .i64 t438.D, .int .i64 t438.A, .int .i64 t438.B, .int .i64 t438.Imm]) rfl (by kernel_rfl) rfl rfl rfl (by kernel_rfl) (by kernel_rfl) (hst.blkN 1 rfl 0 5) ?_
     refine OA.ldN (i := 1) (cs := [.int .i64 t438.Op, .int .i64 t438.D, .int .i64 t438.A, .int .i64 t438.B, .int .i64 t438.Imm]) rfl (by kernel_rfl) rfl rfl rfl (by kernel_rfl) (by kernel_rfl) (hst.blkN 1 rfl 0 5) ?_
     refine OA.act (i := 2) [0] (by kernel_rfl) rfl rfl (by kernel_rfl) (by kernel_rfl) ?_
     refine OW.row (α := api_Inst) (e := 32) (enc := enc_api_Inst) (sz := 5) hst rfl rfl rfl [t438] rfl (fun _ => rfl) rfl rfl (fun _ => by kernel_rfl) ?_
     intro g832 w833 hst
     refine OA.next ⟨(hst.blkN 1 rfl 0 5), trivial⟩ ?_
     refine OA.act (i := 3) [0] (by kernel_rfl) rfl rfl (by kernel_rfl) (by kernel_rfl) ?_
     obtain ⟨r834, hr835, ho829⟩ := bind_some' ho829
     refine OW.fn rfl rfl rfl rfl (by kernel_rfl) (ops_Right_ok _ (.slice (some ⟨g832, 0, none⟩) 1 1) ([t438]) r834 hr835 (hst.part [] rfl) (hst.rd 2 rfl (fun _ => rfl) [] rfl (hst.len 2 rfl).1) (hT0.give hst [])) ?_
     rintro e w836 ⟨rfl, hst837⟩
     refine ⟨_, rfl, ?_⟩
     have hst := hst.join (idx := []) (rest := [0, 1, 2]) rfl hst837
     refine OA.next ⟨(hst.blkN 1 rfl 0 5), trivial⟩ ?_
     refine OA.pure [4] [(119, .bool r834)] (by kernel_rfl) ?_
     refine OA.split 119 rfl (fun hc838 => ?_) (fun hc838 => ?_)
     ·have ho829 := ite_t ho829 hc838
      refine OA.ldN (i := 5) (cs := [.int .i64 t438.Op, .int .i64 t438.D, .int .i64 t438.A, .int .i64 t438.B, .int .i64 t438.Imm]) rfl (by kernel_rfl) rfl rfl rfl (by kernel_rfl) (by kernel_rfl) (hst.blkN 1 rfl 0 5) ?_
      refine OA.pure [7] [(122, .string p0)] (by kernel_rfl) ?_
      refine OA.act (i := 6) [0] (by kernel_rfl) rfl rfl (by kernel_rfl) (by kernel_rfl) ?_
      obtain ⟨r839, hr840, ho829⟩ := bind_some' ho829
      refine OW.fn rfl rfl rfl rfl (by kernel_rfl) (lines_line_ok _ fu t438 r839 hr840 (hst.part [] rfl) (hT0.give hst []) (hTL.give hst [])) ?_
      rintro e w841 ⟨rfl, hst842⟩
      refine ⟨_, rfl, ?_⟩
      have hst := hst.join (idx := []) (rest := [0, 1, 2]) rfl hst842
      refine OA.next ⟨(hst.blkN 1 rfl 0 5), trivial⟩ ?_
      refine OA.pure [8, 9] [(124, .bool (sEq r839 p0))] (by kernel_rfl) ?_
      refine OA.act (i := 10) [] (by kernel_rfl) rfl rfl (by kernel_rfl) (by kernel_rfl) ?_
      refine OW.stB hst 0 rfl rfl rfl rfl rfl (by kernel_rfl) rfl rfl [.int .i64 t438.Op, .int .i64 t438.D, .int .i64 t438.A, .int .i64 t438.B, .int .i64 t438.Imm] rfl ?_
      intro w843 hst
      refine OA.next trivial ?_
      refine OA.act (i := 11) [] (by kernel_rfl) rfl rfl (by kernel_rfl) (by kernel_rfl) ?_
      refine OW.pure 1 [(3, .bool (sEq r839 p0))] (by kernel_rfl) ?_
      refine OA.next trivial ?_
      refine OA.fin (by kernel_rfl) (by kernel_rfl) ?_
      obtain rfl := Option.some.inj ho829
      exact QW.meet (fun a ha => ⟨ha.agrees (by kernel_rfl), hst.keep [0] rfl⟩)
     ·have ho829 := ite_f ho829 hc838
      refine OA.pure [5, 6, 7, 8, 9] [(124, .bool false)] (by kernel_rfl) ?_
      refine OA.act (i := 10) [] (by kernel_rfl) rfl rfl (by kernel_rfl) (by kernel_rfl) ?_
      refine OW.stB hst 0 rfl rfl rfl rfl rfl (by kernel_rfl) rfl rfl [.int .i64 t438.Op, .int .i64 t438.D, .int .i64 t438.A, .int .i64 t438.B, .int .i64 t438.Imm] rfl ?_
      intro w844 hst
      refine OA.next trivial ?_
      refine OA.act (i := 11) [] (by kernel_rfl) rfl rfl (by kernel_rfl) (by kernel_rfl) ?_
      refine OW.pure 1 [(3, .bool false)] (by kernel_rfl) ?_
      refine OA.next trivial ?_
      refine OA.fin (by kernel_rfl) (by kernel_rfl) ?_
      obtain rfl := Option.some.inj ho829
      exact QW.meet (fun a ha => ⟨ha.agrees (by kernel_rfl), hst.keep [0] rfl⟩)
    ·rintro a w1 ⟨ha, hst⟩
     refine CW.go ?_ ha
     refine CW.ret ?_
     have hst := hz24 _ _ hst
     obtain rfl := Option.some.inj hF
     refine QW.ret_ct rfl rfl (run_loadN (cs := [.int .i64 t438.Op, .int .i64 t438.D, .int .i64 t438.A, .int .i64 t438.B, .int .i64 t438.Imm]) (by kernel_rfl) (by kernel_rfl) (hst.blkN 0 rfl 0 5)) rfl ?_
     exact ⟨rfl, hst.keep [] rfl⟩

set_option maxRecDepth 10000 in
set_option maxHeartbeats 4000000 in
theorem lines_Parse_ok (w : World) (fu : Nat) (p0 : ByteArray) (r : (List api_Inst) × Int × Int) (hF : lines_Parse fu p0 = some r)
    (hst : St w (fp []) w []) (hT0 : Rd w (fp []) (.slice (some ⟨0, 0, none⟩) 23 23) enc_ops_form 2 tab_g0) (hTL : LibG Tryd.prog 2 1 3 4 w (fp [])) :
    Calls Tryd.prog 13 [.string p0].toArray w (fun e w' => ∃ (x0 : Value), e = .returned (.tuple #[x0, .int .i64 r.2.1, .int .i64 r.2.2]) ∧ St w (fp []) w' [rowI x0 32 enc_api_Inst 5 r.1]) := by
 refine CW.start (N := 40) Tryd.func13 rfl rfl rfl ?_
 refine CW.seq ?_
 refine CW.region ?_
 refine OW.pure 3 [] (by kernel_rfl) ?_
 refine OW.nil rfl ?_
 refine QW.next ?_
 refine CW.seq ?_
 refine CW.region ?_
 refine OW.pure 1 [(5, .slice none 0 0)] (by kernel_rfl) ?_
 refine OW.nil rfl ?_
 refine QW.next ?_
 refine CW.seq ?_
 refine CW.seq ?_
 refine CW.region ?_
 refine OW.pure 1 [(6, .int .i64 1)] (by kernel_rfl) ?_
 refine OW.nil rfl ?_
 refine QW.next ?_
 obtain ⟨o145, ho146, hF⟩ := bind_some' hF
 refine CW.cutK (fun a w1 => ∃ (t147 : (List api_Inst)) (v144 : Value), o145 = .inl t147 ∧ Rep 40 [(5, v144)] a ∧ St w (fp []) w1 [rowI v144 32 enc_api_Inst 5 t147]) ?_ ?_
 ·refine CW.block ?_
  have hst := hst.nilRow api_Inst 32 enc_api_Inst 5
  refine CW.loop (fun n a w1 => ∃ (s243 : ByteArray × (List api_Inst) × Int) (v244 : Value), Rep 40 [(0, .string s243.1), (5, v244), (6, .int .i64 s243.2.2)] a ∧ St w (fp []) w1 [rowI v244 32 enc_api_Inst 5 s243.2.1] ∧ loop (lines_Parse_l1 fu) n s243 = some o145) fu (fun a ha => ⟨(p0, ([] : List api_Inst), 1), (.slice none 0 0), ha.agrees (by kernel_rfl), hst.keep [0] rfl, ho146⟩) ?_
  rintro n241 a w1 ⟨s243, v244, ha, hst, hl242⟩
  rcases n241 with _ | n241
  ·exact (loop_zero hl242).elim
  refine CW.go ?_ ha
  obtain ⟨l245, a246, c247, rfl⟩ := hst.len 0 rfl
  refine CW.seq ?_
  refine CW.seq ?_
  refine CW.region ?_
  refine OW.pure 2 [(13, .bool (sNe s243.1 ByteArray.empty))] (by kernel_rfl) ?_
  refine OW.nil rfl ?_
  refine QW.next ?_
  rcases Bool.eq_false_or_eq_true (sNe s243.1 ByteArray.empty) with hc248 | hc248
  ·have hl242 := ite_t hl242 hc248
   refine CW.cond_t rfl hc248 ?_
   refine CW.skip ?_
   refine QW.next ?_
   refine CW.seq ?_
   refine CW.block ?_
   refine CW.seq ?_
   refine CW.region ?_
   refine OW.pure 1 [(17, .string s243.1)] (by kernel_rfl) ?_
   obtain ⟨r253, hr254, hl242⟩ := bind_some' hl242
   refine OW.fn rfl rfl rfl rfl (by kernel_rfl) (strings_Cut_ok _ s243.1 (⟨[10].toArray⟩) r253 hr254 (hst.part [] rfl)) ?_
   rintro e w255 ⟨rfl, hst256⟩
   refine ⟨_, rfl, ?_⟩
   have hst := hst.join (idx := []) (rest := [0]) rfl hst256
   refine OW.pure 7 [(7, .string r253.1), (8, .string r253.2.1), (9, .bool r253.2.2)] (by kernel_rfl) ?_
   refine OW.nil rfl ?_
   refine QW.next ?_
   refine CW.seq ?_
   refine CW.region ?_
   refine OW.pure 1 [(23, .string r253.1)] (by kernel_rfl) ?_
   obtain ⟨r264, hr265, hl242⟩ := bind_some' hl242
   refine OW.fn rfl rfl rfl rfl (by kernel_rfl) (lines_read_ok _ fu r253.1 r264 hr265 (hst.part [] rfl) (hT0.give hst []) (hTL.give hst [])) ?_
   rintro e w266 ⟨rfl, hst267⟩
   refine ⟨_, rfl, ?_⟩
   have hst := hst.join (idx := []) (rest := [0]) rfl hst267
   refine OW.pure 3 [(25, .agg [.int .i64 r264.1.Op, .int .i64 r264.1.D, .int .i64 r264.1.A, .int .i64 r264.1.B, .int .i64 r264.1.Imm].toArray), (26, .bool r264.2)] (by kernel_rfl) ?_
   refine OW.alloc hst rfl rfl rfl [.int .i64 0, .int .i64 0, .int .i64 0, .int .i64 0, .int .i64 0] (by kernel_rfl) ?_
   intro b268 w269 hst
   refine OW.stB hst 1 rfl rfl rfl rfl rfl (by kernel_rfl) rfl rfl [.int .i64 r264.1.Op, .int .i64 r264.1.D, .int .i64 r264.1.A, .int .i64 r264.1.B, .int .i64 r264.1.Imm] rfl ?_
   intro w270 hst
   refine OW.pure 1 [(11, .bool r264.2)] (by kernel_rfl) ?_
   refine OW.nil rfl ?_
   refine QW.next ?_
   refine CW.seq ?_
   refine CW.seq ?_
   refine CW.cutK (fun a w1 => Rep 40 [(5, .slice a246 (s243.2.1).length c247), (6, .int .i64 s243.2.2), (8, .string r253.2.1), (10, .pointer (some ⟨b268, 0, none⟩)), (32, .bool ((!r253.2.2) || (!r264.2)))] a ∧ St w (fp []) w1 [rowI (.slice a246 (s243.2.1).length c247) 32 enc_api_Inst 5 s243.2.1, blkI b268 32 [.int .i64 r264.1.Op, .int .i64 r264.1.D, .int .i64 r264.1.A, .int .i64 r264.1.B, .int .i64 r264.1.Imm]]) ?_ ?_
   ·refine CW.region ?_
    refine OW.pure 3 [(29, .bool (!r253.2.2))] (by kernel_rfl) ?_
    refine OW.split 29 rfl (fun hc271 => ?_) (fun hc271 => ?_)
    ·refine OW.pure 3 [(32, .bool true)] (by kernel_rfl) ?_
     refine OW.nil rfl ?_
     refine QW.say 32 (v := .bool ((!r253.2.2) || (!r264.2))) rfl (by first | (rw [hc271]; done) | (rw [hc271]; rfl) | simp [hc271]) ?_
     exact QW.meet (fun a ha => ⟨ha.agrees (by kernel_rfl), hst.keep [0, 1] rfl⟩)
    ·refine OW.pure 3 [(32, .bool (!r264.2))] (by kernel_rfl) ?_
     refine OW.nil rfl ?_
     refine QW.say 32 (v := .bool ((!r253.2.2) || (!r264.2))) rfl (by first | (rw [hc271]; done) | (rw [hc271]; rfl) | simp [hc271]) ?_
     exact QW.meet (fun a ha => ⟨ha.agrees (by kernel_rfl), hst.keep [0, 1] rfl⟩)
   ·rintro a w1 ⟨ha, hst⟩
    refine CW.go ?_ ha
    rcases Bool.eq_false_or_eq_true (((!r253.2.2) || (!r264.2))) with hc272 | hc272
    ·have hl242 := ite_t hl242 hc272
     refine CW.cond_t rfl hc272 ?_
     refine CW.seq ?_
     refine CW.region ?_
     refine OW.pure 4 [(2, .slice none 0 0), (3, .int .i64 s243.2.2), (4, .int .i64 20)] (by kernel_rfl) ?_
     refine OW.nil rfl ?_
     refine QW.next ?_
     refine CW.ret ?_
     refine QW.then_ret ?_
     refine QW.block_ret ?_
     refine QW.then_ret ?_
     refine QW.then_ret ?_
     refine QW.block_ret ?_
     refine QW.then_ret ?_
     have hst := hst.nilRow api_Inst 32 enc_api_Inst 5
     obtain rfl := Option.some.inj hl242
     obtain rfl := Option.some.inj hF
     refine QW.ret3 rfl rfl rfl rfl ?_
     exact ⟨(.slice none 0 0), rfl, hst.keep [2] rfl⟩
    ·have hl242 := ite_f hl242 hc272
     refine CW.cond_f rfl hc272 ?_
     refine CW.skip ?_
     refine QW.next ?_
     refine CW.seq ?_
     refine CW.region ?_
     refine OW.pure 1 [(34, .slice a246 (s243.2.1).length c247)] (by kernel_rfl) ?_
     refine OW.ldN (cs := [.int .i64 r264.1.Op, .int .i64 r264.1.D, .int .i64 r264.1.A, .int .i64 r264.1.B, .int .i64 r264.1.Imm]) rfl rfl rfl rfl (by kernel_rfl) (by kernel_rfl) (hst.blkN 1 rfl 0 5) ?_
     refine OW.row (α := api_Inst) (e := 32) (enc := enc_api_Inst) (sz := 5) hst rfl rfl rfl [r264.1] rfl (fun _ => rfl) rfl rfl (fun _ => by kernel_rfl) ?_
     intro g282 w283 hst
     obtain ⟨u284, hr285, hl242⟩ := bind_some' hl242
     refine OW.app hst 0 rfl (fun _ => rfl) (fun _ => rfl) rfl rfl rfl rfl rfl rfl (by kernel_rfl) el32 (hst.rd 2 rfl (fun _ => rfl) [] rfl (hst.len 2 rfl).1) (room_le hr285) ?_
     intro v286 w287 hst
     obtain ⟨l288, a289, c290, rfl⟩ := hst.len 0 rfl
     refine OW.pure 1 [(5, .slice a289 ((s243.2.1 ++ [r264.1])).length c290)] (by kernel_rfl) ?_
     refine OW.nil rfl ?_
     refine QW.next ?_
     refine CW.region ?_
     refine OW.pure 2 [(0, .string r253.2.1)] (by kernel_rfl) ?_
     refine OW.nil rfl ?_
     refine QW.block_normal ?_
     refine QW.next ?_
     refine CW.region ?_
     refine OW.pure 3 [(6, .int .i64 (w64 (s243.2.2 + 1)))] (by kernel_rfl) ?_
     refine OW.nil rfl ?_
     exact QW.meet (fun a ha => ⟨n241, Nat.lt_succ_self _, (r253.2.1, (s243.2.1 ++ [r264.1]), w64 (s243.2.2 + 1)), (.slice a289 ((s243.2.1 ++ [r264.1])).length c290), ha.agrees (by kernel_rfl), hst.keep [0] rfl, hl242⟩)
  ·have hl242 := ite_f hl242 hc248
   refine CW.cond_f rfl hc248 ?_
   refine CW.exit ?_
   refine QW.then_exit ?_
   refine QW.then_exit ?_
   refine QW.block_here ?_
   obtain rfl := Option.some.inj hl242
   exact QW.meet (fun a ha => ⟨s243.2.1, (.slice a246 (s243.2.1).length c247), rfl, ha.agrees (by kernel_rfl), hst.keep [0] rfl⟩)
 ·rintro a w1 ⟨t147, v144, rfl, ha, hst⟩
  refine CW.go ?_ ha
  obtain ⟨l293, a294, c295, rfl⟩ := hst.len 0 rfl
  refine CW.seq ?_
  refine CW.region ?_
  refine OW.pure 4 [(2, .slice a294 (t147).length c295), (3, .int .i64 0), (4, .int .i64 0)] (by kernel_rfl) ?_
  refine OW.nil rfl ?_
  refine QW.next ?_
  refine CW.ret ?_
  obtain rfl := Option.some.inj hF
  refine QW.ret3 rfl rfl rfl rfl ?_
  exact ⟨(.slice a294 (t147).length c295), rfl, hst.keep [0] rfl⟩

set_option maxRecDepth 10000 in
set_option maxHeartbeats 4000000 in
theorem tappetlaw03_awake_ok (w : World) (fu : Nat)  (r : Bool) (hF : tappetlaw03_awake fu = some r)
    (hst : St w (fp []) w []) (hT0 : Rd w (fp []) (.slice (some ⟨0, 0, none⟩) 23 23) enc_ops_form 2 tab_g0) (hTL : LibG Tryd.prog 2 1 3 4 w (fp [])) :
    Calls Tryd.prog 9 [].toArray w (fun e w' => e = .returned (.bool r) ∧ St w (fp []) w' []) := by
 refine CW.start (N := 43) Tryd.func9 rfl rfl rfl ?_
 refine CW.seq ?_
 refine CW.region ?_
 refine OW.pure 1 [] (by kernel_rfl) ?_
 refine OW.nil rfl ?_
 refine QW.next ?_
 refine CW.seq ?_
 refine CW.region ?_
 refine OW.pure 1 [(7, .agg [.int .i64 1, .int .i64 1, .int .i64 2, .int .i64 3, .int .i64 0].toArray)] (by kernel_rfl) ?_
 refine OW.row (α := api_Inst) (e := 32) (enc := enc_api_Inst) (sz := 5) hst rfl rfl rfl [(api_Inst.mk 1 1 2 3 0)] rfl (fun _ => rfl) rfl rfl (fun _ => by kernel_rfl) ?_
 intro g7 w8 hst
 obtain ⟨r9, hr10, hF⟩ := bind_some' hF
 refine OW.fn rfl rfl rfl rfl (by kernel_rfl) (lines_Print_ok _ fu (.slice (some ⟨g7, 0, none⟩) 1 1) ([(api_Inst.mk 1 1 2 3 0)]) r9 hr10 (hst.part [] rfl) (hst.rd 0 rfl (fun _ => rfl) [] rfl (hst.len 0 rfl).1) (hT0.give hst []) (hTL.give hst [])) ?_
 rintro e w11 ⟨rfl, hst12⟩
 refine ⟨_, rfl, ?_⟩
 have hst := hst.join (idx := []) (rest := [0]) rfl hst12
 refine OW.pure 5 [(1, .string r9.1), (2, .int .i64 r9.2)] (by kernel_rfl) ?_
 refine OW.nil rfl ?_
 refine QW.next ?_
 refine CW.seq ?_
 refine CW.region ?_
 obtain ⟨r21, hr22, hF⟩ := bind_some' hF
 refine OW.fn rfl rfl rfl rfl (by kernel_rfl) (lines_Parse_ok _ fu (⟨[106, 108, 116, 32, 114, 52, 32, 45, 49, 32, 50, 10].toArray⟩) r21 hr22 (hst.part [] rfl) (hT0.give hst []) (hTL.give hst [])) ?_
 rintro e w23 ⟨v25, rfl, hst24⟩
 refine ⟨_, rfl, ?_⟩
 have hst := hst.join (idx := []) (rest := [0]) rfl hst24
 obtain ⟨l26, a27, c28, rfl⟩ := hst.len 0 rfl
 refine OW.pure 7 [(3, .slice a27 (r21.1).length c28), (4, .int .i64 r21.2.1), (5, .int .i64 r21.2.2)] (by kernel_rfl) ?_
 refine OW.nil rfl ?_
 refine QW.next ?_
 refine CW.seq ?_
 obtain ⟨o40, ho41, hF⟩ := bind_some' hF
 refine CW.cutK (fun a w1 => Rep 43 [(0, .bool o40)] a ∧ St w (fp []) w1 []) ?_ ?_
 ·refine CW.region ?_
  refine OW.pure 3 [(19, .bool (sEq r9.1 (⟨[97, 100, 100, 32, 114, 49, 32, 114, 50, 32, 114, 51, 10].toArray⟩)))] (by kernel_rfl) ?_
  refine OW.split 19 rfl (fun hc42 => ?_) (fun hc42 => ?_)
  ·have ho41 := ite_t ho41 hc42
   refine OW.pure 4 [(23, .bool (r9.2 == 0))] (by kernel_rfl) ?_
   refine OW.split 23 rfl (fun hc43 => ?_) (fun hc43 => ?_)
   ·have ho41 := ite_t ho41 hc43
    refine OW.pure 5 [(28, .bool (((r21.1).length : Int) == 1))] (by kernel_rfl) ?_
    refine OW.split 28 rfl (fun hc44 => ?_) (fun hc44 => ?_)
    ·have ho41 := ite_t ho41 hc44
     refine OW.pure 1 [(29, .slice a27 (r21.1).length c28)] (by kernel_rfl) ?_
     obtain ⟨x45, hx46, ho41⟩ := bind_some' ho41
     obtain ⟨g48, o49, c50, hv47⟩ := hst.rowv 0 rfl hx46
     refine OW.idx 32 5 rfl rfl rfl rfl hv47 rfl (idx_some hx46).1 (idx_some hx46).2.1 (by kernel_rfl) (by kernel_rfl) ?_
     refine OW.ldN (cs := enc_api_Inst x45) rfl rfl rfl rfl (by kernel_rfl) (by kernel_rfl) (hst.rowc 0 rfl (fun _ => rfl) hx46 hv47) ?_
     refine OW.pure 1 [(32, .agg [.int .i64 18, .int .i64 2, .int .i64 4, .int .i64 8, .int .i64 (-1)].toArray)] (by kernel_rfl) ?_
     refine OW.op (v := .bool ((x45.Op == 18) && ((x45.D == 2) && ((x45.A == 4) && ((x45.B == 8) && ((x45.Imm == (-1)) && true)))))) rfl rfl rfl rfl (fun a ha => seq_run rfl rfl rfl (by kernel_rfl) (by kernel_rfl) a _ ha) ?_
     refine OW.pure 2 [(35, .bool ((x45.Op == 18) && ((x45.D == 2) && ((x45.A == 4) && ((x45.B == 8) && ((x45.Imm == (-1)) && true))))))] (by kernel_rfl) ?_
     refine OW.split 35 rfl (fun hc51 => ?_) (fun hc51 => ?_)
     ·have ho41 := ite_t ho41 hc51
      refine OW.pure 4 [(39, .bool (r21.2.1 == 0))] (by kernel_rfl) ?_
      refine OW.split 39 rfl (fun hc52 => ?_) (fun hc52 => ?_)
      ·have ho41 := ite_t ho41 hc52
       refine OW.pure 4 [(0, .bool (r21.2.2 == 0))] (by kernel_rfl) ?_
       refine OW.nil rfl ?_
       obtain rfl := Option.some.inj ho41
       exact QW.meet (fun a ha => ⟨ha.agrees (by kernel_rfl), hst.keep [] rfl⟩)
      ·have ho41 := ite_f ho41 hc52
       refine OW.pure 4 [(0, .bool false)] (by kernel_rfl) ?_
       refine OW.nil rfl ?_
       obtain rfl := Option.some.inj ho41
       exact QW.meet (fun a ha => ⟨ha.agrees (by kernel_rfl), hst.keep [] rfl⟩)
     ·have ho41 := ite_f ho41 hc51
      refine OW.pure 8 [(0, .bool false)] (by kernel_rfl) ?_
      refine OW.nil rfl ?_
      obtain rfl := Option.some.inj ho41
      exact QW.meet (fun a ha => ⟨ha.agrees (by kernel_rfl), hst.keep [] rfl⟩)
    ·have ho41 := ite_f ho41 hc44
     refine OW.pure 15 [(0, .bool false)] (by kernel_rfl) ?_
     refine OW.nil rfl ?_
     obtain rfl := Option.some.inj ho41
     exact QW.meet (fun a ha => ⟨ha.agrees (by kernel_rfl), hst.keep [] rfl⟩)
   ·have ho41 := ite_f ho41 hc43
    refine OW.pure 20 [(0, .bool false)] (by kernel_rfl) ?_
    refine OW.nil rfl ?_
    obtain rfl := Option.some.inj ho41
    exact QW.meet (fun a ha => ⟨ha.agrees (by kernel_rfl), hst.keep [] rfl⟩)
  ·have ho41 := ite_f ho41 hc42
   refine OW.pure 24 [(0, .bool false)] (by kernel_rfl) ?_
   refine OW.nil rfl ?_
   obtain rfl := Option.some.inj ho41
   exact QW.meet (fun a ha => ⟨ha.agrees (by kernel_rfl), hst.keep [] rfl⟩)
 ·rintro a w1 ⟨ha, hst⟩
  refine CW.go ?_ ha
  refine CW.ret ?_
  obtain rfl := Option.some.inj hF
  refine QW.ret1 rfl rfl ?_
  exact ⟨rfl, hst.keep [] rfl⟩

set_option maxRecDepth 10000 in
set_option maxHeartbeats 4000000 in
theorem tappetref02_reg_ok (w : World) (p0 : Int) (r : Bool) (hF : tappetref02_reg p0 = some r)
    (hst : St w (fp []) w []) :
    Calls Tryd.prog 32 [.int .i64 p0].toArray w (fun e w' => e = .returned (.bool r) ∧ St w (fp []) w' []) := by
 refine CW.start (N := 9) Tryd.func32 rfl rfl rfl ?_
 refine CW.seq ?_
 refine CW.region ?_
 refine OW.pure 1 [] (by kernel_rfl) ?_
 refine OW.nil rfl ?_
 refine QW.next ?_
 refine CW.seq ?_
 refine CW.cutK (fun a w1 => Rep 9 [(2, .bool (decide (p0 ≥ 0) && decide (p0 ≤ 7)))] a ∧ St w (fp []) w1 []) ?_ ?_
 ·refine CW.region ?_
  refine OW.pure 3 [(5, .bool (decide (p0 ≥ 0)))] (by kernel_rfl) ?_
  refine OW.split 5 rfl (fun hc1 => ?_) (fun hc1 => ?_)
  ·refine OW.pure 4 [(2, .bool (decide (p0 ≤ 7)))] (by kernel_rfl) ?_
   refine OW.nil rfl ?_
   refine QW.say 2 (v := .bool (decide (p0 ≥ 0) && decide (p0 ≤ 7))) rfl (by first | (rw [hc1]; done) | (rw [hc1]; rfl) | simp [hc1]) ?_
   exact QW.meet (fun a ha => ⟨ha.agrees (by kernel_rfl), hst.keep [] rfl⟩)
  ·refine OW.pure 4 [(2, .bool false)] (by kernel_rfl) ?_
   refine OW.nil rfl ?_
   refine QW.say 2 (v := .bool (decide (p0 ≥ 0) && decide (p0 ≤ 7))) rfl (by first | (rw [hc1]; done) | (rw [hc1]; rfl) | simp [hc1]) ?_
   exact QW.meet (fun a ha => ⟨ha.agrees (by kernel_rfl), hst.keep [] rfl⟩)
 ·rintro a w1 ⟨ha, hst⟩
  refine CW.go ?_ ha
  refine CW.ret ?_
  obtain rfl := Option.some.inj hF
  refine QW.ret1 rfl rfl ?_
  exact ⟨rfl, hst.keep [] rfl⟩

set_option maxRecDepth 10000 in
set_option maxHeartbeats 4000000 in
theorem tappetref02_sourced_ok (w : World) (p0 : api_Inst) (r : Bool) (hF : tappetref02_sourced p0 = some r)
    (hst : St w (fp []) w []) :
    Calls Tryd.prog 33 [.agg [.int .i64 p0.Op, .int .i64 p0.D, .int .i64 p0.A, .int .i64 p0.B, .int .i64 p0.Imm].toArray].toArray w (fun e w' => e = .returned (.bool r) ∧ St w (fp []) w' []) := by
 refine CW.start (N := 16) Tryd.func33 rfl rfl rfl ?_
 refine CW.seq ?_
 refine CW.region ?_
 refine OW.box hst rfl rfl rfl rfl [.int .i64 p0.Op, .int .i64 p0.D, .int .i64 p0.A, .int .i64 p0.B, .int .i64 p0.Imm] rfl ?_
 intro b3 w4 hst
 refine OW.pure 1 [] (by kernel_rfl) ?_
 refine OW.nil rfl ?_
 refine QW.next ?_
 refine CW.seq ?_
 obtain ⟨o15, ho16, hF⟩ := bind_some' hF
 refine CW.cutK (fun a w1 => Rep 16 [(2, .bool o15)] a ∧ St w (fp []) w1 []) ?_ ?_
 ·refine CW.region ?_
  refine OW.pure 1 [(3, .pointer (some ⟨b3, 3, none⟩))] (by kernel_rfl) ?_
  refine OW.ld rfl rfl rfl rfl (by kernel_rfl) (hst.blk 0 rfl rfl) ?_
  obtain ⟨r17, hr18, ho16⟩ := bind_some' ho16
  refine OW.fn rfl rfl rfl rfl (by kernel_rfl) (tappetref02_reg_ok _ p0.B r17 hr18 (hst.part [] rfl)) ?_
  rintro e w19 ⟨rfl, hst20⟩
  refine ⟨_, rfl, ?_⟩
  have hst := hst.join (idx := []) (rest := [0]) rfl hst20
  refine OW.pure 1 [(6, .bool r17)] (by kernel_rfl) ?_
  refine OW.split 6 rfl (fun hc21 => ?_) (fun hc21 => ?_)
  ·have ho16 := ite_t ho16 hc21
   refine OW.pure 1 [(7, .pointer (some ⟨b3, 4, none⟩))] (by kernel_rfl) ?_
   refine OW.ld rfl rfl rfl rfl (by kernel_rfl) (hst.blk 0 rfl rfl) ?_
   refine OW.pure 3 [(11, .bool (p0.Imm == 0))] (by kernel_rfl) ?_
   refine OW.split 11 rfl (fun hc22 => ?_) (fun hc22 => ?_)
   ·have ho16 := ite_t ho16 hc22
    refine OW.pure 5 [(2, .bool true)] (by kernel_rfl) ?_
    refine OW.nil rfl ?_
    obtain rfl := Option.some.inj ho16
    exact QW.meet (fun a ha => ⟨ha.agrees (by kernel_rfl), hst.keep [] rfl⟩)
   ·have ho16 := ite_f ho16 hc22
    refine OW.pure 1 [(12, .pointer (some ⟨b3, 3, none⟩))] (by kernel_rfl) ?_
    refine OW.ld rfl rfl rfl rfl (by kernel_rfl) (hst.blk 0 rfl rfl) ?_
    refine OW.pure 3 [(2, .bool (p0.B == 8))] (by kernel_rfl) ?_
    refine OW.nil rfl ?_
    obtain rfl := Option.some.inj ho16
    exact QW.meet (fun a ha => ⟨ha.agrees (by kernel_rfl), hst.keep [] rfl⟩)
  ·have ho16 := ite_f ho16 hc21
   refine OW.pure 6 [(11, .bool false), (12, .pointer (some ⟨b3, 3, none⟩))] (by kernel_rfl) ?_
   refine OW.ld rfl rfl rfl rfl (by kernel_rfl) (hst.blk 0 rfl rfl) ?_
   refine OW.pure 3 [(2, .bool (p0.B == 8))] (by kernel_rfl) ?_
   refine OW.nil rfl ?_
   obtain rfl := Option.some.inj ho16
   exact QW.meet (fun a ha => ⟨ha.agrees (by kernel_rfl), hst.keep [] rfl⟩)
 ·rintro a w1 ⟨ha, hst⟩
  refine CW.go ?_ ha
  refine CW.ret ?_
  obtain rfl := Option.some.inj hF
  refine QW.ret1 rfl rfl ?_
  exact ⟨rfl, hst.keep [] rfl⟩

set_option maxRecDepth 10000 in
set_option maxHeartbeats 4000000 in
theorem tappetref02_Three_ok (w : World) (p0 : Int) (r : Bool) (hF : tappetref02_Three p0 = some r)
    (hst : St w (fp []) w []) :
    Calls Tryd.prog 34 [.int .i64 p0].toArray w (fun e w' => e = .returned (.bool r) ∧ St w (fp []) w' []) := by
 refine CW.start (N := 9) Tryd.func34 rfl rfl rfl ?_
 refine CW.seq ?_
 refine CW.region ?_
 refine OW.pure 1 [] (by kernel_rfl) ?_
 refine OW.nil rfl ?_
 refine QW.next ?_
 refine CW.seq ?_
 refine CW.cutK (fun a w1 => Rep 9 [(2, .bool (decide (p0 ≥ 1) && decide (p0 ≤ 10)))] a ∧ St w (fp []) w1 []) ?_ ?_
 ·refine CW.region ?_
  refine OW.pure 3 [(5, .bool (decide (p0 ≥ 1)))] (by kernel_rfl) ?_
  refine OW.split 5 rfl (fun hc1 => ?_) (fun hc1 => ?_)
  ·refine OW.pure 4 [(2, .bool (decide (p0 ≤ 10)))] (by kernel_rfl) ?_
   refine OW.nil rfl ?_
   refine QW.say 2 (v := .bool (decide (p0 ≥ 1) && decide (p0 ≤ 10))) rfl (by first | (rw [hc1]; done) | (rw [hc1]; rfl) | simp [hc1]) ?_
   exact QW.meet (fun a ha => ⟨ha.agrees (by kernel_rfl), hst.keep [] rfl⟩)
  ·refine OW.pure 4 [(2, .bool false)] (by kernel_rfl) ?_
   refine OW.nil rfl ?_
   refine QW.say 2 (v := .bool (decide (p0 ≥ 1) && decide (p0 ≤ 10))) rfl (by first | (rw [hc1]; done) | (rw [hc1]; rfl) | simp [hc1]) ?_
   exact QW.meet (fun a ha => ⟨ha.agrees (by kernel_rfl), hst.keep [] rfl⟩)
 ·rintro a w1 ⟨ha, hst⟩
  refine CW.go ?_ ha
  refine CW.ret ?_
  obtain rfl := Option.some.inj hF
  refine QW.ret1 rfl rfl ?_
  exact ⟨rfl, hst.keep [] rfl⟩

set_option maxRecDepth 10000 in
set_option maxHeartbeats 4000000 in
theorem tappetref02_Jump_ok (w : World) (p0 : Int) (r : Bool) (hF : tappetref02_Jump p0 = some r)
    (hst : St w (fp []) w []) :
    Calls Tryd.prog 35 [.int .i64 p0].toArray w (fun e w' => e = .returned (.bool r) ∧ St w (fp []) w' []) := by
 refine CW.start (N := 9) Tryd.func35 rfl rfl rfl ?_
 refine CW.seq ?_
 refine CW.region ?_
 refine OW.pure 1 [] (by kernel_rfl) ?_
 refine OW.nil rfl ?_
 refine QW.next ?_
 refine CW.seq ?_
 refine CW.cutK (fun a w1 => Rep 9 [(2, .bool (decide (p0 ≥ 16) && decide (p0 ≤ 19)))] a ∧ St w (fp []) w1 []) ?_ ?_
 ·refine CW.region ?_
  refine OW.pure 3 [(5, .bool (decide (p0 ≥ 16)))] (by kernel_rfl) ?_
  refine OW.split 5 rfl (fun hc1 => ?_) (fun hc1 => ?_)
  ·refine OW.pure 4 [(2, .bool (decide (p0 ≤ 19)))] (by kernel_rfl) ?_
   refine OW.nil rfl ?_
   refine QW.say 2 (v := .bool (decide (p0 ≥ 16) && decide (p0 ≤ 19))) rfl (by first | (rw [hc1]; done) | (rw [hc1]; rfl) | simp [hc1]) ?_
   exact QW.meet (fun a ha => ⟨ha.agrees (by kernel_rfl), hst.keep [] rfl⟩)
  ·refine OW.pure 4 [(2, .bool false)] (by kernel_rfl) ?_
   refine OW.nil rfl ?_
   refine QW.say 2 (v := .bool (decide (p0 ≥ 16) && decide (p0 ≤ 19))) rfl (by first | (rw [hc1]; done) | (rw [hc1]; rfl) | simp [hc1]) ?_
   exact QW.meet (fun a ha => ⟨ha.agrees (by kernel_rfl), hst.keep [] rfl⟩)
 ·rintro a w1 ⟨ha, hst⟩
  refine CW.go ?_ ha
  refine CW.ret ?_
  obtain rfl := Option.some.inj hF
  refine QW.ret1 rfl rfl ?_
  exact ⟨rfl, hst.keep [] rfl⟩

set_option maxRecDepth 10000 in
set_option maxHeartbeats 4000000 in
theorem tappetref02_Right_ok (w : World) (p0 : api_Inst) (r : Bool) (hF : tappetref02_Right p0 = some r)
    (hst : St w (fp []) w []) :
    Calls Tryd.prog 19 [.agg [.int .i64 p0.Op, .int .i64 p0.D, .int .i64 p0.A, .int .i64 p0.B, .int .i64 p0.Imm].toArray].toArray w (fun e w' => e = .returned (.bool r) ∧ St w (fp []) w' []) := by
 refine CW.start (N := 231) Tryd.func19 rfl rfl rfl ?_
 refine CW.seq ?_
 refine CW.region ?_
 refine OW.box hst rfl rfl rfl rfl [.int .i64 p0.Op, .int .i64 p0.D, .int .i64 p0.A, .int .i64 p0.B, .int .i64 p0.Imm] rfl ?_
 intro b3 w4 hst
 refine OW.pure 1 [] (by kernel_rfl) ?_
 refine OW.nil rfl ?_
 refine QW.next ?_
 refine CW.seq ?_
 refine CW.region ?_
 refine OW.pure 1 [(4, .pointer (some ⟨b3, 0, none⟩))] (by kernel_rfl) ?_
 refine OW.ld rfl rfl rfl rfl (by kernel_rfl) (hst.blk 0 rfl rfl) ?_
 refine OW.pure 1 [(3, .int .i64 p0.Op)] (by kernel_rfl) ?_
 refine OW.nil rfl ?_
 refine QW.next ?_
 refine CW.seq ?_
 refine CW.block ?_
 refine CW.seq ?_
 refine CW.cutK (fun a w1 => Rep 231 [(1, .pointer (some ⟨b3, 0, none⟩)), (3, .int .i64 p0.Op), (6, .bool ((p0.Op == 0) || (p0.Op == 11)))] a ∧ St w (fp []) w1 [blkI b3 32 [.int .i64 p0.Op, .int .i64 p0.D, .int .i64 p0.A, .int .i64 p0.B, .int .i64 p0.Imm]]) ?_ ?_
 ·refine CW.region ?_
  refine OW.pure 3 [(9, .bool (p0.Op == 0))] (by kernel_rfl) ?_
  refine OW.split 9 rfl (fun hc5 => ?_) (fun hc5 => ?_)
  ·refine OW.pure 4 [(6, .bool true)] (by kernel_rfl) ?_
   refine OW.nil rfl ?_
   refine QW.say 6 (v := .bool ((p0.Op == 0) || (p0.Op == 11))) rfl (by first | (rw [hc5]; done) | (rw [hc5]; rfl) | simp [hc5]) ?_
   exact QW.meet (fun a ha => ⟨ha.agrees (by kernel_rfl), hst.keep [0] rfl⟩)
  ·refine OW.pure 4 [(6, .bool (p0.Op == 11))] (by kernel_rfl) ?_
   refine OW.nil rfl ?_
   refine QW.say 6 (v := .bool ((p0.Op == 0) || (p0.Op == 11))) rfl (by first | (rw [hc5]; done) | (rw [hc5]; rfl) | simp [hc5]) ?_
   exact QW.meet (fun a ha => ⟨ha.agrees (by kernel_rfl), hst.keep [0] rfl⟩)
 ·rintro a w1 ⟨ha, hst⟩
  refine CW.go ?_ ha
  rcases Bool.eq_false_or_eq_true (((p0.Op == 0) || (p0.Op == 11))) with hc6 | hc6
  ·have hF := ite_t hF hc6
   refine CW.cond_t rfl hc6 ?_
   refine CW.seq ?_
   obtain ⟨o21, ho22, hF⟩ := bind_some' hF
   refine CW.cutK (fun a w1 => Rep 231 [(2, .bool o21)] a ∧ St w (fp []) w1 []) ?_ ?_
   ·refine CW.region ?_
    refine OW.pure 1 [(13, .pointer (some ⟨b3, 1, none⟩))] (by kernel_rfl) ?_
    refine OW.ld rfl rfl rfl rfl (by kernel_rfl) (hst.blk 0 rfl rfl) ?_
    obtain ⟨r23, hr24, ho22⟩ := bind_some' ho22
    refine OW.fn rfl rfl rfl rfl (by kernel_rfl) (tappetref02_reg_ok _ p0.D r23 hr24 (hst.part [] rfl)) ?_
    rintro e w25 ⟨rfl, hst26⟩
    refine ⟨_, rfl, ?_⟩
    have hst := hst.join (idx := []) (rest := [0]) rfl hst26
    refine OW.pure 1 [(16, .bool r23)] (by kernel_rfl) ?_
    refine OW.split 16 rfl (fun hc27 => ?_) (fun hc27 => ?_)
    ·have ho22 := ite_t ho22 hc27
     refine OW.pure 1 [(17, .pointer (some ⟨b3, 2, none⟩))] (by kernel_rfl) ?_
     refine OW.ld rfl rfl rfl rfl (by kernel_rfl) (hst.blk 0 rfl rfl) ?_
     refine OW.pure 3 [(21, .bool (p0.A == 0))] (by kernel_rfl) ?_
     refine OW.split 21 rfl (fun hc28 => ?_) (fun hc28 => ?_)
     ·have ho22 := ite_t ho22 hc28
      refine OW.ldN (cs := [.int .i64 p0.Op, .int .i64 p0.D, .int .i64 p0.A, .int .i64 p0.B, .int .i64 p0.Imm]) rfl rfl rfl rfl (by kernel_rfl) (by kernel_rfl) (hst.blkN 0 rfl 0 5) ?_
      obtain ⟨r29, hr30, ho22⟩ := bind_some' ho22
      refine OW.fn rfl rfl rfl rfl (by kernel_rfl) (tappetref02_sourced_ok _ p0 r29 hr30 (hst.part [] rfl)) ?_
      rintro e w31 ⟨rfl, hst32⟩
      refine ⟨_, rfl, ?_⟩
      have hst := hst.join (idx := []) (rest := [0]) rfl hst32
      refine OW.pure 2 [(2, .bool r29)] (by kernel_rfl) ?_
      refine OW.nil rfl ?_
      obtain rfl := Option.some.inj ho22
      exact QW.meet (fun a ha => ⟨ha.agrees (by kernel_rfl), hst.keep [] rfl⟩)
     ·have ho22 := ite_f ho22 hc28
      refine OW.pure 4 [(2, .bool false)] (by kernel_rfl) ?_
      refine OW.nil rfl ?_
      obtain rfl := Option.some.inj ho22
      exact QW.meet (fun a ha => ⟨ha.agrees (by kernel_rfl), hst.keep [] rfl⟩)
    ·have ho22 := ite_f ho22 hc27
     refine OW.pure 9 [(2, .bool false)] (by kernel_rfl) ?_
     refine OW.nil rfl ?_
     obtain rfl := Option.some.inj ho22
     exact QW.meet (fun a ha => ⟨ha.agrees (by kernel_rfl), hst.keep [] rfl⟩)
   ·rintro a w1 ⟨ha, hst⟩
    refine CW.go ?_ ha
    refine CW.ret ?_
    refine QW.block_ret ?_
    refine QW.then_ret ?_
    obtain rfl := Option.some.inj hF
    refine QW.ret1 rfl rfl ?_
    exact ⟨rfl, hst.keep [] rfl⟩
  ·have hF := ite_f hF hc6
   refine CW.cond_f rfl hc6 ?_
   refine CW.seq ?_
   refine CW.region ?_
   refine OW.pure 1 [(26, .int .i64 p0.Op)] (by kernel_rfl) ?_
   obtain ⟨r37, hr38, hF⟩ := bind_some' hF
   refine OW.fn rfl rfl rfl rfl (by kernel_rfl) (tappetref02_Three_ok _ p0.Op r37 hr38 (hst.part [] rfl)) ?_
   rintro e w39 ⟨rfl, hst40⟩
   refine ⟨_, rfl, ?_⟩
   have hst := hst.join (idx := []) (rest := [0]) rfl hst40
   refine OW.pure 1 [(25, .bool r37)] (by kernel_rfl) ?_
   refine OW.nil rfl ?_
   refine QW.next ?_
   rcases Bool.eq_false_or_eq_true (r37) with hc41 | hc41
   ·have hF := ite_t hF hc41
    refine CW.cond_t rfl hc41 ?_
    refine CW.seq ?_
    obtain ⟨o60, ho61, hF⟩ := bind_some' hF
    refine CW.cutK (fun a w1 => Rep 231 [(2, .bool o60)] a ∧ St w (fp []) w1 []) ?_ ?_
    ·refine CW.region ?_
     refine OW.pure 1 [(28, .pointer (some ⟨b3, 1, none⟩))] (by kernel_rfl) ?_
     refine OW.ld rfl rfl rfl rfl (by kernel_rfl) (hst.blk 0 rfl rfl) ?_
     obtain ⟨r62, hr63, ho61⟩ := bind_some' ho61
     refine OW.fn rfl rfl rfl rfl (by kernel_rfl) (tappetref02_reg_ok _ p0.D r62 hr63 (hst.part [] rfl)) ?_
     rintro e w64 ⟨rfl, hst65⟩
     refine ⟨_, rfl, ?_⟩
     have hst := hst.join (idx := []) (rest := [0]) rfl hst65
     refine OW.pure 1 [(31, .bool r62)] (by kernel_rfl) ?_
     refine OW.split 31 rfl (fun hc66 => ?_) (fun hc66 => ?_)
     ·have ho61 := ite_t ho61 hc66
      refine OW.pure 1 [(32, .pointer (some ⟨b3, 2, none⟩))] (by kernel_rfl) ?_
      refine OW.ld rfl rfl rfl rfl (by kernel_rfl) (hst.blk 0 rfl rfl) ?_
      obtain ⟨r67, hr68, ho61⟩ := bind_some' ho61
      refine OW.fn rfl rfl rfl rfl (by kernel_rfl) (tappetref02_reg_ok _ p0.A r67 hr68 (hst.part [] rfl)) ?_
      rintro e w69 ⟨rfl, hst70⟩
      refine ⟨_, rfl, ?_⟩
      have hst := hst.join (idx := []) (rest := [0]) rfl hst70
      refine OW.pure 2 [(36, .bool r67)] (by kernel_rfl) ?_
      refine OW.split 36 rfl (fun hc71 => ?_) (fun hc71 => ?_)
      ·have ho61 := ite_t ho61 hc71
       refine OW.ldN (cs := [.int .i64 p0.Op, .int .i64 p0.D, .int .i64 p0.A, .int .i64 p0.B, .int .i64 p0.Imm]) rfl rfl rfl rfl (by kernel_rfl) (by kernel_rfl) (hst.blkN 0 rfl 0 5) ?_
       obtain ⟨r72, hr73, ho61⟩ := bind_some' ho61
       refine OW.fn rfl rfl rfl rfl (by kernel_rfl) (tappetref02_sourced_ok _ p0 r72 hr73 (hst.part [] rfl)) ?_
       rintro e w74 ⟨rfl, hst75⟩
       refine ⟨_, rfl, ?_⟩
       have hst := hst.join (idx := []) (rest := [0]) rfl hst75
       refine OW.pure 2 [(2, .bool r72)] (by kernel_rfl) ?_
       refine OW.nil rfl ?_
       obtain rfl := Option.some.inj ho61
       exact QW.meet (fun a ha => ⟨ha.agrees (by kernel_rfl), hst.keep [] rfl⟩)
      ·have ho61 := ite_f ho61 hc71
       refine OW.pure 4 [(2, .bool false)] (by kernel_rfl) ?_
       refine OW.nil rfl ?_
       obtain rfl := Option.some.inj ho61
       exact QW.meet (fun a ha => ⟨ha.agrees (by kernel_rfl), hst.keep [] rfl⟩)
     ·have ho61 := ite_f ho61 hc66
      refine OW.pure 9 [(2, .bool false)] (by kernel_rfl) ?_
      refine OW.nil rfl ?_
      obtain rfl := Option.some.inj ho61
      exact QW.meet (fun a ha => ⟨ha.agrees (by kernel_rfl), hst.keep [] rfl⟩)
    ·rintro a w1 ⟨ha, hst⟩
     refine CW.go ?_ ha
     refine CW.ret ?_
     refine QW.block_ret ?_
     refine QW.then_ret ?_
     obtain rfl := Option.some.inj hF
     refine QW.ret1 rfl rfl ?_
     exact ⟨rfl, hst.keep [] rfl⟩
   ·have hF := ite_f hF hc41
    refine CW.cond_f rfl hc41 ?_
    refine CW.seq ?_
    refine CW.region ?_
    refine OW.pure 3 [(40, .bool (p0.Op == 12))] (by kernel_rfl) ?_
    refine OW.nil rfl ?_
    refine QW.next ?_
    rcases Bool.eq_false_or_eq_true ((p0.Op == 12)) with hc76 | hc76
    ·have hF := ite_t hF hc76
     refine CW.cond_t rfl hc76 ?_
     refine CW.seq ?_
     obtain ⟨o87, ho88, hF⟩ := bind_some' hF
     refine CW.cutK (fun a w1 => Rep 231 [(2, .bool o87)] a ∧ St w (fp []) w1 []) ?_ ?_
     ·refine CW.region ?_
      refine OW.pure 1 [(43, .pointer (some ⟨b3, 1, none⟩))] (by kernel_rfl) ?_
      refine OW.ld rfl rfl rfl rfl (by kernel_rfl) (hst.blk 0 rfl rfl) ?_
      refine OW.pure 2 [(46, .bool (p0.D == 0))] (by kernel_rfl) ?_
      refine OW.split 46 rfl (fun hc89 => ?_) (fun hc89 => ?_)
      ·have ho88 := ite_t ho88 hc89
       refine OW.pure 1 [(47, .pointer (some ⟨b3, 2, none⟩))] (by kernel_rfl) ?_
       refine OW.ld rfl rfl rfl rfl (by kernel_rfl) (hst.blk 0 rfl rfl) ?_
       obtain ⟨r90, hr91, ho88⟩ := bind_some' ho88
       refine OW.fn rfl rfl rfl rfl (by kernel_rfl) (tappetref02_reg_ok _ p0.A r90 hr91 (hst.part [] rfl)) ?_
       rintro e w92 ⟨rfl, hst93⟩
       refine ⟨_, rfl, ?_⟩
       have hst := hst.join (idx := []) (rest := [0]) rfl hst93
       refine OW.pure 2 [(51, .bool r90)] (by kernel_rfl) ?_
       refine OW.split 51 rfl (fun hc94 => ?_) (fun hc94 => ?_)
       ·have ho88 := ite_t ho88 hc94
        refine OW.ldN (cs := [.int .i64 p0.Op, .int .i64 p0.D, .int .i64 p0.A, .int .i64 p0.B, .int .i64 p0.Imm]) rfl rfl rfl rfl (by kernel_rfl) (by kernel_rfl) (hst.blkN 0 rfl 0 5) ?_
        obtain ⟨r95, hr96, ho88⟩ := bind_some' ho88
        refine OW.fn rfl rfl rfl rfl (by kernel_rfl) (tappetref02_sourced_ok _ p0 r95 hr96 (hst.part [] rfl)) ?_
        rintro e w97 ⟨rfl, hst98⟩
        refine ⟨_, rfl, ?_⟩
        have hst := hst.join (idx := []) (rest := [0]) rfl hst98
        refine OW.pure 2 [(2, .bool r95)] (by kernel_rfl) ?_
        refine OW.nil rfl ?_
        obtain rfl := Option.some.inj ho88
        exact QW.meet (fun a ha => ⟨ha.agrees (by kernel_rfl), hst.keep [] rfl⟩)
       ·have ho88 := ite_f ho88 hc94
        refine OW.pure 4 [(2, .bool false)] (by kernel_rfl) ?_
        refine OW.nil rfl ?_
        obtain rfl := Option.some.inj ho88
        exact QW.meet (fun a ha => ⟨ha.agrees (by kernel_rfl), hst.keep [] rfl⟩)
      ·have ho88 := ite_f ho88 hc89
       refine OW.pure 9 [(2, .bool false)] (by kernel_rfl) ?_
       refine OW.nil rfl ?_
       obtain rfl := Option.some.inj ho88
       exact QW.meet (fun a ha => ⟨ha.agrees (by kernel_rfl), hst.keep [] rfl⟩)
     ·rintro a w1 ⟨ha, hst⟩
      refine CW.go ?_ ha
      refine CW.ret ?_
      refine QW.block_ret ?_
      refine QW.then_ret ?_
      obtain rfl := Option.some.inj hF
      refine QW.ret1 rfl rfl ?_
      exact ⟨rfl, hst.keep [] rfl⟩
    ·have hF := ite_f hF hc76
     refine CW.cond_f rfl hc76 ?_
     refine CW.seq ?_
     refine CW.region ?_
     refine OW.pure 3 [(55, .bool (p0.Op == 13))] (by kernel_rfl) ?_
     refine OW.nil rfl ?_
     refine QW.next ?_
     rcases Bool.eq_false_or_eq_true ((p0.Op == 13)) with hc99 | hc99
     ·have hF := ite_t hF hc99
      refine CW.cond_t rfl hc99 ?_
      refine CW.seq ?_
      obtain ⟨o112, ho113, hF⟩ := bind_some' hF
      refine CW.cutK (fun a w1 => Rep 231 [(2, .bool o112)] a ∧ St w (fp []) w1 []) ?_ ?_
      ·refine CW.region ?_
       refine OW.pure 1 [(58, .pointer (some ⟨b3, 1, none⟩))] (by kernel_rfl) ?_
       refine OW.ld rfl rfl rfl rfl (by kernel_rfl) (hst.blk 0 rfl rfl) ?_
       obtain ⟨r114, hr115, ho113⟩ := bind_some' ho113
       refine OW.fn rfl rfl rfl rfl (by kernel_rfl) (tappetref02_reg_ok _ p0.D r114 hr115 (hst.part [] rfl)) ?_
       rintro e w116 ⟨rfl, hst117⟩
       refine ⟨_, rfl, ?_⟩
       have hst := hst.join (idx := []) (rest := [0]) rfl hst117
       refine OW.pure 1 [(61, .bool r114)] (by kernel_rfl) ?_
       refine OW.split 61 rfl (fun hc118 => ?_) (fun hc118 => ?_)
       ·have ho113 := ite_t ho113 hc118
        refine OW.pure 1 [(62, .pointer (some ⟨b3, 2, none⟩))] (by kernel_rfl) ?_
        refine OW.ld rfl rfl rfl rfl (by kernel_rfl) (hst.blk 0 rfl rfl) ?_
        refine OW.pure 3 [(66, .bool (p0.A == 0))] (by kernel_rfl) ?_
        refine OW.split 66 rfl (fun hc119 => ?_) (fun hc119 => ?_)
        ·have ho113 := ite_t ho113 hc119
         refine OW.pure 1 [(67, .pointer (some ⟨b3, 3, none⟩))] (by kernel_rfl) ?_
         refine OW.ld rfl rfl rfl rfl (by kernel_rfl) (hst.blk 0 rfl rfl) ?_
         refine OW.pure 3 [(71, .bool (p0.B == 0))] (by kernel_rfl) ?_
         refine OW.split 71 rfl (fun hc120 => ?_) (fun hc120 => ?_)
         ·have ho113 := ite_t ho113 hc120
          refine OW.pure 1 [(72, .pointer (some ⟨b3, 4, none⟩))] (by kernel_rfl) ?_
          refine OW.ld rfl rfl rfl rfl (by kernel_rfl) (hst.blk 0 rfl rfl) ?_
          refine OW.pure 2 [(75, .bool (p0.Imm == 0))] (by kernel_rfl) ?_
          refine OW.split 75 rfl (fun hc121 => ?_) (fun hc121 => ?_)
          ·have ho113 := ite_t ho113 hc121
           refine OW.pure 6 [(2, .bool true)] (by kernel_rfl) ?_
           refine OW.nil rfl ?_
           obtain rfl := Option.some.inj ho113
           exact QW.meet (fun a ha => ⟨ha.agrees (by kernel_rfl), hst.keep [] rfl⟩)
          ·have ho113 := ite_f ho113 hc121
           refine OW.pure 1 [(76, .pointer (some ⟨b3, 4, none⟩))] (by kernel_rfl) ?_
           refine OW.ld rfl rfl rfl rfl (by kernel_rfl) (hst.blk 0 rfl rfl) ?_
           refine OW.pure 4 [(2, .bool (p0.Imm == 1))] (by kernel_rfl) ?_
           refine OW.nil rfl ?_
           obtain rfl := Option.some.inj ho113
           exact QW.meet (fun a ha => ⟨ha.agrees (by kernel_rfl), hst.keep [] rfl⟩)
         ·have ho113 := ite_f ho113 hc120
          refine OW.pure 10 [(2, .bool false)] (by kernel_rfl) ?_
          refine OW.nil rfl ?_
          obtain rfl := Option.some.inj ho113
          exact QW.meet (fun a ha => ⟨ha.agrees (by kernel_rfl), hst.keep [] rfl⟩)
        ·have ho113 := ite_f ho113 hc119
         refine OW.pure 15 [(2, .bool false)] (by kernel_rfl) ?_
         refine OW.nil rfl ?_
         obtain rfl := Option.some.inj ho113
         exact QW.meet (fun a ha => ⟨ha.agrees (by kernel_rfl), hst.keep [] rfl⟩)
       ·have ho113 := ite_f ho113 hc118
        refine OW.pure 20 [(2, .bool false)] (by kernel_rfl) ?_
        refine OW.nil rfl ?_
        obtain rfl := Option.some.inj ho113
        exact QW.meet (fun a ha => ⟨ha.agrees (by kernel_rfl), hst.keep [] rfl⟩)
      ·rintro a w1 ⟨ha, hst⟩
       refine CW.go ?_ ha
       refine CW.ret ?_
       refine QW.block_ret ?_
       refine QW.then_ret ?_
       obtain rfl := Option.some.inj hF
       refine QW.ret1 rfl rfl ?_
       exact ⟨rfl, hst.keep [] rfl⟩
     ·have hF := ite_f hF hc99
      refine CW.cond_f rfl hc99 ?_
      refine CW.seq ?_
      refine CW.region ?_
      refine OW.pure 3 [(81, .bool (p0.Op == 14))] (by kernel_rfl) ?_
      refine OW.nil rfl ?_
      refine QW.next ?_
      rcases Bool.eq_false_or_eq_true ((p0.Op == 14)) with hc122 | hc122
      ·have hF := ite_t hF hc122
       refine CW.cond_t rfl hc122 ?_
       refine CW.seq ?_
       obtain ⟨o135, ho136, hF⟩ := bind_some' hF
       refine CW.cutK (fun a w1 => Rep 231 [(2, .bool o135)] a ∧ St w (fp []) w1 []) ?_ ?_
       ·refine CW.region ?_
        refine OW.pure 1 [(84, .pointer (some ⟨b3, 1, none⟩))] (by kernel_rfl) ?_
        refine OW.ld rfl rfl rfl rfl (by kernel_rfl) (hst.blk 0 rfl rfl) ?_
        obtain ⟨r137, hr138, ho136⟩ := bind_some' ho136
        refine OW.fn rfl rfl rfl rfl (by kernel_rfl) (tappetref02_reg_ok _ p0.D r137 hr138 (hst.part [] rfl)) ?_
        rintro e w139 ⟨rfl, hst140⟩
        refine ⟨_, rfl, ?_⟩
        have hst := hst.join (idx := []) (rest := [0]) rfl hst140
        refine OW.pure 1 [(87, .bool r137)] (by kernel_rfl) ?_
        refine OW.split 87 rfl (fun hc141 => ?_) (fun hc141 => ?_)
        ·have ho136 := ite_t ho136 hc141
         refine OW.pure 1 [(88, .pointer (some ⟨b3, 2, none⟩))] (by kernel_rfl) ?_
         refine OW.ld rfl rfl rfl rfl (by kernel_rfl) (hst.blk 0 rfl rfl) ?_
         refine OW.pure 3 [(92, .bool (p0.A == 0))] (by kernel_rfl) ?_
         refine OW.split 92 rfl (fun hc142 => ?_) (fun hc142 => ?_)
         ·have ho136 := ite_t ho136 hc142
          refine OW.pure 1 [(93, .pointer (some ⟨b3, 3, none⟩))] (by kernel_rfl) ?_
          refine OW.ld rfl rfl rfl rfl (by kernel_rfl) (hst.blk 0 rfl rfl) ?_
          refine OW.pure 3 [(97, .bool (p0.B == 0))] (by kernel_rfl) ?_
          refine OW.split 97 rfl (fun hc143 => ?_) (fun hc143 => ?_)
          ·have ho136 := ite_t ho136 hc143
           refine OW.pure 1 [(98, .pointer (some ⟨b3, 4, none⟩))] (by kernel_rfl) ?_
           refine OW.ld rfl rfl rfl rfl (by kernel_rfl) (hst.blk 0 rfl rfl) ?_
           refine OW.pure 3 [(102, .bool (decide (p0.Imm ≥ 0)))] (by kernel_rfl) ?_
           refine OW.split 102 rfl (fun hc144 => ?_) (fun hc144 => ?_)
           ·have ho136 := ite_t ho136 hc144
            refine OW.pure 1 [(103, .pointer (some ⟨b3, 4, none⟩))] (by kernel_rfl) ?_
            refine OW.ld rfl rfl rfl rfl (by kernel_rfl) (hst.blk 0 rfl rfl) ?_
            refine OW.pure 3 [(2, .bool (decide (p0.Imm ≤ 3)))] (by kernel_rfl) ?_
            refine OW.nil rfl ?_
            obtain rfl := Option.some.inj ho136
            exact QW.meet (fun a ha => ⟨ha.agrees (by kernel_rfl), hst.keep [] rfl⟩)
           ·have ho136 := ite_f ho136 hc144
            refine OW.pure 5 [(2, .bool false)] (by kernel_rfl) ?_
            refine OW.nil rfl ?_
            obtain rfl := Option.some.inj ho136
            exact QW.meet (fun a ha => ⟨ha.agrees (by kernel_rfl), hst.keep [] rfl⟩)
          ·have ho136 := ite_f ho136 hc143
           refine OW.pure 10 [(2, .bool false)] (by kernel_rfl) ?_
           refine OW.nil rfl ?_
           obtain rfl := Option.some.inj ho136
           exact QW.meet (fun a ha => ⟨ha.agrees (by kernel_rfl), hst.keep [] rfl⟩)
         ·have ho136 := ite_f ho136 hc142
          refine OW.pure 15 [(2, .bool false)] (by kernel_rfl) ?_
          refine OW.nil rfl ?_
          obtain rfl := Option.some.inj ho136
          exact QW.meet (fun a ha => ⟨ha.agrees (by kernel_rfl), hst.keep [] rfl⟩)
        ·have ho136 := ite_f ho136 hc141
         refine OW.pure 20 [(2, .bool false)] (by kernel_rfl) ?_
         refine OW.nil rfl ?_
         obtain rfl := Option.some.inj ho136
         exact QW.meet (fun a ha => ⟨ha.agrees (by kernel_rfl), hst.keep [] rfl⟩)
       ·rintro a w1 ⟨ha, hst⟩
        refine CW.go ?_ ha
        refine CW.ret ?_
        refine QW.block_ret ?_
        refine QW.then_ret ?_
        obtain rfl := Option.some.inj hF
        refine QW.ret1 rfl rfl ?_
        exact ⟨rfl, hst.keep [] rfl⟩
      ·have hF := ite_f hF hc122
       refine CW.cond_f rfl hc122 ?_
       refine CW.seq ?_
       refine CW.region ?_
       refine OW.pure 3 [(107, .bool (p0.Op == 15))] (by kernel_rfl) ?_
       refine OW.nil rfl ?_
       refine QW.next ?_
       rcases Bool.eq_false_or_eq_true ((p0.Op == 15)) with hc145 | hc145
       ·have hF := ite_t hF hc145
        refine CW.cond_t rfl hc145 ?_
        refine CW.seq ?_
        refine CW.cutK (fun a w1 => Rep 231 [(2, .bool ((((decide (p0.D ≥ 0) && decide (p0.D ≤ 63)) && (p0.A == 0)) && (p0.B == 0)) && (p0.Imm == 0)))] a ∧ St w (fp []) w1 []) ?_ ?_
        ·refine CW.region ?_
         refine OW.pure 1 [(110, .pointer (some ⟨b3, 1, none⟩))] (by kernel_rfl) ?_
         refine OW.ld rfl rfl rfl rfl (by kernel_rfl) (hst.blk 0 rfl rfl) ?_
         refine OW.pure 2 [(113, .bool (decide (p0.D ≥ 0)))] (by kernel_rfl) ?_
         refine OW.split 113 rfl (fun hc146 => ?_) (fun hc146 => ?_)
         ·refine OW.pure 1 [(114, .pointer (some ⟨b3, 1, none⟩))] (by kernel_rfl) ?_
          refine OW.ld rfl rfl rfl rfl (by kernel_rfl) (hst.blk 0 rfl rfl) ?_
          refine OW.pure 3 [(118, .bool (decide (p0.D ≤ 63)))] (by kernel_rfl) ?_
          refine OW.split 118 rfl (fun hc147 => ?_) (fun hc147 => ?_)
          ·refine OW.pure 1 [(119, .pointer (some ⟨b3, 2, none⟩))] (by kernel_rfl) ?_
           refine OW.ld rfl rfl rfl rfl (by kernel_rfl) (hst.blk 0 rfl rfl) ?_
           refine OW.pure 3 [(123, .bool (p0.A == 0))] (by kernel_rfl) ?_
           refine OW.split 123 rfl (fun hc148 => ?_) (fun hc148 => ?_)
           ·refine OW.pure 1 [(124, .pointer (some ⟨b3, 3, none⟩))] (by kernel_rfl) ?_
            refine OW.ld rfl rfl rfl rfl (by kernel_rfl) (hst.blk 0 rfl rfl) ?_
            refine OW.pure 3 [(128, .bool (p0.B == 0))] (by kernel_rfl) ?_
            refine OW.split 128 rfl (fun hc149 => ?_) (fun hc149 => ?_)
            ·refine OW.pure 1 [(129, .pointer (some ⟨b3, 4, none⟩))] (by kernel_rfl) ?_
             refine OW.ld rfl rfl rfl rfl (by kernel_rfl) (hst.blk 0 rfl rfl) ?_
             refine OW.pure 3 [(2, .bool (p0.Imm == 0))] (by kernel_rfl) ?_
             refine OW.nil rfl ?_
             refine QW.say 2 (v := .bool ((((decide (p0.D ≥ 0) && decide (p0.D ≤ 63)) && (p0.A == 0)) && (p0.B == 0)) && (p0.Imm == 0))) rfl (by first | (rw [hc146, hc147, hc148, hc149]; done) | (rw [hc146, hc147, hc148, hc149]; rfl) | simp [hc146, hc147, hc148, hc149]) ?_
             exact QW.meet (fun a ha => ⟨ha.agrees (by kernel_rfl), hst.keep [] rfl⟩)
            ·refine OW.pure 5 [(2, .bool false)] (by kernel_rfl) ?_
             refine OW.nil rfl ?_
             refine QW.say 2 (v := .bool ((((decide (p0.D ≥ 0) && decide (p0.D ≤ 63)) && (p0.A == 0)) && (p0.B == 0)) && (p0.Imm == 0))) rfl (by first | (rw [hc146, hc147, hc148, hc149]; done) | (rw [hc146, hc147, hc148, hc149]; rfl) | simp [hc146, hc147, hc148, hc149]) ?_
             exact QW.meet (fun a ha => ⟨ha.agrees (by kernel_rfl), hst.keep [] rfl⟩)
           ·refine OW.pure 10 [(2, .bool false)] (by kernel_rfl) ?_
            refine OW.nil rfl ?_
            refine QW.say 2 (v := .bool ((((decide (p0.D ≥ 0) && decide (p0.D ≤ 63)) && (p0.A == 0)) && (p0.B == 0)) && (p0.Imm == 0))) rfl (by first | (rw [hc146, hc147, hc148]; done) | (rw [hc146, hc147, hc148]; rfl) | simp [hc146, hc147, hc148]) ?_
            exact QW.meet (fun a ha => ⟨ha.agrees (by kernel_rfl), hst.keep [] rfl⟩)
          ·refine OW.pure 15 [(2, .bool false)] (by kernel_rfl) ?_
           refine OW.nil rfl ?_
           refine QW.say 2 (v := .bool ((((decide (p0.D ≥ 0) && decide (p0.D ≤ 63)) && (p0.A == 0)) && (p0.B == 0)) && (p0.Imm == 0))) rfl (by first | (rw [hc146, hc147]; done) | (rw [hc146, hc147]; rfl) | simp [hc146, hc147]) ?_
           exact QW.meet (fun a ha => ⟨ha.agrees (by kernel_rfl), hst.keep [] rfl⟩)
         ·refine OW.pure 20 [(2, .bool false)] (by kernel_rfl) ?_
          refine OW.nil rfl ?_
          refine QW.say 2 (v := .bool ((((decide (p0.D ≥ 0) && decide (p0.D ≤ 63)) && (p0.A == 0)) && (p0.B == 0)) && (p0.Imm == 0))) rfl (by first | (rw [hc146]; done) | (rw [hc146]; rfl) | simp [hc146]) ?_
          exact QW.meet (fun a ha => ⟨ha.agrees (by kernel_rfl), hst.keep [] rfl⟩)
        ·rintro a w1 ⟨ha, hst⟩
         refine CW.go ?_ ha
         refine CW.ret ?_
         refine QW.block_ret ?_
         refine QW.then_ret ?_
         obtain rfl := Option.some.inj hF
         refine QW.ret1 rfl rfl ?_
         exact ⟨rfl, hst.keep [] rfl⟩
       ·have hF := ite_f hF hc145
        refine CW.cond_f rfl hc145 ?_
        refine CW.seq ?_
        refine CW.region ?_
        refine OW.pure 1 [(134, .int .i64 p0.Op)] (by kernel_rfl) ?_
        obtain ⟨r154, hr155, hF⟩ := bind_some' hF
        refine OW.fn rfl rfl rfl rfl (by kernel_rfl) (tappetref02_Jump_ok _ p0.Op r154 hr155 (hst.part [] rfl)) ?_
        rintro e w156 ⟨rfl, hst157⟩
        refine ⟨_, rfl, ?_⟩
        have hst := hst.join (idx := []) (rest := [0]) rfl hst157
        refine OW.pure 1 [(133, .bool r154)] (by kernel_rfl) ?_
        refine OW.nil rfl ?_
        refine QW.next ?_
        rcases Bool.eq_false_or_eq_true (r154) with hc158 | hc158
        ·have hF := ite_t hF hc158
         refine CW.cond_t rfl hc158 ?_
         refine CW.seq ?_
         obtain ⟨o170, ho171, hF⟩ := bind_some' hF
         refine CW.cutK (fun a w1 => Rep 231 [(2, .bool o170)] a ∧ St w (fp []) w1 []) ?_ ?_
         ·refine CW.region ?_
          refine OW.pure 1 [(136, .pointer (some ⟨b3, 1, none⟩))] (by kernel_rfl) ?_
          refine OW.ld rfl rfl rfl rfl (by kernel_rfl) (hst.blk 0 rfl rfl) ?_
          refine OW.pure 2 [(139, .bool (decide (p0.D ≥ 0)))] (by kernel_rfl) ?_
          refine OW.split 139 rfl (fun hc172 => ?_) (fun hc172 => ?_)
          ·have ho171 := ite_t ho171 hc172
           refine OW.pure 1 [(140, .pointer (some ⟨b3, 1, none⟩))] (by kernel_rfl) ?_
           refine OW.ld rfl rfl rfl rfl (by kernel_rfl) (hst.blk 0 rfl rfl) ?_
           refine OW.pure 3 [(144, .bool (decide (p0.D ≤ 63)))] (by kernel_rfl) ?_
           refine OW.split 144 rfl (fun hc173 => ?_) (fun hc173 => ?_)
           ·have ho171 := ite_t ho171 hc173
            refine OW.pure 1 [(145, .pointer (some ⟨b3, 2, none⟩))] (by kernel_rfl) ?_
            refine OW.ld rfl rfl rfl rfl (by kernel_rfl) (hst.blk 0 rfl rfl) ?_
            obtain ⟨r174, hr175, ho171⟩ := bind_some' ho171
            refine OW.fn rfl rfl rfl rfl (by kernel_rfl) (tappetref02_reg_ok _ p0.A r174 hr175 (hst.part [] rfl)) ?_
            rintro e w176 ⟨rfl, hst177⟩
            refine ⟨_, rfl, ?_⟩
            have hst := hst.join (idx := []) (rest := [0]) rfl hst177
            refine OW.pure 2 [(149, .bool r174)] (by kernel_rfl) ?_
            refine OW.split 149 rfl (fun hc178 => ?_) (fun hc178 => ?_)
            ·have ho171 := ite_t ho171 hc178
             refine OW.ldN (cs := [.int .i64 p0.Op, .int .i64 p0.D, .int .i64 p0.A, .int .i64 p0.B, .int .i64 p0.Imm]) rfl rfl rfl rfl (by kernel_rfl) (by kernel_rfl) (hst.blkN 0 rfl 0 5) ?_
             obtain ⟨r179, hr180, ho171⟩ := bind_some' ho171
             refine OW.fn rfl rfl rfl rfl (by kernel_rfl) (tappetref02_sourced_ok _ p0 r179 hr180 (hst.part [] rfl)) ?_
             rintro e w181 ⟨rfl, hst182⟩
             refine ⟨_, rfl, ?_⟩
             have hst := hst.join (idx := []) (rest := [0]) rfl hst182
             refine OW.pure 2 [(2, .bool r179)] (by kernel_rfl) ?_
             refine OW.nil rfl ?_
             obtain rfl := Option.some.inj ho171
             exact QW.meet (fun a ha => ⟨ha.agrees (by kernel_rfl), hst.keep [] rfl⟩)
            ·have ho171 := ite_f ho171 hc178
             refine OW.pure 4 [(2, .bool false)] (by kernel_rfl) ?_
             refine OW.nil rfl ?_
             obtain rfl := Option.some.inj ho171
             exact QW.meet (fun a ha => ⟨ha.agrees (by kernel_rfl), hst.keep [] rfl⟩)
           ·have ho171 := ite_f ho171 hc173
            refine OW.pure 9 [(2, .bool false)] (by kernel_rfl) ?_
            refine OW.nil rfl ?_
            obtain rfl := Option.some.inj ho171
            exact QW.meet (fun a ha => ⟨ha.agrees (by kernel_rfl), hst.keep [] rfl⟩)
          ·have ho171 := ite_f ho171 hc172
           refine OW.pure 14 [(2, .bool false)] (by kernel_rfl) ?_
           refine OW.nil rfl ?_
           obtain rfl := Option.some.inj ho171
           exact QW.meet (fun a ha => ⟨ha.agrees (by kernel_rfl), hst.keep [] rfl⟩)
         ·rintro a w1 ⟨ha, hst⟩
          refine CW.go ?_ ha
          refine CW.ret ?_
          refine QW.block_ret ?_
          refine QW.then_ret ?_
          obtain rfl := Option.some.inj hF
          refine QW.ret1 rfl rfl ?_
          exact ⟨rfl, hst.keep [] rfl⟩
        ·have hF := ite_f hF hc158
         refine CW.cond_f rfl hc158 ?_
         refine CW.seq ?_
         refine CW.region ?_
         refine OW.pure 3 [(153, .bool (p0.Op == 20))] (by kernel_rfl) ?_
         refine OW.nil rfl ?_
         refine QW.next ?_
         rcases Bool.eq_false_or_eq_true ((p0.Op == 20)) with hc183 | hc183
         ·have hF := ite_t hF hc183
          refine CW.cond_t rfl hc183 ?_
          refine CW.seq ?_
          obtain ⟨o193, ho194, hF⟩ := bind_some' hF
          refine CW.cutK (fun a w1 => Rep 231 [(2, .bool o193)] a ∧ St w (fp []) w1 []) ?_ ?_
          ·refine CW.region ?_
           refine OW.pure 1 [(156, .pointer (some ⟨b3, 1, none⟩))] (by kernel_rfl) ?_
           refine OW.ld rfl rfl rfl rfl (by kernel_rfl) (hst.blk 0 rfl rfl) ?_
           refine OW.pure 2 [(159, .bool (decide (p0.D ≥ 1)))] (by kernel_rfl) ?_
           refine OW.split 159 rfl (fun hc195 => ?_) (fun hc195 => ?_)
           ·have ho194 := ite_t ho194 hc195
            refine OW.pure 1 [(160, .pointer (some ⟨b3, 1, none⟩))] (by kernel_rfl) ?_
            refine OW.ld rfl rfl rfl rfl (by kernel_rfl) (hst.blk 0 rfl rfl) ?_
            refine OW.pure 3 [(164, .bool (decide (p0.D ≤ 63)))] (by kernel_rfl) ?_
            refine OW.split 164 rfl (fun hc196 => ?_) (fun hc196 => ?_)
            ·have ho194 := ite_t ho194 hc196
             refine OW.pure 1 [(165, .pointer (some ⟨b3, 2, none⟩))] (by kernel_rfl) ?_
             refine OW.ld rfl rfl rfl rfl (by kernel_rfl) (hst.blk 0 rfl rfl) ?_
             obtain ⟨r197, hr198, ho194⟩ := bind_some' ho194
             refine OW.fn rfl rfl rfl rfl (by kernel_rfl) (tappetref02_reg_ok _ p0.A r197 hr198 (hst.part [] rfl)) ?_
             rintro e w199 ⟨rfl, hst200⟩
             refine ⟨_, rfl, ?_⟩
             have hst := hst.join (idx := []) (rest := [0]) rfl hst200
             refine OW.pure 2 [(169, .bool r197)] (by kernel_rfl) ?_
             refine OW.split 169 rfl (fun hc201 => ?_) (fun hc201 => ?_)
             ·have ho194 := ite_t ho194 hc201
              refine OW.pure 1 [(170, .pointer (some ⟨b3, 3, none⟩))] (by kernel_rfl) ?_
              refine OW.ld rfl rfl rfl rfl (by kernel_rfl) (hst.blk 0 rfl rfl) ?_
              refine OW.pure 3 [(174, .bool (p0.B == 0))] (by kernel_rfl) ?_
              refine OW.split 174 rfl (fun hc202 => ?_) (fun hc202 => ?_)
              ·have ho194 := ite_t ho194 hc202
               refine OW.pure 1 [(175, .pointer (some ⟨b3, 4, none⟩))] (by kernel_rfl) ?_
               refine OW.ld rfl rfl rfl rfl (by kernel_rfl) (hst.blk 0 rfl rfl) ?_
               refine OW.pure 3 [(179, .bool (decide (p0.Imm ≥ 1)))] (by kernel_rfl) ?_
               refine OW.split 179 rfl (fun hc203 => ?_) (fun hc203 => ?_)
               ·have ho194 := ite_t ho194 hc203
                refine OW.pure 1 [(180, .pointer (some ⟨b3, 4, none⟩))] (by kernel_rfl) ?_
                refine OW.ld rfl rfl rfl rfl (by kernel_rfl) (hst.blk 0 rfl rfl) ?_
                refine OW.pure 3 [(2, .bool (decide (p0.Imm ≤ 255)))] (by kernel_rfl) ?_
                refine OW.nil rfl ?_
                obtain rfl := Option.some.inj ho194
                exact QW.meet (fun a ha => ⟨ha.agrees (by kernel_rfl), hst.keep [] rfl⟩)
               ·have ho194 := ite_f ho194 hc203
                refine OW.pure 5 [(2, .bool false)] (by kernel_rfl) ?_
                refine OW.nil rfl ?_
                obtain rfl := Option.some.inj ho194
                exact QW.meet (fun a ha => ⟨ha.agrees (by kernel_rfl), hst.keep [] rfl⟩)
              ·have ho194 := ite_f ho194 hc202
               refine OW.pure 10 [(2, .bool false)] (by kernel_rfl) ?_
               refine OW.nil rfl ?_
               obtain rfl := Option.some.inj ho194
               exact QW.meet (fun a ha => ⟨ha.agrees (by kernel_rfl), hst.keep [] rfl⟩)
             ·have ho194 := ite_f ho194 hc201
              refine OW.pure 15 [(2, .bool false)] (by kernel_rfl) ?_
              refine OW.nil rfl ?_
              obtain rfl := Option.some.inj ho194
              exact QW.meet (fun a ha => ⟨ha.agrees (by kernel_rfl), hst.keep [] rfl⟩)
            ·have ho194 := ite_f ho194 hc196
             refine OW.pure 20 [(2, .bool false)] (by kernel_rfl) ?_
             refine OW.nil rfl ?_
             obtain rfl := Option.some.inj ho194
             exact QW.meet (fun a ha => ⟨ha.agrees (by kernel_rfl), hst.keep [] rfl⟩)
           ·have ho194 := ite_f ho194 hc195
            refine OW.pure 25 [(2, .bool false)] (by kernel_rfl) ?_
            refine OW.nil rfl ?_
            obtain rfl := Option.some.inj ho194
            exact QW.meet (fun a ha => ⟨ha.agrees (by kernel_rfl), hst.keep [] rfl⟩)
          ·rintro a w1 ⟨ha, hst⟩
           refine CW.go ?_ ha
           refine CW.ret ?_
           refine QW.block_ret ?_
           refine QW.then_ret ?_
           obtain rfl := Option.some.inj hF
           refine QW.ret1 rfl rfl ?_
           exact ⟨rfl, hst.keep [] rfl⟩
         ·have hF := ite_f hF hc183
          refine CW.cond_f rfl hc183 ?_
          refine CW.seq ?_
          refine CW.region ?_
          refine OW.pure 3 [(184, .bool (p0.Op == 21))] (by kernel_rfl) ?_
          refine OW.nil rfl ?_
          refine QW.next ?_
          rcases Bool.eq_false_or_eq_true ((p0.Op == 21)) with hc204 | hc204
          ·have hF := ite_t hF hc204
           refine CW.cond_t rfl hc204 ?_
           refine CW.seq ?_
           refine CW.cutK (fun a w1 => Rep 231 [(2, .bool (((((p0.D == 0) && (p0.A == 0)) && (p0.B == 0)) && decide (p0.Imm ≥ 0)) && decide (p0.Imm ≤ 6)))] a ∧ St w (fp []) w1 []) ?_ ?_
           ·refine CW.region ?_
            refine OW.pure 1 [(187, .pointer (some ⟨b3, 1, none⟩))] (by kernel_rfl) ?_
            refine OW.ld rfl rfl rfl rfl (by kernel_rfl) (hst.blk 0 rfl rfl) ?_
            refine OW.pure 2 [(190, .bool (p0.D == 0))] (by kernel_rfl) ?_
            refine OW.split 190 rfl (fun hc205 => ?_) (fun hc205 => ?_)
            ·refine OW.pure 1 [(191, .pointer (some ⟨b3, 2, none⟩))] (by kernel_rfl) ?_
             refine OW.ld rfl rfl rfl rfl (by kernel_rfl) (hst.blk 0 rfl rfl) ?_
             refine OW.pure 3 [(195, .bool (p0.A == 0))] (by kernel_rfl) ?_
             refine OW.split 195 rfl (fun hc206 => ?_) (fun hc206 => ?_)
             ·refine OW.pure 1 [(196, .pointer (some ⟨b3, 3, none⟩))] (by kernel_rfl) ?_
              refine OW.ld rfl rfl rfl rfl (by kernel_rfl) (hst.blk 0 rfl rfl) ?_
              refine OW.pure 3 [(200, .bool (p0.B == 0))] (by kernel_rfl) ?_
              refine OW.split 200 rfl (fun hc207 => ?_) (fun hc207 => ?_)
              ·refine OW.pure 1 [(201, .pointer (some ⟨b3, 4, none⟩))] (by kernel_rfl) ?_
               refine OW.ld rfl rfl rfl rfl (by kernel_rfl) (hst.blk 0 rfl rfl) ?_
               refine OW.pure 3 [(205, .bool (decide (p0.Imm ≥ 0)))] (by kernel_rfl) ?_
               refine OW.split 205 rfl (fun hc208 => ?_) (fun hc208 => ?_)
               ·refine OW.pure 1 [(206, .pointer (some ⟨b3, 4, none⟩))] (by kernel_rfl) ?_
                refine OW.ld rfl rfl rfl rfl (by kernel_rfl) (hst.blk 0 rfl rfl) ?_
                refine OW.pure 3 [(2, .bool (decide (p0.Imm ≤ 6)))] (by kernel_rfl) ?_
                refine OW.nil rfl ?_
                refine QW.say 2 (v := .bool (((((p0.D == 0) && (p0.A == 0)) && (p0.B == 0)) && decide (p0.Imm ≥ 0)) && decide (p0.Imm ≤ 6))) rfl (by first | (rw [hc205, hc206, hc207, hc208]; done) | (rw [hc205, hc206, hc207, hc208]; rfl) | simp [hc205, hc206, hc207, hc208]) ?_
                exact QW.meet (fun a ha => ⟨ha.agrees (by kernel_rfl), hst.keep [] rfl⟩)
               ·refine OW.pure 5 [(2, .bool false)] (by kernel_rfl) ?_
                refine OW.nil rfl ?_
                refine QW.say 2 (v := .bool (((((p0.D == 0) && (p0.A == 0)) && (p0.B == 0)) && decide (p0.Imm ≥ 0)) && decide (p0.Imm ≤ 6))) rfl (by first | (rw [hc205, hc206, hc207, hc208]; done) | (rw [hc205, hc206, hc207, hc208]; rfl) | simp [hc205, hc206, hc207, hc208]) ?_
                exact QW.meet (fun a ha => ⟨ha.agrees (by kernel_rfl), hst.keep [] rfl⟩)
              ·refine OW.pure 10 [(2, .bool false)] (by kernel_rfl) ?_
               refine OW.nil rfl ?_
               refine QW.say 2 (v := .bool (((((p0.D == 0) && (p0.A == 0)) && (p0.B == 0)) && decide (p0.Imm ≥ 0)) && decide (p0.Imm ≤ 6))) rfl (by first | (rw [hc205, hc206, hc207]; done) | (rw [hc205, hc206, hc207]; rfl) | simp [hc205, hc206, hc207]) ?_
               exact QW.meet (fun a ha => ⟨ha.agrees (by kernel_rfl), hst.keep [] rfl⟩)
             ·refine OW.pure 15 [(2, .bool false)] (by kernel_rfl) ?_
              refine OW.nil rfl ?_
              refine QW.say 2 (v := .bool (((((p0.D == 0) && (p0.A == 0)) && (p0.B == 0)) && decide (p0.Imm ≥ 0)) && decide (p0.Imm ≤ 6))) rfl (by first | (rw [hc205, hc206]; done) | (rw [hc205, hc206]; rfl) | simp [hc205, hc206]) ?_
              exact QW.meet (fun a ha => ⟨ha.agrees (by kernel_rfl), hst.keep [] rfl⟩)
            ·refine OW.pure 20 [(2, .bool false)] (by kernel_rfl) ?_
             refine OW.nil rfl ?_
             refine QW.say 2 (v := .bool (((((p0.D == 0) && (p0.A == 0)) && (p0.B == 0)) && decide (p0.Imm ≥ 0)) && decide (p0.Imm ≤ 6))) rfl (by first | (rw [hc205]; done) | (rw [hc205]; rfl) | simp [hc205]) ?_
             exact QW.meet (fun a ha => ⟨ha.agrees (by kernel_rfl), hst.keep [] rfl⟩)
           ·rintro a w1 ⟨ha, hst⟩
            refine CW.go ?_ ha
            refine CW.ret ?_
            refine QW.block_ret ?_
            refine QW.then_ret ?_
            obtain rfl := Option.some.inj hF
            refine QW.ret1 rfl rfl ?_
            exact ⟨rfl, hst.keep [] rfl⟩
          ·have hF := ite_f hF hc204
           refine CW.cond_f rfl hc204 ?_
           refine CW.seq ?_
           refine CW.region ?_
           refine OW.pure 3 [(210, .bool (p0.Op == 22))] (by kernel_rfl) ?_
           refine OW.nil rfl ?_
           refine QW.next ?_
           rcases Bool.eq_false_or_eq_true ((p0.Op == 22)) with hc209 | hc209
           ·have hF := ite_t hF hc209
            refine CW.cond_t rfl hc209 ?_
            refine CW.seq ?_
            obtain ⟨o217, ho218, hF⟩ := bind_some' hF
            refine CW.cutK (fun a w1 => Rep 231 [(2, .bool o217)] a ∧ St w (fp []) w1 []) ?_ ?_
            ·refine CW.region ?_
             refine OW.pure 1 [(213, .pointer (some ⟨b3, 1, none⟩))] (by kernel_rfl) ?_
             refine OW.ld rfl rfl rfl rfl (by kernel_rfl) (hst.blk 0 rfl rfl) ?_
             refine OW.pure 2 [(216, .bool (p0.D == 0))] (by kernel_rfl) ?_
             refine OW.split 216 rfl (fun hc219 => ?_) (fun hc219 => ?_)
             ·have ho218 := ite_t ho218 hc219
              refine OW.pure 1 [(217, .pointer (some ⟨b3, 2, none⟩))] (by kernel_rfl) ?_
              refine OW.ld rfl rfl rfl rfl (by kernel_rfl) (hst.blk 0 rfl rfl) ?_
              obtain ⟨r220, hr221, ho218⟩ := bind_some' ho218
              refine OW.fn rfl rfl rfl rfl (by kernel_rfl) (tappetref02_reg_ok _ p0.A r220 hr221 (hst.part [] rfl)) ?_
              rintro e w222 ⟨rfl, hst223⟩
              refine ⟨_, rfl, ?_⟩
              have hst := hst.join (idx := []) (rest := [0]) rfl hst223
              refine OW.pure 2 [(221, .bool r220)] (by kernel_rfl) ?_
              refine OW.split 221 rfl (fun hc224 => ?_) (fun hc224 => ?_)
              ·have ho218 := ite_t ho218 hc224
               refine OW.pure 1 [(222, .pointer (some ⟨b3, 3, none⟩))] (by kernel_rfl) ?_
               refine OW.ld rfl rfl rfl rfl (by kernel_rfl) (hst.blk 0 rfl rfl) ?_
               refine OW.pure 3 [(226, .bool (p0.B == 0))] (by kernel_rfl) ?_
               refine OW.split 226 rfl (fun hc225 => ?_) (fun hc225 => ?_)
               ·have ho218 := ite_t ho218 hc225
                refine OW.pure 1 [(227, .pointer (some ⟨b3, 4, none⟩))] (by kernel_rfl) ?_
                refine OW.ld rfl rfl rfl rfl (by kernel_rfl) (hst.blk 0 rfl rfl) ?_
                refine OW.pure 3 [(2, .bool (p0.Imm == 0))] (by kernel_rfl) ?_
                refine OW.nil rfl ?_
                obtain rfl := Option.some.inj ho218
                exact QW.meet (fun a ha => ⟨ha.agrees (by kernel_rfl), hst.keep [] rfl⟩)
               ·have ho218 := ite_f ho218 hc225
                refine OW.pure 5 [(2, .bool false)] (by kernel_rfl) ?_
                refine OW.nil rfl ?_
                obtain rfl := Option.some.inj ho218
                exact QW.meet (fun a ha => ⟨ha.agrees (by kernel_rfl), hst.keep [] rfl⟩)
              ·have ho218 := ite_f ho218 hc224
               refine OW.pure 10 [(2, .bool false)] (by kernel_rfl) ?_
               refine OW.nil rfl ?_
               obtain rfl := Option.some.inj ho218
               exact QW.meet (fun a ha => ⟨ha.agrees (by kernel_rfl), hst.keep [] rfl⟩)
             ·have ho218 := ite_f ho218 hc219
              refine OW.pure 15 [(2, .bool false)] (by kernel_rfl) ?_
              refine OW.nil rfl ?_
              obtain rfl := Option.some.inj ho218
              exact QW.meet (fun a ha => ⟨ha.agrees (by kernel_rfl), hst.keep [] rfl⟩)
            ·rintro a w1 ⟨ha, hst⟩
             refine CW.go ?_ ha
             refine CW.ret ?_
             refine QW.block_ret ?_
             refine QW.then_ret ?_
             obtain rfl := Option.some.inj hF
             refine QW.ret1 rfl rfl ?_
             exact ⟨rfl, hst.keep [] rfl⟩
           ·have hF := ite_f hF hc209
            refine CW.cond_f rfl hc209 ?_
            refine CW.skip ?_
            refine QW.block_normal ?_
            refine QW.next ?_
            refine CW.seq ?_
            refine CW.region ?_
            refine OW.pure 1 [(2, .bool false)] (by kernel_rfl) ?_
            refine OW.nil rfl ?_
            refine QW.next ?_
            refine CW.ret ?_
            obtain rfl := Option.some.inj hF
            refine QW.ret1 rfl rfl ?_
            exact ⟨rfl, hst.keep [] rfl⟩

set_option maxRecDepth 10000 in
set_option maxHeartbeats 4000000 in
theorem tappetref02_names_ok (w : World)  (r : (List ByteArray)) (hF : tappetref02_names  = some r)
    (hst : St w (fp []) w []) :
    Calls Tryd.prog 55 [].toArray w (fun e w' => ∃ (x0 : Value), e = .returned (x0) ∧ St w (fp []) w' [rowI x0 9 encText 1 r]) := by
 refine CW.start (N := 2) Tryd.func55 rfl rfl rfl ?_
 refine CW.seq ?_
 refine CW.region ?_
 refine OW.pure 1 [] (by kernel_rfl) ?_
 refine OW.nil rfl ?_
 refine QW.next ?_
 refine CW.seq ?_
 refine CW.region ?_
 refine OW.row (α := ByteArray) (e := 9) (enc := encText) (sz := 1) hst rfl rfl rfl [⟨[115, 101, 116].toArray⟩, ⟨[97, 100, 100].toArray⟩, ⟨[115, 117, 98].toArray⟩, ⟨[109, 117, 108].toArray⟩, ⟨[100, 105, 118].toArray⟩, ⟨[114, 101, 109].toArray⟩, ⟨[97, 110, 100].toArray⟩, ⟨[111, 114].toArray⟩, ⟨[120, 111, 114].toArray⟩, ⟨[115, 104, 108].toArray⟩, ⟨[115, 104, 114].toArray⟩, ⟨[108, 111, 97, 100].toArray⟩, ⟨[115, 116, 111, 114, 101].toArray⟩, ⟨[102, 105, 101, 108, 100].toArray⟩, ⟨[109, 97, 112].toArray⟩, ⟨[106, 117, 109, 112].toArray⟩, ⟨[106, 101, 113].toArray⟩, ⟨[106, 110, 101].toArray⟩, ⟨[106, 108, 116].toArray⟩, ⟨[106, 103, 101].toArray⟩, ⟨[108, 111, 111, 112].toArray⟩, ⟨[99, 97, 108, 108].toArray⟩, ⟨[101, 120, 105, 116].toArray⟩] rfl (fun _ => rfl) rfl rfl (fun _ => by kernel_rfl) ?_
 intro g3 w4 hst
 refine OW.pure 1 [(0, .slice (some ⟨g3, 0, none⟩) 23 23)] (by kernel_rfl) ?_
 refine OW.nil rfl ?_
 refine QW.next ?_
 refine CW.ret ?_
 obtain rfl := Option.some.inj hF
 refine QW.ret1 rfl rfl ?_
 exact ⟨(.slice (some ⟨g3, 0, none⟩) 23 23), rfl, hst.keep [0] rfl⟩

set_option maxRecDepth 10000 in
set_option maxHeartbeats 4000000 in
theorem tappetref02_Name_ok (w : World) (p0 : Int) (r : ByteArray) (hF : tappetref02_Name p0 = some r)
    (hst : St w (fp []) w []) :
    Calls Tryd.prog 36 [.int .i64 p0].toArray w (fun e w' => e = .returned (.string r) ∧ St w (fp []) w' []) := by
 refine CW.start (N := 17) Tryd.func36 rfl rfl rfl ?_
 refine CW.seq ?_
 refine CW.region ?_
 refine OW.pure 1 [] (by kernel_rfl) ?_
 refine OW.nil rfl ?_
 refine QW.next ?_
 refine CW.seq ?_
 refine CW.region ?_
 obtain ⟨r9, hr10, hF⟩ := bind_some' hF
 refine OW.fn rfl rfl rfl rfl (by kernel_rfl) (tappetref02_names_ok _ r9 hr10 (hst.part [] rfl)) ?_
 rintro e w11 ⟨v13, rfl, hst12⟩
 refine ⟨_, rfl, ?_⟩
 have hst := hst.join (idx := []) (rest := []) rfl hst12
 obtain ⟨l14, a15, c16, rfl⟩ := hst.len 0 rfl
 refine OW.pure 1 [(3, .slice a15 (r9).length c16)] (by kernel_rfl) ?_
 refine OW.nil rfl ?_
 refine QW.next ?_
 refine CW.seq ?_
 refine CW.seq ?_
 refine CW.cutK (fun a w1 => Rep 17 [(0, .int .i64 p0), (3, .slice a15 (r9).length c16), (12, .bool (decide (p0 < 0) || decide (p0 ≥ ((r9).length : Int))))] a ∧ St w (fp []) w1 [rowI (.slice a15 (r9).length c16) 9 encText 1 r9]) ?_ ?_
 ·refine CW.region ?_
  refine OW.pure 3 [(7, .bool (decide (p0 < 0)))] (by kernel_rfl) ?_
  refine OW.split 7 rfl (fun hc17 => ?_) (fun hc17 => ?_)
  ·refine OW.pure 5 [(12, .bool true)] (by kernel_rfl) ?_
   refine OW.nil rfl ?_
   refine QW.say 12 (v := .bool (decide (p0 < 0) || decide (p0 ≥ ((r9).length : Int)))) rfl (by first | (rw [hc17]; done) | (rw [hc17]; rfl) | simp [hc17]) ?_
   exact QW.meet (fun a ha => ⟨ha.agrees (by kernel_rfl), hst.keep [0] rfl⟩)
  ·refine OW.pure 5 [(12, .bool (decide (p0 ≥ ((r9).length : Int))))] (by kernel_rfl) ?_
   refine OW.nil rfl ?_
   refine QW.say 12 (v := .bool (decide (p0 < 0) || decide (p0 ≥ ((r9).length : Int)))) rfl (by first | (rw [hc17]; done) | (rw [hc17]; rfl) | simp [hc17]) ?_
   exact QW.meet (fun a ha => ⟨ha.agrees (by kernel_rfl), hst.keep [0] rfl⟩)
 ·rintro a w1 ⟨ha, hst⟩
  refine CW.go ?_ ha
  rcases Bool.eq_false_or_eq_true ((decide (p0 < 0) || decide (p0 ≥ ((r9).length : Int)))) with hc18 | hc18
  ·have hF := ite_t hF hc18
   refine CW.cond_t rfl hc18 ?_
   refine CW.seq ?_
   refine CW.region ?_
   refine OW.pure 1 [(2, .string ByteArray.empty)] (by kernel_rfl) ?_
   refine OW.nil rfl ?_
   refine QW.next ?_
   refine CW.ret ?_
   refine QW.then_ret ?_
   obtain rfl := Option.some.inj hF
   refine QW.ret1 rfl rfl ?_
   exact ⟨rfl, hst.keep [] rfl⟩
  ·have hF := ite_f hF hc18
   refine CW.cond_f rfl hc18 ?_
   refine CW.skip ?_
   refine QW.next ?_
   refine CW.seq ?_
   refine CW.region ?_
   refine OW.pure 2 [(13, .slice a15 (r9).length c16), (14, .int .i64 p0)] (by kernel_rfl) ?_
   obtain ⟨x25, hx26, hF⟩ := bind_some' hF
   obtain ⟨g28, o29, c30, hv27⟩ := hst.rowv 0 rfl hx26
   refine OW.idx 9 1 rfl rfl rfl rfl hv27 rfl (idx_some hx26).1 (idx_some hx26).2.1 (by kernel_rfl) (by kernel_rfl) ?_
   refine OW.ld rfl rfl rfl rfl (by kernel_rfl) (hst.rowc 0 rfl (fun _ => rfl) hx26 hv27 0 _ rfl) ?_
   refine OW.pure 1 [(2, .string x25)] (by kernel_rfl) ?_
   refine OW.nil rfl ?_
   refine QW.next ?_
   refine CW.ret ?_
   obtain rfl := Option.some.inj hF
   refine QW.ret1 rfl rfl ?_
   exact ⟨rfl, hst.keep [] rfl⟩

set_option maxRecDepth 10000 in
set_option maxHeartbeats 4000000 in
theorem tappetref03_Number_ok (w : World) (fu : Nat) (p0 : Int) (r : ByteArray) (hF : tappetref03_Number fu p0 = some r)
    (hst : St w (fp []) w []) :
    Calls Tryd.prog 39 [.int .i64 p0].toArray w (fun e w' => e = .returned (.string r) ∧ St w (fp []) w' []) := by
 refine CW.start (N := 28) Tryd.func39 rfl rfl rfl ?_
 refine CW.seq ?_
 refine CW.region ?_
 refine OW.pure 1 [] (by kernel_rfl) ?_
 refine OW.nil rfl ?_
 refine QW.next ?_
 refine CW.seq ?_
 refine CW.region ?_
 refine OW.pure 3 [(3, .int .u64 (wu64 p0))] (by kernel_rfl) ?_
 refine OW.nil rfl ?_
 refine QW.next ?_
 refine CW.seq ?_
 refine CW.region ?_
 refine OW.pure 1 [(4, .string ByteArray.empty)] (by kernel_rfl) ?_
 refine OW.nil rfl ?_
 refine QW.next ?_
 refine CW.seq ?_
 refine CW.seq ?_
 refine CW.region ?_
 refine OW.pure 2 [(8, .bool (decide (p0 < 0)))] (by kernel_rfl) ?_
 refine OW.nil rfl ?_
 refine QW.next ?_
 obtain ⟨o2, ho3, hF⟩ := bind_some' hF
 refine CW.cutK (fun a w1 => Rep 28 [(0, .int .i64 p0), (3, .int .u64 o2), (4, .string ByteArray.empty)] a ∧ St w (fp []) w1 []) ?_ ?_
 ·rcases Bool.eq_false_or_eq_true (decide (p0 < 0)) with hc4 | hc4
  ·have ho3 := ite_t ho3 hc4
   refine CW.cond_t rfl hc4 ?_
   refine CW.region ?_
   refine OW.pure 3 [(3, .int .u64 (wu64 (0 - (wu64 p0))))] (by kernel_rfl) ?_
   refine OW.nil rfl ?_
   obtain rfl := Option.some.inj ho3
   exact QW.meet (fun a ha => ⟨ha.agrees (by kernel_rfl), hst.keep [] rfl⟩)
  ·have ho3 := ite_f ho3 hc4
   refine CW.cond_f rfl hc4 ?_
   refine CW.skip ?_
   obtain rfl := Option.some.inj ho3
   exact QW.meet (fun a ha => ⟨ha.agrees (by kernel_rfl), hst.keep [] rfl⟩)
 ·rintro a w1 ⟨ha, hst⟩
  refine CW.go ?_ ha
  refine CW.seq ?_
  obtain ⟨o36, ho37, hF⟩ := bind_some' hF
  refine CW.cutK (fun a w1 => Rep 28 [(0, .int .i64 p0), (4, .string o36)] a ∧ St w (fp []) w1 []) ?_ ?_
  ·refine CW.block ?_
   refine CW.loop (fun n a w1 => ∃ (s59 : Int × ByteArray), Rep 28 [(0, .int .i64 p0), (3, .int .u64 s59.1), (4, .string s59.2)] a ∧ St w (fp []) w1 [] ∧ loop tappetref03_Number_l1 n s59 = some o36) fu (fun a ha => ⟨(o2, ByteArray.empty), ha.agrees (by kernel_rfl), hst.keep [] rfl, ho37⟩) ?_
   rintro n57 a w1 ⟨s59, ha, hst, hl58⟩
   rcases n57 with _ | n57
   ·exact (loop_zero hl58).elim
   refine CW.go ?_ ha
   refine CW.block ?_
   refine CW.seq ?_
   refine CW.region ?_
   refine OW.pure 5 [(12, .int .u64 (s59.1.tmod 10)), (15, .int .u64 (wu64 ((s59.1.tmod 10) + 1)))] (by kernel_rfl) ?_
   obtain ⟨x64, hx65, hl58⟩ := bind_some' hl58
   refine OW.op (v := .string x64) rfl rfl rfl rfl (fun a ha => ssub_run rfl rfl rfl rfl (by kernel_rfl) hx65 a _ ha) ?_
   refine OW.pure 1 [(17, .string s59.2)] (by kernel_rfl) ?_
   obtain ⟨x66, hx67, hl58⟩ := bind_some' hl58
   refine OW.op (v := .string x66) rfl rfl rfl rfl (fun a ha => cat_run rfl rfl rfl (by kernel_rfl) hx67 a _ ha) ?_
   refine OW.pure 1 [(4, .string x66)] (by kernel_rfl) ?_
   refine OW.nil rfl ?_
   refine QW.next ?_
   refine CW.seq ?_
   refine CW.region ?_
   refine OW.pure 3 [(3, .int .u64 (wu64 (s59.1.tdiv 10)))] (by kernel_rfl) ?_
   refine OW.nil rfl ?_
   refine QW.next ?_
   refine CW.seq ?_
   refine CW.region ?_
   refine OW.pure 2 [(22, .bool ((wu64 (s59.1.tdiv 10)) == 0))] (by kernel_rfl) ?_
   refine OW.nil rfl ?_
   refine QW.next ?_
   rcases Bool.eq_false_or_eq_true (((wu64 (s59.1.tdiv 10)) == 0)) with hc68 | hc68
   ·have hl58 := ite_t hl58 hc68
    refine CW.cond_t rfl hc68 ?_
    refine CW.exit ?_
    refine QW.block_on rfl ?_
    refine QW.then_exit ?_
    refine QW.block_here ?_
    obtain rfl := Option.some.inj hl58
    exact QW.meet (fun a ha => ⟨ha.agrees (by kernel_rfl), hst.keep [] rfl⟩)
   ·have hl58 := ite_f hl58 hc68
    refine CW.cond_f rfl hc68 ?_
    refine CW.skip ?_
    refine QW.block_normal ?_
    exact QW.meet (fun a ha => ⟨n57, Nat.lt_succ_self _, (wu64 (s59.1.tdiv 10), x66), ha.agrees (by kernel_rfl), hst.keep [] rfl, hl58⟩)
  ·rintro a w1 ⟨ha, hst⟩
   refine CW.go ?_ ha
   refine CW.seq ?_
   refine CW.seq ?_
   refine CW.region ?_
   refine OW.pure 2 [(24, .bool (decide (p0 < 0)))] (by kernel_rfl) ?_
   refine OW.nil rfl ?_
   refine QW.next ?_
   rcases Bool.eq_false_or_eq_true (decide (p0 < 0)) with hc69 | hc69
   ·have hF := ite_t hF hc69
    refine CW.cond_t rfl hc69 ?_
    refine CW.seq ?_
    refine CW.region ?_
    refine OW.pure 1 [(25, .string o36)] (by kernel_rfl) ?_
    obtain ⟨x72, hx73, hF⟩ := bind_some' hF
    refine OW.op (v := .string x72) rfl rfl rfl rfl (fun a ha => cat_run rfl rfl rfl (by kernel_rfl) hx73 a _ ha) ?_
    refine OW.pure 1 [(2, .string x72)] (by kernel_rfl) ?_
    refine OW.nil rfl ?_
    refine QW.next ?_
    refine CW.ret ?_
    refine QW.then_ret ?_
    obtain rfl := Option.some.inj hF
    refine QW.ret1 rfl rfl ?_
    exact ⟨rfl, hst.keep [] rfl⟩
   ·have hF := ite_f hF hc69
    refine CW.cond_f rfl hc69 ?_
    refine CW.skip ?_
    refine QW.next ?_
    refine CW.seq ?_
    refine CW.region ?_
    refine OW.pure 2 [(2, .string o36)] (by kernel_rfl) ?_
    refine OW.nil rfl ?_
    refine QW.next ?_
    refine CW.ret ?_
    obtain rfl := Option.some.inj hF
    refine QW.ret1 rfl rfl ?_
    exact ⟨rfl, hst.keep [] rfl⟩

set_option maxRecDepth 10000 in
set_option maxHeartbeats 4000000 in
theorem tappetref03_r_ok (w : World) (fu : Nat) (p0 : Int) (r : ByteArray) (hF : tappetref03_r fu p0 = some r)
    (hst : St w (fp []) w []) :
    Calls Tryd.prog 37 [.int .i64 p0].toArray w (fun e w' => e = .returned (.string r) ∧ St w (fp []) w' []) := by
 refine CW.start (N := 6) Tryd.func37 rfl rfl rfl ?_
 refine CW.seq ?_
 refine CW.region ?_
 refine OW.pure 1 [] (by kernel_rfl) ?_
 refine OW.nil rfl ?_
 refine QW.next ?_
 refine CW.seq ?_
 refine CW.region ?_
 refine OW.pure 1 [(3, .int .i64 p0)] (by kernel_rfl) ?_
 obtain ⟨r7, hr8, hF⟩ := bind_some' hF
 refine OW.fn rfl rfl rfl rfl (by kernel_rfl) (tappetref03_Number_ok _ fu p0 r7 hr8 (hst.part [] rfl)) ?_
 rintro e w9 ⟨rfl, hst10⟩
 refine ⟨_, rfl, ?_⟩
 have hst := hst.join (idx := []) (rest := []) rfl hst10
 obtain ⟨x11, hx12, hF⟩ := bind_some' hF
 refine OW.op (v := .string x11) rfl rfl rfl rfl (fun a ha => cat_run rfl rfl rfl (by kernel_rfl) hx12 a _ ha) ?_
 refine OW.pure 1 [(2, .string x11)] (by kernel_rfl) ?_
 refine OW.nil rfl ?_
 refine QW.next ?_
 refine CW.ret ?_
 obtain rfl := Option.some.inj hF
 refine QW.ret1 rfl rfl ?_
 exact ⟨rfl, hst.keep [] rfl⟩

set_option maxRecDepth 10000 in
set_option maxHeartbeats 4000000 in
theorem tappetref03_source_ok (w : World) (fu : Nat) (p0 : api_Inst) (r : ByteArray) (hF : tappetref03_source fu p0 = some r)
    (hst : St w (fp []) w []) :
    Calls Tryd.prog 38 [.agg [.int .i64 p0.Op, .int .i64 p0.D, .int .i64 p0.A, .int .i64 p0.B, .int .i64 p0.Imm].toArray].toArray w (fun e w' => e = .returned (.string r) ∧ St w (fp []) w' []) := by
 refine CW.start (N := 12) Tryd.func38 rfl rfl rfl ?_
 refine CW.seq ?_
 refine CW.region ?_
 refine OW.box hst rfl rfl rfl rfl [.int .i64 p0.Op, .int .i64 p0.D, .int .i64 p0.A, .int .i64 p0.B, .int .i64 p0.Imm] rfl ?_
 intro b3 w4 hst
 refine OW.pure 1 [] (by kernel_rfl) ?_
 refine OW.nil rfl ?_
 refine QW.next ?_
 refine CW.seq ?_
 refine CW.seq ?_
 refine CW.region ?_
 refine OW.pure 1 [(3, .pointer (some ⟨b3, 3, none⟩))] (by kernel_rfl) ?_
 refine OW.ld rfl rfl rfl rfl (by kernel_rfl) (hst.blk 0 rfl rfl) ?_
 refine OW.pure 1 [(5, .bool (p0.B == 8))] (by kernel_rfl) ?_
 refine OW.nil rfl ?_
 refine QW.next ?_
 rcases Bool.eq_false_or_eq_true ((p0.B == 8)) with hc5 | hc5
 ·have hF := ite_t hF hc5
  refine CW.cond_t rfl hc5 ?_
  refine CW.seq ?_
  refine CW.region ?_
  refine OW.pure 1 [(6, .pointer (some ⟨b3, 4, none⟩))] (by kernel_rfl) ?_
  refine OW.ld rfl rfl rfl rfl (by kernel_rfl) (hst.blk 0 rfl rfl) ?_
  obtain ⟨r10, hr11, hF⟩ := bind_some' hF
  refine OW.fn rfl rfl rfl rfl (by kernel_rfl) (tappetref03_Number_ok _ fu p0.Imm r10 hr11 (hst.part [] rfl)) ?_
  rintro e w12 ⟨rfl, hst13⟩
  refine ⟨_, rfl, ?_⟩
  have hst := hst.join (idx := []) (rest := [0]) rfl hst13
  refine OW.pure 1 [(2, .string r10)] (by kernel_rfl) ?_
  refine OW.nil rfl ?_
  refine QW.next ?_
  refine CW.ret ?_
  refine QW.then_ret ?_
  obtain rfl := Option.some.inj hF
  refine QW.ret1 rfl rfl ?_
  exact ⟨rfl, hst.keep [] rfl⟩
 ·have hF := ite_f hF hc5
  refine CW.cond_f rfl hc5 ?_
  refine CW.skip ?_
  refine QW.next ?_
  refine CW.seq ?_
  refine CW.region ?_
  refine OW.pure 1 [(9, .pointer (some ⟨b3, 3, none⟩))] (by kernel_rfl) ?_
  refine OW.ld rfl rfl rfl rfl (by kernel_rfl) (hst.blk 0 rfl rfl) ?_
  obtain ⟨r18, hr19, hF⟩ := bind_some' hF
  refine OW.fn rfl rfl rfl rfl (by kernel_rfl) (tappetref03_r_ok _ fu p0.B r18 hr19 (hst.part [] rfl)) ?_
  rintro e w20 ⟨rfl, hst21⟩
  refine ⟨_, rfl, ?_⟩
  have hst := hst.join (idx := []) (rest := [0]) rfl hst21
  refine OW.pure 1 [(2, .string r18)] (by kernel_rfl) ?_
  refine OW.nil rfl ?_
  refine QW.next ?_
  refine CW.ret ?_
  obtain rfl := Option.some.inj hF
  refine QW.ret1 rfl rfl ?_
  exact ⟨rfl, hst.keep [] rfl⟩

set_option maxRecDepth 10000 in
set_option maxHeartbeats 4000000 in
theorem tappetref03_Line_ok (w : World) (fu : Nat) (p0 : api_Inst) (r : ByteArray) (hF : tappetref03_Line fu p0 = some r)
    (hst : St w (fp []) w []) :
    Calls Tryd.prog 20 [.agg [.int .i64 p0.Op, .int .i64 p0.D, .int .i64 p0.A, .int .i64 p0.B, .int .i64 p0.Imm].toArray].toArray w (fun e w' => e = .returned (.string r) ∧ St w (fp []) w' []) := by
 refine CW.start (N := 128) Tryd.func20 rfl rfl rfl ?_
 refine CW.seq ?_
 refine CW.region ?_
 refine OW.box hst rfl rfl rfl rfl [.int .i64 p0.Op, .int .i64 p0.D, .int .i64 p0.A, .int .i64 p0.B, .int .i64 p0.Imm] rfl ?_
 intro b3 w4 hst
 refine OW.pure 1 [] (by kernel_rfl) ?_
 refine OW.nil rfl ?_
 refine QW.next ?_
 refine CW.seq ?_
 refine CW.region ?_
 refine OW.pure 1 [(5, .pointer (some ⟨b3, 0, none⟩))] (by kernel_rfl) ?_
 refine OW.ld rfl rfl rfl rfl (by kernel_rfl) (hst.blk 0 rfl rfl) ?_
 refine OW.pure 1 [(3, .int .i64 p0.Op)] (by kernel_rfl) ?_
 refine OW.nil rfl ?_
 refine QW.next ?_
 refine CW.seq ?_
 refine CW.region ?_
 refine OW.pure 1 [(7, .int .i64 p0.Op)] (by kernel_rfl) ?_
 obtain ⟨r11, hr12, hF⟩ := bind_some' hF
 refine OW.fn rfl rfl rfl rfl (by kernel_rfl) (tappetref02_Name_ok _ p0.Op r11 hr12 (hst.part [] rfl)) ?_
 rintro e w13 ⟨rfl, hst14⟩
 refine ⟨_, rfl, ?_⟩
 have hst := hst.join (idx := []) (rest := [0]) rfl hst14
 obtain ⟨x15, hx16, hF⟩ := bind_some' hF
 refine OW.op (v := .string x15) rfl rfl rfl rfl (fun a ha => cat_run rfl rfl rfl (by kernel_rfl) hx16 a _ ha) ?_
 refine OW.pure 1 [(4, .string x15)] (by kernel_rfl) ?_
 refine OW.nil rfl ?_
 refine QW.next ?_
 refine CW.seq ?_
 refine CW.block ?_
 refine CW.seq ?_
 refine CW.cutK (fun a w1 => Rep 128 [(1, .pointer (some ⟨b3, 0, none⟩)), (3, .int .i64 p0.Op), (4, .string x15), (10, .bool ((p0.Op == 0) || (p0.Op == 11)))] a ∧ St w (fp []) w1 [blkI b3 32 [.int .i64 p0.Op, .int .i64 p0.D, .int .i64 p0.A, .int .i64 p0.B, .int .i64 p0.Imm]]) ?_ ?_
 ·refine CW.region ?_
  refine OW.pure 3 [(13, .bool (p0.Op == 0))] (by kernel_rfl) ?_
  refine OW.split 13 rfl (fun hc17 => ?_) (fun hc17 => ?_)
  ·refine OW.pure 4 [(10, .bool true)] (by kernel_rfl) ?_
   refine OW.nil rfl ?_
   refine QW.say 10 (v := .bool ((p0.Op == 0) || (p0.Op == 11))) rfl (by first | (rw [hc17]; done) | (rw [hc17]; rfl) | simp [hc17]) ?_
   exact QW.meet (fun a ha => ⟨ha.agrees (by kernel_rfl), hst.keep [0] rfl⟩)
  ·refine OW.pure 4 [(10, .bool (p0.Op == 11))] (by kernel_rfl) ?_
   refine OW.nil rfl ?_
   refine QW.say 10 (v := .bool ((p0.Op == 0) || (p0.Op == 11))) rfl (by first | (rw [hc17]; done) | (rw [hc17]; rfl) | simp [hc17]) ?_
   exact QW.meet (fun a ha => ⟨ha.agrees (by kernel_rfl), hst.keep [0] rfl⟩)
 ·rintro a w1 ⟨ha, hst⟩
  refine CW.go ?_ ha
  rcases Bool.eq_false_or_eq_true (((p0.Op == 0) || (p0.Op == 11))) with hc18 | hc18
  ·have hF := ite_t hF hc18
   refine CW.cond_t rfl hc18 ?_
   refine CW.seq ?_
   refine CW.plan (by kernel_rfl) ?_
   intro w35 hch36
   have hst := hst.same hch36
   refine OA.pure [0, 1] [(17, .string x15), (18, .pointer (some ⟨b3, 1, none⟩))] (by kernel_rfl) ?_
   refine OA.ld (i := 2) rfl (by kernel_rfl) rfl rfl rfl (by kernel_rfl) (hst.blk 0 rfl rfl) ?_
   refine OA.ldN (i := 6) (cs := [.int .i64 p0.Op, .int .i64 p0.D, .int .i64 p0.A, .int .i64 p0.B, .int .i64 p0.Imm]) rfl (by kernel_rfl) rfl rfl rfl (by kernel_rfl) (by kernel_rfl) (hst.blkN 0 rfl 0 5) ?_
   refine OA.act (i := 3) [6] (by kernel_rfl) rfl rfl (by kernel_rfl) (by kernel_rfl) ?_
   obtain ⟨r37, hr38, hF⟩ := bind_some' hF
   refine OW.fn rfl rfl rfl rfl (by kernel_rfl) (tappetref03_r_ok _ fu p0.D r37 hr38 (hst.part [] rfl)) ?_
   rintro e w39 ⟨rfl, hst40⟩
   refine ⟨_, rfl, ?_⟩
   have hst := hst.join (idx := []) (rest := [0]) rfl hst40
   refine OA.next ⟨(hst.blkN 0 rfl 0 5), trivial⟩ ?_
   obtain ⟨x41, hx42, hF⟩ := bind_some' hF
   refine OA.val (i := 4) (v := .string x41) rfl (by kernel_rfl) rfl rfl rfl rfl (fun a w ha => cat_run rfl rfl rfl (by kernel_rfl) hx42 a w ha) ?_
   obtain ⟨x43, hx44, hF⟩ := bind_some' hF
   refine OA.val (i := 5) (v := .string x43) rfl (by kernel_rfl) rfl rfl rfl rfl (fun a w ha => cat_run rfl rfl rfl (by kernel_rfl) hx44 a w ha) ?_
   refine OA.act (i := 7) [] (by kernel_rfl) rfl rfl (by kernel_rfl) (by kernel_rfl) ?_
   obtain ⟨r45, hr46, hF⟩ := bind_some' hF
   refine OW.fn rfl rfl rfl rfl (by kernel_rfl) (tappetref03_source_ok _ fu p0 r45 hr46 (hst.part [] rfl)) ?_
   rintro e w47 ⟨rfl, hst48⟩
   refine ⟨_, rfl, ?_⟩
   have hst := hst.join (idx := []) (rest := [0]) rfl hst48
   refine OA.next trivial ?_
   obtain ⟨x49, hx50, hF⟩ := bind_some' hF
   refine OA.val (i := 8) (v := .string x49) rfl (by kernel_rfl) rfl rfl rfl rfl (fun a w ha => cat_run rfl rfl rfl (by kernel_rfl) hx50 a w ha) ?_
   refine OA.act (i := 9) [] (by kernel_rfl) rfl rfl (by kernel_rfl) (by kernel_rfl) ?_
   refine OW.pure 1 [(2, .string x49)] (by kernel_rfl) ?_
   refine OA.next trivial ?_
   refine OA.fin (by kernel_rfl) (by kernel_rfl) ?_
   refine QW.next ?_
   refine CW.ret ?_
   refine QW.block_ret ?_
   refine QW.then_ret ?_
   obtain rfl := Option.some.inj hF
   refine QW.ret1 rfl rfl ?_
   exact ⟨rfl, hst.keep [] rfl⟩
  ·have hF := ite_f hF hc18
   refine CW.cond_f rfl hc18 ?_
   refine CW.seq ?_
   refine CW.region ?_
   refine OW.pure 3 [(26, .bool (decide (p0.Op ≤ 10)))] (by kernel_rfl) ?_
   refine OW.nil rfl ?_
   refine QW.next ?_
   rcases Bool.eq_false_or_eq_true (decide (p0.Op ≤ 10)) with hc51 | hc51
   ·have hF := ite_t hF hc51
    refine CW.cond_t rfl hc51 ?_
    refine CW.seq ?_
    refine CW.plan (by kernel_rfl) ?_
    intro w76 hch77
    have hst := hst.same hch77
    refine OA.pure [0, 1] [(29, .string x15), (30, .pointer (some ⟨b3, 1, none⟩))] (by kernel_rfl) ?_
    refine OA.ld (i := 2) rfl (by kernel_rfl) rfl rfl rfl (by kernel_rfl) (hst.blk 0 rfl rfl) ?_
    refine OA.pure [6] [(35, .pointer (some ⟨b3, 2, none⟩))] (by kernel_rfl) ?_
    refine OA.ld (i := 7) rfl (by kernel_rfl) rfl rfl rfl (by kernel_rfl) (hst.blk 0 rfl rfl) ?_
    refine OA.ldN (i := 11) (cs := [.int .i64 p0.Op, .int .i64 p0.D, .int .i64 p0.A, .int .i64 p0.B, .int .i64 p0.Imm]) rfl (by kernel_rfl) rfl rfl rfl (by kernel_rfl) (by kernel_rfl) (hst.blkN 0 rfl 0 5) ?_
    refine OA.act (i := 3) [11, 7] (by kernel_rfl) rfl rfl (by kernel_rfl) (by kernel_rfl) ?_
    obtain ⟨r78, hr79, hF⟩ := bind_some' hF
    refine OW.fn rfl rfl rfl rfl (by kernel_rfl) (tappetref03_r_ok _ fu p0.D r78 hr79 (hst.part [] rfl)) ?_
    rintro e w80 ⟨rfl, hst81⟩
    refine ⟨_, rfl, ?_⟩
    have hst := hst.join (idx := []) (rest := [0]) rfl hst81
    refine OA.next ⟨(hst.blkN 0 rfl 0 5), (hst.blk 0 rfl rfl), trivial⟩ ?_
    obtain ⟨x82, hx83, hF⟩ := bind_some' hF
    refine OA.val (i := 4) (v := .string x82) rfl (by kernel_rfl) rfl rfl rfl rfl (fun a w ha => cat_run rfl rfl rfl (by kernel_rfl) hx83 a w ha) ?_
    obtain ⟨x84, hx85, hF⟩ := bind_some' hF
    refine OA.val (i := 5) (v := .string x84) rfl (by kernel_rfl) rfl rfl rfl rfl (fun a w ha => cat_run rfl rfl rfl (by kernel_rfl) hx85 a w ha) ?_
    refine OA.act (i := 8) [11] (by kernel_rfl) rfl rfl (by kernel_rfl) (by kernel_rfl) ?_
    obtain ⟨r86, hr87, hF⟩ := bind_some' hF
    refine OW.fn rfl rfl rfl rfl (by kernel_rfl) (tappetref03_r_ok _ fu p0.A r86 hr87 (hst.part [] rfl)) ?_
    rintro e w88 ⟨rfl, hst89⟩
    refine ⟨_, rfl, ?_⟩
    have hst := hst.join (idx := []) (rest := [0]) rfl hst89
    refine OA.next ⟨(hst.blkN 0 rfl 0 5), trivial⟩ ?_
    obtain ⟨x90, hx91, hF⟩ := bind_some' hF
    refine OA.val (i := 9) (v := .string x90) rfl (by kernel_rfl) rfl rfl rfl rfl (fun a w ha => cat_run rfl rfl rfl (by kernel_rfl) hx91 a w ha) ?_
    obtain ⟨x92, hx93, hF⟩ := bind_some' hF
    refine OA.val (i := 10) (v := .string x92) rfl (by kernel_rfl) rfl rfl rfl rfl (fun a w ha => cat_run rfl rfl rfl (by kernel_rfl) hx93 a w ha) ?_
    refine OA.act (i := 12) [] (by kernel_rfl) rfl rfl (by kernel_rfl) (by kernel_rfl) ?_
    obtain ⟨r94, hr95, hF⟩ := bind_some' hF
    refine OW.fn rfl rfl rfl rfl (by kernel_rfl) (tappetref03_source_ok _ fu p0 r94 hr95 (hst.part [] rfl)) ?_
    rintro e w96 ⟨rfl, hst97⟩
    refine ⟨_, rfl, ?_⟩
    have hst := hst.join (idx := []) (rest := [0]) rfl hst97
    refine OA.next trivial ?_
    obtain ⟨x98, hx99, hF⟩ := bind_some' hF
    refine OA.val (i := 13) (v := .string x98) rfl (by kernel_rfl) rfl rfl rfl rfl (fun a w ha => cat_run rfl rfl rfl (by kernel_rfl) hx99 a w ha) ?_
    refine OA.act (i := 14) [] (by kernel_rfl) rfl rfl (by kernel_rfl) (by kernel_rfl) ?_
    refine OW.pure 1 [(2, .string x98)] (by kernel_rfl) ?_
    refine OA.next trivial ?_
    refine OA.fin (by kernel_rfl) (by kernel_rfl) ?_
    refine QW.next ?_
    refine CW.ret ?_
    refine QW.block_ret ?_
    refine QW.then_ret ?_
    obtain rfl := Option.some.inj hF
    refine QW.ret1 rfl rfl ?_
    exact ⟨rfl, hst.keep [] rfl⟩
   ·have hF := ite_f hF hc51
    refine CW.cond_f rfl hc51 ?_
    refine CW.seq ?_
    refine CW.region ?_
    refine OW.pure 3 [(43, .bool (p0.Op == 12))] (by kernel_rfl) ?_
    refine OW.nil rfl ?_
    refine QW.next ?_
    rcases Bool.eq_false_or_eq_true ((p0.Op == 12)) with hc100 | hc100
    ·have hF := ite_t hF hc100
     refine CW.cond_t rfl hc100 ?_
     refine CW.seq ?_
     refine CW.plan (by kernel_rfl) ?_
     intro w117 hch118
     have hst := hst.same hch118
     refine OA.pure [0, 1] [(46, .string x15), (47, .pointer (some ⟨b3, 2, none⟩))] (by kernel_rfl) ?_
     refine OA.ld (i := 2) rfl (by kernel_rfl) rfl rfl rfl (by kernel_rfl) (hst.blk 0 rfl rfl) ?_
     refine OA.ldN (i := 6) (cs := [.int .i64 p0.Op, .int .i64 p0.D, .int .i64 p0.A, .int .i64 p0.B, .int .i64 p0.Imm]) rfl (by kernel_rfl) rfl rfl rfl (by kernel_rfl) (by kernel_rfl) (hst.blkN 0 rfl 0 5) ?_
     refine OA.act (i := 3) [6] (by kernel_rfl) rfl rfl (by kernel_rfl) (by kernel_rfl) ?_
     obtain ⟨r119, hr120, hF⟩ := bind_some' hF
     refine OW.fn rfl rfl rfl rfl (by kernel_rfl) (tappetref03_r_ok _ fu p0.A r119 hr120 (hst.part [] rfl)) ?_
     rintro e w121 ⟨rfl, hst122⟩
     refine ⟨_, rfl, ?_⟩
     have hst := hst.join (idx := []) (rest := [0]) rfl hst122
     refine OA.next ⟨(hst.blkN 0 rfl 0 5), trivial⟩ ?_
     obtain ⟨x123, hx124, hF⟩ := bind_some' hF
     refine OA.val (i := 4) (v := .string x123) rfl (by kernel_rfl) rfl rfl rfl rfl (fun a w ha => cat_run rfl rfl rfl (by kernel_rfl) hx124 a w ha) ?_
     obtain ⟨x125, hx126, hF⟩ := bind_some' hF
     refine OA.val (i := 5) (v := .string x125) rfl (by kernel_rfl) rfl rfl rfl rfl (fun a w ha => cat_run rfl rfl rfl (by kernel_rfl) hx126 a w ha) ?_
     refine OA.act (i := 7) [] (by kernel_rfl) rfl rfl (by kernel_rfl) (by kernel_rfl) ?_
     obtain ⟨r127, hr128, hF⟩ := bind_some' hF
     refine OW.fn rfl rfl rfl rfl (by kernel_rfl) (tappetref03_source_ok _ fu p0 r127 hr128 (hst.part [] rfl)) ?_
     rintro e w129 ⟨rfl, hst130⟩
     refine ⟨_, rfl, ?_⟩
     have hst := hst.join (idx := []) (rest := [0]) rfl hst130
     refine OA.next trivial ?_
     obtain ⟨x131, hx132, hF⟩ := bind_some' hF
     refine OA.val (i := 8) (v := .string x131) rfl (by kernel_rfl) rfl rfl rfl rfl (fun a w ha => cat_run rfl rfl rfl (by kernel_rfl) hx132 a w ha) ?_
     refine OA.act (i := 9) [] (by kernel_rfl) rfl rfl (by kernel_rfl) (by kernel_rfl) ?_
     refine OW.pure 1 [(2, .string x131)] (by kernel_rfl) ?_
     refine OA.next trivial ?_
     refine OA.fin (by kernel_rfl) (by kernel_rfl) ?_
     refine QW.next ?_
     refine CW.ret ?_
     refine QW.block_ret ?_
     refine QW.then_ret ?_
     obtain rfl := Option.some.inj hF
     refine QW.ret1 rfl rfl ?_
     exact ⟨rfl, hst.keep [] rfl⟩
    ·have hF := ite_f hF hc100
     refine CW.cond_f rfl hc100 ?_
     refine CW.seq ?_
     refine CW.cutK (fun a w1 => Rep 128 [(1, .pointer (some ⟨b3, 0, none⟩)), (3, .int .i64 p0.Op), (4, .string x15), (55, .bool ((p0.Op == 13) || (p0.Op == 14)))] a ∧ St w (fp []) w1 [blkI b3 32 [.int .i64 p0.Op, .int .i64 p0.D, .int .i64 p0.A, .int .i64 p0.B, .int .i64 p0.Imm]]) ?_ ?_
     ·refine CW.region ?_
      refine OW.pure 3 [(58, .bool (p0.Op == 13))] (by kernel_rfl) ?_
      refine OW.split 58 rfl (fun hc133 => ?_) (fun hc133 => ?_)
      ·refine OW.pure 4 [(55, .bool true)] (by kernel_rfl) ?_
       refine OW.nil rfl ?_
       refine QW.say 55 (v := .bool ((p0.Op == 13) || (p0.Op == 14))) rfl (by first | (rw [hc133]; done) | (rw [hc133]; rfl) | simp [hc133]) ?_
       exact QW.meet (fun a ha => ⟨ha.agrees (by kernel_rfl), hst.keep [0] rfl⟩)
      ·refine OW.pure 4 [(55, .bool (p0.Op == 14))] (by kernel_rfl) ?_
       refine OW.nil rfl ?_
       refine QW.say 55 (v := .bool ((p0.Op == 13) || (p0.Op == 14))) rfl (by first | (rw [hc133]; done) | (rw [hc133]; rfl) | simp [hc133]) ?_
       exact QW.meet (fun a ha => ⟨ha.agrees (by kernel_rfl), hst.keep [0] rfl⟩)
     ·rintro a w1 ⟨ha, hst⟩
      refine CW.go ?_ ha
      rcases Bool.eq_false_or_eq_true (((p0.Op == 13) || (p0.Op == 14))) with hc134 | hc134
      ·have hF := ite_t hF hc134
       refine CW.cond_t rfl hc134 ?_
       refine CW.seq ?_
       refine CW.plan (by kernel_rfl) ?_
       intro w151 hch152
       have hst := hst.same hch152
       refine OA.pure [0, 1] [(62, .string x15), (63, .pointer (some ⟨b3, 1, none⟩))] (by kernel_rfl) ?_
       refine OA.ld (i := 2) rfl (by kernel_rfl) rfl rfl rfl (by kernel_rfl) (hst.blk 0 rfl rfl) ?_
       refine OA.pure [6] [(68, .pointer (some ⟨b3, 4, none⟩))] (by kernel_rfl) ?_
       refine OA.ld (i := 7) rfl (by kernel_rfl) rfl rfl rfl (by kernel_rfl) (hst.blk 0 rfl rfl) ?_
       refine OA.act (i := 3) [7] (by kernel_rfl) rfl rfl (by kernel_rfl) (by kernel_rfl) ?_
       obtain ⟨r153, hr154, hF⟩ := bind_some' hF
       refine OW.fn rfl rfl rfl rfl (by kernel_rfl) (tappetref03_r_ok _ fu p0.D r153 hr154 (hst.part [] rfl)) ?_
       rintro e w155 ⟨rfl, hst156⟩
       refine ⟨_, rfl, ?_⟩
       have hst := hst.join (idx := []) (rest := [0]) rfl hst156
       refine OA.next ⟨(hst.blk 0 rfl rfl), trivial⟩ ?_
       obtain ⟨x157, hx158, hF⟩ := bind_some' hF
       refine OA.val (i := 4) (v := .string x157) rfl (by kernel_rfl) rfl rfl rfl rfl (fun a w ha => cat_run rfl rfl rfl (by kernel_rfl) hx158 a w ha) ?_
       obtain ⟨x159, hx160, hF⟩ := bind_some' hF
       refine OA.val (i := 5) (v := .string x159) rfl (by kernel_rfl) rfl rfl rfl rfl (fun a w ha => cat_run rfl rfl rfl (by kernel_rfl) hx160 a w ha) ?_
       refine OA.act (i := 8) [] (by kernel_rfl) rfl rfl (by kernel_rfl) (by kernel_rfl) ?_
       obtain ⟨r161, hr162, hF⟩ := bind_some' hF
       refine OW.fn rfl rfl rfl rfl (by kernel_rfl) (tappetref03_Number_ok _ fu p0.Imm r161 hr162 (hst.part [] rfl)) ?_
       rintro e w163 ⟨rfl, hst164⟩
       refine ⟨_, rfl, ?_⟩
       have hst := hst.join (idx := []) (rest := [0]) rfl hst164
       refine OA.next trivial ?_
       obtain ⟨x165, hx166, hF⟩ := bind_some' hF
       refine OA.val (i := 9) (v := .string x165) rfl (by kernel_rfl) rfl rfl rfl rfl (fun a w ha => cat_run rfl rfl rfl (by kernel_rfl) hx166 a w ha) ?_
       refine OA.act (i := 10) [] (by kernel_rfl) rfl rfl (by kernel_rfl) (by kernel_rfl) ?_
       refine OW.pure 1 [(2, .string x165)] (by kernel_rfl) ?_
       refine OA.next trivial ?_
       refine OA.fin (by kernel_rfl) (by kernel_rfl) ?_
       refine QW.next ?_
       refine CW.ret ?_
       refine QW.block_ret ?_
       refine QW.then_ret ?_
       obtain rfl := Option.some.inj hF
       refine QW.ret1 rfl rfl ?_
       exact ⟨rfl, hst.keep [] rfl⟩
      ·have hF := ite_f hF hc134
       refine CW.cond_f rfl hc134 ?_
       refine CW.seq ?_
       refine CW.region ?_
       refine OW.pure 3 [(72, .bool (p0.Op == 15))] (by kernel_rfl) ?_
       refine OW.nil rfl ?_
       refine QW.next ?_
       rcases Bool.eq_false_or_eq_true ((p0.Op == 15)) with hc167 | hc167
       ·have hF := ite_t hF hc167
        refine CW.cond_t rfl hc167 ?_
        refine CW.seq ?_
        refine CW.region ?_
        refine OW.pure 2 [(75, .string x15), (76, .pointer (some ⟨b3, 1, none⟩))] (by kernel_rfl) ?_
        refine OW.ld rfl rfl rfl rfl (by kernel_rfl) (hst.blk 0 rfl rfl) ?_
        obtain ⟨r174, hr175, hF⟩ := bind_some' hF
        refine OW.fn rfl rfl rfl rfl (by kernel_rfl) (tappetref03_Number_ok _ fu p0.D r174 hr175 (hst.part [] rfl)) ?_
        rintro e w176 ⟨rfl, hst177⟩
        refine ⟨_, rfl, ?_⟩
        have hst := hst.join (idx := []) (rest := [0]) rfl hst177
        obtain ⟨x178, hx179, hF⟩ := bind_some' hF
        refine OW.op (v := .string x178) rfl rfl rfl rfl (fun a ha => cat_run rfl rfl rfl (by kernel_rfl) hx179 a _ ha) ?_
        refine OW.pure 1 [(2, .string x178)] (by kernel_rfl) ?_
        refine OW.nil rfl ?_
        refine QW.next ?_
        refine CW.ret ?_
        refine QW.block_ret ?_
        refine QW.then_ret ?_
        obtain rfl := Option.some.inj hF
        refine QW.ret1 rfl rfl ?_
        exact ⟨rfl, hst.keep [] rfl⟩
       ·have hF := ite_f hF hc167
        refine CW.cond_f rfl hc167 ?_
        refine CW.seq ?_
        refine CW.region ?_
        refine OW.pure 3 [(80, .bool (decide (p0.Op ≤ 19)))] (by kernel_rfl) ?_
        refine OW.nil rfl ?_
        refine QW.next ?_
        rcases Bool.eq_false_or_eq_true (decide (p0.Op ≤ 19)) with hc180 | hc180
        ·have hF := ite_t hF hc180
         refine CW.cond_t rfl hc180 ?_
         refine CW.seq ?_
         refine CW.plan (by kernel_rfl) ?_
         intro w205 hch206
         have hst := hst.same hch206
         refine OA.pure [0, 1] [(83, .string x15), (84, .pointer (some ⟨b3, 2, none⟩))] (by kernel_rfl) ?_
         refine OA.ld (i := 2) rfl (by kernel_rfl) rfl rfl rfl (by kernel_rfl) (hst.blk 0 rfl rfl) ?_
         refine OA.ldN (i := 6) (cs := [.int .i64 p0.Op, .int .i64 p0.D, .int .i64 p0.A, .int .i64 p0.B, .int .i64 p0.Imm]) rfl (by kernel_rfl) rfl rfl rfl (by kernel_rfl) (by kernel_rfl) (hst.blkN 0 rfl 0 5) ?_
         refine OA.pure [10] [(93, .pointer (some ⟨b3, 1, none⟩))] (by kernel_rfl) ?_
         refine OA.ld (i := 11) rfl (by kernel_rfl) rfl rfl rfl (by kernel_rfl) (hst.blk 0 rfl rfl) ?_
         refine OA.act (i := 3) [11, 6] (by kernel_rfl) rfl rfl (by kernel_rfl) (by kernel_rfl) ?_
         obtain ⟨r207, hr208, hF⟩ := bind_some' hF
         refine OW.fn rfl rfl rfl rfl (by kernel_rfl) (tappetref03_r_ok _ fu p0.A r207 hr208 (hst.part [] rfl)) ?_
         rintro e w209 ⟨rfl, hst210⟩
         refine ⟨_, rfl, ?_⟩
         have hst := hst.join (idx := []) (rest := [0]) rfl hst210
         refine OA.next ⟨(hst.blk 0 rfl rfl), (hst.blkN 0 rfl 0 5), trivial⟩ ?_
         obtain ⟨x211, hx212, hF⟩ := bind_some' hF
         refine OA.val (i := 4) (v := .string x211) rfl (by kernel_rfl) rfl rfl rfl rfl (fun a w ha => cat_run rfl rfl rfl (by kernel_rfl) hx212 a w ha) ?_
         obtain ⟨x213, hx214, hF⟩ := bind_some' hF
         refine OA.val (i := 5) (v := .string x213) rfl (by kernel_rfl) rfl rfl rfl rfl (fun a w ha => cat_run rfl rfl rfl (by kernel_rfl) hx214 a w ha) ?_
         refine OA.act (i := 7) [11] (by kernel_rfl) rfl rfl (by kernel_rfl) (by kernel_rfl) ?_
         obtain ⟨r215, hr216, hF⟩ := bind_some' hF
         refine OW.fn rfl rfl rfl rfl (by kernel_rfl) (tappetref03_source_ok _ fu p0 r215 hr216 (hst.part [] rfl)) ?_
         rintro e w217 ⟨rfl, hst218⟩
         refine ⟨_, rfl, ?_⟩
         have hst := hst.join (idx := []) (rest := [0]) rfl hst218
         refine OA.next ⟨(hst.blk 0 rfl rfl), trivial⟩ ?_
         obtain ⟨x219, hx220, hF⟩ := bind_some' hF
         refine OA.val (i := 8) (v := .string x219) rfl (by kernel_rfl) rfl rfl rfl rfl (fun a w ha => cat_run rfl rfl rfl (by kernel_rfl) hx220 a w ha) ?_
         obtain ⟨x221, hx222, hF⟩ := bind_some' hF
         refine OA.val (i := 9) (v := .string x221) rfl (by kernel_rfl) rfl rfl rfl rfl (fun a w ha => cat_run rfl rfl rfl (by kernel_rfl) hx222 a w ha) ?_
         refine OA.act (i := 12) [] (by kernel_rfl) rfl rfl (by kernel_rfl) (by kernel_rfl) ?_
         obtain ⟨r223, hr224, hF⟩ := bind_some' hF
         refine OW.fn rfl rfl rfl rfl (by kernel_rfl) (tappetref03_Number_ok _ fu p0.D r223 hr224 (hst.part [] rfl)) ?_
         rintro e w225 ⟨rfl, hst226⟩
         refine ⟨_, rfl, ?_⟩
         have hst := hst.join (idx := []) (rest := [0]) rfl hst226
         refine OA.next trivial ?_
         obtain ⟨x227, hx228, hF⟩ := bind_some' hF
         refine OA.val (i := 13) (v := .string x227) rfl (by kernel_rfl) rfl rfl rfl rfl (fun a w ha => cat_run rfl rfl rfl (by kernel_rfl) hx228 a w ha) ?_
         refine OA.act (i := 14) [] (by kernel_rfl) rfl rfl (by kernel_rfl) (by kernel_rfl) ?_
         refine OW.pure 1 [(2, .string x227)] (by kernel_rfl) ?_
         refine OA.next trivial ?_
         refine OA.fin (by kernel_rfl) (by kernel_rfl) ?_
         refine QW.next ?_
         refine CW.ret ?_
         refine QW.block_ret ?_
         refine QW.then_ret ?_
         obtain rfl := Option.some.inj hF
         refine QW.ret1 rfl rfl ?_
         exact ⟨rfl, hst.keep [] rfl⟩
        ·have hF := ite_f hF hc180
         refine CW.cond_f rfl hc180 ?_
         refine CW.seq ?_
         refine CW.region ?_
         refine OW.pure 3 [(97, .bool (p0.Op == 20))] (by kernel_rfl) ?_
         refine OW.nil rfl ?_
         refine QW.next ?_
         rcases Bool.eq_false_or_eq_true ((p0.Op == 20)) with hc229 | hc229
         ·have hF := ite_t hF hc229
          refine CW.cond_t rfl hc229 ?_
          refine CW.seq ?_
          refine CW.plan (by kernel_rfl) ?_
          intro w254 hch255
          have hst := hst.same hch255
          refine OA.pure [0, 1] [(100, .string x15), (101, .pointer (some ⟨b3, 2, none⟩))] (by kernel_rfl) ?_
          refine OA.ld (i := 2) rfl (by kernel_rfl) rfl rfl rfl (by kernel_rfl) (hst.blk 0 rfl rfl) ?_
          refine OA.pure [6] [(106, .pointer (some ⟨b3, 1, none⟩))] (by kernel_rfl) ?_
          refine OA.ld (i := 7) rfl (by kernel_rfl) rfl rfl rfl (by kernel_rfl) (hst.blk 0 rfl rfl) ?_
          refine OA.pure [11] [(111, .pointer (some ⟨b3, 4, none⟩))] (by kernel_rfl) ?_
          refine OA.ld (i := 12) rfl (by kernel_rfl) rfl rfl rfl (by kernel_rfl) (hst.blk 0 rfl rfl) ?_
          refine OA.act (i := 3) [12, 7] (by kernel_rfl) rfl rfl (by kernel_rfl) (by kernel_rfl) ?_
          obtain ⟨r256, hr257, hF⟩ := bind_some' hF
          refine OW.fn rfl rfl rfl rfl (by kernel_rfl) (tappetref03_r_ok _ fu p0.A r256 hr257 (hst.part [] rfl)) ?_
          rintro e w258 ⟨rfl, hst259⟩
          refine ⟨_, rfl, ?_⟩
          have hst := hst.join (idx := []) (rest := [0]) rfl hst259
          refine OA.next ⟨(hst.blk 0 rfl rfl), (hst.blk 0 rfl rfl), trivial⟩ ?_
          obtain ⟨x260, hx261, hF⟩ := bind_some' hF
          refine OA.val (i := 4) (v := .string x260) rfl (by kernel_rfl) rfl rfl rfl rfl (fun a w ha => cat_run rfl rfl rfl (by kernel_rfl) hx261 a w ha) ?_
          obtain ⟨x262, hx263, hF⟩ := bind_some' hF
          refine OA.val (i := 5) (v := .string x262) rfl (by kernel_rfl) rfl rfl rfl rfl (fun a w ha => cat_run rfl rfl rfl (by kernel_rfl) hx263 a w ha) ?_
          refine OA.act (i := 8) [12] (by kernel_rfl) rfl rfl (by kernel_rfl) (by kernel_rfl) ?_
          obtain ⟨r264, hr265, hF⟩ := bind_some' hF
          refine OW.fn rfl rfl rfl rfl (by kernel_rfl) (tappetref03_Number_ok _ fu p0.D r264 hr265 (hst.part [] rfl)) ?_
          rintro e w266 ⟨rfl, hst267⟩
          refine ⟨_, rfl, ?_⟩
          have hst := hst.join (idx := []) (rest := [0]) rfl hst267
          refine OA.next ⟨(hst.blk 0 rfl rfl), trivial⟩ ?_
          obtain ⟨x268, hx269, hF⟩ := bind_some' hF
          refine OA.val (i := 9) (v := .string x268) rfl (by kernel_rfl) rfl rfl rfl rfl (fun a w ha => cat_run rfl rfl rfl (by kernel_rfl) hx269 a w ha) ?_
          obtain ⟨x270, hx271, hF⟩ := bind_some' hF
          refine OA.val (i := 10) (v := .string x270) rfl (by kernel_rfl) rfl rfl rfl rfl (fun a w ha => cat_run rfl rfl rfl (by kernel_rfl) hx271 a w ha) ?_
          refine OA.act (i := 13) [] (by kernel_rfl) rfl rfl (by kernel_rfl) (by kernel_rfl) ?_
          obtain ⟨r272, hr273, hF⟩ := bind_some' hF
          refine OW.fn rfl rfl rfl rfl (by kernel_rfl) (tappetref03_Number_ok _ fu p0.Imm r272 hr273 (hst.part [] rfl)) ?_
          rintro e w274 ⟨rfl, hst275⟩
          refine ⟨_, rfl, ?_⟩
          have hst := hst.join (idx := []) (rest := [0]) rfl hst275
          refine OA.next trivial ?_
          obtain ⟨x276, hx277, hF⟩ := bind_some' hF
          refine OA.val (i := 14) (v := .string x276) rfl (by kernel_rfl) rfl rfl rfl rfl (fun a w ha => cat_run rfl rfl rfl (by kernel_rfl) hx277 a w ha) ?_
          refine OA.act (i := 15) [] (by kernel_rfl) rfl rfl (by kernel_rfl) (by kernel_rfl) ?_
          refine OW.pure 1 [(2, .string x276)] (by kernel_rfl) ?_
          refine OA.next trivial ?_
          refine OA.fin (by kernel_rfl) (by kernel_rfl) ?_
          refine QW.next ?_
          refine CW.ret ?_
          refine QW.block_ret ?_
          refine QW.then_ret ?_
          obtain rfl := Option.some.inj hF
          refine QW.ret1 rfl rfl ?_
          exact ⟨rfl, hst.keep [] rfl⟩
         ·have hF := ite_f hF hc229
          refine CW.cond_f rfl hc229 ?_
          refine CW.seq ?_
          refine CW.region ?_
          refine OW.pure 3 [(115, .bool (p0.Op == 21))] (by kernel_rfl) ?_
          refine OW.nil rfl ?_
          refine QW.next ?_
          rcases Bool.eq_false_or_eq_true ((p0.Op == 21)) with hc278 | hc278
          ·have hF := ite_t hF hc278
           refine CW.cond_t rfl hc278 ?_
           refine CW.seq ?_
           refine CW.region ?_
           refine OW.pure 2 [(118, .string x15), (119, .pointer (some ⟨b3, 4, none⟩))] (by kernel_rfl) ?_
           refine OW.ld rfl rfl rfl rfl (by kernel_rfl) (hst.blk 0 rfl rfl) ?_
           obtain ⟨r285, hr286, hF⟩ := bind_some' hF
           refine OW.fn rfl rfl rfl rfl (by kernel_rfl) (tappetref03_Number_ok _ fu p0.Imm r285 hr286 (hst.part [] rfl)) ?_
           rintro e w287 ⟨rfl, hst288⟩
           refine ⟨_, rfl, ?_⟩
           have hst := hst.join (idx := []) (rest := [0]) rfl hst288
           obtain ⟨x289, hx290, hF⟩ := bind_some' hF
           refine OW.op (v := .string x289) rfl rfl rfl rfl (fun a ha => cat_run rfl rfl rfl (by kernel_rfl) hx290 a _ ha) ?_
           refine OW.pure 1 [(2, .string x289)] (by kernel_rfl) ?_
           refine OW.nil rfl ?_
           refine QW.next ?_
           refine CW.ret ?_
           refine QW.block_ret ?_
           refine QW.then_ret ?_
           obtain rfl := Option.some.inj hF
           refine QW.ret1 rfl rfl ?_
           exact ⟨rfl, hst.keep [] rfl⟩
          ·have hF := ite_f hF hc278
           refine CW.cond_f rfl hc278 ?_
           refine CW.skip ?_
           refine QW.block_normal ?_
           refine QW.next ?_
           refine CW.seq ?_
           refine CW.region ?_
           refine OW.pure 2 [(123, .string x15), (124, .pointer (some ⟨b3, 2, none⟩))] (by kernel_rfl) ?_
           refine OW.ld rfl rfl rfl rfl (by kernel_rfl) (hst.blk 0 rfl rfl) ?_
           obtain ⟨r297, hr298, hF⟩ := bind_some' hF
           refine OW.fn rfl rfl rfl rfl (by kernel_rfl) (tappetref03_r_ok _ fu p0.A r297 hr298 (hst.part [] rfl)) ?_
           rintro e w299 ⟨rfl, hst300⟩
           refine ⟨_, rfl, ?_⟩
           have hst := hst.join (idx := []) (rest := [0]) rfl hst300
           obtain ⟨x301, hx302, hF⟩ := bind_some' hF
           refine OW.op (v := .string x301) rfl rfl rfl rfl (fun a ha => cat_run rfl rfl rfl (by kernel_rfl) hx302 a _ ha) ?_
           refine OW.pure 1 [(2, .string x301)] (by kernel_rfl) ?_
           refine OW.nil rfl ?_
           refine QW.next ?_
           refine CW.ret ?_
           obtain rfl := Option.some.inj hF
           refine QW.ret1 rfl rfl ?_
           exact ⟨rfl, hst.keep [] rfl⟩

set_option maxRecDepth 10000 in
set_option maxHeartbeats 4000000 in
theorem tappetref03_Print_ok (w : World) (fu : Nat) (v0 : Value) (p0 : List api_Inst) (r : ByteArray × Int) (hF : tappetref03_Print fu p0 = some r)
    (hst : St w (fp []) w []) (h0 : Rd w (fp []) v0 enc_api_Inst 5 p0) :
    Calls Tryd.prog 11 [v0].toArray w (fun e w' => e = .returned (.tuple #[.string r.1, .int .i64 r.2]) ∧ St w (fp []) w' []) := by
 refine CW.start (N := 30) Tryd.func11 rfl rfl rfl ?_
 obtain ⟨l1, a2, c3, rfl⟩ := h0.len
 refine CW.seq ?_
 refine CW.region ?_
 refine OW.pure 2 [] (by kernel_rfl) ?_
 refine OW.nil rfl ?_
 refine QW.next ?_
 refine CW.seq ?_
 refine CW.region ?_
 refine OW.pure 1 [(4, .slice none 0 0)] (by kernel_rfl) ?_
 refine OW.nil rfl ?_
 refine QW.next ?_
 refine CW.seq ?_
 refine CW.seq ?_
 refine CW.region ?_
 refine OW.pure 1 [(5, .int .i64 0)] (by kernel_rfl) ?_
 refine OW.nil rfl ?_
 refine QW.next ?_
 obtain ⟨o234, ho235, hF⟩ := bind_some' hF
 refine CW.cutK (fun a w1 => ∃ (t236 : (List Int)) (v233 : Value), o234 = .inl t236 ∧ Rep 30 [(4, v233)] a ∧ St w (fp []) w1 [rowI v233 5 (encInt .u8) 1 t236]) ?_ ?_
 ·refine CW.block ?_
  have hst := hst.nilRow Int 5 (encInt .u8) 1
  refine CW.loop (fun n a w1 => ∃ (i391 : Nat) (s389 : (List Int)) (v390 : Value), i391 + n = (p0).length ∧ Rep 30 [(0, .slice a2 (p0).length c3), (4, v390), (5, .int .i64 (i391 : Int))] a ∧ St w (fp []) w1 [rowI v390 5 (encInt .u8) 1 s389] ∧ forN (tappetref03_Print_l1 fu p0) (fun (s389 : (List Int)) => (.inl s389)) n i391 s389 = some o234) (p0).length (fun a ha => ⟨0, ([] : List Int), (.slice none 0 0), Nat.zero_add _, ha.agrees (by kernel_rfl), hst.keep [0] rfl, ho235⟩) ?_
  rintro n387 a w1 ⟨i391, s389, v390, hi392, ha, hst, hl388⟩
  refine CW.go ?_ ha
  obtain ⟨l393, a394, c395, rfl⟩ := hst.len 0 rfl
  refine CW.seq ?_
  refine CW.seq ?_
  refine CW.region ?_
  refine OW.pure 4 [(9, .bool (decide ((i391 : Int) < ((p0).length : Int))))] (by kernel_rfl) ?_
  refine OW.nil rfl ?_
  refine QW.next ?_
  rcases Bool.eq_false_or_eq_true (decide ((i391 : Int) < ((p0).length : Int))) with hc396 | hc396
  ·rcases n387 with _ | n387
   ·exact (cnt0 hi392 hc396).elim
   refine CW.cond_t rfl hc396 ?_
   refine CW.skip ?_
   refine QW.next ?_
   refine CW.seq ?_
   refine CW.block ?_
   refine CW.seq ?_
   refine CW.seq ?_
   refine CW.region ?_
   refine OW.pure 2 [(12, .slice a2 (p0).length c3), (13, .int .i64 (i391 : Int))] (by kernel_rfl) ?_
   obtain ⟨x407, hx408, hl388⟩ := bind_some' hl388
   obtain ⟨g410, o411, c412, hv409⟩ := h0.formv (fun _ => ⟨_, rfl⟩) hx408
   refine OW.idx 32 5 rfl rfl rfl rfl hv409 rfl (idx_some hx408).1 (idx_some hx408).2.1 (by kernel_rfl) (by kernel_rfl) ?_
   refine OW.ldN (cs := enc_api_Inst x407) rfl rfl rfl rfl (by kernel_rfl) (by kernel_rfl) (h0.cellv hst hx408 hv409) ?_
   obtain ⟨r413, hr414, hl388⟩ := bind_some' hl388
   refine OW.fn rfl rfl rfl rfl (by kernel_rfl) (tappetref02_Right_ok _ x407 r413 hr414 (hst.part [] rfl)) ?_
   rintro e w415 ⟨rfl, hst416⟩
   refine ⟨_, rfl, ?_⟩
   have hst := hst.join (idx := []) (rest := [0]) rfl hst416
   refine OW.pure 1 [(17, .bool (!r413))] (by kernel_rfl) ?_
   refine OW.nil rfl ?_
   refine QW.next ?_
   rcases Bool.eq_false_or_eq_true ((!r413)) with hc417 | hc417
   ·have hl388 := ite_t hl388 hc417
    refine CW.cond_t rfl hc417 ?_
    refine CW.seq ?_
    refine CW.region ?_
    refine OW.pure 2 [(2, .string ByteArray.empty), (3, .int .i64 12)] (by kernel_rfl) ?_
    refine OW.nil rfl ?_
    refine QW.next ?_
    refine CW.ret ?_
    refine QW.then_ret ?_
    refine QW.block_ret ?_
    refine QW.then_ret ?_
    refine QW.then_ret ?_
    refine QW.block_ret ?_
    refine QW.then_ret ?_
    obtain rfl := Option.some.inj hl388
    obtain rfl := Option.some.inj hF
    refine QW.ret2 rfl rfl rfl ?_
    exact ⟨rfl, hst.keep [] rfl⟩
   ·have hl388 := ite_f hl388 hc417
    refine CW.cond_f rfl hc417 ?_
    refine CW.skip ?_
    refine QW.next ?_
    refine CW.seq ?_
    refine CW.region ?_
    refine OW.pure 3 [(18, .slice a394 (s389).length c395), (19, .slice a2 (p0).length c3), (20, .int .i64 (i391 : Int))] (by kernel_rfl) ?_
    obtain ⟨g434, o435, c436, hv433⟩ := h0.formv (fun _ => ⟨_, rfl⟩) hx408
    refine OW.idx 32 5 rfl rfl rfl rfl hv433 rfl (idx_some hx408).1 (idx_some hx408).2.1 (by kernel_rfl) (by kernel_rfl) ?_
    refine OW.ldN (cs := enc_api_Inst x407) rfl rfl rfl rfl (by kernel_rfl) (by kernel_rfl) (h0.cellv hst hx408 hv433) ?_
    obtain ⟨r437, hr438, hl388⟩ := bind_some' hl388
    refine OW.fn rfl rfl rfl rfl (by kernel_rfl) (tappetref03_Line_ok _ fu x407 r437 hr438 (hst.part [] rfl)) ?_
    rintro e w439 ⟨rfl, hst440⟩
    refine ⟨_, rfl, ?_⟩
    have hst := hst.join (idx := []) (rest := [0]) rfl hst440
    obtain ⟨u441, hr442, hl388⟩ := bind_some' hl388
    refine OW.appS hst 0 rfl rfl rfl rfl rfl rfl rfl (by kernel_rfl) (by kernel_rfl) el5 (room_le hr442) ?_
    intro v443 w444 hst
    obtain ⟨l445, a446, c447, rfl⟩ := hst.len 0 rfl
    refine OW.pure 1 [(4, .slice a446 ((s389 ++ bytesOf r437)).length c447)] (by kernel_rfl) ?_
    refine OW.nil rfl ?_
    refine QW.next ?_
    refine CW.region ?_
    refine OW.pure 1 [(25, .slice a446 ((s389 ++ bytesOf r437)).length c447)] (by kernel_rfl) ?_
    refine OW.row (α := Int) (e := 5) (enc := encInt .u8) (sz := 1) hst rfl rfl rfl [10] rfl (fun _ => rfl) rfl rfl (fun _ => by kernel_rfl) ?_
    intro g457 w458 hst
    obtain ⟨u459, hr460, hl388⟩ := bind_some' hl388
    refine OW.app hst 0 rfl (fun _ => rfl) (fun _ => rfl) rfl rfl rfl rfl rfl rfl (by kernel_rfl) el5 (hst.rd 1 rfl (fun _ => rfl) [] rfl (hst.len 1 rfl).1) (room_le hr460) ?_
    intro v461 w462 hst
    obtain ⟨l463, a464, c465, rfl⟩ := hst.len 0 rfl
    refine OW.pure 1 [(4, .slice a464 (((s389 ++ bytesOf r437) ++ ([10] : List Int))).length c465)] (by kernel_rfl) ?_
    refine OW.nil rfl ?_
    refine QW.block_normal ?_
    refine QW.next ?_
    refine CW.region ?_
    refine OW.pure 3 [(5, .int .i64 (w64 ((i391 : Int) + 1)))] (by kernel_rfl) ?_
    refine OW.nil rfl ?_
    refine QW.say 5 rfl (congrArg (Value.int .i64) (w64_cnt hc396 l1)) ?_
    exact QW.meet (fun a ha => ⟨n387, Nat.lt_succ_self _, i391 + 1, ((s389 ++ bytesOf r437) ++ ([10] : List Int)), (.slice a464 (((s389 ++ bytesOf r437) ++ ([10] : List Int))).length c465), cnt_next hi392, ha.agrees (by kernel_rfl), hst.keep [0] rfl, hl388⟩)
  ·rcases n387 with _ | n387
   ·refine CW.cond_f rfl hc396 ?_
    refine CW.exit ?_
    refine QW.then_exit ?_
    refine QW.then_exit ?_
    refine QW.block_here ?_
    obtain rfl := Option.some.inj hl388
    exact QW.meet (fun a ha => ⟨s389, (.slice a394 (s389).length c395), rfl, ha.agrees (by kernel_rfl), hst.keep [0] rfl⟩)
   ·exact (cnt1 hi392 hc396).elim
 ·rintro a w1 ⟨t236, v233, rfl, ha, hst⟩
  refine CW.go ?_ ha
  obtain ⟨l468, a469, c470, rfl⟩ := hst.len 0 rfl
  refine CW.seq ?_
  refine CW.region ?_
  refine OW.pure 1 [(28, .slice a469 (t236).length c470)] (by kernel_rfl) ?_
  refine OW.toStr (e := 5) rfl rfl rfl rfl (by kernel_rfl) (by kernel_rfl) (by kernel_rfl) (hst.rd 0 rfl (fun _ => rfl) [] rfl (hst.len 0 rfl).1) ?_
  refine OW.pure 2 [(2, .string (strOfNums t236)), (3, .int .i64 0)] (by kernel_rfl) ?_
  refine OW.nil rfl ?_
  refine QW.next ?_
  refine CW.ret ?_
  obtain rfl := Option.some.inj hF
  refine QW.ret2 rfl rfl rfl ?_
  exact ⟨rfl, hst.keep [] rfl⟩

set_option maxRecDepth 10000 in
set_option maxHeartbeats 4000000 in
theorem tappetlaw03_alike_ok (w : World) (v0 : Value) (p0 : List api_Inst) (v1 : Value) (p1 : List api_Inst) (r : Bool) (hF : tappetlaw03_alike p0 p1 = some r)
    (hst : St w (fp []) w []) (h0 : Rd w (fp []) v0 enc_api_Inst 5 p0) (h1 : Rd w (fp []) v1 enc_api_Inst 5 p1) :
    Calls Tryd.prog 12 [v0, v1].toArray w (fun e w' => e = .returned (.bool r) ∧ St w (fp []) w' []) := by
 refine CW.start (N := 26) Tryd.func12 rfl rfl rfl ?_
 obtain ⟨l1, a2, c3, rfl⟩ := h0.len
 obtain ⟨l4, a5, c6, rfl⟩ := h1.len
 refine CW.seq ?_
 refine CW.region ?_
 refine OW.pure 1 [] (by kernel_rfl) ?_
 refine OW.nil rfl ?_
 refine QW.next ?_
 refine CW.seq ?_
 refine CW.seq ?_
 refine CW.region ?_
 refine OW.pure 5 [(10, .bool (((p0).length : Int) != ((p1).length : Int)))] (by kernel_rfl) ?_
 refine OW.nil rfl ?_
 refine QW.next ?_
 rcases Bool.eq_false_or_eq_true ((((p0).length : Int) != ((p1).length : Int))) with hc7 | hc7
 ·have hF := ite_t hF hc7
  refine CW.cond_t rfl hc7 ?_
  refine CW.seq ?_
  refine CW.region ?_
  refine OW.pure 1 [(4, .bool false)] (by kernel_rfl) ?_
  refine OW.nil rfl ?_
  refine QW.next ?_
  refine CW.ret ?_
  refine QW.then_ret ?_
  obtain rfl := Option.some.inj hF
  refine QW.ret1 rfl rfl ?_
  exact ⟨rfl, hst.keep [] rfl⟩
 ·have hF := ite_f hF hc7
  refine CW.cond_f rfl hc7 ?_
  refine CW.skip ?_
  refine QW.next ?_
  refine CW.seq ?_
  refine CW.seq ?_
  refine CW.region ?_
  refine OW.pure 1 [(5, .int .i64 0)] (by kernel_rfl) ?_
  refine OW.nil rfl ?_
  refine QW.next ?_
  obtain ⟨o104, ho105, hF⟩ := bind_some' hF
  refine CW.cutK (fun a w1 => ∃ (t106 : Unit), o104 = .inl t106 ∧ Rep 26 [] a ∧ St w (fp []) w1 []) ?_ ?_
  ·refine CW.block ?_
   refine CW.loop (fun n a w1 => ∃ (i171 : Nat) (s170 : Unit), i171 + n = (p0).length ∧ Rep 26 [(0, .slice a2 (p0).length c3), (1, .slice a5 (p1).length c6), (5, .int .i64 (i171 : Int))] a ∧ St w (fp []) w1 [] ∧ forN (tappetlaw03_alike_l1 p0 p1) (fun (s170 : Unit) => (.inl ())) n i171 s170 = some o104) (p0).length (fun a ha => ⟨0, (), Nat.zero_add _, ha.agrees (by kernel_rfl), hst.keep [] rfl, ho105⟩) ?_
   rintro n168 a w1 ⟨i171, s170, hi172, ha, hst, hl169⟩
   refine CW.go ?_ ha
   refine CW.seq ?_
   refine CW.seq ?_
   refine CW.region ?_
   refine OW.pure 4 [(14, .bool (decide ((i171 : Int) < ((p0).length : Int))))] (by kernel_rfl) ?_
   refine OW.nil rfl ?_
   refine QW.next ?_
   rcases Bool.eq_false_or_eq_true (decide ((i171 : Int) < ((p0).length : Int))) with hc173 | hc173
   ·rcases n168 with _ | n168
    ·exact (cnt0 hi172 hc173).elim
    refine CW.cond_t rfl hc173 ?_
    refine CW.skip ?_
    refine QW.next ?_
    refine CW.seq ?_
    refine CW.block ?_
    refine CW.seq ?_
    refine CW.still (by kernel_rfl) (by kernel_rfl) ?_
    intro w188 hch189
    have hst := hst.same hch189
    refine OS.pure 2 [(17, .slice a2 (p0).length c3), (18, .int .i64 (i171 : Int))] rfl (by kernel_rfl) ?_
    obtain ⟨x190, hx191, hl169⟩ := bind_some' hl169
    obtain ⟨g193, o194, c195, hv192⟩ := h0.formv (fun _ => ⟨_, rfl⟩) hx191
    refine OS.idx 32 5 rfl rfl rfl rfl rfl hv192 rfl (idx_some hx191).1 (idx_some hx191).2.1 (by kernel_rfl) (by kernel_rfl) ?_
    refine OS.ldN (cs := enc_api_Inst x190) rfl rfl rfl rfl rfl (by kernel_rfl) (by kernel_rfl) (h0.cellv hst hx191 hv192) ?_
    refine OS.pure 2 [(21, .slice a5 (p1).length c6), (22, .int .i64 (i171 : Int))] rfl (by kernel_rfl) ?_
    obtain ⟨x196, hx197, hl169⟩ := bind_some' hl169
    obtain ⟨g199, o200, c201, hv198⟩ := h1.formv (fun _ => ⟨_, rfl⟩) hx197
    refine OS.idx 32 5 rfl rfl rfl rfl rfl hv198 rfl (idx_some hx197).1 (idx_some hx197).2.1 (by kernel_rfl) (by kernel_rfl) ?_
    refine OS.ldN (cs := enc_api_Inst x196) rfl rfl rfl rfl rfl (by kernel_rfl) (by kernel_rfl) (h1.cellv hst hx197 hv198) ?_
    refine OS.op (v := .bool (!((x190.Op == x196.Op) && ((x190.D == x196.D) && ((x190.A == x196.A) && ((x190.B == x196.B) && ((x190.Imm == x196.Imm) && true))))))) rfl rfl rfl rfl rfl (fun a ha => sneq_run rfl rfl rfl (by kernel_rfl) (by kernel_rfl) a _ ha) ?_
    refine OS.fin rfl ?_
    refine QW.next ?_
    rcases Bool.eq_false_or_eq_true ((!((x190.Op == x196.Op) && ((x190.D == x196.D) && ((x190.A == x196.A) && ((x190.B == x196.B) && ((x190.Imm == x196.Imm) && true))))))) with hc202 | hc202
    ·have hl169 := ite_t hl169 hc202
     refine CW.cond_t rfl hc202 ?_
     refine CW.seq ?_
     refine CW.region ?_
     refine OW.pure 1 [(4, .bool false)] (by kernel_rfl) ?_
     refine OW.nil rfl ?_
     refine QW.next ?_
     refine CW.ret ?_
     refine QW.block_ret ?_
     refine QW.then_ret ?_
     refine QW.then_ret ?_
     refine QW.block_ret ?_
     refine QW.then_ret ?_
     obtain rfl := Option.some.inj hl169
     obtain rfl := Option.some.inj hF
     refine QW.ret1 rfl rfl ?_
     exact ⟨rfl, hst.keep [] rfl⟩
    ·have hl169 := ite_f hl169 hc202
     refine CW.cond_f rfl hc202 ?_
     refine CW.skip ?_
     refine QW.block_normal ?_
     refine QW.next ?_
     refine CW.region ?_
     refine OW.pure 3 [(5, .int .i64 (w64 ((i171 : Int) + 1)))] (by kernel_rfl) ?_
     refine OW.nil rfl ?_
     refine QW.say 5 rfl (congrArg (Value.int .i64) (w64_cnt hc173 l1)) ?_
     exact QW.meet (fun a ha => ⟨n168, Nat.lt_succ_self _, i171 + 1, (), cnt_next hi172, ha.agrees (by kernel_rfl), hst.keep [] rfl, hl169⟩)
   ·rcases n168 with _ | n168
    ·refine CW.cond_f rfl hc173 ?_
     refine CW.exit ?_
     refine QW.then_exit ?_
     refine QW.then_exit ?_
     refine QW.block_here ?_
     obtain rfl := Option.some.inj hl169
     exact QW.meet (fun a ha => ⟨(), rfl, ha.agrees (by kernel_rfl), hst.keep [] rfl⟩)
    ·exact (cnt1 hi172 hc173).elim
  ·rintro a w1 ⟨t106, rfl, ha, hst⟩
   refine CW.go ?_ ha
   refine CW.seq ?_
   refine CW.region ?_
   refine OW.pure 1 [(4, .bool true)] (by kernel_rfl) ?_
   refine OW.nil rfl ?_
   refine QW.next ?_
   refine CW.ret ?_
   obtain rfl := Option.some.inj hF
   refine QW.ret1 rfl rfl ?_
   exact ⟨rfl, hst.keep [] rfl⟩

set_option maxRecDepth 10000 in
set_option maxHeartbeats 4000000 in
theorem tappetlaw03_LinesPrints_ok (w : World) (fu : Nat) (v0 : Value) (p0 : List api_Inst) (r : Bool) (hF : tappetlaw03_LinesPrints fu p0 = some r)
    (hst : St w (fp []) w []) (h0 : Rd w (fp []) v0 enc_api_Inst 5 p0) (hT0 : Rd w (fp []) (.slice (some ⟨0, 0, none⟩) 23 23) enc_ops_form 2 tab_g0) (hTL : LibG Tryd.prog 2 1 3 4 w (fp [])) :
    Calls Tryd.prog 3 [v0].toArray w (fun e w' => e = .returned (.bool r) ∧ St w (fp []) w' []) := by
 refine CW.start (N := 74) Tryd.func3 rfl rfl rfl ?_
 obtain ⟨l1, a2, c3, rfl⟩ := h0.len
 refine CW.seq ?_
 refine CW.region ?_
 refine OW.pure 1 [] (by kernel_rfl) ?_
 refine OW.nil rfl ?_
 refine QW.next ?_
 refine CW.seq ?_
 refine CW.seq ?_
 refine CW.region ?_
 obtain ⟨r8, hr9, hF⟩ := bind_some' hF
 refine OW.fn rfl rfl rfl rfl (by kernel_rfl) (tappetlaw03_awake_ok _ fu r8 hr9 (hst.part [] rfl) (hT0.give hst []) (hTL.give hst [])) ?_
 rintro e w10 ⟨rfl, hst11⟩
 refine ⟨_, rfl, ?_⟩
 have hst := hst.join (idx := []) (rest := []) rfl hst11
 refine OW.pure 1 [(14, .bool (!r8))] (by kernel_rfl) ?_
 refine OW.nil rfl ?_
 refine QW.next ?_
 rcases Bool.eq_false_or_eq_true ((!r8)) with hc12 | hc12
 ·have hF := ite_t hF hc12
  refine CW.cond_t rfl hc12 ?_
  refine CW.seq ?_
  refine CW.region ?_
  refine OW.pure 1 [(2, .bool false)] (by kernel_rfl) ?_
  refine OW.nil rfl ?_
  refine QW.next ?_
  refine CW.ret ?_
  refine QW.then_ret ?_
  obtain rfl := Option.some.inj hF
  refine QW.ret1 rfl rfl ?_
  exact ⟨rfl, hst.keep [] rfl⟩
 ·have hF := ite_f hF hc12
  refine CW.cond_f rfl hc12 ?_
  refine CW.skip ?_
  refine QW.next ?_
  refine CW.seq ?_
  refine CW.region ?_
  refine OW.row (α := api_Inst) (e := 32) (enc := enc_api_Inst) (sz := 5) hst rfl rfl rfl [] rfl (fun _ => rfl) rfl rfl (fun _ => by kernel_rfl) ?_
  intro g22 w23 hst
  refine OW.pure 1 [(16, .slice a2 (p0).length c3)] (by kernel_rfl) ?_
  obtain ⟨u24, hr25, hF⟩ := bind_some' hF
  refine OW.app hst 0 rfl (fun _ => rfl) (fun _ => rfl) rfl rfl rfl rfl rfl rfl (by kernel_rfl) el32 (h0.on hst) (room_le hr25) ?_
  intro v26 w27 hst
  obtain ⟨l28, a29, c30, rfl⟩ := hst.len 0 rfl
  refine OW.pure 1 [(3, .slice a29 ((([] : List api_Inst) ++ p0)).length c30)] (by kernel_rfl) ?_
  refine OW.nil rfl ?_
  refine QW.next ?_
  refine CW.seq ?_
  refine CW.region ?_
  refine OW.pure 1 [(19, .slice a29 ((([] : List api_Inst) ++ p0)).length c30)] (by kernel_rfl) ?_
  obtain ⟨r35, hr36, hF⟩ := bind_some' hF
  refine OW.fn rfl rfl rfl rfl (by kernel_rfl) (lines_Print_ok _ fu (.slice a29 ((([] : List api_Inst) ++ p0)).length c30) (([] : List api_Inst) ++ p0) r35 hr36 (hst.part [] rfl) (hst.rd 0 rfl (fun _ => rfl) [] rfl (hst.len 0 rfl).1) (hT0.give hst []) (hTL.give hst [])) ?_
  rintro e w37 ⟨rfl, hst38⟩
  refine ⟨_, rfl, ?_⟩
  have hst := hst.join (idx := []) (rest := [0]) rfl hst38
  refine OW.pure 5 [(4, .string r35.1), (5, .int .i64 r35.2)] (by kernel_rfl) ?_
  refine OW.nil rfl ?_
  refine QW.next ?_
  refine CW.seq ?_
  refine CW.region ?_
  refine OW.pure 1 [(24, .slice a2 (p0).length c3)] (by kernel_rfl) ?_
  obtain ⟨r43, hr44, hF⟩ := bind_some' hF
  refine OW.fn rfl rfl rfl rfl (by kernel_rfl) (tappetref03_Print_ok _ fu (.slice a2 (p0).length c3) p0 r43 hr44 (hst.part [] rfl) (h0.give hst [])) ?_
  rintro e w45 ⟨rfl, hst46⟩
  refine ⟨_, rfl, ?_⟩
  have hst := hst.join (idx := []) (rest := [0]) rfl hst46
  refine OW.pure 5 [(6, .string r43.1), (7, .int .i64 r43.2)] (by kernel_rfl) ?_
  refine OW.nil rfl ?_
  refine QW.next ?_
  refine CW.seq ?_
  refine CW.seq ?_
  obtain ⟨o53, ho54, hF⟩ := bind_some' hF
  refine CW.cutK (fun a w1 => Rep 74 [(0, .slice a2 (p0).length c3), (41, .bool o53)] a ∧ St w (fp []) w1 []) ?_ ?_
  ·refine CW.region ?_
   refine OW.pure 4 [(31, .bool (sNe r35.1 r43.1))] (by kernel_rfl) ?_
   refine OW.split 31 rfl (fun hc55 => ?_) (fun hc55 => ?_)
   ·have ho54 := ite_t ho54 hc55
    refine OW.pure 10 [(41, .bool true)] (by kernel_rfl) ?_
    refine OW.nil rfl ?_
    obtain rfl := Option.some.inj ho54
    exact QW.meet (fun a ha => ⟨ha.agrees (by kernel_rfl), hst.keep [] rfl⟩)
   ·have ho54 := ite_f ho54 hc55
    refine OW.pure 5 [(36, .bool (r35.2 != r43.2))] (by kernel_rfl) ?_
    refine OW.split 36 rfl (fun hc56 => ?_) (fun hc56 => ?_)
    ·have ho54 := ite_t ho54 hc56
     refine OW.pure 5 [(41, .bool true)] (by kernel_rfl) ?_
     refine OW.nil rfl ?_
     obtain rfl := Option.some.inj ho54
     exact QW.meet (fun a ha => ⟨ha.agrees (by kernel_rfl), hst.keep [] rfl⟩)
    ·have ho54 := ite_f ho54 hc56
     refine OW.pure 2 [(37, .slice a29 ((([] : List api_Inst) ++ p0)).length c30), (38, .slice a2 (p0).length c3)] (by kernel_rfl) ?_
     obtain ⟨r57, hr58, ho54⟩ := bind_some' ho54
     refine OW.fn rfl rfl rfl rfl (by kernel_rfl) (tappetlaw03_alike_ok _ (.slice a29 ((([] : List api_Inst) ++ p0)).length c30) (([] : List api_Inst) ++ p0) (.slice a2 (p0).length c3) p0 r57 hr58 (hst.part [] rfl) (hst.rd 0 rfl (fun _ => rfl) [] rfl (hst.len 0 rfl).1) (h0.give hst [])) ?_
     rintro e w59 ⟨rfl, hst60⟩
     refine ⟨_, rfl, ?_⟩
     have hst := hst.join (idx := []) (rest := [0]) rfl hst60
     refine OW.pure 2 [(41, .bool (!r57))] (by kernel_rfl) ?_
     refine OW.nil rfl ?_
     obtain rfl := Option.some.inj ho54
     exact QW.meet (fun a ha => ⟨ha.agrees (by kernel_rfl), hst.keep [] rfl⟩)
  ·rintro a w1 ⟨ha, hst⟩
   refine CW.go ?_ ha
   rcases Bool.eq_false_or_eq_true (o53) with hc61 | hc61
   ·have hF := ite_t hF hc61
    refine CW.cond_t rfl hc61 ?_
    refine CW.seq ?_
    refine CW.region ?_
    refine OW.pure 1 [(2, .bool false)] (by kernel_rfl) ?_
    refine OW.nil rfl ?_
    refine QW.next ?_
    refine CW.ret ?_
    refine QW.then_ret ?_
    obtain rfl := Option.some.inj hF
    refine QW.ret1 rfl rfl ?_
    exact ⟨rfl, hst.keep [] rfl⟩
   ·have hF := ite_f hF hc61
    refine CW.cond_f rfl hc61 ?_
    refine CW.skip ?_
    refine QW.next ?_
    refine CW.seq ?_
    refine CW.seq ?_
    refine CW.region ?_
    refine OW.pure 1 [(8, .int .i64 0)] (by kernel_rfl) ?_
    refine OW.nil rfl ?_
    refine QW.next ?_
    obtain ⟨o191, ho192, hF⟩ := bind_some' hF
    refine CW.cutK (fun a w1 => ∃ (t193 : Unit), o191 = .inl t193 ∧ Rep 74 [] a ∧ St w (fp []) w1 []) ?_ ?_
    ·refine CW.block ?_
     refine CW.loop (fun n a w1 => ∃ (i280 : Nat) (s279 : Unit), i280 + n = (p0).length ∧ Rep 74 [(0, .slice a2 (p0).length c3), (8, .int .i64 (i280 : Int))] a ∧ St w (fp []) w1 [] ∧ forN (tappetlaw03_LinesPrints_l1 fu p0) (fun (s279 : Unit) => (.inl ())) n i280 s279 = some o191) (p0).length (fun a ha => ⟨0, (), Nat.zero_add _, ha.agrees (by kernel_rfl), hst.keep [] rfl, ho192⟩) ?_
     rintro n277 a w1 ⟨i280, s279, hi281, ha, hst, hl278⟩
     refine CW.go ?_ ha
     refine CW.seq ?_
     refine CW.seq ?_
     refine CW.region ?_
     refine OW.pure 4 [(45, .bool (decide ((i280 : Int) < ((p0).length : Int))))] (by kernel_rfl) ?_
     refine OW.nil rfl ?_
     refine QW.next ?_
     rcases Bool.eq_false_or_eq_true (decide ((i280 : Int) < ((p0).length : Int))) with hc282 | hc282
     ·rcases n277 with _ | n277
      ·exact (cnt0 hi281 hc282).elim
      refine CW.cond_t rfl hc282 ?_
      refine CW.skip ?_
      refine QW.next ?_
      refine CW.seq ?_
      refine CW.block ?_
      refine CW.seq ?_
      refine CW.region ?_
      refine OW.pure 2 [(49, .slice a2 (p0).length c3), (50, .int .i64 (i280 : Int))] (by kernel_rfl) ?_
      obtain ⟨x295, hx296, hl278⟩ := bind_some' hl278
      obtain ⟨g298, o299, c300, hv297⟩ := h0.formv (fun _ => ⟨_, rfl⟩) hx296
      refine OW.idx 32 5 rfl rfl rfl rfl hv297 rfl (idx_some hx296).1 (idx_some hx296).2.1 (by kernel_rfl) (by kernel_rfl) ?_
      refine OW.ldN (cs := enc_api_Inst x295) rfl rfl rfl rfl (by kernel_rfl) (by kernel_rfl) (h0.cellv hst hx296 hv297) ?_
      refine OW.row (α := api_Inst) (e := 32) (enc := enc_api_Inst) (sz := 5) hst rfl rfl rfl [x295] rfl (fun _ => rfl) rfl rfl (fun _ => by kernel_rfl) ?_
      intro g301 w302 hst
      obtain ⟨r303, hr304, hl278⟩ := bind_some' hl278
      refine OW.fn rfl rfl rfl rfl (by kernel_rfl) (lines_Print_ok _ fu (.slice (some ⟨g301, 0, none⟩) 1 1) ([x295]) r303 hr304 (hst.part [] rfl) (hst.rd 0 rfl (fun _ => rfl) [] rfl (hst.len 0 rfl).1) (hT0.give hst []) (hTL.give hst [])) ?_
      rintro e w305 ⟨rfl, hst306⟩
      refine ⟨_, rfl, ?_⟩
      have hst := hst.join (idx := []) (rest := [0]) rfl hst306
      refine OW.pure 5 [(9, .string r303.1), (10, .int .i64 r303.2)] (by kernel_rfl) ?_
      refine OW.nil rfl ?_
      refine QW.next ?_
      refine CW.seq ?_
      refine CW.region ?_
      refine OW.pure 4 [(58, .slice a2 (p0).length c3), (59, .int .i64 (i280 : Int)), (61, .int .i64 (w64 ((i280 : Int) + 1)))] (by kernel_rfl) ?_
      obtain ⟨ys314, hcut315, hl278⟩ := bind_some' hl278
      refine OW.op (v := .slice (shd a2 c3 (Int.toNat (i280 : Int)) 5) (ys314).length (c3 - Int.toNat (i280 : Int))) rfl rfl rfl rfl (fun a ha => sub_run (e := 32) 5 rfl rfl rfl rfl hcut315 h0.cap (by kernel_rfl) (by kernel_rfl) a _ ha) ?_
      have hp316 := h0.part hcut315
      obtain ⟨r317, hr318, hl278⟩ := bind_some' hl278
      refine OW.fn rfl rfl rfl rfl (by kernel_rfl) (tappetref03_Print_ok _ fu (.slice (shd a2 c3 (Int.toNat (i280 : Int)) 5) (ys314).length (c3 - Int.toNat (i280 : Int))) ys314 r317 hr318 (hst.part [] rfl) (hp316.give hst [])) ?_
      rintro e w319 ⟨rfl, hst320⟩
      refine ⟨_, rfl, ?_⟩
      have hst := hst.join (idx := []) (rest := [0]) rfl hst320
      refine OW.pure 5 [(11, .string r317.1), (12, .int .i64 r317.2)] (by kernel_rfl) ?_
      refine OW.nil rfl ?_
      refine QW.next ?_
      refine CW.seq ?_
      refine CW.cutK (fun a w1 => Rep 74 [(0, .slice a2 (p0).length c3), (8, .int .i64 (i280 : Int)), (73, .bool (sNe r303.1 r317.1 || (r303.2 != r317.2)))] a ∧ St w (fp []) w1 []) ?_ ?_
      ·refine CW.region ?_
       refine OW.pure 4 [(69, .bool (sNe r303.1 r317.1))] (by kernel_rfl) ?_
       refine OW.split 69 rfl (fun hc321 => ?_) (fun hc321 => ?_)
       ·refine OW.pure 4 [(73, .bool true)] (by kernel_rfl) ?_
        refine OW.nil rfl ?_
        refine QW.say 73 (v := .bool (sNe r303.1 r317.1 || (r303.2 != r317.2))) rfl (by first | (rw [hc321]; done) | (rw [hc321]; rfl) | simp [hc321]) ?_
        exact QW.meet (fun a ha => ⟨ha.agrees (by kernel_rfl), hst.keep [] rfl⟩)
       ·refine OW.pure 4 [(73, .bool (r303.2 != r317.2))] (by kernel_rfl) ?_
        refine OW.nil rfl ?_
        refine QW.say 73 (v := .bool (sNe r303.1 r317.1 || (r303.2 != r317.2))) rfl (by first | (rw [hc321]; done) | (rw [hc321]; rfl) | simp [hc321]) ?_
        exact QW.meet (fun a ha => ⟨ha.agrees (by kernel_rfl), hst.keep [] rfl⟩)
      ·rintro a w1 ⟨ha, hst⟩
       refine CW.go ?_ ha
       rcases Bool.eq_false_or_eq_true ((sNe r303.1 r317.1 || (r303.2 != r317.2))) with hc322 | hc322
       ·have hl278 := ite_t hl278 hc322
        refine CW.cond_t rfl hc322 ?_
        refine CW.seq ?_
        refine CW.region ?_
        refine OW.pure 1 [(2, .bool false)] (by kernel_rfl) ?_
        refine OW.nil rfl ?_
        refine QW.next ?_
        refine CW.ret ?_
        refine QW.block_ret ?_
        refine QW.then_ret ?_
        refine QW.then_ret ?_
        refine QW.block_ret ?_
        refine QW.then_ret ?_
        obtain rfl := Option.some.inj hl278
        obtain rfl := Option.some.inj hF
        refine QW.ret1 rfl rfl ?_
        exact ⟨rfl, hst.keep [] rfl⟩
       ·have hl278 := ite_f hl278 hc322
        refine CW.cond_f rfl hc322 ?_
        refine CW.skip ?_
        refine QW.block_normal ?_
        refine QW.next ?_
        refine CW.region ?_
        refine OW.pure 3 [(8, .int .i64 (w64 ((i280 : Int) + 1)))] (by kernel_rfl) ?_
        refine OW.nil rfl ?_
        refine QW.say 8 rfl (congrArg (Value.int .i64) (w64_cnt hc282 l1)) ?_
        exact QW.meet (fun a ha => ⟨n277, Nat.lt_succ_self _, i280 + 1, (), cnt_next hi281, ha.agrees (by kernel_rfl), hst.keep [] rfl, hl278⟩)
     ·rcases n277 with _ | n277
      ·refine CW.cond_f rfl hc282 ?_
       refine CW.exit ?_
       refine QW.then_exit ?_
       refine QW.then_exit ?_
       refine QW.block_here ?_
       obtain rfl := Option.some.inj hl278
       exact QW.meet (fun a ha => ⟨(), rfl, ha.agrees (by kernel_rfl), hst.keep [] rfl⟩)
      ·exact (cnt1 hi281 hc282).elim
    ·rintro a w1 ⟨t193, rfl, ha, hst⟩
     refine CW.go ?_ ha
     refine CW.seq ?_
     refine CW.region ?_
     refine OW.pure 1 [(2, .bool true)] (by kernel_rfl) ?_
     refine OW.nil rfl ?_
     refine QW.next ?_
     refine CW.ret ?_
     obtain rfl := Option.some.inj hF
     refine QW.ret1 rfl rfl ?_
     exact ⟨rfl, hst.keep [] rfl⟩


end Go.Proofs.YteaedkohbgediaaDoor

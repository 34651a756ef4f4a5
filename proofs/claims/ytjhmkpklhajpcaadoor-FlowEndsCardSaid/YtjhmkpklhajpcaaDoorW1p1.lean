/- Written by a program (wip/gen): the walks: each Go function returns what its plain function computes. -/
import Derived.Test.YtjhmkpklhajpcaaDoorProg
import Derived.Test.YtjhmkpklhajpcaaDoorF1
import Derived.Test.YtjhmkpklhajpcaaDoorExt
import Derived.Test.YtjhmkpklhajpcaaDoorSh
namespace Go.Proofs.YtjhmkpklhajpcaaDoor
open Go.Sx
set_option linter.unusedVariables false

theorem el40 : Elem Tryd.prog 40 3 24 := Elem.of (i := Tryd.t40) (by kernel_rfl) (by kernel_rfl) (by kernel_rfl) (by kernel_rfl) (by kernel_rfl) (by decide) (by decide)

theorem el32 : Elem Tryd.prog 32 5 40 := Elem.of (i := Tryd.t32) (by kernel_rfl) (by kernel_rfl) (by kernel_rfl) (by kernel_rfl) (by kernel_rfl) (by decide) (by decide)

theorem el41 : Elem Tryd.prog 41 1 24 := Elem.of (i := Tryd.t41) (by kernel_rfl) (by kernel_rfl) (by kernel_rfl) (by kernel_rfl) (by kernel_rfl) (by decide) (by decide)

theorem el3 : Elem Tryd.prog 3 1 8 := Elem.of (i := Tryd.t3) (by kernel_rfl) (by kernel_rfl) (by kernel_rfl) (by kernel_rfl) (by kernel_rfl) (by decide) (by decide)

set_option maxRecDepth 10000 in
theorem tappetlaw07_loop_ok (w : World)  (r : (List api_Inst)) (hF : tappetlaw07_loop  = some r)
    (hst : St w (fp []) w []) :
    Calls Tryd.prog 21 [].toArray w (fun e w' => ∃ (x0 : Value), e = .returned (x0) ∧ St w (fp []) w' [rowI x0 32 enc_api_Inst 5 r]) := by
  refine CW.start (N := 6) Tryd.func21 rfl rfl rfl ?_
  refine CW.seq ?_
  refine CW.region ?_
  refine OW.pure 1 [] (by kernel_rfl) ?_
  refine OW.nil rfl ?_
  refine QW.next ?_
  refine CW.seq ?_
  refine CW.region ?_
  refine OW.pure 4 [(1, .agg [.int .i64 0, .int .i64 1, .int .i64 0, .int .i64 8, .int .i64 9].toArray), (2, .agg [.int .i64 2, .int .i64 1, .int .i64 1, .int .i64 8, .int .i64 1].toArray), (3, .agg [.int .i64 20, .int .i64 1, .int .i64 1, .int .i64 0, .int .i64 5].toArray), (4, .agg [.int .i64 22, .int .i64 0, .int .i64 1, .int .i64 0, .int .i64 0].toArray)] (by kernel_rfl) ?_
  refine OW.row (α := api_Inst) (e := 32) (enc := enc_api_Inst) (sz := 5) hst rfl rfl rfl [(api_Inst.mk 0 1 0 8 9), (api_Inst.mk 2 1 1 8 1), (api_Inst.mk 20 1 1 0 5), (api_Inst.mk 22 0 1 0 0)] rfl (fun _ => rfl) rfl rfl (fun _ => by kernel_rfl) ?_
  intro g3 w4 hst
  refine OW.pure 1 [(0, .slice (some ⟨g3, 0, none⟩) 4 4)] (by kernel_rfl) ?_
  refine OW.nil rfl ?_
  refine QW.next ?_
  refine CW.ret ?_
  obtain rfl := Option.some.inj hF
  refine QW.ret1 rfl rfl ?_
  exact ⟨(.slice (some ⟨g3, 0, none⟩) 4 4), rfl, hst.keep [0] rfl⟩

set_option maxRecDepth 10000 in
theorem ops_of_ok (w : World) (p0 : Int) (r : ops_form × Bool) (hF : ops_of p0 = some r)
    (hst : St w (fp []) w []) (hT0 : Rd w (fp []) (.slice (some ⟨0, 0, none⟩) 23 23) enc_ops_form 2 tab_g0) :
    Calls Tryd.prog 44 [.int .i64 p0].toArray w (fun e w' => e = .returned (.tuple #[.agg [.string r.1.name, .string r.1.fields].toArray, .bool r.2]) ∧ St w (fp []) w' []) := by
  refine CW.start (N := 14) Tryd.func44 rfl rfl rfl ?_
  refine CW.seq ?_
  refine CW.region ?_
  refine OW.alloc hst rfl rfl rfl [.string ByteArray.empty, .string ByteArray.empty] (by kernel_rfl) ?_
  intro b3 w4 hst
  refine OW.pure 1 [] (by kernel_rfl) ?_
  refine OW.nil rfl ?_
  refine QW.next ?_
  refine CW.seq ?_
  refine CW.seq ?_
  refine CW.cutK (fun a w1 => Rep 14 [(0, .int .i64 p0), (2, .pointer (some ⟨b3, 0, none⟩)), (9, .bool (decide (p0 < 0) || decide (p0 ≥ 23)))] a ∧ St w (fp []) w1 [blkI b3 68 [.string ByteArray.empty, .string ByteArray.empty]]) ?_ ?_
  · refine CW.region ?_
    refine OW.pure 3 [(6, .bool (decide (p0 < 0)))] (by kernel_rfl) ?_
    refine OW.split 6 rfl (fun hc5 => ?_) (fun hc5 => ?_)
    · refine OW.pure 3 [(9, .bool true)] (by kernel_rfl) ?_
      refine OW.nil rfl ?_
      refine QW.say 9 (v := .bool (decide (p0 < 0) || decide (p0 ≥ 23))) rfl (by first | (rw [hc5]; done) | (rw [hc5]; rfl) | simp [hc5]) ?_
      exact QW.meet (fun a ha => ⟨ha.agrees (by kernel_rfl), hst.keep [0] rfl⟩)
    · refine OW.pure 3 [(9, .bool (decide (p0 ≥ 23)))] (by kernel_rfl) ?_
      refine OW.nil rfl ?_
      refine QW.say 9 (v := .bool (decide (p0 < 0) || decide (p0 ≥ 23))) rfl (by first | (rw [hc5]; done) | (rw [hc5]; rfl) | simp [hc5]) ?_
      exact QW.meet (fun a ha => ⟨ha.agrees (by kernel_rfl), hst.keep [0] rfl⟩)
  · rintro a w1 ⟨ha, hst⟩
    refine CW.go ?_ ha
    rcases Bool.eq_false_or_eq_true ((decide (p0 < 0) || decide (p0 ≥ 23))) with hc6 | hc6
    · have hF := ite_t hF hc6
      refine CW.cond_t rfl hc6 ?_
      refine CW.seq ?_
      refine CW.region ?_
      refine OW.pure 1 [(10, .agg [.string ByteArray.empty, .string ByteArray.empty].toArray)] (by kernel_rfl) ?_
      refine OW.stB hst 0 rfl rfl rfl rfl rfl (by kernel_rfl) rfl rfl [.string ByteArray.empty, .string ByteArray.empty] rfl ?_
      intro w8 hst
      refine OW.pure 1 [(3, .bool false)] (by kernel_rfl) ?_
      refine OW.nil rfl ?_
      refine QW.next ?_
      refine CW.ret ?_
      refine QW.then_ret ?_
      obtain rfl := Option.some.inj hF
      refine QW.ret_ct rfl rfl (run_loadN (cs := [.string ByteArray.empty, .string ByteArray.empty]) (by kernel_rfl) (by kernel_rfl) (hst.blkN 0 rfl 0 2)) rfl ?_
      exact ⟨rfl, hst.keep [] rfl⟩
    · have hF := ite_f hF hc6
      refine CW.cond_f rfl hc6 ?_
      refine CW.skip ?_
      refine QW.next ?_
      refine CW.seq ?_
      refine CW.region ?_
      refine OW.pure 1 [(11, .int .i64 p0)] (by kernel_rfl) ?_
      obtain ⟨x12, hx13, hF⟩ := bind_some' hF
      refine OW.op (v := .pointer (some ⟨0, 0 + Int.toNat p0 * 2, none⟩)) rfl rfl rfl rfl (fun a ha => aidx_run (n := tab_g0.length) 68 2 rfl rfl rfl (idx_some hx13).1 (idx_some hx13).2.1 (by kernel_rfl) (by kernel_rfl) a _ ha) ?_
      refine OW.ldN (cs := enc_ops_form x12) rfl rfl rfl rfl (by kernel_rfl) (by kernel_rfl) (hT0.cellv hst hx13 (show Value.slice (some ⟨0, 0, none⟩) 23 23 = .slice (some ⟨0, 0, none⟩) tab_g0.length 23 from rfl)) ?_
      refine OW.stB hst 0 rfl rfl rfl rfl rfl (by kernel_rfl) rfl rfl [.string x12.name, .string x12.fields] rfl ?_
      intro w14 hst
      refine OW.pure 1 [(3, .bool true)] (by kernel_rfl) ?_
      refine OW.nil rfl ?_
      refine QW.next ?_
      refine CW.ret ?_
      obtain rfl := Option.some.inj hF
      refine QW.ret_ct rfl rfl (run_loadN (cs := [.string x12.name, .string x12.fields]) (by kernel_rfl) (by kernel_rfl) (hst.blkN 0 rfl 0 2)) rfl ?_
      exact ⟨rfl, hst.keep [] rfl⟩

set_option maxRecDepth 10000 in
theorem ops_register_ok (w : World) (p0 : Int) (r : Bool) (hF : ops_register p0 = some r)
    (hst : St w (fp []) w []) :
    Calls Tryd.prog 48 [.int .i64 p0].toArray w (fun e w' => e = .returned (.bool r) ∧ St w (fp []) w' []) := by
  refine CW.start (N := 9) Tryd.func48 rfl rfl rfl ?_
  refine CW.seq ?_
  refine CW.region ?_
  refine OW.pure 1 [] (by kernel_rfl) ?_
  refine OW.nil rfl ?_
  refine QW.next ?_
  refine CW.seq ?_
  refine CW.cutK (fun a w1 => Rep 9 [(2, .bool (decide (p0 ≥ 0) && decide (p0 < 8)))] a ∧ St w (fp []) w1 []) ?_ ?_
  · refine CW.region ?_
    refine OW.pure 3 [(5, .bool (decide (p0 ≥ 0)))] (by kernel_rfl) ?_
    refine OW.split 5 rfl (fun hc1 => ?_) (fun hc1 => ?_)
    · refine OW.pure 4 [(2, .bool (decide (p0 < 8)))] (by kernel_rfl) ?_
      refine OW.nil rfl ?_
      refine QW.say 2 (v := .bool (decide (p0 ≥ 0) && decide (p0 < 8))) rfl (by first | (rw [hc1]; done) | (rw [hc1]; rfl) | simp [hc1]) ?_
      exact QW.meet (fun a ha => ⟨ha.agrees (by kernel_rfl), hst.keep [] rfl⟩)
    · refine OW.pure 4 [(2, .bool false)] (by kernel_rfl) ?_
      refine OW.nil rfl ?_
      refine QW.say 2 (v := .bool (decide (p0 ≥ 0) && decide (p0 < 8))) rfl (by first | (rw [hc1]; done) | (rw [hc1]; rfl) | simp [hc1]) ?_
      exact QW.meet (fun a ha => ⟨ha.agrees (by kernel_rfl), hst.keep [] rfl⟩)
  · rintro a w1 ⟨ha, hst⟩
    refine CW.go ?_ ha
    refine CW.ret ?_
    obtain rfl := Option.some.inj hF
    refine QW.ret1 rfl rfl ?_
    exact ⟨rfl, hst.keep [] rfl⟩

set_option maxRecDepth 10000 in
theorem ops_within_ok (w : World) (p0 : Int) (p1 : Int) (p2 : Int) (r : Bool) (hF : ops_within p0 p1 p2 = some r)
    (hst : St w (fp []) w []) :
    Calls Tryd.prog 49 [.int .i64 p0, .int .i64 p1, .int .i64 p2].toArray w (fun e w' => e = .returned (.bool r) ∧ St w (fp []) w' []) := by
  refine CW.start (N := 15) Tryd.func49 rfl rfl rfl ?_
  refine CW.seq ?_
  refine CW.region ?_
  refine OW.pure 1 [] (by kernel_rfl) ?_
  refine OW.nil rfl ?_
  refine QW.next ?_
  refine CW.seq ?_
  refine CW.cutK (fun a w1 => Rep 15 [(6, .bool (decide (p0 ≥ p1) && decide (p0 ≤ p2)))] a ∧ St w (fp []) w1 []) ?_ ?_
  · refine CW.region ?_
    refine OW.pure 4 [(10, .bool (decide (p0 ≥ p1)))] (by kernel_rfl) ?_
    refine OW.split 10 rfl (fun hc1 => ?_) (fun hc1 => ?_)
    · refine OW.pure 5 [(6, .bool (decide (p0 ≤ p2)))] (by kernel_rfl) ?_
      refine OW.nil rfl ?_
      refine QW.say 6 (v := .bool (decide (p0 ≥ p1) && decide (p0 ≤ p2))) rfl (by first | (rw [hc1]; done) | (rw [hc1]; rfl) | simp [hc1]) ?_
      exact QW.meet (fun a ha => ⟨ha.agrees (by kernel_rfl), hst.keep [] rfl⟩)
    · refine OW.pure 5 [(6, .bool false)] (by kernel_rfl) ?_
      refine OW.nil rfl ?_
      refine QW.say 6 (v := .bool (decide (p0 ≥ p1) && decide (p0 ≤ p2))) rfl (by first | (rw [hc1]; done) | (rw [hc1]; rfl) | simp [hc1]) ?_
      exact QW.meet (fun a ha => ⟨ha.agrees (by kernel_rfl), hst.keep [] rfl⟩)
  · rintro a w1 ⟨ha, hst⟩
    refine CW.go ?_ ha
    refine CW.ret ?_
    obtain rfl := Option.some.inj hF
    refine QW.ret1 rfl rfl ?_
    exact ⟨rfl, hst.keep [] rfl⟩

set_option maxRecDepth 10000 in
theorem ops_right_ok (w : World) (p0 : api_Inst) (r : Bool) (hF : ops_right p0 = some r)
    (hst : St w (fp []) w []) (hT0 : Rd w (fp []) (.slice (some ⟨0, 0, none⟩) 23 23) enc_ops_form 2 tab_g0) :
    Calls Tryd.prog 43 [.agg [.int .i64 p0.Op, .int .i64 p0.D, .int .i64 p0.A, .int .i64 p0.B, .int .i64 p0.Imm].toArray].toArray w (fun e w' => e = .returned (.bool r) ∧ St w (fp []) w' []) := by
  refine CW.start (N := 129) Tryd.func43 rfl rfl rfl ?_
  refine CW.seq ?_
  refine CW.region ?_
  refine OW.box hst rfl rfl rfl rfl [.int .i64 p0.Op, .int .i64 p0.D, .int .i64 p0.A, .int .i64 p0.B, .int .i64 p0.Imm] rfl ?_
  intro b3 w4 hst
  refine OW.pure 1 [] (by kernel_rfl) ?_
  refine OW.nil rfl ?_
  refine QW.next ?_
  refine CW.seq ?_
  refine CW.region ?_
  refine OW.pure 1 [(8, .pointer (some ⟨b3, 0, none⟩))] (by kernel_rfl) ?_
  refine OW.ld rfl rfl rfl rfl (by kernel_rfl) (hst.blk 0 rfl rfl) ?_
  obtain ⟨r12, hr13, hF⟩ := bind_some' hF
  refine OW.fn rfl rfl rfl rfl (by kernel_rfl) (ops_of_ok _ p0.Op r12 hr13 (hst.part [] rfl) (hT0.give hst [])) ?_
  rintro e w14 ⟨rfl, hst15⟩
  refine ⟨_, rfl, ?_⟩
  have hst := hst.join (idx := []) (rest := [0]) rfl hst15
  refine OW.pure 3 [(11, .agg [.string r12.1.name, .string r12.1.fields].toArray), (12, .bool r12.2)] (by kernel_rfl) ?_
  refine OW.alloc hst rfl rfl rfl [.string ByteArray.empty, .string ByteArray.empty] (by kernel_rfl) ?_
  intro b16 w17 hst
  refine OW.stB hst 1 rfl rfl rfl rfl rfl (by kernel_rfl) rfl rfl [.string r12.1.name, .string r12.1.fields] rfl ?_
  intro w18 hst
  refine OW.pure 1 [(4, .bool r12.2)] (by kernel_rfl) ?_
  refine OW.nil rfl ?_
  refine QW.next ?_
  refine CW.seq ?_
  refine CW.seq ?_
  refine CW.region ?_
  refine OW.pure 2 [(14, .bool (!r12.2))] (by kernel_rfl) ?_
  refine OW.nil rfl ?_
  refine QW.next ?_
  rcases Bool.eq_false_or_eq_true ((!r12.2)) with hc19 | hc19
  · have hF := ite_t hF hc19
    refine CW.cond_t rfl hc19 ?_
    refine CW.seq ?_
    refine CW.region ?_
    refine OW.pure 1 [(2, .bool false)] (by kernel_rfl) ?_
    refine OW.nil rfl ?_
    refine QW.next ?_
    refine CW.ret ?_
    refine QW.then_ret ?_
    obtain rfl := Option.some.inj hF
    refine QW.ret1 rfl rfl ?_
    exact ⟨rfl, hst.keep [] rfl⟩
  · have hF := ite_f hF hc19
    refine CW.cond_f rfl hc19 ?_
    refine CW.skip ?_
    refine QW.next ?_
    refine CW.seq ?_
    refine CW.region ?_
    refine OW.alloc hst rfl rfl rfl [.int .i64 0, .int .i64 0, .int .i64 0, .int .i64 0, .int .i64 0] (by kernel_rfl) ?_
    intro b22 w23 hst
    refine OW.nil rfl ?_
    refine QW.next ?_
    refine CW.seq ?_
    refine CW.plan (by kernel_rfl) ?_
    intro w30 hch31
    have hst := hst.same hch31
    refine OA.pure [0] [(15, .pointer (some ⟨b3, 1, none⟩))] (by kernel_rfl) ?_
    refine OA.ld (i := 1) rfl (by kernel_rfl) rfl rfl rfl (by kernel_rfl) (hst.blk 0 rfl rfl) ?_
    refine OA.pure [2] [(17, .pointer (some ⟨b3, 2, none⟩))] (by kernel_rfl) ?_
    refine OA.ld (i := 3) rfl (by kernel_rfl) rfl rfl rfl (by kernel_rfl) (hst.blk 0 rfl rfl) ?_
    refine OA.pure [4] [(19, .pointer (some ⟨b3, 3, none⟩))] (by kernel_rfl) ?_
    refine OA.ld (i := 5) rfl (by kernel_rfl) rfl rfl rfl (by kernel_rfl) (hst.blk 0 rfl rfl) ?_
    refine OA.pure [6] [(21, .pointer (some ⟨b3, 4, none⟩))] (by kernel_rfl) ?_
    refine OA.ld (i := 7) rfl (by kernel_rfl) rfl rfl rfl (by kernel_rfl) (hst.blk 0 rfl rfl) ?_
    refine OA.pure [8] [(23, .pointer (some ⟨b22, 1, none⟩))] (by kernel_rfl) ?_
    refine OA.act (i := 9) [7, 5, 3] (by kernel_rfl) rfl rfl (by kernel_rfl) (by kernel_rfl) ?_
    refine OW.stB hst 2 rfl rfl rfl rfl rfl (by kernel_rfl) rfl rfl [.int .i64 0, .int .i64 p0.D, .int .i64 0, .int .i64 0, .int .i64 0] rfl ?_
    intro w32 hst
    refine OA.next ⟨(hst.blk 0 rfl rfl), (hst.blk 0 rfl rfl), (hst.blk 0 rfl rfl), trivial⟩ ?_
    refine OA.pure [10] [(24, .pointer (some ⟨b22, 2, none⟩))] (by kernel_rfl) ?_
    refine OA.act (i := 11) [7, 5] (by kernel_rfl) rfl rfl (by kernel_rfl) (by kernel_rfl) ?_
    refine OW.stB hst 2 rfl rfl rfl rfl rfl (by kernel_rfl) rfl rfl [.int .i64 0, .int .i64 p0.D, .int .i64 p0.A, .int .i64 0, .int .i64 0] rfl ?_
    intro w33 hst
    refine OA.next ⟨(hst.blk 0 rfl rfl), (hst.blk 0 rfl rfl), trivial⟩ ?_
    refine OA.pure [12] [(25, .pointer (some ⟨b22, 3, none⟩))] (by kernel_rfl) ?_
    refine OA.act (i := 13) [7] (by kernel_rfl) rfl rfl (by kernel_rfl) (by kernel_rfl) ?_
    refine OW.stB hst 2 rfl rfl rfl rfl rfl (by kernel_rfl) rfl rfl [.int .i64 0, .int .i64 p0.D, .int .i64 p0.A, .int .i64 p0.B, .int .i64 0] rfl ?_
    intro w34 hst
    refine OA.next ⟨(hst.blk 0 rfl rfl), trivial⟩ ?_
    refine OA.pure [14] [(26, .pointer (some ⟨b22, 4, none⟩))] (by kernel_rfl) ?_
    refine OA.act (i := 15) [] (by kernel_rfl) rfl rfl (by kernel_rfl) (by kernel_rfl) ?_
    refine OW.stB hst 2 rfl rfl rfl rfl rfl (by kernel_rfl) rfl rfl [.int .i64 0, .int .i64 p0.D, .int .i64 p0.A, .int .i64 p0.B, .int .i64 p0.Imm] rfl ?_
    intro w35 hst
    refine OA.next trivial ?_
    refine OA.fin (by kernel_rfl) (by kernel_rfl) ?_
    refine QW.next ?_
    refine CW.seq ?_
    refine CW.seq ?_
    refine CW.region ?_
    refine OW.pure 1 [(27, .pointer (some ⟨b16, 1, none⟩))] (by kernel_rfl) ?_
    refine OW.ld rfl rfl rfl rfl (by kernel_rfl) (hst.blk 1 rfl rfl) ?_
    refine OW.pure 2 [(29, .int .i64 (r12.1.fields.size : Int)), (30, .int .i64 0)] (by kernel_rfl) ?_
    refine OW.nil rfl ?_
    refine QW.next ?_
    obtain ⟨o364, ho365, hF⟩ := bind_some' hF
    refine CW.cutK (fun a w1 => Rep 129 [(4, .bool o364.1), (5, .pointer (some ⟨b22, 0, none⟩))] a ∧ St w (fp []) w1 [blkI b22 32 [.int .i64 o364.2.Op, .int .i64 o364.2.D, .int .i64 o364.2.A, .int .i64 o364.2.B, .int .i64 o364.2.Imm]]) ?_ ?_
    · refine CW.block ?_
      obtain ⟨u612, hr613, ho365⟩ := bind_some' ho365
      refine CW.loop (fun n a w1 => ∃ (i610 : Nat) (s609 : Bool × api_Inst), i610 + n = r12.1.fields.size ∧ Rep 129 [(1, .pointer (some ⟨b3, 0, none⟩)), (3, .pointer (some ⟨b16, 0, none⟩)), (4, .bool s609.1), (5, .pointer (some ⟨b22, 0, none⟩)), (29, .int .i64 (r12.1.fields.size : Int)), (30, .int .i64 (i610 : Int))] a ∧ St w (fp []) w1 [blkI b3 32 [.int .i64 p0.Op, .int .i64 p0.D, .int .i64 p0.A, .int .i64 p0.B, .int .i64 p0.Imm], blkI b16 68 [.string r12.1.name, .string r12.1.fields], blkI b22 32 [.int .i64 s609.2.Op, .int .i64 s609.2.D, .int .i64 s609.2.A, .int .i64 s609.2.B, .int .i64 s609.2.Imm]] ∧ forN (ops_right_l1 p0 r12) (fun (s609 : Bool × api_Inst) => (s609.1, s609.2)) n i610 s609 = some o364) r12.1.fields.size (fun a ha => ⟨0, (r12.2, (api_Inst.mk 0 p0.D p0.A p0.B p0.Imm)), Nat.zero_add _, ha.agrees (by kernel_rfl), hst.keep [0, 1, 2] rfl, ho365⟩) ?_
      rintro n607 a w1 ⟨i610, s609, hi611, ha, hst, hl608⟩
      refine CW.go ?_ ha
      refine CW.seq ?_
      refine CW.region ?_
      refine OW.pure 1 [(31, .bool (decide ((i610 : Int) < (r12.1.fields.size : Int))))] (by kernel_rfl) ?_
      refine OW.nil rfl ?_
      refine QW.next ?_
      refine CW.seq ?_
      rcases Bool.eq_false_or_eq_true (decide ((i610 : Int) < (r12.1.fields.size : Int))) with hc614 | hc614
      · rcases n607 with _ | n607
        · exact (cnt0 hi611 hc614).elim
        refine CW.cond_t rfl hc614 ?_
        refine CW.skip ?_
        refine QW.next ?_
        refine CW.seq ?_
        refine CW.block ?_
        refine CW.seq ?_
        refine CW.region ?_
        refine OW.pure 2 [(6, .int .i64 (i610 : Int))] (by kernel_rfl) ?_
        refine OW.nil rfl ?_
        refine QW.next ?_
        refine CW.seq ?_
        refine CW.region ?_
        refine OW.pure 1 [(33, .pointer (some ⟨b16, 1, none⟩))] (by kernel_rfl) ?_
        refine OW.ld rfl rfl rfl rfl (by kernel_rfl) (hst.blk 1 rfl rfl) ?_
        refine OW.pure 1 [(35, .int .i64 (i610 : Int))] (by kernel_rfl) ?_
        obtain ⟨c617, hx618, hl608⟩ := bind_some' hl608
        refine OW.op (v := .int .u8 c617) rfl rfl rfl rfl (fun a ha => sidx_run rfl rfl rfl (by kernel_rfl) hx618 a _ ha) ?_
        refine OW.nil rfl ?_
        refine QW.next ?_
        refine CW.block ?_
        refine CW.seq ?_
        refine CW.region ?_
        refine OW.pure 2 [(37, .bool (c617 == 100))] (by kernel_rfl) ?_
        refine OW.nil rfl ?_
        refine QW.next ?_
        rcases Bool.eq_false_or_eq_true ((c617 == 100)) with hc619 | hc619
        · have hl608 := ite_t hl608 hc619
          refine CW.cond_t rfl hc619 ?_
          refine CW.region ?_
          refine OW.pure 2 [(40, .bool s609.1)] (by kernel_rfl) ?_
          refine OW.split 40 rfl (fun hc620 => ?_) (fun hc620 => ?_)
          · have hl608 := ite_t hl608 hc620
            refine OW.pure 1 [(41, .pointer (some ⟨b3, 1, none⟩))] (by kernel_rfl) ?_
            refine OW.ld rfl rfl rfl rfl (by kernel_rfl) (hst.blk 0 rfl rfl) ?_
            obtain ⟨r621, hr622, hl608⟩ := bind_some' hl608
            refine OW.fn rfl rfl rfl rfl (by kernel_rfl) (ops_register_ok _ p0.D r621 hr622 (hst.part [] rfl)) ?_
            rintro e w623 ⟨rfl, hst624⟩
            refine ⟨_, rfl, ?_⟩
            have hst := hst.join (idx := []) (rest := [0, 1, 2]) rfl hst624
            refine OW.pure 3 [(4, .bool r621), (45, .pointer (some ⟨b22, 1, none⟩))] (by kernel_rfl) ?_
            refine OW.stB hst 2 rfl rfl rfl rfl rfl (by kernel_rfl) rfl rfl [.int .i64 s609.2.Op, .int .i64 0, .int .i64 s609.2.A, .int .i64 s609.2.B, .int .i64 s609.2.Imm] rfl ?_
            intro w625 hst
            refine OW.nil rfl ?_
            refine QW.block_normal ?_
            refine QW.block_normal ?_
            refine QW.next ?_
            refine CW.region ?_
            refine OW.pure 2 [(30, .int .i64 (w64 ((i610 : Int) + 1)))] (by kernel_rfl) ?_
            refine OW.nil rfl ?_
            refine QW.say 30 rfl (congrArg (Value.int .i64) (w64_cnt hc614 (room_sz hr613))) ?_
            exact QW.meet (fun a ha => ⟨n607, Nat.lt_succ_self _, i610 + 1, (r621, (api_Inst.mk s609.2.Op 0 s609.2.A s609.2.B s609.2.Imm)), cnt_next hi611, ha.agrees (by kernel_rfl), hst.keep [0, 1, 2] rfl, hl608⟩)
          · have hl608 := ite_f hl608 hc620
            refine OW.pure 6 [(4, .bool false), (45, .pointer (some ⟨b22, 1, none⟩))] (by kernel_rfl) ?_
            refine OW.stB hst 2 rfl rfl rfl rfl rfl (by kernel_rfl) rfl rfl [.int .i64 s609.2.Op, .int .i64 0, .int .i64 s609.2.A, .int .i64 s609.2.B, .int .i64 s609.2.Imm] rfl ?_
            intro w626 hst
            refine OW.nil rfl ?_
            refine QW.block_normal ?_
            refine QW.block_normal ?_
            refine QW.next ?_
            refine CW.region ?_
            refine OW.pure 2 [(30, .int .i64 (w64 ((i610 : Int) + 1)))] (by kernel_rfl) ?_
            refine OW.nil rfl ?_
            refine QW.say 30 rfl (congrArg (Value.int .i64) (w64_cnt hc614 (room_sz hr613))) ?_
            exact QW.meet (fun a ha => ⟨n607, Nat.lt_succ_self _, i610 + 1, (false, (api_Inst.mk s609.2.Op 0 s609.2.A s609.2.B s609.2.Imm)), cnt_next hi611, ha.agrees (by kernel_rfl), hst.keep [0, 1, 2] rfl, hl608⟩)
        · have hl608 := ite_f hl608 hc619
          refine CW.cond_f rfl hc619 ?_
          refine CW.seq ?_
          refine CW.region ?_
          refine OW.pure 2 [(46, .bool (c617 == 97))] (by kernel_rfl) ?_
          refine OW.nil rfl ?_
          refine QW.next ?_
          rcases Bool.eq_false_or_eq_true ((c617 == 97)) with hc627 | hc627
          · have hl608 := ite_t hl608 hc627
            refine CW.cond_t rfl hc627 ?_
            refine CW.region ?_
            refine OW.pure 2 [(49, .bool s609.1)] (by kernel_rfl) ?_
            refine OW.split 49 rfl (fun hc628 => ?_) (fun hc628 => ?_)
            · have hl608 := ite_t hl608 hc628
              refine OW.pure 1 [(50, .pointer (some ⟨b3, 2, none⟩))] (by kernel_rfl) ?_
              refine OW.ld rfl rfl rfl rfl (by kernel_rfl) (hst.blk 0 rfl rfl) ?_
              obtain ⟨r629, hr630, hl608⟩ := bind_some' hl608
              refine OW.fn rfl rfl rfl rfl (by kernel_rfl) (ops_register_ok _ p0.A r629 hr630 (hst.part [] rfl)) ?_
              rintro e w631 ⟨rfl, hst632⟩
              refine ⟨_, rfl, ?_⟩
              have hst := hst.join (idx := []) (rest := [0, 1, 2]) rfl hst632
              refine OW.pure 3 [(4, .bool r629), (54, .pointer (some ⟨b22, 2, none⟩))] (by kernel_rfl) ?_
              refine OW.stB hst 2 rfl rfl rfl rfl rfl (by kernel_rfl) rfl rfl [.int .i64 s609.2.Op, .int .i64 s609.2.D, .int .i64 0, .int .i64 s609.2.B, .int .i64 s609.2.Imm] rfl ?_
              intro w633 hst
              refine OW.nil rfl ?_
              refine QW.block_normal ?_
              refine QW.block_normal ?_
              refine QW.next ?_
              refine CW.region ?_
              refine OW.pure 2 [(30, .int .i64 (w64 ((i610 : Int) + 1)))] (by kernel_rfl) ?_
              refine OW.nil rfl ?_
              refine QW.say 30 rfl (congrArg (Value.int .i64) (w64_cnt hc614 (room_sz hr613))) ?_
              exact QW.meet (fun a ha => ⟨n607, Nat.lt_succ_self _, i610 + 1, (r629, (api_Inst.mk s609.2.Op s609.2.D 0 s609.2.B s609.2.Imm)), cnt_next hi611, ha.agrees (by kernel_rfl), hst.keep [0, 1, 2] rfl, hl608⟩)
            · have hl608 := ite_f hl608 hc628
              refine OW.pure 6 [(4, .bool false), (54, .pointer (some ⟨b22, 2, none⟩))] (by kernel_rfl) ?_
              refine OW.stB hst 2 rfl rfl rfl rfl rfl (by kernel_rfl) rfl rfl [.int .i64 s609.2.Op, .int .i64 s609.2.D, .int .i64 0, .int .i64 s609.2.B, .int .i64 s609.2.Imm] rfl ?_
              intro w634 hst
              refine OW.nil rfl ?_
              refine QW.block_normal ?_
              refine QW.block_normal ?_
              refine QW.next ?_
              refine CW.region ?_
              refine OW.pure 2 [(30, .int .i64 (w64 ((i610 : Int) + 1)))] (by kernel_rfl) ?_
              refine OW.nil rfl ?_
              refine QW.say 30 rfl (congrArg (Value.int .i64) (w64_cnt hc614 (room_sz hr613))) ?_
              exact QW.meet (fun a ha => ⟨n607, Nat.lt_succ_self _, i610 + 1, (false, (api_Inst.mk s609.2.Op s609.2.D 0 s609.2.B s609.2.Imm)), cnt_next hi611, ha.agrees (by kernel_rfl), hst.keep [0, 1, 2] rfl, hl608⟩)
          · have hl608 := ite_f hl608 hc627
            refine CW.cond_f rfl hc627 ?_
            refine CW.seq ?_
            refine CW.region ?_
            refine OW.pure 2 [(55, .bool (c617 == 115))] (by kernel_rfl) ?_
            refine OW.nil rfl ?_
            refine QW.next ?_
            rcases Bool.eq_false_or_eq_true ((c617 == 115)) with hc635 | hc635
            · have hl608 := ite_t hl608 hc635
              refine CW.cond_t rfl hc635 ?_
              refine CW.seq ?_
              refine CW.region ?_
              refine OW.pure 1 [(57, .pointer (some ⟨b22, 3, none⟩))] (by kernel_rfl) ?_
              refine OW.stB hst 2 rfl rfl rfl rfl rfl (by kernel_rfl) rfl rfl [.int .i64 s609.2.Op, .int .i64 s609.2.D, .int .i64 s609.2.A, .int .i64 0, .int .i64 s609.2.Imm] rfl ?_
              intro w637 hst
              refine OW.nil rfl ?_
              refine QW.next ?_
              refine CW.seq ?_
              refine CW.region ?_
              refine OW.pure 1 [(58, .pointer (some ⟨b3, 3, none⟩))] (by kernel_rfl) ?_
              refine OW.ld rfl rfl rfl rfl (by kernel_rfl) (hst.blk 0 rfl rfl) ?_
              refine OW.pure 1 [(60, .bool (p0.B == 8))] (by kernel_rfl) ?_
              refine OW.nil rfl ?_
              refine QW.next ?_
              rcases Bool.eq_false_or_eq_true ((p0.B == 8)) with hc638 | hc638
              · have hl608 := ite_t hl608 hc638
                refine CW.cond_t rfl hc638 ?_
                refine CW.region ?_
                refine OW.pure 1 [(61, .pointer (some ⟨b22, 4, none⟩))] (by kernel_rfl) ?_
                refine OW.stB hst 2 rfl rfl rfl rfl rfl (by kernel_rfl) rfl rfl [.int .i64 s609.2.Op, .int .i64 s609.2.D, .int .i64 s609.2.A, .int .i64 0, .int .i64 0] rfl ?_
                intro w640 hst
                refine OW.nil rfl ?_
                refine QW.block_normal ?_
                refine QW.block_normal ?_
                refine QW.next ?_
                refine CW.region ?_
                refine OW.pure 2 [(30, .int .i64 (w64 ((i610 : Int) + 1)))] (by kernel_rfl) ?_
                refine OW.nil rfl ?_
                refine QW.say 30 rfl (congrArg (Value.int .i64) (w64_cnt hc614 (room_sz hr613))) ?_
                exact QW.meet (fun a ha => ⟨n607, Nat.lt_succ_self _, i610 + 1, (s609.1, (api_Inst.mk s609.2.Op s609.2.D s609.2.A 0 0)), cnt_next hi611, ha.agrees (by kernel_rfl), hst.keep [0, 1, 2] rfl, hl608⟩)
              · have hl608 := ite_f hl608 hc638
                refine CW.cond_f rfl hc638 ?_
                refine CW.region ?_
                refine OW.pure 2 [(63, .bool s609.1)] (by kernel_rfl) ?_
                refine OW.split 63 rfl (fun hc641 => ?_) (fun hc641 => ?_)
                · have hl608 := ite_t hl608 hc641
                  refine OW.pure 1 [(64, .pointer (some ⟨b3, 3, none⟩))] (by kernel_rfl) ?_
                  refine OW.ld rfl rfl rfl rfl (by kernel_rfl) (hst.blk 0 rfl rfl) ?_
                  obtain ⟨r642, hr643, hl608⟩ := bind_some' hl608
                  refine OW.fn rfl rfl rfl rfl (by kernel_rfl) (ops_register_ok _ p0.B r642 hr643 (hst.part [] rfl)) ?_
                  rintro e w644 ⟨rfl, hst645⟩
                  refine ⟨_, rfl, ?_⟩
                  have hst := hst.join (idx := []) (rest := [0, 1, 2]) rfl hst645
                  refine OW.pure 2 [(4, .bool r642)] (by kernel_rfl) ?_
                  refine OW.nil rfl ?_
                  refine QW.block_normal ?_
                  refine QW.block_normal ?_
                  refine QW.next ?_
                  refine CW.region ?_
                  refine OW.pure 2 [(30, .int .i64 (w64 ((i610 : Int) + 1)))] (by kernel_rfl) ?_
                  refine OW.nil rfl ?_
                  refine QW.say 30 rfl (congrArg (Value.int .i64) (w64_cnt hc614 (room_sz hr613))) ?_
                  exact QW.meet (fun a ha => ⟨n607, Nat.lt_succ_self _, i610 + 1, (r642, (api_Inst.mk s609.2.Op s609.2.D s609.2.A 0 s609.2.Imm)), cnt_next hi611, ha.agrees (by kernel_rfl), hst.keep [0, 1, 2] rfl, hl608⟩)
                · have hl608 := ite_f hl608 hc641
                  refine OW.pure 5 [(4, .bool false)] (by kernel_rfl) ?_
                  refine OW.nil rfl ?_
                  refine QW.block_normal ?_
                  refine QW.block_normal ?_
                  refine QW.next ?_
                  refine CW.region ?_
                  refine OW.pure 2 [(30, .int .i64 (w64 ((i610 : Int) + 1)))] (by kernel_rfl) ?_
                  refine OW.nil rfl ?_
                  refine QW.say 30 rfl (congrArg (Value.int .i64) (w64_cnt hc614 (room_sz hr613))) ?_
                  exact QW.meet (fun a ha => ⟨n607, Nat.lt_succ_self _, i610 + 1, (false, (api_Inst.mk s609.2.Op s609.2.D s609.2.A 0 s609.2.Imm)), cnt_next hi611, ha.agrees (by kernel_rfl), hst.keep [0, 1, 2] rfl, hl608⟩)
            · have hl608 := ite_f hl608 hc635
              refine CW.cond_f rfl hc635 ?_
              refine CW.seq ?_
              refine CW.region ?_
              refine OW.pure 2 [(68, .bool (c617 == 102))] (by kernel_rfl) ?_
              refine OW.nil rfl ?_
              refine QW.next ?_
              rcases Bool.eq_false_or_eq_true ((c617 == 102)) with hc646 | hc646
              · have hl608 := ite_t hl608 hc646
                refine CW.cond_t rfl hc646 ?_
                refine CW.region ?_
                refine OW.pure 2 [(71, .bool s609.1)] (by kernel_rfl) ?_
                refine OW.split 71 rfl (fun hc647 => ?_) (fun hc647 => ?_)
                · have hl608 := ite_t hl608 hc647
                  refine OW.pure 1 [(72, .pointer (some ⟨b3, 4, none⟩))] (by kernel_rfl) ?_
                  refine OW.ld rfl rfl rfl rfl (by kernel_rfl) (hst.blk 0 rfl rfl) ?_
                  obtain ⟨r648, hr649, hl608⟩ := bind_some' hl608
                  refine OW.fn rfl rfl rfl rfl (by kernel_rfl) (ops_within_ok _ p0.Imm 0 1 r648 hr649 (hst.part [] rfl)) ?_
                  rintro e w650 ⟨rfl, hst651⟩
                  refine ⟨_, rfl, ?_⟩
                  have hst := hst.join (idx := []) (rest := [0, 1, 2]) rfl hst651
                  refine OW.pure 3 [(4, .bool r648), (76, .pointer (some ⟨b22, 4, none⟩))] (by kernel_rfl) ?_
                  refine OW.stB hst 2 rfl rfl rfl rfl rfl (by kernel_rfl) rfl rfl [.int .i64 s609.2.Op, .int .i64 s609.2.D, .int .i64 s609.2.A, .int .i64 s609.2.B, .int .i64 0] rfl ?_
                  intro w652 hst
                  refine OW.nil rfl ?_
                  refine QW.block_normal ?_
                  refine QW.block_normal ?_
                  refine QW.next ?_
                  refine CW.region ?_
                  refine OW.pure 2 [(30, .int .i64 (w64 ((i610 : Int) + 1)))] (by kernel_rfl) ?_
                  refine OW.nil rfl ?_
                  refine QW.say 30 rfl (congrArg (Value.int .i64) (w64_cnt hc614 (room_sz hr613))) ?_
                  exact QW.meet (fun a ha => ⟨n607, Nat.lt_succ_self _, i610 + 1, (r648, (api_Inst.mk s609.2.Op s609.2.D s609.2.A s609.2.B 0)), cnt_next hi611, ha.agrees (by kernel_rfl), hst.keep [0, 1, 2] rfl, hl608⟩)
                · have hl608 := ite_f hl608 hc647
                  refine OW.pure 6 [(4, .bool false), (76, .pointer (some ⟨b22, 4, none⟩))] (by kernel_rfl) ?_
                  refine OW.stB hst 2 rfl rfl rfl rfl rfl (by kernel_rfl) rfl rfl [.int .i64 s609.2.Op, .int .i64 s609.2.D, .int .i64 s609.2.A, .int .i64 s609.2.B, .int .i64 0] rfl ?_
                  intro w653 hst
                  refine OW.nil rfl ?_
                  refine QW.block_normal ?_
                  refine QW.block_normal ?_
                  refine QW.next ?_
                  refine CW.region ?_
                  refine OW.pure 2 [(30, .int .i64 (w64 ((i610 : Int) + 1)))] (by kernel_rfl) ?_
                  refine OW.nil rfl ?_
                  refine QW.say 30 rfl (congrArg (Value.int .i64) (w64_cnt hc614 (room_sz hr613))) ?_
                  exact QW.meet (fun a ha => ⟨n607, Nat.lt_succ_self _, i610 + 1, (false, (api_Inst.mk s609.2.Op s609.2.D s609.2.A s609.2.B 0)), cnt_next hi611, ha.agrees (by kernel_rfl), hst.keep [0, 1, 2] rfl, hl608⟩)
              · have hl608 := ite_f hl608 hc646
                refine CW.cond_f rfl hc646 ?_
                refine CW.seq ?_
                refine CW.region ?_
                refine OW.pure 2 [(77, .bool (c617 == 109))] (by kernel_rfl) ?_
                refine OW.nil rfl ?_
                refine QW.next ?_
                rcases Bool.eq_false_or_eq_true ((c617 == 109)) with hc654 | hc654
                · have hl608 := ite_t hl608 hc654
                  refine CW.cond_t rfl hc654 ?_
                  refine CW.region ?_
                  refine OW.pure 2 [(80, .bool s609.1)] (by kernel_rfl) ?_
                  refine OW.split 80 rfl (fun hc655 => ?_) (fun hc655 => ?_)
                  · have hl608 := ite_t hl608 hc655
                    refine OW.pure 1 [(81, .pointer (some ⟨b3, 4, none⟩))] (by kernel_rfl) ?_
                    refine OW.ld rfl rfl rfl rfl (by kernel_rfl) (hst.blk 0 rfl rfl) ?_
                    obtain ⟨r656, hr657, hl608⟩ := bind_some' hl608
                    refine OW.fn rfl rfl rfl rfl (by kernel_rfl) (ops_within_ok _ p0.Imm 0 3 r656 hr657 (hst.part [] rfl)) ?_
                    rintro e w658 ⟨rfl, hst659⟩
                    refine ⟨_, rfl, ?_⟩
                    have hst := hst.join (idx := []) (rest := [0, 1, 2]) rfl hst659
                    refine OW.pure 3 [(4, .bool r656), (85, .pointer (some ⟨b22, 4, none⟩))] (by kernel_rfl) ?_
                    refine OW.stB hst 2 rfl rfl rfl rfl rfl (by kernel_rfl) rfl rfl [.int .i64 s609.2.Op, .int .i64 s609.2.D, .int .i64 s609.2.A, .int .i64 s609.2.B, .int .i64 0] rfl ?_
                    intro w660 hst
                    refine OW.nil rfl ?_
                    refine QW.block_normal ?_
                    refine QW.block_normal ?_
                    refine QW.next ?_
                    refine CW.region ?_
                    refine OW.pure 2 [(30, .int .i64 (w64 ((i610 : Int) + 1)))] (by kernel_rfl) ?_
                    refine OW.nil rfl ?_
                    refine QW.say 30 rfl (congrArg (Value.int .i64) (w64_cnt hc614 (room_sz hr613))) ?_
                    exact QW.meet (fun a ha => ⟨n607, Nat.lt_succ_self _, i610 + 1, (r656, (api_Inst.mk s609.2.Op s609.2.D s609.2.A s609.2.B 0)), cnt_next hi611, ha.agrees (by kernel_rfl), hst.keep [0, 1, 2] rfl, hl608⟩)
                  · have hl608 := ite_f hl608 hc655
                    refine OW.pure 6 [(4, .bool false), (85, .pointer (some ⟨b22, 4, none⟩))] (by kernel_rfl) ?_
                    refine OW.stB hst 2 rfl rfl rfl rfl rfl (by kernel_rfl) rfl rfl [.int .i64 s609.2.Op, .int .i64 s609.2.D, .int .i64 s609.2.A, .int .i64 s609.2.B, .int .i64 0] rfl ?_
                    intro w661 hst
                    refine OW.nil rfl ?_
                    refine QW.block_normal ?_
                    refine QW.block_normal ?_
                    refine QW.next ?_
                    refine CW.region ?_
                    refine OW.pure 2 [(30, .int .i64 (w64 ((i610 : Int) + 1)))] (by kernel_rfl) ?_
                    refine OW.nil rfl ?_
                    refine QW.say 30 rfl (congrArg (Value.int .i64) (w64_cnt hc614 (room_sz hr613))) ?_
                    exact QW.meet (fun a ha => ⟨n607, Nat.lt_succ_self _, i610 + 1, (false, (api_Inst.mk s609.2.Op s609.2.D s609.2.A s609.2.B 0)), cnt_next hi611, ha.agrees (by kernel_rfl), hst.keep [0, 1, 2] rfl, hl608⟩)
                · have hl608 := ite_f hl608 hc654
                  refine CW.cond_f rfl hc654 ?_
                  refine CW.seq ?_
                  refine CW.region ?_
                  refine OW.pure 2 [(86, .bool (c617 == 104))] (by kernel_rfl) ?_
                  refine OW.nil rfl ?_
                  refine QW.next ?_
                  rcases Bool.eq_false_or_eq_true ((c617 == 104)) with hc662 | hc662
                  · have hl608 := ite_t hl608 hc662
                    refine CW.cond_t rfl hc662 ?_
                    refine CW.region ?_
                    refine OW.pure 2 [(89, .bool s609.1)] (by kernel_rfl) ?_
                    refine OW.split 89 rfl (fun hc663 => ?_) (fun hc663 => ?_)
                    · have hl608 := ite_t hl608 hc663
                      refine OW.pure 1 [(90, .pointer (some ⟨b3, 4, none⟩))] (by kernel_rfl) ?_
                      refine OW.ld rfl rfl rfl rfl (by kernel_rfl) (hst.blk 0 rfl rfl) ?_
                      obtain ⟨r664, hr665, hl608⟩ := bind_some' hl608
                      refine OW.fn rfl rfl rfl rfl (by kernel_rfl) (ops_within_ok _ p0.Imm 0 6 r664 hr665 (hst.part [] rfl)) ?_
                      rintro e w666 ⟨rfl, hst667⟩
                      refine ⟨_, rfl, ?_⟩
                      have hst := hst.join (idx := []) (rest := [0, 1, 2]) rfl hst667
                      refine OW.pure 3 [(4, .bool r664), (94, .pointer (some ⟨b22, 4, none⟩))] (by kernel_rfl) ?_
                      refine OW.stB hst 2 rfl rfl rfl rfl rfl (by kernel_rfl) rfl rfl [.int .i64 s609.2.Op, .int .i64 s609.2.D, .int .i64 s609.2.A, .int .i64 s609.2.B, .int .i64 0] rfl ?_
                      intro w668 hst
                      refine OW.nil rfl ?_
                      refine QW.block_normal ?_
                      refine QW.block_normal ?_
                      refine QW.next ?_
                      refine CW.region ?_
                      refine OW.pure 2 [(30, .int .i64 (w64 ((i610 : Int) + 1)))] (by kernel_rfl) ?_
                      refine OW.nil rfl ?_
                      refine QW.say 30 rfl (congrArg (Value.int .i64) (w64_cnt hc614 (room_sz hr613))) ?_
                      exact QW.meet (fun a ha => ⟨n607, Nat.lt_succ_self _, i610 + 1, (r664, (api_Inst.mk s609.2.Op s609.2.D s609.2.A s609.2.B 0)), cnt_next hi611, ha.agrees (by kernel_rfl), hst.keep [0, 1, 2] rfl, hl608⟩)
                    · have hl608 := ite_f hl608 hc663
                      refine OW.pure 6 [(4, .bool false), (94, .pointer (some ⟨b22, 4, none⟩))] (by kernel_rfl) ?_
                      refine OW.stB hst 2 rfl rfl rfl rfl rfl (by kernel_rfl) rfl rfl [.int .i64 s609.2.Op, .int .i64 s609.2.D, .int .i64 s609.2.A, .int .i64 s609.2.B, .int .i64 0] rfl ?_
                      intro w669 hst
                      refine OW.nil rfl ?_
                      refine QW.block_normal ?_
                      refine QW.block_normal ?_
                      refine QW.next ?_
                      refine CW.region ?_
                      refine OW.pure 2 [(30, .int .i64 (w64 ((i610 : Int) + 1)))] (by kernel_rfl) ?_
                      refine OW.nil rfl ?_
                      refine QW.say 30 rfl (congrArg (Value.int .i64) (w64_cnt hc614 (room_sz hr613))) ?_
                      exact QW.meet (fun a ha => ⟨n607, Nat.lt_succ_self _, i610 + 1, (false, (api_Inst.mk s609.2.Op s609.2.D s609.2.A s609.2.B 0)), cnt_next hi611, ha.agrees (by kernel_rfl), hst.keep [0, 1, 2] rfl, hl608⟩)
                  · have hl608 := ite_f hl608 hc662
                    refine CW.cond_f rfl hc662 ?_
                    refine CW.seq ?_
                    refine CW.region ?_
                    refine OW.pure 2 [(95, .bool (c617 == 110))] (by kernel_rfl) ?_
                    refine OW.nil rfl ?_
                    refine QW.next ?_
                    rcases Bool.eq_false_or_eq_true ((c617 == 110)) with hc670 | hc670
                    · have hl608 := ite_t hl608 hc670
                      refine CW.cond_t rfl hc670 ?_
                      refine CW.region ?_
                      refine OW.pure 2 [(98, .bool s609.1)] (by kernel_rfl) ?_
                      refine OW.split 98 rfl (fun hc671 => ?_) (fun hc671 => ?_)
                      · have hl608 := ite_t hl608 hc671
                        refine OW.pure 1 [(99, .pointer (some ⟨b3, 4, none⟩))] (by kernel_rfl) ?_
                        refine OW.ld rfl rfl rfl rfl (by kernel_rfl) (hst.blk 0 rfl rfl) ?_
                        obtain ⟨r672, hr673, hl608⟩ := bind_some' hl608
                        refine OW.fn rfl rfl rfl rfl (by kernel_rfl) (ops_within_ok _ p0.Imm 1 255 r672 hr673 (hst.part [] rfl)) ?_
                        rintro e w674 ⟨rfl, hst675⟩
                        refine ⟨_, rfl, ?_⟩
                        have hst := hst.join (idx := []) (rest := [0, 1, 2]) rfl hst675
                        refine OW.pure 3 [(4, .bool r672), (103, .pointer (some ⟨b22, 4, none⟩))] (by kernel_rfl) ?_
                        refine OW.stB hst 2 rfl rfl rfl rfl rfl (by kernel_rfl) rfl rfl [.int .i64 s609.2.Op, .int .i64 s609.2.D, .int .i64 s609.2.A, .int .i64 s609.2.B, .int .i64 0] rfl ?_
                        intro w676 hst
                        refine OW.nil rfl ?_
                        refine QW.block_normal ?_
                        refine QW.block_normal ?_
                        refine QW.next ?_
                        refine CW.region ?_
                        refine OW.pure 2 [(30, .int .i64 (w64 ((i610 : Int) + 1)))] (by kernel_rfl) ?_
                        refine OW.nil rfl ?_
                        refine QW.say 30 rfl (congrArg (Value.int .i64) (w64_cnt hc614 (room_sz hr613))) ?_
                        exact QW.meet (fun a ha => ⟨n607, Nat.lt_succ_self _, i610 + 1, (r672, (api_Inst.mk s609.2.Op s609.2.D s609.2.A s609.2.B 0)), cnt_next hi611, ha.agrees (by kernel_rfl), hst.keep [0, 1, 2] rfl, hl608⟩)
                      · have hl608 := ite_f hl608 hc671
                        refine OW.pure 6 [(4, .bool false), (103, .pointer (some ⟨b22, 4, none⟩))] (by kernel_rfl) ?_
                        refine OW.stB hst 2 rfl rfl rfl rfl rfl (by kernel_rfl) rfl rfl [.int .i64 s609.2.Op, .int .i64 s609.2.D, .int .i64 s609.2.A, .int .i64 s609.2.B, .int .i64 0] rfl ?_
                        intro w677 hst
                        refine OW.nil rfl ?_
                        refine QW.block_normal ?_
                        refine QW.block_normal ?_
                        refine QW.next ?_
                        refine CW.region ?_
                        refine OW.pure 2 [(30, .int .i64 (w64 ((i610 : Int) + 1)))] (by kernel_rfl) ?_
                        refine OW.nil rfl ?_
                        refine QW.say 30 rfl (congrArg (Value.int .i64) (w64_cnt hc614 (room_sz hr613))) ?_
                        exact QW.meet (fun a ha => ⟨n607, Nat.lt_succ_self _, i610 + 1, (false, (api_Inst.mk s609.2.Op s609.2.D s609.2.A s609.2.B 0)), cnt_next hi611, ha.agrees (by kernel_rfl), hst.keep [0, 1, 2] rfl, hl608⟩)
                    · have hl608 := ite_f hl608 hc670
                      refine CW.cond_f rfl hc670 ?_
                      refine CW.seq ?_
                      refine CW.region ?_
                      refine OW.pure 2 [(104, .bool (c617 == 106))] (by kernel_rfl) ?_
                      refine OW.nil rfl ?_
                      refine QW.next ?_
                      rcases Bool.eq_false_or_eq_true ((c617 == 106)) with hc678 | hc678
                      · have hl608 := ite_t hl608 hc678
                        refine CW.cond_t rfl hc678 ?_
                        refine CW.region ?_
                        refine OW.pure 2 [(107, .bool s609.1)] (by kernel_rfl) ?_
                        refine OW.split 107 rfl (fun hc679 => ?_) (fun hc679 => ?_)
                        · have hl608 := ite_t hl608 hc679
                          refine OW.pure 1 [(108, .pointer (some ⟨b3, 1, none⟩))] (by kernel_rfl) ?_
                          refine OW.ld rfl rfl rfl rfl (by kernel_rfl) (hst.blk 0 rfl rfl) ?_
                          obtain ⟨r680, hr681, hl608⟩ := bind_some' hl608
                          refine OW.fn rfl rfl rfl rfl (by kernel_rfl) (ops_within_ok _ p0.D 0 63 r680 hr681 (hst.part [] rfl)) ?_
                          rintro e w682 ⟨rfl, hst683⟩
                          refine ⟨_, rfl, ?_⟩
                          have hst := hst.join (idx := []) (rest := [0, 1, 2]) rfl hst683
                          refine OW.pure 3 [(4, .bool r680), (112, .pointer (some ⟨b22, 1, none⟩))] (by kernel_rfl) ?_
                          refine OW.stB hst 2 rfl rfl rfl rfl rfl (by kernel_rfl) rfl rfl [.int .i64 s609.2.Op, .int .i64 0, .int .i64 s609.2.A, .int .i64 s609.2.B, .int .i64 s609.2.Imm] rfl ?_
                          intro w684 hst
                          refine OW.nil rfl ?_
                          refine QW.block_normal ?_
                          refine QW.block_normal ?_
                          refine QW.next ?_
                          refine CW.region ?_
                          refine OW.pure 2 [(30, .int .i64 (w64 ((i610 : Int) + 1)))] (by kernel_rfl) ?_
                          refine OW.nil rfl ?_
                          refine QW.say 30 rfl (congrArg (Value.int .i64) (w64_cnt hc614 (room_sz hr613))) ?_
                          exact QW.meet (fun a ha => ⟨n607, Nat.lt_succ_self _, i610 + 1, (r680, (api_Inst.mk s609.2.Op 0 s609.2.A s609.2.B s609.2.Imm)), cnt_next hi611, ha.agrees (by kernel_rfl), hst.keep [0, 1, 2] rfl, hl608⟩)
                        · have hl608 := ite_f hl608 hc679
                          refine OW.pure 6 [(4, .bool false), (112, .pointer (some ⟨b22, 1, none⟩))] (by kernel_rfl) ?_
                          refine OW.stB hst 2 rfl rfl rfl rfl rfl (by kernel_rfl) rfl rfl [.int .i64 s609.2.Op, .int .i64 0, .int .i64 s609.2.A, .int .i64 s609.2.B, .int .i64 s609.2.Imm] rfl ?_
                          intro w685 hst
                          refine OW.nil rfl ?_
                          refine QW.block_normal ?_
                          refine QW.block_normal ?_
                          refine QW.next ?_
                          refine CW.region ?_
                          refine OW.pure 2 [(30, .int .i64 (w64 ((i610 : Int) + 1)))] (by kernel_rfl) ?_
                          refine OW.nil rfl ?_
                          refine QW.say 30 rfl (congrArg (Value.int .i64) (w64_cnt hc614 (room_sz hr613))) ?_
                          exact QW.meet (fun a ha => ⟨n607, Nat.lt_succ_self _, i610 + 1, (false, (api_Inst.mk s609.2.Op 0 s609.2.A s609.2.B s609.2.Imm)), cnt_next hi611, ha.agrees (by kernel_rfl), hst.keep [0, 1, 2] rfl, hl608⟩)
                      · have hl608 := ite_f hl608 hc678
                        refine CW.cond_f rfl hc678 ?_
                        refine CW.seq ?_
                        refine CW.region ?_
                        refine OW.pure 2 [(113, .bool (c617 == 98))] (by kernel_rfl) ?_
                        refine OW.nil rfl ?_
                        refine QW.next ?_
                        rcases Bool.eq_false_or_eq_true ((c617 == 98)) with hc686 | hc686
                        · have hl608 := ite_t hl608 hc686
                          refine CW.cond_t rfl hc686 ?_
                          refine CW.region ?_
                          refine OW.pure 2 [(116, .bool s609.1)] (by kernel_rfl) ?_
                          refine OW.split 116 rfl (fun hc687 => ?_) (fun hc687 => ?_)
                          · have hl608 := ite_t hl608 hc687
                            refine OW.pure 1 [(117, .pointer (some ⟨b3, 1, none⟩))] (by kernel_rfl) ?_
                            refine OW.ld rfl rfl rfl rfl (by kernel_rfl) (hst.blk 0 rfl rfl) ?_
                            obtain ⟨r688, hr689, hl608⟩ := bind_some' hl608
                            refine OW.fn rfl rfl rfl rfl (by kernel_rfl) (ops_within_ok _ p0.D 1 63 r688 hr689 (hst.part [] rfl)) ?_
                            rintro e w690 ⟨rfl, hst691⟩
                            refine ⟨_, rfl, ?_⟩
                            have hst := hst.join (idx := []) (rest := [0, 1, 2]) rfl hst691
                            refine OW.pure 3 [(4, .bool r688), (121, .pointer (some ⟨b22, 1, none⟩))] (by kernel_rfl) ?_
                            refine OW.stB hst 2 rfl rfl rfl rfl rfl (by kernel_rfl) rfl rfl [.int .i64 s609.2.Op, .int .i64 0, .int .i64 s609.2.A, .int .i64 s609.2.B, .int .i64 s609.2.Imm] rfl ?_
                            intro w692 hst
                            refine OW.nil rfl ?_
                            refine QW.block_normal ?_
                            refine QW.block_normal ?_
                            refine QW.next ?_
                            refine CW.region ?_
                            refine OW.pure 2 [(30, .int .i64 (w64 ((i610 : Int) + 1)))] (by kernel_rfl) ?_
                            refine OW.nil rfl ?_
                            refine QW.say 30 rfl (congrArg (Value.int .i64) (w64_cnt hc614 (room_sz hr613))) ?_
                            exact QW.meet (fun a ha => ⟨n607, Nat.lt_succ_self _, i610 + 1, (r688, (api_Inst.mk s609.2.Op 0 s609.2.A s609.2.B s609.2.Imm)), cnt_next hi611, ha.agrees (by kernel_rfl), hst.keep [0, 1, 2] rfl, hl608⟩)
                          · have hl608 := ite_f hl608 hc687
                            refine OW.pure 6 [(4, .bool false), (121, .pointer (some ⟨b22, 1, none⟩))] (by kernel_rfl) ?_
                            refine OW.stB hst 2 rfl rfl rfl rfl rfl (by kernel_rfl) rfl rfl [.int .i64 s609.2.Op, .int .i64 0, .int .i64 s609.2.A, .int .i64 s609.2.B, .int .i64 s609.2.Imm] rfl ?_
                            intro w693 hst
                            refine OW.nil rfl ?_
                            refine QW.block_normal ?_
                            refine QW.block_normal ?_
                            refine QW.next ?_
                            refine CW.region ?_
                            refine OW.pure 2 [(30, .int .i64 (w64 ((i610 : Int) + 1)))] (by kernel_rfl) ?_
                            refine OW.nil rfl ?_
                            refine QW.say 30 rfl (congrArg (Value.int .i64) (w64_cnt hc614 (room_sz hr613))) ?_
                            exact QW.meet (fun a ha => ⟨n607, Nat.lt_succ_self _, i610 + 1, (false, (api_Inst.mk s609.2.Op 0 s609.2.A s609.2.B s609.2.Imm)), cnt_next hi611, ha.agrees (by kernel_rfl), hst.keep [0, 1, 2] rfl, hl608⟩)
                        · have hl608 := ite_f hl608 hc686
                          refine CW.cond_f rfl hc686 ?_
                          refine CW.skip ?_
                          refine QW.block_normal ?_
                          refine QW.block_normal ?_
                          refine QW.next ?_
                          refine CW.region ?_
                          refine OW.pure 2 [(30, .int .i64 (w64 ((i610 : Int) + 1)))] (by kernel_rfl) ?_
                          refine OW.nil rfl ?_
                          refine QW.say 30 rfl (congrArg (Value.int .i64) (w64_cnt hc614 (room_sz hr613))) ?_
                          exact QW.meet (fun a ha => ⟨n607, Nat.lt_succ_self _, i610 + 1, (s609.1, s609.2), cnt_next hi611, ha.agrees (by kernel_rfl), hst.keep [0, 1, 2] rfl, hl608⟩)
      · rcases n607 with _ | n607
        · refine CW.cond_f rfl hc614 ?_
          refine CW.exit ?_
          refine QW.then_exit ?_
          refine QW.then_exit ?_
          refine QW.block_here ?_
          obtain rfl := Option.some.inj hl608
          exact QW.meet (fun a ha => ⟨ha.agrees (by kernel_rfl), hst.keep [2] rfl⟩)
        · exact (cnt1 hi611 hc614).elim
    · rintro a w1 ⟨ha, hst⟩
      refine CW.go ?_ ha
      refine CW.seq ?_
      obtain ⟨o695, ho696, hF⟩ := bind_some' hF
      refine CW.cutK (fun a w1 => Rep 129 [(2, .bool o695)] a ∧ St w (fp []) w1 []) ?_ ?_
      · refine CW.region ?_
        refine OW.pure 2 [(124, .bool o364.1)] (by kernel_rfl) ?_
        refine OW.split 124 rfl (fun hc697 => ?_) (fun hc697 => ?_)
        · have ho696 := ite_t ho696 hc697
          refine OW.ldN (cs := [.int .i64 o364.2.Op, .int .i64 o364.2.D, .int .i64 o364.2.A, .int .i64 o364.2.B, .int .i64 o364.2.Imm]) rfl rfl rfl rfl (by kernel_rfl) (by kernel_rfl) (hst.blkN 0 rfl 0 5) ?_
          refine OW.pure 1 [(126, .agg [.int .i64 0, .int .i64 0, .int .i64 0, .int .i64 0, .int .i64 0].toArray)] (by kernel_rfl) ?_
          refine OW.op (v := .bool ((o364.2.Op == 0) && ((o364.2.D == 0) && ((o364.2.A == 0) && ((o364.2.B == 0) && ((o364.2.Imm == 0) && true)))))) rfl rfl rfl rfl (fun a ha => seq_run rfl rfl rfl (by kernel_rfl) (by kernel_rfl) a _ ha) ?_
          refine OW.pure 2 [(2, .bool ((o364.2.Op == 0) && ((o364.2.D == 0) && ((o364.2.A == 0) && ((o364.2.B == 0) && ((o364.2.Imm == 0) && true))))))] (by kernel_rfl) ?_
          refine OW.nil rfl ?_
          obtain rfl := Option.some.inj ho696
          exact QW.meet (fun a ha => ⟨ha.agrees (by kernel_rfl), hst.keep [] rfl⟩)
        · have ho696 := ite_f ho696 hc697
          refine OW.pure 5 [(2, .bool false)] (by kernel_rfl) ?_
          refine OW.nil rfl ?_
          obtain rfl := Option.some.inj ho696
          exact QW.meet (fun a ha => ⟨ha.agrees (by kernel_rfl), hst.keep [] rfl⟩)
      · rintro a w1 ⟨ha, hst⟩
        refine CW.go ?_ ha
        refine CW.ret ?_
        obtain rfl := Option.some.inj hF
        refine QW.ret1 rfl rfl ?_
        exact ⟨rfl, hst.keep [] rfl⟩

set_option maxRecDepth 10000 in
theorem ops_form_uses_ok (w : World) (p0 : ops_form) (p1 : Int) (r : Bool) (hF : ops_form_uses p0 p1 = some r)
    (hst : St w (fp []) w []) :
    Calls Tryd.prog 45 [.agg [.string p0.name, .string p0.fields].toArray, .int .u8 p1].toArray w (fun e w' => e = .returned (.bool r) ∧ St w (fp []) w' []) := by
  refine CW.start (N := 19) Tryd.func45 rfl rfl rfl ?_
  refine CW.seq ?_
  refine CW.region ?_
  refine OW.box hst rfl rfl rfl rfl [.string p0.name, .string p0.fields] rfl ?_
  intro b3 w4 hst
  refine OW.pure 1 [] (by kernel_rfl) ?_
  refine OW.nil rfl ?_
  refine QW.next ?_
  refine CW.seq ?_
  refine CW.seq ?_
  refine CW.region ?_
  refine OW.pure 1 [(6, .pointer (some ⟨b3, 1, none⟩))] (by kernel_rfl) ?_
  refine OW.ld rfl rfl rfl rfl (by kernel_rfl) (hst.blk 0 rfl rfl) ?_
  refine OW.pure 2 [(8, .int .i64 (p0.fields.size : Int)), (9, .int .i64 0)] (by kernel_rfl) ?_
  refine OW.nil rfl ?_
  refine QW.next ?_
  obtain ⟨o31, ho32, hF⟩ := bind_some' hF
  refine CW.cutK (fun a w1 => ∃ (t33 : Unit), o31 = .inl t33 ∧ Rep 19 [] a ∧ St w (fp []) w1 []) ?_ ?_
  · refine CW.block ?_
    obtain ⟨u52, hr53, ho32⟩ := bind_some' ho32
    refine CW.loop (fun n a w1 => ∃ (i50 : Nat) (s49 : Unit), i50 + n = p0.fields.size ∧ Rep 19 [(1, .int .u8 p1), (2, .pointer (some ⟨b3, 0, none⟩)), (8, .int .i64 (p0.fields.size : Int)), (9, .int .i64 (i50 : Int))] a ∧ St w (fp []) w1 [blkI b3 68 [.string p0.name, .string p0.fields]] ∧ forN (ops_form_uses_l1 p0 p1) (fun (s49 : Unit) => (.inl ())) n i50 s49 = some o31) p0.fields.size (fun a ha => ⟨0, (), Nat.zero_add _, ha.agrees (by kernel_rfl), hst.keep [0] rfl, ho32⟩) ?_
    rintro n47 a w1 ⟨i50, s49, hi51, ha, hst, hl48⟩
    refine CW.go ?_ ha
    refine CW.seq ?_
    refine CW.region ?_
    refine OW.pure 1 [(10, .bool (decide ((i50 : Int) < (p0.fields.size : Int))))] (by kernel_rfl) ?_
    refine OW.nil rfl ?_
    refine QW.next ?_
    refine CW.seq ?_
    rcases Bool.eq_false_or_eq_true (decide ((i50 : Int) < (p0.fields.size : Int))) with hc54 | hc54
    · rcases n47 with _ | n47
      · exact (cnt0 hi51 hc54).elim
      refine CW.cond_t rfl hc54 ?_
      refine CW.skip ?_
      refine QW.next ?_
      refine CW.seq ?_
      refine CW.block ?_
      refine CW.seq ?_
      refine CW.region ?_
      refine OW.pure 2 [(5, .int .i64 (i50 : Int))] (by kernel_rfl) ?_
      refine OW.nil rfl ?_
      refine QW.next ?_
      refine CW.seq ?_
      refine CW.region ?_
      refine OW.pure 1 [(12, .pointer (some ⟨b3, 1, none⟩))] (by kernel_rfl) ?_
      refine OW.ld rfl rfl rfl rfl (by kernel_rfl) (hst.blk 0 rfl rfl) ?_
      refine OW.pure 1 [(14, .int .i64 (i50 : Int))] (by kernel_rfl) ?_
      obtain ⟨c57, hx58, hl48⟩ := bind_some' hl48
      refine OW.op (v := .int .u8 c57) rfl rfl rfl rfl (fun a ha => sidx_run rfl rfl rfl (by kernel_rfl) hx58 a _ ha) ?_
      refine OW.pure 2 [(17, .bool (c57 == p1))] (by kernel_rfl) ?_
      refine OW.nil rfl ?_
      refine QW.next ?_
      rcases Bool.eq_false_or_eq_true ((c57 == p1)) with hc59 | hc59
      · have hl48 := ite_t hl48 hc59
        refine CW.cond_t rfl hc59 ?_
        refine CW.seq ?_
        refine CW.region ?_
        refine OW.pure 1 [(4, .bool true)] (by kernel_rfl) ?_
        refine OW.nil rfl ?_
        refine QW.next ?_
        refine CW.ret ?_
        refine QW.block_ret ?_
        refine QW.then_ret ?_
        refine QW.then_ret ?_
        refine QW.block_ret ?_
        refine QW.then_ret ?_
        obtain rfl := Option.some.inj hl48
        obtain rfl := Option.some.inj hF
        refine QW.ret1 rfl rfl ?_
        exact ⟨rfl, hst.keep [] rfl⟩
      · have hl48 := ite_f hl48 hc59
        refine CW.cond_f rfl hc59 ?_
        refine CW.skip ?_
        refine QW.block_normal ?_
        refine QW.next ?_
        refine CW.region ?_
        refine OW.pure 2 [(9, .int .i64 (w64 ((i50 : Int) + 1)))] (by kernel_rfl) ?_
        refine OW.nil rfl ?_
        refine QW.say 9 rfl (congrArg (Value.int .i64) (w64_cnt hc54 (room_sz hr53))) ?_
        exact QW.meet (fun a ha => ⟨n47, Nat.lt_succ_self _, i50 + 1, (), cnt_next hi51, ha.agrees (by kernel_rfl), hst.keep [0] rfl, hl48⟩)
    · rcases n47 with _ | n47
      · refine CW.cond_f rfl hc54 ?_
        refine CW.exit ?_
        refine QW.then_exit ?_
        refine QW.then_exit ?_
        refine QW.block_here ?_
        obtain rfl := Option.some.inj hl48
        exact QW.meet (fun a ha => ⟨(), rfl, ha.agrees (by kernel_rfl), hst.keep [] rfl⟩)
      · exact (cnt1 hi51 hc54).elim
  · rintro a w1 ⟨t33, rfl, ha, hst⟩
    refine CW.go ?_ ha
    refine CW.seq ?_
    refine CW.region ?_
    refine OW.pure 1 [(4, .bool false)] (by kernel_rfl) ?_
    refine OW.nil rfl ?_
    refine QW.next ?_
    refine CW.ret ?_
    obtain rfl := Option.some.inj hF
    refine QW.ret1 rfl rfl ?_
    exact ⟨rfl, hst.keep [] rfl⟩

set_option maxRecDepth 10000 in
theorem ops_Goes_ok (w : World) (p0 : api_Inst) (r : Int × Bool × Bool) (hF : ops_Goes p0 = some r)
    (hst : St w (fp []) w []) (hT0 : Rd w (fp []) (.slice (some ⟨0, 0, none⟩) 23 23) enc_ops_form 2 tab_g0) :
    Calls Tryd.prog 34 [.agg [.int .i64 p0.Op, .int .i64 p0.D, .int .i64 p0.A, .int .i64 p0.B, .int .i64 p0.Imm].toArray].toArray w (fun e w' => e = .returned (.tuple #[.int .i64 r.1, .bool r.2.1, .bool r.2.2]) ∧ St w (fp []) w' []) := by
  refine CW.start (N := 34) Tryd.func34 rfl rfl rfl ?_
  refine CW.seq ?_
  refine CW.region ?_
  refine OW.box hst rfl rfl rfl rfl [.int .i64 p0.Op, .int .i64 p0.D, .int .i64 p0.A, .int .i64 p0.B, .int .i64 p0.Imm] rfl ?_
  intro b3 w4 hst
  refine OW.pure 3 [] (by kernel_rfl) ?_
  refine OW.nil rfl ?_
  refine QW.next ?_
  refine CW.seq ?_
  refine CW.seq ?_
  refine CW.region ?_
  refine OW.ldN (cs := [.int .i64 p0.Op, .int .i64 p0.D, .int .i64 p0.A, .int .i64 p0.B, .int .i64 p0.Imm]) rfl rfl rfl rfl (by kernel_rfl) (by kernel_rfl) (hst.blkN 0 rfl 0 5) ?_
  obtain ⟨r9, hr10, hF⟩ := bind_some' hF
  refine OW.fn rfl rfl rfl rfl (by kernel_rfl) (ops_right_ok _ p0 r9 hr10 (hst.part [] rfl) (hT0.give hst [])) ?_
  rintro e w11 ⟨rfl, hst12⟩
  refine ⟨_, rfl, ?_⟩
  have hst := hst.join (idx := []) (rest := [0]) rfl hst12
  refine OW.pure 1 [(9, .bool (!r9))] (by kernel_rfl) ?_
  refine OW.nil rfl ?_
  refine QW.next ?_
  rcases Bool.eq_false_or_eq_true ((!r9)) with hc13 | hc13
  · have hF := ite_t hF hc13
    refine CW.cond_t rfl hc13 ?_
    refine CW.seq ?_
    refine CW.region ?_
    refine OW.pure 3 [(2, .int .i64 0), (3, .bool false), (4, .bool false)] (by kernel_rfl) ?_
    refine OW.nil rfl ?_
    refine QW.next ?_
    refine CW.ret ?_
    refine QW.then_ret ?_
    obtain rfl := Option.some.inj hF
    refine QW.ret3 rfl rfl rfl rfl ?_
    exact ⟨rfl, hst.keep [] rfl⟩
  · have hF := ite_f hF hc13
    refine CW.cond_f rfl hc13 ?_
    refine CW.skip ?_
    refine QW.next ?_
    refine CW.seq ?_
    refine CW.region ?_
    refine OW.pure 1 [(11, .pointer (some ⟨b3, 0, none⟩))] (by kernel_rfl) ?_
    refine OW.ld rfl rfl rfl rfl (by kernel_rfl) (hst.blk 0 rfl rfl) ?_
    obtain ⟨r21, hr22, hF⟩ := bind_some' hF
    refine OW.fn rfl rfl rfl rfl (by kernel_rfl) (ops_of_ok _ p0.Op r21 hr22 (hst.part [] rfl) (hT0.give hst [])) ?_
    rintro e w23 ⟨rfl, hst24⟩
    refine ⟨_, rfl, ?_⟩
    have hst := hst.join (idx := []) (rest := [0]) rfl hst24
    refine OW.pure 3 [(14, .agg [.string r21.1.name, .string r21.1.fields].toArray), (15, .bool r21.2)] (by kernel_rfl) ?_
    refine OW.alloc hst rfl rfl rfl [.string ByteArray.empty, .string ByteArray.empty] (by kernel_rfl) ?_
    intro b25 w26 hst
    refine OW.stB hst 1 rfl rfl rfl rfl rfl (by kernel_rfl) rfl rfl [.string r21.1.name, .string r21.1.fields] rfl ?_
    intro w27 hst
    refine OW.pure 1 [] (by kernel_rfl) ?_
    refine OW.nil rfl ?_
    refine QW.next ?_
    refine CW.seq ?_
    refine CW.block ?_
    refine CW.seq ?_
    refine CW.region ?_
    refine OW.ldN (cs := [.string r21.1.name, .string r21.1.fields]) rfl rfl rfl rfl (by kernel_rfl) (by kernel_rfl) (hst.blkN 1 rfl 0 2) ?_
    obtain ⟨r32, hr33, hF⟩ := bind_some' hF
    refine OW.fn rfl rfl rfl rfl (by kernel_rfl) (ops_form_uses_ok _ r21.1 106 r32 hr33 (hst.part [] rfl)) ?_
    rintro e w34 ⟨rfl, hst35⟩
    refine ⟨_, rfl, ?_⟩
    have hst := hst.join (idx := []) (rest := [0, 1]) rfl hst35
    refine OW.pure 1 [(16, .bool r32)] (by kernel_rfl) ?_
    refine OW.nil rfl ?_
    refine QW.next ?_
    rcases Bool.eq_false_or_eq_true (r32) with hc36 | hc36
    · have hF := ite_t hF hc36
      refine CW.cond_t rfl hc36 ?_
      refine CW.seq ?_
      refine CW.still (by kernel_rfl) (by kernel_rfl) ?_
      intro w39 hch40
      have hst := hst.same hch40
      refine OS.pure 1 [(19, .pointer (some ⟨b3, 1, none⟩))] rfl (by kernel_rfl) ?_
      refine OS.ld rfl rfl rfl rfl rfl (by kernel_rfl) (hst.blk 0 rfl rfl) ?_
      refine OS.pure 2 [(21, .int .i64 (w64 (p0.D + 1))), (22, .pointer (some ⟨b3, 0, none⟩))] rfl (by kernel_rfl) ?_
      refine OS.ld rfl rfl rfl rfl rfl (by kernel_rfl) (hst.blk 0 rfl rfl) ?_
      refine OS.pure 4 [(2, .int .i64 (w64 (p0.D + 1))), (3, .bool true), (4, .bool (p0.Op != 15))] rfl (by kernel_rfl) ?_
      refine OS.fin rfl ?_
      refine QW.next ?_
      refine CW.ret ?_
      refine QW.block_ret ?_
      refine QW.then_ret ?_
      obtain rfl := Option.some.inj hF
      refine QW.ret3 rfl rfl rfl rfl ?_
      exact ⟨rfl, hst.keep [] rfl⟩
    · have hF := ite_f hF hc36
      refine CW.cond_f rfl hc36 ?_
      refine CW.seq ?_
      refine CW.region ?_
      refine OW.ldN (cs := [.string r21.1.name, .string r21.1.fields]) rfl rfl rfl rfl (by kernel_rfl) (by kernel_rfl) (hst.blkN 1 rfl 0 2) ?_
      obtain ⟨r45, hr46, hF⟩ := bind_some' hF
      refine OW.fn rfl rfl rfl rfl (by kernel_rfl) (ops_form_uses_ok _ r21.1 98 r45 hr46 (hst.part [] rfl)) ?_
      rintro e w47 ⟨rfl, hst48⟩
      refine ⟨_, rfl, ?_⟩
      have hst := hst.join (idx := []) (rest := [0, 1]) rfl hst48
      refine OW.pure 1 [(25, .bool r45)] (by kernel_rfl) ?_
      refine OW.nil rfl ?_
      refine QW.next ?_
      rcases Bool.eq_false_or_eq_true (r45) with hc49 | hc49
      · have hF := ite_t hF hc49
        refine CW.cond_t rfl hc49 ?_
        refine CW.seq ?_
        refine CW.region ?_
        refine OW.pure 1 [(28, .pointer (some ⟨b3, 1, none⟩))] (by kernel_rfl) ?_
        refine OW.ld rfl rfl rfl rfl (by kernel_rfl) (hst.blk 0 rfl rfl) ?_
        refine OW.pure 4 [(2, .int .i64 (w64 (0 - p0.D))), (3, .bool true), (4, .bool true)] (by kernel_rfl) ?_
        refine OW.nil rfl ?_
        refine QW.next ?_
        refine CW.ret ?_
        refine QW.block_ret ?_
        refine QW.then_ret ?_
        obtain rfl := Option.some.inj hF
        refine QW.ret3 rfl rfl rfl rfl ?_
        exact ⟨rfl, hst.keep [] rfl⟩
      · have hF := ite_f hF hc49
        refine CW.cond_f rfl hc49 ?_
        refine CW.skip ?_
        refine QW.block_normal ?_
        refine QW.next ?_
        refine CW.seq ?_
        refine CW.still (by kernel_rfl) (by kernel_rfl) ?_
        intro w52 hch53
        have hst := hst.same hch53
        refine OS.pure 1 [(31, .pointer (some ⟨b3, 0, none⟩))] rfl (by kernel_rfl) ?_
        refine OS.ld rfl rfl rfl rfl rfl (by kernel_rfl) (hst.blk 0 rfl rfl) ?_
        refine OS.pure 4 [(2, .int .i64 0), (3, .bool false), (4, .bool (p0.Op != 22))] rfl (by kernel_rfl) ?_
        refine OS.fin rfl ?_
        refine QW.next ?_
        refine CW.ret ?_
        obtain rfl := Option.some.inj hF
        refine QW.ret3 rfl rfl rfl rfl ?_
        exact ⟨rfl, hst.keep [] rfl⟩

set_option maxRecDepth 10000 in
theorem ops_Right_ok (w : World) (v0 : Value) (p0 : List api_Inst) (r : Bool) (hF : ops_Right p0 = some r)
    (hst : St w (fp []) w []) (h0 : Rd w (fp []) v0 enc_api_Inst 5 p0) (hT0 : Rd w (fp []) (.slice (some ⟨0, 0, none⟩) 23 23) enc_ops_form 2 tab_g0) :
    Calls Tryd.prog 37 [v0].toArray w (fun e w' => e = .returned (.bool r) ∧ St w (fp []) w' []) := by
  refine CW.start (N := 15) Tryd.func37 rfl rfl rfl ?_
  obtain ⟨l1, a2, c3, rfl⟩ := h0.len
  refine CW.seq ?_
  refine CW.region ?_
  refine OW.pure 1 [] (by kernel_rfl) ?_
  refine OW.nil rfl ?_
  refine QW.next ?_
  refine CW.seq ?_
  refine CW.seq ?_
  refine CW.region ?_
  refine OW.pure 3 [(5, .slice a2 (p0).length c3), (6, .int .i64 (((p0).length) : Int)), (7, .int .i64 0)] (by kernel_rfl) ?_
  refine OW.nil rfl ?_
  refine QW.next ?_
  obtain ⟨o94, ho95, hF⟩ := bind_some' hF
  refine CW.cutK (fun a w1 => ∃ (t96 : Unit), o94 = .inl t96 ∧ Rep 15 [] a ∧ St w (fp []) w1 []) ?_ ?_
  · refine CW.block ?_
    refine CW.loop (fun n a w1 => ∃ (i157 : Nat) (s156 : Unit), i157 + n = (p0).length ∧ Rep 15 [(5, .slice a2 (p0).length c3), (6, .int .i64 (((p0).length) : Int)), (7, .int .i64 (i157 : Int))] a ∧ St w (fp []) w1 [] ∧ forN (ops_Right_l1 p0) (fun (s156 : Unit) => (.inl ())) n i157 s156 = some o94) ((p0).length) (fun a ha => ⟨0, (), Nat.zero_add _, ha.agrees (by kernel_rfl), hst.keep [] rfl, ho95⟩) ?_
    rintro n154 a w1 ⟨i157, s156, hi158, ha, hst, hl155⟩
    refine CW.go ?_ ha
    refine CW.seq ?_
    refine CW.region ?_
    refine OW.pure 1 [(8, .bool (decide ((i157 : Int) < (((p0).length) : Int))))] (by kernel_rfl) ?_
    refine OW.nil rfl ?_
    refine QW.next ?_
    refine CW.seq ?_
    rcases Bool.eq_false_or_eq_true (decide ((i157 : Int) < (((p0).length) : Int))) with hc159 | hc159
    · rcases n154 with _ | n154
      · exact (cnt0 hi158 hc159).elim
      refine CW.cond_t rfl hc159 ?_
      refine CW.skip ?_
      refine QW.next ?_
      refine CW.seq ?_
      refine CW.block ?_
      refine CW.seq ?_
      refine CW.region ?_
      obtain ⟨x169, hx170, hl155⟩ := bind_some' hl155
      obtain ⟨g172, o173, c174, hv171⟩ := h0.formv (fun _ => ⟨_, rfl⟩) hx170
      refine OW.idx 32 5 rfl rfl rfl rfl hv171 rfl (idx_some hx170).1 (idx_some hx170).2.1 (by kernel_rfl) (by kernel_rfl) ?_
      refine OW.ldN (cs := enc_api_Inst x169) rfl rfl rfl rfl (by kernel_rfl) (by kernel_rfl) (h0.cellv hst hx170 hv171) ?_
      refine OW.alloc hst rfl rfl rfl [.int .i64 0, .int .i64 0, .int .i64 0, .int .i64 0, .int .i64 0] (by kernel_rfl) ?_
      intro b175 w176 hst
      refine OW.stB hst 0 rfl rfl rfl rfl rfl (by kernel_rfl) rfl rfl [.int .i64 x169.Op, .int .i64 x169.D, .int .i64 x169.A, .int .i64 x169.B, .int .i64 x169.Imm] rfl ?_
      intro w177 hst
      refine OW.nil rfl ?_
      refine QW.next ?_
      refine CW.seq ?_
      refine CW.region ?_
      refine OW.ldN (cs := [.int .i64 x169.Op, .int .i64 x169.D, .int .i64 x169.A, .int .i64 x169.B, .int .i64 x169.Imm]) rfl rfl rfl rfl (by kernel_rfl) (by kernel_rfl) (hst.blkN 0 rfl 0 5) ?_
      obtain ⟨r182, hr183, hl155⟩ := bind_some' hl155
      refine OW.fn rfl rfl rfl rfl (by kernel_rfl) (ops_right_ok _ x169 r182 hr183 (hst.part [] rfl) (hT0.give hst [])) ?_
      rintro e w184 ⟨rfl, hst185⟩
      refine ⟨_, rfl, ?_⟩
      have hst := hst.join (idx := []) (rest := [0]) rfl hst185
      refine OW.pure 1 [(13, .bool (!r182))] (by kernel_rfl) ?_
      refine OW.nil rfl ?_
      refine QW.next ?_
      rcases Bool.eq_false_or_eq_true ((!r182)) with hc186 | hc186
      · have hl155 := ite_t hl155 hc186
        refine CW.cond_t rfl hc186 ?_
        refine CW.seq ?_
        refine CW.region ?_
        refine OW.pure 1 [(2, .bool false)] (by kernel_rfl) ?_
        refine OW.nil rfl ?_
        refine QW.next ?_
        refine CW.ret ?_
        refine QW.block_ret ?_
        refine QW.then_ret ?_
        refine QW.then_ret ?_
        refine QW.block_ret ?_
        refine QW.then_ret ?_
        obtain rfl := Option.some.inj hl155
        obtain rfl := Option.some.inj hF
        refine QW.ret1 rfl rfl ?_
        exact ⟨rfl, hst.keep [] rfl⟩
      · have hl155 := ite_f hl155 hc186
        refine CW.cond_f rfl hc186 ?_
        refine CW.skip ?_
        refine QW.block_normal ?_
        refine QW.next ?_
        refine CW.region ?_
        refine OW.pure 2 [(7, .int .i64 (w64 ((i157 : Int) + 1)))] (by kernel_rfl) ?_
        refine OW.nil rfl ?_
        refine QW.say 7 rfl (congrArg (Value.int .i64) (w64_cnt hc159 l1)) ?_
        exact QW.meet (fun a ha => ⟨n154, Nat.lt_succ_self _, i157 + 1, (), cnt_next hi158, ha.agrees (by kernel_rfl), hst.keep [] rfl, hl155⟩)
    · rcases n154 with _ | n154
      · refine CW.cond_f rfl hc159 ?_
        refine CW.exit ?_
        refine QW.then_exit ?_
        refine QW.then_exit ?_
        refine QW.block_here ?_
        obtain rfl := Option.some.inj hl155
        exact QW.meet (fun a ha => ⟨(), rfl, ha.agrees (by kernel_rfl), hst.keep [] rfl⟩)
      · exact (cnt1 hi158 hc159).elim
  · rintro a w1 ⟨t96, rfl, ha, hst⟩
    refine CW.go ?_ ha
    refine CW.seq ?_
    refine CW.region ?_
    refine OW.pure 1 [(2, .bool true)] (by kernel_rfl) ?_
    refine OW.nil rfl ?_
    refine QW.next ?_
    refine CW.ret ?_
    obtain rfl := Option.some.inj hF
    refine QW.ret1 rfl rfl ?_
    exact ⟨rfl, hst.keep [] rfl⟩

set_option maxRecDepth 10000 in
theorem flow_places_ok (w : World) (v0 : Value) (p0 : List api_Inst) (r : Int × Int) (hF : flow_places p0 = some r)
    (hst : St w (fp []) w []) (h0 : Rd w (fp []) v0 enc_api_Inst 5 p0) (hT0 : Rd w (fp []) (.slice (some ⟨0, 0, none⟩) 23 23) enc_ops_form 2 tab_g0) :
    Calls Tryd.prog 22 [v0].toArray w (fun e w' => e = .returned (.tuple #[.int .i64 r.1, .int .i64 r.2]) ∧ St w (fp []) w' []) := by
  refine CW.start (N := 56) Tryd.func22 rfl rfl rfl ?_
  obtain ⟨l1, a2, c3, rfl⟩ := h0.len
  refine CW.seq ?_
  refine CW.region ?_
  refine OW.pure 2 [] (by kernel_rfl) ?_
  refine OW.nil rfl ?_
  refine QW.next ?_
  refine CW.seq ?_
  refine CW.seq ?_
  refine CW.region ?_
  refine OW.pure 3 [(9, .slice a2 (p0).length c3), (10, .int .i64 (((p0).length) : Int)), (11, .int .i64 0)] (by kernel_rfl) ?_
  refine OW.nil rfl ?_
  refine QW.next ?_
  obtain ⟨o145, ho146, hF⟩ := bind_some' hF
  refine CW.cutK (fun a w1 => ∃ (t147 : Unit), o145 = .inl t147 ∧ Rep 56 [] a ∧ St w (fp []) w1 []) ?_ ?_
  · refine CW.block ?_
    refine CW.loop (fun n a w1 => ∃ (i242 : Nat) (s241 : Unit), i242 + n = (p0).length ∧ Rep 56 [(0, .slice a2 (p0).length c3), (9, .slice a2 (p0).length c3), (10, .int .i64 (((p0).length) : Int)), (11, .int .i64 (i242 : Int))] a ∧ St w (fp []) w1 [] ∧ forN (flow_places_l1 p0) (fun (s241 : Unit) => (.inl ())) n i242 s241 = some o145) ((p0).length) (fun a ha => ⟨0, (), Nat.zero_add _, ha.agrees (by kernel_rfl), hst.keep [] rfl, ho146⟩) ?_
    rintro n239 a w1 ⟨i242, s241, hi243, ha, hst, hl240⟩
    refine CW.go ?_ ha
    refine CW.seq ?_
    refine CW.region ?_
    refine OW.pure 1 [(12, .bool (decide ((i242 : Int) < (((p0).length) : Int))))] (by kernel_rfl) ?_
    refine OW.nil rfl ?_
    refine QW.next ?_
    refine CW.seq ?_
    rcases Bool.eq_false_or_eq_true (decide ((i242 : Int) < (((p0).length) : Int))) with hc244 | hc244
    · rcases n239 with _ | n239
      · exact (cnt0 hi243 hc244).elim
      refine CW.cond_t rfl hc244 ?_
      refine CW.skip ?_
      refine QW.next ?_
      refine CW.seq ?_
      refine CW.block ?_
      refine CW.seq ?_
      refine CW.region ?_
      refine OW.pure 1 [(13, .int .i64 (i242 : Int))] (by kernel_rfl) ?_
      obtain ⟨x254, hx255, hl240⟩ := bind_some' hl240
      obtain ⟨g257, o258, c259, hv256⟩ := h0.formv (fun _ => ⟨_, rfl⟩) hx255
      refine OW.idx 32 5 rfl rfl rfl rfl hv256 rfl (idx_some hx255).1 (idx_some hx255).2.1 (by kernel_rfl) (by kernel_rfl) ?_
      refine OW.ldN (cs := enc_api_Inst x254) rfl rfl rfl rfl (by kernel_rfl) (by kernel_rfl) (h0.cellv hst hx255 hv256) ?_
      refine OW.alloc hst rfl rfl rfl [.int .i64 0, .int .i64 0, .int .i64 0, .int .i64 0, .int .i64 0] (by kernel_rfl) ?_
      intro b260 w261 hst
      refine OW.pure 1 [(4, .int .i64 (i242 : Int))] (by kernel_rfl) ?_
      refine OW.stB hst 0 rfl rfl rfl rfl rfl (by kernel_rfl) rfl rfl [.int .i64 x254.Op, .int .i64 x254.D, .int .i64 x254.A, .int .i64 x254.B, .int .i64 x254.Imm] rfl ?_
      intro w262 hst
      refine OW.nil rfl ?_
      refine QW.next ?_
      refine CW.seq ?_
      refine CW.region ?_
      refine OW.ldN (cs := [.int .i64 x254.Op, .int .i64 x254.D, .int .i64 x254.A, .int .i64 x254.B, .int .i64 x254.Imm]) rfl rfl rfl rfl (by kernel_rfl) (by kernel_rfl) (hst.blkN 0 rfl 0 5) ?_
      obtain ⟨r267, hr268, hl240⟩ := bind_some' hl240
      refine OW.fn rfl rfl rfl rfl (by kernel_rfl) (ops_Goes_ok _ x254 r267 hr268 (hst.part [] rfl) (hT0.give hst [])) ?_
      rintro e w269 ⟨rfl, hst270⟩
      refine ⟨_, rfl, ?_⟩
      have hst := hst.join (idx := []) (rest := [0]) rfl hst270
      refine OW.pure 7 [(6, .int .i64 r267.1), (7, .bool r267.2.1), (8, .bool r267.2.2)] (by kernel_rfl) ?_
      refine OW.nil rfl ?_
      refine QW.next ?_
      refine CW.block ?_
      refine CW.seq ?_
      refine CW.region ?_
      refine OW.ldN (cs := [.int .i64 x254.Op, .int .i64 x254.D, .int .i64 x254.A, .int .i64 x254.B, .int .i64 x254.Imm]) rfl rfl rfl rfl (by kernel_rfl) (by kernel_rfl) (hst.blkN 0 rfl 0 5) ?_
      refine OW.row (α := api_Inst) (e := 32) (enc := enc_api_Inst) (sz := 5) hst rfl rfl rfl [x254] rfl (fun _ => rfl) rfl rfl (fun _ => by kernel_rfl) ?_
      intro g277 w278 hst
      obtain ⟨r279, hr280, hl240⟩ := bind_some' hl240
      refine OW.fn rfl rfl rfl rfl (by kernel_rfl) (ops_Right_ok _ (.slice (some ⟨g277, 0, none⟩) 1 1) ([x254]) r279 hr280 (hst.part [] rfl) (hst.rd 1 rfl (fun _ => rfl) [] rfl (hst.len 1 rfl).1) (hT0.give hst [])) ?_
      rintro e w281 ⟨rfl, hst282⟩
      refine ⟨_, rfl, ?_⟩
      have hst := hst.join (idx := []) (rest := [0, 1]) rfl hst282
      refine OW.pure 2 [(22, .bool (!r279))] (by kernel_rfl) ?_
      refine OW.nil rfl ?_
      refine QW.next ?_
      rcases Bool.eq_false_or_eq_true ((!r279)) with hc283 | hc283
      · have hl240 := ite_t hl240 hc283
        refine CW.cond_t rfl hc283 ?_
        refine CW.seq ?_
        refine CW.region ?_
        refine OW.pure 3 [(2, .int .i64 (i242 : Int)), (3, .int .i64 12)] (by kernel_rfl) ?_
        refine OW.nil rfl ?_
        refine QW.next ?_
        refine CW.ret ?_
        refine QW.block_ret ?_
        refine QW.block_ret ?_
        refine QW.then_ret ?_
        refine QW.then_ret ?_
        refine QW.block_ret ?_
        refine QW.then_ret ?_
        obtain rfl := Option.some.inj hl240
        obtain rfl := Option.some.inj hF
        refine QW.ret2 rfl rfl rfl ?_
        exact ⟨rfl, hst.keep [] rfl⟩
      · have hl240 := ite_f hl240 hc283
        refine CW.cond_f rfl hc283 ?_
        refine CW.seq ?_
        refine CW.cutK (fun a w1 => Rep 56 [(0, .slice a2 (p0).length c3), (4, .int .i64 (i242 : Int)), (8, .bool r267.2.2), (9, .slice a2 (p0).length c3), (10, .int .i64 (((p0).length) : Int)), (11, .int .i64 (i242 : Int)), (28, .bool (r267.2.1 && (decide ((w64 ((i242 : Int) + r267.1)) < 0) || decide ((w64 ((i242 : Int) + r267.1)) ≥ (((p0).length) : Int)))))] a ∧ St w (fp []) w1 []) ?_ ?_
        · refine CW.region ?_
          refine OW.pure 2 [(30, .bool r267.2.1)] (by kernel_rfl) ?_
          refine OW.split 30 rfl (fun hc284 => ?_) (fun hc284 => ?_)
          · refine OW.pure 5 [(35, .bool (decide ((w64 ((i242 : Int) + r267.1)) < 0)))] (by kernel_rfl) ?_
            refine OW.split 35 rfl (fun hc285 => ?_) (fun hc285 => ?_)
            · refine OW.pure 9 [(28, .bool true)] (by kernel_rfl) ?_
              refine OW.nil rfl ?_
              refine QW.say 28 (v := .bool (r267.2.1 && (decide ((w64 ((i242 : Int) + r267.1)) < 0) || decide ((w64 ((i242 : Int) + r267.1)) ≥ (((p0).length) : Int))))) rfl (by first | (rw [hc284, hc285]; done) | (rw [hc284, hc285]; rfl) | simp [hc284, hc285]) ?_
              exact QW.meet (fun a ha => ⟨ha.agrees (by kernel_rfl), hst.keep [] rfl⟩)
            · refine OW.pure 9 [(28, .bool (decide ((w64 ((i242 : Int) + r267.1)) ≥ (((p0).length) : Int))))] (by kernel_rfl) ?_
              refine OW.nil rfl ?_
              refine QW.say 28 (v := .bool (r267.2.1 && (decide ((w64 ((i242 : Int) + r267.1)) < 0) || decide ((w64 ((i242 : Int) + r267.1)) ≥ (((p0).length) : Int))))) rfl (by first | (rw [hc284, hc285]; done) | (rw [hc284, hc285]; rfl) | simp [hc284, hc285]) ?_
              exact QW.meet (fun a ha => ⟨ha.agrees (by kernel_rfl), hst.keep [] rfl⟩)
          · refine OW.pure 14 [(28, .bool false)] (by kernel_rfl) ?_
            refine OW.nil rfl ?_
            refine QW.say 28 (v := .bool (r267.2.1 && (decide ((w64 ((i242 : Int) + r267.1)) < 0) || decide ((w64 ((i242 : Int) + r267.1)) ≥ (((p0).length) : Int))))) rfl (by first | (rw [hc284]; done) | (rw [hc284]; rfl) | simp [hc284]) ?_
            exact QW.meet (fun a ha => ⟨ha.agrees (by kernel_rfl), hst.keep [] rfl⟩)
        · rintro a w1 ⟨ha, hst⟩
          refine CW.go ?_ ha
          rcases Bool.eq_false_or_eq_true ((r267.2.1 && (decide ((w64 ((i242 : Int) + r267.1)) < 0) || decide ((w64 ((i242 : Int) + r267.1)) ≥ (((p0).length) : Int))))) with hc286 | hc286
          · have hl240 := ite_t hl240 hc286
            refine CW.cond_t rfl hc286 ?_
            refine CW.seq ?_
            refine CW.region ?_
            refine OW.pure 3 [(2, .int .i64 (i242 : Int)), (3, .int .i64 30)] (by kernel_rfl) ?_
            refine OW.nil rfl ?_
            refine QW.next ?_
            refine CW.ret ?_
            refine QW.block_ret ?_
            refine QW.block_ret ?_
            refine QW.then_ret ?_
            refine QW.then_ret ?_
            refine QW.block_ret ?_
            refine QW.then_ret ?_
            obtain rfl := Option.some.inj hl240
            obtain rfl := Option.some.inj hF
            refine QW.ret2 rfl rfl rfl ?_
            exact ⟨rfl, hst.keep [] rfl⟩
          · have hl240 := ite_f hl240 hc286
            refine CW.cond_f rfl hc286 ?_
            refine CW.seq ?_
            refine CW.cutK (fun a w1 => Rep 56 [(0, .slice a2 (p0).length c3), (4, .int .i64 (i242 : Int)), (9, .slice a2 (p0).length c3), (10, .int .i64 (((p0).length) : Int)), (11, .int .i64 (i242 : Int)), (45, .bool (r267.2.2 && ((i242 : Int) == (w64 ((((p0).length) : Int) - 1)))))] a ∧ St w (fp []) w1 []) ?_ ?_
            · refine CW.region ?_
              refine OW.pure 2 [(47, .bool r267.2.2)] (by kernel_rfl) ?_
              refine OW.split 47 rfl (fun hc287 => ?_) (fun hc287 => ?_)
              · refine OW.pure 7 [(45, .bool ((i242 : Int) == (w64 ((((p0).length) : Int) - 1))))] (by kernel_rfl) ?_
                refine OW.nil rfl ?_
                refine QW.say 45 (v := .bool (r267.2.2 && ((i242 : Int) == (w64 ((((p0).length) : Int) - 1))))) rfl (by first | (rw [hc287]; done) | (rw [hc287]; rfl) | simp [hc287]) ?_
                exact QW.meet (fun a ha => ⟨ha.agrees (by kernel_rfl), hst.keep [] rfl⟩)
              · refine OW.pure 7 [(45, .bool false)] (by kernel_rfl) ?_
                refine OW.nil rfl ?_
                refine QW.say 45 (v := .bool (r267.2.2 && ((i242 : Int) == (w64 ((((p0).length) : Int) - 1))))) rfl (by first | (rw [hc287]; done) | (rw [hc287]; rfl) | simp [hc287]) ?_
                exact QW.meet (fun a ha => ⟨ha.agrees (by kernel_rfl), hst.keep [] rfl⟩)
            · rintro a w1 ⟨ha, hst⟩
              refine CW.go ?_ ha
              rcases Bool.eq_false_or_eq_true ((r267.2.2 && ((i242 : Int) == (w64 ((((p0).length) : Int) - 1))))) with hc288 | hc288
              · have hl240 := ite_t hl240 hc288
                refine CW.cond_t rfl hc288 ?_
                refine CW.seq ?_
                refine CW.region ?_
                refine OW.pure 3 [(2, .int .i64 (i242 : Int)), (3, .int .i64 36)] (by kernel_rfl) ?_
                refine OW.nil rfl ?_
                refine QW.next ?_
                refine CW.ret ?_
                refine QW.block_ret ?_
                refine QW.block_ret ?_
                refine QW.then_ret ?_
                refine QW.then_ret ?_
                refine QW.block_ret ?_
                refine QW.then_ret ?_
                obtain rfl := Option.some.inj hl240
                obtain rfl := Option.some.inj hF
                refine QW.ret2 rfl rfl rfl ?_
                exact ⟨rfl, hst.keep [] rfl⟩
              · have hl240 := ite_f hl240 hc288
                refine CW.cond_f rfl hc288 ?_
                refine CW.skip ?_
                refine QW.block_normal ?_
                refine QW.block_normal ?_
                refine QW.next ?_
                refine CW.region ?_
                refine OW.pure 2 [(11, .int .i64 (w64 ((i242 : Int) + 1)))] (by kernel_rfl) ?_
                refine OW.nil rfl ?_
                refine QW.say 11 rfl (congrArg (Value.int .i64) (w64_cnt hc244 l1)) ?_
                exact QW.meet (fun a ha => ⟨n239, Nat.lt_succ_self _, i242 + 1, (), cnt_next hi243, ha.agrees (by kernel_rfl), hst.keep [] rfl, hl240⟩)
    · rcases n239 with _ | n239
      · refine CW.cond_f rfl hc244 ?_
        refine CW.exit ?_
        refine QW.then_exit ?_
        refine QW.then_exit ?_
        refine QW.block_here ?_
        obtain rfl := Option.some.inj hl240
        exact QW.meet (fun a ha => ⟨(), rfl, ha.agrees (by kernel_rfl), hst.keep [] rfl⟩)
      · exact (cnt1 hi243 hc244).elim
  · rintro a w1 ⟨t147, rfl, ha, hst⟩
    refine CW.go ?_ ha
    refine CW.seq ?_
    refine CW.region ?_
    refine OW.pure 2 [(2, .int .i64 0), (3, .int .i64 0)] (by kernel_rfl) ?_
    refine OW.nil rfl ?_
    refine QW.next ?_
    refine CW.ret ?_
    obtain rfl := Option.some.inj hF
    refine QW.ret2 rfl rfl rfl ?_
    exact ⟨rfl, hst.keep [] rfl⟩

set_option maxRecDepth 10000 in
theorem flow_loops_ok (w : World) (v0 : Value) (p0 : List api_Inst) (r : (List api_Loop)) (hF : flow_loops p0 = some r)
    (hst : St w (fp []) w []) (h0 : Rd w (fp []) v0 enc_api_Inst 5 p0) :
    Calls Tryd.prog 31 [v0].toArray w (fun e w' => ∃ (x0 : Value), e = .returned (x0) ∧ St w (fp []) w' [rowI x0 40 enc_api_Loop 3 r]) := by
  refine CW.start (N := 29) Tryd.func31 rfl rfl rfl ?_
  obtain ⟨l1, a2, c3, rfl⟩ := h0.len
  refine CW.seq ?_
  refine CW.region ?_
  refine OW.pure 1 [] (by kernel_rfl) ?_
  refine OW.nil rfl ?_
  refine QW.next ?_
  refine CW.seq ?_
  refine CW.region ?_
  refine OW.pure 1 [(3, .slice none 0 0)] (by kernel_rfl) ?_
  refine OW.nil rfl ?_
  refine QW.next ?_
  refine CW.seq ?_
  refine CW.seq ?_
  refine CW.region ?_
  refine OW.pure 3 [(6, .slice a2 (p0).length c3), (7, .int .i64 (((p0).length) : Int)), (8, .int .i64 0)] (by kernel_rfl) ?_
  refine OW.nil rfl ?_
  refine QW.next ?_
  obtain ⟨o139, ho140, hF⟩ := bind_some' hF
  refine CW.cutK (fun a w1 => ∃ (v138 : Value), Rep 29 [(3, v138)] a ∧ St w (fp []) w1 [rowI v138 40 enc_api_Loop 3 o139]) ?_ ?_
  · refine CW.block ?_
    have hst := hst.nilRow api_Loop 40 enc_api_Loop 3
    refine CW.loop (fun n a w1 => ∃ (i231 : Nat) (s229 : (List api_Loop)) (v230 : Value), i231 + n = (p0).length ∧ Rep 29 [(3, v230), (6, .slice a2 (p0).length c3), (7, .int .i64 (((p0).length) : Int)), (8, .int .i64 (i231 : Int))] a ∧ St w (fp []) w1 [rowI v230 40 enc_api_Loop 3 s229] ∧ forN (flow_loops_l1 p0) (fun (s229 : (List api_Loop)) => s229) n i231 s229 = some o139) ((p0).length) (fun a ha => ⟨0, ([] : List api_Loop), (.slice none 0 0), Nat.zero_add _, ha.agrees (by kernel_rfl), hst.keep [0] rfl, ho140⟩) ?_
    rintro n227 a w1 ⟨i231, s229, v230, hi232, ha, hst, hl228⟩
    refine CW.go ?_ ha
    obtain ⟨l233, a234, c235, rfl⟩ := hst.len 0 rfl
    refine CW.seq ?_
    refine CW.region ?_
    refine OW.pure 1 [(9, .bool (decide ((i231 : Int) < (((p0).length) : Int))))] (by kernel_rfl) ?_
    refine OW.nil rfl ?_
    refine QW.next ?_
    refine CW.seq ?_
    rcases Bool.eq_false_or_eq_true (decide ((i231 : Int) < (((p0).length) : Int))) with hc236 | hc236
    · rcases n227 with _ | n227
      · exact (cnt0 hi232 hc236).elim
      refine CW.cond_t rfl hc236 ?_
      refine CW.skip ?_
      refine QW.next ?_
      refine CW.seq ?_
      refine CW.block ?_
      refine CW.seq ?_
      refine CW.region ?_
      refine OW.pure 1 [(10, .int .i64 (i231 : Int))] (by kernel_rfl) ?_
      obtain ⟨x246, hx247, hl228⟩ := bind_some' hl228
      obtain ⟨g249, o250, c251, hv248⟩ := h0.formv (fun _ => ⟨_, rfl⟩) hx247
      refine OW.idx 32 5 rfl rfl rfl rfl hv248 rfl (idx_some hx247).1 (idx_some hx247).2.1 (by kernel_rfl) (by kernel_rfl) ?_
      refine OW.ldN (cs := enc_api_Inst x246) rfl rfl rfl rfl (by kernel_rfl) (by kernel_rfl) (h0.cellv hst hx247 hv248) ?_
      refine OW.alloc hst rfl rfl rfl [.int .i64 0, .int .i64 0, .int .i64 0, .int .i64 0, .int .i64 0] (by kernel_rfl) ?_
      intro b252 w253 hst
      refine OW.pure 1 [(4, .int .i64 (i231 : Int))] (by kernel_rfl) ?_
      refine OW.stB hst 1 rfl rfl rfl rfl rfl (by kernel_rfl) rfl rfl [.int .i64 x246.Op, .int .i64 x246.D, .int .i64 x246.A, .int .i64 x246.B, .int .i64 x246.Imm] rfl ?_
      intro w254 hst
      refine OW.nil rfl ?_
      refine QW.next ?_
      refine CW.seq ?_
      refine CW.region ?_
      refine OW.pure 1 [(13, .pointer (some ⟨b252, 0, none⟩))] (by kernel_rfl) ?_
      refine OW.ld rfl rfl rfl rfl (by kernel_rfl) (hst.blk 1 rfl rfl) ?_
      refine OW.pure 1 [(15, .bool (x246.Op == 20))] (by kernel_rfl) ?_
      refine OW.nil rfl ?_
      refine QW.next ?_
      rcases Bool.eq_false_or_eq_true ((x246.Op == 20)) with hc255 | hc255
      · have hl228 := ite_t hl228 hc255
        refine CW.cond_t rfl hc255 ?_
        refine CW.region ?_
        refine OW.pure 3 [(16, .slice a234 (s229).length c235), (17, .int .i64 (i231 : Int)), (18, .pointer (some ⟨b252, 1, none⟩))] (by kernel_rfl) ?_
        refine OW.ld rfl rfl rfl rfl (by kernel_rfl) (hst.blk 1 rfl rfl) ?_
        refine OW.pure 3 [(20, .int .i64 (w64 ((i231 : Int) - x246.D))), (21, .int .i64 (i231 : Int)), (22, .pointer (some ⟨b252, 4, none⟩))] (by kernel_rfl) ?_
        refine OW.ld rfl rfl rfl rfl (by kernel_rfl) (hst.blk 1 rfl rfl) ?_
        refine OW.pure 1 [(24, .agg [.int .i64 (w64 ((i231 : Int) - x246.D)), .int .i64 (i231 : Int), .int .i64 x246.Imm].toArray)] (by kernel_rfl) ?_
        refine OW.row (α := api_Loop) (e := 40) (enc := enc_api_Loop) (sz := 3) hst rfl rfl rfl [(api_Loop.mk (w64 ((i231 : Int) - x246.D)) (i231 : Int) x246.Imm)] rfl (fun _ => rfl) rfl rfl (fun _ => by kernel_rfl) ?_
        intro g265 w266 hst
        obtain ⟨u267, hr268, hl228⟩ := bind_some' hl228
        refine OW.app hst 0 rfl (fun _ => rfl) (fun _ => rfl) rfl rfl rfl rfl rfl rfl (by kernel_rfl) el40 (hst.rd 2 rfl (fun _ => rfl) [] rfl (hst.len 2 rfl).1) (room_le hr268) ?_
        intro v269 w270 hst
        obtain ⟨l271, a272, c273, rfl⟩ := hst.len 0 rfl
        refine OW.pure 1 [(3, .slice a272 ((s229 ++ [(api_Loop.mk (w64 ((i231 : Int) - x246.D)) (i231 : Int) x246.Imm)])).length c273)] (by kernel_rfl) ?_
        refine OW.nil rfl ?_
        refine QW.block_normal ?_
        refine QW.next ?_
        refine CW.region ?_
        refine OW.pure 2 [(8, .int .i64 (w64 ((i231 : Int) + 1)))] (by kernel_rfl) ?_
        refine OW.nil rfl ?_
        refine QW.say 8 rfl (congrArg (Value.int .i64) (w64_cnt hc236 l1)) ?_
        exact QW.meet (fun a ha => ⟨n227, Nat.lt_succ_self _, i231 + 1, (s229 ++ [(api_Loop.mk (w64 ((i231 : Int) - x246.D)) (i231 : Int) x246.Imm)]), (.slice a272 ((s229 ++ [(api_Loop.mk (w64 ((i231 : Int) - x246.D)) (i231 : Int) x246.Imm)])).length c273), cnt_next hi232, ha.agrees (by kernel_rfl), hst.keep [0] rfl, hl228⟩)
      · have hl228 := ite_f hl228 hc255
        refine CW.cond_f rfl hc255 ?_
        refine CW.skip ?_
        refine QW.block_normal ?_
        refine QW.next ?_
        refine CW.region ?_
        refine OW.pure 2 [(8, .int .i64 (w64 ((i231 : Int) + 1)))] (by kernel_rfl) ?_
        refine OW.nil rfl ?_
        refine QW.say 8 rfl (congrArg (Value.int .i64) (w64_cnt hc236 l1)) ?_
        exact QW.meet (fun a ha => ⟨n227, Nat.lt_succ_self _, i231 + 1, s229, (.slice a234 (s229).length c235), cnt_next hi232, ha.agrees (by kernel_rfl), hst.keep [0] rfl, hl228⟩)
    · rcases n227 with _ | n227
      · refine CW.cond_f rfl hc236 ?_
        refine CW.exit ?_
        refine QW.then_exit ?_
        refine QW.then_exit ?_
        refine QW.block_here ?_
        obtain rfl := Option.some.inj hl228
        exact QW.meet (fun a ha => ⟨(.slice a234 (s229).length c235), ha.agrees (by kernel_rfl), hst.keep [0] rfl⟩)
      · exact (cnt1 hi232 hc236).elim
  · rintro a w1 ⟨v138, ha, hst⟩
    refine CW.go ?_ ha
    obtain ⟨l277, a278, c279, rfl⟩ := hst.len 0 rfl
    refine CW.seq ?_
    refine CW.region ?_
    refine OW.pure 2 [(2, .slice a278 (o139).length c279)] (by kernel_rfl) ?_
    refine OW.nil rfl ?_
    refine QW.next ?_
    refine CW.ret ?_
    obtain rfl := Option.some.inj hF
    refine QW.ret1 rfl rfl ?_
    exact ⟨(.slice a278 (o139).length c279), rfl, hst.keep [0] rfl⟩

set_option maxRecDepth 10000 in
theorem flow_in_ok (w : World) (p0 : api_Loop) (p1 : Int) (r : Bool) (hF : flow_in p0 p1 = some r)
    (hst : St w (fp []) w []) :
    Calls Tryd.prog 33 [.agg [.int .i64 p0.Head, .int .i64 p0.At, .int .i64 p0.Bound].toArray, .int .i64 p1].toArray w (fun e w' => e = .returned (.bool r) ∧ St w (fp []) w' []) := by
  refine CW.start (N := 15) Tryd.func33 rfl rfl rfl ?_
  refine CW.seq ?_
  refine CW.region ?_
  refine OW.box hst rfl rfl rfl rfl [.int .i64 p0.Head, .int .i64 p0.At, .int .i64 p0.Bound] rfl ?_
  intro b3 w4 hst
  refine OW.pure 1 [] (by kernel_rfl) ?_
  refine OW.nil rfl ?_
  refine QW.next ?_
  refine CW.seq ?_
  refine CW.cutK (fun a w1 => Rep 15 [(4, .bool (decide (p1 ≥ p0.Head) && decide (p1 ≤ p0.At)))] a ∧ St w (fp []) w1 []) ?_ ?_
  · refine CW.region ?_
    refine OW.pure 2 [(5, .int .i64 p1), (6, .pointer (some ⟨b3, 0, none⟩))] (by kernel_rfl) ?_
    refine OW.ld rfl rfl rfl rfl (by kernel_rfl) (hst.blk 0 rfl rfl) ?_
    refine OW.pure 2 [(9, .bool (decide (p1 ≥ p0.Head)))] (by kernel_rfl) ?_
    refine OW.split 9 rfl (fun hc5 => ?_) (fun hc5 => ?_)
    · refine OW.pure 2 [(10, .int .i64 p1), (11, .pointer (some ⟨b3, 1, none⟩))] (by kernel_rfl) ?_
      refine OW.ld rfl rfl rfl rfl (by kernel_rfl) (hst.blk 0 rfl rfl) ?_
      refine OW.pure 3 [(4, .bool (decide (p1 ≤ p0.At)))] (by kernel_rfl) ?_
      refine OW.nil rfl ?_
      refine QW.say 4 (v := .bool (decide (p1 ≥ p0.Head) && decide (p1 ≤ p0.At))) rfl (by first | (rw [hc5]; done) | (rw [hc5]; rfl) | simp [hc5]) ?_
      exact QW.meet (fun a ha => ⟨ha.agrees (by kernel_rfl), hst.keep [] rfl⟩)
    · refine OW.pure 6 [(4, .bool false)] (by kernel_rfl) ?_
      refine OW.nil rfl ?_
      refine QW.say 4 (v := .bool (decide (p1 ≥ p0.Head) && decide (p1 ≤ p0.At))) rfl (by first | (rw [hc5]; done) | (rw [hc5]; rfl) | simp [hc5]) ?_
      exact QW.meet (fun a ha => ⟨ha.agrees (by kernel_rfl), hst.keep [] rfl⟩)
  · rintro a w1 ⟨ha, hst⟩
    refine CW.go ?_ ha
    refine CW.ret ?_
    obtain rfl := Option.some.inj hF
    refine QW.ret1 rfl rfl ?_
    exact ⟨rfl, hst.keep [] rfl⟩

set_option maxRecDepth 10000 in
theorem flow_nested_ok (w : World) (v0 : Value) (p0 : List api_Inst) (r : Int × Int) (hF : flow_nested p0 = some r)
    (hst : St w (fp []) w []) (h0 : Rd w (fp []) v0 enc_api_Inst 5 p0) (hT0 : Rd w (fp []) (.slice (some ⟨0, 0, none⟩) 23 23) enc_ops_form 2 tab_g0) :
    Calls Tryd.prog 23 [v0].toArray w (fun e w' => e = .returned (.tuple #[.int .i64 r.1, .int .i64 r.2]) ∧ St w (fp []) w' []) := by
  refine CW.start (N := 97) Tryd.func23 rfl rfl rfl ?_
  obtain ⟨l1, a2, c3, rfl⟩ := h0.len
  refine CW.seq ?_
  refine CW.region ?_
  refine OW.pure 2 [] (by kernel_rfl) ?_
  refine OW.nil rfl ?_
  refine QW.next ?_
  refine CW.seq ?_
  refine CW.region ?_
  refine OW.pure 1 [(16, .slice a2 (p0).length c3)] (by kernel_rfl) ?_
  obtain ⟨r12, hr13, hF⟩ := bind_some' hF
  refine OW.fn rfl rfl rfl rfl (by kernel_rfl) (flow_loops_ok _ (.slice a2 (p0).length c3) p0 r12 hr13 (hst.part [] rfl) (h0.give hst [])) ?_
  rintro e w14 ⟨v16, rfl, hst15⟩
  refine ⟨_, rfl, ?_⟩
  have hst := hst.join (idx := []) (rest := []) rfl hst15
  obtain ⟨l17, a18, c19, rfl⟩ := hst.len 0 rfl
  refine OW.pure 1 [(4, .slice a18 (r12).length c19)] (by kernel_rfl) ?_
  refine OW.nil rfl ?_
  refine QW.next ?_
  refine CW.seq ?_
  refine CW.seq ?_
  refine CW.region ?_
  refine OW.pure 3 [(18, .slice a18 (r12).length c19), (19, .int .i64 (((r12).length) : Int)), (20, .int .i64 0)] (by kernel_rfl) ?_
  refine OW.nil rfl ?_
  refine QW.next ?_
  obtain ⟨o548, ho549, hF⟩ := bind_some' hF
  refine CW.cutK (fun a w1 => ∃ (t550 : Unit), o548 = .inl t550 ∧ Rep 97 [(0, .slice a2 (p0).length c3), (4, .slice a18 (r12).length c19)] a ∧ St w (fp []) w1 [rowI (.slice a18 (r12).length c19) 40 enc_api_Loop 3 r12]) ?_ ?_
  · refine CW.block ?_
    refine CW.loop (fun n a w1 => ∃ (i903 : Nat) (s902 : Unit), i903 + n = (r12).length ∧ Rep 97 [(0, .slice a2 (p0).length c3), (4, .slice a18 (r12).length c19), (18, .slice a18 (r12).length c19), (19, .int .i64 (((r12).length) : Int)), (20, .int .i64 (i903 : Int))] a ∧ St w (fp []) w1 [rowI (.slice a18 (r12).length c19) 40 enc_api_Loop 3 r12] ∧ forN (flow_nested_l1 r12) (fun (s902 : Unit) => (.inl ())) n i903 s902 = some o548) ((r12).length) (fun a ha => ⟨0, (), Nat.zero_add _, ha.agrees (by kernel_rfl), hst.keep [0] rfl, ho549⟩) ?_
    rintro n900 a w1 ⟨i903, s902, hi904, ha, hst, hl901⟩
    refine CW.go ?_ ha
    refine CW.seq ?_
    refine CW.region ?_
    refine OW.pure 1 [(21, .bool (decide ((i903 : Int) < (((r12).length) : Int))))] (by kernel_rfl) ?_
    refine OW.nil rfl ?_
    refine QW.next ?_
    refine CW.seq ?_
    rcases Bool.eq_false_or_eq_true (decide ((i903 : Int) < (((r12).length) : Int))) with hc905 | hc905
    · rcases n900 with _ | n900
      · exact (cnt0 hi904 hc905).elim
      refine CW.cond_t rfl hc905 ?_
      refine CW.skip ?_
      refine QW.next ?_
      refine CW.seq ?_
      refine CW.block ?_
      refine CW.seq ?_
      refine CW.region ?_
      refine OW.pure 1 [(22, .int .i64 (i903 : Int))] (by kernel_rfl) ?_
      obtain ⟨x914, hx915, hl901⟩ := bind_some' hl901
      obtain ⟨g917, c918, hv916⟩ := hst.rowv 0 rfl hx915
      refine OW.idx 40 3 rfl rfl rfl rfl hv916 rfl (idx_some hx915).1 (idx_some hx915).2.1 (by kernel_rfl) (by kernel_rfl) ?_
      refine OW.ldN (cs := enc_api_Loop x914) rfl rfl rfl rfl (by kernel_rfl) (by kernel_rfl) (hst.rowc 0 rfl (fun _ => rfl) hx915 hv916) ?_
      refine OW.alloc hst rfl rfl rfl [.int .i64 0, .int .i64 0, .int .i64 0] (by kernel_rfl) ?_
      intro b919 w920 hst
      refine OW.pure 1 [(5, .int .i64 (i903 : Int))] (by kernel_rfl) ?_
      refine OW.stB hst 1 rfl rfl rfl rfl rfl (by kernel_rfl) rfl rfl [.int .i64 x914.Head, .int .i64 x914.At, .int .i64 x914.Bound] rfl ?_
      intro w921 hst
      refine OW.nil rfl ?_
      refine QW.next ?_
      refine CW.seq ?_
      refine CW.region ?_
      refine OW.pure 2 [(25, .slice a18 (r12).length c19), (26, .int .i64 (i903 : Int))] (by kernel_rfl) ?_
      obtain ⟨ys924, hcut925, hl901⟩ := bind_some' hl901
      refine OW.op (v := .slice a18 (ys924).length c19) rfl rfl rfl rfl (fun a ha => pre_run (e := 40) 3 rfl rfl rfl hcut925 (hst.cap 0 rfl) (by kernel_rfl) (by kernel_rfl) a _ ha) ?_
      refine OW.pure 2 [(28, .int .i64 (((ys924).length) : Int)), (29, .int .i64 0)] (by kernel_rfl) ?_
      refine OW.nil rfl ?_
      refine QW.next ?_
      obtain ⟨o1001, ho1002, hl901⟩ := bind_some' hl901
      refine CW.cutQ (fun a w1 => ∃ (t1003 : Unit), o1001 = .inl t1003 ∧ Rep 97 [(0, .slice a2 (p0).length c3), (4, .slice a18 (r12).length c19), (18, .slice a18 (r12).length c19), (19, .int .i64 (((r12).length) : Int)), (20, .int .i64 (i903 : Int))] a ∧ St w (fp []) w1 [rowI (.slice a18 (r12).length c19) 40 enc_api_Loop 3 r12]) ?_ ?_
      · refine CW.block ?_
        refine CW.loop (fun n a w1 => ∃ (i1054 : Nat) (s1053 : Unit), i1054 + n = (ys924).length ∧ Rep 97 [(0, .slice a2 (p0).length c3), (4, .slice a18 (r12).length c19), (6, .pointer (some ⟨b919, 0, none⟩)), (18, .slice a18 (r12).length c19), (19, .int .i64 (((r12).length) : Int)), (20, .int .i64 (i903 : Int)), (27, .slice a18 (ys924).length c19), (28, .int .i64 (((ys924).length) : Int)), (29, .int .i64 (i1054 : Int))] a ∧ St w (fp []) w1 [rowI (.slice a18 (r12).length c19) 40 enc_api_Loop 3 r12, blkI b919 40 [.int .i64 x914.Head, .int .i64 x914.At, .int .i64 x914.Bound]] ∧ forN (flow_nested_l2 x914 ys924) (fun (s1053 : Unit) => (.inl ())) n i1054 s1053 = some o1001) ((ys924).length) (fun a ha => ⟨0, (), Nat.zero_add _, ha.agrees (by kernel_rfl), hst.keep [0, 1] rfl, ho1002⟩) ?_
        rintro n1051 a w1 ⟨i1054, s1053, hi1055, ha, hst, hl1052⟩
        refine CW.go ?_ ha
        refine CW.seq ?_
        refine CW.region ?_
        refine OW.pure 1 [(30, .bool (decide ((i1054 : Int) < (((ys924).length) : Int))))] (by kernel_rfl) ?_
        refine OW.nil rfl ?_
        refine QW.next ?_
        refine CW.seq ?_
        rcases Bool.eq_false_or_eq_true (decide ((i1054 : Int) < (((ys924).length) : Int))) with hc1056 | hc1056
        · rcases n1051 with _ | n1051
          · exact (cnt0 hi1055 hc1056).elim
          refine CW.cond_t rfl hc1056 ?_
          refine CW.skip ?_
          refine QW.next ?_
          refine CW.seq ?_
          refine CW.block ?_
          refine CW.seq ?_
          refine CW.region ?_
          obtain ⟨x1067, hx1068, hl1052⟩ := bind_some' hl1052
          have hx1072 := pre_idx hcut925 hx1068
          obtain ⟨g1070, c1071, hv1069⟩ := hst.rowv 0 rfl hx1072
          refine OW.idx 40 3 rfl rfl rfl rfl (pre_hv hv1069) rfl (idx_some hx1068).1 (idx_some hx1068).2.1 (by kernel_rfl) (by kernel_rfl) ?_
          refine OW.ldN (cs := enc_api_Loop x1067) rfl rfl rfl rfl (by kernel_rfl) (by kernel_rfl) (hst.rowc 0 rfl (fun _ => rfl) hx1072 hv1069) ?_
          refine OW.alloc hst rfl rfl rfl [.int .i64 0, .int .i64 0, .int .i64 0] (by kernel_rfl) ?_
          intro b1074 w1075 hst
          refine OW.stB hst 2 rfl rfl rfl rfl rfl (by kernel_rfl) rfl rfl [.int .i64 x1067.Head, .int .i64 x1067.At, .int .i64 x1067.Bound] rfl ?_
          intro w1076 hst
          refine OW.nil rfl ?_
          refine QW.next ?_
          refine CW.seq ?_
          refine CW.cutK (fun a w1 => Rep 97 [(0, .slice a2 (p0).length c3), (4, .slice a18 (r12).length c19), (6, .pointer (some ⟨b919, 0, none⟩)), (18, .slice a18 (r12).length c19), (19, .int .i64 (((r12).length) : Int)), (20, .int .i64 (i903 : Int)), (27, .slice a18 (ys924).length c19), (28, .int .i64 (((ys924).length) : Int)), (29, .int .i64 (i1054 : Int)), (44, .bool (decide (x1067.At ≥ x914.Head) && decide (x1067.Head < x914.Head)))] a ∧ St w (fp []) w1 [rowI (.slice a18 (r12).length c19) 40 enc_api_Loop 3 r12, blkI b919 40 [.int .i64 x914.Head, .int .i64 x914.At, .int .i64 x914.Bound]]) ?_ ?_
          · refine CW.region ?_
            refine OW.pure 1 [(33, .pointer (some ⟨b1074, 1, none⟩))] (by kernel_rfl) ?_
            refine OW.ld rfl rfl rfl rfl (by kernel_rfl) (hst.blk 2 rfl rfl) ?_
            refine OW.pure 1 [(35, .pointer (some ⟨b919, 0, none⟩))] (by kernel_rfl) ?_
            refine OW.ld rfl rfl rfl rfl (by kernel_rfl) (hst.blk 1 rfl rfl) ?_
            refine OW.pure 2 [(38, .bool (decide (x1067.At ≥ x914.Head)))] (by kernel_rfl) ?_
            refine OW.split 38 rfl (fun hc1077 => ?_) (fun hc1077 => ?_)
            · refine OW.pure 1 [(39, .pointer (some ⟨b1074, 0, none⟩))] (by kernel_rfl) ?_
              refine OW.ld rfl rfl rfl rfl (by kernel_rfl) (hst.blk 2 rfl rfl) ?_
              refine OW.pure 1 [(41, .pointer (some ⟨b919, 0, none⟩))] (by kernel_rfl) ?_
              refine OW.ld rfl rfl rfl rfl (by kernel_rfl) (hst.blk 1 rfl rfl) ?_
              refine OW.pure 2 [(44, .bool (decide (x1067.Head < x914.Head)))] (by kernel_rfl) ?_
              refine OW.nil rfl ?_
              refine QW.say 44 (v := .bool (decide (x1067.At ≥ x914.Head) && decide (x1067.Head < x914.Head))) rfl (by first | (rw [hc1077]; done) | (rw [hc1077]; rfl) | simp [hc1077]) ?_
              exact QW.meet (fun a ha => ⟨ha.agrees (by kernel_rfl), hst.keep [0, 1] rfl⟩)
            · refine OW.pure 6 [(44, .bool false)] (by kernel_rfl) ?_
              refine OW.nil rfl ?_
              refine QW.say 44 (v := .bool (decide (x1067.At ≥ x914.Head) && decide (x1067.Head < x914.Head))) rfl (by first | (rw [hc1077]; done) | (rw [hc1077]; rfl) | simp [hc1077]) ?_
              exact QW.meet (fun a ha => ⟨ha.agrees (by kernel_rfl), hst.keep [0, 1] rfl⟩)
          · rintro a w1 ⟨ha, hst⟩
            refine CW.go ?_ ha
            rcases Bool.eq_false_or_eq_true ((decide (x1067.At ≥ x914.Head) && decide (x1067.Head < x914.Head))) with hc1078 | hc1078
            · have hl1052 := ite_t hl1052 hc1078
              refine CW.cond_t rfl hc1078 ?_
              refine CW.seq ?_
              refine CW.region ?_
              refine OW.pure 1 [(45, .pointer (some ⟨b919, 1, none⟩))] (by kernel_rfl) ?_
              refine OW.ld rfl rfl rfl rfl (by kernel_rfl) (hst.blk 1 rfl rfl) ?_
              refine OW.pure 2 [(2, .int .i64 x914.At), (3, .int .i64 31)] (by kernel_rfl) ?_
              refine OW.nil rfl ?_
              refine QW.next ?_
              refine CW.ret ?_
              refine QW.block_ret ?_
              refine QW.then_ret ?_
              refine QW.then_ret ?_
              refine QW.block_ret ?_
              refine QW.then_ret ?_
              refine QW.block_ret ?_
              refine QW.then_ret ?_
              refine QW.then_ret ?_
              refine QW.block_ret ?_
              refine QW.then_ret ?_
              obtain rfl := Option.some.inj hl1052
              obtain rfl := Option.some.inj hl901
              obtain rfl := Option.some.inj hF
              refine QW.ret2 rfl rfl rfl ?_
              exact ⟨rfl, hst.keep [] rfl⟩
            · have hl1052 := ite_f hl1052 hc1078
              refine CW.cond_f rfl hc1078 ?_
              refine CW.skip ?_
              refine QW.block_normal ?_
              refine QW.next ?_
              refine CW.region ?_
              refine OW.pure 2 [(29, .int .i64 (w64 ((i1054 : Int) + 1)))] (by kernel_rfl) ?_
              refine OW.nil rfl ?_
              refine QW.say 29 rfl (congrArg (Value.int .i64) (w64_cnt hc1056 (Nat.le_trans (cut_le hcut925) l17))) ?_
              exact QW.meet (fun a ha => ⟨n1051, Nat.lt_succ_self _, i1054 + 1, (), cnt_next hi1055, ha.agrees (by kernel_rfl), hst.keep [0, 1] rfl, hl1052⟩)
        · rcases n1051 with _ | n1051
          · refine CW.cond_f rfl hc1056 ?_
            refine CW.exit ?_
            refine QW.then_exit ?_
            refine QW.then_exit ?_
            refine QW.block_here ?_
            obtain rfl := Option.some.inj hl1052
            exact QW.meet (fun a ha => ⟨(), rfl, ha.agrees (by kernel_rfl), hst.keep [0] rfl⟩)
          · exact (cnt1 hi1055 hc1056).elim
      · rintro a w1 ⟨t1003, rfl, ha, hst⟩
        refine QW.go ?_ ha
        refine QW.block_normal ?_
        refine QW.next ?_
        refine CW.region ?_
        refine OW.pure 2 [(20, .int .i64 (w64 ((i903 : Int) + 1)))] (by kernel_rfl) ?_
        refine OW.nil rfl ?_
        refine QW.say 20 rfl (congrArg (Value.int .i64) (w64_cnt hc905 l17)) ?_
        exact QW.meet (fun a ha => ⟨n900, Nat.lt_succ_self _, i903 + 1, (), cnt_next hi904, ha.agrees (by kernel_rfl), hst.keep [0] rfl, hl901⟩)
    · rcases n900 with _ | n900
      · refine CW.cond_f rfl hc905 ?_
        refine CW.exit ?_
        refine QW.then_exit ?_
        refine QW.then_exit ?_
        refine QW.block_here ?_
        obtain rfl := Option.some.inj hl901
        exact QW.meet (fun a ha => ⟨(), rfl, ha.agrees (by kernel_rfl), hst.keep [0] rfl⟩)
      · exact (cnt1 hi904 hc905).elim
  · rintro a w1 ⟨t550, rfl, ha, hst⟩
    refine CW.go ?_ ha
    refine CW.seq ?_
    refine CW.seq ?_
    refine CW.region ?_
    refine OW.pure 3 [(49, .slice a2 (p0).length c3), (50, .int .i64 (((p0).length) : Int)), (51, .int .i64 0)] (by kernel_rfl) ?_
    refine OW.nil rfl ?_
    refine QW.next ?_
    obtain ⟨o2003, ho2004, hF⟩ := bind_some' hF
    refine CW.cutK (fun a w1 => ∃ (t2005 : Unit), o2003 = .inl t2005 ∧ Rep 97 [] a ∧ St w (fp []) w1 []) ?_ ?_
    · refine CW.block ?_
      refine CW.loop (fun n a w1 => ∃ (i2622 : Nat) (s2621 : Unit), i2622 + n = (p0).length ∧ Rep 97 [(4, .slice a18 (r12).length c19), (49, .slice a2 (p0).length c3), (50, .int .i64 (((p0).length) : Int)), (51, .int .i64 (i2622 : Int))] a ∧ St w (fp []) w1 [rowI (.slice a18 (r12).length c19) 40 enc_api_Loop 3 r12] ∧ forN (flow_nested_l3 p0 r12) (fun (s2621 : Unit) => (.inl ())) n i2622 s2621 = some o2003) ((p0).length) (fun a ha => ⟨0, (), Nat.zero_add _, ha.agrees (by kernel_rfl), hst.keep [0] rfl, ho2004⟩) ?_
      rintro n2619 a w1 ⟨i2622, s2621, hi2623, ha, hst, hl2620⟩
      refine CW.go ?_ ha
      refine CW.seq ?_
      refine CW.region ?_
      refine OW.pure 1 [(52, .bool (decide ((i2622 : Int) < (((p0).length) : Int))))] (by kernel_rfl) ?_
      refine OW.nil rfl ?_
      refine QW.next ?_
      refine CW.seq ?_
      rcases Bool.eq_false_or_eq_true (decide ((i2622 : Int) < (((p0).length) : Int))) with hc2624 | hc2624
      · rcases n2619 with _ | n2619
        · exact (cnt0 hi2623 hc2624).elim
        refine CW.cond_t rfl hc2624 ?_
        refine CW.skip ?_
        refine QW.next ?_
        refine CW.seq ?_
        refine CW.block ?_
        refine CW.seq ?_
        refine CW.region ?_
        refine OW.pure 1 [(53, .int .i64 (i2622 : Int))] (by kernel_rfl) ?_
        obtain ⟨x2634, hx2635, hl2620⟩ := bind_some' hl2620
        obtain ⟨g2637, o2638, c2639, hv2636⟩ := h0.formv (fun _ => ⟨_, rfl⟩) hx2635
        refine OW.idx 32 5 rfl rfl rfl rfl hv2636 rfl (idx_some hx2635).1 (idx_some hx2635).2.1 (by kernel_rfl) (by kernel_rfl) ?_
        refine OW.ldN (cs := enc_api_Inst x2634) rfl rfl rfl rfl (by kernel_rfl) (by kernel_rfl) (h0.cellv hst hx2635 hv2636) ?_
        refine OW.alloc hst rfl rfl rfl [.int .i64 0, .int .i64 0, .int .i64 0, .int .i64 0, .int .i64 0] (by kernel_rfl) ?_
        intro b2640 w2641 hst
        refine OW.pure 1 [(9, .int .i64 (i2622 : Int))] (by kernel_rfl) ?_
        refine OW.stB hst 1 rfl rfl rfl rfl rfl (by kernel_rfl) rfl rfl [.int .i64 x2634.Op, .int .i64 x2634.D, .int .i64 x2634.A, .int .i64 x2634.B, .int .i64 x2634.Imm] rfl ?_
        intro w2642 hst
        refine OW.nil rfl ?_
        refine QW.next ?_
        refine CW.seq ?_
        refine CW.region ?_
        refine OW.ldN (cs := [.int .i64 x2634.Op, .int .i64 x2634.D, .int .i64 x2634.A, .int .i64 x2634.B, .int .i64 x2634.Imm]) rfl rfl rfl rfl (by kernel_rfl) (by kernel_rfl) (hst.blkN 1 rfl 0 5) ?_
        obtain ⟨r2647, hr2648, hl2620⟩ := bind_some' hl2620
        refine OW.fn rfl rfl rfl rfl (by kernel_rfl) (ops_Goes_ok _ x2634 r2647 hr2648 (hst.part [] rfl) (hT0.give hst [])) ?_
        rintro e w2649 ⟨rfl, hst2650⟩
        refine ⟨_, rfl, ?_⟩
        have hst := hst.join (idx := []) (rest := [0, 1]) rfl hst2650
        refine OW.pure 7 [(11, .int .i64 r2647.1), (12, .bool r2647.2.1)] (by kernel_rfl) ?_
        refine OW.nil rfl ?_
        refine QW.next ?_
        refine CW.seq ?_
        refine CW.region ?_
        refine OW.pure 3 [(62, .slice a18 (r12).length c19), (63, .int .i64 (((r12).length) : Int)), (64, .int .i64 0)] (by kernel_rfl) ?_
        refine OW.nil rfl ?_
        refine QW.next ?_
        obtain ⟨o2789, ho2790, hl2620⟩ := bind_some' hl2620
        refine CW.cutQ (fun a w1 => ∃ (t2791 : Unit), o2789 = .inl t2791 ∧ Rep 97 [(4, .slice a18 (r12).length c19), (49, .slice a2 (p0).length c3), (50, .int .i64 (((p0).length) : Int)), (51, .int .i64 (i2622 : Int))] a ∧ St w (fp []) w1 [rowI (.slice a18 (r12).length c19) 40 enc_api_Loop 3 r12]) ?_ ?_
        · refine CW.block ?_
          refine CW.loop (fun n a w1 => ∃ (i2884 : Nat) (s2883 : Unit), i2884 + n = (r12).length ∧ Rep 97 [(4, .slice a18 (r12).length c19), (9, .int .i64 (i2622 : Int)), (11, .int .i64 r2647.1), (12, .bool r2647.2.1), (49, .slice a2 (p0).length c3), (50, .int .i64 (((p0).length) : Int)), (51, .int .i64 (i2622 : Int)), (62, .slice a18 (r12).length c19), (63, .int .i64 (((r12).length) : Int)), (64, .int .i64 (i2884 : Int))] a ∧ St w (fp []) w1 [rowI (.slice a18 (r12).length c19) 40 enc_api_Loop 3 r12] ∧ forN (flow_nested_l4 r12 i2622 r2647) (fun (s2883 : Unit) => (.inl ())) n i2884 s2883 = some o2789) ((r12).length) (fun a ha => ⟨0, (), Nat.zero_add _, ha.agrees (by kernel_rfl), hst.keep [0] rfl, ho2790⟩) ?_
          rintro n2881 a w1 ⟨i2884, s2883, hi2885, ha, hst, hl2882⟩
          refine CW.go ?_ ha
          refine CW.seq ?_
          refine CW.region ?_
          refine OW.pure 1 [(65, .bool (decide ((i2884 : Int) < (((r12).length) : Int))))] (by kernel_rfl) ?_
          refine OW.nil rfl ?_
          refine QW.next ?_
          refine CW.seq ?_
          rcases Bool.eq_false_or_eq_true (decide ((i2884 : Int) < (((r12).length) : Int))) with hc2886 | hc2886
          · rcases n2881 with _ | n2881
            · exact (cnt0 hi2885 hc2886).elim
            refine CW.cond_t rfl hc2886 ?_
            refine CW.skip ?_
            refine QW.next ?_
            refine CW.seq ?_
            refine CW.block ?_
            refine CW.seq ?_
            refine CW.region ?_
            obtain ⟨x2895, hx2896, hl2882⟩ := bind_some' hl2882
            obtain ⟨g2898, c2899, hv2897⟩ := hst.rowv 0 rfl hx2896
            refine OW.idx 40 3 rfl rfl rfl rfl hv2897 rfl (idx_some hx2896).1 (idx_some hx2896).2.1 (by kernel_rfl) (by kernel_rfl) ?_
            refine OW.ldN (cs := enc_api_Loop x2895) rfl rfl rfl rfl (by kernel_rfl) (by kernel_rfl) (hst.rowc 0 rfl (fun _ => rfl) hx2896 hv2897) ?_
            refine OW.alloc hst rfl rfl rfl [.int .i64 0, .int .i64 0, .int .i64 0] (by kernel_rfl) ?_
            intro b2900 w2901 hst
            refine OW.stB hst 1 rfl rfl rfl rfl rfl (by kernel_rfl) rfl rfl [.int .i64 x2895.Head, .int .i64 x2895.At, .int .i64 x2895.Bound] rfl ?_
            intro w2902 hst
            refine OW.nil rfl ?_
            refine QW.next ?_
            refine CW.seq ?_
            obtain ⟨o2915, ho2916, hl2882⟩ := bind_some' hl2882
            refine CW.cutK (fun a w1 => Rep 97 [(4, .slice a18 (r12).length c19), (9, .int .i64 (i2622 : Int)), (11, .int .i64 r2647.1), (12, .bool r2647.2.1), (49, .slice a2 (p0).length c3), (50, .int .i64 (((p0).length) : Int)), (51, .int .i64 (i2622 : Int)), (62, .slice a18 (r12).length c19), (63, .int .i64 (((r12).length) : Int)), (64, .int .i64 (i2884 : Int)), (93, .bool o2915)] a ∧ St w (fp []) w1 [rowI (.slice a18 (r12).length c19) 40 enc_api_Loop 3 r12]) ?_ ?_
            · refine CW.region ?_
              refine OW.pure 2 [(69, .bool r2647.2.1)] (by kernel_rfl) ?_
              refine OW.split 69 rfl (fun hc2917 => ?_) (fun hc2917 => ?_)
              · have ho2916 := ite_t ho2916 hc2917
                refine OW.pure 4 [(73, .bool (decide (r2647.1 > 0)))] (by kernel_rfl) ?_
                refine OW.split 73 rfl (fun hc2918 => ?_) (fun hc2918 => ?_)
                · have ho2916 := ite_t ho2916 hc2918
                  refine OW.ldN (cs := [.int .i64 x2895.Head, .int .i64 x2895.At, .int .i64 x2895.Bound]) rfl rfl rfl rfl (by kernel_rfl) (by kernel_rfl) (hst.blkN 1 rfl 0 3) ?_
                  refine OW.pure 1 [(75, .int .i64 (i2622 : Int))] (by kernel_rfl) ?_
                  obtain ⟨r2919, hr2920, ho2916⟩ := bind_some' ho2916
                  refine OW.fn rfl rfl rfl rfl (by kernel_rfl) (flow_in_ok _ x2895 (i2622 : Int) r2919 hr2920 (hst.part [] rfl)) ?_
                  rintro e w2921 ⟨rfl, hst2922⟩
                  refine ⟨_, rfl, ?_⟩
                  have hst := hst.join (idx := []) (rest := [0, 1]) rfl hst2922
                  refine OW.pure 3 [(79, .bool (!r2919))] (by kernel_rfl) ?_
                  refine OW.split 79 rfl (fun hc2923 => ?_) (fun hc2923 => ?_)
                  · have ho2916 := ite_t ho2916 hc2923
                    refine OW.ldN (cs := [.int .i64 x2895.Head, .int .i64 x2895.At, .int .i64 x2895.Bound]) rfl rfl rfl rfl (by kernel_rfl) (by kernel_rfl) (hst.blkN 1 rfl 0 3) ?_
                    refine OW.pure 3 [(83, .int .i64 (w64 ((i2622 : Int) + r2647.1)))] (by kernel_rfl) ?_
                    obtain ⟨r2924, hr2925, ho2916⟩ := bind_some' ho2916
                    refine OW.fn rfl rfl rfl rfl (by kernel_rfl) (flow_in_ok _ x2895 (w64 ((i2622 : Int) + r2647.1)) r2924 hr2925 (hst.part [] rfl)) ?_
                    rintro e w2926 ⟨rfl, hst2927⟩
                    refine ⟨_, rfl, ?_⟩
                    have hst := hst.join (idx := []) (rest := [0, 1]) rfl hst2927
                    refine OW.pure 2 [(86, .bool r2924)] (by kernel_rfl) ?_
                    refine OW.split 86 rfl (fun hc2928 => ?_) (fun hc2928 => ?_)
                    · have ho2916 := ite_t ho2916 hc2928
                      refine OW.pure 4 [(89, .int .i64 (w64 ((i2622 : Int) + r2647.1))), (90, .pointer (some ⟨b2900, 0, none⟩))] (by kernel_rfl) ?_
                      refine OW.ld rfl rfl rfl rfl (by kernel_rfl) (hst.blk 1 rfl rfl) ?_
                      refine OW.pure 2 [(93, .bool ((w64 ((i2622 : Int) + r2647.1)) != x2895.Head))] (by kernel_rfl) ?_
                      refine OW.nil rfl ?_
                      obtain rfl := Option.some.inj ho2916
                      exact QW.meet (fun a ha => ⟨ha.agrees (by kernel_rfl), hst.keep [0] rfl⟩)
                    · have ho2916 := ite_f ho2916 hc2928
                      refine OW.pure 7 [(93, .bool false)] (by kernel_rfl) ?_
                      refine OW.nil rfl ?_
                      obtain rfl := Option.some.inj ho2916
                      exact QW.meet (fun a ha => ⟨ha.agrees (by kernel_rfl), hst.keep [0] rfl⟩)
                  · have ho2916 := ite_f ho2916 hc2923
                    refine OW.pure 14 [(93, .bool false)] (by kernel_rfl) ?_
                    refine OW.nil rfl ?_
                    obtain rfl := Option.some.inj ho2916
                    exact QW.meet (fun a ha => ⟨ha.agrees (by kernel_rfl), hst.keep [0] rfl⟩)
                · have ho2916 := ite_f ho2916 hc2918
                  refine OW.pure 20 [(93, .bool false)] (by kernel_rfl) ?_
                  refine OW.nil rfl ?_
                  obtain rfl := Option.some.inj ho2916
                  exact QW.meet (fun a ha => ⟨ha.agrees (by kernel_rfl), hst.keep [0] rfl⟩)
              · have ho2916 := ite_f ho2916 hc2917
                refine OW.pure 24 [(93, .bool false)] (by kernel_rfl) ?_
                refine OW.nil rfl ?_
                obtain rfl := Option.some.inj ho2916
                exact QW.meet (fun a ha => ⟨ha.agrees (by kernel_rfl), hst.keep [0] rfl⟩)
            · rintro a w1 ⟨ha, hst⟩
              refine CW.go ?_ ha
              rcases Bool.eq_false_or_eq_true (o2915) with hc2929 | hc2929
              · have hl2882 := ite_t hl2882 hc2929
                refine CW.cond_t rfl hc2929 ?_
                refine CW.seq ?_
                refine CW.region ?_
                refine OW.pure 3 [(2, .int .i64 (i2622 : Int)), (3, .int .i64 31)] (by kernel_rfl) ?_
                refine OW.nil rfl ?_
                refine QW.next ?_
                refine CW.ret ?_
                refine QW.block_ret ?_
                refine QW.then_ret ?_
                refine QW.then_ret ?_
                refine QW.block_ret ?_
                refine QW.then_ret ?_
                refine QW.block_ret ?_
                refine QW.then_ret ?_
                refine QW.then_ret ?_
                refine QW.block_ret ?_
                refine QW.then_ret ?_
                obtain rfl := Option.some.inj hl2882
                obtain rfl := Option.some.inj hl2620
                obtain rfl := Option.some.inj hF
                refine QW.ret2 rfl rfl rfl ?_
                exact ⟨rfl, hst.keep [] rfl⟩
              · have hl2882 := ite_f hl2882 hc2929
                refine CW.cond_f rfl hc2929 ?_
                refine CW.skip ?_
                refine QW.block_normal ?_
                refine QW.next ?_
                refine CW.region ?_
                refine OW.pure 2 [(64, .int .i64 (w64 ((i2884 : Int) + 1)))] (by kernel_rfl) ?_
                refine OW.nil rfl ?_
                refine QW.say 64 rfl (congrArg (Value.int .i64) (w64_cnt hc2886 l17)) ?_
                exact QW.meet (fun a ha => ⟨n2881, Nat.lt_succ_self _, i2884 + 1, (), cnt_next hi2885, ha.agrees (by kernel_rfl), hst.keep [0] rfl, hl2882⟩)
          · rcases n2881 with _ | n2881
            · refine CW.cond_f rfl hc2886 ?_
              refine CW.exit ?_
              refine QW.then_exit ?_
              refine QW.then_exit ?_
              refine QW.block_here ?_
              obtain rfl := Option.some.inj hl2882
              exact QW.meet (fun a ha => ⟨(), rfl, ha.agrees (by kernel_rfl), hst.keep [0] rfl⟩)
            · exact (cnt1 hi2885 hc2886).elim
        · rintro a w1 ⟨t2791, rfl, ha, hst⟩
          refine QW.go ?_ ha
          refine QW.block_normal ?_
          refine QW.next ?_
          refine CW.region ?_
          refine OW.pure 2 [(51, .int .i64 (w64 ((i2622 : Int) + 1)))] (by kernel_rfl) ?_
          refine OW.nil rfl ?_
          refine QW.say 51 rfl (congrArg (Value.int .i64) (w64_cnt hc2624 l1)) ?_
          exact QW.meet (fun a ha => ⟨n2619, Nat.lt_succ_self _, i2622 + 1, (), cnt_next hi2623, ha.agrees (by kernel_rfl), hst.keep [0] rfl, hl2620⟩)
      · rcases n2619 with _ | n2619
        · refine CW.cond_f rfl hc2624 ?_
          refine CW.exit ?_
          refine QW.then_exit ?_
          refine QW.then_exit ?_
          refine QW.block_here ?_
          obtain rfl := Option.some.inj hl2620
          exact QW.meet (fun a ha => ⟨(), rfl, ha.agrees (by kernel_rfl), hst.keep [] rfl⟩)
        · exact (cnt1 hi2623 hc2624).elim
    · rintro a w1 ⟨t2005, rfl, ha, hst⟩
      refine CW.go ?_ ha
      refine CW.seq ?_
      refine CW.region ?_
      refine OW.pure 2 [(2, .int .i64 0), (3, .int .i64 0)] (by kernel_rfl) ?_
      refine OW.nil rfl ?_
      refine QW.next ?_
      refine CW.ret ?_
      obtain rfl := Option.some.inj hF
      refine QW.ret2 rfl rfl rfl ?_
      exact ⟨rfl, hst.keep [] rfl⟩

set_option maxRecDepth 10000 in
theorem flow_cost_ok (w : World) (v0 : Value) (p0 : List api_Inst) (r : Int) (hF : flow_cost p0 = some r)
    (hst : St w (fp []) w []) (h0 : Rd w (fp []) v0 enc_api_Inst 5 p0) :
    Calls Tryd.prog 24 [v0].toArray w (fun e w' => e = .returned (.int .i64 r) ∧ St w (fp []) w' []) := by
  refine CW.start (N := 38) Tryd.func24 rfl rfl rfl ?_
  obtain ⟨l1, a2, c3, rfl⟩ := h0.len
  refine CW.seq ?_
  refine CW.region ?_
  refine OW.pure 1 [] (by kernel_rfl) ?_
  refine OW.nil rfl ?_
  refine QW.next ?_
  refine CW.seq ?_
  refine CW.region ?_
  refine OW.pure 1 [(9, .slice a2 (p0).length c3)] (by kernel_rfl) ?_
  obtain ⟨r12, hr13, hF⟩ := bind_some' hF
  refine OW.fn rfl rfl rfl rfl (by kernel_rfl) (flow_loops_ok _ (.slice a2 (p0).length c3) p0 r12 hr13 (hst.part [] rfl) (h0.give hst [])) ?_
  rintro e w14 ⟨v16, rfl, hst15⟩
  refine ⟨_, rfl, ?_⟩
  have hst := hst.join (idx := []) (rest := []) rfl hst15
  obtain ⟨l17, a18, c19, rfl⟩ := hst.len 0 rfl
  refine OW.pure 1 [(3, .slice a18 (r12).length c19)] (by kernel_rfl) ?_
  refine OW.nil rfl ?_
  refine QW.next ?_
  refine CW.seq ?_
  refine CW.region ?_
  refine OW.pure 1 [(4, .int .i64 0)] (by kernel_rfl) ?_
  refine OW.nil rfl ?_
  refine QW.next ?_
  refine CW.seq ?_
  refine CW.seq ?_
  refine CW.region ?_
  refine OW.pure 3 [(12, .int .i64 (((p0).length) : Int)), (13, .int .i64 0)] (by kernel_rfl) ?_
  refine OW.nil rfl ?_
  refine QW.next ?_
  obtain ⟨o539, ho540, hF⟩ := bind_some' hF
  refine CW.cutK (fun a w1 => Rep 38 [(4, .int .i64 o539)] a ∧ St w (fp []) w1 []) ?_ ?_
  · refine CW.block ?_
    refine CW.loop (fun n a w1 => ∃ (i887 : Nat) (s886 : Int), i887 + n = (p0).length ∧ Rep 38 [(3, .slice a18 (r12).length c19), (4, .int .i64 s886), (12, .int .i64 (((p0).length) : Int)), (13, .int .i64 (i887 : Int))] a ∧ St w (fp []) w1 [rowI (.slice a18 (r12).length c19) 40 enc_api_Loop 3 r12] ∧ forN (flow_cost_l1 r12) (fun (s886 : Int) => s886) n i887 s886 = some o539) ((p0).length) (fun a ha => ⟨0, 0, Nat.zero_add _, ha.agrees (by kernel_rfl), hst.keep [0] rfl, ho540⟩) ?_
    rintro n884 a w1 ⟨i887, s886, hi888, ha, hst, hl885⟩
    refine CW.go ?_ ha
    refine CW.seq ?_
    refine CW.region ?_
    refine OW.pure 1 [(14, .bool (decide ((i887 : Int) < (((p0).length) : Int))))] (by kernel_rfl) ?_
    refine OW.nil rfl ?_
    refine QW.next ?_
    refine CW.seq ?_
    rcases Bool.eq_false_or_eq_true (decide ((i887 : Int) < (((p0).length) : Int))) with hc889 | hc889
    · rcases n884 with _ | n884
      · exact (cnt0 hi888 hc889).elim
      refine CW.cond_t rfl hc889 ?_
      refine CW.skip ?_
      refine QW.next ?_
      refine CW.seq ?_
      refine CW.block ?_
      refine CW.seq ?_
      refine CW.region ?_
      refine OW.pure 2 [(5, .int .i64 (i887 : Int))] (by kernel_rfl) ?_
      refine OW.nil rfl ?_
      refine QW.next ?_
      refine CW.seq ?_
      refine CW.region ?_
      refine OW.pure 1 [(6, .int .i64 1)] (by kernel_rfl) ?_
      refine OW.nil rfl ?_
      refine QW.next ?_
      refine CW.seq ?_
      refine CW.seq ?_
      refine CW.region ?_
      refine OW.pure 3 [(16, .slice a18 (r12).length c19), (17, .int .i64 (((r12).length) : Int)), (18, .int .i64 0)] (by kernel_rfl) ?_
      refine OW.nil rfl ?_
      refine QW.next ?_
      obtain ⟨o974, ho975, hl885⟩ := bind_some' hl885
      refine CW.cutK (fun a w1 => Rep 38 [(3, .slice a18 (r12).length c19), (4, .int .i64 s886), (6, .int .i64 o974), (12, .int .i64 (((p0).length) : Int)), (13, .int .i64 (i887 : Int))] a ∧ St w (fp []) w1 [rowI (.slice a18 (r12).length c19) 40 enc_api_Loop 3 r12]) ?_ ?_
      · refine CW.block ?_
        refine CW.loop (fun n a w1 => ∃ (i1032 : Nat) (s1031 : Int), i1032 + n = (r12).length ∧ Rep 38 [(3, .slice a18 (r12).length c19), (4, .int .i64 s886), (5, .int .i64 (i887 : Int)), (6, .int .i64 s1031), (12, .int .i64 (((p0).length) : Int)), (13, .int .i64 (i887 : Int)), (16, .slice a18 (r12).length c19), (17, .int .i64 (((r12).length) : Int)), (18, .int .i64 (i1032 : Int))] a ∧ St w (fp []) w1 [rowI (.slice a18 (r12).length c19) 40 enc_api_Loop 3 r12] ∧ forN (flow_cost_l2 r12 i887) (fun (s1031 : Int) => s1031) n i1032 s1031 = some o974) ((r12).length) (fun a ha => ⟨0, 1, Nat.zero_add _, ha.agrees (by kernel_rfl), hst.keep [0] rfl, ho975⟩) ?_
        rintro n1029 a w1 ⟨i1032, s1031, hi1033, ha, hst, hl1030⟩
        refine CW.go ?_ ha
        refine CW.seq ?_
        refine CW.region ?_
        refine OW.pure 1 [(19, .bool (decide ((i1032 : Int) < (((r12).length) : Int))))] (by kernel_rfl) ?_
        refine OW.nil rfl ?_
        refine QW.next ?_
        refine CW.seq ?_
        rcases Bool.eq_false_or_eq_true (decide ((i1032 : Int) < (((r12).length) : Int))) with hc1034 | hc1034
        · rcases n1029 with _ | n1029
          · exact (cnt0 hi1033 hc1034).elim
          refine CW.cond_t rfl hc1034 ?_
          refine CW.skip ?_
          refine QW.next ?_
          refine CW.seq ?_
          refine CW.block ?_
          refine CW.seq ?_
          refine CW.region ?_
          obtain ⟨x1043, hx1044, hl1030⟩ := bind_some' hl1030
          obtain ⟨g1046, c1047, hv1045⟩ := hst.rowv 0 rfl hx1044
          refine OW.idx 40 3 rfl rfl rfl rfl hv1045 rfl (idx_some hx1044).1 (idx_some hx1044).2.1 (by kernel_rfl) (by kernel_rfl) ?_
          refine OW.ldN (cs := enc_api_Loop x1043) rfl rfl rfl rfl (by kernel_rfl) (by kernel_rfl) (hst.rowc 0 rfl (fun _ => rfl) hx1044 hv1045) ?_
          refine OW.alloc hst rfl rfl rfl [.int .i64 0, .int .i64 0, .int .i64 0] (by kernel_rfl) ?_
          intro b1048 w1049 hst
          refine OW.stB hst 1 rfl rfl rfl rfl rfl (by kernel_rfl) rfl rfl [.int .i64 x1043.Head, .int .i64 x1043.At, .int .i64 x1043.Bound] rfl ?_
          intro w1050 hst
          refine OW.nil rfl ?_
          refine QW.next ?_
          refine CW.seq ?_
          refine CW.region ?_
          refine OW.ldN (cs := [.int .i64 x1043.Head, .int .i64 x1043.At, .int .i64 x1043.Bound]) rfl rfl rfl rfl (by kernel_rfl) (by kernel_rfl) (hst.blkN 1 rfl 0 3) ?_
          refine OW.pure 1 [(23, .int .i64 (i887 : Int))] (by kernel_rfl) ?_
          obtain ⟨r1055, hr1056, hl1030⟩ := bind_some' hl1030
          refine OW.fn rfl rfl rfl rfl (by kernel_rfl) (flow_in_ok _ x1043 (i887 : Int) r1055 hr1056 (hst.part [] rfl)) ?_
          rintro e w1057 ⟨rfl, hst1058⟩
          refine ⟨_, rfl, ?_⟩
          have hst := hst.join (idx := []) (rest := [0, 1]) rfl hst1058
          refine OW.nil rfl ?_
          refine QW.next ?_
          rcases Bool.eq_false_or_eq_true (r1055) with hc1059 | hc1059
          · have hl1030 := ite_t hl1030 hc1059
            refine CW.cond_t rfl hc1059 ?_
            refine CW.region ?_
            refine OW.pure 2 [(25, .int .i64 s1031), (26, .pointer (some ⟨b1048, 2, none⟩))] (by kernel_rfl) ?_
            refine OW.ld rfl rfl rfl rfl (by kernel_rfl) (hst.blk 1 rfl rfl) ?_
            refine OW.pure 4 [(6, .int .i64 (imin (w64 (s1031 * (w64 (x1043.Bound + 1)))) 257))] (by kernel_rfl) ?_
            refine OW.nil rfl ?_
            refine QW.block_normal ?_
            refine QW.next ?_
            refine CW.region ?_
            refine OW.pure 2 [(18, .int .i64 (w64 ((i1032 : Int) + 1)))] (by kernel_rfl) ?_
            refine OW.nil rfl ?_
            refine QW.say 18 rfl (congrArg (Value.int .i64) (w64_cnt hc1034 l17)) ?_
            exact QW.meet (fun a ha => ⟨n1029, Nat.lt_succ_self _, i1032 + 1, (imin (w64 (s1031 * (w64 (x1043.Bound + 1)))) 257), cnt_next hi1033, ha.agrees (by kernel_rfl), hst.keep [0] rfl, hl1030⟩)
          · have hl1030 := ite_f hl1030 hc1059
            refine CW.cond_f rfl hc1059 ?_
            refine CW.skip ?_
            refine QW.block_normal ?_
            refine QW.next ?_
            refine CW.region ?_
            refine OW.pure 2 [(18, .int .i64 (w64 ((i1032 : Int) + 1)))] (by kernel_rfl) ?_
            refine OW.nil rfl ?_
            refine QW.say 18 rfl (congrArg (Value.int .i64) (w64_cnt hc1034 l17)) ?_
            exact QW.meet (fun a ha => ⟨n1029, Nat.lt_succ_self _, i1032 + 1, s1031, cnt_next hi1033, ha.agrees (by kernel_rfl), hst.keep [0] rfl, hl1030⟩)
        · rcases n1029 with _ | n1029
          · refine CW.cond_f rfl hc1034 ?_
            refine CW.exit ?_
            refine QW.then_exit ?_
            refine QW.then_exit ?_
            refine QW.block_here ?_
            obtain rfl := Option.some.inj hl1030
            exact QW.meet (fun a ha => ⟨ha.agrees (by kernel_rfl), hst.keep [0] rfl⟩)
          · exact (cnt1 hi1033 hc1034).elim
      · rintro a w1 ⟨ha, hst⟩
        refine CW.go ?_ ha
        refine CW.region ?_
        refine OW.pure 5 [(4, .int .i64 (imin (w64 (s886 + o974)) 257))] (by kernel_rfl) ?_
        refine OW.nil rfl ?_
        refine QW.block_normal ?_
        refine QW.next ?_
        refine CW.region ?_
        refine OW.pure 2 [(13, .int .i64 (w64 ((i887 : Int) + 1)))] (by kernel_rfl) ?_
        refine OW.nil rfl ?_
        refine QW.say 13 rfl (congrArg (Value.int .i64) (w64_cnt hc889 l1)) ?_
        exact QW.meet (fun a ha => ⟨n884, Nat.lt_succ_self _, i887 + 1, (imin (w64 (s886 + o974)) 257), cnt_next hi888, ha.agrees (by kernel_rfl), hst.keep [0] rfl, hl885⟩)
    · rcases n884 with _ | n884
      · refine CW.cond_f rfl hc889 ?_
        refine CW.exit ?_
        refine QW.then_exit ?_
        refine QW.then_exit ?_
        refine QW.block_here ?_
        obtain rfl := Option.some.inj hl885
        exact QW.meet (fun a ha => ⟨ha.agrees (by kernel_rfl), hst.keep [] rfl⟩)
      · exact (cnt1 hi888 hc889).elim
  · rintro a w1 ⟨ha, hst⟩
    refine CW.go ?_ ha
    refine CW.seq ?_
    refine CW.region ?_
    refine OW.pure 2 [(2, .int .i64 o539)] (by kernel_rfl) ?_
    refine OW.nil rfl ?_
    refine QW.next ?_
    refine CW.ret ?_
    obtain rfl := Option.some.inj hF
    refine QW.ret1 rfl rfl ?_
    exact ⟨rfl, hst.keep [] rfl⟩

set_option maxRecDepth 10000 in
theorem flow_Check_ok (w : World) (v0 : Value) (p0 : List api_Inst) (r : Int × Int) (hF : flow_Check p0 = some r)
    (hst : St w (fp []) w []) (h0 : Rd w (fp []) v0 enc_api_Inst 5 p0) (hT0 : Rd w (fp []) (.slice (some ⟨0, 0, none⟩) 23 23) enc_ops_form 2 tab_g0) :
    Calls Tryd.prog 10 [v0].toArray w (fun e w' => e = .returned (.tuple #[.int .i64 r.1, .int .i64 r.2]) ∧ St w (fp []) w' []) := by
  refine CW.start (N := 37) Tryd.func10 rfl rfl rfl ?_
  obtain ⟨l1, a2, c3, rfl⟩ := h0.len
  refine CW.seq ?_
  refine CW.region ?_
  refine OW.pure 2 [] (by kernel_rfl) ?_
  refine OW.nil rfl ?_
  refine QW.next ?_
  refine CW.seq ?_
  refine CW.block ?_
  refine CW.seq ?_
  refine CW.region ?_
  refine OW.pure 4 [(8, .bool ((((p0).length) : Int) == 0))] (by kernel_rfl) ?_
  refine OW.nil rfl ?_
  refine QW.next ?_
  rcases Bool.eq_false_or_eq_true (((((p0).length) : Int) == 0)) with hc4 | hc4
  · have hF := ite_t hF hc4
    refine CW.cond_t rfl hc4 ?_
    refine CW.seq ?_
    refine CW.region ?_
    refine OW.pure 2 [(2, .int .i64 0), (3, .int .i64 10)] (by kernel_rfl) ?_
    refine OW.nil rfl ?_
    refine QW.next ?_
    refine CW.ret ?_
    refine QW.block_ret ?_
    refine QW.then_ret ?_
    obtain rfl := Option.some.inj hF
    refine QW.ret2 rfl rfl rfl ?_
    exact ⟨rfl, hst.keep [] rfl⟩
  · have hF := ite_f hF hc4
    refine CW.cond_f rfl hc4 ?_
    refine CW.seq ?_
    refine CW.region ?_
    refine OW.pure 4 [(12, .bool (decide ((((p0).length) : Int) > 64)))] (by kernel_rfl) ?_
    refine OW.nil rfl ?_
    refine QW.next ?_
    rcases Bool.eq_false_or_eq_true (decide ((((p0).length) : Int) > 64)) with hc5 | hc5
    · have hF := ite_t hF hc5
      refine CW.cond_t rfl hc5 ?_
      refine CW.seq ?_
      refine CW.region ?_
      refine OW.pure 2 [(2, .int .i64 0), (3, .int .i64 11)] (by kernel_rfl) ?_
      refine OW.nil rfl ?_
      refine QW.next ?_
      refine CW.ret ?_
      refine QW.block_ret ?_
      refine QW.then_ret ?_
      obtain rfl := Option.some.inj hF
      refine QW.ret2 rfl rfl rfl ?_
      exact ⟨rfl, hst.keep [] rfl⟩
    · have hF := ite_f hF hc5
      refine CW.cond_f rfl hc5 ?_
      refine CW.skip ?_
      refine QW.block_normal ?_
      refine QW.next ?_
      refine CW.seq ?_
      refine CW.seq ?_
      refine CW.region ?_
      refine OW.pure 1 [(17, .slice a2 (p0).length c3)] (by kernel_rfl) ?_
      obtain ⟨r10, hr11, hF⟩ := bind_some' hF
      refine OW.fn rfl rfl rfl rfl (by kernel_rfl) (flow_places_ok _ (.slice a2 (p0).length c3) p0 r10 hr11 (hst.part [] rfl) (h0.give hst []) (hT0.give hst [])) ?_
      rintro e w12 ⟨rfl, hst13⟩
      refine ⟨_, rfl, ?_⟩
      have hst := hst.join (idx := []) (rest := []) rfl hst13
      refine OW.pure 5 [(4, .int .i64 r10.1), (5, .int .i64 r10.2)] (by kernel_rfl) ?_
      refine OW.nil rfl ?_
      refine QW.next ?_
      refine CW.seq ?_
      refine CW.region ?_
      refine OW.pure 2 [(22, .bool (r10.2 != 0))] (by kernel_rfl) ?_
      refine OW.nil rfl ?_
      refine QW.next ?_
      rcases Bool.eq_false_or_eq_true ((r10.2 != 0)) with hc14 | hc14
      · have hF := ite_t hF hc14
        refine CW.cond_t rfl hc14 ?_
        refine CW.seq ?_
        refine CW.region ?_
        refine OW.pure 4 [(2, .int .i64 r10.1), (3, .int .i64 r10.2)] (by kernel_rfl) ?_
        refine OW.nil rfl ?_
        refine QW.next ?_
        refine CW.ret ?_
        refine QW.then_ret ?_
        obtain rfl := Option.some.inj hF
        refine QW.ret2 rfl rfl rfl ?_
        exact ⟨rfl, hst.keep [] rfl⟩
      · have hF := ite_f hF hc14
        refine CW.cond_f rfl hc14 ?_
        refine CW.skip ?_
        refine QW.next ?_
        refine CW.seq ?_
        refine CW.seq ?_
        refine CW.region ?_
        refine OW.pure 1 [(26, .slice a2 (p0).length c3)] (by kernel_rfl) ?_
        obtain ⟨r19, hr20, hF⟩ := bind_some' hF
        refine OW.fn rfl rfl rfl rfl (by kernel_rfl) (flow_nested_ok _ (.slice a2 (p0).length c3) p0 r19 hr20 (hst.part [] rfl) (h0.give hst []) (hT0.give hst [])) ?_
        rintro e w21 ⟨rfl, hst22⟩
        refine ⟨_, rfl, ?_⟩
        have hst := hst.join (idx := []) (rest := []) rfl hst22
        refine OW.pure 5 [(6, .int .i64 r19.1), (7, .int .i64 r19.2)] (by kernel_rfl) ?_
        refine OW.nil rfl ?_
        refine QW.next ?_
        refine CW.seq ?_
        refine CW.region ?_
        refine OW.pure 2 [(31, .bool (r19.2 != 0))] (by kernel_rfl) ?_
        refine OW.nil rfl ?_
        refine QW.next ?_
        rcases Bool.eq_false_or_eq_true ((r19.2 != 0)) with hc23 | hc23
        · have hF := ite_t hF hc23
          refine CW.cond_t rfl hc23 ?_
          refine CW.seq ?_
          refine CW.region ?_
          refine OW.pure 4 [(2, .int .i64 r19.1), (3, .int .i64 r19.2)] (by kernel_rfl) ?_
          refine OW.nil rfl ?_
          refine QW.next ?_
          refine CW.ret ?_
          refine QW.then_ret ?_
          obtain rfl := Option.some.inj hF
          refine QW.ret2 rfl rfl rfl ?_
          exact ⟨rfl, hst.keep [] rfl⟩
        · have hF := ite_f hF hc23
          refine CW.cond_f rfl hc23 ?_
          refine CW.skip ?_
          refine QW.next ?_
          refine CW.seq ?_
          refine CW.seq ?_
          refine CW.region ?_
          refine OW.pure 1 [(34, .slice a2 (p0).length c3)] (by kernel_rfl) ?_
          obtain ⟨r28, hr29, hF⟩ := bind_some' hF
          refine OW.fn rfl rfl rfl rfl (by kernel_rfl) (flow_cost_ok _ (.slice a2 (p0).length c3) p0 r28 hr29 (hst.part [] rfl) (h0.give hst [])) ?_
          rintro e w30 ⟨rfl, hst31⟩
          refine ⟨_, rfl, ?_⟩
          have hst := hst.join (idx := []) (rest := []) rfl hst31
          refine OW.pure 1 [(36, .bool (decide (r28 > 256)))] (by kernel_rfl) ?_
          refine OW.nil rfl ?_
          refine QW.next ?_
          rcases Bool.eq_false_or_eq_true (decide (r28 > 256)) with hc32 | hc32
          · have hF := ite_t hF hc32
            refine CW.cond_t rfl hc32 ?_
            refine CW.seq ?_
            refine CW.region ?_
            refine OW.pure 2 [(2, .int .i64 0), (3, .int .i64 32)] (by kernel_rfl) ?_
            refine OW.nil rfl ?_
            refine QW.next ?_
            refine CW.ret ?_
            refine QW.then_ret ?_
            obtain rfl := Option.some.inj hF
            refine QW.ret2 rfl rfl rfl ?_
            exact ⟨rfl, hst.keep [] rfl⟩
          · have hF := ite_f hF hc32
            refine CW.cond_f rfl hc32 ?_
            refine CW.skip ?_
            refine QW.next ?_
            refine CW.seq ?_
            refine CW.region ?_
            refine OW.pure 2 [(2, .int .i64 0), (3, .int .i64 0)] (by kernel_rfl) ?_
            refine OW.nil rfl ?_
            refine QW.next ?_
            refine CW.ret ?_
            obtain rfl := Option.some.inj hF
            refine QW.ret2 rfl rfl rfl ?_
            exact ⟨rfl, hst.keep [] rfl⟩

set_option maxRecDepth 10000 in
theorem flow_Cost_ok (w : World) (v0 : Value) (p0 : List api_Inst) (r : Int × Int) (hF : flow_Cost p0 = some r)
    (hst : St w (fp []) w []) (h0 : Rd w (fp []) v0 enc_api_Inst 5 p0) (hT0 : Rd w (fp []) (.slice (some ⟨0, 0, none⟩) 23 23) enc_ops_form 2 tab_g0) :
    Calls Tryd.prog 14 [v0].toArray w (fun e w' => e = .returned (.tuple #[.int .i64 r.1, .int .i64 r.2]) ∧ St w (fp []) w' []) := by
  refine CW.start (N := 16) Tryd.func14 rfl rfl rfl ?_
  obtain ⟨l1, a2, c3, rfl⟩ := h0.len
  refine CW.seq ?_
  refine CW.region ?_
  refine OW.pure 2 [] (by kernel_rfl) ?_
  refine OW.nil rfl ?_
  refine QW.next ?_
  refine CW.seq ?_
  refine CW.seq ?_
  refine CW.region ?_
  refine OW.pure 1 [(7, .slice a2 (p0).length c3)] (by kernel_rfl) ?_
  obtain ⟨r8, hr9, hF⟩ := bind_some' hF
  refine OW.fn rfl rfl rfl rfl (by kernel_rfl) (flow_Check_ok _ (.slice a2 (p0).length c3) p0 r8 hr9 (hst.part [] rfl) (h0.give hst []) (hT0.give hst [])) ?_
  rintro e w10 ⟨rfl, hst11⟩
  refine ⟨_, rfl, ?_⟩
  have hst := hst.join (idx := []) (rest := []) rfl hst11
  refine OW.pure 5 [(5, .int .i64 r8.2)] (by kernel_rfl) ?_
  refine OW.nil rfl ?_
  refine QW.next ?_
  refine CW.seq ?_
  refine CW.region ?_
  refine OW.pure 2 [(12, .bool (r8.2 != 0))] (by kernel_rfl) ?_
  refine OW.nil rfl ?_
  refine QW.next ?_
  rcases Bool.eq_false_or_eq_true ((r8.2 != 0)) with hc12 | hc12
  · have hF := ite_t hF hc12
    refine CW.cond_t rfl hc12 ?_
    refine CW.seq ?_
    refine CW.region ?_
    refine OW.pure 3 [(2, .int .i64 0), (3, .int .i64 r8.2)] (by kernel_rfl) ?_
    refine OW.nil rfl ?_
    refine QW.next ?_
    refine CW.ret ?_
    refine QW.then_ret ?_
    obtain rfl := Option.some.inj hF
    refine QW.ret2 rfl rfl rfl ?_
    exact ⟨rfl, hst.keep [] rfl⟩
  · have hF := ite_f hF hc12
    refine CW.cond_f rfl hc12 ?_
    refine CW.skip ?_
    refine QW.next ?_
    refine CW.seq ?_
    refine CW.region ?_
    refine OW.pure 1 [(14, .slice a2 (p0).length c3)] (by kernel_rfl) ?_
    obtain ⟨r17, hr18, hF⟩ := bind_some' hF
    refine OW.fn rfl rfl rfl rfl (by kernel_rfl) (flow_cost_ok _ (.slice a2 (p0).length c3) p0 r17 hr18 (hst.part [] rfl) (h0.give hst [])) ?_
    rintro e w19 ⟨rfl, hst20⟩
    refine ⟨_, rfl, ?_⟩
    have hst := hst.join (idx := []) (rest := []) rfl hst20
    refine OW.pure 2 [(2, .int .i64 r17), (3, .int .i64 0)] (by kernel_rfl) ?_
    refine OW.nil rfl ?_
    refine QW.next ?_
    refine CW.ret ?_
    obtain rfl := Option.some.inj hF
    refine QW.ret2 rfl rfl rfl ?_
    exact ⟨rfl, hst.keep [] rfl⟩

set_option maxRecDepth 10000 in
theorem flow_Loops_ok (w : World) (v0 : Value) (p0 : List api_Inst) (r : (List api_Loop) × Int) (hF : flow_Loops p0 = some r)
    (hst : St w (fp []) w []) (h0 : Rd w (fp []) v0 enc_api_Inst 5 p0) (hT0 : Rd w (fp []) (.slice (some ⟨0, 0, none⟩) 23 23) enc_ops_form 2 tab_g0) :
    Calls Tryd.prog 12 [v0].toArray w (fun e w' => ∃ (x0 : Value), e = .returned (.tuple #[x0, .int .i64 r.2]) ∧ St w (fp []) w' [rowI x0 40 enc_api_Loop 3 r.1]) := by
  refine CW.start (N := 16) Tryd.func12 rfl rfl rfl ?_
  obtain ⟨l1, a2, c3, rfl⟩ := h0.len
  refine CW.seq ?_
  refine CW.region ?_
  refine OW.pure 2 [] (by kernel_rfl) ?_
  refine OW.nil rfl ?_
  refine QW.next ?_
  refine CW.seq ?_
  refine CW.seq ?_
  refine CW.region ?_
  refine OW.pure 1 [(7, .slice a2 (p0).length c3)] (by kernel_rfl) ?_
  obtain ⟨r8, hr9, hF⟩ := bind_some' hF
  refine OW.fn rfl rfl rfl rfl (by kernel_rfl) (flow_Check_ok _ (.slice a2 (p0).length c3) p0 r8 hr9 (hst.part [] rfl) (h0.give hst []) (hT0.give hst [])) ?_
  rintro e w10 ⟨rfl, hst11⟩
  refine ⟨_, rfl, ?_⟩
  have hst := hst.join (idx := []) (rest := []) rfl hst11
  refine OW.pure 5 [(5, .int .i64 r8.2)] (by kernel_rfl) ?_
  refine OW.nil rfl ?_
  refine QW.next ?_
  refine CW.seq ?_
  refine CW.region ?_
  refine OW.pure 2 [(12, .bool (r8.2 != 0))] (by kernel_rfl) ?_
  refine OW.nil rfl ?_
  refine QW.next ?_
  rcases Bool.eq_false_or_eq_true ((r8.2 != 0)) with hc12 | hc12
  · have hF := ite_t hF hc12
    refine CW.cond_t rfl hc12 ?_
    refine CW.seq ?_
    refine CW.region ?_
    refine OW.pure 3 [(2, .slice none 0 0), (3, .int .i64 r8.2)] (by kernel_rfl) ?_
    refine OW.nil rfl ?_
    refine QW.next ?_
    refine CW.ret ?_
    refine QW.then_ret ?_
    have hst := hst.nilRow api_Loop 40 enc_api_Loop 3
    obtain rfl := Option.some.inj hF
    refine QW.ret2 rfl rfl rfl ?_
    exact ⟨(.slice none 0 0), rfl, hst.keep [0] rfl⟩
  · have hF := ite_f hF hc12
    refine CW.cond_f rfl hc12 ?_
    refine CW.skip ?_
    refine QW.next ?_
    refine CW.seq ?_
    refine CW.region ?_
    refine OW.pure 1 [(14, .slice a2 (p0).length c3)] (by kernel_rfl) ?_
    obtain ⟨r21, hr22, hF⟩ := bind_some' hF
    refine OW.fn rfl rfl rfl rfl (by kernel_rfl) (flow_loops_ok _ (.slice a2 (p0).length c3) p0 r21 hr22 (hst.part [] rfl) (h0.give hst [])) ?_
    rintro e w23 ⟨v25, rfl, hst24⟩
    refine ⟨_, rfl, ?_⟩
    have hst := hst.join (idx := []) (rest := []) rfl hst24
    obtain ⟨l26, a27, c28, rfl⟩ := hst.len 0 rfl
    refine OW.pure 2 [(2, .slice a27 (r21).length c28), (3, .int .i64 0)] (by kernel_rfl) ?_
    refine OW.nil rfl ?_
    refine QW.next ?_
    refine CW.ret ?_
    obtain rfl := Option.some.inj hF
    refine QW.ret2 rfl rfl rfl ?_
    exact ⟨(.slice a27 (r21).length c28), rfl, hst.keep [0] rfl⟩

set_option maxRecDepth 10000 in
theorem tappetlaw07_awake_ok (w : World)  (r : Bool) (hF : tappetlaw07_awake  = some r)
    (hst : St w (fp []) w []) (hT0 : Rd w (fp []) (.slice (some ⟨0, 0, none⟩) 23 23) enc_ops_form 2 tab_g0) :
    Calls Tryd.prog 8 [].toArray w (fun e w' => e = .returned (.bool r) ∧ St w (fp []) w' []) := by
  refine CW.start (N := 48) Tryd.func8 rfl rfl rfl ?_
  refine CW.seq ?_
  refine CW.region ?_
  refine OW.pure 1 [] (by kernel_rfl) ?_
  refine OW.nil rfl ?_
  refine QW.next ?_
  refine CW.seq ?_
  refine CW.region ?_
  obtain ⟨r13, hr14, hF⟩ := bind_some' hF
  refine OW.fn rfl rfl rfl rfl (by kernel_rfl) (tappetlaw07_loop_ok _ r13 hr14 (hst.part [] rfl)) ?_
  rintro e w15 ⟨v17, rfl, hst16⟩
  refine ⟨_, rfl, ?_⟩
  have hst := hst.join (idx := []) (rest := []) rfl hst16
  obtain ⟨l18, a19, c20, rfl⟩ := hst.len 0 rfl
  obtain ⟨r21, hr22, hF⟩ := bind_some' hF
  refine OW.fn rfl rfl rfl rfl (by kernel_rfl) (flow_Check_ok _ (.slice a19 (r13).length c20) r13 r21 hr22 (hst.part [] rfl) (hst.rd 0 rfl (fun _ => rfl) [] rfl (hst.len 0 rfl).1) (hT0.give hst [])) ?_
  rintro e w23 ⟨rfl, hst24⟩
  refine ⟨_, rfl, ?_⟩
  have hst := hst.join (idx := []) (rest := [0]) rfl hst24
  refine OW.pure 5 [(2, .int .i64 r21.2)] (by kernel_rfl) ?_
  refine OW.nil rfl ?_
  refine QW.next ?_
  refine CW.seq ?_
  refine CW.region ?_
  obtain ⟨r37, hr38, hF⟩ := bind_some' hF
  refine OW.fn rfl rfl rfl rfl (by kernel_rfl) (tappetlaw07_loop_ok _ r37 hr38 (hst.part [] rfl)) ?_
  rintro e w39 ⟨v41, rfl, hst40⟩
  refine ⟨_, rfl, ?_⟩
  have hst := hst.join (idx := []) (rest := [0]) rfl hst40
  obtain ⟨l42, a43, c44, rfl⟩ := hst.len 0 rfl
  obtain ⟨r45, hr46, hF⟩ := bind_some' hF
  refine OW.fn rfl rfl rfl rfl (by kernel_rfl) (flow_Cost_ok _ (.slice a43 (r37).length c44) r37 r45 hr46 (hst.part [] rfl) (hst.rd 0 rfl (fun _ => rfl) [] rfl (hst.len 0 rfl).1) (hT0.give hst [])) ?_
  rintro e w47 ⟨rfl, hst48⟩
  refine ⟨_, rfl, ?_⟩
  have hst := hst.join (idx := []) (rest := [0, 1]) rfl hst48
  refine OW.pure 5 [(3, .int .i64 r45.1), (4, .int .i64 r45.2)] (by kernel_rfl) ?_
  refine OW.nil rfl ?_
  refine QW.next ?_
  refine CW.seq ?_
  refine CW.region ?_
  obtain ⟨r65, hr66, hF⟩ := bind_some' hF
  refine OW.fn rfl rfl rfl rfl (by kernel_rfl) (tappetlaw07_loop_ok _ r65 hr66 (hst.part [] rfl)) ?_
  rintro e w67 ⟨v69, rfl, hst68⟩
  refine ⟨_, rfl, ?_⟩
  have hst := hst.join (idx := []) (rest := [0, 1]) rfl hst68
  obtain ⟨l70, a71, c72, rfl⟩ := hst.len 0 rfl
  obtain ⟨r73, hr74, hF⟩ := bind_some' hF
  refine OW.fn rfl rfl rfl rfl (by kernel_rfl) (flow_Loops_ok _ (.slice a71 (r65).length c72) r65 r73 hr74 (hst.part [] rfl) (hst.rd 0 rfl (fun _ => rfl) [] rfl (hst.len 0 rfl).1) (hT0.give hst [])) ?_
  rintro e w75 ⟨v77, rfl, hst76⟩
  refine ⟨_, rfl, ?_⟩
  have hst := hst.join (idx := []) (rest := [0, 1, 2]) rfl hst76
  obtain ⟨l78, a79, c80, rfl⟩ := hst.len 0 rfl
  refine OW.pure 5 [(5, .slice a79 (r73.1).length c80), (6, .int .i64 r73.2)] (by kernel_rfl) ?_
  refine OW.nil rfl ?_
  refine QW.next ?_
  refine CW.seq ?_
  obtain ⟨o91, ho92, hF⟩ := bind_some' hF
  refine CW.cutK (fun a w1 => Rep 48 [(0, .bool o91)] a ∧ St w (fp []) w1 []) ?_ ?_
  · refine CW.region ?_
    refine OW.pure 3 [(24, .bool (r21.2 == 0))] (by kernel_rfl) ?_
    refine OW.split 24 rfl (fun hc93 => ?_) (fun hc93 => ?_)
    · have ho92 := ite_t ho92 hc93
      refine OW.pure 4 [(28, .bool (r45.1 == 14))] (by kernel_rfl) ?_
      refine OW.split 28 rfl (fun hc94 => ?_) (fun hc94 => ?_)
      · have ho92 := ite_t ho92 hc94
        refine OW.pure 4 [(32, .bool (r45.2 == 0))] (by kernel_rfl) ?_
        refine OW.split 32 rfl (fun hc95 => ?_) (fun hc95 => ?_)
        · have ho92 := ite_t ho92 hc95
          refine OW.pure 5 [(37, .bool ((((r73.1).length) : Int) == 1))] (by kernel_rfl) ?_
          refine OW.split 37 rfl (fun hc96 => ?_) (fun hc96 => ?_)
          · have ho92 := ite_t ho92 hc96
            refine OW.pure 1 [(38, .slice a79 (r73.1).length c80)] (by kernel_rfl) ?_
            obtain ⟨x97, hx98, ho92⟩ := bind_some' ho92
            obtain ⟨g100, c101, hv99⟩ := hst.rowv 0 rfl hx98
            refine OW.idx 40 3 rfl rfl rfl rfl hv99 rfl (idx_some hx98).1 (idx_some hx98).2.1 (by kernel_rfl) (by kernel_rfl) ?_
            refine OW.ldN (cs := enc_api_Loop x97) rfl rfl rfl rfl (by kernel_rfl) (by kernel_rfl) (hst.rowc 0 rfl (fun _ => rfl) hx98 hv99) ?_
            refine OW.pure 1 [(41, .agg [.int .i64 1, .int .i64 2, .int .i64 5].toArray)] (by kernel_rfl) ?_
            refine OW.op (v := .bool ((x97.Head == 1) && ((x97.At == 2) && ((x97.Bound == 5) && true)))) rfl rfl rfl rfl (fun a ha => seq_run rfl rfl rfl (by kernel_rfl) (by kernel_rfl) a _ ha) ?_
            refine OW.pure 2 [(44, .bool ((x97.Head == 1) && ((x97.At == 2) && ((x97.Bound == 5) && true))))] (by kernel_rfl) ?_
            refine OW.split 44 rfl (fun hc102 => ?_) (fun hc102 => ?_)
            · have ho92 := ite_t ho92 hc102
              refine OW.pure 4 [(0, .bool (r73.2 == 0))] (by kernel_rfl) ?_
              refine OW.nil rfl ?_
              obtain rfl := Option.some.inj ho92
              exact QW.meet (fun a ha => ⟨ha.agrees (by kernel_rfl), hst.keep [] rfl⟩)
            · have ho92 := ite_f ho92 hc102
              refine OW.pure 4 [(0, .bool false)] (by kernel_rfl) ?_
              refine OW.nil rfl ?_
              obtain rfl := Option.some.inj ho92
              exact QW.meet (fun a ha => ⟨ha.agrees (by kernel_rfl), hst.keep [] rfl⟩)
          · have ho92 := ite_f ho92 hc96
            refine OW.pure 11 [(0, .bool false)] (by kernel_rfl) ?_
            refine OW.nil rfl ?_
            obtain rfl := Option.some.inj ho92
            exact QW.meet (fun a ha => ⟨ha.agrees (by kernel_rfl), hst.keep [] rfl⟩)
        · have ho92 := ite_f ho92 hc95
          refine OW.pure 16 [(0, .bool false)] (by kernel_rfl) ?_
          refine OW.nil rfl ?_
          obtain rfl := Option.some.inj ho92
          exact QW.meet (fun a ha => ⟨ha.agrees (by kernel_rfl), hst.keep [] rfl⟩)
      · have ho92 := ite_f ho92 hc94
        refine OW.pure 20 [(0, .bool false)] (by kernel_rfl) ?_
        refine OW.nil rfl ?_
        obtain rfl := Option.some.inj ho92
        exact QW.meet (fun a ha => ⟨ha.agrees (by kernel_rfl), hst.keep [] rfl⟩)
    · have ho92 := ite_f ho92 hc93
      refine OW.pure 24 [(0, .bool false)] (by kernel_rfl) ?_
      refine OW.nil rfl ?_
      obtain rfl := Option.some.inj ho92
      exact QW.meet (fun a ha => ⟨ha.agrees (by kernel_rfl), hst.keep [] rfl⟩)
  · rintro a w1 ⟨ha, hst⟩
    refine CW.go ?_ ha
    refine CW.ret ?_
    obtain rfl := Option.some.inj hF
    refine QW.ret1 rfl rfl ?_
    exact ⟨rfl, hst.keep [] rfl⟩

set_option maxRecDepth 10000 in
theorem tappetlaw07_copied_ok (w : World) (v0 : Value) (p0 : List api_Inst) (r : (List api_Inst)) (hF : tappetlaw07_copied p0 = some r)
    (hst : St w (fp []) w []) (h0 : Rd w (fp []) v0 enc_api_Inst 5 p0) :
    Calls Tryd.prog 9 [v0].toArray w (fun e w' => ∃ (x0 : Value), e = .returned (x0) ∧ St w (fp []) w' [rowI x0 32 enc_api_Inst 5 r]) := by
  refine CW.start (N := 6) Tryd.func9 rfl rfl rfl ?_
  obtain ⟨l1, a2, c3, rfl⟩ := h0.len
  refine CW.seq ?_
  refine CW.region ?_
  refine OW.pure 1 [] (by kernel_rfl) ?_
  refine OW.nil rfl ?_
  refine QW.next ?_
  refine CW.seq ?_
  refine CW.region ?_
  refine OW.row (α := api_Inst) (e := 32) (enc := enc_api_Inst) (sz := 5) hst rfl rfl rfl [] rfl (fun _ => rfl) rfl rfl (fun _ => by kernel_rfl) ?_
  intro g13 w14 hst
  refine OW.pure 1 [(4, .slice a2 (p0).length c3)] (by kernel_rfl) ?_
  obtain ⟨u15, hr16, hF⟩ := bind_some' hF
  refine OW.app hst 0 rfl (fun _ => rfl) (fun _ => rfl) rfl rfl rfl rfl rfl rfl (by kernel_rfl) el32 (h0.on hst) (room_le hr16) ?_
  intro v17 w18 hst
  obtain ⟨l19, a20, c21, rfl⟩ := hst.len 0 rfl
  refine OW.pure 1 [(2, .slice a20 ((([] : List api_Inst) ++ p0)).length c21)] (by kernel_rfl) ?_
  refine OW.nil rfl ?_
  refine QW.next ?_
  refine CW.ret ?_
  obtain rfl := Option.some.inj hF
  refine QW.ret1 rfl rfl ?_
  exact ⟨(.slice a20 ((([] : List api_Inst) ++ p0)).length c21), rfl, hst.keep [0] rfl⟩

set_option maxRecDepth 10000 in
theorem tappetref02_reg_ok (w : World) (p0 : Int) (r : Bool) (hF : tappetref02_reg p0 = some r)
    (hst : St w (fp []) w []) :
    Calls Tryd.prog 38 [.int .i64 p0].toArray w (fun e w' => e = .returned (.bool r) ∧ St w (fp []) w' []) := by
  refine CW.start (N := 9) Tryd.func38 rfl rfl rfl ?_
  refine CW.seq ?_
  refine CW.region ?_
  refine OW.pure 1 [] (by kernel_rfl) ?_
  refine OW.nil rfl ?_
  refine QW.next ?_
  refine CW.seq ?_
  refine CW.cutK (fun a w1 => Rep 9 [(2, .bool (decide (p0 ≥ 0) && decide (p0 ≤ 7)))] a ∧ St w (fp []) w1 []) ?_ ?_
  · refine CW.region ?_
    refine OW.pure 3 [(5, .bool (decide (p0 ≥ 0)))] (by kernel_rfl) ?_
    refine OW.split 5 rfl (fun hc1 => ?_) (fun hc1 => ?_)
    · refine OW.pure 4 [(2, .bool (decide (p0 ≤ 7)))] (by kernel_rfl) ?_
      refine OW.nil rfl ?_
      refine QW.say 2 (v := .bool (decide (p0 ≥ 0) && decide (p0 ≤ 7))) rfl (by first | (rw [hc1]; done) | (rw [hc1]; rfl) | simp [hc1]) ?_
      exact QW.meet (fun a ha => ⟨ha.agrees (by kernel_rfl), hst.keep [] rfl⟩)
    · refine OW.pure 4 [(2, .bool false)] (by kernel_rfl) ?_
      refine OW.nil rfl ?_
      refine QW.say 2 (v := .bool (decide (p0 ≥ 0) && decide (p0 ≤ 7))) rfl (by first | (rw [hc1]; done) | (rw [hc1]; rfl) | simp [hc1]) ?_
      exact QW.meet (fun a ha => ⟨ha.agrees (by kernel_rfl), hst.keep [] rfl⟩)
  · rintro a w1 ⟨ha, hst⟩
    refine CW.go ?_ ha
    refine CW.ret ?_
    obtain rfl := Option.some.inj hF
    refine QW.ret1 rfl rfl ?_
    exact ⟨rfl, hst.keep [] rfl⟩

set_option maxRecDepth 10000 in
theorem tappetref02_sourced_ok (w : World) (p0 : api_Inst) (r : Bool) (hF : tappetref02_sourced p0 = some r)
    (hst : St w (fp []) w []) :
    Calls Tryd.prog 39 [.agg [.int .i64 p0.Op, .int .i64 p0.D, .int .i64 p0.A, .int .i64 p0.B, .int .i64 p0.Imm].toArray].toArray w (fun e w' => e = .returned (.bool r) ∧ St w (fp []) w' []) := by
  refine CW.start (N := 16) Tryd.func39 rfl rfl rfl ?_
  refine CW.seq ?_
  refine CW.region ?_
  refine OW.box hst rfl rfl rfl rfl [.int .i64 p0.Op, .int .i64 p0.D, .int .i64 p0.A, .int .i64 p0.B, .int .i64 p0.Imm] rfl ?_
  intro b3 w4 hst
  refine OW.pure 1 [] (by kernel_rfl) ?_
  refine OW.nil rfl ?_
  refine QW.next ?_
  refine CW.seq ?_
  obtain ⟨o15, ho16, hF⟩ := bind_some' hF
  refine CW.cutK (fun a w1 => Rep 16 [(2, .bool o15)] a ∧ St w (fp []) w1 []) ?_ ?_
  · refine CW.region ?_
    refine OW.pure 1 [(3, .pointer (some ⟨b3, 3, none⟩))] (by kernel_rfl) ?_
    refine OW.ld rfl rfl rfl rfl (by kernel_rfl) (hst.blk 0 rfl rfl) ?_
    obtain ⟨r17, hr18, ho16⟩ := bind_some' ho16
    refine OW.fn rfl rfl rfl rfl (by kernel_rfl) (tappetref02_reg_ok _ p0.B r17 hr18 (hst.part [] rfl)) ?_
    rintro e w19 ⟨rfl, hst20⟩
    refine ⟨_, rfl, ?_⟩
    have hst := hst.join (idx := []) (rest := [0]) rfl hst20
    refine OW.pure 1 [(6, .bool r17)] (by kernel_rfl) ?_
    refine OW.split 6 rfl (fun hc21 => ?_) (fun hc21 => ?_)
    · have ho16 := ite_t ho16 hc21
      refine OW.pure 1 [(7, .pointer (some ⟨b3, 4, none⟩))] (by kernel_rfl) ?_
      refine OW.ld rfl rfl rfl rfl (by kernel_rfl) (hst.blk 0 rfl rfl) ?_
      refine OW.pure 3 [(11, .bool (p0.Imm == 0))] (by kernel_rfl) ?_
      refine OW.split 11 rfl (fun hc22 => ?_) (fun hc22 => ?_)
      · have ho16 := ite_t ho16 hc22
        refine OW.pure 5 [(2, .bool true)] (by kernel_rfl) ?_
        refine OW.nil rfl ?_
        obtain rfl := Option.some.inj ho16
        exact QW.meet (fun a ha => ⟨ha.agrees (by kernel_rfl), hst.keep [] rfl⟩)
      · have ho16 := ite_f ho16 hc22
        refine OW.pure 1 [(12, .pointer (some ⟨b3, 3, none⟩))] (by kernel_rfl) ?_
        refine OW.ld rfl rfl rfl rfl (by kernel_rfl) (hst.blk 0 rfl rfl) ?_
        refine OW.pure 3 [(2, .bool (p0.B == 8))] (by kernel_rfl) ?_
        refine OW.nil rfl ?_
        obtain rfl := Option.some.inj ho16
        exact QW.meet (fun a ha => ⟨ha.agrees (by kernel_rfl), hst.keep [] rfl⟩)
    · have ho16 := ite_f ho16 hc21
      refine OW.pure 6 [(11, .bool false), (12, .pointer (some ⟨b3, 3, none⟩))] (by kernel_rfl) ?_
      refine OW.ld rfl rfl rfl rfl (by kernel_rfl) (hst.blk 0 rfl rfl) ?_
      refine OW.pure 3 [(2, .bool (p0.B == 8))] (by kernel_rfl) ?_
      refine OW.nil rfl ?_
      obtain rfl := Option.some.inj ho16
      exact QW.meet (fun a ha => ⟨ha.agrees (by kernel_rfl), hst.keep [] rfl⟩)
  · rintro a w1 ⟨ha, hst⟩
    refine CW.go ?_ ha
    refine CW.ret ?_
    obtain rfl := Option.some.inj hF
    refine QW.ret1 rfl rfl ?_
    exact ⟨rfl, hst.keep [] rfl⟩

set_option maxRecDepth 10000 in
theorem tappetref02_Three_ok (w : World) (p0 : Int) (r : Bool) (hF : tappetref02_Three p0 = some r)
    (hst : St w (fp []) w []) :
    Calls Tryd.prog 40 [.int .i64 p0].toArray w (fun e w' => e = .returned (.bool r) ∧ St w (fp []) w' []) := by
  refine CW.start (N := 9) Tryd.func40 rfl rfl rfl ?_
  refine CW.seq ?_
  refine CW.region ?_
  refine OW.pure 1 [] (by kernel_rfl) ?_
  refine OW.nil rfl ?_
  refine QW.next ?_
  refine CW.seq ?_
  refine CW.cutK (fun a w1 => Rep 9 [(2, .bool (decide (p0 ≥ 1) && decide (p0 ≤ 10)))] a ∧ St w (fp []) w1 []) ?_ ?_
  · refine CW.region ?_
    refine OW.pure 3 [(5, .bool (decide (p0 ≥ 1)))] (by kernel_rfl) ?_
    refine OW.split 5 rfl (fun hc1 => ?_) (fun hc1 => ?_)
    · refine OW.pure 4 [(2, .bool (decide (p0 ≤ 10)))] (by kernel_rfl) ?_
      refine OW.nil rfl ?_
      refine QW.say 2 (v := .bool (decide (p0 ≥ 1) && decide (p0 ≤ 10))) rfl (by first | (rw [hc1]; done) | (rw [hc1]; rfl) | simp [hc1]) ?_
      exact QW.meet (fun a ha => ⟨ha.agrees (by kernel_rfl), hst.keep [] rfl⟩)
    · refine OW.pure 4 [(2, .bool false)] (by kernel_rfl) ?_
      refine OW.nil rfl ?_
      refine QW.say 2 (v := .bool (decide (p0 ≥ 1) && decide (p0 ≤ 10))) rfl (by first | (rw [hc1]; done) | (rw [hc1]; rfl) | simp [hc1]) ?_
      exact QW.meet (fun a ha => ⟨ha.agrees (by kernel_rfl), hst.keep [] rfl⟩)
  · rintro a w1 ⟨ha, hst⟩
    refine CW.go ?_ ha
    refine CW.ret ?_
    obtain rfl := Option.some.inj hF
    refine QW.ret1 rfl rfl ?_
    exact ⟨rfl, hst.keep [] rfl⟩

set_option maxRecDepth 10000 in
theorem tappetref02_Jump_ok (w : World) (p0 : Int) (r : Bool) (hF : tappetref02_Jump p0 = some r)
    (hst : St w (fp []) w []) :
    Calls Tryd.prog 41 [.int .i64 p0].toArray w (fun e w' => e = .returned (.bool r) ∧ St w (fp []) w' []) := by
  refine CW.start (N := 9) Tryd.func41 rfl rfl rfl ?_
  refine CW.seq ?_
  refine CW.region ?_
  refine OW.pure 1 [] (by kernel_rfl) ?_
  refine OW.nil rfl ?_
  refine QW.next ?_
  refine CW.seq ?_
  refine CW.cutK (fun a w1 => Rep 9 [(2, .bool (decide (p0 ≥ 16) && decide (p0 ≤ 19)))] a ∧ St w (fp []) w1 []) ?_ ?_
  · refine CW.region ?_
    refine OW.pure 3 [(5, .bool (decide (p0 ≥ 16)))] (by kernel_rfl) ?_
    refine OW.split 5 rfl (fun hc1 => ?_) (fun hc1 => ?_)
    · refine OW.pure 4 [(2, .bool (decide (p0 ≤ 19)))] (by kernel_rfl) ?_
      refine OW.nil rfl ?_
      refine QW.say 2 (v := .bool (decide (p0 ≥ 16) && decide (p0 ≤ 19))) rfl (by first | (rw [hc1]; done) | (rw [hc1]; rfl) | simp [hc1]) ?_
      exact QW.meet (fun a ha => ⟨ha.agrees (by kernel_rfl), hst.keep [] rfl⟩)
    · refine OW.pure 4 [(2, .bool false)] (by kernel_rfl) ?_
      refine OW.nil rfl ?_
      refine QW.say 2 (v := .bool (decide (p0 ≥ 16) && decide (p0 ≤ 19))) rfl (by first | (rw [hc1]; done) | (rw [hc1]; rfl) | simp [hc1]) ?_
      exact QW.meet (fun a ha => ⟨ha.agrees (by kernel_rfl), hst.keep [] rfl⟩)
  · rintro a w1 ⟨ha, hst⟩
    refine CW.go ?_ ha
    refine CW.ret ?_
    obtain rfl := Option.some.inj hF
    refine QW.ret1 rfl rfl ?_
    exact ⟨rfl, hst.keep [] rfl⟩

set_option maxRecDepth 10000 in
theorem tappetref02_Right_ok (w : World) (p0 : api_Inst) (r : Bool) (hF : tappetref02_Right p0 = some r)
    (hst : St w (fp []) w []) :
    Calls Tryd.prog 25 [.agg [.int .i64 p0.Op, .int .i64 p0.D, .int .i64 p0.A, .int .i64 p0.B, .int .i64 p0.Imm].toArray].toArray w (fun e w' => e = .returned (.bool r) ∧ St w (fp []) w' []) := by
  refine CW.start (N := 231) Tryd.func25 rfl rfl rfl ?_
  refine CW.seq ?_
  refine CW.region ?_
  refine OW.box hst rfl rfl rfl rfl [.int .i64 p0.Op, .int .i64 p0.D, .int .i64 p0.A, .int .i64 p0.B, .int .i64 p0.Imm] rfl ?_
  intro b3 w4 hst
  refine OW.pure 1 [] (by kernel_rfl) ?_
  refine OW.nil rfl ?_
  refine QW.next ?_
  refine CW.seq ?_
  refine CW.region ?_
  refine OW.pure 1 [(4, .pointer (some ⟨b3, 0, none⟩))] (by kernel_rfl) ?_
  refine OW.ld rfl rfl rfl rfl (by kernel_rfl) (hst.blk 0 rfl rfl) ?_
  refine OW.pure 1 [(3, .int .i64 p0.Op)] (by kernel_rfl) ?_
  refine OW.nil rfl ?_
  refine QW.next ?_
  refine CW.seq ?_
  refine CW.block ?_
  refine CW.seq ?_
  refine CW.cutK (fun a w1 => Rep 231 [(1, .pointer (some ⟨b3, 0, none⟩)), (3, .int .i64 p0.Op), (6, .bool ((p0.Op == 0) || (p0.Op == 11)))] a ∧ St w (fp []) w1 [blkI b3 32 [.int .i64 p0.Op, .int .i64 p0.D, .int .i64 p0.A, .int .i64 p0.B, .int .i64 p0.Imm]]) ?_ ?_
  · refine CW.region ?_
    refine OW.pure 3 [(9, .bool (p0.Op == 0))] (by kernel_rfl) ?_
    refine OW.split 9 rfl (fun hc5 => ?_) (fun hc5 => ?_)
    · refine OW.pure 4 [(6, .bool true)] (by kernel_rfl) ?_
      refine OW.nil rfl ?_
      refine QW.say 6 (v := .bool ((p0.Op == 0) || (p0.Op == 11))) rfl (by first | (rw [hc5]; done) | (rw [hc5]; rfl) | simp [hc5]) ?_
      exact QW.meet (fun a ha => ⟨ha.agrees (by kernel_rfl), hst.keep [0] rfl⟩)
    · refine OW.pure 4 [(6, .bool (p0.Op == 11))] (by kernel_rfl) ?_
      refine OW.nil rfl ?_
      refine QW.say 6 (v := .bool ((p0.Op == 0) || (p0.Op == 11))) rfl (by first | (rw [hc5]; done) | (rw [hc5]; rfl) | simp [hc5]) ?_
      exact QW.meet (fun a ha => ⟨ha.agrees (by kernel_rfl), hst.keep [0] rfl⟩)
  · rintro a w1 ⟨ha, hst⟩
    refine CW.go ?_ ha
    rcases Bool.eq_false_or_eq_true (((p0.Op == 0) || (p0.Op == 11))) with hc6 | hc6
    · have hF := ite_t hF hc6
      refine CW.cond_t rfl hc6 ?_
      refine CW.seq ?_
      obtain ⟨o21, ho22, hF⟩ := bind_some' hF
      refine CW.cutK (fun a w1 => Rep 231 [(2, .bool o21)] a ∧ St w (fp []) w1 []) ?_ ?_
      · refine CW.region ?_
        refine OW.pure 1 [(13, .pointer (some ⟨b3, 1, none⟩))] (by kernel_rfl) ?_
        refine OW.ld rfl rfl rfl rfl (by kernel_rfl) (hst.blk 0 rfl rfl) ?_
        obtain ⟨r23, hr24, ho22⟩ := bind_some' ho22
        refine OW.fn rfl rfl rfl rfl (by kernel_rfl) (tappetref02_reg_ok _ p0.D r23 hr24 (hst.part [] rfl)) ?_
        rintro e w25 ⟨rfl, hst26⟩
        refine ⟨_, rfl, ?_⟩
        have hst := hst.join (idx := []) (rest := [0]) rfl hst26
        refine OW.pure 1 [(16, .bool r23)] (by kernel_rfl) ?_
        refine OW.split 16 rfl (fun hc27 => ?_) (fun hc27 => ?_)
        · have ho22 := ite_t ho22 hc27
          refine OW.pure 1 [(17, .pointer (some ⟨b3, 2, none⟩))] (by kernel_rfl) ?_
          refine OW.ld rfl rfl rfl rfl (by kernel_rfl) (hst.blk 0 rfl rfl) ?_
          refine OW.pure 3 [(21, .bool (p0.A == 0))] (by kernel_rfl) ?_
          refine OW.split 21 rfl (fun hc28 => ?_) (fun hc28 => ?_)
          · have ho22 := ite_t ho22 hc28
            refine OW.ldN (cs := [.int .i64 p0.Op, .int .i64 p0.D, .int .i64 p0.A, .int .i64 p0.B, .int .i64 p0.Imm]) rfl rfl rfl rfl (by kernel_rfl) (by kernel_rfl) (hst.blkN 0 rfl 0 5) ?_
            obtain ⟨r29, hr30, ho22⟩ := bind_some' ho22
            refine OW.fn rfl rfl rfl rfl (by kernel_rfl) (tappetref02_sourced_ok _ p0 r29 hr30 (hst.part [] rfl)) ?_
            rintro e w31 ⟨rfl, hst32⟩
            refine ⟨_, rfl, ?_⟩
            have hst := hst.join (idx := []) (rest := [0]) rfl hst32
            refine OW.pure 2 [(2, .bool r29)] (by kernel_rfl) ?_
            refine OW.nil rfl ?_
            obtain rfl := Option.some.inj ho22
            exact QW.meet (fun a ha => ⟨ha.agrees (by kernel_rfl), hst.keep [] rfl⟩)
          · have ho22 := ite_f ho22 hc28
            refine OW.pure 4 [(2, .bool false)] (by kernel_rfl) ?_
            refine OW.nil rfl ?_
            obtain rfl := Option.some.inj ho22
            exact QW.meet (fun a ha => ⟨ha.agrees (by kernel_rfl), hst.keep [] rfl⟩)
        · have ho22 := ite_f ho22 hc27
          refine OW.pure 9 [(2, .bool false)] (by kernel_rfl) ?_
          refine OW.nil rfl ?_
          obtain rfl := Option.some.inj ho22
          exact QW.meet (fun a ha => ⟨ha.agrees (by kernel_rfl), hst.keep [] rfl⟩)
      · rintro a w1 ⟨ha, hst⟩
        refine CW.go ?_ ha
        refine CW.ret ?_
        refine QW.block_ret ?_
        refine QW.then_ret ?_
        obtain rfl := Option.some.inj hF
        refine QW.ret1 rfl rfl ?_
        exact ⟨rfl, hst.keep [] rfl⟩
    · have hF := ite_f hF hc6
      refine CW.cond_f rfl hc6 ?_
      refine CW.seq ?_
      refine CW.region ?_
      refine OW.pure 1 [(26, .int .i64 p0.Op)] (by kernel_rfl) ?_
      obtain ⟨r37, hr38, hF⟩ := bind_some' hF
      refine OW.fn rfl rfl rfl rfl (by kernel_rfl) (tappetref02_Three_ok _ p0.Op r37 hr38 (hst.part [] rfl)) ?_
      rintro e w39 ⟨rfl, hst40⟩
      refine ⟨_, rfl, ?_⟩
      have hst := hst.join (idx := []) (rest := [0]) rfl hst40
      refine OW.pure 1 [(25, .bool r37)] (by kernel_rfl) ?_
      refine OW.nil rfl ?_
      refine QW.next ?_
      rcases Bool.eq_false_or_eq_true (r37) with hc41 | hc41
      · have hF := ite_t hF hc41
        refine CW.cond_t rfl hc41 ?_
        refine CW.seq ?_
        obtain ⟨o60, ho61, hF⟩ := bind_some' hF
        refine CW.cutK (fun a w1 => Rep 231 [(2, .bool o60)] a ∧ St w (fp []) w1 []) ?_ ?_
        · refine CW.region ?_
          refine OW.pure 1 [(28, .pointer (some ⟨b3, 1, none⟩))] (by kernel_rfl) ?_
          refine OW.ld rfl rfl rfl rfl (by kernel_rfl) (hst.blk 0 rfl rfl) ?_
          obtain ⟨r62, hr63, ho61⟩ := bind_some' ho61
          refine OW.fn rfl rfl rfl rfl (by kernel_rfl) (tappetref02_reg_ok _ p0.D r62 hr63 (hst.part [] rfl)) ?_
          rintro e w64 ⟨rfl, hst65⟩
          refine ⟨_, rfl, ?_⟩
          have hst := hst.join (idx := []) (rest := [0]) rfl hst65
          refine OW.pure 1 [(31, .bool r62)] (by kernel_rfl) ?_
          refine OW.split 31 rfl (fun hc66 => ?_) (fun hc66 => ?_)
          · have ho61 := ite_t ho61 hc66
            refine OW.pure 1 [(32, .pointer (some ⟨b3, 2, none⟩))] (by kernel_rfl) ?_
            refine OW.ld rfl rfl rfl rfl (by kernel_rfl) (hst.blk 0 rfl rfl) ?_
            obtain ⟨r67, hr68, ho61⟩ := bind_some' ho61
            refine OW.fn rfl rfl rfl rfl (by kernel_rfl) (tappetref02_reg_ok _ p0.A r67 hr68 (hst.part [] rfl)) ?_
            rintro e w69 ⟨rfl, hst70⟩
            refine ⟨_, rfl, ?_⟩
            have hst := hst.join (idx := []) (rest := [0]) rfl hst70
            refine OW.pure 2 [(36, .bool r67)] (by kernel_rfl) ?_
            refine OW.split 36 rfl (fun hc71 => ?_) (fun hc71 => ?_)
            · have ho61 := ite_t ho61 hc71
              refine OW.ldN (cs := [.int .i64 p0.Op, .int .i64 p0.D, .int .i64 p0.A, .int .i64 p0.B, .int .i64 p0.Imm]) rfl rfl rfl rfl (by kernel_rfl) (by kernel_rfl) (hst.blkN 0 rfl 0 5) ?_
              obtain ⟨r72, hr73, ho61⟩ := bind_some' ho61
              refine OW.fn rfl rfl rfl rfl (by kernel_rfl) (tappetref02_sourced_ok _ p0 r72 hr73 (hst.part [] rfl)) ?_
              rintro e w74 ⟨rfl, hst75⟩
              refine ⟨_, rfl, ?_⟩
              have hst := hst.join (idx := []) (rest := [0]) rfl hst75
              refine OW.pure 2 [(2, .bool r72)] (by kernel_rfl) ?_
              refine OW.nil rfl ?_
              obtain rfl := Option.some.inj ho61
              exact QW.meet (fun a ha => ⟨ha.agrees (by kernel_rfl), hst.keep [] rfl⟩)
            · have ho61 := ite_f ho61 hc71
              refine OW.pure 4 [(2, .bool false)] (by kernel_rfl) ?_
              refine OW.nil rfl ?_
              obtain rfl := Option.some.inj ho61
              exact QW.meet (fun a ha => ⟨ha.agrees (by kernel_rfl), hst.keep [] rfl⟩)
          · have ho61 := ite_f ho61 hc66
            refine OW.pure 9 [(2, .bool false)] (by kernel_rfl) ?_
            refine OW.nil rfl ?_
            obtain rfl := Option.some.inj ho61
            exact QW.meet (fun a ha => ⟨ha.agrees (by kernel_rfl), hst.keep [] rfl⟩)
        · rintro a w1 ⟨ha, hst⟩
          refine CW.go ?_ ha
          refine CW.ret ?_
          refine QW.block_ret ?_
          refine QW.then_ret ?_
          obtain rfl := Option.some.inj hF
          refine QW.ret1 rfl rfl ?_
          exact ⟨rfl, hst.keep [] rfl⟩
      · have hF := ite_f hF hc41
        refine CW.cond_f rfl hc41 ?_
        refine CW.seq ?_
        refine CW.region ?_
        refine OW.pure 3 [(40, .bool (p0.Op == 12))] (by kernel_rfl) ?_
        refine OW.nil rfl ?_
        refine QW.next ?_
        rcases Bool.eq_false_or_eq_true ((p0.Op == 12)) with hc76 | hc76
        · have hF := ite_t hF hc76
          refine CW.cond_t rfl hc76 ?_
          refine CW.seq ?_
          obtain ⟨o87, ho88, hF⟩ := bind_some' hF
          refine CW.cutK (fun a w1 => Rep 231 [(2, .bool o87)] a ∧ St w (fp []) w1 []) ?_ ?_
          · refine CW.region ?_
            refine OW.pure 1 [(43, .pointer (some ⟨b3, 1, none⟩))] (by kernel_rfl) ?_
            refine OW.ld rfl rfl rfl rfl (by kernel_rfl) (hst.blk 0 rfl rfl) ?_
            refine OW.pure 2 [(46, .bool (p0.D == 0))] (by kernel_rfl) ?_
            refine OW.split 46 rfl (fun hc89 => ?_) (fun hc89 => ?_)
            · have ho88 := ite_t ho88 hc89
              refine OW.pure 1 [(47, .pointer (some ⟨b3, 2, none⟩))] (by kernel_rfl) ?_
              refine OW.ld rfl rfl rfl rfl (by kernel_rfl) (hst.blk 0 rfl rfl) ?_
              obtain ⟨r90, hr91, ho88⟩ := bind_some' ho88
              refine OW.fn rfl rfl rfl rfl (by kernel_rfl) (tappetref02_reg_ok _ p0.A r90 hr91 (hst.part [] rfl)) ?_
              rintro e w92 ⟨rfl, hst93⟩
              refine ⟨_, rfl, ?_⟩
              have hst := hst.join (idx := []) (rest := [0]) rfl hst93
              refine OW.pure 2 [(51, .bool r90)] (by kernel_rfl) ?_
              refine OW.split 51 rfl (fun hc94 => ?_) (fun hc94 => ?_)
              · have ho88 := ite_t ho88 hc94
                refine OW.ldN (cs := [.int .i64 p0.Op, .int .i64 p0.D, .int .i64 p0.A, .int .i64 p0.B, .int .i64 p0.Imm]) rfl rfl rfl rfl (by kernel_rfl) (by kernel_rfl) (hst.blkN 0 rfl 0 5) ?_
                obtain ⟨r95, hr96, ho88⟩ := bind_some' ho88
                refine OW.fn rfl rfl rfl rfl (by kernel_rfl) (tappetref02_sourced_ok _ p0 r95 hr96 (hst.part [] rfl)) ?_
                rintro e w97 ⟨rfl, hst98⟩
                refine ⟨_, rfl, ?_⟩
                have hst := hst.join (idx := []) (rest := [0]) rfl hst98
                refine OW.pure 2 [(2, .bool r95)] (by kernel_rfl) ?_
                refine OW.nil rfl ?_
                obtain rfl := Option.some.inj ho88
                exact QW.meet (fun a ha => ⟨ha.agrees (by kernel_rfl), hst.keep [] rfl⟩)
              · have ho88 := ite_f ho88 hc94
                refine OW.pure 4 [(2, .bool false)] (by kernel_rfl) ?_
                refine OW.nil rfl ?_
                obtain rfl := Option.some.inj ho88
                exact QW.meet (fun a ha => ⟨ha.agrees (by kernel_rfl), hst.keep [] rfl⟩)
            · have ho88 := ite_f ho88 hc89
              refine OW.pure 9 [(2, .bool false)] (by kernel_rfl) ?_
              refine OW.nil rfl ?_
              obtain rfl := Option.some.inj ho88
              exact QW.meet (fun a ha => ⟨ha.agrees (by kernel_rfl), hst.keep [] rfl⟩)
          · rintro a w1 ⟨ha, hst⟩
            refine CW.go ?_ ha
            refine CW.ret ?_
            refine QW.block_ret ?_
            refine QW.then_ret ?_
            obtain rfl := Option.some.inj hF
            refine QW.ret1 rfl rfl ?_
            exact ⟨rfl, hst.keep [] rfl⟩
        · have hF := ite_f hF hc76
          refine CW.cond_f rfl hc76 ?_
          refine CW.seq ?_
          refine CW.region ?_
          refine OW.pure 3 [(55, .bool (p0.Op == 13))] (by kernel_rfl) ?_
          refine OW.nil rfl ?_
          refine QW.next ?_
          rcases Bool.eq_false_or_eq_true ((p0.Op == 13)) with hc99 | hc99
          · have hF := ite_t hF hc99
            refine CW.cond_t rfl hc99 ?_
            refine CW.seq ?_
            obtain ⟨o112, ho113, hF⟩ := bind_some' hF
            refine CW.cutK (fun a w1 => Rep 231 [(2, .bool o112)] a ∧ St w (fp []) w1 []) ?_ ?_
            · refine CW.region ?_
              refine OW.pure 1 [(58, .pointer (some ⟨b3, 1, none⟩))] (by kernel_rfl) ?_
              refine OW.ld rfl rfl rfl rfl (by kernel_rfl) (hst.blk 0 rfl rfl) ?_
              obtain ⟨r114, hr115, ho113⟩ := bind_some' ho113
              refine OW.fn rfl rfl rfl rfl (by kernel_rfl) (tappetref02_reg_ok _ p0.D r114 hr115 (hst.part [] rfl)) ?_
              rintro e w116 ⟨rfl, hst117⟩
              refine ⟨_, rfl, ?_⟩
              have hst := hst.join (idx := []) (rest := [0]) rfl hst117
              refine OW.pure 1 [(61, .bool r114)] (by kernel_rfl) ?_
              refine OW.split 61 rfl (fun hc118 => ?_) (fun hc118 => ?_)
              · have ho113 := ite_t ho113 hc118
                refine OW.pure 1 [(62, .pointer (some ⟨b3, 2, none⟩))] (by kernel_rfl) ?_
                refine OW.ld rfl rfl rfl rfl (by kernel_rfl) (hst.blk 0 rfl rfl) ?_
                refine OW.pure 3 [(66, .bool (p0.A == 0))] (by kernel_rfl) ?_
                refine OW.split 66 rfl (fun hc119 => ?_) (fun hc119 => ?_)
                · have ho113 := ite_t ho113 hc119
                  refine OW.pure 1 [(67, .pointer (some ⟨b3, 3, none⟩))] (by kernel_rfl) ?_
                  refine OW.ld rfl rfl rfl rfl (by kernel_rfl) (hst.blk 0 rfl rfl) ?_
                  refine OW.pure 3 [(71, .bool (p0.B == 0))] (by kernel_rfl) ?_
                  refine OW.split 71 rfl (fun hc120 => ?_) (fun hc120 => ?_)
                  · have ho113 := ite_t ho113 hc120
                    refine OW.pure 1 [(72, .pointer (some ⟨b3, 4, none⟩))] (by kernel_rfl) ?_
                    refine OW.ld rfl rfl rfl rfl (by kernel_rfl) (hst.blk 0 rfl rfl) ?_
                    refine OW.pure 2 [(75, .bool (p0.Imm == 0))] (by kernel_rfl) ?_
                    refine OW.split 75 rfl (fun hc121 => ?_) (fun hc121 => ?_)
                    · have ho113 := ite_t ho113 hc121
                      refine OW.pure 6 [(2, .bool true)] (by kernel_rfl) ?_
                      refine OW.nil rfl ?_
                      obtain rfl := Option.some.inj ho113
                      exact QW.meet (fun a ha => ⟨ha.agrees (by kernel_rfl), hst.keep [] rfl⟩)
                    · have ho113 := ite_f ho113 hc121
                      refine OW.pure 1 [(76, .pointer (some ⟨b3, 4, none⟩))] (by kernel_rfl) ?_
                      refine OW.ld rfl rfl rfl rfl (by kernel_rfl) (hst.blk 0 rfl rfl) ?_
                      refine OW.pure 4 [(2, .bool (p0.Imm == 1))] (by kernel_rfl) ?_
                      refine OW.nil rfl ?_
                      obtain rfl := Option.some.inj ho113
                      exact QW.meet (fun a ha => ⟨ha.agrees (by kernel_rfl), hst.keep [] rfl⟩)
                  · have ho113 := ite_f ho113 hc120
                    refine OW.pure 10 [(2, .bool false)] (by kernel_rfl) ?_
                    refine OW.nil rfl ?_
                    obtain rfl := Option.some.inj ho113
                    exact QW.meet (fun a ha => ⟨ha.agrees (by kernel_rfl), hst.keep [] rfl⟩)
                · have ho113 := ite_f ho113 hc119
                  refine OW.pure 15 [(2, .bool false)] (by kernel_rfl) ?_
                  refine OW.nil rfl ?_
                  obtain rfl := Option.some.inj ho113
                  exact QW.meet (fun a ha => ⟨ha.agrees (by kernel_rfl), hst.keep [] rfl⟩)
              · have ho113 := ite_f ho113 hc118
                refine OW.pure 20 [(2, .bool false)] (by kernel_rfl) ?_
                refine OW.nil rfl ?_
                obtain rfl := Option.some.inj ho113
                exact QW.meet (fun a ha => ⟨ha.agrees (by kernel_rfl), hst.keep [] rfl⟩)
            · rintro a w1 ⟨ha, hst⟩
              refine CW.go ?_ ha
              refine CW.ret ?_
              refine QW.block_ret ?_
              refine QW.then_ret ?_
              obtain rfl := Option.some.inj hF
              refine QW.ret1 rfl rfl ?_
              exact ⟨rfl, hst.keep [] rfl⟩
          · have hF := ite_f hF hc99
            refine CW.cond_f rfl hc99 ?_
            refine CW.seq ?_
            refine CW.region ?_
            refine OW.pure 3 [(81, .bool (p0.Op == 14))] (by kernel_rfl) ?_
            refine OW.nil rfl ?_
            refine QW.next ?_
            rcases Bool.eq_false_or_eq_true ((p0.Op == 14)) with hc122 | hc122
            · have hF := ite_t hF hc122
              refine CW.cond_t rfl hc122 ?_
              refine CW.seq ?_
              obtain ⟨o135, ho136, hF⟩ := bind_some' hF
              refine CW.cutK (fun a w1 => Rep 231 [(2, .bool o135)] a ∧ St w (fp []) w1 []) ?_ ?_
              · refine CW.region ?_
                refine OW.pure 1 [(84, .pointer (some ⟨b3, 1, none⟩))] (by kernel_rfl) ?_
                refine OW.ld rfl rfl rfl rfl (by kernel_rfl) (hst.blk 0 rfl rfl) ?_
                obtain ⟨r137, hr138, ho136⟩ := bind_some' ho136
                refine OW.fn rfl rfl rfl rfl (by kernel_rfl) (tappetref02_reg_ok _ p0.D r137 hr138 (hst.part [] rfl)) ?_
                rintro e w139 ⟨rfl, hst140⟩
                refine ⟨_, rfl, ?_⟩
                have hst := hst.join (idx := []) (rest := [0]) rfl hst140
                refine OW.pure 1 [(87, .bool r137)] (by kernel_rfl) ?_
                refine OW.split 87 rfl (fun hc141 => ?_) (fun hc141 => ?_)
                · have ho136 := ite_t ho136 hc141
                  refine OW.pure 1 [(88, .pointer (some ⟨b3, 2, none⟩))] (by kernel_rfl) ?_
                  refine OW.ld rfl rfl rfl rfl (by kernel_rfl) (hst.blk 0 rfl rfl) ?_
                  refine OW.pure 3 [(92, .bool (p0.A == 0))] (by kernel_rfl) ?_
                  refine OW.split 92 rfl (fun hc142 => ?_) (fun hc142 => ?_)
                  · have ho136 := ite_t ho136 hc142
                    refine OW.pure 1 [(93, .pointer (some ⟨b3, 3, none⟩))] (by kernel_rfl) ?_
                    refine OW.ld rfl rfl rfl rfl (by kernel_rfl) (hst.blk 0 rfl rfl) ?_
                    refine OW.pure 3 [(97, .bool (p0.B == 0))] (by kernel_rfl) ?_
                    refine OW.split 97 rfl (fun hc143 => ?_) (fun hc143 => ?_)
                    · have ho136 := ite_t ho136 hc143
                      refine OW.pure 1 [(98, .pointer (some ⟨b3, 4, none⟩))] (by kernel_rfl) ?_
                      refine OW.ld rfl rfl rfl rfl (by kernel_rfl) (hst.blk 0 rfl rfl) ?_
                      refine OW.pure 3 [(102, .bool (decide (p0.Imm ≥ 0)))] (by kernel_rfl) ?_
                      refine OW.split 102 rfl (fun hc144 => ?_) (fun hc144 => ?_)
                      · have ho136 := ite_t ho136 hc144
                        refine OW.pure 1 [(103, .pointer (some ⟨b3, 4, none⟩))] (by kernel_rfl) ?_
                        refine OW.ld rfl rfl rfl rfl (by kernel_rfl) (hst.blk 0 rfl rfl) ?_
                        refine OW.pure 3 [(2, .bool (decide (p0.Imm ≤ 3)))] (by kernel_rfl) ?_
                        refine OW.nil rfl ?_
                        obtain rfl := Option.some.inj ho136
                        exact QW.meet (fun a ha => ⟨ha.agrees (by kernel_rfl), hst.keep [] rfl⟩)
                      · have ho136 := ite_f ho136 hc144
                        refine OW.pure 5 [(2, .bool false)] (by kernel_rfl) ?_
                        refine OW.nil rfl ?_
                        obtain rfl := Option.some.inj ho136
                        exact QW.meet (fun a ha => ⟨ha.agrees (by kernel_rfl), hst.keep [] rfl⟩)
                    · have ho136 := ite_f ho136 hc143
                      refine OW.pure 10 [(2, .bool false)] (by kernel_rfl) ?_
                      refine OW.nil rfl ?_
                      obtain rfl := Option.some.inj ho136
                      exact QW.meet (fun a ha => ⟨ha.agrees (by kernel_rfl), hst.keep [] rfl⟩)
                  · have ho136 := ite_f ho136 hc142
                    refine OW.pure 15 [(2, .bool false)] (by kernel_rfl) ?_
                    refine OW.nil rfl ?_
                    obtain rfl := Option.some.inj ho136
                    exact QW.meet (fun a ha => ⟨ha.agrees (by kernel_rfl), hst.keep [] rfl⟩)
                · have ho136 := ite_f ho136 hc141
                  refine OW.pure 20 [(2, .bool false)] (by kernel_rfl) ?_
                  refine OW.nil rfl ?_
                  obtain rfl := Option.some.inj ho136
                  exact QW.meet (fun a ha => ⟨ha.agrees (by kernel_rfl), hst.keep [] rfl⟩)
              · rintro a w1 ⟨ha, hst⟩
                refine CW.go ?_ ha
                refine CW.ret ?_
                refine QW.block_ret ?_
                refine QW.then_ret ?_
                obtain rfl := Option.some.inj hF
                refine QW.ret1 rfl rfl ?_
                exact ⟨rfl, hst.keep [] rfl⟩
            · have hF := ite_f hF hc122
              refine CW.cond_f rfl hc122 ?_
              refine CW.seq ?_
              refine CW.region ?_
              refine OW.pure 3 [(107, .bool (p0.Op == 15))] (by kernel_rfl) ?_
              refine OW.nil rfl ?_
              refine QW.next ?_
              rcases Bool.eq_false_or_eq_true ((p0.Op == 15)) with hc145 | hc145
              · have hF := ite_t hF hc145
                refine CW.cond_t rfl hc145 ?_
                refine CW.seq ?_
                refine CW.cutK (fun a w1 => Rep 231 [(2, .bool ((((decide (p0.D ≥ 0) && decide (p0.D ≤ 63)) && (p0.A == 0)) && (p0.B == 0)) && (p0.Imm == 0)))] a ∧ St w (fp []) w1 []) ?_ ?_
                · refine CW.region ?_
                  refine OW.pure 1 [(110, .pointer (some ⟨b3, 1, none⟩))] (by kernel_rfl) ?_
                  refine OW.ld rfl rfl rfl rfl (by kernel_rfl) (hst.blk 0 rfl rfl) ?_
                  refine OW.pure 2 [(113, .bool (decide (p0.D ≥ 0)))] (by kernel_rfl) ?_
                  refine OW.split 113 rfl (fun hc146 => ?_) (fun hc146 => ?_)
                  · refine OW.pure 1 [(114, .pointer (some ⟨b3, 1, none⟩))] (by kernel_rfl) ?_
                    refine OW.ld rfl rfl rfl rfl (by kernel_rfl) (hst.blk 0 rfl rfl) ?_
                    refine OW.pure 3 [(118, .bool (decide (p0.D ≤ 63)))] (by kernel_rfl) ?_
                    refine OW.split 118 rfl (fun hc147 => ?_) (fun hc147 => ?_)
                    · refine OW.pure 1 [(119, .pointer (some ⟨b3, 2, none⟩))] (by kernel_rfl) ?_
                      refine OW.ld rfl rfl rfl rfl (by kernel_rfl) (hst.blk 0 rfl rfl) ?_
                      refine OW.pure 3 [(123, .bool (p0.A == 0))] (by kernel_rfl) ?_
                      refine OW.split 123 rfl (fun hc148 => ?_) (fun hc148 => ?_)
                      · refine OW.pure 1 [(124, .pointer (some ⟨b3, 3, none⟩))] (by kernel_rfl) ?_
                        refine OW.ld rfl rfl rfl rfl (by kernel_rfl) (hst.blk 0 rfl rfl) ?_
                        refine OW.pure 3 [(128, .bool (p0.B == 0))] (by kernel_rfl) ?_
                        refine OW.split 128 rfl (fun hc149 => ?_) (fun hc149 => ?_)
                        · refine OW.pure 1 [(129, .pointer (some ⟨b3, 4, none⟩))] (by kernel_rfl) ?_
                          refine OW.ld rfl rfl rfl rfl (by kernel_rfl) (hst.blk 0 rfl rfl) ?_
                          refine OW.pure 3 [(2, .bool (p0.Imm == 0))] (by kernel_rfl) ?_
                          refine OW.nil rfl ?_
                          refine QW.say 2 (v := .bool ((((decide (p0.D ≥ 0) && decide (p0.D ≤ 63)) && (p0.A == 0)) && (p0.B == 0)) && (p0.Imm == 0))) rfl (by first | (rw [hc146, hc147, hc148, hc149]; done) | (rw [hc146, hc147, hc148, hc149]; rfl) | simp [hc146, hc147, hc148, hc149]) ?_
                          exact QW.meet (fun a ha => ⟨ha.agrees (by kernel_rfl), hst.keep [] rfl⟩)
                        · refine OW.pure 5 [(2, .bool false)] (by kernel_rfl) ?_
                          refine OW.nil rfl ?_
                          refine QW.say 2 (v := .bool ((((decide (p0.D ≥ 0) && decide (p0.D ≤ 63)) && (p0.A == 0)) && (p0.B == 0)) && (p0.Imm == 0))) rfl (by first | (rw [hc146, hc147, hc148, hc149]; done) | (rw [hc146, hc147, hc148, hc149]; rfl) | simp [hc146, hc147, hc148, hc149]) ?_
                          exact QW.meet (fun a ha => ⟨ha.agrees (by kernel_rfl), hst.keep [] rfl⟩)
                      · refine OW.pure 10 [(2, .bool false)] (by kernel_rfl) ?_
                        refine OW.nil rfl ?_
                        refine QW.say 2 (v := .bool ((((decide (p0.D ≥ 0) && decide (p0.D ≤ 63)) && (p0.A == 0)) && (p0.B == 0)) && (p0.Imm == 0))) rfl (by first | (rw [hc146, hc147, hc148]; done) | (rw [hc146, hc147, hc148]; rfl) | simp [hc146, hc147, hc148]) ?_
                        exact QW.meet (fun a ha => ⟨ha.agrees (by kernel_rfl), hst.keep [] rfl⟩)
                    · refine OW.pure 15 [(2, .bool false)] (by kernel_rfl) ?_
                      refine OW.nil rfl ?_
                      refine QW.say 2 (v := .bool ((((decide (p0.D ≥ 0) && decide (p0.D ≤ 63)) && (p0.A == 0)) && (p0.B == 0)) && (p0.Imm == 0))) rfl (by first | (rw [hc146, hc147]; done) | (rw [hc146, hc147]; rfl) | simp [hc146, hc147]) ?_
                      exact QW.meet (fun a ha => ⟨ha.agrees (by kernel_rfl), hst.keep [] rfl⟩)
                  · refine OW.pure 20 [(2, .bool false)] (by kernel_rfl) ?_
                    refine OW.nil rfl ?_
                    refine QW.say 2 (v := .bool ((((decide (p0.D ≥ 0) && decide (p0.D ≤ 63)) && (p0.A == 0)) && (p0.B == 0)) && (p0.Imm == 0))) rfl (by first | (rw [hc146]; done) | (rw [hc146]; rfl) | simp [hc146]) ?_
                    exact QW.meet (fun a ha => ⟨ha.agrees (by kernel_rfl), hst.keep [] rfl⟩)
                · rintro a w1 ⟨ha, hst⟩
                  refine CW.go ?_ ha
                  refine CW.ret ?_
                  refine QW.block_ret ?_
                  refine QW.then_ret ?_
                  obtain rfl := Option.some.inj hF
                  refine QW.ret1 rfl rfl ?_
                  exact ⟨rfl, hst.keep [] rfl⟩
              · have hF := ite_f hF hc145
                refine CW.cond_f rfl hc145 ?_
                refine CW.seq ?_
                refine CW.region ?_
                refine OW.pure 1 [(134, .int .i64 p0.Op)] (by kernel_rfl) ?_
                obtain ⟨r154, hr155, hF⟩ := bind_some' hF
                refine OW.fn rfl rfl rfl rfl (by kernel_rfl) (tappetref02_Jump_ok _ p0.Op r154 hr155 (hst.part [] rfl)) ?_
                rintro e w156 ⟨rfl, hst157⟩
                refine ⟨_, rfl, ?_⟩
                have hst := hst.join (idx := []) (rest := [0]) rfl hst157
                refine OW.pure 1 [(133, .bool r154)] (by kernel_rfl) ?_
                refine OW.nil rfl ?_
                refine QW.next ?_
                rcases Bool.eq_false_or_eq_true (r154) with hc158 | hc158
                · have hF := ite_t hF hc158
                  refine CW.cond_t rfl hc158 ?_
                  refine CW.seq ?_
                  obtain ⟨o170, ho171, hF⟩ := bind_some' hF
                  refine CW.cutK (fun a w1 => Rep 231 [(2, .bool o170)] a ∧ St w (fp []) w1 []) ?_ ?_
                  · refine CW.region ?_
                    refine OW.pure 1 [(136, .pointer (some ⟨b3, 1, none⟩))] (by kernel_rfl) ?_
                    refine OW.ld rfl rfl rfl rfl (by kernel_rfl) (hst.blk 0 rfl rfl) ?_
                    refine OW.pure 2 [(139, .bool (decide (p0.D ≥ 0)))] (by kernel_rfl) ?_
                    refine OW.split 139 rfl (fun hc172 => ?_) (fun hc172 => ?_)
                    · have ho171 := ite_t ho171 hc172
                      refine OW.pure 1 [(140, .pointer (some ⟨b3, 1, none⟩))] (by kernel_rfl) ?_
                      refine OW.ld rfl rfl rfl rfl (by kernel_rfl) (hst.blk 0 rfl rfl) ?_
                      refine OW.pure 3 [(144, .bool (decide (p0.D ≤ 63)))] (by kernel_rfl) ?_
                      refine OW.split 144 rfl (fun hc173 => ?_) (fun hc173 => ?_)
                      · have ho171 := ite_t ho171 hc173
                        refine OW.pure 1 [(145, .pointer (some ⟨b3, 2, none⟩))] (by kernel_rfl) ?_
                        refine OW.ld rfl rfl rfl rfl (by kernel_rfl) (hst.blk 0 rfl rfl) ?_
                        obtain ⟨r174, hr175, ho171⟩ := bind_some' ho171
                        refine OW.fn rfl rfl rfl rfl (by kernel_rfl) (tappetref02_reg_ok _ p0.A r174 hr175 (hst.part [] rfl)) ?_
                        rintro e w176 ⟨rfl, hst177⟩
                        refine ⟨_, rfl, ?_⟩
                        have hst := hst.join (idx := []) (rest := [0]) rfl hst177
                        refine OW.pure 2 [(149, .bool r174)] (by kernel_rfl) ?_
                        refine OW.split 149 rfl (fun hc178 => ?_) (fun hc178 => ?_)
                        · have ho171 := ite_t ho171 hc178
                          refine OW.ldN (cs := [.int .i64 p0.Op, .int .i64 p0.D, .int .i64 p0.A, .int .i64 p0.B, .int .i64 p0.Imm]) rfl rfl rfl rfl (by kernel_rfl) (by kernel_rfl) (hst.blkN 0 rfl 0 5) ?_
                          obtain ⟨r179, hr180, ho171⟩ := bind_some' ho171
                          refine OW.fn rfl rfl rfl rfl (by kernel_rfl) (tappetref02_sourced_ok _ p0 r179 hr180 (hst.part [] rfl)) ?_
                          rintro e w181 ⟨rfl, hst182⟩
                          refine ⟨_, rfl, ?_⟩
                          have hst := hst.join (idx := []) (rest := [0]) rfl hst182
                          refine OW.pure 2 [(2, .bool r179)] (by kernel_rfl) ?_
                          refine OW.nil rfl ?_
                          obtain rfl := Option.some.inj ho171
                          exact QW.meet (fun a ha => ⟨ha.agrees (by kernel_rfl), hst.keep [] rfl⟩)
                        · have ho171 := ite_f ho171 hc178
                          refine OW.pure 4 [(2, .bool false)] (by kernel_rfl) ?_
                          refine OW.nil rfl ?_
                          obtain rfl := Option.some.inj ho171
                          exact QW.meet (fun a ha => ⟨ha.agrees (by kernel_rfl), hst.keep [] rfl⟩)
                      · have ho171 := ite_f ho171 hc173
                        refine OW.pure 9 [(2, .bool false)] (by kernel_rfl) ?_
                        refine OW.nil rfl ?_
                        obtain rfl := Option.some.inj ho171
                        exact QW.meet (fun a ha => ⟨ha.agrees (by kernel_rfl), hst.keep [] rfl⟩)
                    · have ho171 := ite_f ho171 hc172
                      refine OW.pure 14 [(2, .bool false)] (by kernel_rfl) ?_
                      refine OW.nil rfl ?_
                      obtain rfl := Option.some.inj ho171
                      exact QW.meet (fun a ha => ⟨ha.agrees (by kernel_rfl), hst.keep [] rfl⟩)
                  · rintro a w1 ⟨ha, hst⟩
                    refine CW.go ?_ ha
                    refine CW.ret ?_
                    refine QW.block_ret ?_
                    refine QW.then_ret ?_
                    obtain rfl := Option.some.inj hF
                    refine QW.ret1 rfl rfl ?_
                    exact ⟨rfl, hst.keep [] rfl⟩
                · have hF := ite_f hF hc158
                  refine CW.cond_f rfl hc158 ?_
                  refine CW.seq ?_
                  refine CW.region ?_
                  refine OW.pure 3 [(153, .bool (p0.Op == 20))] (by kernel_rfl) ?_
                  refine OW.nil rfl ?_
                  refine QW.next ?_
                  rcases Bool.eq_false_or_eq_true ((p0.Op == 20)) with hc183 | hc183
                  · have hF := ite_t hF hc183
                    refine CW.cond_t rfl hc183 ?_
                    refine CW.seq ?_
                    obtain ⟨o193, ho194, hF⟩ := bind_some' hF
                    refine CW.cutK (fun a w1 => Rep 231 [(2, .bool o193)] a ∧ St w (fp []) w1 []) ?_ ?_
                    · refine CW.region ?_
                      refine OW.pure 1 [(156, .pointer (some ⟨b3, 1, none⟩))] (by kernel_rfl) ?_
                      refine OW.ld rfl rfl rfl rfl (by kernel_rfl) (hst.blk 0 rfl rfl) ?_
                      refine OW.pure 2 [(159, .bool (decide (p0.D ≥ 1)))] (by kernel_rfl) ?_
                      refine OW.split 159 rfl (fun hc195 => ?_) (fun hc195 => ?_)
                      · have ho194 := ite_t ho194 hc195
                        refine OW.pure 1 [(160, .pointer (some ⟨b3, 1, none⟩))] (by kernel_rfl) ?_
                        refine OW.ld rfl rfl rfl rfl (by kernel_rfl) (hst.blk 0 rfl rfl) ?_
                        refine OW.pure 3 [(164, .bool (decide (p0.D ≤ 63)))] (by kernel_rfl) ?_
                        refine OW.split 164 rfl (fun hc196 => ?_) (fun hc196 => ?_)
                        · have ho194 := ite_t ho194 hc196
                          refine OW.pure 1 [(165, .pointer (some ⟨b3, 2, none⟩))] (by kernel_rfl) ?_
                          refine OW.ld rfl rfl rfl rfl (by kernel_rfl) (hst.blk 0 rfl rfl) ?_
                          obtain ⟨r197, hr198, ho194⟩ := bind_some' ho194
                          refine OW.fn rfl rfl rfl rfl (by kernel_rfl) (tappetref02_reg_ok _ p0.A r197 hr198 (hst.part [] rfl)) ?_
                          rintro e w199 ⟨rfl, hst200⟩
                          refine ⟨_, rfl, ?_⟩
                          have hst := hst.join (idx := []) (rest := [0]) rfl hst200
                          refine OW.pure 2 [(169, .bool r197)] (by kernel_rfl) ?_
                          refine OW.split 169 rfl (fun hc201 => ?_) (fun hc201 => ?_)
                          · have ho194 := ite_t ho194 hc201
                            refine OW.pure 1 [(170, .pointer (some ⟨b3, 3, none⟩))] (by kernel_rfl) ?_
                            refine OW.ld rfl rfl rfl rfl (by kernel_rfl) (hst.blk 0 rfl rfl) ?_
                            refine OW.pure 3 [(174, .bool (p0.B == 0))] (by kernel_rfl) ?_
                            refine OW.split 174 rfl (fun hc202 => ?_) (fun hc202 => ?_)
                            · have ho194 := ite_t ho194 hc202
                              refine OW.pure 1 [(175, .pointer (some ⟨b3, 4, none⟩))] (by kernel_rfl) ?_
                              refine OW.ld rfl rfl rfl rfl (by kernel_rfl) (hst.blk 0 rfl rfl) ?_
                              refine OW.pure 3 [(179, .bool (decide (p0.Imm ≥ 1)))] (by kernel_rfl) ?_
                              refine OW.split 179 rfl (fun hc203 => ?_) (fun hc203 => ?_)
                              · have ho194 := ite_t ho194 hc203
                                refine OW.pure 1 [(180, .pointer (some ⟨b3, 4, none⟩))] (by kernel_rfl) ?_
                                refine OW.ld rfl rfl rfl rfl (by kernel_rfl) (hst.blk 0 rfl rfl) ?_
                                refine OW.pure 3 [(2, .bool (decide (p0.Imm ≤ 255)))] (by kernel_rfl) ?_
                                refine OW.nil rfl ?_
                                obtain rfl := Option.some.inj ho194
                                exact QW.meet (fun a ha => ⟨ha.agrees (by kernel_rfl), hst.keep [] rfl⟩)
                              · have ho194 := ite_f ho194 hc203
                                refine OW.pure 5 [(2, .bool false)] (by kernel_rfl) ?_
                                refine OW.nil rfl ?_
                                obtain rfl := Option.some.inj ho194
                                exact QW.meet (fun a ha => ⟨ha.agrees (by kernel_rfl), hst.keep [] rfl⟩)
                            · have ho194 := ite_f ho194 hc202
                              refine OW.pure 10 [(2, .bool false)] (by kernel_rfl) ?_
                              refine OW.nil rfl ?_
                              obtain rfl := Option.some.inj ho194
                              exact QW.meet (fun a ha => ⟨ha.agrees (by kernel_rfl), hst.keep [] rfl⟩)
                          · have ho194 := ite_f ho194 hc201
                            refine OW.pure 15 [(2, .bool false)] (by kernel_rfl) ?_
                            refine OW.nil rfl ?_
                            obtain rfl := Option.some.inj ho194
                            exact QW.meet (fun a ha => ⟨ha.agrees (by kernel_rfl), hst.keep [] rfl⟩)
                        · have ho194 := ite_f ho194 hc196
                          refine OW.pure 20 [(2, .bool false)] (by kernel_rfl) ?_
                          refine OW.nil rfl ?_
                          obtain rfl := Option.some.inj ho194
                          exact QW.meet (fun a ha => ⟨ha.agrees (by kernel_rfl), hst.keep [] rfl⟩)
                      · have ho194 := ite_f ho194 hc195
                        refine OW.pure 25 [(2, .bool false)] (by kernel_rfl) ?_
                        refine OW.nil rfl ?_
                        obtain rfl := Option.some.inj ho194
                        exact QW.meet (fun a ha => ⟨ha.agrees (by kernel_rfl), hst.keep [] rfl⟩)
                    · rintro a w1 ⟨ha, hst⟩
                      refine CW.go ?_ ha
                      refine CW.ret ?_
                      refine QW.block_ret ?_
                      refine QW.then_ret ?_
                      obtain rfl := Option.some.inj hF
                      refine QW.ret1 rfl rfl ?_
                      exact ⟨rfl, hst.keep [] rfl⟩
                  · have hF := ite_f hF hc183
                    refine CW.cond_f rfl hc183 ?_
                    refine CW.seq ?_
                    refine CW.region ?_
                    refine OW.pure 3 [(184, .bool (p0.Op == 21))] (by kernel_rfl) ?_
                    refine OW.nil rfl ?_
                    refine QW.next ?_
                    rcases Bool.eq_false_or_eq_true ((p0.Op == 21)) with hc204 | hc204
                    · have hF := ite_t hF hc204
                      refine CW.cond_t rfl hc204 ?_
                      refine CW.seq ?_
                      refine CW.cutK (fun a w1 => Rep 231 [(2, .bool (((((p0.D == 0) && (p0.A == 0)) && (p0.B == 0)) && decide (p0.Imm ≥ 0)) && decide (p0.Imm ≤ 6)))] a ∧ St w (fp []) w1 []) ?_ ?_
                      · refine CW.region ?_
                        refine OW.pure 1 [(187, .pointer (some ⟨b3, 1, none⟩))] (by kernel_rfl) ?_
                        refine OW.ld rfl rfl rfl rfl (by kernel_rfl) (hst.blk 0 rfl rfl) ?_
                        refine OW.pure 2 [(190, .bool (p0.D == 0))] (by kernel_rfl) ?_
                        refine OW.split 190 rfl (fun hc205 => ?_) (fun hc205 => ?_)
                        · refine OW.pure 1 [(191, .pointer (some ⟨b3, 2, none⟩))] (by kernel_rfl) ?_
                          refine OW.ld rfl rfl rfl rfl (by kernel_rfl) (hst.blk 0 rfl rfl) ?_
                          refine OW.pure 3 [(195, .bool (p0.A == 0))] (by kernel_rfl) ?_
                          refine OW.split 195 rfl (fun hc206 => ?_) (fun hc206 => ?_)
                          · refine OW.pure 1 [(196, .pointer (some ⟨b3, 3, none⟩))] (by kernel_rfl) ?_
                            refine OW.ld rfl rfl rfl rfl (by kernel_rfl) (hst.blk 0 rfl rfl) ?_
                            refine OW.pure 3 [(200, .bool (p0.B == 0))] (by kernel_rfl) ?_
                            refine OW.split 200 rfl (fun hc207 => ?_) (fun hc207 => ?_)
                            · refine OW.pure 1 [(201, .pointer (some ⟨b3, 4, none⟩))] (by kernel_rfl) ?_
                              refine OW.ld rfl rfl rfl rfl (by kernel_rfl) (hst.blk 0 rfl rfl) ?_
                              refine OW.pure 3 [(205, .bool (decide (p0.Imm ≥ 0)))] (by kernel_rfl) ?_
                              refine OW.split 205 rfl (fun hc208 => ?_) (fun hc208 => ?_)
                              · refine OW.pure 1 [(206, .pointer (some ⟨b3, 4, none⟩))] (by kernel_rfl) ?_
                                refine OW.ld rfl rfl rfl rfl (by kernel_rfl) (hst.blk 0 rfl rfl) ?_
                                refine OW.pure 3 [(2, .bool (decide (p0.Imm ≤ 6)))] (by kernel_rfl) ?_
                                refine OW.nil rfl ?_
                                refine QW.say 2 (v := .bool (((((p0.D == 0) && (p0.A == 0)) && (p0.B == 0)) && decide (p0.Imm ≥ 0)) && decide (p0.Imm ≤ 6))) rfl (by first | (rw [hc205, hc206, hc207, hc208]; done) | (rw [hc205, hc206, hc207, hc208]; rfl) | simp [hc205, hc206, hc207, hc208]) ?_
                                exact QW.meet (fun a ha => ⟨ha.agrees (by kernel_rfl), hst.keep [] rfl⟩)
                              · refine OW.pure 5 [(2, .bool false)] (by kernel_rfl) ?_
                                refine OW.nil rfl ?_
                                refine QW.say 2 (v := .bool (((((p0.D == 0) && (p0.A == 0)) && (p0.B == 0)) && decide (p0.Imm ≥ 0)) && decide (p0.Imm ≤ 6))) rfl (by first | (rw [hc205, hc206, hc207, hc208]; done) | (rw [hc205, hc206, hc207, hc208]; rfl) | simp [hc205, hc206, hc207, hc208]) ?_
                                exact QW.meet (fun a ha => ⟨ha.agrees (by kernel_rfl), hst.keep [] rfl⟩)
                            · refine OW.pure 10 [(2, .bool false)] (by kernel_rfl) ?_
                              refine OW.nil rfl ?_
                              refine QW.say 2 (v := .bool (((((p0.D == 0) && (p0.A == 0)) && (p0.B == 0)) && decide (p0.Imm ≥ 0)) && decide (p0.Imm ≤ 6))) rfl (by first | (rw [hc205, hc206, hc207]; done) | (rw [hc205, hc206, hc207]; rfl) | simp [hc205, hc206, hc207]) ?_
                              exact QW.meet (fun a ha => ⟨ha.agrees (by kernel_rfl), hst.keep [] rfl⟩)
                          · refine OW.pure 15 [(2, .bool false)] (by kernel_rfl) ?_
                            refine OW.nil rfl ?_
                            refine QW.say 2 (v := .bool (((((p0.D == 0) && (p0.A == 0)) && (p0.B == 0)) && decide (p0.Imm ≥ 0)) && decide (p0.Imm ≤ 6))) rfl (by first | (rw [hc205, hc206]; done) | (rw [hc205, hc206]; rfl) | simp [hc205, hc206]) ?_
                            exact QW.meet (fun a ha => ⟨ha.agrees (by kernel_rfl), hst.keep [] rfl⟩)
                        · refine OW.pure 20 [(2, .bool false)] (by kernel_rfl) ?_
                          refine OW.nil rfl ?_
                          refine QW.say 2 (v := .bool (((((p0.D == 0) && (p0.A == 0)) && (p0.B == 0)) && decide (p0.Imm ≥ 0)) && decide (p0.Imm ≤ 6))) rfl (by first | (rw [hc205]; done) | (rw [hc205]; rfl) | simp [hc205]) ?_
                          exact QW.meet (fun a ha => ⟨ha.agrees (by kernel_rfl), hst.keep [] rfl⟩)
                      · rintro a w1 ⟨ha, hst⟩
                        refine CW.go ?_ ha
                        refine CW.ret ?_
                        refine QW.block_ret ?_
                        refine QW.then_ret ?_
                        obtain rfl := Option.some.inj hF
                        refine QW.ret1 rfl rfl ?_
                        exact ⟨rfl, hst.keep [] rfl⟩
                    · have hF := ite_f hF hc204
                      refine CW.cond_f rfl hc204 ?_
                      refine CW.seq ?_
                      refine CW.region ?_
                      refine OW.pure 3 [(210, .bool (p0.Op == 22))] (by kernel_rfl) ?_
                      refine OW.nil rfl ?_
                      refine QW.next ?_
                      rcases Bool.eq_false_or_eq_true ((p0.Op == 22)) with hc209 | hc209
                      · have hF := ite_t hF hc209
                        refine CW.cond_t rfl hc209 ?_
                        refine CW.seq ?_
                        obtain ⟨o217, ho218, hF⟩ := bind_some' hF
                        refine CW.cutK (fun a w1 => Rep 231 [(2, .bool o217)] a ∧ St w (fp []) w1 []) ?_ ?_
                        · refine CW.region ?_
                          refine OW.pure 1 [(213, .pointer (some ⟨b3, 1, none⟩))] (by kernel_rfl) ?_
                          refine OW.ld rfl rfl rfl rfl (by kernel_rfl) (hst.blk 0 rfl rfl) ?_
                          refine OW.pure 2 [(216, .bool (p0.D == 0))] (by kernel_rfl) ?_
                          refine OW.split 216 rfl (fun hc219 => ?_) (fun hc219 => ?_)
                          · have ho218 := ite_t ho218 hc219
                            refine OW.pure 1 [(217, .pointer (some ⟨b3, 2, none⟩))] (by kernel_rfl) ?_
                            refine OW.ld rfl rfl rfl rfl (by kernel_rfl) (hst.blk 0 rfl rfl) ?_
                            obtain ⟨r220, hr221, ho218⟩ := bind_some' ho218
                            refine OW.fn rfl rfl rfl rfl (by kernel_rfl) (tappetref02_reg_ok _ p0.A r220 hr221 (hst.part [] rfl)) ?_
                            rintro e w222 ⟨rfl, hst223⟩
                            refine ⟨_, rfl, ?_⟩
                            have hst := hst.join (idx := []) (rest := [0]) rfl hst223
                            refine OW.pure 2 [(221, .bool r220)] (by kernel_rfl) ?_
                            refine OW.split 221 rfl (fun hc224 => ?_) (fun hc224 => ?_)
                            · have ho218 := ite_t ho218 hc224
                              refine OW.pure 1 [(222, .pointer (some ⟨b3, 3, none⟩))] (by kernel_rfl) ?_
                              refine OW.ld rfl rfl rfl rfl (by kernel_rfl) (hst.blk 0 rfl rfl) ?_
                              refine OW.pure 3 [(226, .bool (p0.B == 0))] (by kernel_rfl) ?_
                              refine OW.split 226 rfl (fun hc225 => ?_) (fun hc225 => ?_)
                              · have ho218 := ite_t ho218 hc225
                                refine OW.pure 1 [(227, .pointer (some ⟨b3, 4, none⟩))] (by kernel_rfl) ?_
                                refine OW.ld rfl rfl rfl rfl (by kernel_rfl) (hst.blk 0 rfl rfl) ?_
                                refine OW.pure 3 [(2, .bool (p0.Imm == 0))] (by kernel_rfl) ?_
                                refine OW.nil rfl ?_
                                obtain rfl := Option.some.inj ho218
                                exact QW.meet (fun a ha => ⟨ha.agrees (by kernel_rfl), hst.keep [] rfl⟩)
                              · have ho218 := ite_f ho218 hc225
                                refine OW.pure 5 [(2, .bool false)] (by kernel_rfl) ?_
                                refine OW.nil rfl ?_
                                obtain rfl := Option.some.inj ho218
                                exact QW.meet (fun a ha => ⟨ha.agrees (by kernel_rfl), hst.keep [] rfl⟩)
                            · have ho218 := ite_f ho218 hc224
                              refine OW.pure 10 [(2, .bool false)] (by kernel_rfl) ?_
                              refine OW.nil rfl ?_
                              obtain rfl := Option.some.inj ho218
                              exact QW.meet (fun a ha => ⟨ha.agrees (by kernel_rfl), hst.keep [] rfl⟩)
                          · have ho218 := ite_f ho218 hc219
                            refine OW.pure 15 [(2, .bool false)] (by kernel_rfl) ?_
                            refine OW.nil rfl ?_
                            obtain rfl := Option.some.inj ho218
                            exact QW.meet (fun a ha => ⟨ha.agrees (by kernel_rfl), hst.keep [] rfl⟩)
                        · rintro a w1 ⟨ha, hst⟩
                          refine CW.go ?_ ha
                          refine CW.ret ?_
                          refine QW.block_ret ?_
                          refine QW.then_ret ?_
                          obtain rfl := Option.some.inj hF
                          refine QW.ret1 rfl rfl ?_
                          exact ⟨rfl, hst.keep [] rfl⟩
                      · have hF := ite_f hF hc209
                        refine CW.cond_f rfl hc209 ?_
                        refine CW.skip ?_
                        refine QW.block_normal ?_
                        refine QW.next ?_
                        refine CW.seq ?_
                        refine CW.region ?_
                        refine OW.pure 1 [(2, .bool false)] (by kernel_rfl) ?_
                        refine OW.nil rfl ?_
                        refine QW.next ?_
                        refine CW.ret ?_
                        obtain rfl := Option.some.inj hF
                        refine QW.ret1 rfl rfl ?_
                        exact ⟨rfl, hst.keep [] rfl⟩

set_option maxRecDepth 10000 in
theorem tappetref02_Goes_ok (w : World) (p0 : api_Inst) (r : Int × Bool × Bool) (hF : tappetref02_Goes p0 = some r)
    (hst : St w (fp []) w []) :
    Calls Tryd.prog 26 [.agg [.int .i64 p0.Op, .int .i64 p0.D, .int .i64 p0.A, .int .i64 p0.B, .int .i64 p0.Imm].toArray].toArray w (fun e w' => e = .returned (.tuple #[.int .i64 r.1, .bool r.2.1, .bool r.2.2]) ∧ St w (fp []) w' []) := by
  refine CW.start (N := 32) Tryd.func26 rfl rfl rfl ?_
  refine CW.seq ?_
  refine CW.region ?_
  refine OW.box hst rfl rfl rfl rfl [.int .i64 p0.Op, .int .i64 p0.D, .int .i64 p0.A, .int .i64 p0.B, .int .i64 p0.Imm] rfl ?_
  intro b3 w4 hst
  refine OW.pure 3 [] (by kernel_rfl) ?_
  refine OW.nil rfl ?_
  refine QW.next ?_
  refine CW.seq ?_
  refine CW.region ?_
  refine OW.pure 1 [(6, .pointer (some ⟨b3, 0, none⟩))] (by kernel_rfl) ?_
  refine OW.ld rfl rfl rfl rfl (by kernel_rfl) (hst.blk 0 rfl rfl) ?_
  refine OW.pure 1 [(5, .int .i64 p0.Op)] (by kernel_rfl) ?_
  refine OW.nil rfl ?_
  refine QW.next ?_
  refine CW.seq ?_
  refine CW.block ?_
  refine CW.seq ?_
  refine CW.region ?_
  refine OW.ldN (cs := [.int .i64 p0.Op, .int .i64 p0.D, .int .i64 p0.A, .int .i64 p0.B, .int .i64 p0.Imm]) rfl rfl rfl rfl (by kernel_rfl) (by kernel_rfl) (hst.blkN 0 rfl 0 5) ?_
  obtain ⟨r9, hr10, hF⟩ := bind_some' hF
  refine OW.fn rfl rfl rfl rfl (by kernel_rfl) (tappetref02_Right_ok _ p0 r9 hr10 (hst.part [] rfl)) ?_
  rintro e w11 ⟨rfl, hst12⟩
  refine ⟨_, rfl, ?_⟩
  have hst := hst.join (idx := []) (rest := [0]) rfl hst12
  refine OW.pure 2 [(8, .bool (!r9))] (by kernel_rfl) ?_
  refine OW.nil rfl ?_
  refine QW.next ?_
  rcases Bool.eq_false_or_eq_true ((!r9)) with hc13 | hc13
  · have hF := ite_t hF hc13
    refine CW.cond_t rfl hc13 ?_
    refine CW.seq ?_
    refine CW.region ?_
    refine OW.pure 3 [(2, .int .i64 0), (3, .bool false), (4, .bool false)] (by kernel_rfl) ?_
    refine OW.nil rfl ?_
    refine QW.next ?_
    refine CW.ret ?_
    refine QW.block_ret ?_
    refine QW.then_ret ?_
    obtain rfl := Option.some.inj hF
    refine QW.ret3 rfl rfl rfl rfl ?_
    exact ⟨rfl, hst.keep [] rfl⟩
  · have hF := ite_f hF hc13
    refine CW.cond_f rfl hc13 ?_
    refine CW.seq ?_
    refine CW.region ?_
    refine OW.pure 3 [(12, .bool (p0.Op == 15))] (by kernel_rfl) ?_
    refine OW.nil rfl ?_
    refine QW.next ?_
    rcases Bool.eq_false_or_eq_true ((p0.Op == 15)) with hc14 | hc14
    · have hF := ite_t hF hc14
      refine CW.cond_t rfl hc14 ?_
      refine CW.seq ?_
      refine CW.region ?_
      refine OW.pure 1 [(15, .pointer (some ⟨b3, 1, none⟩))] (by kernel_rfl) ?_
      refine OW.ld rfl rfl rfl rfl (by kernel_rfl) (hst.blk 0 rfl rfl) ?_
      refine OW.pure 4 [(2, .int .i64 (w64 (p0.D + 1))), (3, .bool true), (4, .bool false)] (by kernel_rfl) ?_
      refine OW.nil rfl ?_
      refine QW.next ?_
      refine CW.ret ?_
      refine QW.block_ret ?_
      refine QW.then_ret ?_
      obtain rfl := Option.some.inj hF
      refine QW.ret3 rfl rfl rfl rfl ?_
      exact ⟨rfl, hst.keep [] rfl⟩
    · have hF := ite_f hF hc14
      refine CW.cond_f rfl hc14 ?_
      refine CW.seq ?_
      refine CW.region ?_
      refine OW.pure 1 [(19, .int .i64 p0.Op)] (by kernel_rfl) ?_
      obtain ⟨r19, hr20, hF⟩ := bind_some' hF
      refine OW.fn rfl rfl rfl rfl (by kernel_rfl) (tappetref02_Jump_ok _ p0.Op r19 hr20 (hst.part [] rfl)) ?_
      rintro e w21 ⟨rfl, hst22⟩
      refine ⟨_, rfl, ?_⟩
      have hst := hst.join (idx := []) (rest := [0]) rfl hst22
      refine OW.pure 1 [(18, .bool r19)] (by kernel_rfl) ?_
      refine OW.nil rfl ?_
      refine QW.next ?_
      rcases Bool.eq_false_or_eq_true (r19) with hc23 | hc23
      · have hF := ite_t hF hc23
        refine CW.cond_t rfl hc23 ?_
        refine CW.seq ?_
        refine CW.region ?_
        refine OW.pure 1 [(21, .pointer (some ⟨b3, 1, none⟩))] (by kernel_rfl) ?_
        refine OW.ld rfl rfl rfl rfl (by kernel_rfl) (hst.blk 0 rfl rfl) ?_
        refine OW.pure 4 [(2, .int .i64 (w64 (p0.D + 1))), (3, .bool true), (4, .bool true)] (by kernel_rfl) ?_
        refine OW.nil rfl ?_
        refine QW.next ?_
        refine CW.ret ?_
        refine QW.block_ret ?_
        refine QW.then_ret ?_
        obtain rfl := Option.some.inj hF
        refine QW.ret3 rfl rfl rfl rfl ?_
        exact ⟨rfl, hst.keep [] rfl⟩
      · have hF := ite_f hF hc23
        refine CW.cond_f rfl hc23 ?_
        refine CW.seq ?_
        refine CW.region ?_
        refine OW.pure 3 [(24, .bool (p0.Op == 20))] (by kernel_rfl) ?_
        refine OW.nil rfl ?_
        refine QW.next ?_
        rcases Bool.eq_false_or_eq_true ((p0.Op == 20)) with hc24 | hc24
        · have hF := ite_t hF hc24
          refine CW.cond_t rfl hc24 ?_
          refine CW.seq ?_
          refine CW.region ?_
          refine OW.pure 1 [(27, .pointer (some ⟨b3, 1, none⟩))] (by kernel_rfl) ?_
          refine OW.ld rfl rfl rfl rfl (by kernel_rfl) (hst.blk 0 rfl rfl) ?_
          refine OW.pure 4 [(2, .int .i64 (w64 (0 - p0.D))), (3, .bool true), (4, .bool true)] (by kernel_rfl) ?_
          refine OW.nil rfl ?_
          refine QW.next ?_
          refine CW.ret ?_
          refine QW.block_ret ?_
          refine QW.then_ret ?_
          obtain rfl := Option.some.inj hF
          refine QW.ret3 rfl rfl rfl rfl ?_
          exact ⟨rfl, hst.keep [] rfl⟩
        · have hF := ite_f hF hc24
          refine CW.cond_f rfl hc24 ?_
          refine CW.skip ?_
          refine QW.block_normal ?_
          refine QW.next ?_
          refine CW.seq ?_
          refine CW.region ?_
          refine OW.pure 5 [(2, .int .i64 0), (3, .bool false), (4, .bool (p0.Op != 22))] (by kernel_rfl) ?_
          refine OW.nil rfl ?_
          refine QW.next ?_
          refine CW.ret ?_
          obtain rfl := Option.some.inj hF
          refine QW.ret3 rfl rfl rfl rfl ?_
          exact ⟨rfl, hst.keep [] rfl⟩

set_option maxRecDepth 10000 in
theorem tappetref07_bodies_ok (w : World) (fu : Nat) (v0 : Value) (p0 : List api_Inst) (r : (List (List Int))) (hF : tappetref07_bodies fu p0 = some r)
    (hst : St w (fp []) w []) (h0 : Rd w (fp []) v0 enc_api_Inst 5 p0) :
    Calls Tryd.prog 27 [v0].toArray w (fun e w' => ∃ (x0 : Value) (cx0 : List (List Value)) (Sx0 : List (List Nat)), e = .returned (x0) ∧ St w (fp []) w' [rowI x0 41 (fit 1) 1 cx0, bunI R_t41 cx0 Sx0 r none]) := by
  refine CW.start (N := 44) Tryd.func27 rfl rfl rfl ?_
  obtain ⟨l1, a2, c3, rfl⟩ := h0.len
  refine CW.seq ?_
  refine CW.region ?_
  refine OW.pure 1 [] (by kernel_rfl) ?_
  refine OW.nil rfl ?_
  refine QW.next ?_
  refine CW.seq ?_
  refine CW.region ?_
  refine OW.pure 2 [(7, .int .i64 (((p0).length) : Int))] (by kernel_rfl) ?_
  obtain ⟨m8, hm9, hF⟩ := bind_some' hF
  refine OW.make (enc := fit 1) (sz := 1) hst rfl rfl rfl rfl rfl (by kernel_rfl) el41 [.slice none 0 0] (by kernel_rfl) (fun _ => fit_len _ _) hm9 ?_
  intro g10 w11 hst
  have hst := hst.bunNew R_t41 [.slice none 0 0] [] m8 (fun w => ⟨_, rfl, rfl, World.ownsRow_nil w 0 _ _⟩)
  refine OW.pure 1 [(3, .slice (some ⟨g10, 0, none⟩) m8 m8)] (by kernel_rfl) ?_
  refine OW.nil rfl ?_
  refine QW.next ?_
  refine CW.seq ?_
  refine CW.seq ?_
  refine CW.region ?_
  refine OW.pure 1 [(4, .int .i64 0)] (by kernel_rfl) ?_
  refine OW.nil rfl ?_
  refine QW.next ?_
  obtain ⟨o1262, ho1263, hF⟩ := bind_some' hF
  refine CW.cutK (fun a w1 => ∃ (cs1260 : List (List Value)) (Ss1261 : List (List Nat)), Rep 44 [(3, .slice (some ⟨g10, 0, none⟩) m8 m8)] a ∧ St w (fp []) w1 [rowI (.slice (some ⟨g10, 0, none⟩) m8 m8) 41 (fit 1) 1 cs1260, bunI R_t41 cs1260 Ss1261 o1262 none]) ?_ ?_
  · refine CW.block ?_
    refine CW.loop (fun n a w1 => ∃ (i2098 : Nat) (s2095 : (List (List Int))) (cs2096 : List (List Value)) (Ss2097 : List (List Nat)), i2098 + n = (p0).length ∧ Rep 44 [(0, .slice a2 (p0).length c3), (3, .slice (some ⟨g10, 0, none⟩) m8 m8), (4, .int .i64 (i2098 : Int))] a ∧ St w (fp []) w1 [rowI (.slice (some ⟨g10, 0, none⟩) m8 m8) 41 (fit 1) 1 cs2096, bunI R_t41 cs2096 Ss2097 s2095 none] ∧ forN (tappetref07_bodies_l1 fu p0) (fun (s2095 : (List (List Int))) => s2095) n i2098 s2095 = some o1262) ((p0).length) (fun a ha => ⟨0, (List.replicate m8 []), (List.replicate m8 [.slice none 0 0]), (List.replicate m8 []), Nat.zero_add _, ha.agrees (by kernel_rfl), hst.keep [0, 1] rfl, ho1263⟩) ?_
    rintro n2093 a w1 ⟨i2098, s2095, cs2096, Ss2097, hi2099, ha, hst, hl2094⟩
    refine CW.go ?_ ha
    refine CW.seq ?_
    refine CW.seq ?_
    refine CW.region ?_
    refine OW.pure 4 [(12, .bool (decide ((i2098 : Int) < (((p0).length) : Int))))] (by kernel_rfl) ?_
    refine OW.nil rfl ?_
    refine QW.next ?_
    rcases Bool.eq_false_or_eq_true (decide ((i2098 : Int) < (((p0).length) : Int))) with hc2100 | hc2100
    · rcases n2093 with _ | n2093
      · exact (cnt0 hi2099 hc2100).elim
      refine CW.cond_t rfl hc2100 ?_
      refine CW.skip ?_
      refine QW.next ?_
      refine CW.seq ?_
      refine CW.block ?_
      refine CW.seq ?_
      refine CW.seq ?_
      refine CW.region ?_
      refine OW.pure 2 [(15, .slice a2 (p0).length c3), (16, .int .i64 (i2098 : Int))] (by kernel_rfl) ?_
      obtain ⟨x2107, hx2108, hl2094⟩ := bind_some' hl2094
      obtain ⟨g2110, o2111, c2112, hv2109⟩ := h0.formv (fun _ => ⟨_, rfl⟩) hx2108
      refine OW.idx 32 5 rfl rfl rfl rfl hv2109 rfl (idx_some hx2108).1 (idx_some hx2108).2.1 (by kernel_rfl) (by kernel_rfl) ?_
      refine OW.pure 1 [(18, .pointer (some ⟨g2110, o2111 + Int.toNat (i2098 : Int) * 5, none⟩))] (by kernel_rfl) ?_
      refine OW.ld rfl rfl rfl rfl (by kernel_rfl) (h0.cellv hst hx2108 hv2109 0 _ rfl) ?_
      refine OW.pure 1 [(20, .bool (x2107.Op != 20))] (by kernel_rfl) ?_
      refine OW.nil rfl ?_
      refine QW.next ?_
      rcases Bool.eq_false_or_eq_true ((x2107.Op != 20)) with hc2113 | hc2113
      · have hl2094 := ite_t hl2094 hc2113
        refine CW.cond_t rfl hc2113 ?_
        refine CW.exit ?_
        refine QW.then_exit ?_
        refine QW.block_here ?_
        refine QW.next ?_
        refine CW.region ?_
        refine OW.pure 3 [(4, .int .i64 (w64 ((i2098 : Int) + 1)))] (by kernel_rfl) ?_
        refine OW.nil rfl ?_
        refine QW.say 4 rfl (congrArg (Value.int .i64) (w64_cnt hc2100 l1)) ?_
        exact QW.meet (fun a ha => ⟨n2093, Nat.lt_succ_self _, i2098 + 1, s2095, cs2096, Ss2097, cnt_next hi2099, ha.agrees (by kernel_rfl), hst.keep [0, 1] rfl, hl2094⟩)
      · have hl2094 := ite_f hl2094 hc2113
        refine CW.cond_f rfl hc2113 ?_
        refine CW.skip ?_
        refine QW.next ?_
        refine CW.seq ?_
        refine CW.region ?_
        refine OW.pure 3 [(21, .int .i64 (i2098 : Int)), (22, .slice a2 (p0).length c3), (23, .int .i64 (i2098 : Int))] (by kernel_rfl) ?_
        obtain ⟨g2119, o2120, c2121, hv2118⟩ := h0.formv (fun _ => ⟨_, rfl⟩) hx2108
        refine OW.idx 32 5 rfl rfl rfl rfl hv2118 rfl (idx_some hx2108).1 (idx_some hx2108).2.1 (by kernel_rfl) (by kernel_rfl) ?_
        refine OW.pure 1 [(25, .pointer (some ⟨g2119, o2120 + Int.toNat (i2098 : Int) * 5 + 1, none⟩))] (by kernel_rfl) ?_
        refine OW.ld rfl rfl rfl rfl (by kernel_rfl) (h0.cellv hst hx2108 hv2118 1 _ rfl) ?_
        refine OW.pure 2 [(5, .int .i64 (w64 ((i2098 : Int) - x2107.D)))] (by kernel_rfl) ?_
        refine OW.nil rfl ?_
        refine QW.next ?_
        obtain ⟨o2317, ho2318, hl2094⟩ := bind_some' hl2094
        refine CW.cutQ (fun a w1 => ∃ (cs2315 : List (List Value)) (Ss2316 : List (List Nat)), Rep 44 [(0, .slice a2 (p0).length c3), (3, .slice (some ⟨g10, 0, none⟩) m8 m8), (4, .int .i64 (i2098 : Int))] a ∧ St w (fp []) w1 [rowI (.slice (some ⟨g10, 0, none⟩) m8 m8) 41 (fit 1) 1 cs2315, bunI R_t41 cs2315 Ss2316 o2317 none]) ?_ ?_
        · refine CW.block ?_
          refine CW.loop (fun n a w1 => ∃ (s2448 : (List (List Int)) × Int) (cs2449 : List (List Value)) (Ss2450 : List (List Nat)), Rep 44 [(0, .slice a2 (p0).length c3), (3, .slice (some ⟨g10, 0, none⟩) m8 m8), (4, .int .i64 (i2098 : Int)), (5, .int .i64 s2448.2)] a ∧ St w (fp []) w1 [rowI (.slice (some ⟨g10, 0, none⟩) m8 m8) 41 (fit 1) 1 cs2449, bunI R_t41 cs2449 Ss2450 s2448.1 none] ∧ loop (tappetref07_bodies_l2 i2098) n s2448 = some o2317) fu (fun a ha => ⟨(s2095, w64 ((i2098 : Int) - x2107.D)), cs2096, Ss2097, ha.agrees (by kernel_rfl), hst.keep [0, 1] rfl, ho2318⟩) ?_
          rintro n2446 a w1 ⟨s2448, cs2449, Ss2450, ha, hst, hl2447⟩
          rcases n2446 with _ | n2446
          · exact (loop_zero hl2447).elim
          refine CW.go ?_ ha
          refine CW.seq ?_
          refine CW.seq ?_
          refine CW.region ?_
          refine OW.pure 3 [(30, .bool (decide (s2448.2 ≤ (i2098 : Int))))] (by kernel_rfl) ?_
          refine OW.nil rfl ?_
          refine QW.next ?_
          rcases Bool.eq_false_or_eq_true (decide (s2448.2 ≤ (i2098 : Int))) with hc2451 | hc2451
          · have hl2447 := ite_t hl2447 hc2451
            refine CW.cond_t rfl hc2451 ?_
            refine CW.skip ?_
            refine QW.next ?_
            refine CW.seq ?_
            refine CW.block ?_
            refine CW.region ?_
            refine OW.pure 4 [(33, .slice (some ⟨g10, 0, none⟩) m8 m8), (34, .int .i64 s2448.2), (35, .slice (some ⟨g10, 0, none⟩) m8 m8), (36, .int .i64 s2448.2)] (by kernel_rfl) ?_
            obtain ⟨x2482, hx2483, hl2447⟩ := bind_some' hl2447
            obtain ⟨cs2487, S2488, hk2489, _, _⟩ := hst.bunAt 1 rfl hx2483
            obtain ⟨g2485, c2486, hv2484⟩ := hst.rowv 0 rfl hk2489
            refine OW.idx 41 1 rfl rfl rfl rfl hv2484 rfl (idx_some hk2489).1 (idx_some hk2489).2.1 (by kernel_rfl) (by kernel_rfl) ?_
            obtain ⟨S2490, hst⟩ := hst.outc 1 rfl hx2483 hk2489
            obtain ⟨v2491, rfl, hst⟩ := hst.toRow 2 rfl
            refine OW.ld rfl rfl rfl rfl (by kernel_rfl) (hst.rowc 0 rfl (fun _ => fit_len _ _) hk2489 hv2484 0 _ rfl) ?_
            obtain ⟨l2492, a2493, c2494, rfl⟩ := hst.len 2 rfl
            refine OW.pure 1 [(39, .int .i64 (i2098 : Int))] (by kernel_rfl) ?_
            refine OW.row (α := Int) (e := 3) (enc := encInt .i64) (sz := 1) hst rfl rfl rfl [(i2098 : Int)] rfl (fun _ => rfl) rfl rfl (fun _ => by kernel_rfl) ?_
            intro g2495 w2496 hst
            obtain ⟨u2497, hr2498, hl2447⟩ := bind_some' hl2447
            refine OW.app hst 2 rfl (fun _ => rfl) (fun _ => rfl) rfl rfl rfl rfl rfl rfl (by kernel_rfl) el3 (hst.rd 3 rfl (fun _ => rfl) [] rfl (hst.len 3 rfl).1) (room_le hr2498) ?_
            intro v2499 w2500 hst
            obtain ⟨l2501, a2502, c2503, rfl⟩ := hst.len 2 rfl
            obtain ⟨cs2507, S2508, hk2509, _, _⟩ := hst.bunAt 1 rfl hx2483
            obtain ⟨g2505, c2506, hv2504⟩ := hst.rowv 0 rfl hk2509
            refine OW.idx 41 1 rfl rfl rfl rfl hv2504 rfl (idx_some hk2509).1 (idx_some hk2509).2.1 (by kernel_rfl) (by kernel_rfl) ?_
            refine OW.stR hst 0 rfl hv2504 (fun _ => fit_len _ _) rfl rfl hk2509 0 rfl rfl rfl (by kernel_rfl) rfl rfl [.slice a2502 ((x2482 ++ [(i2098 : Int)])).length c2503] (fit_put _ _) ?_
            intro w2511 hst
            have hst := hst.toIt 2 rfl (fun _ => rfl) (by decide)
            have hst := hst.put 1 2 rfl rfl (.inr rfl) rfl hx2483
            have hst := hst.keep [0, 1, 3] rfl
            refine OW.nil rfl ?_
            refine QW.block_normal ?_
            refine QW.next ?_
            refine CW.region ?_
            refine OW.pure 3 [(5, .int .i64 (w64 (s2448.2 + 1)))] (by kernel_rfl) ?_
            refine OW.nil rfl ?_
            exact QW.meet (fun a ha => ⟨n2446, Nat.lt_succ_self _, ((s2448.1.set (Int.toNat s2448.2) (x2482 ++ [(i2098 : Int)])), w64 (s2448.2 + 1)), (cs2449.set (Int.toNat s2448.2) [.slice a2502 ((x2482 ++ [(i2098 : Int)])).length c2503]), ((Ss2450.set (Int.toNat s2448.2) []).set (Int.toNat s2448.2) ((Value.slice a2502 ((x2482 ++ [(i2098 : Int)])).length c2503) : Value).ownBlock.toList), ha.agrees (by kernel_rfl), hst.keep [0, 1] rfl, hl2447⟩)
          · have hl2447 := ite_f hl2447 hc2451
            refine CW.cond_f rfl hc2451 ?_
            refine CW.exit ?_
            refine QW.then_exit ?_
            refine QW.then_exit ?_
            refine QW.block_here ?_
            obtain rfl := Option.some.inj hl2447
            exact QW.meet (fun a ha => ⟨cs2449, Ss2450, ha.agrees (by kernel_rfl), hst.keep [0, 1] rfl⟩)
        · rintro a w1 ⟨cs2315, Ss2316, ha, hst⟩
          refine QW.go ?_ ha
          refine QW.block_normal ?_
          refine QW.next ?_
          refine CW.region ?_
          refine OW.pure 3 [(4, .int .i64 (w64 ((i2098 : Int) + 1)))] (by kernel_rfl) ?_
          refine OW.nil rfl ?_
          refine QW.say 4 rfl (congrArg (Value.int .i64) (w64_cnt hc2100 l1)) ?_
          exact QW.meet (fun a ha => ⟨n2093, Nat.lt_succ_self _, i2098 + 1, o2317, cs2315, Ss2316, cnt_next hi2099, ha.agrees (by kernel_rfl), hst.keep [0, 1] rfl, hl2094⟩)
    · rcases n2093 with _ | n2093
      · refine CW.cond_f rfl hc2100 ?_
        refine CW.exit ?_
        refine QW.then_exit ?_
        refine QW.then_exit ?_
        refine QW.block_here ?_
        obtain rfl := Option.some.inj hl2094
        exact QW.meet (fun a ha => ⟨cs2096, Ss2097, ha.agrees (by kernel_rfl), hst.keep [0, 1] rfl⟩)
      · exact (cnt1 hi2099 hc2100).elim
  · rintro a w1 ⟨cs1260, Ss1261, ha, hst⟩
    refine CW.go ?_ ha
    refine CW.seq ?_
    refine CW.region ?_
    refine OW.pure 2 [(2, .slice (some ⟨g10, 0, none⟩) m8 m8)] (by kernel_rfl) ?_
    refine OW.nil rfl ?_
    refine QW.next ?_
    refine CW.ret ?_
    obtain rfl := Option.some.inj hF
    refine QW.ret1 rfl rfl ?_
    exact ⟨(.slice (some ⟨g10, 0, none⟩) m8 m8), cs1260, Ss1261, rfl, hst.keep [0, 1] rfl⟩

set_option maxRecDepth 10000 in
theorem tappetref07_has_ok (w : World) (v0 : Value) (p0 : List Int) (p1 : Int) (r : Bool) (hF : tappetref07_has p0 p1 = some r)
    (hst : St w (fp []) w []) (h0 : Rd w (fp []) v0 (encInt .i64) 1 p0) :
    Calls Tryd.prog 42 [v0, .int .i64 p1].toArray w (fun e w' => e = .returned (.bool r) ∧ St w (fp []) w' []) := by
  refine CW.start (N := 18) Tryd.func42 rfl rfl rfl ?_
  obtain ⟨l1, a2, c3, rfl⟩ := h0.len
  refine CW.seq ?_
  refine CW.region ?_
  refine OW.pure 1 [] (by kernel_rfl) ?_
  refine OW.nil rfl ?_
  refine QW.next ?_
  refine CW.seq ?_
  refine CW.seq ?_
  refine CW.region ?_
  refine OW.pure 1 [(5, .int .i64 0)] (by kernel_rfl) ?_
  refine OW.nil rfl ?_
  refine QW.next ?_
  obtain ⟨o52, ho53, hF⟩ := bind_some' hF
  refine CW.cutK (fun a w1 => ∃ (t54 : Unit), o52 = .inl t54 ∧ Rep 18 [] a ∧ St w (fp []) w1 []) ?_ ?_
  · refine CW.block ?_
    refine CW.loop (fun n a w1 => ∃ (i87 : Nat) (s86 : Unit), i87 + n = (p0).length ∧ Rep 18 [(0, .slice a2 (p0).length c3), (1, .int .i64 p1), (5, .int .i64 (i87 : Int))] a ∧ St w (fp []) w1 [] ∧ forN (tappetref07_has_l1 p0 p1) (fun (s86 : Unit) => (.inl ())) n i87 s86 = some o52) ((p0).length) (fun a ha => ⟨0, (), Nat.zero_add _, ha.agrees (by kernel_rfl), hst.keep [] rfl, ho53⟩) ?_
    rintro n84 a w1 ⟨i87, s86, hi88, ha, hst, hl85⟩
    refine CW.go ?_ ha
    refine CW.seq ?_
    refine CW.seq ?_
    refine CW.region ?_
    refine OW.pure 4 [(9, .bool (decide ((i87 : Int) < (((p0).length) : Int))))] (by kernel_rfl) ?_
    refine OW.nil rfl ?_
    refine QW.next ?_
    rcases Bool.eq_false_or_eq_true (decide ((i87 : Int) < (((p0).length) : Int))) with hc89 | hc89
    · rcases n84 with _ | n84
      · exact (cnt0 hi88 hc89).elim
      refine CW.cond_t rfl hc89 ?_
      refine CW.skip ?_
      refine QW.next ?_
      refine CW.seq ?_
      refine CW.block ?_
      refine CW.seq ?_
      refine CW.region ?_
      refine OW.pure 2 [(12, .slice a2 (p0).length c3), (13, .int .i64 (i87 : Int))] (by kernel_rfl) ?_
      obtain ⟨x96, hx97, hl85⟩ := bind_some' hl85
      obtain ⟨g99, o100, c101, hv98⟩ := h0.formv (fun _ => ⟨_, rfl⟩) hx97
      refine OW.idx 3 1 rfl rfl rfl rfl hv98 rfl (idx_some hx97).1 (idx_some hx97).2.1 (by kernel_rfl) (by kernel_rfl) ?_
      refine OW.ld rfl rfl rfl rfl (by kernel_rfl) (h0.cellv hst hx97 hv98 0 _ rfl) ?_
      refine OW.pure 2 [(17, .bool (x96 == p1))] (by kernel_rfl) ?_
      refine OW.nil rfl ?_
      refine QW.next ?_
      rcases Bool.eq_false_or_eq_true ((x96 == p1)) with hc102 | hc102
      · have hl85 := ite_t hl85 hc102
        refine CW.cond_t rfl hc102 ?_
        refine CW.seq ?_
        refine CW.region ?_
        refine OW.pure 1 [(4, .bool true)] (by kernel_rfl) ?_
        refine OW.nil rfl ?_
        refine QW.next ?_
        refine CW.ret ?_
        refine QW.block_ret ?_
        refine QW.then_ret ?_
        refine QW.then_ret ?_
        refine QW.block_ret ?_
        refine QW.then_ret ?_
        obtain rfl := Option.some.inj hl85
        obtain rfl := Option.some.inj hF
        refine QW.ret1 rfl rfl ?_
        exact ⟨rfl, hst.keep [] rfl⟩
      · have hl85 := ite_f hl85 hc102
        refine CW.cond_f rfl hc102 ?_
        refine CW.skip ?_
        refine QW.block_normal ?_
        refine QW.next ?_
        refine CW.region ?_
        refine OW.pure 3 [(5, .int .i64 (w64 ((i87 : Int) + 1)))] (by kernel_rfl) ?_
        refine OW.nil rfl ?_
        refine QW.say 5 rfl (congrArg (Value.int .i64) (w64_cnt hc89 l1)) ?_
        exact QW.meet (fun a ha => ⟨n84, Nat.lt_succ_self _, i87 + 1, (), cnt_next hi88, ha.agrees (by kernel_rfl), hst.keep [] rfl, hl85⟩)
    · rcases n84 with _ | n84
      · refine CW.cond_f rfl hc89 ?_
        refine CW.exit ?_
        refine QW.then_exit ?_
        refine QW.then_exit ?_
        refine QW.block_here ?_
        obtain rfl := Option.some.inj hl85
        exact QW.meet (fun a ha => ⟨(), rfl, ha.agrees (by kernel_rfl), hst.keep [] rfl⟩)
      · exact (cnt1 hi88 hc89).elim
  · rintro a w1 ⟨t54, rfl, ha, hst⟩
    refine CW.go ?_ ha
    refine CW.seq ?_
    refine CW.region ?_
    refine OW.pure 1 [(4, .bool false)] (by kernel_rfl) ?_
    refine OW.nil rfl ?_
    refine QW.next ?_
    refine CW.ret ?_
    obtain rfl := Option.some.inj hF
    refine QW.ret1 rfl rfl ?_
    exact ⟨rfl, hst.keep [] rfl⟩

set_option maxRecDepth 10000 in
theorem tappetref07_crossing_ok (w : World) (fu : Nat) (v0 : Value) (p0 : List api_Inst) (v1 : Value) (p1 : List (List Int)) (r : Int × Bool) (hF : tappetref07_crossing fu p0 p1 = some r)
    (hst : St w (fp []) w []) (h0 : Rd w (fp []) v0 enc_api_Inst 5 p0) (h1 : RdN w (fp []) v1 R_t41.rd 1 p1) :
    Calls Tryd.prog 28 [v0, v1].toArray w (fun e w' => e = .returned (.tuple #[.int .i64 r.1, .bool r.2]) ∧ St w (fp []) w' []) := by
  refine CW.start (N := 62) Tryd.func28 rfl rfl rfl ?_
  obtain ⟨l1, a2, c3, rfl⟩ := h0.len
  obtain ⟨l4, a5, c6, rfl⟩ := h1.len
  refine CW.seq ?_
  refine CW.region ?_
  refine OW.pure 2 [] (by kernel_rfl) ?_
  refine OW.nil rfl ?_
  refine QW.next ?_
  refine CW.seq ?_
  refine CW.region ?_
  refine OW.pure 3 [(6, .int .i64 (((p0).length) : Int))] (by kernel_rfl) ?_
  refine OW.nil rfl ?_
  refine QW.next ?_
  refine CW.seq ?_
  refine CW.seq ?_
  refine CW.region ?_
  refine OW.pure 1 [(7, .int .i64 0)] (by kernel_rfl) ?_
  refine OW.nil rfl ?_
  refine QW.next ?_
  obtain ⟨o5568, ho5569, hF⟩ := bind_some' hF
  refine CW.cutK (fun a w1 => ∃ (t5570 : Unit), o5568 = .inl t5570 ∧ Rep 62 [] a ∧ St w (fp []) w1 []) ?_ ?_
  · refine CW.block ?_
    refine CW.loop (fun n a w1 => ∃ (i8361 : Nat) (s8360 : Unit), i8361 + n = (p0).length ∧ Rep 62 [(0, .slice a2 (p0).length c3), (1, .slice a5 (p1).length c6), (6, .int .i64 (((p0).length) : Int)), (7, .int .i64 (i8361 : Int))] a ∧ St w (fp []) w1 [] ∧ forN (tappetref07_crossing_l1 p0 p1) (fun (s8360 : Unit) => (.inl ())) n i8361 s8360 = some o5568) ((p0).length) (fun a ha => ⟨0, (), Nat.zero_add _, ha.agrees (by kernel_rfl), hst.keep [] rfl, ho5569⟩) ?_
    rintro n8358 a w1 ⟨i8361, s8360, hi8362, ha, hst, hl8359⟩
    refine CW.go ?_ ha
    refine CW.seq ?_
    refine CW.seq ?_
    refine CW.region ?_
    refine OW.pure 3 [(16, .bool (decide ((i8361 : Int) < (((p0).length) : Int))))] (by kernel_rfl) ?_
    refine OW.nil rfl ?_
    refine QW.next ?_
    rcases Bool.eq_false_or_eq_true (decide ((i8361 : Int) < (((p0).length) : Int))) with hc8363 | hc8363
    · rcases n8358 with _ | n8358
      · exact (cnt0 hi8362 hc8363).elim
      refine CW.cond_t rfl hc8363 ?_
      refine CW.skip ?_
      refine QW.next ?_
      refine CW.seq ?_
      refine CW.block ?_
      refine CW.seq ?_
      refine CW.seq ?_
      refine CW.region ?_
      refine OW.pure 2 [(19, .slice a2 (p0).length c3), (20, .int .i64 (i8361 : Int))] (by kernel_rfl) ?_
      obtain ⟨x8370, hx8371, hl8359⟩ := bind_some' hl8359
      obtain ⟨g8373, o8374, c8375, hv8372⟩ := h0.formv (fun _ => ⟨_, rfl⟩) hx8371
      refine OW.idx 32 5 rfl rfl rfl rfl hv8372 rfl (idx_some hx8371).1 (idx_some hx8371).2.1 (by kernel_rfl) (by kernel_rfl) ?_
      refine OW.pure 1 [(22, .pointer (some ⟨g8373, o8374 + Int.toNat (i8361 : Int) * 5, none⟩))] (by kernel_rfl) ?_
      refine OW.ld rfl rfl rfl rfl (by kernel_rfl) (h0.cellv hst hx8371 hv8372 0 _ rfl) ?_
      refine OW.pure 1 [(24, .bool (x8370.Op != 20))] (by kernel_rfl) ?_
      refine OW.nil rfl ?_
      refine QW.next ?_
      rcases Bool.eq_false_or_eq_true ((x8370.Op != 20)) with hc8376 | hc8376
      · have hl8359 := ite_t hl8359 hc8376
        refine CW.cond_t rfl hc8376 ?_
        refine CW.exit ?_
        refine QW.then_exit ?_
        refine QW.block_here ?_
        refine QW.next ?_
        refine CW.region ?_
        refine OW.pure 3 [(7, .int .i64 (w64 ((i8361 : Int) + 1)))] (by kernel_rfl) ?_
        refine OW.nil rfl ?_
        refine QW.say 7 rfl (congrArg (Value.int .i64) (w64_cnt hc8363 l1)) ?_
        exact QW.meet (fun a ha => ⟨n8358, Nat.lt_succ_self _, i8361 + 1, (), cnt_next hi8362, ha.agrees (by kernel_rfl), hst.keep [] rfl, hl8359⟩)
      · have hl8359 := ite_f hl8359 hc8376
        refine CW.cond_f rfl hc8376 ?_
        refine CW.skip ?_
        refine QW.next ?_
        refine CW.seq ?_
        refine CW.region ?_
        refine OW.pure 1 [(8, .int .i64 0)] (by kernel_rfl) ?_
        refine OW.nil rfl ?_
        refine QW.next ?_
        obtain ⟨o9753, ho9754, hl8359⟩ := bind_some' hl8359
        refine CW.cutQ (fun a w1 => ∃ (t9755 : Unit), o9753 = .inl t9755 ∧ Rep 62 [(0, .slice a2 (p0).length c3), (1, .slice a5 (p1).length c6), (6, .int .i64 (((p0).length) : Int)), (7, .int .i64 (i8361 : Int))] a ∧ St w (fp []) w1 []) ?_ ?_
        · refine CW.block ?_
          obtain ⟨u10674, hr10675, ho9754⟩ := bind_some' ho9754
          refine CW.loop (fun n a w1 => ∃ (i10672 : Nat) (s10671 : Unit), i10672 + n = i8361 ∧ Rep 62 [(0, .slice a2 (p0).length c3), (1, .slice a5 (p1).length c6), (6, .int .i64 (((p0).length) : Int)), (7, .int .i64 (i8361 : Int)), (8, .int .i64 (i10672 : Int))] a ∧ St w (fp []) w1 [] ∧ forN (tappetref07_crossing_l2 p0 p1 i8361) (fun (s10671 : Unit) => (.inl ())) n i10672 s10671 = some o9753) i8361 (fun a ha => ⟨0, (), Nat.zero_add _, ha.agrees (by kernel_rfl), hst.keep [] rfl, ho9754⟩) ?_
          rintro n10669 a w1 ⟨i10672, s10671, hi10673, ha, hst, hl10670⟩
          refine CW.go ?_ ha
          refine CW.seq ?_
          refine CW.seq ?_
          refine CW.region ?_
          refine OW.pure 3 [(27, .bool (decide ((i10672 : Int) < (i8361 : Int))))] (by kernel_rfl) ?_
          refine OW.nil rfl ?_
          refine QW.next ?_
          rcases Bool.eq_false_or_eq_true (decide ((i10672 : Int) < (i8361 : Int))) with hc10676 | hc10676
          · rcases n10669 with _ | n10669
            · exact (cnt0 hi10673 hc10676).elim
            refine CW.cond_t rfl hc10676 ?_
            refine CW.skip ?_
            refine QW.next ?_
            refine CW.seq ?_
            refine CW.block ?_
            refine CW.seq ?_
            refine CW.seq ?_
            refine CW.region ?_
            refine OW.pure 2 [(30, .slice a2 (p0).length c3), (31, .int .i64 (i10672 : Int))] (by kernel_rfl) ?_
            obtain ⟨x10683, hx10684, hl10670⟩ := bind_some' hl10670
            obtain ⟨g10686, o10687, c10688, hv10685⟩ := h0.formv (fun _ => ⟨_, rfl⟩) hx10684
            refine OW.idx 32 5 rfl rfl rfl rfl hv10685 rfl (idx_some hx10684).1 (idx_some hx10684).2.1 (by kernel_rfl) (by kernel_rfl) ?_
            refine OW.pure 1 [(33, .pointer (some ⟨g10686, o10687 + Int.toNat (i10672 : Int) * 5, none⟩))] (by kernel_rfl) ?_
            refine OW.ld rfl rfl rfl rfl (by kernel_rfl) (h0.cellv hst hx10684 hv10685 0 _ rfl) ?_
            refine OW.pure 1 [(35, .bool (x10683.Op != 20))] (by kernel_rfl) ?_
            refine OW.nil rfl ?_
            refine QW.next ?_
            rcases Bool.eq_false_or_eq_true ((x10683.Op != 20)) with hc10689 | hc10689
            · have hl10670 := ite_t hl10670 hc10689
              refine CW.cond_t rfl hc10689 ?_
              refine CW.exit ?_
              refine QW.then_exit ?_
              refine QW.block_here ?_
              refine QW.next ?_
              refine CW.region ?_
              refine OW.pure 3 [(8, .int .i64 (w64 ((i10672 : Int) + 1)))] (by kernel_rfl) ?_
              refine OW.nil rfl ?_
              refine QW.say 8 rfl (congrArg (Value.int .i64) (w64_cnt hc10676 (room_sz hr10675))) ?_
              exact QW.meet (fun a ha => ⟨n10669, Nat.lt_succ_self _, i10672 + 1, (), cnt_next hi10673, ha.agrees (by kernel_rfl), hst.keep [] rfl, hl10670⟩)
            · have hl10670 := ite_f hl10670 hc10689
              refine CW.cond_f rfl hc10689 ?_
              refine CW.skip ?_
              refine QW.next ?_
              refine CW.seq ?_
              refine CW.region ?_
              refine OW.pure 2 [(9, .int .i64 0), (10, .bool true)] (by kernel_rfl) ?_
              refine OW.nil rfl ?_
              refine QW.next ?_
              refine CW.seq ?_
              refine CW.seq ?_
              refine CW.region ?_
              refine OW.pure 1 [(11, .int .i64 0)] (by kernel_rfl) ?_
              refine OW.nil rfl ?_
              refine QW.next ?_
              obtain ⟨o10909, ho10910, hl10670⟩ := bind_some' hl10670
              refine CW.cutK (fun a w1 => Rep 62 [(0, .slice a2 (p0).length c3), (1, .slice a5 (p1).length c6), (6, .int .i64 (((p0).length) : Int)), (7, .int .i64 (i8361 : Int)), (8, .int .i64 (i10672 : Int)), (9, .int .i64 o10909.1), (10, .bool o10909.2)] a ∧ St w (fp []) w1 []) ?_ ?_
              · refine CW.block ?_
                refine CW.loop (fun n a w1 => ∃ (i11057 : Nat) (s11056 : Int × Bool), i11057 + n = (p0).length ∧ Rep 62 [(0, .slice a2 (p0).length c3), (1, .slice a5 (p1).length c6), (6, .int .i64 (((p0).length) : Int)), (7, .int .i64 (i8361 : Int)), (8, .int .i64 (i10672 : Int)), (9, .int .i64 s11056.1), (10, .bool s11056.2), (11, .int .i64 (i11057 : Int))] a ∧ St w (fp []) w1 [] ∧ forN (tappetref07_crossing_l3 p1 i8361 i10672) (fun (s11056 : Int × Bool) => (s11056.1, s11056.2)) n i11057 s11056 = some o10909) ((p0).length) (fun a ha => ⟨0, (0, true), Nat.zero_add _, ha.agrees (by kernel_rfl), hst.keep [] rfl, ho10910⟩) ?_
                rintro n11054 a w1 ⟨i11057, s11056, hi11058, ha, hst, hl11055⟩
                refine CW.go ?_ ha
                refine CW.seq ?_
                refine CW.seq ?_
                refine CW.region ?_
                refine OW.pure 3 [(38, .bool (decide ((i11057 : Int) < (((p0).length) : Int))))] (by kernel_rfl) ?_
                refine OW.nil rfl ?_
                refine QW.next ?_
                rcases Bool.eq_false_or_eq_true (decide ((i11057 : Int) < (((p0).length) : Int))) with hc11059 | hc11059
                · rcases n11054 with _ | n11054
                  · exact (cnt0 hi11058 hc11059).elim
                  refine CW.cond_t rfl hc11059 ?_
                  refine CW.skip ?_
                  refine QW.next ?_
                  refine CW.seq ?_
                  refine CW.block ?_
                  refine CW.seq ?_
                  refine CW.region ?_
                  refine OW.pure 2 [(41, .slice a5 (p1).length c6), (42, .int .i64 (i11057 : Int))] (by kernel_rfl) ?_
                  obtain ⟨x11078, hx11079, hl11055⟩ := bind_some' hl11055
                  obtain ⟨g11081, o11082, c11083, cs11084, hv11080, hd11085, hl11086⟩ := h1.formv hx11079
                  obtain ⟨v11087, rfl, h11088⟩ := hd11085
                  have h11088 : Rd _ _ _ _ _ x11078 := h11088
                  obtain ⟨l11089, a11090, c11091, rfl⟩ := h11088.len
                  refine OW.idx 41 1 rfl rfl rfl rfl hv11080 rfl (idx_some hx11079).1 (idx_some hx11079).2.1 (by kernel_rfl) (by kernel_rfl) ?_
                  refine OW.ld rfl rfl rfl rfl (by kernel_rfl) (hl11086 0 _ rfl _ _ hst) ?_
                  refine OW.pure 1 [(45, .int .i64 (i10672 : Int))] (by kernel_rfl) ?_
                  obtain ⟨r11092, hr11093, hl11055⟩ := bind_some' hl11055
                  refine OW.fn rfl rfl rfl rfl (by kernel_rfl) (tappetref07_has_ok _ (.slice a11090 (x11078).length c11091) x11078 (i10672 : Int) r11092 hr11093 (hst.part [] rfl) (h11088.give hst [])) ?_
                  rintro e w11094 ⟨rfl, hst11095⟩
                  refine ⟨_, rfl, ?_⟩
                  have hst := hst.join (idx := []) (rest := []) rfl hst11095
                  refine OW.nil rfl ?_
                  refine QW.next ?_
                  rcases Bool.eq_false_or_eq_true (r11092) with hc11096 | hc11096
                  · have hl11055 := ite_t hl11055 hc11096
                    refine CW.cond_t rfl hc11096 ?_
                    refine CW.seq ?_
                    refine CW.region ?_
                    refine OW.pure 2 [(47, .slice a5 (p1).length c6), (48, .int .i64 (i11057 : Int))] (by kernel_rfl) ?_
                    obtain ⟨g11114, o11115, c11116, cs11117, hv11113, hd11118, hl11119⟩ := h1.formv hx11079
                    obtain ⟨v11120, rfl, h11121⟩ := hd11118
                    have h11121 : Rd _ _ _ _ _ x11078 := h11121
                    obtain ⟨l11122, a11123, c11124, rfl⟩ := h11121.len
                    refine OW.idx 41 1 rfl rfl rfl rfl hv11113 rfl (idx_some hx11079).1 (idx_some hx11079).2.1 (by kernel_rfl) (by kernel_rfl) ?_
                    refine OW.ld rfl rfl rfl rfl (by kernel_rfl) (hl11119 0 _ rfl _ _ hst) ?_
                    refine OW.pure 1 [(51, .int .i64 (i8361 : Int))] (by kernel_rfl) ?_
                    obtain ⟨r11125, hr11126, hl11055⟩ := bind_some' hl11055
                    refine OW.fn rfl rfl rfl rfl (by kernel_rfl) (tappetref07_has_ok _ (.slice a11123 (x11078).length c11124) x11078 (i8361 : Int) r11125 hr11126 (hst.part [] rfl) (h11121.give hst [])) ?_
                    rintro e w11127 ⟨rfl, hst11128⟩
                    refine ⟨_, rfl, ?_⟩
                    have hst := hst.join (idx := []) (rest := []) rfl hst11128
                    refine OW.nil rfl ?_
                    refine QW.next ?_
                    rcases Bool.eq_false_or_eq_true (r11125) with hc11129 | hc11129
                    · have hl11055 := ite_t hl11055 hc11129
                      refine CW.cond_t rfl hc11129 ?_
                      refine CW.region ?_
                      refine OW.pure 3 [(9, .int .i64 (w64 (s11056.1 + 1)))] (by kernel_rfl) ?_
                      refine OW.nil rfl ?_
                      refine QW.block_normal ?_
                      refine QW.next ?_
                      refine CW.region ?_
                      refine OW.pure 3 [(11, .int .i64 (w64 ((i11057 : Int) + 1)))] (by kernel_rfl) ?_
                      refine OW.nil rfl ?_
                      refine QW.say 11 rfl (congrArg (Value.int .i64) (w64_cnt hc11059 l1)) ?_
                      exact QW.meet (fun a ha => ⟨n11054, Nat.lt_succ_self _, i11057 + 1, (w64 (s11056.1 + 1), s11056.2), cnt_next hi11058, ha.agrees (by kernel_rfl), hst.keep [] rfl, hl11055⟩)
                    · have hl11055 := ite_f hl11055 hc11129
                      refine CW.cond_f rfl hc11129 ?_
                      refine CW.region ?_
                      refine OW.pure 1 [(10, .bool false)] (by kernel_rfl) ?_
                      refine OW.nil rfl ?_
                      refine QW.block_normal ?_
                      refine QW.next ?_
                      refine CW.region ?_
                      refine OW.pure 3 [(11, .int .i64 (w64 ((i11057 : Int) + 1)))] (by kernel_rfl) ?_
                      refine OW.nil rfl ?_
                      refine QW.say 11 rfl (congrArg (Value.int .i64) (w64_cnt hc11059 l1)) ?_
                      exact QW.meet (fun a ha => ⟨n11054, Nat.lt_succ_self _, i11057 + 1, (s11056.1, false), cnt_next hi11058, ha.agrees (by kernel_rfl), hst.keep [] rfl, hl11055⟩)
                  · have hl11055 := ite_f hl11055 hc11096
                    refine CW.cond_f rfl hc11096 ?_
                    refine CW.skip ?_
                    refine QW.block_normal ?_
                    refine QW.next ?_
                    refine CW.region ?_
                    refine OW.pure 3 [(11, .int .i64 (w64 ((i11057 : Int) + 1)))] (by kernel_rfl) ?_
                    refine OW.nil rfl ?_
                    refine QW.say 11 rfl (congrArg (Value.int .i64) (w64_cnt hc11059 l1)) ?_
                    exact QW.meet (fun a ha => ⟨n11054, Nat.lt_succ_self _, i11057 + 1, (s11056.1, s11056.2), cnt_next hi11058, ha.agrees (by kernel_rfl), hst.keep [] rfl, hl11055⟩)
                · rcases n11054 with _ | n11054
                  · refine CW.cond_f rfl hc11059 ?_
                    refine CW.exit ?_
                    refine QW.then_exit ?_
                    refine QW.then_exit ?_
                    refine QW.block_here ?_
                    obtain rfl := Option.some.inj hl11055
                    exact QW.meet (fun a ha => ⟨ha.agrees (by kernel_rfl), hst.keep [] rfl⟩)
                  · exact (cnt1 hi11058 hc11059).elim
              · rintro a w1 ⟨ha, hst⟩
                refine CW.go ?_ ha
                refine CW.seq ?_
                refine CW.cutK (fun a w1 => Rep 62 [(0, .slice a2 (p0).length c3), (1, .slice a5 (p1).length c6), (6, .int .i64 (((p0).length) : Int)), (7, .int .i64 (i8361 : Int)), (8, .int .i64 (i10672 : Int)), (60, .bool (decide (o10909.1 > 0) && (!o10909.2)))] a ∧ St w (fp []) w1 []) ?_ ?_
                · refine CW.region ?_
                  refine OW.pure 3 [(57, .bool (decide (o10909.1 > 0)))] (by kernel_rfl) ?_
                  refine OW.split 57 rfl (fun hc11130 => ?_) (fun hc11130 => ?_)
                  · refine OW.pure 3 [(60, .bool (!o10909.2))] (by kernel_rfl) ?_
                    refine OW.nil rfl ?_
                    refine QW.say 60 (v := .bool (decide (o10909.1 > 0) && (!o10909.2))) rfl (by first | (rw [hc11130]; done) | (rw [hc11130]; rfl) | simp [hc11130]) ?_
                    exact QW.meet (fun a ha => ⟨ha.agrees (by kernel_rfl), hst.keep [] rfl⟩)
                  · refine OW.pure 3 [(60, .bool false)] (by kernel_rfl) ?_
                    refine OW.nil rfl ?_
                    refine QW.say 60 (v := .bool (decide (o10909.1 > 0) && (!o10909.2))) rfl (by first | (rw [hc11130]; done) | (rw [hc11130]; rfl) | simp [hc11130]) ?_
                    exact QW.meet (fun a ha => ⟨ha.agrees (by kernel_rfl), hst.keep [] rfl⟩)
                · rintro a w1 ⟨ha, hst⟩
                  refine CW.go ?_ ha
                  rcases Bool.eq_false_or_eq_true ((decide (o10909.1 > 0) && (!o10909.2))) with hc11131 | hc11131
                  · have hl10670 := ite_t hl10670 hc11131
                    refine CW.cond_t rfl hc11131 ?_
                    refine CW.seq ?_
                    refine CW.region ?_
                    refine OW.pure 3 [(4, .int .i64 (i8361 : Int)), (5, .bool true)] (by kernel_rfl) ?_
                    refine OW.nil rfl ?_
                    refine QW.next ?_
                    refine CW.ret ?_
                    refine QW.block_ret ?_
                    refine QW.then_ret ?_
                    refine QW.then_ret ?_
                    refine QW.block_ret ?_
                    refine QW.then_ret ?_
                    refine QW.block_ret ?_
                    refine QW.then_ret ?_
                    refine QW.then_ret ?_
                    refine QW.block_ret ?_
                    refine QW.then_ret ?_
                    obtain rfl := Option.some.inj hl10670
                    obtain rfl := Option.some.inj hl8359
                    obtain rfl := Option.some.inj hF
                    refine QW.ret2 rfl rfl rfl ?_
                    exact ⟨rfl, hst.keep [] rfl⟩
                  · have hl10670 := ite_f hl10670 hc11131
                    refine CW.cond_f rfl hc11131 ?_
                    refine CW.skip ?_
                    refine QW.block_normal ?_
                    refine QW.next ?_
                    refine CW.region ?_
                    refine OW.pure 3 [(8, .int .i64 (w64 ((i10672 : Int) + 1)))] (by kernel_rfl) ?_
                    refine OW.nil rfl ?_
                    refine QW.say 8 rfl (congrArg (Value.int .i64) (w64_cnt hc10676 (room_sz hr10675))) ?_
                    exact QW.meet (fun a ha => ⟨n10669, Nat.lt_succ_self _, i10672 + 1, (), cnt_next hi10673, ha.agrees (by kernel_rfl), hst.keep [] rfl, hl10670⟩)
          · rcases n10669 with _ | n10669
            · refine CW.cond_f rfl hc10676 ?_
              refine CW.exit ?_
              refine QW.then_exit ?_
              refine QW.then_exit ?_
              refine QW.block_here ?_
              obtain rfl := Option.some.inj hl10670
              exact QW.meet (fun a ha => ⟨(), rfl, ha.agrees (by kernel_rfl), hst.keep [] rfl⟩)
            · exact (cnt1 hi10673 hc10676).elim
        · rintro a w1 ⟨t9755, rfl, ha, hst⟩
          refine QW.go ?_ ha
          refine QW.block_normal ?_
          refine QW.next ?_
          refine CW.region ?_
          refine OW.pure 3 [(7, .int .i64 (w64 ((i8361 : Int) + 1)))] (by kernel_rfl) ?_
          refine OW.nil rfl ?_
          refine QW.say 7 rfl (congrArg (Value.int .i64) (w64_cnt hc8363 l1)) ?_
          exact QW.meet (fun a ha => ⟨n8358, Nat.lt_succ_self _, i8361 + 1, (), cnt_next hi8362, ha.agrees (by kernel_rfl), hst.keep [] rfl, hl8359⟩)
    · rcases n8358 with _ | n8358
      · refine CW.cond_f rfl hc8363 ?_
        refine CW.exit ?_
        refine QW.then_exit ?_
        refine QW.then_exit ?_
        refine QW.block_here ?_
        obtain rfl := Option.some.inj hl8359
        exact QW.meet (fun a ha => ⟨(), rfl, ha.agrees (by kernel_rfl), hst.keep [] rfl⟩)
      · exact (cnt1 hi8362 hc8363).elim
  · rintro a w1 ⟨t5570, rfl, ha, hst⟩
    refine CW.go ?_ ha
    refine CW.seq ?_
    refine CW.region ?_
    refine OW.pure 2 [(4, .int .i64 0), (5, .bool false)] (by kernel_rfl) ?_
    refine OW.nil rfl ?_
    refine QW.next ?_
    refine CW.ret ?_
    obtain rfl := Option.some.inj hF
    refine QW.ret2 rfl rfl rfl ?_
    exact ⟨rfl, hst.keep [] rfl⟩

set_option maxRecDepth 10000 in
theorem tappetref07_entering_ok (w : World) (fu : Nat) (v0 : Value) (p0 : List api_Inst) (v1 : Value) (p1 : List (List Int)) (r : Int × Bool) (hF : tappetref07_entering fu p0 p1 = some r)
    (hst : St w (fp []) w []) (h0 : Rd w (fp []) v0 enc_api_Inst 5 p0) (h1 : RdN w (fp []) v1 R_t41.rd 1 p1) :
    Calls Tryd.prog 29 [v0, v1].toArray w (fun e w' => e = .returned (.tuple #[.int .i64 r.1, .bool r.2]) ∧ St w (fp []) w' []) := by
  refine CW.start (N := 76) Tryd.func29 rfl rfl rfl ?_
  obtain ⟨l1, a2, c3, rfl⟩ := h0.len
  obtain ⟨l4, a5, c6, rfl⟩ := h1.len
  refine CW.seq ?_
  refine CW.region ?_
  refine OW.pure 2 [] (by kernel_rfl) ?_
  refine OW.nil rfl ?_
  refine QW.next ?_
  refine CW.seq ?_
  refine CW.region ?_
  refine OW.pure 3 [(6, .int .i64 (((p0).length) : Int))] (by kernel_rfl) ?_
  refine OW.nil rfl ?_
  refine QW.next ?_
  refine CW.seq ?_
  refine CW.seq ?_
  refine CW.region ?_
  refine OW.pure 1 [(7, .int .i64 0)] (by kernel_rfl) ?_
  refine OW.nil rfl ?_
  refine QW.next ?_
  obtain ⟨o2563, ho2564, hF⟩ := bind_some' hF
  refine CW.cutK (fun a w1 => ∃ (t2565 : Unit), o2563 = .inl t2565 ∧ Rep 76 [] a ∧ St w (fp []) w1 []) ?_ ?_
  · refine CW.block ?_
    refine CW.loop (fun n a w1 => ∃ (i4270 : Nat) (s4269 : Unit), i4270 + n = (p0).length ∧ Rep 76 [(0, .slice a2 (p0).length c3), (1, .slice a5 (p1).length c6), (6, .int .i64 (((p0).length) : Int)), (7, .int .i64 (i4270 : Int))] a ∧ St w (fp []) w1 [] ∧ forN (tappetref07_entering_l1 fu p0 p1) (fun (s4269 : Unit) => (.inl ())) n i4270 s4269 = some o2563) ((p0).length) (fun a ha => ⟨0, (), Nat.zero_add _, ha.agrees (by kernel_rfl), hst.keep [] rfl, ho2564⟩) ?_
    rintro n4267 a w1 ⟨i4270, s4269, hi4271, ha, hst, hl4268⟩
    refine CW.go ?_ ha
    refine CW.seq ?_
    refine CW.seq ?_
    refine CW.region ?_
    refine OW.pure 3 [(17, .bool (decide ((i4270 : Int) < (((p0).length) : Int))))] (by kernel_rfl) ?_
    refine OW.nil rfl ?_
    refine QW.next ?_
    rcases Bool.eq_false_or_eq_true (decide ((i4270 : Int) < (((p0).length) : Int))) with hc4272 | hc4272
    · rcases n4267 with _ | n4267
      · exact (cnt0 hi4271 hc4272).elim
      refine CW.cond_t rfl hc4272 ?_
      refine CW.skip ?_
      refine QW.next ?_
      refine CW.seq ?_
      refine CW.block ?_
      refine CW.seq ?_
      refine CW.region ?_
      refine OW.pure 2 [(21, .slice a2 (p0).length c3), (22, .int .i64 (i4270 : Int))] (by kernel_rfl) ?_
      obtain ⟨x4283, hx4284, hl4268⟩ := bind_some' hl4268
      obtain ⟨g4286, o4287, c4288, hv4285⟩ := h0.formv (fun _ => ⟨_, rfl⟩) hx4284
      refine OW.idx 32 5 rfl rfl rfl rfl hv4285 rfl (idx_some hx4284).1 (idx_some hx4284).2.1 (by kernel_rfl) (by kernel_rfl) ?_
      refine OW.ldN (cs := enc_api_Inst x4283) rfl rfl rfl rfl (by kernel_rfl) (by kernel_rfl) (h0.cellv hst hx4284 hv4285) ?_
      obtain ⟨r4289, hr4290, hl4268⟩ := bind_some' hl4268
      refine OW.fn rfl rfl rfl rfl (by kernel_rfl) (tappetref02_Goes_ok _ x4283 r4289 hr4290 (hst.part [] rfl)) ?_
      rintro e w4291 ⟨rfl, hst4292⟩
      refine ⟨_, rfl, ?_⟩
      have hst := hst.join (idx := []) (rest := []) rfl hst4292
      refine OW.pure 7 [(8, .int .i64 r4289.1), (9, .bool r4289.2.1)] (by kernel_rfl) ?_
      refine OW.nil rfl ?_
      refine QW.next ?_
      refine CW.seq ?_
      refine CW.seq ?_
      refine CW.cutK (fun a w1 => Rep 76 [(0, .slice a2 (p0).length c3), (1, .slice a5 (p1).length c6), (6, .int .i64 (((p0).length) : Int)), (7, .int .i64 (i4270 : Int)), (8, .int .i64 r4289.1), (34, .bool ((!r4289.2.1) || decide (r4289.1 < 0)))] a ∧ St w (fp []) w1 []) ?_ ?_
      · refine CW.region ?_
        refine OW.pure 3 [(31, .bool (!r4289.2.1))] (by kernel_rfl) ?_
        refine OW.split 31 rfl (fun hc4293 => ?_) (fun hc4293 => ?_)
        · refine OW.pure 3 [(34, .bool true)] (by kernel_rfl) ?_
          refine OW.nil rfl ?_
          refine QW.say 34 (v := .bool ((!r4289.2.1) || decide (r4289.1 < 0))) rfl (by first | (rw [hc4293]; done) | (rw [hc4293]; rfl) | simp [hc4293]) ?_
          exact QW.meet (fun a ha => ⟨ha.agrees (by kernel_rfl), hst.keep [] rfl⟩)
        · refine OW.pure 3 [(34, .bool (decide (r4289.1 < 0)))] (by kernel_rfl) ?_
          refine OW.nil rfl ?_
          refine QW.say 34 (v := .bool ((!r4289.2.1) || decide (r4289.1 < 0))) rfl (by first | (rw [hc4293]; done) | (rw [hc4293]; rfl) | simp [hc4293]) ?_
          exact QW.meet (fun a ha => ⟨ha.agrees (by kernel_rfl), hst.keep [] rfl⟩)
      · rintro a w1 ⟨ha, hst⟩
        refine CW.go ?_ ha
        rcases Bool.eq_false_or_eq_true (((!r4289.2.1) || decide (r4289.1 < 0))) with hc4294 | hc4294
        · have hl4268 := ite_t hl4268 hc4294
          refine CW.cond_t rfl hc4294 ?_
          refine CW.exit ?_
          refine QW.then_exit ?_
          refine QW.block_here ?_
          refine QW.next ?_
          refine CW.region ?_
          refine OW.pure 3 [(7, .int .i64 (w64 ((i4270 : Int) + 1)))] (by kernel_rfl) ?_
          refine OW.nil rfl ?_
          refine QW.say 7 rfl (congrArg (Value.int .i64) (w64_cnt hc4272 l1)) ?_
          exact QW.meet (fun a ha => ⟨n4267, Nat.lt_succ_self _, i4270 + 1, (), cnt_next hi4271, ha.agrees (by kernel_rfl), hst.keep [] rfl, hl4268⟩)
        · have hl4268 := ite_f hl4268 hc4294
          refine CW.cond_f rfl hc4294 ?_
          refine CW.skip ?_
          refine QW.next ?_
          refine CW.seq ?_
          refine CW.region ?_
          refine OW.pure 1 [(11, .int .i64 0)] (by kernel_rfl) ?_
          refine OW.nil rfl ?_
          refine QW.next ?_
          obtain ⟨o4707, ho4708, hl4268⟩ := bind_some' hl4268
          refine CW.cutQ (fun a w1 => ∃ (t4709 : Unit), o4707 = .inl t4709 ∧ Rep 76 [(0, .slice a2 (p0).length c3), (1, .slice a5 (p1).length c6), (6, .int .i64 (((p0).length) : Int)), (7, .int .i64 (i4270 : Int))] a ∧ St w (fp []) w1 []) ?_ ?_
          · refine CW.block ?_
            refine CW.loop (fun n a w1 => ∃ (s4985 : Int), Rep 76 [(0, .slice a2 (p0).length c3), (1, .slice a5 (p1).length c6), (6, .int .i64 (((p0).length) : Int)), (7, .int .i64 (i4270 : Int)), (8, .int .i64 r4289.1), (11, .int .i64 s4985)] a ∧ St w (fp []) w1 [] ∧ loop (tappetref07_entering_l2 p0 p1 i4270 r4289) n s4985 = some o4707) fu (fun a ha => ⟨0, ha.agrees (by kernel_rfl), hst.keep [] rfl, ho4708⟩) ?_
            rintro n4983 a w1 ⟨s4985, ha, hst, hl4984⟩
            rcases n4983 with _ | n4983
            · exact (loop_zero hl4984).elim
            refine CW.go ?_ ha
            refine CW.seq ?_
            refine CW.seq ?_
            refine CW.region ?_
            refine OW.pure 5 [(35, .int .i64 s4985), (36, .slice a5 (p1).length c6), (39, .int .i64 (w64 ((i4270 : Int) + r4289.1)))] (by kernel_rfl) ?_
            obtain ⟨x5000, hx5001, hl4984⟩ := bind_some' hl4984
            obtain ⟨g5003, o5004, c5005, cs5006, hv5002, hd5007, hl5008⟩ := h1.formv hx5001
            obtain ⟨v5009, rfl, h5010⟩ := hd5007
            have h5010 : Rd _ _ _ _ _ x5000 := h5010
            obtain ⟨l5011, a5012, c5013, rfl⟩ := h5010.len
            refine OW.idx 41 1 rfl rfl rfl rfl hv5002 rfl (idx_some hx5001).1 (idx_some hx5001).2.1 (by kernel_rfl) (by kernel_rfl) ?_
            refine OW.ld rfl rfl rfl rfl (by kernel_rfl) (hl5008 0 _ rfl _ _ hst) ?_
            refine OW.pure 2 [(43, .bool (decide (s4985 < (((x5000).length) : Int))))] (by kernel_rfl) ?_
            refine OW.nil rfl ?_
            refine QW.next ?_
            rcases Bool.eq_false_or_eq_true (decide (s4985 < (((x5000).length) : Int))) with hc5014 | hc5014
            · have hl4984 := ite_t hl4984 hc5014
              refine CW.cond_t rfl hc5014 ?_
              refine CW.skip ?_
              refine QW.next ?_
              refine CW.seq ?_
              refine CW.block ?_
              refine CW.seq ?_
              refine CW.region ?_
              refine OW.pure 4 [(46, .slice a5 (p1).length c6), (49, .int .i64 (w64 ((i4270 : Int) + r4289.1)))] (by kernel_rfl) ?_
              obtain ⟨g5034, o5035, c5036, cs5037, hv5033, hd5038, hl5039⟩ := h1.formv hx5001
              obtain ⟨v5040, rfl, h5041⟩ := hd5038
              have h5041 : Rd _ _ _ _ _ x5000 := h5041
              obtain ⟨l5042, a5043, c5044, rfl⟩ := h5041.len
              refine OW.idx 41 1 rfl rfl rfl rfl hv5033 rfl (idx_some hx5001).1 (idx_some hx5001).2.1 (by kernel_rfl) (by kernel_rfl) ?_
              refine OW.ld rfl rfl rfl rfl (by kernel_rfl) (hl5039 0 _ rfl _ _ hst) ?_
              refine OW.pure 1 [(52, .int .i64 s4985)] (by kernel_rfl) ?_
              obtain ⟨x5045, hx5046, hl4984⟩ := bind_some' hl4984
              obtain ⟨g5048, o5049, c5050, hv5047⟩ := h5041.formv (fun _ => ⟨_, rfl⟩) hx5046
              refine OW.idx 3 1 rfl rfl rfl rfl hv5047 rfl (idx_some hx5046).1 (idx_some hx5046).2.1 (by kernel_rfl) (by kernel_rfl) ?_
              refine OW.ld rfl rfl rfl rfl (by kernel_rfl) (h5041.cellv hst hx5046 hv5047 0 _ rfl) ?_
              refine OW.pure 1 [(12, .int .i64 x5045)] (by kernel_rfl) ?_
              refine OW.nil rfl ?_
              refine QW.next ?_
              refine CW.seq ?_
              obtain ⟨o5094, ho5095, hl4984⟩ := bind_some' hl4984
              refine CW.cutK (fun a w1 => Rep 76 [(0, .slice a2 (p0).length c3), (1, .slice a5 (p1).length c6), (6, .int .i64 (((p0).length) : Int)), (7, .int .i64 (i4270 : Int)), (8, .int .i64 r4289.1), (11, .int .i64 s4985), (74, .bool o5094)] a ∧ St w (fp []) w1 []) ?_ ?_
              · refine CW.region ?_
                refine OW.pure 2 [(55, .slice a5 (p1).length c6), (56, .int .i64 (i4270 : Int))] (by kernel_rfl) ?_
                obtain ⟨x5096, hx5097, ho5095⟩ := bind_some' ho5095
                obtain ⟨g5099, o5100, c5101, cs5102, hv5098, hd5103, hl5104⟩ := h1.formv hx5097
                obtain ⟨v5105, rfl, h5106⟩ := hd5103
                have h5106 : Rd _ _ _ _ _ x5096 := h5106
                obtain ⟨l5107, a5108, c5109, rfl⟩ := h5106.len
                refine OW.idx 41 1 rfl rfl rfl rfl hv5098 rfl (idx_some hx5097).1 (idx_some hx5097).2.1 (by kernel_rfl) (by kernel_rfl) ?_
                refine OW.ld rfl rfl rfl rfl (by kernel_rfl) (hl5104 0 _ rfl _ _ hst) ?_
                refine OW.pure 1 [(59, .int .i64 x5045)] (by kernel_rfl) ?_
                obtain ⟨r5110, hr5111, ho5095⟩ := bind_some' ho5095
                refine OW.fn rfl rfl rfl rfl (by kernel_rfl) (tappetref07_has_ok _ (.slice a5108 (x5096).length c5109) x5096 x5045 r5110 hr5111 (hst.part [] rfl) (h5106.give hst [])) ?_
                rintro e w5112 ⟨rfl, hst5113⟩
                refine ⟨_, rfl, ?_⟩
                have hst := hst.join (idx := []) (rest := []) rfl hst5113
                refine OW.pure 2 [(62, .bool (!r5110))] (by kernel_rfl) ?_
                refine OW.split 62 rfl (fun hc5114 => ?_) (fun hc5114 => ?_)
                · have ho5095 := ite_t ho5095 hc5114
                  refine OW.pure 6 [(65, .int .i64 (w64 ((i4270 : Int) + r4289.1))), (66, .int .i64 x5045), (67, .slice a2 (p0).length c3), (68, .int .i64 x5045)] (by kernel_rfl) ?_
                  obtain ⟨x5115, hx5116, ho5095⟩ := bind_some' ho5095
                  obtain ⟨g5118, o5119, c5120, hv5117⟩ := h0.formv (fun _ => ⟨_, rfl⟩) hx5116
                  refine OW.idx 32 5 rfl rfl rfl rfl hv5117 rfl (idx_some hx5116).1 (idx_some hx5116).2.1 (by kernel_rfl) (by kernel_rfl) ?_
                  refine OW.pure 1 [(70, .pointer (some ⟨g5118, o5119 + Int.toNat x5045 * 5 + 1, none⟩))] (by kernel_rfl) ?_
                  refine OW.ld rfl rfl rfl rfl (by kernel_rfl) (h0.cellv hst hx5116 hv5117 1 _ rfl) ?_
                  refine OW.pure 3 [(74, .bool ((w64 ((i4270 : Int) + r4289.1)) != (w64 (x5045 - x5115.D))))] (by kernel_rfl) ?_
                  refine OW.nil rfl ?_
                  obtain rfl := Option.some.inj ho5095
                  exact QW.meet (fun a ha => ⟨ha.agrees (by kernel_rfl), hst.keep [] rfl⟩)
                · have ho5095 := ite_f ho5095 hc5114
                  refine OW.pure 12 [(74, .bool false)] (by kernel_rfl) ?_
                  refine OW.nil rfl ?_
                  obtain rfl := Option.some.inj ho5095
                  exact QW.meet (fun a ha => ⟨ha.agrees (by kernel_rfl), hst.keep [] rfl⟩)
              · rintro a w1 ⟨ha, hst⟩
                refine CW.go ?_ ha
                rcases Bool.eq_false_or_eq_true (o5094) with hc5121 | hc5121
                · have hl4984 := ite_t hl4984 hc5121
                  refine CW.cond_t rfl hc5121 ?_
                  refine CW.seq ?_
                  refine CW.region ?_
                  refine OW.pure 3 [(4, .int .i64 (i4270 : Int)), (5, .bool true)] (by kernel_rfl) ?_
                  refine OW.nil rfl ?_
                  refine QW.next ?_
                  refine CW.ret ?_
                  refine QW.block_ret ?_
                  refine QW.then_ret ?_
                  refine QW.then_ret ?_
                  refine QW.block_ret ?_
                  refine QW.then_ret ?_
                  refine QW.block_ret ?_
                  refine QW.then_ret ?_
                  refine QW.then_ret ?_
                  refine QW.block_ret ?_
                  refine QW.then_ret ?_
                  obtain rfl := Option.some.inj hl4984
                  obtain rfl := Option.some.inj hl4268
                  obtain rfl := Option.some.inj hF
                  refine QW.ret2 rfl rfl rfl ?_
                  exact ⟨rfl, hst.keep [] rfl⟩
                · have hl4984 := ite_f hl4984 hc5121
                  refine CW.cond_f rfl hc5121 ?_
                  refine CW.skip ?_
                  refine QW.block_normal ?_
                  refine QW.next ?_
                  refine CW.region ?_
                  refine OW.pure 3 [(11, .int .i64 (w64 (s4985 + 1)))] (by kernel_rfl) ?_
                  refine OW.nil rfl ?_
                  exact QW.meet (fun a ha => ⟨n4983, Nat.lt_succ_self _, (w64 (s4985 + 1)), ha.agrees (by kernel_rfl), hst.keep [] rfl, hl4984⟩)
            · have hl4984 := ite_f hl4984 hc5014
              refine CW.cond_f rfl hc5014 ?_
              refine CW.exit ?_
              refine QW.then_exit ?_
              refine QW.then_exit ?_
              refine QW.block_here ?_
              obtain rfl := Option.some.inj hl4984
              exact QW.meet (fun a ha => ⟨(), rfl, ha.agrees (by kernel_rfl), hst.keep [] rfl⟩)
          · rintro a w1 ⟨t4709, rfl, ha, hst⟩
            refine QW.go ?_ ha
            refine QW.block_normal ?_
            refine QW.next ?_
            refine CW.region ?_
            refine OW.pure 3 [(7, .int .i64 (w64 ((i4270 : Int) + 1)))] (by kernel_rfl) ?_
            refine OW.nil rfl ?_
            refine QW.say 7 rfl (congrArg (Value.int .i64) (w64_cnt hc4272 l1)) ?_
            exact QW.meet (fun a ha => ⟨n4267, Nat.lt_succ_self _, i4270 + 1, (), cnt_next hi4271, ha.agrees (by kernel_rfl), hst.keep [] rfl, hl4268⟩)
    · rcases n4267 with _ | n4267
      · refine CW.cond_f rfl hc4272 ?_
        refine CW.exit ?_
        refine QW.then_exit ?_
        refine QW.then_exit ?_
        refine QW.block_here ?_
        obtain rfl := Option.some.inj hl4268
        exact QW.meet (fun a ha => ⟨(), rfl, ha.agrees (by kernel_rfl), hst.keep [] rfl⟩)
      · exact (cnt1 hi4271 hc4272).elim
  · rintro a w1 ⟨t2565, rfl, ha, hst⟩
    refine CW.go ?_ ha
    refine CW.seq ?_
    refine CW.region ?_
    refine OW.pure 2 [(4, .int .i64 0), (5, .bool false)] (by kernel_rfl) ?_
    refine OW.nil rfl ?_
    refine QW.next ?_
    refine CW.ret ?_
    obtain rfl := Option.some.inj hF
    refine QW.ret2 rfl rfl rfl ?_
    exact ⟨rfl, hst.keep [] rfl⟩


end Go.Proofs.YtjhmkpklhajpcaaDoor

/- Written by a program (wip/gen): the walks: each Go function returns what its plain function computes. -/
import Derived.Test.YtpchniebplpboaaProg
import Derived.Test.YtpchniebplpboaaF1
import Derived.Test.YtpchniebplpboaaSq
import Derived.Test.YtpchniebplpboaaPart
import Derived.Test.YtpchniebplpboaaO1
import Derived.Test.YtpchniebplpboaaW1p6
set_option linter.unusedSimpArgs false
namespace Go.Proofs.Ytpchniebplpboaa
open Go.Sx
set_option linter.unusedVariables false
set_option maxRecDepth 10000
set_option maxHeartbeats 4000000
theorem tappetref27_last_ok (w : World) (fu : Nat) (v0 : Value) (p0 : List api_Entry) (p1 : Int) (p2 : Int) (p3 : Int) (p4 : Int) (r : Int) (hF : tappetref27_last fu p0 p1 p2 p3 p4 = some r)
    (hst : St w (fp []) w []) (h0 : Rd w (fp []) v0 enc_api_Entry 22 p0) :
    Calls Try.prog 32 [v0, I p1, I p2, I p3, I p4].toArray w (fun e w' => e = .returned (I r) ∧ St w (fp []) w' []) := by
 refine CW.start (N := 44) Try.func32 rfl rfl rfl ?_
 obtain ⟨l1, a2, c3, rfl⟩ := h0.len
 refine rg ?_
 refine pu 1 [] (nx (CW.seq (rg ?_)))
 refine pu 3 [(11, I (w64 (p1 - 1)))] (nx ?_)
 obtain ⟨o158, ho159, hF⟩ := bs hF
 refine CW.cutK (fun a w1 => ∃ (t160 : Unit), o158 = .inl t160 ∧ Rep 44 [] a ∧ St w (fp []) w1 []) ?_ ?_
 ·refine CW.block ?_
  refine CW.loop (fun n a w1 => ∃ (s264 : Int), Rep 44 [(0, .slice a2 (p0).length c3), (2, I p2), (3, I p3), (4, I p4), (11, I s264)] a ∧ St w (fp []) w1 [] ∧ loop (tappetref27_last_l1 p0 p2 p3 p4) n s264 = some o158) fu (fun a ha => ⟨(w64 (p1 - 1)), ha.ag, hst.keep [] rfl, ho159⟩) ?_
  rintro n262 a w1 ⟨s264, ha, hst, hl263⟩
  rcases n262 with _ | n262
  ·exact (loop_zero hl263).elim
  refine CW.go ?_ ha
  refine CW.seq (rg ?_)
  refine pu 2 [(15, .bool (decide (s264 ≥ 0)))] (nx ?_)
  refine br (decide (s264 ≥ 0)) hl263 (fun hl263 hc265 => ?_) (fun hl263 hc265 => ?_)
  ·refine CW.skip (QW.next (CW.seq (CW.block (CW.seq ?_))))
   obtain ⟨o292, ho293, hl263⟩ := bs hl263
   refine CW.cutK (fun a w1 => Rep 44 [(0, .slice a2 (p0).length c3), (2, I p2), (3, I p3), (4, I p4), (11, I s264), (42, .bool o292)] a ∧ St w (fp []) w1 []) ?_ ?_
   ·refine CW.region ?_
    refine pu 2 [(18, .slice a2 (p0).length c3), (19, I s264)] ?_
    obtain ⟨x294, hx295, ho293⟩ := bs ho293
    obtain ⟨g297, o298, c299, hv296⟩ := h0.formv (fun _ => ⟨_, rfl⟩) hx295
    refine OW.idx 48 22 rfl rfl rfl rfl hv296 rfl (idx_some hx295).1 (idx_some hx295).2.1 (by kernel_rfl) (by kernel_rfl) ?_
    refine pu 1 [(21, .pointer (some ⟨g297, o298 + Int.toNat s264 * 22, none⟩))] ?_
    refine OW.ld rfl rfl rfl rfl (by kernel_rfl) (h0.cellv hst hx295 hv296 0 _ rfl) ?_
    refine pu 3 [(25, .bool (x294.What == p2))] ?_
    refine OW.split 25 rfl (fun hc300 => ?_) (fun hc300 => ?_)
    ·have ho293 := ite_t ho293 hc300
     refine pu 11 [(34, .bool true), (35, .slice a2 (p0).length c3), (36, I s264)] ?_
     obtain ⟨g302, o303, c304, hv301⟩ := h0.formv (fun _ => ⟨_, rfl⟩) hx295
     refine OW.idx 48 22 rfl rfl rfl rfl hv301 rfl (idx_some hx295).1 (idx_some hx295).2.1 (by kernel_rfl) (by kernel_rfl) ?_
     refine pu 1 [(38, .pointer (some ⟨g302, o303 + Int.toNat s264 * 22 + 1, none⟩))] ?_
     refine OW.ld rfl rfl rfl rfl (by kernel_rfl) (h0.cellv hst hx295 hv301 1 _ rfl) ?_
     refine pu 3 [(42, .bool (x294.Task == p4))] (OW.nil rfl ?_)
     obtain rfl := inj ho293
     exact QW.meet (fun a ha => ⟨ha.ag, hst.keep [] rfl⟩)
    have ho293 := ite_f ho293 hc300
    refine pu 2 [(26, .slice a2 (p0).length c3), (27, I s264)] ?_
    obtain ⟨g306, o307, c308, hv305⟩ := h0.formv (fun _ => ⟨_, rfl⟩) hx295
    refine OW.idx 48 22 rfl rfl rfl rfl hv305 rfl (idx_some hx295).1 (idx_some hx295).2.1 (by kernel_rfl) (by kernel_rfl) ?_
    refine pu 1 [(29, .pointer (some ⟨g306, o307 + Int.toNat s264 * 22, none⟩))] ?_
    refine OW.ld rfl rfl rfl rfl (by kernel_rfl) (h0.cellv hst hx295 hv305 0 _ rfl) ?_
    refine pu 4 [(34, .bool (x294.What == p3))] ?_
    refine OW.split 34 rfl (fun hc309 => ?_) (fun hc309 => ?_)
    ·have ho293 := ite_t ho293 hc309
     refine pu 2 [(35, .slice a2 (p0).length c3), (36, I s264)] ?_
     obtain ⟨g311, o312, c313, hv310⟩ := h0.formv (fun _ => ⟨_, rfl⟩) hx295
     refine OW.idx 48 22 rfl rfl rfl rfl hv310 rfl (idx_some hx295).1 (idx_some hx295).2.1 (by kernel_rfl) (by kernel_rfl) ?_
     refine pu 1 [(38, .pointer (some ⟨g311, o312 + Int.toNat s264 * 22 + 1, none⟩))] ?_
     refine OW.ld rfl rfl rfl rfl (by kernel_rfl) (h0.cellv hst hx295 hv310 1 _ rfl) ?_
     refine pu 3 [(42, .bool (x294.Task == p4))] (OW.nil rfl ?_)
     obtain rfl := inj ho293
     exact QW.meet (fun a ha => ⟨ha.ag, hst.keep [] rfl⟩)
    have ho293 := ite_f ho293 hc309
    refine pu 8 [(42, .bool false)] (OW.nil rfl ?_)
    obtain rfl := inj ho293
    exact QW.meet (fun a ha => ⟨ha.ag, hst.keep [] rfl⟩)
   rintro a w1 ⟨ha, hst⟩
   refine CW.go ?_ ha
   refine br (o292) hl263 (fun hl263 hc314 => ?_) (fun hl263 hc314 => ?_)
   ·refine rg ?_
    refine pu 2 [(10, I s264)] (nx (CW.ret (QW.block_ret (QW.then_ret (QW.then_ret (QW.block_ret (QW.then_ret ?_)))))))
    obtain rfl := inj hl263
    obtain rfl := inj hF
    refine QW.ret1 rfl rfl ?_
    exact ⟨rfl, hst.keep [] rfl⟩
   refine CW.skip (QW.block_normal (QW.next (CW.region ?_)))
   refine pu 3 [(11, I (w64 (s264 - 1)))] (OW.nil rfl ?_)
   exact QW.meet (fun a ha => ⟨n262, Nat.lt_succ_self _, (w64 (s264 - 1)), ha.ag, hst.keep [] rfl, hl263⟩)
  refine CW.exit (QW.then_exit (QW.then_exit ?_))
  refine QW.block_here ?_
  obtain rfl := inj hl263
  exact QW.meet (fun a ha => ⟨(), rfl, ha.ag, hst.keep [] rfl⟩)
 rintro a w1 ⟨t160, rfl, ha, hst⟩
 refine CW.go ?_ ha
 refine rg ?_
 refine pu 1 [(10, I (-1))] (nx (CW.ret ?_))
 obtain rfl := inj hF
 refine QW.ret1 rfl rfl ?_
 exact ⟨rfl, hst.keep [] rfl⟩
theorem tappetref27_open_ok (w : World) (fu : Nat) (v0 : Value) (p0 : List api_Entry) (p1 : Int) (p2 : Int) (p3 : Int) (p4 : Int) (r : Int) (hF : tappetref27_open fu p0 p1 p2 p3 p4 = some r)
    (hst : St w (fp []) w []) (h0 : Rd w (fp []) v0 enc_api_Entry 22 p0) :
    Calls Try.prog 23 [v0, I p1, I p2, I p3, I p4].toArray w (fun e w' => e = .returned (I r) ∧ St w (fp []) w' []) := by
 refine CW.start (N := 30) Try.func23 rfl rfl rfl ?_
 obtain ⟨l1, a2, c3, rfl⟩ := h0.len
 refine rg ?_
 refine pu 1 [] (nx (rg ?_))
 refine pu 5 [(12, .slice a2 (p0).length c3), (13, I p1), (14, I p2), (15, I p3), (16, I p4)] ?_
 obtain ⟨r8, hr9, hF⟩ := bs hF
 refine OW.fn rfl rfl rfl rfl (by kernel_rfl) (tappetref27_last_ok _ fu (.slice a2 (p0).length c3) p0 p1 p2 p3 p4 r8 hr9 (hst.part [] rfl) (h0.give hst [])) ?_
 rintro e w10 ⟨rfl, hst11⟩
 refine ⟨_, rfl, ?_⟩
 have hst := hst.join (idx := []) (rest := []) rfl hst11
 refine pu 1 [(11, I r8)] (nx (CW.seq (CW.seq ?_)))
 obtain ⟨o19, ho20, hF⟩ := bs hF
 refine CW.cutK (fun a w1 => Rep 30 [(11, I r8), (28, .bool o19)] a ∧ St w (fp []) w1 []) ?_ ?_
 ·refine CW.region ?_
  refine pu 3 [(20, .bool (decide (r8 ≥ 0)))] ?_
  refine OW.split 20 rfl (fun hc21 => ?_) (fun hc21 => ?_)
  ·have ho20 := ite_t ho20 hc21
   refine pu 2 [(21, .slice a2 (p0).length c3), (22, I r8)] ?_
   obtain ⟨x22, hx23, ho20⟩ := bs ho20
   obtain ⟨g25, o26, c27, hv24⟩ := h0.formv (fun _ => ⟨_, rfl⟩) hx23
   refine OW.idx 48 22 rfl rfl rfl rfl hv24 rfl (idx_some hx23).1 (idx_some hx23).2.1 (by kernel_rfl) (by kernel_rfl) ?_
   refine pu 1 [(24, .pointer (some ⟨g25, o26 + Int.toNat r8 * 22, none⟩))] ?_
   refine OW.ld rfl rfl rfl rfl (by kernel_rfl) (h0.cellv hst hx23 hv24 0 _ rfl) ?_
   refine pu 3 [(28, .bool (x22.What == p2))] (OW.nil rfl ?_)
   obtain rfl := inj ho20
   exact QW.meet (fun a ha => ⟨ha.ag, hst.keep [] rfl⟩)
  have ho20 := ite_f ho20 hc21
  refine pu 8 [(28, .bool false)] (OW.nil rfl ?_)
  obtain rfl := inj ho20
  exact QW.meet (fun a ha => ⟨ha.ag, hst.keep [] rfl⟩)
 rintro a w1 ⟨ha, hst⟩
 refine CW.go ?_ ha
 refine br (o19) hF (fun hF hc28 => ?_) (fun hF hc28 => ?_)
 ·refine rg ?_
  refine pu 2 [(10, I r8)] (nx (CW.ret (QW.then_ret ?_)))
  obtain rfl := inj hF
  refine QW.ret1 rfl rfl ?_
  exact ⟨rfl, hst.keep [] rfl⟩
 refine CW.skip (QW.next (rg ?_))
 refine pu 1 [(10, I (-1))] (nx (CW.ret ?_))
 obtain rfl := inj hF
 refine QW.ret1 rfl rfl ?_
 exact ⟨rfl, hst.keep [] rfl⟩
theorem tappetref27_applied_ok (w : World) (fu : Nat) (v0 : Value) (p0 : List api_Entry) (p1 : Int) (p2 : Int) (p3 : Int) (p4 : Int) (r : Int) (hF : tappetref27_applied fu p0 p1 p2 p3 p4 = some r)
    (hst : St w (fp []) w []) (h0 : Rd w (fp []) v0 enc_api_Entry 22 p0) :
    Calls Try.prog 24 [v0, I p1, I p2, I p3, I p4].toArray w (fun e w' => e = .returned (I r) ∧ St w (fp []) w' []) := by
 refine CW.start (N := 44) Try.func24 rfl rfl rfl ?_
 obtain ⟨l1, a2, c3, rfl⟩ := h0.len
 refine rg ?_
 refine pu 1 [] (nx (CW.seq (rg ?_)))
 refine pu 3 [(11, I (w64 (p1 + 1)))] (nx ?_)
 obtain ⟨o134, ho135, hF⟩ := bs hF
 refine CW.cutK (fun a w1 => ∃ (t136 : Unit), o134 = .inl t136 ∧ Rep 44 [] a ∧ St w (fp []) w1 []) ?_ ?_
 ·refine CW.block ?_
  refine CW.loop (fun n a w1 => ∃ (s224 : Int), Rep 44 [(0, .slice a2 (p0).length c3), (2, I p2), (3, I p3), (4, I p4), (11, I s224)] a ∧ St w (fp []) w1 [] ∧ loop (tappetref27_applied_l1 p0 p2 p3 p4) n s224 = some o134) fu (fun a ha => ⟨(w64 (p1 + 1)), ha.ag, hst.keep [] rfl, ho135⟩) ?_
  rintro n222 a w1 ⟨s224, ha, hst, hl223⟩
  rcases n222 with _ | n222
  ·exact (loop_zero hl223).elim
  refine CW.go ?_ ha
  refine CW.seq (rg ?_)
  refine pu 3 [(16, .bool (decide (s224 < p2)))] (nx ?_)
  refine br (decide (s224 < p2)) hl223 (fun hl223 hc225 => ?_) (fun hl223 hc225 => ?_)
  ·refine CW.skip (QW.next (CW.seq (CW.block (CW.seq ?_))))
   obtain ⟨o248, ho249, hl223⟩ := bs hl223
   refine CW.cutK (fun a w1 => Rep 44 [(0, .slice a2 (p0).length c3), (2, I p2), (3, I p3), (4, I p4), (11, I s224), (42, .bool o248)] a ∧ St w (fp []) w1 []) ?_ ?_
   ·refine CW.region ?_
    refine pu 2 [(19, .slice a2 (p0).length c3), (20, I s224)] ?_
    obtain ⟨x250, hx251, ho249⟩ := bs ho249
    obtain ⟨g253, o254, c255, hv252⟩ := h0.formv (fun _ => ⟨_, rfl⟩) hx251
    refine OW.idx 48 22 rfl rfl rfl rfl hv252 rfl (idx_some hx251).1 (idx_some hx251).2.1 (by kernel_rfl) (by kernel_rfl) ?_
    refine pu 1 [(22, .pointer (some ⟨g253, o254 + Int.toNat s224 * 22, none⟩))] ?_
    refine OW.ld rfl rfl rfl rfl (by kernel_rfl) (h0.cellv hst hx251 hv252 0 _ rfl) ?_
    refine pu 2 [(25, .bool (x250.What == 3))] ?_
    refine OW.split 25 rfl (fun hc256 => ?_) (fun hc256 => ?_)
    ·have ho249 := ite_t ho249 hc256
     refine pu 2 [(26, .slice a2 (p0).length c3), (27, I s224)] ?_
     obtain ⟨g258, o259, c260, hv257⟩ := h0.formv (fun _ => ⟨_, rfl⟩) hx251
     refine OW.idx 48 22 rfl rfl rfl rfl hv257 rfl (idx_some hx251).1 (idx_some hx251).2.1 (by kernel_rfl) (by kernel_rfl) ?_
     refine pu 1 [(29, .pointer (some ⟨g258, o259 + Int.toNat s224 * 22 + 2, none⟩))] ?_
     refine OW.ld rfl rfl rfl rfl (by kernel_rfl) (h0.cellv hst hx251 hv257 2 _ rfl) ?_
     refine pu 4 [(34, .bool (x250.From == p3))] ?_
     refine OW.split 34 rfl (fun hc261 => ?_) (fun hc261 => ?_)
     ·have ho249 := ite_t ho249 hc261
      refine pu 2 [(35, .slice a2 (p0).length c3), (36, I s224)] ?_
      obtain ⟨g263, o264, c265, hv262⟩ := h0.formv (fun _ => ⟨_, rfl⟩) hx251
      refine OW.idx 48 22 rfl rfl rfl rfl hv262 rfl (idx_some hx251).1 (idx_some hx251).2.1 (by kernel_rfl) (by kernel_rfl) ?_
      refine pu 1 [(38, .pointer (some ⟨g263, o264 + Int.toNat s224 * 22 + 5, none⟩))] ?_
      refine OW.ld rfl rfl rfl rfl (by kernel_rfl) (h0.cellv hst hx251 hv262 5 _ rfl) ?_
      refine pu 3 [(42, .bool (x250.Event == p4))] (OW.nil rfl ?_)
      obtain rfl := inj ho249
      exact QW.meet (fun a ha => ⟨ha.ag, hst.keep [] rfl⟩)
     have ho249 := ite_f ho249 hc261
     refine pu 8 [(42, .bool false)] (OW.nil rfl ?_)
     obtain rfl := inj ho249
     exact QW.meet (fun a ha => ⟨ha.ag, hst.keep [] rfl⟩)
    have ho249 := ite_f ho249 hc256
    refine pu 17 [(42, .bool false)] (OW.nil rfl ?_)
    obtain rfl := inj ho249
    exact QW.meet (fun a ha => ⟨ha.ag, hst.keep [] rfl⟩)
   rintro a w1 ⟨ha, hst⟩
   refine CW.go ?_ ha
   refine br (o248) hl223 (fun hl223 hc266 => ?_) (fun hl223 hc266 => ?_)
   ·refine rg ?_
    refine pu 2 [(10, I s224)] (nx (CW.ret (QW.block_ret (QW.then_ret (QW.then_ret (QW.block_ret (QW.then_ret ?_)))))))
    obtain rfl := inj hl223
    obtain rfl := inj hF
    refine QW.ret1 rfl rfl ?_
    exact ⟨rfl, hst.keep [] rfl⟩
   refine CW.skip (QW.block_normal (QW.next (CW.region ?_)))
   refine pu 3 [(11, I (w64 (s224 + 1)))] (OW.nil rfl ?_)
   exact QW.meet (fun a ha => ⟨n222, Nat.lt_succ_self _, (w64 (s224 + 1)), ha.ag, hst.keep [] rfl, hl223⟩)
  refine CW.exit (QW.then_exit (QW.then_exit ?_))
  refine QW.block_here ?_
  obtain rfl := inj hl223
  exact QW.meet (fun a ha => ⟨(), rfl, ha.ag, hst.keep [] rfl⟩)
 rintro a w1 ⟨t136, rfl, ha, hst⟩
 refine CW.go ?_ ha
 refine rg ?_
 refine pu 1 [(10, I (-1))] (nx (CW.ret ?_))
 obtain rfl := inj hF
 refine QW.ret1 rfl rfl ?_
 exact ⟨rfl, hst.keep [] rfl⟩
theorem tappetref27_Calls_ok (w : World) (fu : Nat) (v0 : Value) (p0 : List api_Entry) (r : Int) (hF : tappetref27_Calls fu p0 = some r)
    (hst : St w (fp []) w []) (h0 : Rd w (fp []) v0 enc_api_Entry 22 p0) :
    Calls Try.prog 11 [v0].toArray w (fun e w' => e = .returned (I r) ∧ St w (fp []) w' []) := by
 refine CW.start (N := 221) Try.func11 rfl rfl rfl ?_
 obtain ⟨l1, a2, c3, rfl⟩ := h0.len
 refine rg ?_
 refine pu 1 [] (nx (CW.seq (rg ?_)))
 refine pu 1 [(3, I 0)] (nx ?_)
 obtain ⟨o1781, ho1782, hF⟩ := bs hF
 refine CW.cutK (fun a w1 => ∃ (t1783 : Unit), o1781 = .inl t1783 ∧ Rep 221 [] a ∧ St w (fp []) w1 []) ?_ ?_
 ·refine CW.block ?_
  refine CW.loop (fun n a w1 => ∃ (i2806 : Nat) (s2805 : Unit), i2806 + n = (p0).length ∧ Rep 221 [(0, .slice a2 (p0).length c3), (3, I (i2806 : Int))] a ∧ St w (fp []) w1 [] ∧ forN (tappetref27_Calls_l1 fu p0) (fun (s2805 : Unit) => (.inl ())) n i2806 s2805 = some o1781) (p0).length (fun a ha => ⟨0, (), Nat.zero_add _, ha.ag, hst.keep [] rfl, ho1782⟩) ?_
  rintro n2803 a w1 ⟨i2806, s2805, hi2807, ha, hst, hl2804⟩
  refine CW.go ?_ ha
  refine CW.seq (rg ?_)
  refine pu 4 [(17, .bool (decide ((i2806 : Int) < ((p0).length : Int))))] (nx ?_)
  rcases bft (decide ((i2806 : Int) < ((p0).length : Int))) with hc2808 | hc2808
  ·rcases n2803 with _ | n2803
   ·exact (cnt0 hi2807 hc2808).elim
   refine CW.cond_t rfl hc2808 (CW.skip (QW.next (CW.seq (CW.block (rg ?_)))))
   refine pu 2 [(20, .slice a2 (p0).length c3), (21, I (i2806 : Int))] ?_
   obtain ⟨x2818, hx2819, hl2804⟩ := bs hl2804
   obtain ⟨g2821, o2822, c2823, hv2820⟩ := h0.formv (fun _ => ⟨_, rfl⟩) hx2819
   refine OW.idx 48 22 rfl rfl rfl rfl hv2820 rfl (idx_some hx2819).1 (idx_some hx2819).2.1 (by kernel_rfl) (by kernel_rfl) ?_
   refine OW.ldN (cs := enc_api_Entry x2818) rfl rfl rfl rfl (by kernel_rfl) (by kernel_rfl) (h0.cellv hst hx2819 hv2820) ?_
   refine OW.alloc hst rfl rfl rfl [I 0, I 0, I 0, I 0, I 0, I 0, I 0, I 0, I 0, I 0, I 0, I 0, U 0, U 0, I 0, .bool false, U 0, .bool false, U 0, U 0, U 0, I 0] (by kernel_rfl) ?_
   intro b2824 w2825 hst
   refine OW.stB hst 0 rfl rfl rfl rfl rfl (by kernel_rfl) rfl rfl [I x2818.What, I x2818.Task, I x2818.From, I x2818.Cmd, I x2818.Tag, I x2818.Event, I x2818.Hook, I x2818.Prog, I x2818.Version, I x2818.Pc, I x2818.Item.Map, I x2818.Item.Op, U x2818.Item.Key, U x2818.Item.Val, I x2818.Res.E, .bool x2818.Res.Found, U x2818.Res.Val, .bool x2818.Res.Out, U x2818.Res.OutKey, U x2818.Res.OutVal, U x2818.Val, I x2818.E] rfl ?_
   intro w2826 hst
   refine nx (rg ?_)
   refine pu 3 [(24, .slice a2 (p0).length c3), (25, I (i2806 : Int)), (26, .pointer (some ⟨b2824, 1, none⟩))] ?_
   refine OW.ld rfl rfl rfl rfl (by kernel_rfl) (hst.blk 0 rfl rfl) ?_
   obtain ⟨r2831, hr2832, hl2804⟩ := bs hl2804
   refine OW.fn rfl rfl rfl rfl (by kernel_rfl) (tappetref27_open_ok _ fu (.slice a2 (p0).length c3) p0 (i2806 : Int) 1 2 x2818.Task r2831 hr2832 (hst.part [] rfl) (h0.give hst [])) ?_
   rintro e w2833 ⟨rfl, hst2834⟩
   refine ⟨_, rfl, ?_⟩
   have hst := hst.join (idx := []) (rest := [0]) rfl hst2834
   refine pu 1 [(5, I r2831)] (nx (rg ?_))
   refine pu 3 [(29, .slice a2 (p0).length c3), (30, I (i2806 : Int)), (31, .pointer (some ⟨b2824, 1, none⟩))] ?_
   refine OW.ld rfl rfl rfl rfl (by kernel_rfl) (hst.blk 0 rfl rfl) ?_
   obtain ⟨r2839, hr2840, hl2804⟩ := bs hl2804
   refine OW.fn rfl rfl rfl rfl (by kernel_rfl) (tappetref27_open_ok _ fu (.slice a2 (p0).length c3) p0 (i2806 : Int) 16 17 x2818.Task r2839 hr2840 (hst.part [] rfl) (h0.give hst [])) ?_
   rintro e w2841 ⟨rfl, hst2842⟩
   refine ⟨_, rfl, ?_⟩
   have hst := hst.join (idx := []) (rest := [0]) rfl hst2842
   refine pu 1 [(6, I r2839)] (nx (rg ?_))
   refine pu 1 [(7, .bool false)] (nx (CW.seq (rg ?_)))
   refine pu 1 [(34, Pt b2824)] ?_
   refine OW.ld rfl rfl rfl rfl (by kernel_rfl) (hst.blk 0 rfl rfl) (nx ?_)
   obtain ⟨o3200, ho3201, hl2804⟩ := bs hl2804
   refine CW.cutK (fun a w1 => ∃ (t3202 : Bool), o3200 = .inl t3202 ∧ Rep 221 [(0, .slice a2 (p0).length c3), (3, I (i2806 : Int)), (7, .bool t3202)] a ∧ St w (fp []) w1 []) ?_ ?_
   ·refine CW.block (rg ?_)
    refine pu 2 [(36, .bool (x2818.What == 1))] (nx ?_)
    refine br ((x2818.What == 1)) ho3201 (fun ho3201 hc3203 => ?_) (fun ho3201 hc3203 => ?_)
    ·refine rg ?_
     refine pu 1 [(8, I 0)] (nx (CW.seq (rg ?_)))
     refine pu 1 [(9, I 0)] (nx ?_)
     obtain ⟨o3326, ho3327, ho3201⟩ := bs ho3201
     refine CW.cutK (fun a w1 => Rep 221 [(0, .slice a2 (p0).length c3), (3, I (i2806 : Int)), (4, Pt b2824), (5, I r2831), (8, I o3326)] a ∧ St w (fp []) w1 [blkI b2824 48 [I x2818.What, I x2818.Task, I x2818.From, I x2818.Cmd, I x2818.Tag, I x2818.Event, I x2818.Hook, I x2818.Prog, I x2818.Version, I x2818.Pc, I x2818.Item.Map, I x2818.Item.Op, U x2818.Item.Key, U x2818.Item.Val, I x2818.Res.E, .bool x2818.Res.Found, U x2818.Res.Val, .bool x2818.Res.Out, U x2818.Res.OutKey, U x2818.Res.OutVal, U x2818.Val, I x2818.E]]) ?_ ?_
     ·refine CW.block ?_
      obtain ⟨u3410, hr3411, ho3327⟩ := bs ho3327
      refine CW.loop (fun n a w1 => ∃ (i3408 : Nat) (s3407 : Int), i3408 + n = i2806 ∧ Rep 221 [(0, .slice a2 (p0).length c3), (3, I (i2806 : Int)), (4, Pt b2824), (5, I r2831), (8, I s3407), (9, I (i3408 : Int))] a ∧ St w (fp []) w1 [blkI b2824 48 [I x2818.What, I x2818.Task, I x2818.From, I x2818.Cmd, I x2818.Tag, I x2818.Event, I x2818.Hook, I x2818.Prog, I x2818.Version, I x2818.Pc, I x2818.Item.Map, I x2818.Item.Op, U x2818.Item.Key, U x2818.Item.Val, I x2818.Res.E, .bool x2818.Res.Found, U x2818.Res.Val, .bool x2818.Res.Out, U x2818.Res.OutKey, U x2818.Res.OutVal, U x2818.Val, I x2818.E]] ∧ forN (tappetref27_Calls_l2 p0 x2818) (fun (s3407 : Int) => s3407) n i3408 s3407 = some o3326) i2806 (fun a ha => ⟨0, 0, Nat.zero_add _, ha.ag, hst.keep [0] rfl, ho3327⟩) ?_
      rintro n3405 a w1 ⟨i3408, s3407, hi3409, ha, hst, hl3406⟩
      refine CW.go ?_ ha
      refine CW.seq (rg ?_)
      refine pu 3 [(40, .bool (decide ((i3408 : Int) < (i2806 : Int))))] (nx ?_)
      rcases bft (decide ((i3408 : Int) < (i2806 : Int))) with hc3412 | hc3412
      ·rcases n3405 with _ | n3405
       ·exact (cnt0 hi3409 hc3412).elim
       refine CW.cond_t rfl hc3412 (CW.skip (QW.next (CW.seq (CW.block (CW.seq ?_)))))
       obtain ⟨o3434, ho3435, hl3406⟩ := bs hl3406
       refine CW.cutK (fun a w1 => Rep 221 [(0, .slice a2 (p0).length c3), (3, I (i2806 : Int)), (4, Pt b2824), (5, I r2831), (8, I s3407), (9, I (i3408 : Int)), (58, .bool o3434)] a ∧ St w (fp []) w1 [blkI b2824 48 [I x2818.What, I x2818.Task, I x2818.From, I x2818.Cmd, I x2818.Tag, I x2818.Event, I x2818.Hook, I x2818.Prog, I x2818.Version, I x2818.Pc, I x2818.Item.Map, I x2818.Item.Op, U x2818.Item.Key, U x2818.Item.Val, I x2818.Res.E, .bool x2818.Res.Found, U x2818.Res.Val, .bool x2818.Res.Out, U x2818.Res.OutKey, U x2818.Res.OutVal, U x2818.Val, I x2818.E]]) ?_ ?_
       ·refine CW.still (by kernel_rfl) (by kernel_rfl) ?_
        intro w3436 hch3437
        have hst := hst.same hch3437
        refine OS.pure 2 [(43, .slice a2 (p0).length c3), (44, I (i3408 : Int))] rfl (by kernel_rfl) ?_
        obtain ⟨x3438, hx3439, ho3435⟩ := bs ho3435
        obtain ⟨g3441, o3442, c3443, hv3440⟩ := h0.formv (fun _ => ⟨_, rfl⟩) hx3439
        refine OS.idx 48 22 rfl rfl rfl rfl rfl hv3440 rfl (idx_some hx3439).1 (idx_some hx3439).2.1 (by kernel_rfl) (by kernel_rfl) ?_
        refine OS.pure 1 [(46, .pointer (some ⟨g3441, o3442 + Int.toNat (i3408 : Int) * 22, none⟩))] rfl (by kernel_rfl) ?_
        refine OS.ld rfl rfl rfl rfl rfl (by kernel_rfl) (h0.cellv hst hx3439 hv3440 0 _ rfl) ?_
        refine OS.pure 2 [(49, .bool (x3438.What == 1))] rfl (by kernel_rfl) ?_
        refine OS.split 49 rfl (fun hc3444 => ?_) (fun hc3444 => ?_)
        ·have ho3435 := ite_t ho3435 hc3444
         refine OS.pure 2 [(50, .slice a2 (p0).length c3), (51, I (i3408 : Int))] rfl (by kernel_rfl) ?_
         obtain ⟨g3446, o3447, c3448, hv3445⟩ := h0.formv (fun _ => ⟨_, rfl⟩) hx3439
         refine OS.idx 48 22 rfl rfl rfl rfl rfl hv3445 rfl (idx_some hx3439).1 (idx_some hx3439).2.1 (by kernel_rfl) (by kernel_rfl) ?_
         refine OS.pure 1 [(53, .pointer (some ⟨g3446, o3447 + Int.toNat (i3408 : Int) * 22 + 1, none⟩))] rfl (by kernel_rfl) ?_
         refine OS.ld rfl rfl rfl rfl rfl (by kernel_rfl) (h0.cellv hst hx3439 hv3445 1 _ rfl) ?_
         refine OS.pure 1 [(55, .pointer (some ⟨b2824, 1, none⟩))] rfl (by kernel_rfl) ?_
         refine OS.ld rfl rfl rfl rfl rfl (by kernel_rfl) (hst.blk 0 rfl rfl) ?_
         refine OS.pure 2 [(58, .bool (x3438.Task == x2818.Task))] rfl (by kernel_rfl) ?_
         refine OS.fin rfl ?_
         obtain rfl := inj ho3435
         exact QW.meet (fun a ha => ⟨ha.ag, hst.keep [0] rfl⟩)
        have ho3435 := ite_f ho3435 hc3444
        refine OS.pure 9 [(58, .bool false)] rfl (by kernel_rfl) ?_
        refine OS.fin rfl ?_
        obtain rfl := inj ho3435
        exact QW.meet (fun a ha => ⟨ha.ag, hst.keep [0] rfl⟩)
       rintro a w1 ⟨ha, hst⟩
       refine CW.go ?_ ha
       refine br (o3434) hl3406 (fun hl3406 hc3449 => ?_) (fun hl3406 hc3449 => ?_)
       ·refine CW.region ?_
        refine pu 3 [(8, I (w64 (s3407 + 1)))] (OW.nil rfl (QW.block_normal (QW.next (CW.region ?_))))
        refine pu 3 [(9, I (w64 ((i3408 : Int) + 1)))] (OW.nil rfl ?_)
        refine QW.say 9 rfl (congrArg (Value.int .i64) (w64_cnt hc3412 (room_sz hr3411))) ?_
        exact QW.meet (fun a ha => ⟨n3405, Nat.lt_succ_self _, i3408 + 1, (w64 (s3407 + 1)), cnt_next hi3409, ha.ag, hst.keep [0] rfl, hl3406⟩)
       refine CW.skip (QW.block_normal (QW.next (CW.region ?_)))
       refine pu 3 [(9, I (w64 ((i3408 : Int) + 1)))] (OW.nil rfl ?_)
       refine QW.say 9 rfl (congrArg (Value.int .i64) (w64_cnt hc3412 (room_sz hr3411))) ?_
       exact QW.meet (fun a ha => ⟨n3405, Nat.lt_succ_self _, i3408 + 1, s3407, cnt_next hi3409, ha.ag, hst.keep [0] rfl, hl3406⟩)
      rcases n3405 with _ | n3405
      ·refine CW.cond_f rfl hc3412 ?_
       refine CW.exit (QW.then_exit (QW.then_exit ?_))
       refine QW.block_here ?_
       obtain rfl := inj hl3406
       exact QW.meet (fun a ha => ⟨ha.ag, hst.keep [0] rfl⟩)
      exact (cnt1 hi3409 hc3412).elim
     rintro a w1 ⟨ha, hst⟩
     refine CW.go ?_ ha
     refine CW.region ?_
     refine pu 3 [(63, .bool (decide (r2831 ≥ 0)))] ?_
     refine OW.split 63 rfl (fun hc3450 => ?_) (fun hc3450 => ?_)
     ·have ho3201 := ite_t ho3201 hc3450
      refine pu 6 [(7, .bool true)] (OW.nil rfl (QW.block_normal ?_))
      obtain rfl := inj ho3201
      exact QW.meet (fun a ha => ⟨true, rfl, ha.ag, hst.keep [] rfl⟩)
     have ho3201 := ite_f ho3201 hc3450
     refine pu 1 [(64, .pointer (some ⟨b2824, 3, none⟩))] ?_
     refine OW.ld rfl rfl rfl rfl (by kernel_rfl) (hst.blk 0 rfl rfl) ?_
     refine pu 4 [(7, .bool (x2818.Cmd != o3326))] (OW.nil rfl (QW.block_normal ?_))
     obtain rfl := inj ho3201
     exact QW.meet (fun a ha => ⟨(x2818.Cmd != o3326), rfl, ha.ag, hst.keep [] rfl⟩)
    refine rg ?_
    refine pu 2 [(69, .bool (x2818.What == 2))] (nx ?_)
    refine br ((x2818.What == 2)) ho3201 (fun ho3201 hc3451 => ?_) (fun ho3201 hc3451 => ?_)
    ·refine CW.still (by kernel_rfl) (by kernel_rfl) ?_
     intro w3454 hch3455
     have hst := hst.same hch3455
     refine OS.pure 3 [(73, .bool (decide (r2831 < 0)))] rfl (by kernel_rfl) ?_
     refine OS.split 73 rfl (fun hc3456 => ?_) (fun hc3456 => ?_)
     ·have ho3201 := ite_t ho3201 hc3456
      refine OS.pure 10 [(7, .bool true)] rfl (by kernel_rfl) ?_
      refine OS.fin rfl (QW.block_normal ?_)
      obtain rfl := inj ho3201
      exact QW.meet (fun a ha => ⟨true, rfl, ha.ag, hst.keep [] rfl⟩)
     have ho3201 := ite_f ho3201 hc3456
     refine OS.pure 2 [(74, .slice a2 (p0).length c3), (75, I r2831)] rfl (by kernel_rfl) ?_
     obtain ⟨x3457, hx3458, ho3201⟩ := bs ho3201
     obtain ⟨g3460, o3461, c3462, hv3459⟩ := h0.formv (fun _ => ⟨_, rfl⟩) hx3458
     refine OS.idx 48 22 rfl rfl rfl rfl rfl hv3459 rfl (idx_some hx3458).1 (idx_some hx3458).2.1 (by kernel_rfl) (by kernel_rfl) ?_
     refine OS.pure 1 [(77, .pointer (some ⟨g3460, o3461 + Int.toNat r2831 * 22 + 3, none⟩))] rfl (by kernel_rfl) ?_
     refine OS.ld rfl rfl rfl rfl rfl (by kernel_rfl) (h0.cellv hst hx3458 hv3459 3 _ rfl) ?_
     refine OS.pure 1 [(79, .pointer (some ⟨b2824, 3, none⟩))] rfl (by kernel_rfl) ?_
     refine OS.ld rfl rfl rfl rfl rfl (by kernel_rfl) (hst.blk 0 rfl rfl) ?_
     refine OS.pure 3 [(7, .bool (x3457.Cmd != x2818.Cmd))] rfl (by kernel_rfl) ?_
     refine OS.fin rfl (QW.block_normal ?_)
     obtain rfl := inj ho3201
     exact QW.meet (fun a ha => ⟨(x3457.Cmd != x2818.Cmd), rfl, ha.ag, hst.keep [] rfl⟩)
    refine rg ?_
    refine pu 2 [(83, .bool (x2818.What == 16))] (nx ?_)
    refine br ((x2818.What == 16)) ho3201 (fun ho3201 hc3463 => ?_) (fun ho3201 hc3463 => ?_)
    ·refine CW.region ?_
     refine pu 3 [(87, .bool (decide (r2839 ≥ 0)))] ?_
     refine OW.split 87 rfl (fun hc3464 => ?_) (fun hc3464 => ?_)
     ·have ho3201 := ite_t ho3201 hc3464
      refine pu 5 [(7, .bool true)] (OW.nil rfl (QW.block_normal ?_))
      obtain rfl := inj ho3201
      exact QW.meet (fun a ha => ⟨true, rfl, ha.ag, hst.keep [] rfl⟩)
     have ho3201 := ite_f ho3201 hc3464
     refine pu 1 [(88, .pointer (some ⟨b2824, 5, none⟩))] ?_
     refine OW.ld rfl rfl rfl rfl (by kernel_rfl) (hst.blk 0 rfl rfl) ?_
     refine pu 3 [(7, .bool (x2818.Event == 0))] (OW.nil rfl (QW.block_normal ?_))
     obtain rfl := inj ho3201
     exact QW.meet (fun a ha => ⟨(x2818.Event == 0), rfl, ha.ag, hst.keep [] rfl⟩)
    refine rg ?_
    refine pu 2 [(92, .bool (x2818.What == 3))] (nx ?_)
    refine br ((x2818.What == 3)) ho3201 (fun ho3201 hc3465 => ?_) (fun ho3201 hc3465 => ?_)
    ·refine rg ?_
     refine pu 3 [(94, .slice a2 (p0).length c3), (95, I (i2806 : Int)), (96, .pointer (some ⟨b2824, 2, none⟩))] ?_
     refine OW.ld rfl rfl rfl rfl (by kernel_rfl) (hst.blk 0 rfl rfl) ?_
     obtain ⟨r3470, hr3471, ho3201⟩ := bs ho3201
     refine OW.fn rfl rfl rfl rfl (by kernel_rfl) (tappetref27_open_ok _ fu (.slice a2 (p0).length c3) p0 (i2806 : Int) 1 2 x2818.From r3470 hr3471 (hst.part [] rfl) (h0.give hst [])) ?_
     rintro e w3472 ⟨rfl, hst3473⟩
     refine ⟨_, rfl, ?_⟩
     have hst := hst.join (idx := []) (rest := [0]) rfl hst3473
     refine pu 1 [(10, I r3470)] (nx (rg ?_))
     refine pu 3 [(99, .slice a2 (p0).length c3), (100, I (i2806 : Int)), (101, .pointer (some ⟨b2824, 2, none⟩))] ?_
     refine OW.ld rfl rfl rfl rfl (by kernel_rfl) (hst.blk 0 rfl rfl) ?_
     obtain ⟨r3478, hr3479, ho3201⟩ := bs ho3201
     refine OW.fn rfl rfl rfl rfl (by kernel_rfl) (tappetref27_open_ok _ fu (.slice a2 (p0).length c3) p0 (i2806 : Int) 16 17 x2818.From r3478 hr3479 (hst.part [] rfl) (h0.give hst [])) ?_
     rintro e w3480 ⟨rfl, hst3481⟩
     refine ⟨_, rfl, ?_⟩
     have hst := hst.join (idx := []) (rest := [0]) rfl hst3481
     refine pu 1 [(11, I r3478)] (nx (rg ?_))
     refine pu 1 [(104, .pointer (some ⟨b2824, 5, none⟩))] ?_
     refine OW.ld rfl rfl rfl rfl (by kernel_rfl) (hst.blk 0 rfl rfl) ?_
     refine pu 1 [(106, .bool (x2818.Event == 0))] (nx ?_)
     refine br ((x2818.Event == 0)) ho3201 (fun ho3201 hc3482 => ?_) (fun ho3201 hc3482 => ?_)
     ·refine CW.still (by kernel_rfl) (by kernel_rfl) ?_
      intro w3485 hch3486
      have hst := hst.same hch3486
      refine OS.pure 3 [(109, .bool (decide (r3470 < 0)))] rfl (by kernel_rfl) ?_
      refine OS.split 109 rfl (fun hc3487 => ?_) (fun hc3487 => ?_)
      ·have ho3201 := ite_t ho3201 hc3487
       refine OS.pure 10 [(7, .bool true)] rfl (by kernel_rfl) ?_
       refine OS.fin rfl (QW.block_normal ?_)
       obtain rfl := inj ho3201
       exact QW.meet (fun a ha => ⟨true, rfl, ha.ag, hst.keep [] rfl⟩)
      have ho3201 := ite_f ho3201 hc3487
      refine OS.pure 2 [(110, .slice a2 (p0).length c3), (111, I r3470)] rfl (by kernel_rfl) ?_
      obtain ⟨x3488, hx3489, ho3201⟩ := bs ho3201
      obtain ⟨g3491, o3492, c3493, hv3490⟩ := h0.formv (fun _ => ⟨_, rfl⟩) hx3489
      refine OS.idx 48 22 rfl rfl rfl rfl rfl hv3490 rfl (idx_some hx3489).1 (idx_some hx3489).2.1 (by kernel_rfl) (by kernel_rfl) ?_
      refine OS.pure 1 [(113, .pointer (some ⟨g3491, o3492 + Int.toNat r3470 * 22 + 3, none⟩))] rfl (by kernel_rfl) ?_
      refine OS.ld rfl rfl rfl rfl rfl (by kernel_rfl) (h0.cellv hst hx3489 hv3490 3 _ rfl) ?_
      refine OS.pure 1 [(115, .pointer (some ⟨b2824, 3, none⟩))] rfl (by kernel_rfl) ?_
      refine OS.ld rfl rfl rfl rfl rfl (by kernel_rfl) (hst.blk 0 rfl rfl) ?_
      refine OS.pure 3 [(7, .bool (x3488.Cmd != x2818.Cmd))] rfl (by kernel_rfl) ?_
      refine OS.fin rfl (QW.block_normal ?_)
      obtain rfl := inj ho3201
      exact QW.meet (fun a ha => ⟨(x3488.Cmd != x2818.Cmd), rfl, ha.ag, hst.keep [] rfl⟩)
     refine CW.tail 40 (by kernel_rfl) (by kernel_rfl) ?_
     intro w3496 hch3497
     have hst := hst.same hch3497
     refine OS.pure 3 [(121, .bool (decide (r3478 < 0)))] rfl (by kernel_rfl) ?_
     refine OS.split 121 rfl (fun hc3498 => ?_) (fun hc3498 => ?_)
     ·have ho3201 := ite_t ho3201 hc3498
      refine OS.pure 37 [(151, .bool true), (152, undef), (153, undef), (154, undef), (156, undef), (158, undef)] rfl (by kernel_rfl) ?_
      refine OS.on ?_
      refine pu 4 [(7, .bool true)] (OW.nil rfl (QW.block_normal ?_))
      obtain rfl := inj ho3201
      exact QW.meet (fun a ha => ⟨true, rfl, ha.ag, hst.keep [] rfl⟩)
     have ho3201 := ite_f ho3201 hc3498
     refine OS.pure 1 [(122, .pointer (some ⟨b2824, 3, none⟩))] rfl (by kernel_rfl) ?_
     refine OS.ld rfl rfl rfl rfl rfl (by kernel_rfl) (hst.blk 0 rfl rfl) ?_
     refine OS.pure 3 [(126, .bool (x2818.Cmd != 0))] rfl (by kernel_rfl) ?_
     refine OS.split 126 rfl (fun hc3499 => ?_) (fun hc3499 => ?_)
     ·have ho3201 := ite_t ho3201 hc3499
      refine OS.pure 32 [(151, .bool true), (152, undef), (153, undef), (154, undef), (156, undef), (158, undef)] rfl (by kernel_rfl) ?_
      refine OS.on ?_
      refine pu 4 [(7, .bool true)] (OW.nil rfl (QW.block_normal ?_))
      obtain rfl := inj ho3201
      exact QW.meet (fun a ha => ⟨true, rfl, ha.ag, hst.keep [] rfl⟩)
     have ho3201 := ite_f ho3201 hc3499
     refine OS.pure 1 [(127, .pointer (some ⟨b2824, 4, none⟩))] rfl (by kernel_rfl) ?_
     refine OS.ld rfl rfl rfl rfl rfl (by kernel_rfl) (hst.blk 0 rfl rfl) ?_
     refine OS.pure 3 [(131, .bool (x2818.Tag != 0))] rfl (by kernel_rfl) ?_
     refine OS.split 131 rfl (fun hc3500 => ?_) (fun hc3500 => ?_)
     ·have ho3201 := ite_t ho3201 hc3500
      refine OS.pure 27 [(151, .bool true), (152, undef), (153, undef), (154, undef), (156, undef), (158, undef)] rfl (by kernel_rfl) ?_
      refine OS.on ?_
      refine pu 4 [(7, .bool true)] (OW.nil rfl (QW.block_normal ?_))
      obtain rfl := inj ho3201
      exact QW.meet (fun a ha => ⟨true, rfl, ha.ag, hst.keep [] rfl⟩)
     have ho3201 := ite_f ho3201 hc3500
     refine OS.pure 2 [(132, .slice a2 (p0).length c3), (133, I r3478)] rfl (by kernel_rfl) ?_
     obtain ⟨x3501, hx3502, ho3201⟩ := bs ho3201
     obtain ⟨g3504, o3505, c3506, hv3503⟩ := h0.formv (fun _ => ⟨_, rfl⟩) hx3502
     refine OS.idx 48 22 rfl rfl rfl rfl rfl hv3503 rfl (idx_some hx3502).1 (idx_some hx3502).2.1 (by kernel_rfl) (by kernel_rfl) ?_
     refine OS.pure 1 [(135, .pointer (some ⟨g3504, o3505 + Int.toNat r3478 * 22 + 5, none⟩))] rfl (by kernel_rfl) ?_
     refine OS.ld rfl rfl rfl rfl rfl (by kernel_rfl) (h0.cellv hst hx3502 hv3503 5 _ rfl) ?_
     refine OS.pure 1 [(137, .pointer (some ⟨b2824, 5, none⟩))] rfl (by kernel_rfl) ?_
     refine OS.ld rfl rfl rfl rfl rfl (by kernel_rfl) (hst.blk 0 rfl rfl) ?_
     refine OS.pure 3 [(141, .bool (x3501.Event != x2818.Event))] rfl (by kernel_rfl) ?_
     refine OS.split 141 rfl (fun hc3507 => ?_) (fun hc3507 => ?_)
     ·have ho3201 := ite_t ho3201 hc3507
      refine OS.pure 17 [(151, .bool true), (152, undef), (153, undef), (154, undef), (156, undef), (158, undef)] rfl (by kernel_rfl) ?_
      refine OS.on ?_
      refine pu 4 [(7, .bool true)] (OW.nil rfl (QW.block_normal ?_))
      obtain rfl := inj ho3201
      exact QW.meet (fun a ha => ⟨true, rfl, ha.ag, hst.keep [] rfl⟩)
     have ho3201 := ite_f ho3201 hc3507
     refine OS.pure 2 [(142, .slice a2 (p0).length c3), (143, I r3478)] rfl (by kernel_rfl) ?_
     obtain ⟨g3509, o3510, c3511, hv3508⟩ := h0.formv (fun _ => ⟨_, rfl⟩) hx3502
     refine OS.idx 48 22 rfl rfl rfl rfl rfl hv3508 rfl (idx_some hx3502).1 (idx_some hx3502).2.1 (by kernel_rfl) (by kernel_rfl) ?_
     refine OS.pure 1 [(145, .pointer (some ⟨g3509, o3510 + Int.toNat r3478 * 22 + 10, none⟩))] rfl (by kernel_rfl) ?_
     refine OS.ldN (cs := [I x3501.Item.Map, I x3501.Item.Op, U x3501.Item.Key, U x3501.Item.Val]) rfl rfl rfl rfl rfl (by kernel_rfl) (by kernel_rfl) (elN (h0.cellv hst hx3502 hv3508) 10 4) ?_
     refine OS.pure 1 [(147, .pointer (some ⟨b2824, 10, none⟩))] rfl (by kernel_rfl) ?_
     refine OS.ldN (cs := [I x2818.Item.Map, I x2818.Item.Op, U x2818.Item.Key, U x2818.Item.Val]) rfl rfl rfl rfl rfl (by kernel_rfl) (by kernel_rfl) (hst.blkN 0 rfl 10 4) ?_
     refine OS.op (v := .bool (!((x3501.Item.Map == x2818.Item.Map) && ((x3501.Item.Op == x2818.Item.Op) && ((x3501.Item.Key == x2818.Item.Key) && ((x3501.Item.Val == x2818.Item.Val) && true)))))) rfl rfl rfl rfl rfl (fun a ha => sneq_run rfl rfl rfl (by kernel_rfl) (by kernel_rfl) a _ ha) ?_
     refine OS.pure 2 [(151, .bool (!((x3501.Item.Map == x2818.Item.Map) && ((x3501.Item.Op == x2818.Item.Op) && ((x3501.Item.Key == x2818.Item.Key) && ((x3501.Item.Val == x2818.Item.Val) && true))))))] rfl (by kernel_rfl) ?_
     refine OS.split 151 rfl (fun hc3512 => ?_) (fun hc3512 => ?_)
     ·have ho3201 := ite_t ho3201 hc3512
      refine OS.pure 7 [(152, undef), (153, undef), (154, undef), (156, undef), (158, undef)] rfl (by kernel_rfl) ?_
      refine OS.on ?_
      refine pu 4 [(7, .bool true)] (OW.nil rfl (QW.block_normal ?_))
      obtain rfl := inj ho3201
      exact QW.meet (fun a ha => ⟨true, rfl, ha.ag, hst.keep [] rfl⟩)
     have ho3201 := ite_f ho3201 hc3512
     refine OS.pure 4 [(152, .slice a2 (p0).length c3), (153, I r3478), (154, I (i2806 : Int)), (155, .pointer (some ⟨b2824, 2, none⟩))] rfl (by kernel_rfl) ?_
     refine OS.ld rfl rfl rfl rfl rfl (by kernel_rfl) (hst.blk 0 rfl rfl) ?_
     refine OS.pure 1 [(157, .pointer (some ⟨b2824, 5, none⟩))] rfl (by kernel_rfl) ?_
     refine OS.ld rfl rfl rfl rfl rfl (by kernel_rfl) (hst.blk 0 rfl rfl) ?_
     refine OS.on ?_
     obtain ⟨r3513, hr3514, ho3201⟩ := bs ho3201
     refine OW.fn rfl rfl rfl rfl (by kernel_rfl) (tappetref27_applied_ok _ fu (.slice a2 (p0).length c3) p0 r3478 (i2806 : Int) x2818.From x2818.Event r3513 hr3514 (hst.part [] rfl) (h0.give hst [])) ?_
     rintro e w3515 ⟨rfl, hst3516⟩
     refine ⟨_, rfl, ?_⟩
     have hst := hst.join (idx := []) (rest := [0]) rfl hst3516
     refine pu 3 [(7, .bool (decide (r3513 ≥ 0)))] (OW.nil rfl (QW.block_normal ?_))
     obtain rfl := inj ho3201
     exact QW.meet (fun a ha => ⟨(decide (r3513 ≥ 0)), rfl, ha.ag, hst.keep [] rfl⟩)
    refine rg ?_
    refine pu 2 [(162, .bool (x2818.What == 17))] (nx ?_)
    refine br ((x2818.What == 17)) ho3201 (fun ho3201 hc3517 => ?_) (fun ho3201 hc3517 => ?_)
    ·refine CW.seq (rg ?_)
     refine pu 2 [(165, .bool (decide (r2839 < 0)))] (nx ?_)
     refine br (decide (r2839 < 0)) ho3201 (fun ho3201 hc3518 => ?_) (fun ho3201 hc3518 => ?_)
     ·refine rg ?_
      refine pu 2 [(2, I (i2806 : Int))] (nx (CW.ret (QW.then_ret (QW.block_ret (QW.then_ret (QW.block_ret (QW.then_ret (QW.then_ret (QW.block_ret (QW.then_ret ?_))))))))))
      obtain rfl := inj ho3201
      obtain rfl := inj hl2804
      obtain rfl := inj hF
      refine QW.ret1 rfl rfl ?_
      exact ⟨rfl, hst.keep [] rfl⟩
     refine CW.skip (QW.next (rg ?_))
     refine pu 4 [(167, .slice a2 (p0).length c3), (168, I r2839), (169, I (i2806 : Int)), (170, .pointer (some ⟨b2824, 1, none⟩))] ?_
     refine OW.ld rfl rfl rfl rfl (by kernel_rfl) (hst.blk 0 rfl rfl) ?_
     refine pu 1 [(172, .pointer (some ⟨b2824, 5, none⟩))] ?_
     refine OW.ld rfl rfl rfl rfl (by kernel_rfl) (hst.blk 0 rfl rfl) ?_
     obtain ⟨r3523, hr3524, ho3201⟩ := bs ho3201
     refine OW.fn rfl rfl rfl rfl (by kernel_rfl) (tappetref27_applied_ok _ fu (.slice a2 (p0).length c3) p0 r2839 (i2806 : Int) x2818.Task x2818.Event r3523 hr3524 (hst.part [] rfl) (h0.give hst [])) ?_
     rintro e w3525 ⟨rfl, hst3526⟩
     refine ⟨_, rfl, ?_⟩
     have hst := hst.join (idx := []) (rest := [0]) rfl hst3526
     refine pu 1 [(12, I r3523)] (nx (rg ?_))
     refine pu 2 [(175, .slice a2 (p0).length c3), (176, I r2839)] ?_
     obtain ⟨x3536, hx3537, ho3201⟩ := bs ho3201
     obtain ⟨g3539, o3540, c3541, hv3538⟩ := h0.formv (fun _ => ⟨_, rfl⟩) hx3537
     refine OW.idx 48 22 rfl rfl rfl rfl hv3538 rfl (idx_some hx3537).1 (idx_some hx3537).2.1 (by kernel_rfl) (by kernel_rfl) ?_
     refine OW.ldN (cs := enc_api_Entry x3536) rfl rfl rfl rfl (by kernel_rfl) (by kernel_rfl) (h0.cellv hst hx3537 hv3538) ?_
     refine OW.alloc hst rfl rfl rfl [I 0, I 0, I 0, I 0, I 0, I 0, I 0, I 0, I 0, I 0, I 0, I 0, U 0, U 0, I 0, .bool false, U 0, .bool false, U 0, U 0, U 0, I 0] (by kernel_rfl) ?_
     intro b3542 w3543 hst
     refine OW.stB hst 1 rfl rfl rfl rfl rfl (by kernel_rfl) rfl rfl [I x3536.What, I x3536.Task, I x3536.From, I x3536.Cmd, I x3536.Tag, I x3536.Event, I x3536.Hook, I x3536.Prog, I x3536.Version, I x3536.Pc, I x3536.Item.Map, I x3536.Item.Op, U x3536.Item.Key, U x3536.Item.Val, I x3536.Res.E, .bool x3536.Res.Found, U x3536.Res.Val, .bool x3536.Res.Out, U x3536.Res.OutKey, U x3536.Res.OutVal, U x3536.Val, I x3536.E] rfl ?_
     intro w3544 hst
     refine nx ?_
     refine CW.still (by kernel_rfl) (by kernel_rfl) ?_
     intro w3547 hch3548
     have hst := hst.same hch3548
     refine OS.pure 3 [(181, .bool (decide (r3523 < 0)))] rfl (by kernel_rfl) ?_
     refine OS.split 181 rfl (fun hc3549 => ?_) (fun hc3549 => ?_)
     ·have ho3201 := ite_t ho3201 hc3549
      refine OS.pure 38 [(7, .bool true)] rfl (by kernel_rfl) ?_
      refine OS.fin rfl (QW.block_normal ?_)
      obtain rfl := inj ho3201
      exact QW.meet (fun a ha => ⟨true, rfl, ha.ag, hst.keep [] rfl⟩)
     have ho3201 := ite_f ho3201 hc3549
     refine OS.pure 2 [(182, .slice a2 (p0).length c3), (183, I r3523)] rfl (by kernel_rfl) ?_
     obtain ⟨x3550, hx3551, ho3201⟩ := bs ho3201
     obtain ⟨g3553, o3554, c3555, hv3552⟩ := h0.formv (fun _ => ⟨_, rfl⟩) hx3551
     refine OS.idx 48 22 rfl rfl rfl rfl rfl hv3552 rfl (idx_some hx3551).1 (idx_some hx3551).2.1 (by kernel_rfl) (by kernel_rfl) ?_
     refine OS.pure 1 [(185, .pointer (some ⟨g3553, o3554 + Int.toNat r3523 * 22 + 14, none⟩))] rfl (by kernel_rfl) ?_
     refine OS.ldN (cs := [I x3550.Res.E, .bool x3550.Res.Found, U x3550.Res.Val, .bool x3550.Res.Out, U x3550.Res.OutKey, U x3550.Res.OutVal]) rfl rfl rfl rfl rfl (by kernel_rfl) (by kernel_rfl) (elN (h0.cellv hst hx3551 hv3552) 14 6) ?_
     refine OS.pure 1 [(187, .pointer (some ⟨b2824, 14, none⟩))] rfl (by kernel_rfl) ?_
     refine OS.ldN (cs := [I x2818.Res.E, .bool x2818.Res.Found, U x2818.Res.Val, .bool x2818.Res.Out, U x2818.Res.OutKey, U x2818.Res.OutVal]) rfl rfl rfl rfl rfl (by kernel_rfl) (by kernel_rfl) (hst.blkN 0 rfl 14 6) ?_
     refine OS.op (v := .bool (!((x3550.Res.E == x2818.Res.E) && ((x3550.Res.Found == x2818.Res.Found) && ((x3550.Res.Val == x2818.Res.Val) && ((x3550.Res.Out == x2818.Res.Out) && ((x3550.Res.OutKey == x2818.Res.OutKey) && ((x3550.Res.OutVal == x2818.Res.OutVal) && true)))))))) rfl rfl rfl rfl rfl (fun a ha => sneq_run rfl rfl rfl (by kernel_rfl) (by kernel_rfl) a _ ha) ?_
     refine OS.pure 2 [(191, .bool (!((x3550.Res.E == x2818.Res.E) && ((x3550.Res.Found == x2818.Res.Found) && ((x3550.Res.Val == x2818.Res.Val) && ((x3550.Res.Out == x2818.Res.Out) && ((x3550.Res.OutKey == x2818.Res.OutKey) && ((x3550.Res.OutVal == x2818.Res.OutVal) && true))))))))] rfl (by kernel_rfl) ?_
     refine OS.split 191 rfl (fun hc3556 => ?_) (fun hc3556 => ?_)
     ·have ho3201 := ite_t ho3201 hc3556
      refine OS.pure 28 [(7, .bool true)] rfl (by kernel_rfl) ?_
      refine OS.fin rfl (QW.block_normal ?_)
      obtain rfl := inj ho3201
      exact QW.meet (fun a ha => ⟨true, rfl, ha.ag, hst.keep [] rfl⟩)
     have ho3201 := ite_f ho3201 hc3556
     refine OS.pure 1 [(192, .pointer (some ⟨b3542, 5, none⟩))] rfl (by kernel_rfl) ?_
     refine OS.ld rfl rfl rfl rfl rfl (by kernel_rfl) (hst.blk 1 rfl rfl) ?_
     refine OS.pure 1 [(194, .pointer (some ⟨b2824, 5, none⟩))] rfl (by kernel_rfl) ?_
     refine OS.ld rfl rfl rfl rfl rfl (by kernel_rfl) (hst.blk 0 rfl rfl) ?_
     refine OS.pure 3 [(198, .bool (x3536.Event != x2818.Event))] rfl (by kernel_rfl) ?_
     refine OS.split 198 rfl (fun hc3557 => ?_) (fun hc3557 => ?_)
     ·have ho3201 := ite_t ho3201 hc3557
      refine OS.pure 21 [(7, .bool true)] rfl (by kernel_rfl) ?_
      refine OS.fin rfl (QW.block_normal ?_)
      obtain rfl := inj ho3201
      exact QW.meet (fun a ha => ⟨true, rfl, ha.ag, hst.keep [] rfl⟩)
     have ho3201 := ite_f ho3201 hc3557
     refine OS.pure 1 [(199, .pointer (some ⟨b3542, 7, none⟩))] rfl (by kernel_rfl) ?_
     refine OS.ld rfl rfl rfl rfl rfl (by kernel_rfl) (hst.blk 1 rfl rfl) ?_
     refine OS.pure 1 [(201, .pointer (some ⟨b2824, 7, none⟩))] rfl (by kernel_rfl) ?_
     refine OS.ld rfl rfl rfl rfl rfl (by kernel_rfl) (hst.blk 0 rfl rfl) ?_
     refine OS.pure 3 [(205, .bool (x3536.Prog != x2818.Prog))] rfl (by kernel_rfl) ?_
     refine OS.split 205 rfl (fun hc3558 => ?_) (fun hc3558 => ?_)
     ·have ho3201 := ite_t ho3201 hc3558
      refine OS.pure 14 [(7, .bool true)] rfl (by kernel_rfl) ?_
      refine OS.fin rfl (QW.block_normal ?_)
      obtain rfl := inj ho3201
      exact QW.meet (fun a ha => ⟨true, rfl, ha.ag, hst.keep [] rfl⟩)
     have ho3201 := ite_f ho3201 hc3558
     refine OS.pure 1 [(206, .pointer (some ⟨b3542, 8, none⟩))] rfl (by kernel_rfl) ?_
     refine OS.ld rfl rfl rfl rfl rfl (by kernel_rfl) (hst.blk 1 rfl rfl) ?_
     refine OS.pure 1 [(208, .pointer (some ⟨b2824, 8, none⟩))] rfl (by kernel_rfl) ?_
     refine OS.ld rfl rfl rfl rfl rfl (by kernel_rfl) (hst.blk 0 rfl rfl) ?_
     refine OS.pure 3 [(212, .bool (x3536.Version != x2818.Version))] rfl (by kernel_rfl) ?_
     refine OS.split 212 rfl (fun hc3559 => ?_) (fun hc3559 => ?_)
     ·have ho3201 := ite_t ho3201 hc3559
      refine OS.pure 7 [(7, .bool true)] rfl (by kernel_rfl) ?_
      refine OS.fin rfl (QW.block_normal ?_)
      obtain rfl := inj ho3201
      exact QW.meet (fun a ha => ⟨true, rfl, ha.ag, hst.keep [] rfl⟩)
     have ho3201 := ite_f ho3201 hc3559
     refine OS.pure 1 [(213, .pointer (some ⟨b3542, 9, none⟩))] rfl (by kernel_rfl) ?_
     refine OS.ld rfl rfl rfl rfl rfl (by kernel_rfl) (hst.blk 1 rfl rfl) ?_
     refine OS.pure 1 [(215, .pointer (some ⟨b2824, 9, none⟩))] rfl (by kernel_rfl) ?_
     refine OS.ld rfl rfl rfl rfl rfl (by kernel_rfl) (hst.blk 0 rfl rfl) ?_
     refine OS.pure 3 [(7, .bool (x3536.Pc != x2818.Pc))] rfl (by kernel_rfl) ?_
     refine OS.fin rfl (QW.block_normal ?_)
     obtain rfl := inj ho3201
     exact QW.meet (fun a ha => ⟨(x3536.Pc != x2818.Pc), rfl, ha.ag, hst.keep [] rfl⟩)
    refine CW.skip (QW.block_normal ?_)
    obtain rfl := inj ho3201
    exact QW.meet (fun a ha => ⟨false, rfl, ha.ag, hst.keep [] rfl⟩)
   rintro a w1 ⟨t3202, rfl, ha, hst⟩
   refine CW.go ?_ ha
   refine rg ?_
   refine pu 1 [(219, .bool t3202)] (nx ?_)
   refine br (t3202) hl2804 (fun hl2804 hc3560 => ?_) (fun hl2804 hc3560 => ?_)
   ·refine rg ?_
    refine pu 2 [(2, I (i2806 : Int))] (nx (CW.ret (QW.block_ret (QW.then_ret (QW.then_ret (QW.block_ret (QW.then_ret ?_)))))))
    obtain rfl := inj hl2804
    obtain rfl := inj hF
    refine QW.ret1 rfl rfl ?_
    exact ⟨rfl, hst.keep [] rfl⟩
   refine CW.skip (QW.block_normal (QW.next (CW.region ?_)))
   refine pu 3 [(3, I (w64 ((i2806 : Int) + 1)))] (OW.nil rfl ?_)
   refine QW.say 3 rfl (congrArg (Value.int .i64) (w64_cnt hc2808 l1)) ?_
   exact QW.meet (fun a ha => ⟨n2803, Nat.lt_succ_self _, i2806 + 1, (), cnt_next hi2807, ha.ag, hst.keep [] rfl, hl2804⟩)
  rcases n2803 with _ | n2803
  ·refine CW.cond_f rfl hc2808 ?_
   refine CW.exit (QW.then_exit (QW.then_exit ?_))
   refine QW.block_here ?_
   obtain rfl := inj hl2804
   exact QW.meet (fun a ha => ⟨(), rfl, ha.ag, hst.keep [] rfl⟩)
  exact (cnt1 hi2807 hc2808).elim
 rintro a w1 ⟨t1783, rfl, ha, hst⟩
 refine CW.go ?_ ha
 refine rg ?_
 refine pu 1 [(2, I (-1))] (nx (CW.ret ?_))
 obtain rfl := inj hF
 refine QW.ret1 rfl rfl ?_
 exact ⟨rfl, hst.keep [] rfl⟩
theorem audit_Events_ok (w : World) (fu : Nat) (p0 : Int) (v1 : Value) (p1 : List api_Entry) (r : Int) (hF : audit_Events fu p0 p1 = some r)
    (hst : St w (fp []) w []) (h1 : Rd w (fp []) v1 enc_api_Entry 22 p1) :
    Calls Try.prog 12 [I p0, v1].toArray w (fun e w' => e = .returned (I r) ∧ St w (fp []) w' []) := by
 refine CW.start (N := 11) Try.func12 rfl rfl rfl ?_
 obtain ⟨l1, a2, c3, rfl⟩ := h1.len
 refine rg ?_
 refine pu 1 [] (nx (rg ?_))
 refine pu 2 [(5, .slice a2 (p1).length c3), (6, I p0)] ?_
 obtain ⟨r18, hr19, hF⟩ := bs hF
 refine OW.fn rfl rfl rfl rfl (by kernel_rfl) (audit_newEvents_ok _ p0 r18 hr19 (hst.part [] rfl)) ?_
 rintro e w20 ⟨v22, S23, rfl, hst21⟩
 refine ⟨_, rfl, ?_⟩
 have hst := hst.join (idx := []) (rest := []) rfl hst21
 obtain ⟨b24, rfl⟩ := hst.fptr 0 rfl
 have hst := hst.tag 67 0 rfl
 have hst := hst.ofL (sumP (tagP 69 R_t69) (tagP 71 R_t71) rfl rfl) rfl rfl 0 rfl
 have hst := hst.ofR (tagP 63 R_t63) rfl rfl 0 rfl
 have hst := hst.ofR (tagP 51 R_t51) rfl rfl 0 rfl
 refine OW.op (v := .iface 67 (Pt b24)) rfl rfl rfl rfl (fun a ha => mkif_run rfl rfl (by kernel_rfl) a _ ha) ?_
 refine OW.row (α := List Value) (e := 78) (enc := fit 1) (sz := 1) hst rfl rfl rfl [[.iface 67 (Pt b24)]] rfl (fun _ => fit_len _ _) rfl rfl (fun _ => by kernel_rfl) ?_
 intro g25 w26 hst
 have hst := hst.bchOne (R := R_t78) 0 rfl
 have hst := hst.keep [0, 1] rfl
 have hst : St _ _ _ [bchI R_t78 [[.iface 67 (Pt b24)]] _ [(.inr (.inr (.inl r18)))], _] := hst
 obtain ⟨S27, hst⟩ := hst.nOf 1 0 rfl rfl rfl rfl
 have hst := hst.keep [1] rfl
 have hst : St _ _ _ [nI 78 R_t78 (.slice (some ⟨g25, 0, none⟩) 1 1) S27 ([(.inr (.inr (.inl r18)))]) none] := hst
 obtain ⟨r28, hr29, hF⟩ := bs hF
 refine OW.fn rfl rfl rfl rfl (by kernel_rfl) (audit_first_ok _ fu (.slice a2 (p1).length c3) p1 (.slice (some ⟨g25, 0, none⟩) 1 1) S27 ([(.inr (.inr (.inl r18)))]) r28 hr29 (hst.part [0] rfl) (h1.give hst [0])) ?_
 rintro e w30 ⟨rfl, hst31⟩
 refine ⟨_, rfl, ?_⟩
 have hst := hst.join (idx := [0]) (rest := []) rfl hst31
 refine pu 1 [(4, I r28)] (nx (CW.ret ?_))
 obtain rfl := inj hF
 refine QW.ret1 rfl rfl ?_
 exact ⟨rfl, hst.keep [] rfl⟩
end Go.Proofs.Ytpchniebplpboaa

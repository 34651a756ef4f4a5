/- Written by a program (wip/gen): the walks: each Go function returns what its plain function computes. -/
import Derived.Test.YtalllncanpcmfaaDoorProg
import Derived.Test.YtalllncanpcmfaaDoorF1
import Derived.Test.YtalllncanpcmfaaDoorOpen
import Derived.Test.YtalllncanpcmfaaDoorPart
import Derived.Test.YtalllncanpcmfaaDoorExt
import Derived.Test.YtalllncanpcmfaaDoorSh
import Derived.Test.YtalllncanpcmfaaDoorBld
import Derived.Test.YtalllncanpcmfaaDoorO1
namespace Go.Proofs.YtalllncanpcmfaaDoor
open Go.Sx
set_option linter.unusedVariables false

theorem el46 : Elem Tryd.prog 46 22 176 := Elem.of (i := Tryd.t46) (by kernel_rfl) (by kernel_rfl) (by kernel_rfl) (by kernel_rfl) (by kernel_rfl) (by decide) (by decide)

theorem el9 : Elem Tryd.prog 9 1 16 := Elem.of (i := Tryd.t9) (by kernel_rfl) (by kernel_rfl) (by kernel_rfl) (by kernel_rfl) (by kernel_rfl) (by decide) (by decide)

theorem el5 : Elem Tryd.prog 5 1 1 := Elem.of (i := Tryd.t5) (by kernel_rfl) (by kernel_rfl) (by kernel_rfl) (by kernel_rfl) (by kernel_rfl) (by decide) (by decide)

theorem el36 : Elem Tryd.prog 36 1 8 := Elem.of (i := Tryd.t36) (by kernel_rfl) (by kernel_rfl) (by kernel_rfl) (by kernel_rfl) (by kernel_rfl) (by decide) (by decide)

theorem el3 : Elem Tryd.prog 3 1 8 := Elem.of (i := Tryd.t3) (by kernel_rfl) (by kernel_rfl) (by kernel_rfl) (by kernel_rfl) (by kernel_rfl) (by decide) (by decide)

set_option maxRecDepth 10000 in
set_option maxHeartbeats 4000000 in
theorem slices_Index_tappet_api_Mark_tappet_api_Mark_ok (w : World) (v0 : Value) (p0 : List Int) (p1 : Int) (r : Int) (hF : slices_Index_tappet_api_Mark_tappet_api_Mark p0 p1 = some r)
    (hst : St w (fp []) w []) (h0 : Rd w (fp []) v0 (encInt .i64) 1 p0) :
    Calls Tryd.prog 49 [v0, .int .i64 p1].toArray w (fun e w' => e = .returned (.int .i64 r) ∧ St w (fp []) w' []) := by
 refine CW.start (N := 19) Tryd.func49 rfl rfl rfl ?_
 obtain ⟨l1, a2, c3, rfl⟩ := h0.len
 refine CW.seq ?_
 refine CW.region ?_
 refine OW.pure 1 [] (by kernel_rfl) ?_
 refine OW.nil rfl ?_
 refine QW.next ?_
 refine CW.seq ?_
 refine CW.seq ?_
 refine CW.region ?_
 refine OW.pure 3 [(7, .int .i64 ((p0).length : Int)), (8, .int .i64 0)] (by kernel_rfl) ?_
 refine OW.nil rfl ?_
 refine QW.next ?_
 obtain ⟨o52, ho53, hF⟩ := bind_some' hF
 refine CW.cutK (fun a w1 => ∃ (t54 : Unit), o52 = .inl t54 ∧ Rep 19 [] a ∧ St w (fp []) w1 []) ?_ ?_
 ·refine CW.block ?_
  refine CW.loop (fun n a w1 => ∃ (i87 : Nat) (s86 : Unit), i87 + n = (p0).length ∧ Rep 19 [(0, .slice a2 (p0).length c3), (1, .int .i64 p1), (7, .int .i64 ((p0).length : Int)), (8, .int .i64 (i87 : Int))] a ∧ St w (fp []) w1 [] ∧ forN (slices_Index_tappet_api_Mark_tappet_api_Mark_l1 p0 p1) (fun (s86 : Unit) => (.inl ())) n i87 s86 = some o52) (p0).length (fun a ha => ⟨0, (), Nat.zero_add _, ha.agrees (by kernel_rfl), hst.keep [] rfl, ho53⟩) ?_
  rintro n84 a w1 ⟨i87, s86, hi88, ha, hst, hl85⟩
  refine CW.go ?_ ha
  refine CW.seq ?_
  refine CW.region ?_
  refine OW.pure 1 [(9, .bool (decide ((i87 : Int) < ((p0).length : Int))))] (by kernel_rfl) ?_
  refine OW.nil rfl ?_
  refine QW.next ?_
  refine CW.seq ?_
  rcases Bool.eq_false_or_eq_true (decide ((i87 : Int) < ((p0).length : Int))) with hc89 | hc89
  ·rcases n84 with _ | n84
   ·exact (cnt0 hi88 hc89).elim
   refine CW.cond_t rfl hc89 ?_
   refine CW.skip ?_
   refine QW.next ?_
   refine CW.seq ?_
   refine CW.block ?_
   refine CW.seq ?_
   refine CW.region ?_
   refine OW.pure 2 [(5, .int .i64 (i87 : Int))] (by kernel_rfl) ?_
   refine OW.nil rfl ?_
   refine QW.next ?_
   refine CW.seq ?_
   refine CW.region ?_
   refine OW.pure 3 [(11, .int .i64 p1), (12, .slice a2 (p0).length c3), (13, .int .i64 (i87 : Int))] (by kernel_rfl) ?_
   obtain ⟨x96, hx97, hl85⟩ := bind_some' hl85
   obtain ⟨g99, o100, c101, hv98⟩ := h0.formv (fun _ => ⟨_, rfl⟩) hx97
   refine OW.idx 36 1 rfl rfl rfl rfl hv98 rfl (idx_some hx97).1 (idx_some hx97).2.1 (by kernel_rfl) (by kernel_rfl) ?_
   refine OW.ld rfl rfl rfl rfl (by kernel_rfl) (h0.cellv hst hx97 hv98 0 _ rfl) ?_
   refine OW.pure 1 [(16, .bool (p1 == x96))] (by kernel_rfl) ?_
   refine OW.nil rfl ?_
   refine QW.next ?_
   rcases Bool.eq_false_or_eq_true ((p1 == x96)) with hc102 | hc102
   ·have hl85 := ite_t hl85 hc102
    refine CW.cond_t rfl hc102 ?_
    refine CW.seq ?_
    refine CW.region ?_
    refine OW.pure 2 [(4, .int .i64 (i87 : Int))] (by kernel_rfl) ?_
    refine OW.nil rfl ?_
    refine QW.next ?_
    refine CW.ret ?_
    refine QW.block_ret ?_
    refine QW.then_ret ?_
    refine QW.then_ret ?_
    refine QW.block_ret ?_
    refine QW.then_ret ?_
    obtain rfl := Option.some.inj hl85
    obtain rfl := Option.some.inj hF
    refine QW.ret1 rfl rfl ?_
    exact ⟨rfl, hst.keep [] rfl⟩
   ·have hl85 := ite_f hl85 hc102
    refine CW.cond_f rfl hc102 ?_
    refine CW.skip ?_
    refine QW.block_normal ?_
    refine QW.next ?_
    refine CW.region ?_
    refine OW.pure 2 [(8, .int .i64 (w64 ((i87 : Int) + 1)))] (by kernel_rfl) ?_
    refine OW.nil rfl ?_
    refine QW.say 8 rfl (congrArg (Value.int .i64) (w64_cnt hc89 l1)) ?_
    exact QW.meet (fun a ha => ⟨n84, Nat.lt_succ_self _, i87 + 1, (), cnt_next hi88, ha.agrees (by kernel_rfl), hst.keep [] rfl, hl85⟩)
  ·rcases n84 with _ | n84
   ·refine CW.cond_f rfl hc89 ?_
    refine CW.exit ?_
    refine QW.then_exit ?_
    refine QW.then_exit ?_
    refine QW.block_here ?_
    obtain rfl := Option.some.inj hl85
    exact QW.meet (fun a ha => ⟨(), rfl, ha.agrees (by kernel_rfl), hst.keep [] rfl⟩)
   ·exact (cnt1 hi88 hc89).elim
 ·rintro a w1 ⟨t54, rfl, ha, hst⟩
  refine CW.go ?_ ha
  refine CW.seq ?_
  refine CW.region ?_
  refine OW.pure 1 [(4, .int .i64 (-1))] (by kernel_rfl) ?_
  refine OW.nil rfl ?_
  refine QW.next ?_
  refine CW.ret ?_
  obtain rfl := Option.some.inj hF
  refine QW.ret1 rfl rfl ?_
  exact ⟨rfl, hst.keep [] rfl⟩

set_option maxRecDepth 10000 in
set_option maxHeartbeats 4000000 in
theorem slices_Contains_tappet_api_Mark_tappet_api_Mark_ok (w : World) (v0 : Value) (p0 : List Int) (p1 : Int) (r : Bool) (hF : slices_Contains_tappet_api_Mark_tappet_api_Mark p0 p1 = some r)
    (hst : St w (fp []) w []) (h0 : Rd w (fp []) v0 (encInt .i64) 1 p0) :
    Calls Tryd.prog 35 [v0, .int .i64 p1].toArray w (fun e w' => e = .returned (.bool r) ∧ St w (fp []) w' []) := by
 refine CW.start (N := 9) Tryd.func35 rfl rfl rfl ?_
 obtain ⟨l1, a2, c3, rfl⟩ := h0.len
 refine CW.seq ?_
 refine CW.region ?_
 refine OW.pure 1 [] (by kernel_rfl) ?_
 refine OW.nil rfl ?_
 refine QW.next ?_
 refine CW.seq ?_
 refine CW.region ?_
 refine OW.pure 2 [(5, .slice a2 (p0).length c3), (6, .int .i64 p1)] (by kernel_rfl) ?_
 obtain ⟨r8, hr9, hF⟩ := bind_some' hF
 refine OW.fn rfl rfl rfl rfl (by kernel_rfl) (slices_Index_tappet_api_Mark_tappet_api_Mark_ok _ (.slice a2 (p0).length c3) p0 p1 r8 hr9 (hst.part [] rfl) (h0.give hst [])) ?_
 rintro e w10 ⟨rfl, hst11⟩
 refine ⟨_, rfl, ?_⟩
 have hst := hst.join (idx := []) (rest := []) rfl hst11
 refine OW.pure 2 [(4, .bool (decide (r8 ≥ 0)))] (by kernel_rfl) ?_
 refine OW.nil rfl ?_
 refine QW.next ?_
 refine CW.ret ?_
 obtain rfl := Option.some.inj hF
 refine QW.ret1 rfl rfl ?_
 exact ⟨rfl, hst.keep [] rfl⟩

set_option maxRecDepth 10000 in
set_option maxHeartbeats 4000000 in
theorem trace_Only_1_ok (w : World) (p0 : api_Entry) (c1 : Nat) (v1 : Value) (p1 : List Int) (r : Bool) (hF : trace_Only_1 p0 p1 = some r)
    (hst : St w (fp []) w []) (h1 : Rd w (fp []) v1 (encInt .i64) 1 p1) (hc1 : RdB w (fp []) c1 [v1]) :
    Calls Tryd.prog 34 [.agg [.int .i64 p0.What, .int .i64 p0.Task, .int .i64 p0.From, .int .i64 p0.Cmd, .int .i64 p0.Tag, .int .i64 p0.Event, .int .i64 p0.Hook, .int .i64 p0.Prog, .int .i64 p0.Version, .int .i64 p0.Pc, .int .i64 p0.Item.Map, .int .i64 p0.Item.Op, .int .u64 p0.Item.Key, .int .u64 p0.Item.Val, .int .i64 p0.Res.E, .bool p0.Res.Found, .int .u64 p0.Res.Val, .bool p0.Res.Out, .int .u64 p0.Res.OutKey, .int .u64 p0.Res.OutVal, .int .u64 p0.Val, .int .i64 p0.E].toArray, .pointer (some ⟨c1, 0, none⟩)].toArray w (fun e w' => e = .returned (.bool r) ∧ St w (fp []) w' []) := by
 refine CW.start (N := 8) Tryd.func34 rfl rfl rfl ?_
 obtain ⟨l1, a2, c3, rfl⟩ := h1.len
 refine CW.seq ?_
 refine CW.region ?_
 refine OW.box hst rfl rfl rfl rfl [.int .i64 p0.What, .int .i64 p0.Task, .int .i64 p0.From, .int .i64 p0.Cmd, .int .i64 p0.Tag, .int .i64 p0.Event, .int .i64 p0.Hook, .int .i64 p0.Prog, .int .i64 p0.Version, .int .i64 p0.Pc, .int .i64 p0.Item.Map, .int .i64 p0.Item.Op, .int .u64 p0.Item.Key, .int .u64 p0.Item.Val, .int .i64 p0.Res.E, .bool p0.Res.Found, .int .u64 p0.Res.Val, .bool p0.Res.Out, .int .u64 p0.Res.OutKey, .int .u64 p0.Res.OutVal, .int .u64 p0.Val, .int .i64 p0.E] rfl ?_
 intro b6 w7 hst
 refine OW.pure 1 [] (by kernel_rfl) ?_
 refine OW.nil rfl ?_
 refine QW.next ?_
 refine CW.seq ?_
 refine CW.region ?_
 refine OW.ld rfl rfl rfl rfl (by kernel_rfl) (hc1.cell hst 0 rfl) ?_
 refine OW.pure 1 [(5, .pointer (some ⟨b6, 0, none⟩))] (by kernel_rfl) ?_
 refine OW.ld rfl rfl rfl rfl (by kernel_rfl) (hst.blk 0 rfl rfl) ?_
 obtain ⟨r12, hr13, hF⟩ := bind_some' hF
 refine OW.fn rfl rfl rfl rfl (by kernel_rfl) (slices_Contains_tappet_api_Mark_tappet_api_Mark_ok _ (.slice a2 (p1).length c3) p1 p0.What r12 hr13 (hst.part [] rfl) (h1.give hst [])) ?_
 rintro e w14 ⟨rfl, hst15⟩
 refine ⟨_, rfl, ?_⟩
 have hst := hst.join (idx := []) (rest := [0]) rfl hst15
 refine OW.pure 1 [(3, .bool r12)] (by kernel_rfl) ?_
 refine OW.nil rfl ?_
 refine QW.next ?_
 refine CW.ret ?_
 obtain rfl := Option.some.inj hF
 refine QW.ret1 rfl rfl ?_
 exact ⟨rfl, hst.keep [] rfl⟩

set_option maxRecDepth 10000 in
set_option maxHeartbeats 4000000 in
theorem slices_Index_int_int_ok (w : World) (v0 : Value) (p0 : List Int) (p1 : Int) (r : Int) (hF : slices_Index_int_int p0 p1 = some r)
    (hst : St w (fp []) w []) (h0 : Rd w (fp []) v0 (encInt .i64) 1 p0) :
    Calls Tryd.prog 50 [v0, .int .i64 p1].toArray w (fun e w' => e = .returned (.int .i64 r) ∧ St w (fp []) w' []) := by
 refine CW.start (N := 19) Tryd.func50 rfl rfl rfl ?_
 obtain ⟨l1, a2, c3, rfl⟩ := h0.len
 refine CW.seq ?_
 refine CW.region ?_
 refine OW.pure 1 [] (by kernel_rfl) ?_
 refine OW.nil rfl ?_
 refine QW.next ?_
 refine CW.seq ?_
 refine CW.seq ?_
 refine CW.region ?_
 refine OW.pure 3 [(7, .int .i64 ((p0).length : Int)), (8, .int .i64 0)] (by kernel_rfl) ?_
 refine OW.nil rfl ?_
 refine QW.next ?_
 obtain ⟨o52, ho53, hF⟩ := bind_some' hF
 refine CW.cutK (fun a w1 => ∃ (t54 : Unit), o52 = .inl t54 ∧ Rep 19 [] a ∧ St w (fp []) w1 []) ?_ ?_
 ·refine CW.block ?_
  refine CW.loop (fun n a w1 => ∃ (i87 : Nat) (s86 : Unit), i87 + n = (p0).length ∧ Rep 19 [(0, .slice a2 (p0).length c3), (1, .int .i64 p1), (7, .int .i64 ((p0).length : Int)), (8, .int .i64 (i87 : Int))] a ∧ St w (fp []) w1 [] ∧ forN (slices_Index_int_int_l1 p0 p1) (fun (s86 : Unit) => (.inl ())) n i87 s86 = some o52) (p0).length (fun a ha => ⟨0, (), Nat.zero_add _, ha.agrees (by kernel_rfl), hst.keep [] rfl, ho53⟩) ?_
  rintro n84 a w1 ⟨i87, s86, hi88, ha, hst, hl85⟩
  refine CW.go ?_ ha
  refine CW.seq ?_
  refine CW.region ?_
  refine OW.pure 1 [(9, .bool (decide ((i87 : Int) < ((p0).length : Int))))] (by kernel_rfl) ?_
  refine OW.nil rfl ?_
  refine QW.next ?_
  refine CW.seq ?_
  rcases Bool.eq_false_or_eq_true (decide ((i87 : Int) < ((p0).length : Int))) with hc89 | hc89
  ·rcases n84 with _ | n84
   ·exact (cnt0 hi88 hc89).elim
   refine CW.cond_t rfl hc89 ?_
   refine CW.skip ?_
   refine QW.next ?_
   refine CW.seq ?_
   refine CW.block ?_
   refine CW.seq ?_
   refine CW.region ?_
   refine OW.pure 2 [(5, .int .i64 (i87 : Int))] (by kernel_rfl) ?_
   refine OW.nil rfl ?_
   refine QW.next ?_
   refine CW.seq ?_
   refine CW.region ?_
   refine OW.pure 3 [(11, .int .i64 p1), (12, .slice a2 (p0).length c3), (13, .int .i64 (i87 : Int))] (by kernel_rfl) ?_
   obtain ⟨x96, hx97, hl85⟩ := bind_some' hl85
   obtain ⟨g99, o100, c101, hv98⟩ := h0.formv (fun _ => ⟨_, rfl⟩) hx97
   refine OW.idx 3 1 rfl rfl rfl rfl hv98 rfl (idx_some hx97).1 (idx_some hx97).2.1 (by kernel_rfl) (by kernel_rfl) ?_
   refine OW.ld rfl rfl rfl rfl (by kernel_rfl) (h0.cellv hst hx97 hv98 0 _ rfl) ?_
   refine OW.pure 1 [(16, .bool (p1 == x96))] (by kernel_rfl) ?_
   refine OW.nil rfl ?_
   refine QW.next ?_
   rcases Bool.eq_false_or_eq_true ((p1 == x96)) with hc102 | hc102
   ·have hl85 := ite_t hl85 hc102
    refine CW.cond_t rfl hc102 ?_
    refine CW.seq ?_
    refine CW.region ?_
    refine OW.pure 2 [(4, .int .i64 (i87 : Int))] (by kernel_rfl) ?_
    refine OW.nil rfl ?_
    refine QW.next ?_
    refine CW.ret ?_
    refine QW.block_ret ?_
    refine QW.then_ret ?_
    refine QW.then_ret ?_
    refine QW.block_ret ?_
    refine QW.then_ret ?_
    obtain rfl := Option.some.inj hl85
    obtain rfl := Option.some.inj hF
    refine QW.ret1 rfl rfl ?_
    exact ⟨rfl, hst.keep [] rfl⟩
   ·have hl85 := ite_f hl85 hc102
    refine CW.cond_f rfl hc102 ?_
    refine CW.skip ?_
    refine QW.block_normal ?_
    refine QW.next ?_
    refine CW.region ?_
    refine OW.pure 2 [(8, .int .i64 (w64 ((i87 : Int) + 1)))] (by kernel_rfl) ?_
    refine OW.nil rfl ?_
    refine QW.say 8 rfl (congrArg (Value.int .i64) (w64_cnt hc89 l1)) ?_
    exact QW.meet (fun a ha => ⟨n84, Nat.lt_succ_self _, i87 + 1, (), cnt_next hi88, ha.agrees (by kernel_rfl), hst.keep [] rfl, hl85⟩)
  ·rcases n84 with _ | n84
   ·refine CW.cond_f rfl hc89 ?_
    refine CW.exit ?_
    refine QW.then_exit ?_
    refine QW.then_exit ?_
    refine QW.block_here ?_
    obtain rfl := Option.some.inj hl85
    exact QW.meet (fun a ha => ⟨(), rfl, ha.agrees (by kernel_rfl), hst.keep [] rfl⟩)
   ·exact (cnt1 hi88 hc89).elim
 ·rintro a w1 ⟨t54, rfl, ha, hst⟩
  refine CW.go ?_ ha
  refine CW.seq ?_
  refine CW.region ?_
  refine OW.pure 1 [(4, .int .i64 (-1))] (by kernel_rfl) ?_
  refine OW.nil rfl ?_
  refine QW.next ?_
  refine CW.ret ?_
  obtain rfl := Option.some.inj hF
  refine QW.ret1 rfl rfl ?_
  exact ⟨rfl, hst.keep [] rfl⟩

set_option maxRecDepth 10000 in
set_option maxHeartbeats 4000000 in
theorem slices_Contains_int_int_ok (w : World) (v0 : Value) (p0 : List Int) (p1 : Int) (r : Bool) (hF : slices_Contains_int_int p0 p1 = some r)
    (hst : St w (fp []) w []) (h0 : Rd w (fp []) v0 (encInt .i64) 1 p0) :
    Calls Tryd.prog 37 [v0, .int .i64 p1].toArray w (fun e w' => e = .returned (.bool r) ∧ St w (fp []) w' []) := by
 refine CW.start (N := 9) Tryd.func37 rfl rfl rfl ?_
 obtain ⟨l1, a2, c3, rfl⟩ := h0.len
 refine CW.seq ?_
 refine CW.region ?_
 refine OW.pure 1 [] (by kernel_rfl) ?_
 refine OW.nil rfl ?_
 refine QW.next ?_
 refine CW.seq ?_
 refine CW.region ?_
 refine OW.pure 2 [(5, .slice a2 (p0).length c3), (6, .int .i64 p1)] (by kernel_rfl) ?_
 obtain ⟨r8, hr9, hF⟩ := bind_some' hF
 refine OW.fn rfl rfl rfl rfl (by kernel_rfl) (slices_Index_int_int_ok _ (.slice a2 (p0).length c3) p0 p1 r8 hr9 (hst.part [] rfl) (h0.give hst [])) ?_
 rintro e w10 ⟨rfl, hst11⟩
 refine ⟨_, rfl, ?_⟩
 have hst := hst.join (idx := []) (rest := []) rfl hst11
 refine OW.pure 2 [(4, .bool (decide (r8 ≥ 0)))] (by kernel_rfl) ?_
 refine OW.nil rfl ?_
 refine QW.next ?_
 refine CW.ret ?_
 obtain rfl := Option.some.inj hF
 refine QW.ret1 rfl rfl ?_
 exact ⟨rfl, hst.keep [] rfl⟩

set_option maxRecDepth 10000 in
set_option maxHeartbeats 4000000 in
theorem trace_Of_1_ok (w : World) (p0 : api_Entry) (c1 : Nat) (v1 : Value) (p1 : List Int) (r : Bool) (hF : trace_Of_1 p0 p1 = some r)
    (hst : St w (fp []) w []) (h1 : Rd w (fp []) v1 (encInt .i64) 1 p1) (hc1 : RdB w (fp []) c1 [v1]) :
    Calls Tryd.prog 36 [.agg [.int .i64 p0.What, .int .i64 p0.Task, .int .i64 p0.From, .int .i64 p0.Cmd, .int .i64 p0.Tag, .int .i64 p0.Event, .int .i64 p0.Hook, .int .i64 p0.Prog, .int .i64 p0.Version, .int .i64 p0.Pc, .int .i64 p0.Item.Map, .int .i64 p0.Item.Op, .int .u64 p0.Item.Key, .int .u64 p0.Item.Val, .int .i64 p0.Res.E, .bool p0.Res.Found, .int .u64 p0.Res.Val, .bool p0.Res.Out, .int .u64 p0.Res.OutKey, .int .u64 p0.Res.OutVal, .int .u64 p0.Val, .int .i64 p0.E].toArray, .pointer (some ⟨c1, 0, none⟩)].toArray w (fun e w' => e = .returned (.bool r) ∧ St w (fp []) w' []) := by
 refine CW.start (N := 8) Tryd.func36 rfl rfl rfl ?_
 obtain ⟨l1, a2, c3, rfl⟩ := h1.len
 refine CW.seq ?_
 refine CW.region ?_
 refine OW.box hst rfl rfl rfl rfl [.int .i64 p0.What, .int .i64 p0.Task, .int .i64 p0.From, .int .i64 p0.Cmd, .int .i64 p0.Tag, .int .i64 p0.Event, .int .i64 p0.Hook, .int .i64 p0.Prog, .int .i64 p0.Version, .int .i64 p0.Pc, .int .i64 p0.Item.Map, .int .i64 p0.Item.Op, .int .u64 p0.Item.Key, .int .u64 p0.Item.Val, .int .i64 p0.Res.E, .bool p0.Res.Found, .int .u64 p0.Res.Val, .bool p0.Res.Out, .int .u64 p0.Res.OutKey, .int .u64 p0.Res.OutVal, .int .u64 p0.Val, .int .i64 p0.E] rfl ?_
 intro b6 w7 hst
 refine OW.pure 1 [] (by kernel_rfl) ?_
 refine OW.nil rfl ?_
 refine QW.next ?_
 refine CW.seq ?_
 refine CW.region ?_
 refine OW.ld rfl rfl rfl rfl (by kernel_rfl) (hc1.cell hst 0 rfl) ?_
 refine OW.pure 1 [(5, .pointer (some ⟨b6, 1, none⟩))] (by kernel_rfl) ?_
 refine OW.ld rfl rfl rfl rfl (by kernel_rfl) (hst.blk 0 rfl rfl) ?_
 obtain ⟨r12, hr13, hF⟩ := bind_some' hF
 refine OW.fn rfl rfl rfl rfl (by kernel_rfl) (slices_Contains_int_int_ok _ (.slice a2 (p1).length c3) p1 p0.Task r12 hr13 (hst.part [] rfl) (h1.give hst [])) ?_
 rintro e w14 ⟨rfl, hst15⟩
 refine ⟨_, rfl, ?_⟩
 have hst := hst.join (idx := []) (rest := [0]) rfl hst15
 refine OW.pure 1 [(3, .bool r12)] (by kernel_rfl) ?_
 refine OW.nil rfl ?_
 refine QW.next ?_
 refine CW.ret ?_
 obtain rfl := Option.some.inj hF
 refine QW.ret1 rfl rfl ?_
 exact ⟨rfl, hst.keep [] rfl⟩

set_option maxRecDepth 10000 in
set_option maxHeartbeats 4000000 in
theorem trace_of_ok (w : World) (p0 : Int) (r : trace_form × Bool) (hF : trace_of p0 = some r)
    (hst : St w (fp []) w []) (hT0 : Rd w (fp []) (.slice (some ⟨0, 0, none⟩) 18 18) enc_trace_form 2 tab_g0) :
    Calls Tryd.prog 27 [.int .i64 p0].toArray w (fun e w' => e = .returned (.tuple #[.agg [.string r.1.name, .string r.1.fields].toArray, .bool r.2]) ∧ St w (fp []) w' []) := by
 refine CW.start (N := 14) Tryd.func27 rfl rfl rfl ?_
 refine CW.seq ?_
 refine CW.region ?_
 refine OW.alloc hst rfl rfl rfl [.string ByteArray.empty, .string ByteArray.empty] (by kernel_rfl) ?_
 intro b3 w4 hst
 refine OW.pure 1 [] (by kernel_rfl) ?_
 refine OW.nil rfl ?_
 refine QW.next ?_
 refine CW.seq ?_
 refine CW.seq ?_
 refine CW.cutK (fun a w1 => Rep 14 [(0, .int .i64 p0), (2, .pointer (some ⟨b3, 0, none⟩)), (9, .bool (decide (p0 < 1) || decide (p0 ≥ 18)))] a ∧ St w (fp []) w1 [blkI b3 70 [.string ByteArray.empty, .string ByteArray.empty]]) ?_ ?_
 ·refine CW.region ?_
  refine OW.pure 3 [(6, .bool (decide (p0 < 1)))] (by kernel_rfl) ?_
  refine OW.split 6 rfl (fun hc5 => ?_) (fun hc5 => ?_)
  ·refine OW.pure 3 [(9, .bool true)] (by kernel_rfl) ?_
   refine OW.nil rfl ?_
   refine QW.say 9 (v := .bool (decide (p0 < 1) || decide (p0 ≥ 18))) rfl (by first | (rw [hc5]; done) | (rw [hc5]; rfl) | simp [hc5]) ?_
   exact QW.meet (fun a ha => ⟨ha.agrees (by kernel_rfl), hst.keep [0] rfl⟩)
  ·refine OW.pure 3 [(9, .bool (decide (p0 ≥ 18)))] (by kernel_rfl) ?_
   refine OW.nil rfl ?_
   refine QW.say 9 (v := .bool (decide (p0 < 1) || decide (p0 ≥ 18))) rfl (by first | (rw [hc5]; done) | (rw [hc5]; rfl) | simp [hc5]) ?_
   exact QW.meet (fun a ha => ⟨ha.agrees (by kernel_rfl), hst.keep [0] rfl⟩)
 ·rintro a w1 ⟨ha, hst⟩
  refine CW.go ?_ ha
  rcases Bool.eq_false_or_eq_true ((decide (p0 < 1) || decide (p0 ≥ 18))) with hc6 | hc6
  ·have hF := ite_t hF hc6
   refine CW.cond_t rfl hc6 ?_
   refine CW.seq ?_
   refine CW.region ?_
   refine OW.pure 1 [(10, .agg [.string ByteArray.empty, .string ByteArray.empty].toArray)] (by kernel_rfl) ?_
   refine OW.stB hst 0 rfl rfl rfl rfl rfl (by kernel_rfl) rfl rfl [.string ByteArray.empty, .string ByteArray.empty] rfl ?_
   intro w8 hst
   refine OW.pure 1 [(3, .bool false)] (by kernel_rfl) ?_
   refine OW.nil rfl ?_
   refine QW.next ?_
   refine CW.ret ?_
   refine QW.then_ret ?_
   obtain rfl := Option.some.inj hF
   refine QW.ret_ct rfl rfl (run_loadN (cs := [.string ByteArray.empty, .string ByteArray.empty]) (by kernel_rfl) (by kernel_rfl) (hst.blkN 0 rfl 0 2)) rfl ?_
   exact ⟨rfl, hst.keep [] rfl⟩
  ·have hF := ite_f hF hc6
   refine CW.cond_f rfl hc6 ?_
   refine CW.skip ?_
   refine QW.next ?_
   refine CW.seq ?_
   refine CW.region ?_
   refine OW.pure 1 [(11, .int .i64 p0)] (by kernel_rfl) ?_
   obtain ⟨x12, hx13, hF⟩ := bind_some' hF
   refine OW.op (v := .pointer (some ⟨0, 0 + Int.toNat p0 * 2, none⟩)) rfl rfl rfl rfl (fun a ha => aidx_run (n := tab_g0.length) 70 2 rfl rfl rfl (idx_some hx13).1 (idx_some hx13).2.1 (by kernel_rfl) (by kernel_rfl) a _ ha) ?_
   refine OW.ldN (cs := enc_trace_form x12) rfl rfl rfl rfl (by kernel_rfl) (by kernel_rfl) (hT0.cellv hst hx13 (show Value.slice (some ⟨0, 0, none⟩) 18 18 = .slice (some ⟨0, 0, none⟩) tab_g0.length 18 from rfl)) ?_
   refine OW.stB hst 0 rfl rfl rfl rfl rfl (by kernel_rfl) rfl rfl [.string x12.name, .string x12.fields] rfl ?_
   intro w14 hst
   refine OW.pure 1 [(3, .bool true)] (by kernel_rfl) ?_
   refine OW.nil rfl ?_
   refine QW.next ?_
   refine CW.ret ?_
   obtain rfl := Option.some.inj hF
   refine QW.ret_ct rfl rfl (run_loadN (cs := [.string x12.name, .string x12.fields]) (by kernel_rfl) (by kernel_rfl) (hst.blkN 0 rfl 0 2)) rfl ?_
   exact ⟨rfl, hst.keep [] rfl⟩

theorem strings_ReplaceAll_ok (w : World) (p0 p1 p2 : ByteArray) (r : ByteArray) (hF : strings_ReplaceAll p0 p1 p2 = some r) (hst : St w (fp []) w []) (hTL : LibG Tryd.prog 4 1 2 3 w (fp [])) :
    Calls Tryd.prog 53 [.string p0, .string p1, .string p2].toArray w (fun e w' => e = .returned (.string r) ∧ St w (fp []) w' []) :=
  hTL.max.elim fun _ hm => replace_ok Tryd.strings_ReplaceAll hF hm

set_option maxRecDepth 10000 in
set_option maxHeartbeats 4000000 in
theorem trace_letters_ok (w : World) (p0 : trace_form) (p1 : Bool) (r : ByteArray) (hF : trace_letters p0 p1 = some r)
    (hst : St w (fp []) w []) (hTL : LibG Tryd.prog 4 1 2 3 w (fp [])) :
    Calls Tryd.prog 41 [.agg [.string p0.name, .string p0.fields].toArray, .bool p1].toArray w (fun e w' => e = .returned (.string r) ∧ St w (fp []) w' []) := by
 refine CW.start (N := 14) Tryd.func41 rfl rfl rfl ?_
 refine CW.seq ?_
 refine CW.region ?_
 refine OW.box hst rfl rfl rfl rfl [.string p0.name, .string p0.fields] rfl ?_
 intro b3 w4 hst
 refine OW.pure 1 [] (by kernel_rfl) ?_
 refine OW.nil rfl ?_
 refine QW.next ?_
 refine CW.seq ?_
 refine CW.region ?_
 refine OW.pure 1 [(6, .pointer (some ⟨b3, 1, none⟩))] (by kernel_rfl) ?_
 refine OW.ld rfl rfl rfl rfl (by kernel_rfl) (hst.blk 0 rfl rfl) ?_
 obtain ⟨r9, hr10, hF⟩ := bind_some' hF
 refine OW.fn rfl rfl rfl rfl (by kernel_rfl) (strings_ReplaceAll_ok _ p0.fields (⟨[73].toArray⟩) (⟨[109, 111, 107, 119].toArray⟩) r9 hr10 (hst.part [] rfl) (hTL.give hst [])) ?_
 rintro e w11 ⟨rfl, hst12⟩
 refine ⟨_, rfl, ?_⟩
 have hst := hst.join (idx := []) (rest := [0]) rfl hst12
 refine OW.pure 1 [(5, .string r9)] (by kernel_rfl) ?_
 refine OW.nil rfl ?_
 refine QW.next ?_
 refine CW.seq ?_
 refine CW.seq ?_
 refine CW.region ?_
 refine OW.pure 1 [(9, .bool p1)] (by kernel_rfl) ?_
 refine OW.nil rfl ?_
 refine QW.next ?_
 rcases Bool.eq_false_or_eq_true (p1) with hc13 | hc13
 ·have hF := ite_t hF hc13
  refine CW.cond_t rfl hc13 ?_
  refine CW.seq ?_
  refine CW.region ?_
  refine OW.pure 1 [(10, .string r9)] (by kernel_rfl) ?_
  obtain ⟨r18, hr19, hF⟩ := bind_some' hF
  refine OW.fn rfl rfl rfl rfl (by kernel_rfl) (strings_ReplaceAll_ok _ r9 (⟨[82].toArray⟩) (⟨[121, 98, 114, 79, 86].toArray⟩) r18 hr19 (hst.part [] rfl) (hTL.give hst [])) ?_
  rintro e w20 ⟨rfl, hst21⟩
  refine ⟨_, rfl, ?_⟩
  have hst := hst.join (idx := []) (rest := [0]) rfl hst21
  refine OW.pure 1 [(4, .string r18)] (by kernel_rfl) ?_
  refine OW.nil rfl ?_
  refine QW.next ?_
  refine CW.ret ?_
  refine QW.then_ret ?_
  obtain rfl := Option.some.inj hF
  refine QW.ret1 rfl rfl ?_
  exact ⟨rfl, hst.keep [] rfl⟩
 ·have hF := ite_f hF hc13
  refine CW.cond_f rfl hc13 ?_
  refine CW.skip ?_
  refine QW.next ?_
  refine CW.seq ?_
  refine CW.region ?_
  refine OW.pure 1 [(12, .string r9)] (by kernel_rfl) ?_
  obtain ⟨r26, hr27, hF⟩ := bind_some' hF
  refine OW.fn rfl rfl rfl rfl (by kernel_rfl) (strings_ReplaceAll_ok _ r9 (⟨[82].toArray⟩) (⟨[121, 98, 114].toArray⟩) r26 hr27 (hst.part [] rfl) (hTL.give hst [])) ?_
  rintro e w28 ⟨rfl, hst29⟩
  refine ⟨_, rfl, ?_⟩
  have hst := hst.join (idx := []) (rest := [0]) rfl hst29
  refine OW.pure 1 [(4, .string r26)] (by kernel_rfl) ?_
  refine OW.nil rfl ?_
  refine QW.next ?_
  refine CW.ret ?_
  obtain rfl := Option.some.inj hF
  refine QW.ret1 rfl rfl ?_
  exact ⟨rfl, hst.keep [] rfl⟩

theorem strconv_FormatUint_ok (w : World) (p0 p1 : Int) (r : ByteArray) (hF : strconv_FormatUint p0 p1 = some r) (hst : St w (fp []) w []) (hTL : LibG Tryd.prog 4 1 2 3 w (fp [])) :
    Calls Tryd.prog 61 [.int .u64 p0, .int .i64 p1].toArray w (fun e w' => e = .returned (.string r) ∧ St w (fp []) w' []) :=
  formatu_ok Tryd.strconv_FormatUint hF (hTL.tab (by kernel_rfl))

theorem strconv_Itoa_ok (w : World) (p0 : Int) (r : ByteArray) (hF : strconv_Itoa p0 = some r) (hst : St w (fp []) w []) (hTL : LibG Tryd.prog 4 1 2 3 w (fp [])) :
    Calls Tryd.prog 62 [.int .i64 p0].toArray w (fun e w' => e = .returned (.string r) ∧ St w (fp []) w' []) :=
  itoa_ok Tryd.strconv_Itoa hF (hTL.tab (by kernel_rfl))

set_option maxRecDepth 10000 in
set_option maxHeartbeats 4000000 in
theorem trace_word_ok (w : World) (v0 : Value) (S0 : List Nat) (p0 : api_Entry) (p1 : Int) (r : ByteArray) (hF : trace_word p0 p1 = some r)
    (hst : St w (fp [itI R_t88 [v0] S0 p0]) w [itI R_t88 [v0] S0 p0]) (hTL : LibG Tryd.prog 4 1 2 3 w (fp [itI R_t88 [v0] S0 p0])) :
    Calls Tryd.prog 46 [v0, .int .i32 p1].toArray w (fun e w' => ∃ (s0 : List Nat), e = .returned (.string r) ∧ St w (fp [itI R_t88 [v0] S0 p0]) w' [itI R_t88 [v0] s0 p0]) := by
 refine CW.start (N := 61) Tryd.func46 rfl rfl rfl ?_
 obtain ⟨b1, rfl⟩ := hst.fptr 0 rfl
 refine CW.seq ?_
 refine CW.region ?_
 refine OW.pure 1 [] (by kernel_rfl) ?_
 refine OW.nil rfl ?_
 refine QW.next ?_
 refine CW.seq ?_
 refine CW.region ?_
 refine OW.pure 1 [(5, .int .i64 0)] (by kernel_rfl) ?_
 refine OW.nil rfl ?_
 refine QW.next ?_
 refine CW.seq ?_
 refine CW.seq ?_
 refine CW.region ?_
 refine OW.pure 2 [(8, .pointer (some ⟨b1, 0, none⟩)), (9, .int .i32 p1)] (by kernel_rfl) ?_
 have hst := hst.openQ0 0 rfl
 refine OW.fn rfl rfl rfl rfl (by kernel_rfl) (Tryd.whK_ok hst b1 p1) ?_
 rintro e w5 ⟨rfl, hst⟩
 refine ⟨_, rfl, ?_⟩
 rcases hk6 : whK p1 with _ | q7
 ·have hF := ocase_none hF hk6
  refine OW.pure 1 [(6, .pointer none)] (by kernel_rfl) ?_
  refine OW.nil rfl ?_
  refine QW.next ?_
  refine CW.seq ?_
  refine CW.region ?_
  refine OW.pure 2 [(12, .bool false)] (by kernel_rfl) ?_
  refine OW.nil rfl ?_
  refine QW.next ?_
  refine CW.cond_f rfl rfl ?_
  refine CW.seq ?_
  refine CW.region ?_
  refine OW.pure 2 [(16, .pointer (some ⟨b1, 0, none⟩)), (17, .int .i32 p1)] (by kernel_rfl) ?_
  refine OW.fn rfl rfl rfl rfl (by kernel_rfl) (Tryd.wdK_ok hst b1 p1) ?_
  rintro e w39 ⟨rfl, hst⟩
  refine ⟨_, rfl, ?_⟩
  rcases hk40 : wdK p1 with _ | q41
  ·have hF := ocase_none hF hk40
   refine OW.pure 1 [(7, .pointer none)] (by kernel_rfl) ?_
   refine OW.nil rfl ?_
   refine QW.next ?_
   refine CW.seq ?_
   refine CW.region ?_
   refine OW.pure 2 [(20, .bool false)] (by kernel_rfl) ?_
   refine OW.nil rfl ?_
   refine QW.next ?_
   refine CW.cond_f rfl rfl ?_
   refine CW.skip ?_
   refine QW.next ?_
   refine CW.seq ?_
   refine CW.seq ?_
   refine CW.region ?_
   refine OW.pure 1 [(28, .int .i32 p1)] (by kernel_rfl) ?_
   refine OW.nil rfl ?_
   refine QW.next ?_
   obtain ⟨o63, ho64, hF⟩ := bind_some' hF
   refine CW.cutK (fun a w1 => Rep 61 [(1, .int .i32 p1), (5, .int .i64 o63)] a ∧ St w (fp [itI R_t88 [.pointer (some ⟨b1, 0, none⟩)] S0 p0]) w1 [itI R_t88 [.pointer (some ⟨b1, 0, none⟩)] ([b1]) p0]) ?_ ?_
   ·refine CW.block ?_
    refine CW.seq ?_
    refine CW.region ?_
    refine OW.pure 2 [(29, .bool (p1 == 120))] (by kernel_rfl) ?_
    refine OW.nil rfl ?_
    refine QW.next ?_
    rcases Bool.eq_false_or_eq_true ((p1 == 120)) with hc65 | hc65
    ·have ho64 := ite_t ho64 hc65
     refine CW.cond_t rfl hc65 ?_
     refine CW.region ?_
     refine OW.pure 3 [(33, .pointer (some ⟨b1, 21, none⟩))] (by kernel_rfl) ?_
     refine OW.ld rfl rfl rfl rfl (by kernel_rfl) (hst.blk 0 rfl rfl) ?_
     refine OW.pure 1 [(5, .int .i64 p0.E)] (by kernel_rfl) ?_
     refine OW.nil rfl ?_
     refine QW.block_normal ?_
     have hst := hst.shutP0 (enc := enc_api_Entry) (sz := 22) (he := fun _ => rfl) 0 rfl p0 rfl
     obtain rfl := Option.some.inj ho64
     exact QW.meet (fun a ha => ⟨ha.agrees (by kernel_rfl), hst.keep [0] rfl⟩)
    ·have ho64 := ite_f ho64 hc65
     refine CW.cond_f rfl hc65 ?_
     refine CW.seq ?_
     refine CW.region ?_
     refine OW.pure 2 [(35, .bool (p1 == 111))] (by kernel_rfl) ?_
     refine OW.nil rfl ?_
     refine QW.next ?_
     rcases Bool.eq_false_or_eq_true ((p1 == 111)) with hc66 | hc66
     ·have ho64 := ite_t ho64 hc66
      refine CW.cond_t rfl hc66 ?_
      refine CW.region ?_
      refine OW.pure 4 [(40, .pointer (some ⟨b1, 11, none⟩))] (by kernel_rfl) ?_
      refine OW.ld rfl rfl rfl rfl (by kernel_rfl) (hst.blk 0 rfl rfl) ?_
      refine OW.pure 1 [(5, .int .i64 p0.Item.Op)] (by kernel_rfl) ?_
      refine OW.nil rfl ?_
      refine QW.block_normal ?_
      have hst := hst.shutP0 (enc := enc_api_Entry) (sz := 22) (he := fun _ => rfl) 0 rfl p0 rfl
      obtain rfl := Option.some.inj ho64
      exact QW.meet (fun a ha => ⟨ha.agrees (by kernel_rfl), hst.keep [0] rfl⟩)
     ·have ho64 := ite_f ho64 hc66
      refine CW.cond_f rfl hc66 ?_
      refine CW.seq ?_
      refine CW.region ?_
      refine OW.pure 2 [(42, .bool (p1 == 121))] (by kernel_rfl) ?_
      refine OW.nil rfl ?_
      refine QW.next ?_
      rcases Bool.eq_false_or_eq_true ((p1 == 121)) with hc67 | hc67
      ·have ho64 := ite_t ho64 hc67
       refine CW.cond_t rfl hc67 ?_
       refine CW.region ?_
       refine OW.pure 4 [(47, .pointer (some ⟨b1, 14, none⟩))] (by kernel_rfl) ?_
       refine OW.ld rfl rfl rfl rfl (by kernel_rfl) (hst.blk 0 rfl rfl) ?_
       refine OW.pure 1 [(5, .int .i64 p0.Res.E)] (by kernel_rfl) ?_
       refine OW.nil rfl ?_
       refine QW.block_normal ?_
       have hst := hst.shutP0 (enc := enc_api_Entry) (sz := 22) (he := fun _ => rfl) 0 rfl p0 rfl
       obtain rfl := Option.some.inj ho64
       exact QW.meet (fun a ha => ⟨ha.agrees (by kernel_rfl), hst.keep [0] rfl⟩)
      ·have ho64 := ite_f ho64 hc67
       refine CW.cond_f rfl hc67 ?_
       refine CW.seq ?_
       refine CW.region ?_
       refine OW.pure 2 [(49, .bool (p1 == 98))] (by kernel_rfl) ?_
       refine OW.nil rfl ?_
       refine QW.next ?_
       rcases Bool.eq_false_or_eq_true ((p1 == 98)) with hc68 | hc68
       ·have ho64 := ite_t ho64 hc68
        refine CW.cond_t rfl hc68 ?_
        refine CW.seq ?_
        refine CW.region ?_
        refine OW.pure 4 [(54, .pointer (some ⟨b1, 15, none⟩))] (by kernel_rfl) ?_
        refine OW.ld rfl rfl rfl rfl (by kernel_rfl) (hst.blk 0 rfl rfl) ?_
        refine OW.nil rfl ?_
        refine QW.next ?_
        rcases Bool.eq_false_or_eq_true (p0.Res.Found) with hc69 | hc69
        ·have ho64 := ite_t ho64 hc69
         refine CW.cond_t rfl hc69 ?_
         refine CW.region ?_
         refine OW.pure 1 [(5, .int .i64 1)] (by kernel_rfl) ?_
         refine OW.nil rfl ?_
         refine QW.block_normal ?_
         have hst := hst.shutP0 (enc := enc_api_Entry) (sz := 22) (he := fun _ => rfl) 0 rfl p0 rfl
         obtain rfl := Option.some.inj ho64
         exact QW.meet (fun a ha => ⟨ha.agrees (by kernel_rfl), hst.keep [0] rfl⟩)
        ·have ho64 := ite_f ho64 hc69
         refine CW.cond_f rfl hc69 ?_
         refine CW.skip ?_
         refine QW.block_normal ?_
         have hst := hst.shutP0 (enc := enc_api_Entry) (sz := 22) (he := fun _ => rfl) 0 rfl p0 rfl
         obtain rfl := Option.some.inj ho64
         exact QW.meet (fun a ha => ⟨ha.agrees (by kernel_rfl), hst.keep [0] rfl⟩)
       ·have ho64 := ite_f ho64 hc68
        refine CW.cond_f rfl hc68 ?_
        refine CW.skip ?_
        refine QW.block_normal ?_
        have hst := hst.shutP0 (enc := enc_api_Entry) (sz := 22) (he := fun _ => rfl) 0 rfl p0 rfl
        obtain rfl := Option.some.inj ho64
        exact QW.meet (fun a ha => ⟨ha.agrees (by kernel_rfl), hst.keep [0] rfl⟩)
   ·rintro a w1 ⟨ha, hst⟩
    refine CW.go ?_ ha
    refine CW.seq ?_
    refine CW.region ?_
    refine OW.pure 1 [(56, .int .i32 p1)] (by kernel_rfl) ?_
    obtain ⟨x78, hx79, hF⟩ := bind_some' hF
    refine OW.op (v := .string x78) rfl rfl rfl rfl (fun a ha => rune_run rfl rfl (by kernel_rfl) (by kernel_rfl) hx79 a _ ha) ?_
    refine OW.pure 1 [(58, .int .i64 o63)] (by kernel_rfl) ?_
    obtain ⟨r80, hr81, hF⟩ := bind_some' hF
    refine OW.fn rfl rfl rfl rfl (by kernel_rfl) (strconv_Itoa_ok _ o63 r80 hr81 (hst.part [] rfl) (hTL.give hst [])) ?_
    rintro e w82 ⟨rfl, hst83⟩
    refine ⟨_, rfl, ?_⟩
    have hst := hst.join (idx := []) (rest := [0]) rfl hst83
    obtain ⟨x84, hx85, hF⟩ := bind_some' hF
    refine OW.op (v := .string x84) rfl rfl rfl rfl (fun a ha => cat_run rfl rfl rfl (by kernel_rfl) hx85 a _ ha) ?_
    refine OW.pure 1 [(4, .string x84)] (by kernel_rfl) ?_
    refine OW.nil rfl ?_
    refine QW.next ?_
    refine CW.ret ?_
    obtain rfl := Option.some.inj hF
    refine QW.ret1 rfl rfl ?_
    exact ⟨([b1]), rfl, hst.keep [0] rfl⟩
  ·have hF := ocase_some hF hk40
   refine OW.pure 1 [(7, .pointer (some ⟨b1, q41, none⟩))] (by kernel_rfl) ?_
   refine OW.nil rfl ?_
   refine QW.next ?_
   refine CW.seq ?_
   refine CW.region ?_
   refine OW.pure 2 [(20, .bool true)] (by kernel_rfl) ?_
   refine OW.nil rfl ?_
   refine QW.next ?_
   refine CW.cond_t rfl rfl ?_
   refine CW.seq ?_
   refine CW.region ?_
   refine OW.pure 1 [(21, .int .i32 p1)] (by kernel_rfl) ?_
   obtain ⟨x50, hx51, hF⟩ := bind_some' hF
   refine OW.op (v := .string x50) rfl rfl rfl rfl (fun a ha => rune_run rfl rfl (by kernel_rfl) (by kernel_rfl) hx51 a _ ha) ?_
   refine OW.pure 2 [(24, .pointer (some ⟨b1, q41, none⟩))] (by kernel_rfl) ?_
   refine OW.ld rfl rfl rfl rfl (by kernel_rfl) (hst.blk 0 rfl (wdK_cell hk40 p0)) ?_
   obtain ⟨r52, hr53, hF⟩ := bind_some' hF
   refine OW.fn rfl rfl rfl rfl (by kernel_rfl) (strconv_FormatUint_ok _ (geto_api_Entry p0 q41) 10 r52 hr53 (hst.part [] rfl) (hTL.give hst [])) ?_
   rintro e w54 ⟨rfl, hst55⟩
   refine ⟨_, rfl, ?_⟩
   have hst := hst.join (idx := []) (rest := [0]) rfl hst55
   obtain ⟨x56, hx57, hF⟩ := bind_some' hF
   refine OW.op (v := .string x56) rfl rfl rfl rfl (fun a ha => cat_run rfl rfl rfl (by kernel_rfl) hx57 a _ ha) ?_
   refine OW.pure 1 [(4, .string x56)] (by kernel_rfl) ?_
   refine OW.nil rfl ?_
   refine QW.next ?_
   refine CW.ret ?_
   refine QW.then_ret ?_
   have hst := hst.shutP0 (enc := enc_api_Entry) (sz := 22) (he := fun _ => rfl) 0 rfl p0 rfl
   obtain rfl := Option.some.inj hF
   refine QW.ret1 rfl rfl ?_
   exact ⟨([b1]), rfl, hst.keep [0] rfl⟩
 ·have hF := ocase_some hF hk6
  refine OW.pure 1 [(6, .pointer (some ⟨b1, q7, none⟩))] (by kernel_rfl) ?_
  refine OW.nil rfl ?_
  refine QW.next ?_
  refine CW.seq ?_
  refine CW.region ?_
  refine OW.pure 2 [(12, .bool true)] (by kernel_rfl) ?_
  refine OW.nil rfl ?_
  refine QW.next ?_
  refine CW.cond_t rfl rfl ?_
  refine CW.region ?_
  refine OW.pure 2 [(14, .pointer (some ⟨b1, q7, none⟩))] (by kernel_rfl) ?_
  refine OW.ld rfl rfl rfl rfl (by kernel_rfl) (hst.blk 0 rfl (whK_cell hk6 p0)) ?_
  refine OW.pure 1 [(5, .int .i64 (geto_api_Entry p0 q7))] (by kernel_rfl) ?_
  refine OW.nil rfl ?_
  refine QW.next ?_
  refine CW.seq ?_
  refine CW.seq ?_
  refine CW.region ?_
  refine OW.pure 1 [(28, .int .i32 p1)] (by kernel_rfl) ?_
  refine OW.nil rfl ?_
  refine QW.next ?_
  obtain ⟨o13, ho14, hF⟩ := bind_some' hF
  refine CW.cutK (fun a w1 => Rep 61 [(1, .int .i32 p1), (5, .int .i64 o13)] a ∧ St w (fp [itI R_t88 [.pointer (some ⟨b1, 0, none⟩)] S0 p0]) w1 [itI R_t88 [.pointer (some ⟨b1, 0, none⟩)] ([b1]) p0]) ?_ ?_
  ·refine CW.block ?_
   refine CW.seq ?_
   refine CW.region ?_
   refine OW.pure 2 [(29, .bool (p1 == 120))] (by kernel_rfl) ?_
   refine OW.nil rfl ?_
   refine QW.next ?_
   rcases Bool.eq_false_or_eq_true ((p1 == 120)) with hc15 | hc15
   ·have ho14 := ite_t ho14 hc15
    refine CW.cond_t rfl hc15 ?_
    refine CW.region ?_
    refine OW.pure 3 [(33, .pointer (some ⟨b1, 21, none⟩))] (by kernel_rfl) ?_
    refine OW.ld rfl rfl rfl rfl (by kernel_rfl) (hst.blk 0 rfl rfl) ?_
    refine OW.pure 1 [(5, .int .i64 p0.E)] (by kernel_rfl) ?_
    refine OW.nil rfl ?_
    refine QW.block_normal ?_
    have hst := hst.shutP0 (enc := enc_api_Entry) (sz := 22) (he := fun _ => rfl) 0 rfl p0 rfl
    obtain rfl := Option.some.inj ho14
    exact QW.meet (fun a ha => ⟨ha.agrees (by kernel_rfl), hst.keep [0] rfl⟩)
   ·have ho14 := ite_f ho14 hc15
    refine CW.cond_f rfl hc15 ?_
    refine CW.seq ?_
    refine CW.region ?_
    refine OW.pure 2 [(35, .bool (p1 == 111))] (by kernel_rfl) ?_
    refine OW.nil rfl ?_
    refine QW.next ?_
    rcases Bool.eq_false_or_eq_true ((p1 == 111)) with hc16 | hc16
    ·have ho14 := ite_t ho14 hc16
     refine CW.cond_t rfl hc16 ?_
     refine CW.region ?_
     refine OW.pure 4 [(40, .pointer (some ⟨b1, 11, none⟩))] (by kernel_rfl) ?_
     refine OW.ld rfl rfl rfl rfl (by kernel_rfl) (hst.blk 0 rfl rfl) ?_
     refine OW.pure 1 [(5, .int .i64 p0.Item.Op)] (by kernel_rfl) ?_
     refine OW.nil rfl ?_
     refine QW.block_normal ?_
     have hst := hst.shutP0 (enc := enc_api_Entry) (sz := 22) (he := fun _ => rfl) 0 rfl p0 rfl
     obtain rfl := Option.some.inj ho14
     exact QW.meet (fun a ha => ⟨ha.agrees (by kernel_rfl), hst.keep [0] rfl⟩)
    ·have ho14 := ite_f ho14 hc16
     refine CW.cond_f rfl hc16 ?_
     refine CW.seq ?_
     refine CW.region ?_
     refine OW.pure 2 [(42, .bool (p1 == 121))] (by kernel_rfl) ?_
     refine OW.nil rfl ?_
     refine QW.next ?_
     rcases Bool.eq_false_or_eq_true ((p1 == 121)) with hc17 | hc17
     ·have ho14 := ite_t ho14 hc17
      refine CW.cond_t rfl hc17 ?_
      refine CW.region ?_
      refine OW.pure 4 [(47, .pointer (some ⟨b1, 14, none⟩))] (by kernel_rfl) ?_
      refine OW.ld rfl rfl rfl rfl (by kernel_rfl) (hst.blk 0 rfl rfl) ?_
      refine OW.pure 1 [(5, .int .i64 p0.Res.E)] (by kernel_rfl) ?_
      refine OW.nil rfl ?_
      refine QW.block_normal ?_
      have hst := hst.shutP0 (enc := enc_api_Entry) (sz := 22) (he := fun _ => rfl) 0 rfl p0 rfl
      obtain rfl := Option.some.inj ho14
      exact QW.meet (fun a ha => ⟨ha.agrees (by kernel_rfl), hst.keep [0] rfl⟩)
     ·have ho14 := ite_f ho14 hc17
      refine CW.cond_f rfl hc17 ?_
      refine CW.seq ?_
      refine CW.region ?_
      refine OW.pure 2 [(49, .bool (p1 == 98))] (by kernel_rfl) ?_
      refine OW.nil rfl ?_
      refine QW.next ?_
      rcases Bool.eq_false_or_eq_true ((p1 == 98)) with hc18 | hc18
      ·have ho14 := ite_t ho14 hc18
       refine CW.cond_t rfl hc18 ?_
       refine CW.seq ?_
       refine CW.region ?_
       refine OW.pure 4 [(54, .pointer (some ⟨b1, 15, none⟩))] (by kernel_rfl) ?_
       refine OW.ld rfl rfl rfl rfl (by kernel_rfl) (hst.blk 0 rfl rfl) ?_
       refine OW.nil rfl ?_
       refine QW.next ?_
       rcases Bool.eq_false_or_eq_true (p0.Res.Found) with hc19 | hc19
       ·have ho14 := ite_t ho14 hc19
        refine CW.cond_t rfl hc19 ?_
        refine CW.region ?_
        refine OW.pure 1 [(5, .int .i64 1)] (by kernel_rfl) ?_
        refine OW.nil rfl ?_
        refine QW.block_normal ?_
        have hst := hst.shutP0 (enc := enc_api_Entry) (sz := 22) (he := fun _ => rfl) 0 rfl p0 rfl
        obtain rfl := Option.some.inj ho14
        exact QW.meet (fun a ha => ⟨ha.agrees (by kernel_rfl), hst.keep [0] rfl⟩)
       ·have ho14 := ite_f ho14 hc19
        refine CW.cond_f rfl hc19 ?_
        refine CW.skip ?_
        refine QW.block_normal ?_
        have hst := hst.shutP0 (enc := enc_api_Entry) (sz := 22) (he := fun _ => rfl) 0 rfl p0 rfl
        obtain rfl := Option.some.inj ho14
        exact QW.meet (fun a ha => ⟨ha.agrees (by kernel_rfl), hst.keep [0] rfl⟩)
      ·have ho14 := ite_f ho14 hc18
       refine CW.cond_f rfl hc18 ?_
       refine CW.skip ?_
       refine QW.block_normal ?_
       have hst := hst.shutP0 (enc := enc_api_Entry) (sz := 22) (he := fun _ => rfl) 0 rfl p0 rfl
       obtain rfl := Option.some.inj ho14
       exact QW.meet (fun a ha => ⟨ha.agrees (by kernel_rfl), hst.keep [0] rfl⟩)
  ·rintro a w1 ⟨ha, hst⟩
   refine CW.go ?_ ha
   refine CW.seq ?_
   refine CW.region ?_
   refine OW.pure 1 [(56, .int .i32 p1)] (by kernel_rfl) ?_
   obtain ⟨x28, hx29, hF⟩ := bind_some' hF
   refine OW.op (v := .string x28) rfl rfl rfl rfl (fun a ha => rune_run rfl rfl (by kernel_rfl) (by kernel_rfl) hx29 a _ ha) ?_
   refine OW.pure 1 [(58, .int .i64 o13)] (by kernel_rfl) ?_
   obtain ⟨r30, hr31, hF⟩ := bind_some' hF
   refine OW.fn rfl rfl rfl rfl (by kernel_rfl) (strconv_Itoa_ok _ o13 r30 hr31 (hst.part [] rfl) (hTL.give hst [])) ?_
   rintro e w32 ⟨rfl, hst33⟩
   refine ⟨_, rfl, ?_⟩
   have hst := hst.join (idx := []) (rest := [0]) rfl hst33
   obtain ⟨x34, hx35, hF⟩ := bind_some' hF
   refine OW.op (v := .string x34) rfl rfl rfl rfl (fun a ha => cat_run rfl rfl rfl (by kernel_rfl) hx35 a _ ha) ?_
   refine OW.pure 1 [(4, .string x34)] (by kernel_rfl) ?_
   refine OW.nil rfl ?_
   refine QW.next ?_
   refine CW.ret ?_
   obtain rfl := Option.some.inj hF
   refine QW.ret1 rfl rfl ?_
   exact ⟨([b1]), rfl, hst.keep [0] rfl⟩

set_option maxRecDepth 10000 in
set_option maxHeartbeats 4000000 in
theorem trace_line_ok (w : World) (fu : Nat) (p0 : api_Entry) (r : ByteArray) (hF : trace_line fu p0 = some r)
    (hst : St w (fp []) w []) (hT0 : Rd w (fp []) (.slice (some ⟨0, 0, none⟩) 18 18) enc_trace_form 2 tab_g0) (hTL : LibG Tryd.prog 4 1 2 3 w (fp [])) :
    Calls Tryd.prog 24 [.agg [.int .i64 p0.What, .int .i64 p0.Task, .int .i64 p0.From, .int .i64 p0.Cmd, .int .i64 p0.Tag, .int .i64 p0.Event, .int .i64 p0.Hook, .int .i64 p0.Prog, .int .i64 p0.Version, .int .i64 p0.Pc, .int .i64 p0.Item.Map, .int .i64 p0.Item.Op, .int .u64 p0.Item.Key, .int .u64 p0.Item.Val, .int .i64 p0.Res.E, .bool p0.Res.Found, .int .u64 p0.Res.Val, .bool p0.Res.Out, .int .u64 p0.Res.OutKey, .int .u64 p0.Res.OutVal, .int .u64 p0.Val, .int .i64 p0.E].toArray].toArray w (fun e w' => e = .returned (.string r) ∧ St w (fp []) w' []) := by
 refine CW.start (N := 31) Tryd.func24 rfl rfl rfl ?_
 refine CW.seq ?_
 refine CW.region ?_
 refine OW.box hst rfl rfl rfl rfl [.int .i64 p0.What, .int .i64 p0.Task, .int .i64 p0.From, .int .i64 p0.Cmd, .int .i64 p0.Tag, .int .i64 p0.Event, .int .i64 p0.Hook, .int .i64 p0.Prog, .int .i64 p0.Version, .int .i64 p0.Pc, .int .i64 p0.Item.Map, .int .i64 p0.Item.Op, .int .u64 p0.Item.Key, .int .u64 p0.Item.Val, .int .i64 p0.Res.E, .bool p0.Res.Found, .int .u64 p0.Res.Val, .bool p0.Res.Out, .int .u64 p0.Res.OutKey, .int .u64 p0.Res.OutVal, .int .u64 p0.Val, .int .i64 p0.E] rfl ?_
 intro b3 w4 hst
 refine OW.pure 1 [] (by kernel_rfl) ?_
 refine OW.nil rfl ?_
 refine QW.next ?_
 refine CW.seq ?_
 refine CW.region ?_
 refine OW.pure 1 [(9, .pointer (some ⟨b3, 0, none⟩))] (by kernel_rfl) ?_
 refine OW.ld rfl rfl rfl rfl (by kernel_rfl) (hst.blk 0 rfl rfl) ?_
 obtain ⟨r12, hr13, hF⟩ := bind_some' hF
 refine OW.fn rfl rfl rfl rfl (by kernel_rfl) (trace_of_ok _ p0.What r12 hr13 (hst.part [] rfl) (hT0.give hst [])) ?_
 rintro e w14 ⟨rfl, hst15⟩
 refine ⟨_, rfl, ?_⟩
 have hst := hst.join (idx := []) (rest := [0]) rfl hst15
 refine OW.pure 3 [(12, .agg [.string r12.1.name, .string r12.1.fields].toArray), (13, .bool r12.2)] (by kernel_rfl) ?_
 refine OW.alloc hst rfl rfl rfl [.string ByteArray.empty, .string ByteArray.empty] (by kernel_rfl) ?_
 intro b16 w17 hst
 refine OW.stB hst 1 rfl rfl rfl rfl rfl (by kernel_rfl) rfl rfl [.string r12.1.name, .string r12.1.fields] rfl ?_
 intro w18 hst
 refine OW.pure 1 [] (by kernel_rfl) ?_
 refine OW.nil rfl ?_
 refine QW.next ?_
 refine CW.seq ?_
 refine CW.region ?_
 refine OW.pure 1 [(14, .pointer (some ⟨b16, 0, none⟩))] (by kernel_rfl) ?_
 refine OW.ld rfl rfl rfl rfl (by kernel_rfl) (hst.blk 1 rfl rfl) ?_
 refine OW.pure 1 [(5, .string r12.1.name)] (by kernel_rfl) ?_
 refine OW.nil rfl ?_
 refine QW.next ?_
 refine CW.seq ?_
 refine CW.seq ?_
 refine CW.region ?_
 refine OW.ldN (cs := [.string r12.1.name, .string r12.1.fields]) rfl rfl rfl rfl (by kernel_rfl) (by kernel_rfl) (hst.blkN 1 rfl 0 2) ?_
 refine OW.pure 2 [(18, .pointer (some ⟨b3, 17, none⟩))] (by kernel_rfl) ?_
 refine OW.ld rfl rfl rfl rfl (by kernel_rfl) (hst.blk 0 rfl rfl) ?_
 obtain ⟨r25, hr26, hF⟩ := bind_some' hF
 refine OW.fn rfl rfl rfl rfl (by kernel_rfl) (trace_letters_ok _ r12.1 p0.Res.Out r25 hr26 (hst.part [] rfl) (hTL.give hst [])) ?_
 rintro e w27 ⟨rfl, hst28⟩
 refine ⟨_, rfl, ?_⟩
 have hst := hst.join (idx := []) (rest := [0, 1]) rfl hst28
 refine OW.srange (s := r25) hst rfl rfl rfl rfl (by kernel_rfl) ?_
 intro it29 w30 hst
 refine OW.nil rfl ?_
 refine QW.next ?_
 obtain ⟨o104, ho105, hF⟩ := bind_some' hF
 refine CW.cutK (fun a w1 => Rep 31 [(5, .string o104)] a ∧ St w (fp []) w1 []) ?_ ?_
 ·refine CW.block ?_
  have hst := hst.shutP0 (enc := enc_api_Entry) (sz := 22) (he := fun _ => rfl) 0 rfl p0 rfl
  refine CW.loop (fun n a w1 => ∃ (s155 : ByteArray × Nat) (S156 : List Nat), Rep 31 [(1, .pointer (some ⟨b3, 0, none⟩)), (5, .string s155.1), (21, .pointer (some ⟨it29, 0, none⟩))] a ∧ St w (fp []) w1 [itI R_t88 [.pointer (some ⟨b3, 0, none⟩)] S156 p0, sitI it29 r25 s155.2] ∧ loop (trace_line_l1 p0 r25) n s155 = some o104) fu (fun a ha => ⟨(r12.1.name, 0), ([b3]), ha.agrees (by kernel_rfl), hst.keep [0, 2] rfl, ho105⟩) ?_
  rintro n153 a w1 ⟨s155, S156, ha, hst, hl154⟩
  rcases n153 with _ | n153
  ·exact (loop_zero hl154).elim
  refine CW.go ?_ ha
  refine CW.seq ?_
  refine CW.region ?_
  refine OW.snext hst 1 rfl rfl rfl rfl rfl ?_ ?_
  ·intro hp159 w160 hst
   have hl154 := ite_t hl154 hp159
   refine OW.pure 1 [(23, .bool true)] (by kernel_rfl) ?_
   refine OW.nil rfl ?_
   refine QW.next ?_
   refine CW.seq ?_
   refine CW.cond_t rfl rfl ?_
   refine CW.skip ?_
   refine QW.next ?_
   refine CW.block ?_
   refine CW.seq ?_
   refine CW.region ?_
   refine OW.pure 2 [(7, .int .i32 (runeAt r25 s155.2))] (by kernel_rfl) ?_
   refine OW.nil rfl ?_
   refine QW.next ?_
   refine CW.region ?_
   refine OW.pure 2 [(25, .string s155.1), (26, .int .i32 (runeAt r25 s155.2))] (by kernel_rfl) ?_
   obtain ⟨r170, hr171, hl154⟩ := bind_some' hl154
   refine OW.fn rfl rfl rfl rfl (by kernel_rfl) (trace_word_ok _ (.pointer (some ⟨b3, 0, none⟩)) S156 p0 (runeAt r25 s155.2) r170 hr171 (hst.part [0] rfl) (hTL.give hst [0])) ?_
   rintro e w172 ⟨S174, rfl, hst173⟩
   refine ⟨_, rfl, ?_⟩
   have hst := hst.join (idx := [0]) (rest := [1]) rfl hst173
   obtain ⟨x175, hx176, hl154⟩ := bind_some' hl154
   refine OW.op (v := .string x175) rfl rfl rfl rfl (fun a ha => cat_run rfl rfl rfl (by kernel_rfl) hx176 a _ ha) ?_
   obtain ⟨x177, hx178, hl154⟩ := bind_some' hl154
   refine OW.op (v := .string x177) rfl rfl rfl rfl (fun a ha => cat_run rfl rfl rfl (by kernel_rfl) hx178 a _ ha) ?_
   refine OW.pure 1 [(5, .string x177)] (by kernel_rfl) ?_
   refine OW.nil rfl ?_
   refine QW.block_normal ?_
   exact QW.meet (fun a ha => ⟨n153, Nat.lt_succ_self _, (x177, (runeEnd r25 s155.2)), S174, ha.agrees (by kernel_rfl), hst.keep [0, 1] rfl, hl154⟩)
  ·intro hp159
   have hl154 := ite_f hl154 hp159
   refine OW.pure 1 [(23, .bool false)] (by kernel_rfl) ?_
   refine OW.nil rfl ?_
   refine QW.next ?_
   refine CW.seq ?_
   refine CW.cond_f rfl rfl ?_
   refine CW.exit ?_
   refine QW.then_exit ?_
   refine QW.then_exit ?_
   refine QW.block_here ?_
   obtain rfl := Option.some.inj hl154
   exact QW.meet (fun a ha => ⟨ha.agrees (by kernel_rfl), hst.keep [] rfl⟩)
 ·rintro a w1 ⟨ha, hst⟩
  refine CW.go ?_ ha
  refine CW.seq ?_
  refine CW.region ?_
  refine OW.pure 2 [(2, .string o104)] (by kernel_rfl) ?_
  refine OW.nil rfl ?_
  refine QW.next ?_
  refine CW.ret ?_
  obtain rfl := Option.some.inj hF
  refine QW.ret1 rfl rfl ?_
  exact ⟨rfl, hst.keep [] rfl⟩

theorem strings_Split_ok (w : World) (p0 p1 : ByteArray) (r : List ByteArray) (hF : strings_Split p0 p1 = some r) (hst : St w (fp []) w []) (hTL : LibG Tryd.prog 4 1 2 3 w (fp [])) :
    Calls Tryd.prog 39 [.string p0, .string p1].toArray w (fun e w' => ∃ x0 : Value, e = .returned x0 ∧ St w (fp []) w' [rowI x0 9 encText 1 r]) :=
  hTL.max.elim fun _ hm => split_ok Tryd.strings_Split hF hm

set_option maxRecDepth 10000 in
set_option maxHeartbeats 4000000 in
theorem trace_find_ok (w : World) (p0 : ByteArray) (r : Int) (hF : trace_find p0 = some r)
    (hst : St w (fp []) w []) (hT0 : Rd w (fp []) (.slice (some ⟨0, 0, none⟩) 18 18) enc_trace_form 2 tab_g0) :
    Calls Tryd.prog 40 [.string p0].toArray w (fun e w' => e = .returned (.int .i64 r) ∧ St w (fp []) w' []) := by
 refine CW.start (N := 20) Tryd.func40 rfl rfl rfl ?_
 refine CW.seq ?_
 refine CW.region ?_
 refine OW.pure 1 [] (by kernel_rfl) ?_
 refine OW.nil rfl ?_
 refine QW.next ?_
 refine CW.seq ?_
 refine CW.seq ?_
 refine CW.region ?_
 refine OW.ldN (cs := flat enc_trace_form tab_g0) rfl rfl rfl rfl (by kernel_rfl) (by kernel_rfl) (hT0.flatAll hst (fun _ => rfl) (by decide)) ?_
 refine OW.pure 1 [(6, .int .i64 0)] (by kernel_rfl) ?_
 refine OW.nil rfl ?_
 refine QW.next ?_
 obtain ⟨o43, ho44, hF⟩ := bind_some' hF
 refine CW.cutK (fun a w1 => ∃ (t45 : Unit), o43 = .inl t45 ∧ Rep 20 [] a ∧ St w (fp []) w1 []) ?_ ?_
 ·refine CW.block ?_
  refine CW.loop (fun n a w1 => ∃ (i73 : Nat) (s72 : Unit), i73 + n = 18 ∧ Rep 20 [(0, .string p0), (5, .agg (flat enc_trace_form tab_g0).toArray), (6, .int .i64 (i73 : Int))] a ∧ St w (fp []) w1 [] ∧ forN (trace_find_l1 p0) (fun (s72 : Unit) => (.inl ())) n i73 s72 = some o43) 18 (fun a ha => ⟨0, (), Nat.zero_add _, ha.agrees (by kernel_rfl), hst.keep [] rfl, ho44⟩) ?_
  rintro n70 a w1 ⟨i73, s72, hi74, ha, hst, hl71⟩
  refine CW.go ?_ ha
  refine CW.seq ?_
  refine CW.region ?_
  refine OW.pure 1 [(7, .bool (decide ((i73 : Int) < 18)))] (by kernel_rfl) ?_
  refine OW.nil rfl ?_
  refine QW.next ?_
  refine CW.seq ?_
  rcases Bool.eq_false_or_eq_true (decide ((i73 : Int) < 18)) with hc75 | hc75
  ·rcases n70 with _ | n70
   ·exact (cnt0 hi74 hc75).elim
   refine CW.cond_t rfl hc75 ?_
   refine CW.skip ?_
   refine QW.next ?_
   refine CW.seq ?_
   refine CW.block ?_
   refine CW.seq ?_
   refine CW.region ?_
   refine OW.pure 1 [(8, .int .i64 (i73 : Int))] (by kernel_rfl) ?_
   obtain ⟨x81, hx82, hl71⟩ := bind_some' hl71
   refine OW.op (v := .agg [.string x81.name, .string x81.fields].toArray) rfl rfl rfl rfl (fun a ha => vidx_run (e := 70) (sz := 2) (enc := enc_trace_form) (xs := tab_g0) rfl rfl rfl (by kernel_rfl) (by kernel_rfl) (by kernel_rfl) (fun _ => rfl) rfl hx82 a _ ha) ?_
   refine OW.alloc hst rfl rfl rfl [.string ByteArray.empty, .string ByteArray.empty] (by kernel_rfl) ?_
   intro b83 w84 hst
   refine OW.pure 1 [(3, .int .i64 (i73 : Int))] (by kernel_rfl) ?_
   refine OW.stB hst 0 rfl rfl rfl rfl rfl (by kernel_rfl) rfl rfl [.string x81.name, .string x81.fields] rfl ?_
   intro w85 hst
   refine OW.nil rfl ?_
   refine QW.next ?_
   refine CW.seq ?_
   refine CW.cutK (fun a w1 => Rep 20 [(0, .string p0), (3, .int .i64 (i73 : Int)), (5, .agg (flat enc_trace_form tab_g0).toArray), (6, .int .i64 (i73 : Int)), (17, .bool (decide ((i73 : Int) > 0) && sEq x81.name p0))] a ∧ St w (fp []) w1 []) ?_ ?_
   ·refine CW.region ?_
    refine OW.pure 3 [(12, .bool (decide ((i73 : Int) > 0)))] (by kernel_rfl) ?_
    refine OW.split 12 rfl (fun hc86 => ?_) (fun hc86 => ?_)
    ·refine OW.pure 1 [(13, .pointer (some ⟨b83, 0, none⟩))] (by kernel_rfl) ?_
     refine OW.ld rfl rfl rfl rfl (by kernel_rfl) (hst.blk 0 rfl rfl) ?_
     refine OW.pure 3 [(17, .bool (sEq x81.name p0))] (by kernel_rfl) ?_
     refine OW.nil rfl ?_
     refine QW.say 17 (v := .bool (decide ((i73 : Int) > 0) && sEq x81.name p0)) rfl (by first | (rw [hc86]; done) | (rw [hc86]; rfl) | simp [hc86]) ?_
     exact QW.meet (fun a ha => ⟨ha.agrees (by kernel_rfl), hst.keep [] rfl⟩)
    ·refine OW.pure 5 [(17, .bool false)] (by kernel_rfl) ?_
     refine OW.nil rfl ?_
     refine QW.say 17 (v := .bool (decide ((i73 : Int) > 0) && sEq x81.name p0)) rfl (by first | (rw [hc86]; done) | (rw [hc86]; rfl) | simp [hc86]) ?_
     exact QW.meet (fun a ha => ⟨ha.agrees (by kernel_rfl), hst.keep [] rfl⟩)
   ·rintro a w1 ⟨ha, hst⟩
    refine CW.go ?_ ha
    rcases Bool.eq_false_or_eq_true ((decide ((i73 : Int) > 0) && sEq x81.name p0)) with hc87 | hc87
    ·have hl71 := ite_t hl71 hc87
     refine CW.cond_t rfl hc87 ?_
     refine CW.seq ?_
     refine CW.region ?_
     refine OW.pure 2 [(2, .int .i64 (i73 : Int))] (by kernel_rfl) ?_
     refine OW.nil rfl ?_
     refine QW.next ?_
     refine CW.ret ?_
     refine QW.block_ret ?_
     refine QW.then_ret ?_
     refine QW.then_ret ?_
     refine QW.block_ret ?_
     refine QW.then_ret ?_
     obtain rfl := Option.some.inj hl71
     obtain rfl := Option.some.inj hF
     refine QW.ret1 rfl rfl ?_
     exact ⟨rfl, hst.keep [] rfl⟩
    ·have hl71 := ite_f hl71 hc87
     refine CW.cond_f rfl hc87 ?_
     refine CW.skip ?_
     refine QW.block_normal ?_
     refine QW.next ?_
     refine CW.region ?_
     refine OW.pure 2 [(6, .int .i64 (w64 ((i73 : Int) + 1)))] (by kernel_rfl) ?_
     refine OW.nil rfl ?_
     refine QW.say 6 rfl (congrArg (Value.int .i64) (w64_cnt hc75 (by decide))) ?_
     exact QW.meet (fun a ha => ⟨n70, Nat.lt_succ_self _, i73 + 1, (), cnt_next hi74, ha.agrees (by kernel_rfl), hst.keep [] rfl, hl71⟩)
  ·rcases n70 with _ | n70
   ·refine CW.cond_f rfl hc75 ?_
    refine CW.exit ?_
    refine QW.then_exit ?_
    refine QW.then_exit ?_
    refine QW.block_here ?_
    obtain rfl := Option.some.inj hl71
    exact QW.meet (fun a ha => ⟨(), rfl, ha.agrees (by kernel_rfl), hst.keep [] rfl⟩)
   ·exact (cnt1 hi74 hc75).elim
 ·rintro a w1 ⟨t45, rfl, ha, hst⟩
  refine CW.go ?_ ha
  refine CW.seq ?_
  refine CW.region ?_
  refine OW.pure 1 [(2, .int .i64 0)] (by kernel_rfl) ?_
  refine OW.nil rfl ?_
  refine QW.next ?_
  refine CW.ret ?_
  obtain rfl := Option.some.inj hF
  refine QW.ret1 rfl rfl ?_
  exact ⟨rfl, hst.keep [] rfl⟩

set_option maxRecDepth 10000 in
set_option maxHeartbeats 4000000 in
theorem stringslite_HasSuffix_ok (w : World) (p0 : ByteArray) (p1 : ByteArray) (r : Bool) (hF : stringslite_HasSuffix p0 p1 = some r)
    (hst : St w (fp []) w []) :
    Calls Tryd.prog 54 [.string p0, .string p1].toArray w (fun e w' => e = .returned (.bool r) ∧ St w (fp []) w' []) := by
 refine CW.start (N := 21) Tryd.func54 rfl rfl rfl ?_
 refine CW.seq ?_
 refine CW.region ?_
 refine OW.pure 1 [] (by kernel_rfl) ?_
 refine OW.nil rfl ?_
 refine QW.next ?_
 refine CW.seq ?_
 obtain ⟨o4, ho5, hF⟩ := bind_some' hF
 refine CW.cutK (fun a w1 => Rep 21 [(4, .bool o4)] a ∧ St w (fp []) w1 []) ?_ ?_
 ·refine CW.region ?_
  refine OW.pure 6 [(10, .bool (decide ((p0.size : Int) ≥ (p1.size : Int))))] (by kernel_rfl) ?_
  refine OW.split 10 rfl (fun hc6 => ?_) (fun hc6 => ?_)
  ·have ho5 := ite_t ho5 hc6
   refine OW.pure 6 [(11, .string p0), (16, .int .i64 (w64 ((p0.size : Int) - (p1.size : Int))))] (by kernel_rfl) ?_
   obtain ⟨x7, hx8, ho5⟩ := bind_some' ho5
   refine OW.op (v := .string x7) rfl rfl rfl rfl (fun a ha => ssuf_run rfl rfl rfl (by kernel_rfl) hx8 a _ ha) ?_
   refine OW.pure 4 [(4, .bool (sEq x7 p1))] (by kernel_rfl) ?_
   refine OW.nil rfl ?_
   obtain rfl := Option.some.inj ho5
   exact QW.meet (fun a ha => ⟨ha.agrees (by kernel_rfl), hst.keep [] rfl⟩)
  ·have ho5 := ite_f ho5 hc6
   refine OW.pure 11 [(4, .bool false)] (by kernel_rfl) ?_
   refine OW.nil rfl ?_
   obtain rfl := Option.some.inj ho5
   exact QW.meet (fun a ha => ⟨ha.agrees (by kernel_rfl), hst.keep [] rfl⟩)
 ·rintro a w1 ⟨ha, hst⟩
  refine CW.go ?_ ha
  refine CW.ret ?_
  obtain rfl := Option.some.inj hF
  refine QW.ret1 rfl rfl ?_
  exact ⟨rfl, hst.keep [] rfl⟩

set_option maxRecDepth 10000 in
set_option maxHeartbeats 4000000 in
theorem strings_HasSuffix_ok (w : World) (p0 : ByteArray) (p1 : ByteArray) (r : Bool) (hF : strings_HasSuffix p0 p1 = some r)
    (hst : St w (fp []) w []) :
    Calls Tryd.prog 42 [.string p0, .string p1].toArray w (fun e w' => e = .returned (.bool r) ∧ St w (fp []) w' []) := by
 refine CW.start (N := 8) Tryd.func42 rfl rfl rfl ?_
 refine CW.seq ?_
 refine CW.region ?_
 refine OW.pure 1 [] (by kernel_rfl) ?_
 refine OW.nil rfl ?_
 refine QW.next ?_
 refine CW.seq ?_
 refine CW.region ?_
 refine OW.pure 2 [(5, .string p0), (6, .string p1)] (by kernel_rfl) ?_
 obtain ⟨r5, hr6, hF⟩ := bind_some' hF
 refine OW.fn rfl rfl rfl rfl (by kernel_rfl) (stringslite_HasSuffix_ok _ p0 p1 r5 hr6 (hst.part [] rfl)) ?_
 rintro e w7 ⟨rfl, hst8⟩
 refine ⟨_, rfl, ?_⟩
 have hst := hst.join (idx := []) (rest := []) rfl hst8
 refine OW.pure 1 [(4, .bool r5)] (by kernel_rfl) ?_
 refine OW.nil rfl ?_
 refine QW.next ?_
 refine CW.ret ?_
 obtain rfl := Option.some.inj hF
 refine QW.ret1 rfl rfl ?_
 exact ⟨rfl, hst.keep [] rfl⟩

theorem strconv_ParseUint_ok (w : World) (p0 : ByteArray) (p1 p2 : Int) (r : Int × Bool) (hF : strconv_ParseUint p0 p1 p2 = some r) (hst : St w (fp []) w []) (hTL : LibG Tryd.prog 4 1 2 3 w (fp [])) :
    Calls Tryd.prog 56 [.string p0, .int .i64 p1, .int .i64 p2].toArray w (fun e w' => ∃ x : Value, e = .returned (.tuple #[.int .u64 r.1, errV 125 r.2 x]) ∧ St w (fp []) w' []) :=
  parseu_ok Tryd.strconv_ParseUint_10_at64_ok Tryd.strconv_ParseUint_10_at64_syntax Tryd.strconv_ParseUint_10_at64_range hF hTL.syn hTL.rng

theorem strconv_ParseInt_ok (w : World) (p0 : ByteArray) (p1 p2 : Int) (r : Int × Bool) (hF : strconv_ParseInt p0 p1 p2 = some r) (hst : St w (fp []) w []) (hTL : LibG Tryd.prog 4 1 2 3 w (fp [])) :
    Calls Tryd.prog 57 [.string p0, .int .i64 p1, .int .i64 p2].toArray w (fun e w' => ∃ x : Value, e = .returned (.tuple #[.int .i64 r.1, errV 125 r.2 x]) ∧ St w (fp []) w' []) :=
  parse_ok Tryd.strconv_ParseInt_10_at64_ok Tryd.strconv_ParseInt_10_at64_syntax Tryd.strconv_ParseInt_10_at64_range hF hTL.syn hTL.rng

set_option maxRecDepth 10000 in
set_option maxHeartbeats 4000000 in
theorem trace_read_ok (w : World) (v0 : Value) (S0 : List Nat) (p0 : api_Entry) (p1 : Int) (p2 : ByteArray) (r : Bool × api_Entry) (hF : trace_read p0 p1 p2 = some r)
    (hst : St w (fp [itI R_t88 [v0] S0 p0]) w [itI R_t88 [v0] S0 p0]) (hTL : LibG Tryd.prog 4 1 2 3 w (fp [itI R_t88 [v0] S0 p0])) :
    Calls Tryd.prog 43 [v0, .int .i32 p1, .string p2].toArray w (fun e w' => ∃ (s0 : List Nat), e = .returned (.bool r.1) ∧ St w (fp [itI R_t88 [v0] S0 p0]) w' [itI R_t88 [v0] s0 r.2]) := by
 refine CW.start (N := 83) Tryd.func43 rfl rfl rfl ?_
 obtain ⟨b1, rfl⟩ := hst.fptr 0 rfl
 refine CW.seq ?_
 refine CW.region ?_
 refine OW.pure 1 [] (by kernel_rfl) ?_
 refine OW.nil rfl ?_
 refine QW.next ?_
 refine CW.seq ?_
 refine CW.seq ?_
 obtain ⟨o5, ho6, hF⟩ := bind_some' hF
 refine CW.cutK (fun a w1 => Rep 83 [(0, .pointer (some ⟨b1, 0, none⟩)), (1, .int .i32 p1), (2, .string p2), (21, .bool o5)] a ∧ St w (fp [itI R_t88 [.pointer (some ⟨b1, 0, none⟩)] S0 p0]) w1 [itI R_t88 [.pointer (some ⟨b1, 0, none⟩)] S0 p0]) ?_ ?_
 ·refine CW.region ?_
  refine OW.pure 3 [(15, .bool (sEq p2 ByteArray.empty))] (by kernel_rfl) ?_
  refine OW.split 15 rfl (fun hc7 => ?_) (fun hc7 => ?_)
  ·have ho6 := ite_t ho6 hc7
   refine OW.pure 6 [(21, .bool true)] (by kernel_rfl) ?_
   refine OW.nil rfl ?_
   obtain rfl := Option.some.inj ho6
   exact QW.meet (fun a ha => ⟨ha.agrees (by kernel_rfl), hst.keep [0] rfl⟩)
  ·have ho6 := ite_f ho6 hc7
   refine OW.pure 1 [(16, .string p2)] (by kernel_rfl) ?_
   obtain ⟨c8, hx9, ho6⟩ := bind_some' ho6
   refine OW.op (v := .int .u8 c8) rfl rfl rfl rfl (fun a ha => sidx_run rfl rfl rfl (by kernel_rfl) hx9 a _ ha) ?_
   refine OW.pure 4 [(21, .bool ((IntKind.i32.wrap c8) != p1))] (by kernel_rfl) ?_
   refine OW.nil rfl ?_
   obtain rfl := Option.some.inj ho6
   exact QW.meet (fun a ha => ⟨ha.agrees (by kernel_rfl), hst.keep [0] rfl⟩)
 ·rintro a w1 ⟨ha, hst⟩
  refine CW.go ?_ ha
  rcases Bool.eq_false_or_eq_true (o5) with hc10 | hc10
  ·have hF := ite_t hF hc10
   refine CW.cond_t rfl hc10 ?_
   refine CW.seq ?_
   refine CW.region ?_
   refine OW.pure 1 [(6, .bool false)] (by kernel_rfl) ?_
   refine OW.nil rfl ?_
   refine QW.next ?_
   refine CW.ret ?_
   refine QW.then_ret ?_
   obtain rfl := Option.some.inj hF
   refine QW.ret1 rfl rfl ?_
   exact ⟨S0, rfl, hst.keep [0] rfl⟩
  ·have hF := ite_f hF hc10
   refine CW.cond_f rfl hc10 ?_
   refine CW.skip ?_
   refine QW.next ?_
   refine CW.seq ?_
   refine CW.seq ?_
   refine CW.region ?_
   refine OW.pure 2 [(22, .pointer (some ⟨b1, 0, none⟩)), (23, .int .i32 p1)] (by kernel_rfl) ?_
   have hst := hst.openQ0 0 rfl
   refine OW.fn rfl rfl rfl rfl (by kernel_rfl) (Tryd.wdK_ok hst b1 p1) ?_
   rintro e w14 ⟨rfl, hst⟩
   refine ⟨_, rfl, ?_⟩
   rcases hk15 : wdK p1 with _ | q16
   ·have hF := ocase_none hF hk15
    refine OW.pure 1 [(7, .pointer none)] (by kernel_rfl) ?_
    refine OW.nil rfl ?_
    refine QW.next ?_
    refine CW.seq ?_
    refine CW.region ?_
    refine OW.pure 2 [(26, .bool false)] (by kernel_rfl) ?_
    refine OW.nil rfl ?_
    refine QW.next ?_
    refine CW.cond_f rfl rfl ?_
    refine CW.skip ?_
    refine QW.next ?_
    refine CW.seq ?_
    refine CW.region ?_
    refine OW.pure 1 [(39, .string p2)] (by kernel_rfl) ?_
    obtain ⟨x40, hx41, hF⟩ := bind_some' hF
    refine OW.op (v := .string x40) rfl rfl rfl rfl (fun a ha => ssuf_run rfl rfl rfl (by kernel_rfl) hx41 a _ ha) ?_
    obtain ⟨r42, hr43, hF⟩ := bind_some' hF
    refine OW.fn rfl rfl rfl rfl (by kernel_rfl) (strconv_ParseInt_ok _ x40 10 64 r42 hr43 (hst.part [] rfl) (hTL.give hst [])) ?_
    rintro e w44 ⟨v46, rfl, hst45⟩
    refine ⟨_, rfl, ?_⟩
    have hst := hst.join (idx := []) (rest := [0]) rfl hst45
    refine OW.pure 5 [(10, .int .i64 r42.1), (11, errV 125 r42.2 v46)] (by kernel_rfl) ?_
    refine OW.nil rfl ?_
    refine QW.next ?_
    refine CW.seq ?_
    refine CW.seq ?_
    refine CW.region ?_
    refine OW.pure 2 [(44, .pointer (some ⟨b1, 0, none⟩)), (45, .int .i32 p1)] (by kernel_rfl) ?_
    refine OW.fn rfl rfl rfl rfl (by kernel_rfl) (Tryd.whK_ok hst b1 p1) ?_
    rintro e w50 ⟨rfl, hst⟩
    refine ⟨_, rfl, ?_⟩
    rcases hk51 : whK p1 with _ | q52
    ·have hF := ocase_none hF hk51
     refine OW.pure 1 [(12, .pointer none)] (by kernel_rfl) ?_
     refine OW.nil rfl ?_
     refine QW.next ?_
     refine CW.seq ?_
     refine CW.region ?_
     refine OW.pure 2 [(48, .bool false)] (by kernel_rfl) ?_
     refine OW.nil rfl ?_
     refine QW.next ?_
     refine CW.cond_f rfl rfl ?_
     refine CW.skip ?_
     refine QW.next ?_
     refine CW.seq ?_
     refine CW.seq ?_
     refine CW.region ?_
     refine OW.pure 1 [(52, .int .i32 p1)] (by kernel_rfl) ?_
     refine OW.nil rfl ?_
     refine QW.next ?_
     refine CW.block ?_
     refine CW.seq ?_
     refine CW.region ?_
     refine OW.pure 2 [(53, .bool (p1 == 120))] (by kernel_rfl) ?_
     refine OW.nil rfl ?_
     refine QW.next ?_
     rcases Bool.eq_false_or_eq_true ((p1 == 120)) with hc67 | hc67
     ·have hF := ite_t hF hc67
      refine CW.cond_t rfl hc67 ?_
      refine CW.region ?_
      refine OW.pure 4 [(56, .int .i64 r42.1), (58, .pointer (some ⟨b1, 21, none⟩))] (by kernel_rfl) ?_
      refine OW.stB hst 0 rfl rfl rfl rfl rfl (by kernel_rfl) rfl rfl [.int .i64 p0.What, .int .i64 p0.Task, .int .i64 p0.From, .int .i64 p0.Cmd, .int .i64 p0.Tag, .int .i64 p0.Event, .int .i64 p0.Hook, .int .i64 p0.Prog, .int .i64 p0.Version, .int .i64 p0.Pc, .int .i64 p0.Item.Map, .int .i64 p0.Item.Op, .int .u64 p0.Item.Key, .int .u64 p0.Item.Val, .int .i64 p0.Res.E, .bool p0.Res.Found, .int .u64 p0.Res.Val, .bool p0.Res.Out, .int .u64 p0.Res.OutKey, .int .u64 p0.Res.OutVal, .int .u64 p0.Val, .int .i64 r42.1] rfl ?_
      intro w69 hst
      refine OW.nil rfl ?_
      refine QW.block_normal ?_
      refine QW.next ?_
      refine CW.seq ?_
      refine CW.region ?_
      refine OW.pure 1 [(81, errV 125 r42.2 v46)] (by kernel_rfl) ?_
      refine OW.op (v := .bool (!r42.2)) rfl rfl rfl rfl (fun a ha => erreq_run rfl rfl rfl (by kernel_rfl) a _ ha) ?_
      refine OW.pure 1 [(6, .bool (!r42.2))] (by kernel_rfl) ?_
      refine OW.nil rfl ?_
      refine QW.next ?_
      refine CW.ret ?_
      have hst := hst.shutP0 (enc := enc_api_Entry) (sz := 22) (he := fun _ => rfl) 0 rfl (api_Entry.mk p0.What p0.Task p0.From p0.Cmd p0.Tag p0.Event p0.Hook p0.Prog p0.Version p0.Pc p0.Item p0.Res p0.Val r42.1) rfl
      obtain rfl := Option.some.inj hF
      refine QW.ret1 rfl rfl ?_
      exact ⟨([b1]), rfl, hst.keep [0] rfl⟩
     ·have hF := ite_f hF hc67
      refine CW.cond_f rfl hc67 ?_
      refine CW.seq ?_
      refine CW.region ?_
      refine OW.pure 2 [(59, .bool (p1 == 111))] (by kernel_rfl) ?_
      refine OW.nil rfl ?_
      refine QW.next ?_
      rcases Bool.eq_false_or_eq_true ((p1 == 111)) with hc70 | hc70
      ·have hF := ite_t hF hc70
       refine CW.cond_t rfl hc70 ?_
       refine CW.region ?_
       refine OW.pure 5 [(62, .int .i64 r42.1), (65, .pointer (some ⟨b1, 11, none⟩))] (by kernel_rfl) ?_
       refine OW.stB hst 0 rfl rfl rfl rfl rfl (by kernel_rfl) rfl rfl [.int .i64 p0.What, .int .i64 p0.Task, .int .i64 p0.From, .int .i64 p0.Cmd, .int .i64 p0.Tag, .int .i64 p0.Event, .int .i64 p0.Hook, .int .i64 p0.Prog, .int .i64 p0.Version, .int .i64 p0.Pc, .int .i64 p0.Item.Map, .int .i64 r42.1, .int .u64 p0.Item.Key, .int .u64 p0.Item.Val, .int .i64 p0.Res.E, .bool p0.Res.Found, .int .u64 p0.Res.Val, .bool p0.Res.Out, .int .u64 p0.Res.OutKey, .int .u64 p0.Res.OutVal, .int .u64 p0.Val, .int .i64 p0.E] rfl ?_
       intro w72 hst
       refine OW.nil rfl ?_
       refine QW.block_normal ?_
       refine QW.next ?_
       refine CW.seq ?_
       refine CW.region ?_
       refine OW.pure 1 [(81, errV 125 r42.2 v46)] (by kernel_rfl) ?_
       refine OW.op (v := .bool (!r42.2)) rfl rfl rfl rfl (fun a ha => erreq_run rfl rfl rfl (by kernel_rfl) a _ ha) ?_
       refine OW.pure 1 [(6, .bool (!r42.2))] (by kernel_rfl) ?_
       refine OW.nil rfl ?_
       refine QW.next ?_
       refine CW.ret ?_
       have hst := hst.shutP0 (enc := enc_api_Entry) (sz := 22) (he := fun _ => rfl) 0 rfl (api_Entry.mk p0.What p0.Task p0.From p0.Cmd p0.Tag p0.Event p0.Hook p0.Prog p0.Version p0.Pc (api_Item.mk p0.Item.Map r42.1 p0.Item.Key p0.Item.Val) p0.Res p0.Val p0.E) rfl
       obtain rfl := Option.some.inj hF
       refine QW.ret1 rfl rfl ?_
       exact ⟨([b1]), rfl, hst.keep [0] rfl⟩
      ·have hF := ite_f hF hc70
       refine CW.cond_f rfl hc70 ?_
       refine CW.seq ?_
       refine CW.region ?_
       refine OW.pure 2 [(66, .bool (p1 == 121))] (by kernel_rfl) ?_
       refine OW.nil rfl ?_
       refine QW.next ?_
       rcases Bool.eq_false_or_eq_true ((p1 == 121)) with hc73 | hc73
       ·have hF := ite_t hF hc73
        refine CW.cond_t rfl hc73 ?_
        refine CW.region ?_
        refine OW.pure 5 [(69, .int .i64 r42.1), (72, .pointer (some ⟨b1, 14, none⟩))] (by kernel_rfl) ?_
        refine OW.stB hst 0 rfl rfl rfl rfl rfl (by kernel_rfl) rfl rfl [.int .i64 p0.What, .int .i64 p0.Task, .int .i64 p0.From, .int .i64 p0.Cmd, .int .i64 p0.Tag, .int .i64 p0.Event, .int .i64 p0.Hook, .int .i64 p0.Prog, .int .i64 p0.Version, .int .i64 p0.Pc, .int .i64 p0.Item.Map, .int .i64 p0.Item.Op, .int .u64 p0.Item.Key, .int .u64 p0.Item.Val, .int .i64 r42.1, .bool p0.Res.Found, .int .u64 p0.Res.Val, .bool p0.Res.Out, .int .u64 p0.Res.OutKey, .int .u64 p0.Res.OutVal, .int .u64 p0.Val, .int .i64 p0.E] rfl ?_
        intro w75 hst
        refine OW.nil rfl ?_
        refine QW.block_normal ?_
        refine QW.next ?_
        refine CW.seq ?_
        refine CW.region ?_
        refine OW.pure 1 [(81, errV 125 r42.2 v46)] (by kernel_rfl) ?_
        refine OW.op (v := .bool (!r42.2)) rfl rfl rfl rfl (fun a ha => erreq_run rfl rfl rfl (by kernel_rfl) a _ ha) ?_
        refine OW.pure 1 [(6, .bool (!r42.2))] (by kernel_rfl) ?_
        refine OW.nil rfl ?_
        refine QW.next ?_
        refine CW.ret ?_
        have hst := hst.shutP0 (enc := enc_api_Entry) (sz := 22) (he := fun _ => rfl) 0 rfl (api_Entry.mk p0.What p0.Task p0.From p0.Cmd p0.Tag p0.Event p0.Hook p0.Prog p0.Version p0.Pc p0.Item (api_Res.mk r42.1 p0.Res.Found p0.Res.Val p0.Res.Out p0.Res.OutKey p0.Res.OutVal) p0.Val p0.E) rfl
        obtain rfl := Option.some.inj hF
        refine QW.ret1 rfl rfl ?_
        exact ⟨([b1]), rfl, hst.keep [0] rfl⟩
       ·have hF := ite_f hF hc73
        refine CW.cond_f rfl hc73 ?_
        refine CW.seq ?_
        refine CW.region ?_
        refine OW.pure 2 [(73, .bool (p1 == 98))] (by kernel_rfl) ?_
        refine OW.nil rfl ?_
        refine QW.next ?_
        rcases Bool.eq_false_or_eq_true ((p1 == 98)) with hc76 | hc76
        ·have hF := ite_t hF hc76
         refine CW.cond_t rfl hc76 ?_
         refine CW.region ?_
         refine OW.pure 6 [(77, .bool (r42.1 == 1)), (80, .pointer (some ⟨b1, 15, none⟩))] (by kernel_rfl) ?_
         refine OW.stB hst 0 rfl rfl rfl rfl rfl (by kernel_rfl) rfl rfl [.int .i64 p0.What, .int .i64 p0.Task, .int .i64 p0.From, .int .i64 p0.Cmd, .int .i64 p0.Tag, .int .i64 p0.Event, .int .i64 p0.Hook, .int .i64 p0.Prog, .int .i64 p0.Version, .int .i64 p0.Pc, .int .i64 p0.Item.Map, .int .i64 p0.Item.Op, .int .u64 p0.Item.Key, .int .u64 p0.Item.Val, .int .i64 p0.Res.E, .bool (r42.1 == 1), .int .u64 p0.Res.Val, .bool p0.Res.Out, .int .u64 p0.Res.OutKey, .int .u64 p0.Res.OutVal, .int .u64 p0.Val, .int .i64 p0.E] rfl ?_
         intro w78 hst
         refine OW.nil rfl ?_
         refine QW.block_normal ?_
         refine QW.next ?_
         refine CW.seq ?_
         refine CW.region ?_
         refine OW.pure 1 [(81, errV 125 r42.2 v46)] (by kernel_rfl) ?_
         refine OW.op (v := .bool (!r42.2)) rfl rfl rfl rfl (fun a ha => erreq_run rfl rfl rfl (by kernel_rfl) a _ ha) ?_
         refine OW.pure 1 [(6, .bool (!r42.2))] (by kernel_rfl) ?_
         refine OW.nil rfl ?_
         refine QW.next ?_
         refine CW.ret ?_
         have hst := hst.shutP0 (enc := enc_api_Entry) (sz := 22) (he := fun _ => rfl) 0 rfl (api_Entry.mk p0.What p0.Task p0.From p0.Cmd p0.Tag p0.Event p0.Hook p0.Prog p0.Version p0.Pc p0.Item (api_Res.mk p0.Res.E (r42.1 == 1) p0.Res.Val p0.Res.Out p0.Res.OutKey p0.Res.OutVal) p0.Val p0.E) rfl
         obtain rfl := Option.some.inj hF
         refine QW.ret1 rfl rfl ?_
         exact ⟨([b1]), rfl, hst.keep [0] rfl⟩
        ·have hF := ite_f hF hc76
         refine CW.cond_f rfl hc76 ?_
         refine CW.skip ?_
         refine QW.block_normal ?_
         refine QW.next ?_
         refine CW.seq ?_
         refine CW.region ?_
         refine OW.pure 1 [(81, errV 125 r42.2 v46)] (by kernel_rfl) ?_
         refine OW.op (v := .bool (!r42.2)) rfl rfl rfl rfl (fun a ha => erreq_run rfl rfl rfl (by kernel_rfl) a _ ha) ?_
         refine OW.pure 1 [(6, .bool (!r42.2))] (by kernel_rfl) ?_
         refine OW.nil rfl ?_
         refine QW.next ?_
         refine CW.ret ?_
         have hst := hst.shutP0 (enc := enc_api_Entry) (sz := 22) (he := fun _ => rfl) 0 rfl p0 rfl
         obtain rfl := Option.some.inj hF
         refine QW.ret1 rfl rfl ?_
         exact ⟨([b1]), rfl, hst.keep [0] rfl⟩
    ·have hF := ocase_some hF hk51
     refine OW.pure 1 [(12, .pointer (some ⟨b1, q52, none⟩))] (by kernel_rfl) ?_
     refine OW.nil rfl ?_
     refine QW.next ?_
     refine CW.seq ?_
     refine CW.region ?_
     refine OW.pure 2 [(48, .bool true)] (by kernel_rfl) ?_
     refine OW.nil rfl ?_
     refine QW.next ?_
     refine CW.cond_t rfl rfl ?_
     refine CW.region ?_
     refine OW.pure 3 [(50, .int .i64 r42.1), (51, .pointer (some ⟨b1, q52, none⟩))] (by kernel_rfl) ?_
     refine OW.stB hst 0 rfl rfl rfl rfl rfl (by kernel_rfl) rfl (whK_le hk51 p0) [.int .i64 (puto_api_Entry p0 q52 r42.1).What, .int .i64 (puto_api_Entry p0 q52 r42.1).Task, .int .i64 (puto_api_Entry p0 q52 r42.1).From, .int .i64 (puto_api_Entry p0 q52 r42.1).Cmd, .int .i64 (puto_api_Entry p0 q52 r42.1).Tag, .int .i64 (puto_api_Entry p0 q52 r42.1).Event, .int .i64 (puto_api_Entry p0 q52 r42.1).Hook, .int .i64 (puto_api_Entry p0 q52 r42.1).Prog, .int .i64 (puto_api_Entry p0 q52 r42.1).Version, .int .i64 (puto_api_Entry p0 q52 r42.1).Pc, .int .i64 (puto_api_Entry p0 q52 r42.1).Item.Map, .int .i64 (puto_api_Entry p0 q52 r42.1).Item.Op, .int .u64 (puto_api_Entry p0 q52 r42.1).Item.Key, .int .u64 (puto_api_Entry p0 q52 r42.1).Item.Val, .int .i64 (puto_api_Entry p0 q52 r42.1).Res.E, .bool (puto_api_Entry p0 q52 r42.1).Res.Found, .int .u64 (puto_api_Entry p0 q52 r42.1).Res.Val, .bool (puto_api_Entry p0 q52 r42.1).Res.Out, .int .u64 (puto_api_Entry p0 q52 r42.1).Res.OutKey, .int .u64 (puto_api_Entry p0 q52 r42.1).Res.OutVal, .int .u64 (puto_api_Entry p0 q52 r42.1).Val, .int .i64 (puto_api_Entry p0 q52 r42.1).E] (whK_put hk51 p0 r42.1) ?_
     intro w54 hst
     refine OW.nil rfl ?_
     refine QW.next ?_
     refine CW.seq ?_
     refine CW.seq ?_
     refine CW.region ?_
     refine OW.pure 1 [(52, .int .i32 p1)] (by kernel_rfl) ?_
     refine OW.nil rfl ?_
     refine QW.next ?_
     refine CW.block ?_
     refine CW.seq ?_
     refine CW.region ?_
     refine OW.pure 2 [(53, .bool (p1 == 120))] (by kernel_rfl) ?_
     refine OW.nil rfl ?_
     refine QW.next ?_
     rcases Bool.eq_false_or_eq_true ((p1 == 120)) with hc55 | hc55
     ·have hF := ite_t hF hc55
      refine CW.cond_t rfl hc55 ?_
      refine CW.region ?_
      refine OW.pure 4 [(56, .int .i64 r42.1), (58, .pointer (some ⟨b1, 21, none⟩))] (by kernel_rfl) ?_
      refine OW.stB hst 0 rfl rfl rfl rfl rfl (by kernel_rfl) rfl rfl [.int .i64 (puto_api_Entry p0 q52 r42.1).What, .int .i64 (puto_api_Entry p0 q52 r42.1).Task, .int .i64 (puto_api_Entry p0 q52 r42.1).From, .int .i64 (puto_api_Entry p0 q52 r42.1).Cmd, .int .i64 (puto_api_Entry p0 q52 r42.1).Tag, .int .i64 (puto_api_Entry p0 q52 r42.1).Event, .int .i64 (puto_api_Entry p0 q52 r42.1).Hook, .int .i64 (puto_api_Entry p0 q52 r42.1).Prog, .int .i64 (puto_api_Entry p0 q52 r42.1).Version, .int .i64 (puto_api_Entry p0 q52 r42.1).Pc, .int .i64 (puto_api_Entry p0 q52 r42.1).Item.Map, .int .i64 (puto_api_Entry p0 q52 r42.1).Item.Op, .int .u64 (puto_api_Entry p0 q52 r42.1).Item.Key, .int .u64 (puto_api_Entry p0 q52 r42.1).Item.Val, .int .i64 (puto_api_Entry p0 q52 r42.1).Res.E, .bool (puto_api_Entry p0 q52 r42.1).Res.Found, .int .u64 (puto_api_Entry p0 q52 r42.1).Res.Val, .bool (puto_api_Entry p0 q52 r42.1).Res.Out, .int .u64 (puto_api_Entry p0 q52 r42.1).Res.OutKey, .int .u64 (puto_api_Entry p0 q52 r42.1).Res.OutVal, .int .u64 (puto_api_Entry p0 q52 r42.1).Val, .int .i64 r42.1] rfl ?_
      intro w57 hst
      refine OW.nil rfl ?_
      refine QW.block_normal ?_
      refine QW.next ?_
      refine CW.seq ?_
      refine CW.region ?_
      refine OW.pure 1 [(81, errV 125 r42.2 v46)] (by kernel_rfl) ?_
      refine OW.op (v := .bool (!r42.2)) rfl rfl rfl rfl (fun a ha => erreq_run rfl rfl rfl (by kernel_rfl) a _ ha) ?_
      refine OW.pure 1 [(6, .bool (!r42.2))] (by kernel_rfl) ?_
      refine OW.nil rfl ?_
      refine QW.next ?_
      refine CW.ret ?_
      have hst := hst.shutP0 (enc := enc_api_Entry) (sz := 22) (he := fun _ => rfl) 0 rfl (api_Entry.mk (puto_api_Entry p0 q52 r42.1).What (puto_api_Entry p0 q52 r42.1).Task (puto_api_Entry p0 q52 r42.1).From (puto_api_Entry p0 q52 r42.1).Cmd (puto_api_Entry p0 q52 r42.1).Tag (puto_api_Entry p0 q52 r42.1).Event (puto_api_Entry p0 q52 r42.1).Hook (puto_api_Entry p0 q52 r42.1).Prog (puto_api_Entry p0 q52 r42.1).Version (puto_api_Entry p0 q52 r42.1).Pc (puto_api_Entry p0 q52 r42.1).Item (puto_api_Entry p0 q52 r42.1).Res (puto_api_Entry p0 q52 r42.1).Val r42.1) rfl
      obtain rfl := Option.some.inj hF
      refine QW.ret1 rfl rfl ?_
      exact ⟨([b1]), rfl, hst.keep [0] rfl⟩
     ·have hF := ite_f hF hc55
      refine CW.cond_f rfl hc55 ?_
      refine CW.seq ?_
      refine CW.region ?_
      refine OW.pure 2 [(59, .bool (p1 == 111))] (by kernel_rfl) ?_
      refine OW.nil rfl ?_
      refine QW.next ?_
      rcases Bool.eq_false_or_eq_true ((p1 == 111)) with hc58 | hc58
      ·have hF := ite_t hF hc58
       refine CW.cond_t rfl hc58 ?_
       refine CW.region ?_
       refine OW.pure 5 [(62, .int .i64 r42.1), (65, .pointer (some ⟨b1, 11, none⟩))] (by kernel_rfl) ?_
       refine OW.stB hst 0 rfl rfl rfl rfl rfl (by kernel_rfl) rfl rfl [.int .i64 (puto_api_Entry p0 q52 r42.1).What, .int .i64 (puto_api_Entry p0 q52 r42.1).Task, .int .i64 (puto_api_Entry p0 q52 r42.1).From, .int .i64 (puto_api_Entry p0 q52 r42.1).Cmd, .int .i64 (puto_api_Entry p0 q52 r42.1).Tag, .int .i64 (puto_api_Entry p0 q52 r42.1).Event, .int .i64 (puto_api_Entry p0 q52 r42.1).Hook, .int .i64 (puto_api_Entry p0 q52 r42.1).Prog, .int .i64 (puto_api_Entry p0 q52 r42.1).Version, .int .i64 (puto_api_Entry p0 q52 r42.1).Pc, .int .i64 (puto_api_Entry p0 q52 r42.1).Item.Map, .int .i64 r42.1, .int .u64 (puto_api_Entry p0 q52 r42.1).Item.Key, .int .u64 (puto_api_Entry p0 q52 r42.1).Item.Val, .int .i64 (puto_api_Entry p0 q52 r42.1).Res.E, .bool (puto_api_Entry p0 q52 r42.1).Res.Found, .int .u64 (puto_api_Entry p0 q52 r42.1).Res.Val, .bool (puto_api_Entry p0 q52 r42.1).Res.Out, .int .u64 (puto_api_Entry p0 q52 r42.1).Res.OutKey, .int .u64 (puto_api_Entry p0 q52 r42.1).Res.OutVal, .int .u64 (puto_api_Entry p0 q52 r42.1).Val, .int .i64 (puto_api_Entry p0 q52 r42.1).E] rfl ?_
       intro w60 hst
       refine OW.nil rfl ?_
       refine QW.block_normal ?_
       refine QW.next ?_
       refine CW.seq ?_
       refine CW.region ?_
       refine OW.pure 1 [(81, errV 125 r42.2 v46)] (by kernel_rfl) ?_
       refine OW.op (v := .bool (!r42.2)) rfl rfl rfl rfl (fun a ha => erreq_run rfl rfl rfl (by kernel_rfl) a _ ha) ?_
       refine OW.pure 1 [(6, .bool (!r42.2))] (by kernel_rfl) ?_
       refine OW.nil rfl ?_
       refine QW.next ?_
       refine CW.ret ?_
       have hst := hst.shutP0 (enc := enc_api_Entry) (sz := 22) (he := fun _ => rfl) 0 rfl (api_Entry.mk (puto_api_Entry p0 q52 r42.1).What (puto_api_Entry p0 q52 r42.1).Task (puto_api_Entry p0 q52 r42.1).From (puto_api_Entry p0 q52 r42.1).Cmd (puto_api_Entry p0 q52 r42.1).Tag (puto_api_Entry p0 q52 r42.1).Event (puto_api_Entry p0 q52 r42.1).Hook (puto_api_Entry p0 q52 r42.1).Prog (puto_api_Entry p0 q52 r42.1).Version (puto_api_Entry p0 q52 r42.1).Pc (api_Item.mk (puto_api_Entry p0 q52 r42.1).Item.Map r42.1 (puto_api_Entry p0 q52 r42.1).Item.Key (puto_api_Entry p0 q52 r42.1).Item.Val) (puto_api_Entry p0 q52 r42.1).Res (puto_api_Entry p0 q52 r42.1).Val (puto_api_Entry p0 q52 r42.1).E) rfl
       obtain rfl := Option.some.inj hF
       refine QW.ret1 rfl rfl ?_
       exact ⟨([b1]), rfl, hst.keep [0] rfl⟩
      ·have hF := ite_f hF hc58
       refine CW.cond_f rfl hc58 ?_
       refine CW.seq ?_
       refine CW.region ?_
       refine OW.pure 2 [(66, .bool (p1 == 121))] (by kernel_rfl) ?_
       refine OW.nil rfl ?_
       refine QW.next ?_
       rcases Bool.eq_false_or_eq_true ((p1 == 121)) with hc61 | hc61
       ·have hF := ite_t hF hc61
        refine CW.cond_t rfl hc61 ?_
        refine CW.region ?_
        refine OW.pure 5 [(69, .int .i64 r42.1), (72, .pointer (some ⟨b1, 14, none⟩))] (by kernel_rfl) ?_
        refine OW.stB hst 0 rfl rfl rfl rfl rfl (by kernel_rfl) rfl rfl [.int .i64 (puto_api_Entry p0 q52 r42.1).What, .int .i64 (puto_api_Entry p0 q52 r42.1).Task, .int .i64 (puto_api_Entry p0 q52 r42.1).From, .int .i64 (puto_api_Entry p0 q52 r42.1).Cmd, .int .i64 (puto_api_Entry p0 q52 r42.1).Tag, .int .i64 (puto_api_Entry p0 q52 r42.1).Event, .int .i64 (puto_api_Entry p0 q52 r42.1).Hook, .int .i64 (puto_api_Entry p0 q52 r42.1).Prog, .int .i64 (puto_api_Entry p0 q52 r42.1).Version, .int .i64 (puto_api_Entry p0 q52 r42.1).Pc, .int .i64 (puto_api_Entry p0 q52 r42.1).Item.Map, .int .i64 (puto_api_Entry p0 q52 r42.1).Item.Op, .int .u64 (puto_api_Entry p0 q52 r42.1).Item.Key, .int .u64 (puto_api_Entry p0 q52 r42.1).Item.Val, .int .i64 r42.1, .bool (puto_api_Entry p0 q52 r42.1).Res.Found, .int .u64 (puto_api_Entry p0 q52 r42.1).Res.Val, .bool (puto_api_Entry p0 q52 r42.1).Res.Out, .int .u64 (puto_api_Entry p0 q52 r42.1).Res.OutKey, .int .u64 (puto_api_Entry p0 q52 r42.1).Res.OutVal, .int .u64 (puto_api_Entry p0 q52 r42.1).Val, .int .i64 (puto_api_Entry p0 q52 r42.1).E] rfl ?_
        intro w63 hst
        refine OW.nil rfl ?_
        refine QW.block_normal ?_
        refine QW.next ?_
        refine CW.seq ?_
        refine CW.region ?_
        refine OW.pure 1 [(81, errV 125 r42.2 v46)] (by kernel_rfl) ?_
        refine OW.op (v := .bool (!r42.2)) rfl rfl rfl rfl (fun a ha => erreq_run rfl rfl rfl (by kernel_rfl) a _ ha) ?_
        refine OW.pure 1 [(6, .bool (!r42.2))] (by kernel_rfl) ?_
        refine OW.nil rfl ?_
        refine QW.next ?_
        refine CW.ret ?_
        have hst := hst.shutP0 (enc := enc_api_Entry) (sz := 22) (he := fun _ => rfl) 0 rfl (api_Entry.mk (puto_api_Entry p0 q52 r42.1).What (puto_api_Entry p0 q52 r42.1).Task (puto_api_Entry p0 q52 r42.1).From (puto_api_Entry p0 q52 r42.1).Cmd (puto_api_Entry p0 q52 r42.1).Tag (puto_api_Entry p0 q52 r42.1).Event (puto_api_Entry p0 q52 r42.1).Hook (puto_api_Entry p0 q52 r42.1).Prog (puto_api_Entry p0 q52 r42.1).Version (puto_api_Entry p0 q52 r42.1).Pc (puto_api_Entry p0 q52 r42.1).Item (api_Res.mk r42.1 (puto_api_Entry p0 q52 r42.1).Res.Found (puto_api_Entry p0 q52 r42.1).Res.Val (puto_api_Entry p0 q52 r42.1).Res.Out (puto_api_Entry p0 q52 r42.1).Res.OutKey (puto_api_Entry p0 q52 r42.1).Res.OutVal) (puto_api_Entry p0 q52 r42.1).Val (puto_api_Entry p0 q52 r42.1).E) rfl
        obtain rfl := Option.some.inj hF
        refine QW.ret1 rfl rfl ?_
        exact ⟨([b1]), rfl, hst.keep [0] rfl⟩
       ·have hF := ite_f hF hc61
        refine CW.cond_f rfl hc61 ?_
        refine CW.seq ?_
        refine CW.region ?_
        refine OW.pure 2 [(73, .bool (p1 == 98))] (by kernel_rfl) ?_
        refine OW.nil rfl ?_
        refine QW.next ?_
        rcases Bool.eq_false_or_eq_true ((p1 == 98)) with hc64 | hc64
        ·have hF := ite_t hF hc64
         refine CW.cond_t rfl hc64 ?_
         refine CW.region ?_
         refine OW.pure 6 [(77, .bool (r42.1 == 1)), (80, .pointer (some ⟨b1, 15, none⟩))] (by kernel_rfl) ?_
         refine OW.stB hst 0 rfl rfl rfl rfl rfl (by kernel_rfl) rfl rfl [.int .i64 (puto_api_Entry p0 q52 r42.1).What, .int .i64 (puto_api_Entry p0 q52 r42.1).Task, .int .i64 (puto_api_Entry p0 q52 r42.1).From, .int .i64 (puto_api_Entry p0 q52 r42.1).Cmd, .int .i64 (puto_api_Entry p0 q52 r42.1).Tag, .int .i64 (puto_api_Entry p0 q52 r42.1).Event, .int .i64 (puto_api_Entry p0 q52 r42.1).Hook, .int .i64 (puto_api_Entry p0 q52 r42.1).Prog, .int .i64 (puto_api_Entry p0 q52 r42.1).Version, .int .i64 (puto_api_Entry p0 q52 r42.1).Pc, .int .i64 (puto_api_Entry p0 q52 r42.1).Item.Map, .int .i64 (puto_api_Entry p0 q52 r42.1).Item.Op, .int .u64 (puto_api_Entry p0 q52 r42.1).Item.Key, .int .u64 (puto_api_Entry p0 q52 r42.1).Item.Val, .int .i64 (puto_api_Entry p0 q52 r42.1).Res.E, .bool (r42.1 == 1), .int .u64 (puto_api_Entry p0 q52 r42.1).Res.Val, .bool (puto_api_Entry p0 q52 r42.1).Res.Out, .int .u64 (puto_api_Entry p0 q52 r42.1).Res.OutKey, .int .u64 (puto_api_Entry p0 q52 r42.1).Res.OutVal, .int .u64 (puto_api_Entry p0 q52 r42.1).Val, .int .i64 (puto_api_Entry p0 q52 r42.1).E] rfl ?_
         intro w66 hst
         refine OW.nil rfl ?_
         refine QW.block_normal ?_
         refine QW.next ?_
         refine CW.seq ?_
         refine CW.region ?_
         refine OW.pure 1 [(81, errV 125 r42.2 v46)] (by kernel_rfl) ?_
         refine OW.op (v := .bool (!r42.2)) rfl rfl rfl rfl (fun a ha => erreq_run rfl rfl rfl (by kernel_rfl) a _ ha) ?_
         refine OW.pure 1 [(6, .bool (!r42.2))] (by kernel_rfl) ?_
         refine OW.nil rfl ?_
         refine QW.next ?_
         refine CW.ret ?_
         have hst := hst.shutP0 (enc := enc_api_Entry) (sz := 22) (he := fun _ => rfl) 0 rfl (api_Entry.mk (puto_api_Entry p0 q52 r42.1).What (puto_api_Entry p0 q52 r42.1).Task (puto_api_Entry p0 q52 r42.1).From (puto_api_Entry p0 q52 r42.1).Cmd (puto_api_Entry p0 q52 r42.1).Tag (puto_api_Entry p0 q52 r42.1).Event (puto_api_Entry p0 q52 r42.1).Hook (puto_api_Entry p0 q52 r42.1).Prog (puto_api_Entry p0 q52 r42.1).Version (puto_api_Entry p0 q52 r42.1).Pc (puto_api_Entry p0 q52 r42.1).Item (api_Res.mk (puto_api_Entry p0 q52 r42.1).Res.E (r42.1 == 1) (puto_api_Entry p0 q52 r42.1).Res.Val (puto_api_Entry p0 q52 r42.1).Res.Out (puto_api_Entry p0 q52 r42.1).Res.OutKey (puto_api_Entry p0 q52 r42.1).Res.OutVal) (puto_api_Entry p0 q52 r42.1).Val (puto_api_Entry p0 q52 r42.1).E) rfl
         obtain rfl := Option.some.inj hF
         refine QW.ret1 rfl rfl ?_
         exact ⟨([b1]), rfl, hst.keep [0] rfl⟩
        ·have hF := ite_f hF hc64
         refine CW.cond_f rfl hc64 ?_
         refine CW.skip ?_
         refine QW.block_normal ?_
         refine QW.next ?_
         refine CW.seq ?_
         refine CW.region ?_
         refine OW.pure 1 [(81, errV 125 r42.2 v46)] (by kernel_rfl) ?_
         refine OW.op (v := .bool (!r42.2)) rfl rfl rfl rfl (fun a ha => erreq_run rfl rfl rfl (by kernel_rfl) a _ ha) ?_
         refine OW.pure 1 [(6, .bool (!r42.2))] (by kernel_rfl) ?_
         refine OW.nil rfl ?_
         refine QW.next ?_
         refine CW.ret ?_
         have hst := hst.shutP0 (enc := enc_api_Entry) (sz := 22) (he := fun _ => rfl) 0 rfl (puto_api_Entry p0 q52 r42.1) rfl
         obtain rfl := Option.some.inj hF
         refine QW.ret1 rfl rfl ?_
         exact ⟨([b1]), rfl, hst.keep [0] rfl⟩
   ·have hF := ocase_some hF hk15
    refine OW.pure 1 [(7, .pointer (some ⟨b1, q16, none⟩))] (by kernel_rfl) ?_
    refine OW.nil rfl ?_
    refine QW.next ?_
    refine CW.seq ?_
    refine CW.region ?_
    refine OW.pure 2 [(26, .bool true)] (by kernel_rfl) ?_
    refine OW.nil rfl ?_
    refine QW.next ?_
    refine CW.cond_t rfl rfl ?_
    refine CW.seq ?_
    refine CW.region ?_
    refine OW.pure 1 [(28, .string p2)] (by kernel_rfl) ?_
    obtain ⟨x24, hx25, hF⟩ := bind_some' hF
    refine OW.op (v := .string x24) rfl rfl rfl rfl (fun a ha => ssuf_run rfl rfl rfl (by kernel_rfl) hx25 a _ ha) ?_
    obtain ⟨r26, hr27, hF⟩ := bind_some' hF
    refine OW.fn rfl rfl rfl rfl (by kernel_rfl) (strconv_ParseUint_ok _ x24 10 64 r26 hr27 (hst.part [] rfl) (hTL.give hst [])) ?_
    rintro e w28 ⟨v30, rfl, hst29⟩
    refine ⟨_, rfl, ?_⟩
    have hst := hst.join (idx := []) (rest := [0]) rfl hst29
    refine OW.pure 5 [(8, .int .u64 r26.1), (9, errV 125 r26.2 v30)] (by kernel_rfl) ?_
    refine OW.nil rfl ?_
    refine QW.next ?_
    refine CW.seq ?_
    refine CW.region ?_
    refine OW.pure 3 [(34, .int .u64 r26.1), (35, .pointer (some ⟨b1, q16, none⟩))] (by kernel_rfl) ?_
    refine OW.stB hst 0 rfl rfl rfl rfl rfl (by kernel_rfl) rfl (wdK_le hk15 p0) [.int .i64 (puto_api_Entry p0 q16 r26.1).What, .int .i64 (puto_api_Entry p0 q16 r26.1).Task, .int .i64 (puto_api_Entry p0 q16 r26.1).From, .int .i64 (puto_api_Entry p0 q16 r26.1).Cmd, .int .i64 (puto_api_Entry p0 q16 r26.1).Tag, .int .i64 (puto_api_Entry p0 q16 r26.1).Event, .int .i64 (puto_api_Entry p0 q16 r26.1).Hook, .int .i64 (puto_api_Entry p0 q16 r26.1).Prog, .int .i64 (puto_api_Entry p0 q16 r26.1).Version, .int .i64 (puto_api_Entry p0 q16 r26.1).Pc, .int .i64 (puto_api_Entry p0 q16 r26.1).Item.Map, .int .i64 (puto_api_Entry p0 q16 r26.1).Item.Op, .int .u64 (puto_api_Entry p0 q16 r26.1).Item.Key, .int .u64 (puto_api_Entry p0 q16 r26.1).Item.Val, .int .i64 (puto_api_Entry p0 q16 r26.1).Res.E, .bool (puto_api_Entry p0 q16 r26.1).Res.Found, .int .u64 (puto_api_Entry p0 q16 r26.1).Res.Val, .bool (puto_api_Entry p0 q16 r26.1).Res.Out, .int .u64 (puto_api_Entry p0 q16 r26.1).Res.OutKey, .int .u64 (puto_api_Entry p0 q16 r26.1).Res.OutVal, .int .u64 (puto_api_Entry p0 q16 r26.1).Val, .int .i64 (puto_api_Entry p0 q16 r26.1).E] (wdK_put hk15 p0 r26.1) ?_
    intro w32 hst
    refine OW.nil rfl ?_
    refine QW.next ?_
    refine CW.seq ?_
    refine CW.region ?_
    refine OW.pure 1 [(36, errV 125 r26.2 v30)] (by kernel_rfl) ?_
    refine OW.op (v := .bool (!r26.2)) rfl rfl rfl rfl (fun a ha => erreq_run rfl rfl rfl (by kernel_rfl) a _ ha) ?_
    refine OW.pure 1 [(6, .bool (!r26.2))] (by kernel_rfl) ?_
    refine OW.nil rfl ?_
    refine QW.next ?_
    refine CW.ret ?_
    refine QW.then_ret ?_
    have hst := hst.shutP0 (enc := enc_api_Entry) (sz := 22) (he := fun _ => rfl) 0 rfl (puto_api_Entry p0 q16 r26.1) rfl
    obtain rfl := Option.some.inj hF
    refine QW.ret1 rfl rfl ?_
    exact ⟨([b1]), rfl, hst.keep [0] rfl⟩

set_option maxRecDepth 10000 in
set_option maxHeartbeats 4000000 in
theorem trace_parsed_ok (w : World) (fu : Nat) (p0 : ByteArray) (r : api_Entry × Bool) (hF : trace_parsed fu p0 = some r)
    (hst : St w (fp []) w []) (hT0 : Rd w (fp []) (.slice (some ⟨0, 0, none⟩) 18 18) enc_trace_form 2 tab_g0) (hTL : LibG Tryd.prog 4 1 2 3 w (fp [])) :
    Calls Tryd.prog 21 [.string p0].toArray w (fun e w' => e = .returned (.tuple #[.agg [.int .i64 r.1.What, .int .i64 r.1.Task, .int .i64 r.1.From, .int .i64 r.1.Cmd, .int .i64 r.1.Tag, .int .i64 r.1.Event, .int .i64 r.1.Hook, .int .i64 r.1.Prog, .int .i64 r.1.Version, .int .i64 r.1.Pc, .int .i64 r.1.Item.Map, .int .i64 r.1.Item.Op, .int .u64 r.1.Item.Key, .int .u64 r.1.Item.Val, .int .i64 r.1.Res.E, .bool r.1.Res.Found, .int .u64 r.1.Res.Val, .bool r.1.Res.Out, .int .u64 r.1.Res.OutKey, .int .u64 r.1.Res.OutVal, .int .u64 r.1.Val, .int .i64 r.1.E].toArray, .bool r.2]) ∧ St w (fp []) w' []) := by
 refine CW.start (N := 71) Tryd.func21 rfl rfl rfl ?_
 refine CW.seq ?_
 refine CW.region ?_
 refine OW.alloc hst rfl rfl rfl [.int .i64 0, .int .i64 0, .int .i64 0, .int .i64 0, .int .i64 0, .int .i64 0, .int .i64 0, .int .i64 0, .int .i64 0, .int .i64 0, .int .i64 0, .int .i64 0, .int .u64 0, .int .u64 0, .int .i64 0, .bool false, .int .u64 0, .bool false, .int .u64 0, .int .u64 0, .int .u64 0, .int .i64 0] (by kernel_rfl) ?_
 intro b3 w4 hst
 refine OW.pure 1 [] (by kernel_rfl) ?_
 refine OW.nil rfl ?_
 refine QW.next ?_
 refine CW.seq ?_
 refine CW.region ?_
 refine OW.pure 1 [(10, .string p0)] (by kernel_rfl) ?_
 obtain ⟨r13, hr14, hF⟩ := bind_some' hF
 refine OW.fn rfl rfl rfl rfl (by kernel_rfl) (strings_Split_ok _ p0 (⟨[32].toArray⟩) r13 hr14 (hst.part [] rfl) (hTL.give hst [])) ?_
 rintro e w15 ⟨v17, rfl, hst16⟩
 refine ⟨_, rfl, ?_⟩
 have hst := hst.join (idx := []) (rest := [0]) rfl hst16
 obtain ⟨l18, a19, c20, rfl⟩ := hst.len 0 rfl
 refine OW.pure 1 [(4, .slice a19 (r13).length c20)] (by kernel_rfl) ?_
 refine OW.nil rfl ?_
 refine QW.next ?_
 refine CW.seq ?_
 refine CW.region ?_
 refine OW.pure 1 [(12, .slice a19 (r13).length c20)] (by kernel_rfl) ?_
 obtain ⟨x31, hx32, hF⟩ := bind_some' hF
 obtain ⟨g34, o35, c36, hv33⟩ := hst.rowv 0 rfl hx32
 refine OW.idx 9 1 rfl rfl rfl rfl hv33 rfl (idx_some hx32).1 (idx_some hx32).2.1 (by kernel_rfl) (by kernel_rfl) ?_
 refine OW.ld rfl rfl rfl rfl (by kernel_rfl) (hst.rowc 0 rfl (fun _ => rfl) hx32 hv33 0 _ rfl) ?_
 obtain ⟨r37, hr38, hF⟩ := bind_some' hF
 refine OW.fn rfl rfl rfl rfl (by kernel_rfl) (trace_find_ok _ x31 r37 hr38 (hst.part [] rfl) (hT0.give hst [])) ?_
 rintro e w39 ⟨rfl, hst40⟩
 refine ⟨_, rfl, ?_⟩
 have hst := hst.join (idx := []) (rest := [0, 1]) rfl hst40
 refine OW.pure 1 [(5, .int .i64 r37)] (by kernel_rfl) ?_
 refine OW.nil rfl ?_
 refine QW.next ?_
 refine CW.seq ?_
 refine CW.seq ?_
 refine CW.region ?_
 refine OW.pure 2 [(17, .bool (decide (r37 < 1)))] (by kernel_rfl) ?_
 refine OW.nil rfl ?_
 refine QW.next ?_
 rcases Bool.eq_false_or_eq_true (decide (r37 < 1)) with hc41 | hc41
 ·have hF := ite_t hF hc41
  refine CW.cond_t rfl hc41 ?_
  refine CW.seq ?_
  refine CW.region ?_
  refine OW.pure 1 [(18, .agg [.int .i64 0, .int .i64 0, .int .i64 0, .int .i64 0, .int .i64 0, .int .i64 0, .int .i64 0, .int .i64 0, .int .i64 0, .int .i64 0, .int .i64 0, .int .i64 0, .int .u64 0, .int .u64 0, .int .i64 0, .bool false, .int .u64 0, .bool false, .int .u64 0, .int .u64 0, .int .u64 0, .int .i64 0].toArray)] (by kernel_rfl) ?_
  refine OW.stB hst 1 rfl rfl rfl rfl rfl (by kernel_rfl) rfl rfl [.int .i64 0, .int .i64 0, .int .i64 0, .int .i64 0, .int .i64 0, .int .i64 0, .int .i64 0, .int .i64 0, .int .i64 0, .int .i64 0, .int .i64 0, .int .i64 0, .int .u64 0, .int .u64 0, .int .i64 0, .bool false, .int .u64 0, .bool false, .int .u64 0, .int .u64 0, .int .u64 0, .int .i64 0] rfl ?_
  intro w43 hst
  refine OW.pure 1 [(3, .bool false)] (by kernel_rfl) ?_
  refine OW.nil rfl ?_
  refine QW.next ?_
  refine CW.ret ?_
  refine QW.then_ret ?_
  obtain rfl := Option.some.inj hF
  refine QW.ret_ct rfl rfl (run_loadN (cs := [.int .i64 0, .int .i64 0, .int .i64 0, .int .i64 0, .int .i64 0, .int .i64 0, .int .i64 0, .int .i64 0, .int .i64 0, .int .i64 0, .int .i64 0, .int .i64 0, .int .u64 0, .int .u64 0, .int .i64 0, .bool false, .int .u64 0, .bool false, .int .u64 0, .int .u64 0, .int .u64 0, .int .i64 0]) (by kernel_rfl) (by kernel_rfl) (hst.blkN 1 rfl 0 22)) rfl ?_
  exact ⟨rfl, hst.keep [] rfl⟩
 ·have hF := ite_f hF hc41
  refine CW.cond_f rfl hc41 ?_
  refine CW.skip ?_
  refine QW.next ?_
  refine CW.seq ?_
  refine CW.region ?_
  refine OW.pure 2 [(20, .agg [.int .i64 r37, .int .i64 0, .int .i64 0, .int .i64 0, .int .i64 0, .int .i64 0, .int .i64 0, .int .i64 0, .int .i64 0, .int .i64 0, .int .i64 0, .int .i64 0, .int .u64 0, .int .u64 0, .int .i64 0, .bool false, .int .u64 0, .bool false, .int .u64 0, .int .u64 0, .int .u64 0, .int .i64 0].toArray)] (by kernel_rfl) ?_
  refine OW.alloc hst rfl rfl rfl [.int .i64 0, .int .i64 0, .int .i64 0, .int .i64 0, .int .i64 0, .int .i64 0, .int .i64 0, .int .i64 0, .int .i64 0, .int .i64 0, .int .i64 0, .int .i64 0, .int .u64 0, .int .u64 0, .int .i64 0, .bool false, .int .u64 0, .bool false, .int .u64 0, .int .u64 0, .int .u64 0, .int .i64 0] (by kernel_rfl) ?_
  intro b47 w48 hst
  refine OW.stB hst 2 rfl rfl rfl rfl rfl (by kernel_rfl) rfl rfl [.int .i64 r37, .int .i64 0, .int .i64 0, .int .i64 0, .int .i64 0, .int .i64 0, .int .i64 0, .int .i64 0, .int .i64 0, .int .i64 0, .int .i64 0, .int .i64 0, .int .u64 0, .int .u64 0, .int .i64 0, .bool false, .int .u64 0, .bool false, .int .u64 0, .int .u64 0, .int .u64 0, .int .i64 0] rfl ?_
  intro w49 hst
  refine OW.nil rfl ?_
  refine QW.next ?_
  refine CW.seq ?_
  refine CW.region ?_
  refine OW.pure 1 [(21, .int .i64 r37)] (by kernel_rfl) ?_
  obtain ⟨x56, hx57, hF⟩ := bind_some' hF
  refine OW.op (v := .pointer (some ⟨0, 0 + Int.toNat r37 * 2, none⟩)) rfl rfl rfl rfl (fun a ha => aidx_run (n := tab_g0.length) 70 2 rfl rfl rfl (idx_some hx57).1 (idx_some hx57).2.1 (by kernel_rfl) (by kernel_rfl) a _ ha) ?_
  refine OW.ldN (cs := enc_trace_form x56) rfl rfl rfl rfl (by kernel_rfl) (by kernel_rfl) (hT0.cellv hst hx57 (show Value.slice (some ⟨0, 0, none⟩) 18 18 = .slice (some ⟨0, 0, none⟩) tab_g0.length 18 from rfl)) ?_
  obtain ⟨r58, hr59, hF⟩ := bind_some' hF
  refine OW.fn rfl rfl rfl rfl (by kernel_rfl) (trace_letters_ok _ x56 false r58 hr59 (hst.part [] rfl) (hTL.give hst [])) ?_
  rintro e w60 ⟨rfl, hst61⟩
  refine ⟨_, rfl, ?_⟩
  have hst := hst.join (idx := []) (rest := [0, 1, 2]) rfl hst61
  refine OW.pure 1 [(7, .string r58)] (by kernel_rfl) ?_
  refine OW.nil rfl ?_
  refine QW.next ?_
  refine CW.seq ?_
  refine CW.seq ?_
  obtain ⟨o67, ho68, hF⟩ := bind_some' hF
  refine CW.cutK (fun a w1 => Rep 71 [(0, .string p0), (2, .pointer (some ⟨b3, 0, none⟩)), (4, .slice a19 (r13).length c20), (5, .int .i64 r37), (6, .pointer (some ⟨b47, 0, none⟩)), (7, .string r58), (37, .bool o67)] a ∧ St w (fp []) w1 [itI R_t88 [.pointer (some ⟨b3, 0, none⟩)] ([b3]) (api_Entry.mk 0 0 0 0 0 0 0 0 0 0 (api_Item.mk 0 0 0 0) (api_Res.mk 0 false 0 false 0 0) 0 0), rowI (.slice a19 (r13).length c20) 9 encText 1 r13, itI R_t88 [.pointer (some ⟨b47, 0, none⟩)] ([b47]) (api_Entry.mk r37 0 0 0 0 0 0 0 0 0 (api_Item.mk 0 0 0 0) (api_Res.mk 0 false 0 false 0 0) 0 0)]) ?_ ?_
  ·refine CW.region ?_
   refine OW.pure 7 [(31, .bool (((r13).length : Int) == (w64 ((r58.size : Int) + 3))))] (by kernel_rfl) ?_
   refine OW.split 31 rfl (fun hc69 => ?_) (fun hc69 => ?_)
   ·have ho68 := ite_t ho68 hc69
    refine OW.pure 1 [(32, .int .i64 r37)] (by kernel_rfl) ?_
    refine OW.op (v := .pointer (some ⟨0, 0 + Int.toNat r37 * 2, none⟩)) rfl rfl rfl rfl (fun a ha => aidx_run (n := tab_g0.length) 70 2 rfl rfl rfl (idx_some hx57).1 (idx_some hx57).2.1 (by kernel_rfl) (by kernel_rfl) a _ ha) ?_
    refine OW.pure 1 [(34, .pointer (some ⟨0, 0 + Int.toNat r37 * 2 + 1, none⟩))] (by kernel_rfl) ?_
    refine OW.ld rfl rfl rfl rfl (by kernel_rfl) (hT0.cellv hst hx57 (show Value.slice (some ⟨0, 0, none⟩) 18 18 = .slice (some ⟨0, 0, none⟩) tab_g0.length 18 from rfl) 1 _ rfl) ?_
    obtain ⟨r70, hr71, ho68⟩ := bind_some' ho68
    refine OW.fn rfl rfl rfl rfl (by kernel_rfl) (strings_HasSuffix_ok _ x56.fields (⟨[82].toArray⟩) r70 hr71 (hst.part [] rfl)) ?_
    rintro e w72 ⟨rfl, hst73⟩
    refine ⟨_, rfl, ?_⟩
    have hst := hst.join (idx := []) (rest := [0, 1, 2]) rfl hst73
    refine OW.pure 1 [(37, .bool r70)] (by kernel_rfl) ?_
    refine OW.nil rfl ?_
    have hst := hst.shutP0 (enc := enc_api_Entry) (sz := 22) (he := fun _ => rfl) 1 rfl (api_Entry.mk 0 0 0 0 0 0 0 0 0 0 (api_Item.mk 0 0 0 0) (api_Res.mk 0 false 0 false 0 0) 0 0) rfl
    have hst := hst.shutP0 (enc := enc_api_Entry) (sz := 22) (he := fun _ => rfl) 2 rfl (api_Entry.mk r37 0 0 0 0 0 0 0 0 0 (api_Item.mk 0 0 0 0) (api_Res.mk 0 false 0 false 0 0) 0 0) rfl
    obtain rfl := Option.some.inj ho68
    exact QW.meet (fun a ha => ⟨ha.agrees (by kernel_rfl), hst.keep [1, 0, 2] rfl⟩)
   ·have ho68 := ite_f ho68 hc69
    refine OW.pure 6 [(37, .bool false)] (by kernel_rfl) ?_
    refine OW.nil rfl ?_
    have hst := hst.shutP0 (enc := enc_api_Entry) (sz := 22) (he := fun _ => rfl) 1 rfl (api_Entry.mk 0 0 0 0 0 0 0 0 0 0 (api_Item.mk 0 0 0 0) (api_Res.mk 0 false 0 false 0 0) 0 0) rfl
    have hst := hst.shutP0 (enc := enc_api_Entry) (sz := 22) (he := fun _ => rfl) 2 rfl (api_Entry.mk r37 0 0 0 0 0 0 0 0 0 (api_Item.mk 0 0 0 0) (api_Res.mk 0 false 0 false 0 0) 0 0) rfl
    obtain rfl := Option.some.inj ho68
    exact QW.meet (fun a ha => ⟨ha.agrees (by kernel_rfl), hst.keep [1, 0, 2] rfl⟩)
  ·rintro a w1 ⟨ha, hst⟩
   refine CW.go ?_ ha
   obtain ⟨o85, ho86, hF⟩ := bind_some' hF
   refine CW.cutK (fun a w1 => Rep 71 [(0, .string p0), (2, .pointer (some ⟨b3, 0, none⟩)), (4, .slice a19 (r13).length c20), (6, .pointer (some ⟨b47, 0, none⟩)), (7, .string o85.2)] a ∧ St w (fp []) w1 [itI R_t88 [.pointer (some ⟨b3, 0, none⟩)] ([b3]) (api_Entry.mk 0 0 0 0 0 0 0 0 0 0 (api_Item.mk 0 0 0 0) (api_Res.mk 0 false 0 false 0 0) 0 0), rowI (.slice a19 (r13).length c20) 9 encText 1 r13, itI R_t88 [.pointer (some ⟨b47, 0, none⟩)] ([b47]) o85.1]) ?_ ?_
   ·rcases Bool.eq_false_or_eq_true (o67) with hc87 | hc87
    ·have ho86 := ite_t ho86 hc87
     refine CW.cond_t rfl hc87 ?_
     refine CW.seq ?_
     have hst := hst.openQ0 2 rfl
     refine CW.region ?_
     refine OW.pure 2 [(39, .pointer (some ⟨b47, 17, none⟩))] (by kernel_rfl) ?_
     refine OW.stB hst 2 rfl rfl rfl rfl rfl (by kernel_rfl) rfl rfl [.int .i64 (api_Entry.mk r37 0 0 0 0 0 0 0 0 0 (api_Item.mk 0 0 0 0) (api_Res.mk 0 false 0 false 0 0) 0 0).What, .int .i64 (api_Entry.mk r37 0 0 0 0 0 0 0 0 0 (api_Item.mk 0 0 0 0) (api_Res.mk 0 false 0 false 0 0) 0 0).Task, .int .i64 (api_Entry.mk r37 0 0 0 0 0 0 0 0 0 (api_Item.mk 0 0 0 0) (api_Res.mk 0 false 0 false 0 0) 0 0).From, .int .i64 (api_Entry.mk r37 0 0 0 0 0 0 0 0 0 (api_Item.mk 0 0 0 0) (api_Res.mk 0 false 0 false 0 0) 0 0).Cmd, .int .i64 (api_Entry.mk r37 0 0 0 0 0 0 0 0 0 (api_Item.mk 0 0 0 0) (api_Res.mk 0 false 0 false 0 0) 0 0).Tag, .int .i64 (api_Entry.mk r37 0 0 0 0 0 0 0 0 0 (api_Item.mk 0 0 0 0) (api_Res.mk 0 false 0 false 0 0) 0 0).Event, .int .i64 (api_Entry.mk r37 0 0 0 0 0 0 0 0 0 (api_Item.mk 0 0 0 0) (api_Res.mk 0 false 0 false 0 0) 0 0).Hook, .int .i64 (api_Entry.mk r37 0 0 0 0 0 0 0 0 0 (api_Item.mk 0 0 0 0) (api_Res.mk 0 false 0 false 0 0) 0 0).Prog, .int .i64 (api_Entry.mk r37 0 0 0 0 0 0 0 0 0 (api_Item.mk 0 0 0 0) (api_Res.mk 0 false 0 false 0 0) 0 0).Version, .int .i64 (api_Entry.mk r37 0 0 0 0 0 0 0 0 0 (api_Item.mk 0 0 0 0) (api_Res.mk 0 false 0 false 0 0) 0 0).Pc, .int .i64 (api_Entry.mk r37 0 0 0 0 0 0 0 0 0 (api_Item.mk 0 0 0 0) (api_Res.mk 0 false 0 false 0 0) 0 0).Item.Map, .int .i64 (api_Entry.mk r37 0 0 0 0 0 0 0 0 0 (api_Item.mk 0 0 0 0) (api_Res.mk 0 false 0 false 0 0) 0 0).Item.Op, .int .u64 (api_Entry.mk r37 0 0 0 0 0 0 0 0 0 (api_Item.mk 0 0 0 0) (api_Res.mk 0 false 0 false 0 0) 0 0).Item.Key, .int .u64 (api_Entry.mk r37 0 0 0 0 0 0 0 0 0 (api_Item.mk 0 0 0 0) (api_Res.mk 0 false 0 false 0 0) 0 0).Item.Val, .int .i64 (api_Entry.mk r37 0 0 0 0 0 0 0 0 0 (api_Item.mk 0 0 0 0) (api_Res.mk 0 false 0 false 0 0) 0 0).Res.E, .bool (api_Entry.mk r37 0 0 0 0 0 0 0 0 0 (api_Item.mk 0 0 0 0) (api_Res.mk 0 false 0 false 0 0) 0 0).Res.Found, .int .u64 (api_Entry.mk r37 0 0 0 0 0 0 0 0 0 (api_Item.mk 0 0 0 0) (api_Res.mk 0 false 0 false 0 0) 0 0).Res.Val, .bool true, .int .u64 (api_Entry.mk r37 0 0 0 0 0 0 0 0 0 (api_Item.mk 0 0 0 0) (api_Res.mk 0 false 0 false 0 0) 0 0).Res.OutKey, .int .u64 (api_Entry.mk r37 0 0 0 0 0 0 0 0 0 (api_Item.mk 0 0 0 0) (api_Res.mk 0 false 0 false 0 0) 0 0).Res.OutVal, .int .u64 (api_Entry.mk r37 0 0 0 0 0 0 0 0 0 (api_Item.mk 0 0 0 0) (api_Res.mk 0 false 0 false 0 0) 0 0).Val, .int .i64 (api_Entry.mk r37 0 0 0 0 0 0 0 0 0 (api_Item.mk 0 0 0 0) (api_Res.mk 0 false 0 false 0 0) 0 0).E] rfl ?_
     intro w89 hst
     refine OW.nil rfl ?_
     refine QW.next ?_
     refine CW.region ?_
     refine OW.pure 1 [(40, .int .i64 r37)] (by kernel_rfl) ?_
     refine OW.op (v := .pointer (some ⟨0, 0 + Int.toNat r37 * 2, none⟩)) rfl rfl rfl rfl (fun a ha => aidx_run (n := tab_g0.length) 70 2 rfl rfl rfl (idx_some hx57).1 (idx_some hx57).2.1 (by kernel_rfl) (by kernel_rfl) a _ ha) ?_
     refine OW.ldN (cs := enc_trace_form x56) rfl rfl rfl rfl (by kernel_rfl) (by kernel_rfl) (hT0.cellv hst hx57 (show Value.slice (some ⟨0, 0, none⟩) 18 18 = .slice (some ⟨0, 0, none⟩) tab_g0.length 18 from rfl)) ?_
     obtain ⟨r94, hr95, ho86⟩ := bind_some' ho86
     refine OW.fn rfl rfl rfl rfl (by kernel_rfl) (trace_letters_ok _ x56 true r94 hr95 (hst.part [] rfl) (hTL.give hst [])) ?_
     rintro e w96 ⟨rfl, hst97⟩
     refine ⟨_, rfl, ?_⟩
     have hst := hst.join (idx := []) (rest := [0, 1, 2]) rfl hst97
     refine OW.pure 1 [(7, .string r94)] (by kernel_rfl) ?_
     refine OW.nil rfl ?_
     have hst := hst.shutP0 (enc := enc_api_Entry) (sz := 22) (he := fun _ => rfl) 2 rfl (api_Entry.mk (api_Entry.mk r37 0 0 0 0 0 0 0 0 0 (api_Item.mk 0 0 0 0) (api_Res.mk 0 false 0 false 0 0) 0 0).What (api_Entry.mk r37 0 0 0 0 0 0 0 0 0 (api_Item.mk 0 0 0 0) (api_Res.mk 0 false 0 false 0 0) 0 0).Task (api_Entry.mk r37 0 0 0 0 0 0 0 0 0 (api_Item.mk 0 0 0 0) (api_Res.mk 0 false 0 false 0 0) 0 0).From (api_Entry.mk r37 0 0 0 0 0 0 0 0 0 (api_Item.mk 0 0 0 0) (api_Res.mk 0 false 0 false 0 0) 0 0).Cmd (api_Entry.mk r37 0 0 0 0 0 0 0 0 0 (api_Item.mk 0 0 0 0) (api_Res.mk 0 false 0 false 0 0) 0 0).Tag (api_Entry.mk r37 0 0 0 0 0 0 0 0 0 (api_Item.mk 0 0 0 0) (api_Res.mk 0 false 0 false 0 0) 0 0).Event (api_Entry.mk r37 0 0 0 0 0 0 0 0 0 (api_Item.mk 0 0 0 0) (api_Res.mk 0 false 0 false 0 0) 0 0).Hook (api_Entry.mk r37 0 0 0 0 0 0 0 0 0 (api_Item.mk 0 0 0 0) (api_Res.mk 0 false 0 false 0 0) 0 0).Prog (api_Entry.mk r37 0 0 0 0 0 0 0 0 0 (api_Item.mk 0 0 0 0) (api_Res.mk 0 false 0 false 0 0) 0 0).Version (api_Entry.mk r37 0 0 0 0 0 0 0 0 0 (api_Item.mk 0 0 0 0) (api_Res.mk 0 false 0 false 0 0) 0 0).Pc (api_Entry.mk r37 0 0 0 0 0 0 0 0 0 (api_Item.mk 0 0 0 0) (api_Res.mk 0 false 0 false 0 0) 0 0).Item (api_Res.mk (api_Entry.mk r37 0 0 0 0 0 0 0 0 0 (api_Item.mk 0 0 0 0) (api_Res.mk 0 false 0 false 0 0) 0 0).Res.E (api_Entry.mk r37 0 0 0 0 0 0 0 0 0 (api_Item.mk 0 0 0 0) (api_Res.mk 0 false 0 false 0 0) 0 0).Res.Found (api_Entry.mk r37 0 0 0 0 0 0 0 0 0 (api_Item.mk 0 0 0 0) (api_Res.mk 0 false 0 false 0 0) 0 0).Res.Val true (api_Entry.mk r37 0 0 0 0 0 0 0 0 0 (api_Item.mk 0 0 0 0) (api_Res.mk 0 false 0 false 0 0) 0 0).Res.OutKey (api_Entry.mk r37 0 0 0 0 0 0 0 0 0 (api_Item.mk 0 0 0 0) (api_Res.mk 0 false 0 false 0 0) 0 0).Res.OutVal) (api_Entry.mk r37 0 0 0 0 0 0 0 0 0 (api_Item.mk 0 0 0 0) (api_Res.mk 0 false 0 false 0 0) 0 0).Val (api_Entry.mk r37 0 0 0 0 0 0 0 0 0 (api_Item.mk 0 0 0 0) (api_Res.mk 0 false 0 false 0 0) 0 0).E) rfl
     obtain rfl := Option.some.inj ho86
     exact QW.meet (fun a ha => ⟨ha.agrees (by kernel_rfl), hst.keep [0, 1, 2] rfl⟩)
    ·have ho86 := ite_f ho86 hc87
     refine CW.cond_f rfl hc87 ?_
     refine CW.skip ?_
     obtain rfl := Option.some.inj ho86
     exact QW.meet (fun a ha => ⟨ha.agrees (by kernel_rfl), hst.keep [0, 1, 2] rfl⟩)
   ·rintro a w1 ⟨ha, hst⟩
    refine CW.go ?_ ha
    refine CW.seq ?_
    refine CW.seq ?_
    refine CW.region ?_
    refine OW.pure 6 [(49, .bool (((r13).length : Int) != (w64 ((o85.2.size : Int) + 1))))] (by kernel_rfl) ?_
    refine OW.nil rfl ?_
    refine QW.next ?_
    rcases Bool.eq_false_or_eq_true ((((r13).length : Int) != (w64 ((o85.2.size : Int) + 1)))) with hc98 | hc98
    ·have hF := ite_t hF hc98
     refine CW.cond_t rfl hc98 ?_
     refine CW.seq ?_
     have hst := hst.openQ0 0 rfl
     refine CW.region ?_
     refine OW.pure 1 [(50, .agg [.int .i64 0, .int .i64 0, .int .i64 0, .int .i64 0, .int .i64 0, .int .i64 0, .int .i64 0, .int .i64 0, .int .i64 0, .int .i64 0, .int .i64 0, .int .i64 0, .int .u64 0, .int .u64 0, .int .i64 0, .bool false, .int .u64 0, .bool false, .int .u64 0, .int .u64 0, .int .u64 0, .int .i64 0].toArray)] (by kernel_rfl) ?_
     refine OW.stB hst 0 rfl rfl rfl rfl rfl (by kernel_rfl) rfl rfl [.int .i64 0, .int .i64 0, .int .i64 0, .int .i64 0, .int .i64 0, .int .i64 0, .int .i64 0, .int .i64 0, .int .i64 0, .int .i64 0, .int .i64 0, .int .i64 0, .int .u64 0, .int .u64 0, .int .i64 0, .bool false, .int .u64 0, .bool false, .int .u64 0, .int .u64 0, .int .u64 0, .int .i64 0] rfl ?_
     intro w100 hst
     refine OW.pure 1 [(3, .bool false)] (by kernel_rfl) ?_
     refine OW.nil rfl ?_
     refine QW.next ?_
     refine CW.ret ?_
     refine QW.then_ret ?_
     obtain rfl := Option.some.inj hF
     refine QW.ret_ct rfl rfl (run_loadN (cs := [.int .i64 0, .int .i64 0, .int .i64 0, .int .i64 0, .int .i64 0, .int .i64 0, .int .i64 0, .int .i64 0, .int .i64 0, .int .i64 0, .int .i64 0, .int .i64 0, .int .u64 0, .int .u64 0, .int .i64 0, .bool false, .int .u64 0, .bool false, .int .u64 0, .int .u64 0, .int .u64 0, .int .i64 0]) (by kernel_rfl) (by kernel_rfl) (hst.blkN 0 rfl 0 22)) rfl ?_
     exact ⟨rfl, hst.keep [] rfl⟩
    ·have hF := ite_f hF hc98
     refine CW.cond_f rfl hc98 ?_
     refine CW.skip ?_
     refine QW.next ?_
     refine CW.seq ?_
     refine CW.seq ?_
     refine CW.region ?_
     refine OW.pure 1 [(51, .string o85.2)] (by kernel_rfl) ?_
     refine OW.srange (s := o85.2) hst rfl rfl rfl rfl (by kernel_rfl) ?_
     intro it103 w104 hst
     refine OW.nil rfl ?_
     refine QW.next ?_
     obtain ⟨o200, ho201, hF⟩ := bind_some' hF
     refine CW.cutK (fun a w1 => ∃ (t202 : api_Entry) (S199 : List Nat), o200 = .inl t202 ∧ Rep 71 [(0, .string p0), (2, .pointer (some ⟨b3, 0, none⟩)), (6, .pointer (some ⟨b47, 0, none⟩))] a ∧ St w (fp []) w1 [itI R_t88 [.pointer (some ⟨b3, 0, none⟩)] ([b3]) (api_Entry.mk 0 0 0 0 0 0 0 0 0 0 (api_Item.mk 0 0 0 0) (api_Res.mk 0 false 0 false 0 0) 0 0), itI R_t88 [.pointer (some ⟨b47, 0, none⟩)] S199 t202]) ?_ ?_
     ·refine CW.block ?_
      refine CW.loop (fun n a w1 => ∃ (s266 : api_Entry × Nat) (S267 : List Nat), Rep 71 [(0, .string p0), (2, .pointer (some ⟨b3, 0, none⟩)), (4, .slice a19 (r13).length c20), (6, .pointer (some ⟨b47, 0, none⟩)), (52, .pointer (some ⟨it103, 0, none⟩))] a ∧ St w (fp []) w1 [itI R_t88 [.pointer (some ⟨b3, 0, none⟩)] ([b3]) (api_Entry.mk 0 0 0 0 0 0 0 0 0 0 (api_Item.mk 0 0 0 0) (api_Res.mk 0 false 0 false 0 0) 0 0), rowI (.slice a19 (r13).length c20) 9 encText 1 r13, itI R_t88 [.pointer (some ⟨b47, 0, none⟩)] S267 s266.1, sitI it103 o85.2 s266.2] ∧ loop (trace_parsed_l1 r13 o85) n s266 = some o200) fu (fun a ha => ⟨(o85.1, 0), ([b47]), ha.agrees (by kernel_rfl), hst.keep [0, 1, 2, 3] rfl, ho201⟩) ?_
      rintro n264 a w1 ⟨s266, S267, ha, hst, hl265⟩
      rcases n264 with _ | n264
      ·exact (loop_zero hl265).elim
      refine CW.go ?_ ha
      refine CW.seq ?_
      refine CW.region ?_
      refine OW.snext hst 3 rfl rfl rfl rfl rfl ?_ ?_
      ·intro hp270 w271 hst
       have hl265 := ite_t hl265 hp270
       refine OW.pure 1 [(54, .bool true)] (by kernel_rfl) ?_
       refine OW.nil rfl ?_
       refine QW.next ?_
       refine CW.seq ?_
       refine CW.cond_t rfl rfl ?_
       refine CW.skip ?_
       refine QW.next ?_
       refine CW.block ?_
       refine CW.seq ?_
       refine CW.region ?_
       refine OW.pure 4 [(8, .int .i64 (s266.2 : Int)), (9, .int .i32 (runeAt o85.2 s266.2))] (by kernel_rfl) ?_
       refine OW.nil rfl ?_
       refine QW.next ?_
       refine CW.seq ?_
       refine CW.region ?_
       refine OW.pure 4 [(57, .int .i32 (runeAt o85.2 s266.2)), (58, .slice a19 (r13).length c20), (60, .int .i64 (w64 ((s266.2 : Int) + 1)))] (by kernel_rfl) ?_
       obtain ⟨x283, hx284, hl265⟩ := bind_some' hl265
       obtain ⟨g286, o287, c288, hv285⟩ := hst.rowv 1 rfl hx284
       refine OW.idx 9 1 rfl rfl rfl rfl hv285 rfl (idx_some hx284).1 (idx_some hx284).2.1 (by kernel_rfl) (by kernel_rfl) ?_
       refine OW.ld rfl rfl rfl rfl (by kernel_rfl) (hst.rowc 1 rfl (fun _ => rfl) hx284 hv285 0 _ rfl) ?_
       obtain ⟨r289, hr290, hl265⟩ := bind_some' hl265
       refine OW.fn rfl rfl rfl rfl (by kernel_rfl) (trace_read_ok _ (.pointer (some ⟨b47, 0, none⟩)) S267 s266.1 (runeAt o85.2 s266.2) x283 r289 hr290 (hst.part [2] rfl) (hTL.give hst [2])) ?_
       rintro e w291 ⟨S293, rfl, hst292⟩
       refine ⟨_, rfl, ?_⟩
       have hst := hst.join (idx := [2]) (rest := [0, 1, 3]) rfl hst292
       refine OW.pure 1 [(64, .bool (!r289.1))] (by kernel_rfl) ?_
       refine OW.nil rfl ?_
       refine QW.next ?_
       rcases Bool.eq_false_or_eq_true ((!r289.1)) with hc294 | hc294
       ·have hl265 := ite_t hl265 hc294
        refine CW.cond_t rfl hc294 ?_
        refine CW.seq ?_
        have hst := hst.openQ0 1 rfl
        refine CW.region ?_
        refine OW.pure 1 [(65, .agg [.int .i64 0, .int .i64 0, .int .i64 0, .int .i64 0, .int .i64 0, .int .i64 0, .int .i64 0, .int .i64 0, .int .i64 0, .int .i64 0, .int .i64 0, .int .i64 0, .int .u64 0, .int .u64 0, .int .i64 0, .bool false, .int .u64 0, .bool false, .int .u64 0, .int .u64 0, .int .u64 0, .int .i64 0].toArray)] (by kernel_rfl) ?_
        refine OW.stB hst 1 rfl rfl rfl rfl rfl (by kernel_rfl) rfl rfl [.int .i64 0, .int .i64 0, .int .i64 0, .int .i64 0, .int .i64 0, .int .i64 0, .int .i64 0, .int .i64 0, .int .i64 0, .int .i64 0, .int .i64 0, .int .i64 0, .int .u64 0, .int .u64 0, .int .i64 0, .bool false, .int .u64 0, .bool false, .int .u64 0, .int .u64 0, .int .u64 0, .int .i64 0] rfl ?_
        intro w296 hst
        refine OW.pure 1 [(3, .bool false)] (by kernel_rfl) ?_
        refine OW.nil rfl ?_
        refine QW.next ?_
        refine CW.ret ?_
        refine QW.block_ret ?_
        refine QW.then_ret ?_
        refine QW.block_ret ?_
        refine QW.then_ret ?_
        obtain rfl := Option.some.inj hl265
        obtain rfl := Option.some.inj hF
        refine QW.ret_ct rfl rfl (run_loadN (cs := [.int .i64 0, .int .i64 0, .int .i64 0, .int .i64 0, .int .i64 0, .int .i64 0, .int .i64 0, .int .i64 0, .int .i64 0, .int .i64 0, .int .i64 0, .int .i64 0, .int .u64 0, .int .u64 0, .int .i64 0, .bool false, .int .u64 0, .bool false, .int .u64 0, .int .u64 0, .int .u64 0, .int .i64 0]) (by kernel_rfl) (by kernel_rfl) (hst.blkN 1 rfl 0 22)) rfl ?_
        exact ⟨rfl, hst.keep [] rfl⟩
       ·have hl265 := ite_f hl265 hc294
        refine CW.cond_f rfl hc294 ?_
        refine CW.skip ?_
        refine QW.block_normal ?_
        exact QW.meet (fun a ha => ⟨n264, Nat.lt_succ_self _, (r289.2, (runeEnd o85.2 s266.2)), S293, ha.agrees (by kernel_rfl), hst.keep [1, 2, 0, 3] rfl, hl265⟩)
      ·intro hp270
       have hl265 := ite_f hl265 hp270
       refine OW.pure 1 [(54, .bool false)] (by kernel_rfl) ?_
       refine OW.nil rfl ?_
       refine QW.next ?_
       refine CW.seq ?_
       refine CW.cond_f rfl rfl ?_
       refine CW.exit ?_
       refine QW.then_exit ?_
       refine QW.then_exit ?_
       refine QW.block_here ?_
       obtain rfl := Option.some.inj hl265
       exact QW.meet (fun a ha => ⟨s266.1, S267, rfl, ha.agrees (by kernel_rfl), hst.keep [0, 2] rfl⟩)
     ·rintro a w1 ⟨t202, S199, rfl, ha, hst⟩
      refine CW.go ?_ ha
      refine CW.seq ?_
      have hst := hst.openQ0 1 rfl
      have hst := hst.openQ0 0 rfl
      refine CW.plan (by kernel_rfl) ?_
      intro w304 hch305
      have hst := hst.same hch305
      refine OA.ldN (i := 0) (cs := [.int .i64 t202.What, .int .i64 t202.Task, .int .i64 t202.From, .int .i64 t202.Cmd, .int .i64 t202.Tag, .int .i64 t202.Event, .int .i64 t202.Hook, .int .i64 t202.Prog, .int .i64 t202.Version, .int .i64 t202.Pc, .int .i64 t202.Item.Map, .int .i64 t202.Item.Op, .int .u64 t202.Item.Key, .int .u64 t202.Item.Val, .int .i64 t202.Res.E, .bool t202.Res.Found, .int .u64 t202.Res.Val, .bool t202.Res.Out, .int .u64 t202.Res.OutKey, .int .u64 t202.Res.OutVal, .int .u64 t202.Val, .int .i64 t202.E]) rfl (by kernel_rfl) rfl rfl rfl (by kernel_rfl) (by kernel_rfl) (hst.blkN 1 rfl 0 22) ?_
      refine OA.ldN (i := 1) (cs := [.int .i64 t202.What, .int .i64 t202.Task, .int .i64 t202.From, .int .i64 t202.Cmd, .int .i64 t202.Tag, .int .i64 t202.Event, .int .i64 t202.Hook, .int .i64 t202.Prog, .int .i64 t202.Version, .int .i64 t202.Pc, .int .i64 t202.Item.Map, .int .i64 t202.Item.Op, .int .u64 t202.Item.Key, .int .u64 t202.Item.Val, .int .i64 t202.Res.E, .bool t202.Res.Found, .int .u64 t202.Res.Val, .bool t202.Res.Out, .int .u64 t202.Res.OutKey, .int .u64 t202.Res.OutVal, .int .u64 t202.Val, .int .i64 t202.E]) rfl (by kernel_rfl) rfl rfl rfl (by kernel_rfl) (by kernel_rfl) (hst.blkN 1 rfl 0 22) ?_
      refine OA.pure [3] [(69, .string p0)] (by kernel_rfl) ?_
      refine OA.act (i := 2) [0] (by kernel_rfl) rfl rfl (by kernel_rfl) (by kernel_rfl) ?_
      obtain ⟨r306, hr307, hF⟩ := bind_some' hF
      refine OW.fn rfl rfl rfl rfl (by kernel_rfl) (trace_line_ok _ fu t202 r306 hr307 (hst.part [] rfl) (hT0.give hst []) (hTL.give hst [])) ?_
      rintro e w308 ⟨rfl, hst309⟩
      refine ⟨_, rfl, ?_⟩
      have hst := hst.join (idx := []) (rest := [0, 1]) rfl hst309
      refine OA.next ⟨(hst.blkN 1 rfl 0 22), trivial⟩ ?_
      refine OA.pure [4] [(70, .bool (sEq r306 p0))] (by kernel_rfl) ?_
      refine OA.act (i := 5) [] (by kernel_rfl) rfl rfl (by kernel_rfl) (by kernel_rfl) ?_
      refine OW.stB hst 0 rfl rfl rfl rfl rfl (by kernel_rfl) rfl rfl [.int .i64 t202.What, .int .i64 t202.Task, .int .i64 t202.From, .int .i64 t202.Cmd, .int .i64 t202.Tag, .int .i64 t202.Event, .int .i64 t202.Hook, .int .i64 t202.Prog, .int .i64 t202.Version, .int .i64 t202.Pc, .int .i64 t202.Item.Map, .int .i64 t202.Item.Op, .int .u64 t202.Item.Key, .int .u64 t202.Item.Val, .int .i64 t202.Res.E, .bool t202.Res.Found, .int .u64 t202.Res.Val, .bool t202.Res.Out, .int .u64 t202.Res.OutKey, .int .u64 t202.Res.OutVal, .int .u64 t202.Val, .int .i64 t202.E] rfl ?_
      intro w310 hst
      refine OA.next trivial ?_
      refine OA.act (i := 6) [] (by kernel_rfl) rfl rfl (by kernel_rfl) (by kernel_rfl) ?_
      refine OW.pure 1 [(3, .bool (sEq r306 p0))] (by kernel_rfl) ?_
      refine OA.next trivial ?_
      refine OA.fin (by kernel_rfl) (by kernel_rfl) ?_
      refine QW.next ?_
      refine CW.ret ?_
      obtain rfl := Option.some.inj hF
      refine QW.ret_ct rfl rfl (run_loadN (cs := [.int .i64 t202.What, .int .i64 t202.Task, .int .i64 t202.From, .int .i64 t202.Cmd, .int .i64 t202.Tag, .int .i64 t202.Event, .int .i64 t202.Hook, .int .i64 t202.Prog, .int .i64 t202.Version, .int .i64 t202.Pc, .int .i64 t202.Item.Map, .int .i64 t202.Item.Op, .int .u64 t202.Item.Key, .int .u64 t202.Item.Val, .int .i64 t202.Res.E, .bool t202.Res.Found, .int .u64 t202.Res.Val, .bool t202.Res.Out, .int .u64 t202.Res.OutKey, .int .u64 t202.Res.OutVal, .int .u64 t202.Val, .int .i64 t202.E]) (by kernel_rfl) (by kernel_rfl) (hst.blkN 0 rfl 0 22)) rfl ?_
      exact ⟨rfl, hst.keep [] rfl⟩

set_option maxRecDepth 10000 in
set_option maxHeartbeats 4000000 in
theorem trace_plain_ok (w : World) (fu : Nat) (p0 : api_Entry) (r : Bool) (hF : trace_plain fu p0 = some r)
    (hst : St w (fp []) w []) (hT0 : Rd w (fp []) (.slice (some ⟨0, 0, none⟩) 18 18) enc_trace_form 2 tab_g0) (hTL : LibG Tryd.prog 4 1 2 3 w (fp [])) :
    Calls Tryd.prog 26 [.agg [.int .i64 p0.What, .int .i64 p0.Task, .int .i64 p0.From, .int .i64 p0.Cmd, .int .i64 p0.Tag, .int .i64 p0.Event, .int .i64 p0.Hook, .int .i64 p0.Prog, .int .i64 p0.Version, .int .i64 p0.Pc, .int .i64 p0.Item.Map, .int .i64 p0.Item.Op, .int .u64 p0.Item.Key, .int .u64 p0.Item.Val, .int .i64 p0.Res.E, .bool p0.Res.Found, .int .u64 p0.Res.Val, .bool p0.Res.Out, .int .u64 p0.Res.OutKey, .int .u64 p0.Res.OutVal, .int .u64 p0.Val, .int .i64 p0.E].toArray].toArray w (fun e w' => e = .returned (.bool r) ∧ St w (fp []) w' []) := by
 refine CW.start (N := 31) Tryd.func26 rfl rfl rfl ?_
 refine CW.seq ?_
 refine CW.region ?_
 refine OW.box hst rfl rfl rfl rfl [.int .i64 p0.What, .int .i64 p0.Task, .int .i64 p0.From, .int .i64 p0.Cmd, .int .i64 p0.Tag, .int .i64 p0.Event, .int .i64 p0.Hook, .int .i64 p0.Prog, .int .i64 p0.Version, .int .i64 p0.Pc, .int .i64 p0.Item.Map, .int .i64 p0.Item.Op, .int .u64 p0.Item.Key, .int .u64 p0.Item.Val, .int .i64 p0.Res.E, .bool p0.Res.Found, .int .u64 p0.Res.Val, .bool p0.Res.Out, .int .u64 p0.Res.OutKey, .int .u64 p0.Res.OutVal, .int .u64 p0.Val, .int .i64 p0.E] rfl ?_
 intro b3 w4 hst
 refine OW.pure 1 [] (by kernel_rfl) ?_
 refine OW.nil rfl ?_
 refine QW.next ?_
 refine CW.seq ?_
 refine CW.region ?_
 refine OW.pure 1 [(7, .pointer (some ⟨b3, 0, none⟩))] (by kernel_rfl) ?_
 refine OW.ld rfl rfl rfl rfl (by kernel_rfl) (hst.blk 0 rfl rfl) ?_
 obtain ⟨r12, hr13, hF⟩ := bind_some' hF
 refine OW.fn rfl rfl rfl rfl (by kernel_rfl) (trace_of_ok _ p0.What r12 hr13 (hst.part [] rfl) (hT0.give hst [])) ?_
 rintro e w14 ⟨rfl, hst15⟩
 refine ⟨_, rfl, ?_⟩
 have hst := hst.join (idx := []) (rest := [0]) rfl hst15
 refine OW.pure 3 [(10, .agg [.string r12.1.name, .string r12.1.fields].toArray), (11, .bool r12.2)] (by kernel_rfl) ?_
 refine OW.alloc hst rfl rfl rfl [.string ByteArray.empty, .string ByteArray.empty] (by kernel_rfl) ?_
 intro b16 w17 hst
 refine OW.stB hst 1 rfl rfl rfl rfl rfl (by kernel_rfl) rfl rfl [.string r12.1.name, .string r12.1.fields] rfl ?_
 intro w18 hst
 refine OW.pure 1 [(4, .bool r12.2)] (by kernel_rfl) ?_
 refine OW.nil rfl ?_
 refine QW.next ?_
 refine CW.seq ?_
 refine CW.seq ?_
 refine CW.region ?_
 refine OW.pure 2 [(13, .bool (!r12.2))] (by kernel_rfl) ?_
 refine OW.nil rfl ?_
 refine QW.next ?_
 rcases Bool.eq_false_or_eq_true ((!r12.2)) with hc19 | hc19
 ·have hF := ite_t hF hc19
  refine CW.cond_t rfl hc19 ?_
  refine CW.seq ?_
  refine CW.region ?_
  refine OW.pure 1 [(2, .bool false)] (by kernel_rfl) ?_
  refine OW.nil rfl ?_
  refine QW.next ?_
  refine CW.ret ?_
  refine QW.then_ret ?_
  obtain rfl := Option.some.inj hF
  refine QW.ret1 rfl rfl ?_
  exact ⟨rfl, hst.keep [] rfl⟩
 ·have hF := ite_f hF hc19
  refine CW.cond_f rfl hc19 ?_
  refine CW.skip ?_
  refine QW.next ?_
  refine CW.seq ?_
  refine CW.region ?_
  refine OW.ldN (cs := [.int .i64 p0.What, .int .i64 p0.Task, .int .i64 p0.From, .int .i64 p0.Cmd, .int .i64 p0.Tag, .int .i64 p0.Event, .int .i64 p0.Hook, .int .i64 p0.Prog, .int .i64 p0.Version, .int .i64 p0.Pc, .int .i64 p0.Item.Map, .int .i64 p0.Item.Op, .int .u64 p0.Item.Key, .int .u64 p0.Item.Val, .int .i64 p0.Res.E, .bool p0.Res.Found, .int .u64 p0.Res.Val, .bool p0.Res.Out, .int .u64 p0.Res.OutKey, .int .u64 p0.Res.OutVal, .int .u64 p0.Val, .int .i64 p0.E]) rfl rfl rfl rfl (by kernel_rfl) (by kernel_rfl) (hst.blkN 0 rfl 0 22) ?_
  obtain ⟨r31, hr32, hF⟩ := bind_some' hF
  refine OW.fn rfl rfl rfl rfl (by kernel_rfl) (trace_line_ok _ fu p0 r31 hr32 (hst.part [] rfl) (hT0.give hst []) (hTL.give hst [])) ?_
  rintro e w33 ⟨rfl, hst34⟩
  refine ⟨_, rfl, ?_⟩
  have hst := hst.join (idx := []) (rest := [0, 1]) rfl hst34
  obtain ⟨r35, hr36, hF⟩ := bind_some' hF
  refine OW.fn rfl rfl rfl rfl (by kernel_rfl) (trace_parsed_ok _ fu r31 r35 hr36 (hst.part [] rfl) (hT0.give hst []) (hTL.give hst [])) ?_
  rintro e w37 ⟨rfl, hst38⟩
  refine ⟨_, rfl, ?_⟩
  have hst := hst.join (idx := []) (rest := [0, 1]) rfl hst38
  refine OW.pure 3 [(18, .agg [.int .i64 r35.1.What, .int .i64 r35.1.Task, .int .i64 r35.1.From, .int .i64 r35.1.Cmd, .int .i64 r35.1.Tag, .int .i64 r35.1.Event, .int .i64 r35.1.Hook, .int .i64 r35.1.Prog, .int .i64 r35.1.Version, .int .i64 r35.1.Pc, .int .i64 r35.1.Item.Map, .int .i64 r35.1.Item.Op, .int .u64 r35.1.Item.Key, .int .u64 r35.1.Item.Val, .int .i64 r35.1.Res.E, .bool r35.1.Res.Found, .int .u64 r35.1.Res.Val, .bool r35.1.Res.Out, .int .u64 r35.1.Res.OutKey, .int .u64 r35.1.Res.OutVal, .int .u64 r35.1.Val, .int .i64 r35.1.E].toArray), (19, .bool r35.2)] (by kernel_rfl) ?_
  refine OW.alloc hst rfl rfl rfl [.int .i64 0, .int .i64 0, .int .i64 0, .int .i64 0, .int .i64 0, .int .i64 0, .int .i64 0, .int .i64 0, .int .i64 0, .int .i64 0, .int .i64 0, .int .i64 0, .int .u64 0, .int .u64 0, .int .i64 0, .bool false, .int .u64 0, .bool false, .int .u64 0, .int .u64 0, .int .u64 0, .int .i64 0] (by kernel_rfl) ?_
  intro b39 w40 hst
  refine OW.stB hst 2 rfl rfl rfl rfl rfl (by kernel_rfl) rfl rfl [.int .i64 r35.1.What, .int .i64 r35.1.Task, .int .i64 r35.1.From, .int .i64 r35.1.Cmd, .int .i64 r35.1.Tag, .int .i64 r35.1.Event, .int .i64 r35.1.Hook, .int .i64 r35.1.Prog, .int .i64 r35.1.Version, .int .i64 r35.1.Pc, .int .i64 r35.1.Item.Map, .int .i64 r35.1.Item.Op, .int .u64 r35.1.Item.Key, .int .u64 r35.1.Item.Val, .int .i64 r35.1.Res.E, .bool r35.1.Res.Found, .int .u64 r35.1.Res.Val, .bool r35.1.Res.Out, .int .u64 r35.1.Res.OutKey, .int .u64 r35.1.Res.OutVal, .int .u64 r35.1.Val, .int .i64 r35.1.E] rfl ?_
  intro w41 hst
  refine OW.pure 1 [(4, .bool r35.2)] (by kernel_rfl) ?_
  refine OW.nil rfl ?_
  refine QW.next ?_
  refine CW.seq ?_
  obtain ⟨o44, ho45, hF⟩ := bind_some' hF
  refine CW.cutK (fun a w1 => Rep 31 [(2, .bool o44)] a ∧ St w (fp []) w1 []) ?_ ?_
  ·refine CW.region ?_
   refine OW.pure 2 [(21, .bool r35.2)] (by kernel_rfl) ?_
   refine OW.split 21 rfl (fun hc46 => ?_) (fun hc46 => ?_)
   ·have ho45 := ite_t ho45 hc46
    refine OW.ldN (cs := [.int .i64 r35.1.What, .int .i64 r35.1.Task, .int .i64 r35.1.From, .int .i64 r35.1.Cmd, .int .i64 r35.1.Tag, .int .i64 r35.1.Event, .int .i64 r35.1.Hook, .int .i64 r35.1.Prog, .int .i64 r35.1.Version, .int .i64 r35.1.Pc, .int .i64 r35.1.Item.Map, .int .i64 r35.1.Item.Op, .int .u64 r35.1.Item.Key, .int .u64 r35.1.Item.Val, .int .i64 r35.1.Res.E, .bool r35.1.Res.Found, .int .u64 r35.1.Res.Val, .bool r35.1.Res.Out, .int .u64 r35.1.Res.OutKey, .int .u64 r35.1.Res.OutVal, .int .u64 r35.1.Val, .int .i64 r35.1.E]) rfl rfl rfl rfl (by kernel_rfl) (by kernel_rfl) (hst.blkN 2 rfl 0 22) ?_
    refine OW.ldN (cs := [.int .i64 p0.What, .int .i64 p0.Task, .int .i64 p0.From, .int .i64 p0.Cmd, .int .i64 p0.Tag, .int .i64 p0.Event, .int .i64 p0.Hook, .int .i64 p0.Prog, .int .i64 p0.Version, .int .i64 p0.Pc, .int .i64 p0.Item.Map, .int .i64 p0.Item.Op, .int .u64 p0.Item.Key, .int .u64 p0.Item.Val, .int .i64 p0.Res.E, .bool p0.Res.Found, .int .u64 p0.Res.Val, .bool p0.Res.Out, .int .u64 p0.Res.OutKey, .int .u64 p0.Res.OutVal, .int .u64 p0.Val, .int .i64 p0.E]) rfl rfl rfl rfl (by kernel_rfl) (by kernel_rfl) (hst.blkN 0 rfl 0 22) ?_
    refine OW.op (v := .bool ((r35.1.What == p0.What) && ((r35.1.Task == p0.Task) && ((r35.1.From == p0.From) && ((r35.1.Cmd == p0.Cmd) && ((r35.1.Tag == p0.Tag) && ((r35.1.Event == p0.Event) && ((r35.1.Hook == p0.Hook) && ((r35.1.Prog == p0.Prog) && ((r35.1.Version == p0.Version) && ((r35.1.Pc == p0.Pc) && (((r35.1.Item.Map == p0.Item.Map) && ((r35.1.Item.Op == p0.Item.Op) && ((r35.1.Item.Key == p0.Item.Key) && ((r35.1.Item.Val == p0.Item.Val) && true)))) && (((r35.1.Res.E == p0.Res.E) && ((r35.1.Res.Found == p0.Res.Found) && ((r35.1.Res.Val == p0.Res.Val) && ((r35.1.Res.Out == p0.Res.Out) && ((r35.1.Res.OutKey == p0.Res.OutKey) && ((r35.1.Res.OutVal == p0.Res.OutVal) && true)))))) && ((r35.1.Val == p0.Val) && ((r35.1.E == p0.E) && true))))))))))))))) rfl rfl rfl rfl (fun a ha => seq_run rfl rfl rfl (by kernel_rfl) (by kernel_rfl) a _ ha) ?_
    refine OW.pure 2 [(26, .bool ((r35.1.What == p0.What) && ((r35.1.Task == p0.Task) && ((r35.1.From == p0.From) && ((r35.1.Cmd == p0.Cmd) && ((r35.1.Tag == p0.Tag) && ((r35.1.Event == p0.Event) && ((r35.1.Hook == p0.Hook) && ((r35.1.Prog == p0.Prog) && ((r35.1.Version == p0.Version) && ((r35.1.Pc == p0.Pc) && (((r35.1.Item.Map == p0.Item.Map) && ((r35.1.Item.Op == p0.Item.Op) && ((r35.1.Item.Key == p0.Item.Key) && ((r35.1.Item.Val == p0.Item.Val) && true)))) && (((r35.1.Res.E == p0.Res.E) && ((r35.1.Res.Found == p0.Res.Found) && ((r35.1.Res.Val == p0.Res.Val) && ((r35.1.Res.Out == p0.Res.Out) && ((r35.1.Res.OutKey == p0.Res.OutKey) && ((r35.1.Res.OutVal == p0.Res.OutVal) && true)))))) && ((r35.1.Val == p0.Val) && ((r35.1.E == p0.E) && true)))))))))))))))] (by kernel_rfl) ?_
    refine OW.split 26 rfl (fun hc47 => ?_) (fun hc47 => ?_)
    ·have ho45 := ite_t ho45 hc47
     refine OW.pure 1 [(27, .pointer (some ⟨b16, 0, none⟩))] (by kernel_rfl) ?_
     refine OW.ld rfl rfl rfl rfl (by kernel_rfl) (hst.blk 1 rfl rfl) ?_
     refine OW.pure 3 [(2, .bool (sNe r12.1.name ByteArray.empty))] (by kernel_rfl) ?_
     refine OW.nil rfl ?_
     have hst := hst.shutP0 (enc := enc_api_Entry) (sz := 22) (he := fun _ => rfl) 0 rfl p0 rfl
     have hst := hst.shutP0 (enc := enc_api_Entry) (sz := 22) (he := fun _ => rfl) 2 rfl r35.1 rfl
     obtain rfl := Option.some.inj ho45
     exact QW.meet (fun a ha => ⟨ha.agrees (by kernel_rfl), hst.keep [] rfl⟩)
    ·have ho45 := ite_f ho45 hc47
     refine OW.pure 5 [(2, .bool false)] (by kernel_rfl) ?_
     refine OW.nil rfl ?_
     have hst := hst.shutP0 (enc := enc_api_Entry) (sz := 22) (he := fun _ => rfl) 0 rfl p0 rfl
     have hst := hst.shutP0 (enc := enc_api_Entry) (sz := 22) (he := fun _ => rfl) 2 rfl r35.1 rfl
     obtain rfl := Option.some.inj ho45
     exact QW.meet (fun a ha => ⟨ha.agrees (by kernel_rfl), hst.keep [] rfl⟩)
   ·have ho45 := ite_f ho45 hc46
    refine OW.pure 10 [(2, .bool false)] (by kernel_rfl) ?_
    refine OW.nil rfl ?_
    have hst := hst.shutP0 (enc := enc_api_Entry) (sz := 22) (he := fun _ => rfl) 0 rfl p0 rfl
    have hst := hst.shutP0 (enc := enc_api_Entry) (sz := 22) (he := fun _ => rfl) 2 rfl r35.1 rfl
    obtain rfl := Option.some.inj ho45
    exact QW.meet (fun a ha => ⟨ha.agrees (by kernel_rfl), hst.keep [] rfl⟩)
  ·rintro a w1 ⟨ha, hst⟩
   refine CW.go ?_ ha
   refine CW.ret ?_
   obtain rfl := Option.some.inj hF
   refine QW.ret1 rfl rfl ?_
   exact ⟨rfl, hst.keep [] rfl⟩

set_option maxRecDepth 10000 in
set_option maxHeartbeats 4000000 in
theorem trace_Plain_ok (w : World) (fu : Nat) (v0 : Value) (p0 : List api_Entry) (r : Bool) (hF : trace_Plain fu p0 = some r)
    (hst : St w (fp []) w []) (h0 : Rd w (fp []) v0 enc_api_Entry 22 p0) (hT0 : Rd w (fp []) (.slice (some ⟨0, 0, none⟩) 18 18) enc_trace_form 2 tab_g0) (hTL : LibG Tryd.prog 4 1 2 3 w (fp [])) :
    Calls Tryd.prog 13 [v0].toArray w (fun e w' => e = .returned (.bool r) ∧ St w (fp []) w' []) := by
 refine CW.start (N := 15) Tryd.func13 rfl rfl rfl ?_
 obtain ⟨l1, a2, c3, rfl⟩ := h0.len
 refine CW.seq ?_
 refine CW.region ?_
 refine OW.pure 1 [] (by kernel_rfl) ?_
 refine OW.nil rfl ?_
 refine QW.next ?_
 refine CW.seq ?_
 refine CW.seq ?_
 refine CW.region ?_
 refine OW.pure 3 [(5, .slice a2 (p0).length c3), (6, .int .i64 ((p0).length : Int)), (7, .int .i64 0)] (by kernel_rfl) ?_
 refine OW.nil rfl ?_
 refine QW.next ?_
 obtain ⟨o94, ho95, hF⟩ := bind_some' hF
 refine CW.cutK (fun a w1 => ∃ (t96 : Unit), o94 = .inl t96 ∧ Rep 15 [] a ∧ St w (fp []) w1 []) ?_ ?_
 ·refine CW.block ?_
  refine CW.loop (fun n a w1 => ∃ (i157 : Nat) (s156 : Unit), i157 + n = (p0).length ∧ Rep 15 [(5, .slice a2 (p0).length c3), (6, .int .i64 ((p0).length : Int)), (7, .int .i64 (i157 : Int))] a ∧ St w (fp []) w1 [] ∧ forN (trace_Plain_l1 fu p0) (fun (s156 : Unit) => (.inl ())) n i157 s156 = some o94) (p0).length (fun a ha => ⟨0, (), Nat.zero_add _, ha.agrees (by kernel_rfl), hst.keep [] rfl, ho95⟩) ?_
  rintro n154 a w1 ⟨i157, s156, hi158, ha, hst, hl155⟩
  refine CW.go ?_ ha
  refine CW.seq ?_
  refine CW.region ?_
  refine OW.pure 1 [(8, .bool (decide ((i157 : Int) < ((p0).length : Int))))] (by kernel_rfl) ?_
  refine OW.nil rfl ?_
  refine QW.next ?_
  refine CW.seq ?_
  rcases Bool.eq_false_or_eq_true (decide ((i157 : Int) < ((p0).length : Int))) with hc159 | hc159
  ·rcases n154 with _ | n154
   ·exact (cnt0 hi158 hc159).elim
   refine CW.cond_t rfl hc159 ?_
   refine CW.skip ?_
   refine QW.next ?_
   refine CW.seq ?_
   refine CW.block ?_
   refine CW.seq ?_
   refine CW.region ?_
   obtain ⟨x169, hx170, hl155⟩ := bind_some' hl155
   obtain ⟨g172, o173, c174, hv171⟩ := h0.formv (fun _ => ⟨_, rfl⟩) hx170
   refine OW.idx 46 22 rfl rfl rfl rfl hv171 rfl (idx_some hx170).1 (idx_some hx170).2.1 (by kernel_rfl) (by kernel_rfl) ?_
   refine OW.ldN (cs := enc_api_Entry x169) rfl rfl rfl rfl (by kernel_rfl) (by kernel_rfl) (h0.cellv hst hx170 hv171) ?_
   refine OW.alloc hst rfl rfl rfl [.int .i64 0, .int .i64 0, .int .i64 0, .int .i64 0, .int .i64 0, .int .i64 0, .int .i64 0, .int .i64 0, .int .i64 0, .int .i64 0, .int .i64 0, .int .i64 0, .int .u64 0, .int .u64 0, .int .i64 0, .bool false, .int .u64 0, .bool false, .int .u64 0, .int .u64 0, .int .u64 0, .int .i64 0] (by kernel_rfl) ?_
   intro b175 w176 hst
   refine OW.stB hst 0 rfl rfl rfl rfl rfl (by kernel_rfl) rfl rfl [.int .i64 x169.What, .int .i64 x169.Task, .int .i64 x169.From, .int .i64 x169.Cmd, .int .i64 x169.Tag, .int .i64 x169.Event, .int .i64 x169.Hook, .int .i64 x169.Prog, .int .i64 x169.Version, .int .i64 x169.Pc, .int .i64 x169.Item.Map, .int .i64 x169.Item.Op, .int .u64 x169.Item.Key, .int .u64 x169.Item.Val, .int .i64 x169.Res.E, .bool x169.Res.Found, .int .u64 x169.Res.Val, .bool x169.Res.Out, .int .u64 x169.Res.OutKey, .int .u64 x169.Res.OutVal, .int .u64 x169.Val, .int .i64 x169.E] rfl ?_
   intro w177 hst
   refine OW.nil rfl ?_
   refine QW.next ?_
   refine CW.seq ?_
   refine CW.region ?_
   refine OW.ldN (cs := [.int .i64 x169.What, .int .i64 x169.Task, .int .i64 x169.From, .int .i64 x169.Cmd, .int .i64 x169.Tag, .int .i64 x169.Event, .int .i64 x169.Hook, .int .i64 x169.Prog, .int .i64 x169.Version, .int .i64 x169.Pc, .int .i64 x169.Item.Map, .int .i64 x169.Item.Op, .int .u64 x169.Item.Key, .int .u64 x169.Item.Val, .int .i64 x169.Res.E, .bool x169.Res.Found, .int .u64 x169.Res.Val, .bool x169.Res.Out, .int .u64 x169.Res.OutKey, .int .u64 x169.Res.OutVal, .int .u64 x169.Val, .int .i64 x169.E]) rfl rfl rfl rfl (by kernel_rfl) (by kernel_rfl) (hst.blkN 0 rfl 0 22) ?_
   obtain ⟨r182, hr183, hl155⟩ := bind_some' hl155
   refine OW.fn rfl rfl rfl rfl (by kernel_rfl) (trace_plain_ok _ fu x169 r182 hr183 (hst.part [] rfl) (hT0.give hst []) (hTL.give hst [])) ?_
   rintro e w184 ⟨rfl, hst185⟩
   refine ⟨_, rfl, ?_⟩
   have hst := hst.join (idx := []) (rest := [0]) rfl hst185
   refine OW.pure 1 [(13, .bool (!r182))] (by kernel_rfl) ?_
   refine OW.nil rfl ?_
   refine QW.next ?_
   rcases Bool.eq_false_or_eq_true ((!r182)) with hc186 | hc186
   ·have hl155 := ite_t hl155 hc186
    refine CW.cond_t rfl hc186 ?_
    refine CW.seq ?_
    refine CW.region ?_
    refine OW.pure 1 [(2, .bool false)] (by kernel_rfl) ?_
    refine OW.nil rfl ?_
    refine QW.next ?_
    refine CW.ret ?_
    refine QW.block_ret ?_
    refine QW.then_ret ?_
    refine QW.then_ret ?_
    refine QW.block_ret ?_
    refine QW.then_ret ?_
    obtain rfl := Option.some.inj hl155
    obtain rfl := Option.some.inj hF
    refine QW.ret1 rfl rfl ?_
    exact ⟨rfl, hst.keep [] rfl⟩
   ·have hl155 := ite_f hl155 hc186
    refine CW.cond_f rfl hc186 ?_
    refine CW.skip ?_
    refine QW.block_normal ?_
    refine QW.next ?_
    refine CW.region ?_
    refine OW.pure 2 [(7, .int .i64 (w64 ((i157 : Int) + 1)))] (by kernel_rfl) ?_
    refine OW.nil rfl ?_
    have hst := hst.shutP0 (enc := enc_api_Entry) (sz := 22) (he := fun _ => rfl) 0 rfl x169 rfl
    refine QW.say 7 rfl (congrArg (Value.int .i64) (w64_cnt hc159 l1)) ?_
    exact QW.meet (fun a ha => ⟨n154, Nat.lt_succ_self _, i157 + 1, (), cnt_next hi158, ha.agrees (by kernel_rfl), hst.keep [] rfl, hl155⟩)
  ·rcases n154 with _ | n154
   ·refine CW.cond_f rfl hc159 ?_
    refine CW.exit ?_
    refine QW.then_exit ?_
    refine QW.then_exit ?_
    refine QW.block_here ?_
    obtain rfl := Option.some.inj hl155
    exact QW.meet (fun a ha => ⟨(), rfl, ha.agrees (by kernel_rfl), hst.keep [] rfl⟩)
   ·exact (cnt1 hi158 hc159).elim
 ·rintro a w1 ⟨t96, rfl, ha, hst⟩
  refine CW.go ?_ ha
  refine CW.seq ?_
  refine CW.region ?_
  refine OW.pure 1 [(2, .bool true)] (by kernel_rfl) ?_
  refine OW.nil rfl ?_
  refine QW.next ?_
  refine CW.ret ?_
  obtain rfl := Option.some.inj hF
  refine QW.ret1 rfl rfl ?_
  exact ⟨rfl, hst.keep [] rfl⟩

set_option maxRecDepth 10000 in
set_option maxHeartbeats 4000000 in
theorem trace_Print_ok (w : World) (fu : Nat) (v0 : Value) (p0 : List api_Entry) (r : ByteArray × Int) (hF : trace_Print fu p0 = some r)
    (hst : St w (fp []) w []) (h0 : Rd w (fp []) v0 enc_api_Entry 22 p0) (hT0 : Rd w (fp []) (.slice (some ⟨0, 0, none⟩) 18 18) enc_trace_form 2 tab_g0) (hTL : LibG Tryd.prog 4 1 2 3 w (fp [])) :
    Calls Tryd.prog 12 [v0].toArray w (fun e w' => e = .returned (.tuple #[.string r.1, .int .i64 r.2]) ∧ St w (fp []) w' []) := by
 refine CW.start (N := 22) Tryd.func12 rfl rfl rfl ?_
 obtain ⟨l1, a2, c3, rfl⟩ := h0.len
 refine CW.seq ?_
 refine CW.region ?_
 refine OW.pure 2 [] (by kernel_rfl) ?_
 refine OW.nil rfl ?_
 refine QW.next ?_
 refine CW.seq ?_
 refine CW.seq ?_
 refine CW.region ?_
 refine OW.pure 1 [(7, .slice a2 (p0).length c3)] (by kernel_rfl) ?_
 obtain ⟨r8, hr9, hF⟩ := bind_some' hF
 refine OW.fn rfl rfl rfl rfl (by kernel_rfl) (trace_Plain_ok _ fu (.slice a2 (p0).length c3) p0 r8 hr9 (hst.part [] rfl) (h0.give hst []) (hT0.give hst []) (hTL.give hst [])) ?_
 rintro e w10 ⟨rfl, hst11⟩
 refine ⟨_, rfl, ?_⟩
 have hst := hst.join (idx := []) (rest := []) rfl hst11
 refine OW.pure 1 [(9, .bool (!r8))] (by kernel_rfl) ?_
 refine OW.nil rfl ?_
 refine QW.next ?_
 rcases Bool.eq_false_or_eq_true ((!r8)) with hc12 | hc12
 ·have hF := ite_t hF hc12
  refine CW.cond_t rfl hc12 ?_
  refine CW.seq ?_
  refine CW.region ?_
  refine OW.pure 2 [(2, .string ByteArray.empty), (3, .int .i64 12)] (by kernel_rfl) ?_
  refine OW.nil rfl ?_
  refine QW.next ?_
  refine CW.ret ?_
  refine QW.then_ret ?_
  obtain rfl := Option.some.inj hF
  refine QW.ret2 rfl rfl rfl ?_
  exact ⟨rfl, hst.keep [] rfl⟩
 ·have hF := ite_f hF hc12
  refine CW.cond_f rfl hc12 ?_
  refine CW.skip ?_
  refine QW.next ?_
  refine CW.seq ?_
  refine CW.region ?_
  refine OW.alloc hst rfl rfl rfl [.pointer none, .slice none 0 0] (by kernel_rfl) ?_
  intro b15 w16 hst
  have hst := hst.toBld 5 0 rfl
  refine OW.nil rfl ?_
  refine QW.next ?_
  refine CW.seq ?_
  refine CW.seq ?_
  refine CW.region ?_
  refine OW.pure 3 [(10, .slice a2 (p0).length c3), (11, .int .i64 ((p0).length : Int)), (12, .int .i64 0)] (by kernel_rfl) ?_
  refine OW.nil rfl ?_
  refine QW.next ?_
  obtain ⟨o144, ho145, hF⟩ := bind_some' hF
  refine CW.cutK (fun a w1 => ∃ (S143 : List Nat), Rep 22 [(4, .pointer (some ⟨b15, 0, none⟩))] a ∧ St w (fp []) w1 [itI R_t59 [.pointer (some ⟨b15, 0, none⟩)] S143 o144]) ?_ ?_
  ·refine CW.block ?_
   refine CW.loop (fun n a w1 => ∃ (i231 : Nat) (s229 : ByteArray) (S230 : List Nat), i231 + n = (p0).length ∧ Rep 22 [(4, .pointer (some ⟨b15, 0, none⟩)), (10, .slice a2 (p0).length c3), (11, .int .i64 ((p0).length : Int)), (12, .int .i64 (i231 : Int))] a ∧ St w (fp []) w1 [itI R_t59 [.pointer (some ⟨b15, 0, none⟩)] S230 s229] ∧ forN (trace_Print_l1 fu p0) (fun (s229 : ByteArray) => s229) n i231 s229 = some o144) (p0).length (fun a ha => ⟨0, ByteArray.empty, ([b15]), Nat.zero_add _, ha.agrees (by kernel_rfl), hst.keep [0] rfl, ho145⟩) ?_
   rintro n227 a w1 ⟨i231, s229, S230, hi232, ha, hst, hl228⟩
   refine CW.go ?_ ha
   refine CW.seq ?_
   refine CW.region ?_
   refine OW.pure 1 [(13, .bool (decide ((i231 : Int) < ((p0).length : Int))))] (by kernel_rfl) ?_
   refine OW.nil rfl ?_
   refine QW.next ?_
   refine CW.seq ?_
   rcases Bool.eq_false_or_eq_true (decide ((i231 : Int) < ((p0).length : Int))) with hc233 | hc233
   ·rcases n227 with _ | n227
    ·exact (cnt0 hi232 hc233).elim
    refine CW.cond_t rfl hc233 ?_
    refine CW.skip ?_
    refine QW.next ?_
    refine CW.seq ?_
    refine CW.block ?_
    refine CW.seq ?_
    refine CW.region ?_
    obtain ⟨x243, hx244, hl228⟩ := bind_some' hl228
    obtain ⟨g246, o247, c248, hv245⟩ := h0.formv (fun _ => ⟨_, rfl⟩) hx244
    refine OW.idx 46 22 rfl rfl rfl rfl hv245 rfl (idx_some hx244).1 (idx_some hx244).2.1 (by kernel_rfl) (by kernel_rfl) ?_
    refine OW.ldN (cs := enc_api_Entry x243) rfl rfl rfl rfl (by kernel_rfl) (by kernel_rfl) (h0.cellv hst hx244 hv245) ?_
    refine OW.alloc hst rfl rfl rfl [.int .i64 0, .int .i64 0, .int .i64 0, .int .i64 0, .int .i64 0, .int .i64 0, .int .i64 0, .int .i64 0, .int .i64 0, .int .i64 0, .int .i64 0, .int .i64 0, .int .u64 0, .int .u64 0, .int .i64 0, .bool false, .int .u64 0, .bool false, .int .u64 0, .int .u64 0, .int .u64 0, .int .i64 0] (by kernel_rfl) ?_
    intro b249 w250 hst
    refine OW.stB hst 1 rfl rfl rfl rfl rfl (by kernel_rfl) rfl rfl [.int .i64 x243.What, .int .i64 x243.Task, .int .i64 x243.From, .int .i64 x243.Cmd, .int .i64 x243.Tag, .int .i64 x243.Event, .int .i64 x243.Hook, .int .i64 x243.Prog, .int .i64 x243.Version, .int .i64 x243.Pc, .int .i64 x243.Item.Map, .int .i64 x243.Item.Op, .int .u64 x243.Item.Key, .int .u64 x243.Item.Val, .int .i64 x243.Res.E, .bool x243.Res.Found, .int .u64 x243.Res.Val, .bool x243.Res.Out, .int .u64 x243.Res.OutKey, .int .u64 x243.Res.OutVal, .int .u64 x243.Val, .int .i64 x243.E] rfl ?_
    intro w251 hst
    refine OW.nil rfl ?_
    refine QW.next ?_
    refine CW.region ?_
    refine OW.ldN (cs := [.int .i64 x243.What, .int .i64 x243.Task, .int .i64 x243.From, .int .i64 x243.Cmd, .int .i64 x243.Tag, .int .i64 x243.Event, .int .i64 x243.Hook, .int .i64 x243.Prog, .int .i64 x243.Version, .int .i64 x243.Pc, .int .i64 x243.Item.Map, .int .i64 x243.Item.Op, .int .u64 x243.Item.Key, .int .u64 x243.Item.Val, .int .i64 x243.Res.E, .bool x243.Res.Found, .int .u64 x243.Res.Val, .bool x243.Res.Out, .int .u64 x243.Res.OutKey, .int .u64 x243.Res.OutVal, .int .u64 x243.Val, .int .i64 x243.E]) rfl rfl rfl rfl (by kernel_rfl) (by kernel_rfl) (hst.blkN 1 rfl 0 22) ?_
    obtain ⟨r262, hr263, hl228⟩ := bind_some' hl228
    refine OW.fn rfl rfl rfl rfl (by kernel_rfl) (trace_line_ok _ fu x243 r262 hr263 (hst.part [] rfl) (hT0.give hst []) (hTL.give hst [])) ?_
    rintro e w264 ⟨rfl, hst265⟩
    refine ⟨_, rfl, ?_⟩
    have hst := hst.join (idx := []) (rest := [0, 1]) rfl hst265
    obtain ⟨x266, hx267, hl228⟩ := bind_some' hl228
    refine OW.op (v := .string x266) rfl rfl rfl rfl (fun a ha => cat_run rfl rfl rfl (by kernel_rfl) hx267 a _ ha) ?_
    obtain ⟨r268, hr269, hl228⟩ := bind_some' hl228
    refine OW.fn rfl rfl rfl rfl (by kernel_rfl) (Tryd.bwrite_st hst 0 rfl (fun i it hi h => match i, hi, h with | 0, hi, _ => absurd rfl hi | 1, _, h => ⟨_, _, _, (Option.some.inj h).symm, by decide⟩ | n + 2, _, h => absurd (show n + 2 < 2 from (List.getElem?_eq_some_iff.1 h).1) (by omega)) hr269) ?_
    rintro e w271 ⟨S270, rfl, hst⟩
    refine ⟨_, rfl, ?_⟩
    refine OW.nil rfl ?_
    refine QW.block_normal ?_
    refine QW.next ?_
    refine CW.region ?_
    refine OW.pure 2 [(12, .int .i64 (w64 ((i231 : Int) + 1)))] (by kernel_rfl) ?_
    refine OW.nil rfl ?_
    have hst := hst.shutP0 (enc := enc_api_Entry) (sz := 22) (he := fun _ => rfl) 1 rfl x243 rfl
    refine QW.say 12 rfl (congrArg (Value.int .i64) (w64_cnt hc233 l1)) ?_
    exact QW.meet (fun a ha => ⟨n227, Nat.lt_succ_self _, i231 + 1, r268, S270, cnt_next hi232, ha.agrees (by kernel_rfl), hst.keep [0] rfl, hl228⟩)
   ·rcases n227 with _ | n227
    ·refine CW.cond_f rfl hc233 ?_
     refine CW.exit ?_
     refine QW.then_exit ?_
     refine QW.then_exit ?_
     refine QW.block_here ?_
     obtain rfl := Option.some.inj hl228
     exact QW.meet (fun a ha => ⟨S230, ha.agrees (by kernel_rfl), hst.keep [0] rfl⟩)
    ·exact (cnt1 hi232 hc233).elim
  ·rintro a w1 ⟨S143, ha, hst⟩
   refine CW.go ?_ ha
   refine CW.seq ?_
   refine CW.region ?_
   refine OW.fn rfl rfl rfl rfl (by kernel_rfl) (bstring_ok Tryd.Builder_String_any_f hst) ?_
   rintro e w275 ⟨S274, rfl, hst⟩
   refine ⟨_, rfl, ?_⟩
   refine OW.pure 2 [(2, .string o144), (3, .int .i64 0)] (by kernel_rfl) ?_
   refine OW.nil rfl ?_
   refine QW.next ?_
   refine CW.ret ?_
   obtain rfl := Option.some.inj hF
   refine QW.ret2 rfl rfl rfl ?_
   exact ⟨rfl, hst.keep [] rfl⟩

theorem stringslite_Index_ok (w : World) (p0 p1 : ByteArray) (r : Int) (hF : stringslite_Index p0 p1 = some r) (hst : St w (fp []) w []) :
    Calls Tryd.prog 51 [.string p0, .string p1].toArray w (fun e w' => e = .returned (.int .i64 r) ∧ St w (fp []) w' []) :=
  index_ok Tryd.stringslite_Index_one hF

set_option maxRecDepth 10000 in
set_option maxHeartbeats 4000000 in
theorem stringslite_Cut_ok (w : World) (p0 : ByteArray) (p1 : ByteArray) (r : ByteArray × ByteArray × Bool) (hF : stringslite_Cut p0 p1 = some r)
    (hst : St w (fp []) w []) :
    Calls Tryd.prog 38 [.string p0, .string p1].toArray w (fun e w' => e = .returned (.tuple #[.string r.1, .string r.2.1, .bool r.2.2]) ∧ St w (fp []) w' []) := by
 refine CW.start (N := 23) Tryd.func38 rfl rfl rfl ?_
 refine CW.seq ?_
 refine CW.region ?_
 refine OW.pure 3 [] (by kernel_rfl) ?_
 refine OW.nil rfl ?_
 refine QW.next ?_
 refine CW.seq ?_
 refine CW.seq ?_
 refine CW.region ?_
 refine OW.pure 2 [(8, .string p0), (9, .string p1)] (by kernel_rfl) ?_
 obtain ⟨r5, hr6, hF⟩ := bind_some' hF
 refine OW.fn rfl rfl rfl rfl (by kernel_rfl) (stringslite_Index_ok _ p0 p1 r5 hr6 (hst.part [] rfl)) ?_
 rintro e w7 ⟨rfl, hst8⟩
 refine ⟨_, rfl, ?_⟩
 have hst := hst.join (idx := []) (rest := []) rfl hst8
 refine OW.pure 1 [(7, .int .i64 r5)] (by kernel_rfl) ?_
 refine OW.nil rfl ?_
 refine QW.next ?_
 refine CW.seq ?_
 refine CW.region ?_
 refine OW.pure 2 [(12, .bool (decide (r5 ≥ 0)))] (by kernel_rfl) ?_
 refine OW.nil rfl ?_
 refine QW.next ?_
 rcases Bool.eq_false_or_eq_true (decide (r5 ≥ 0)) with hc9 | hc9
 ·have hF := ite_t hF hc9
  refine CW.cond_t rfl hc9 ?_
  refine CW.seq ?_
  refine CW.still (by kernel_rfl) (by kernel_rfl) ?_
  intro w16 hch17
  have hst := hst.same hch17
  refine OS.pure 2 [(13, .string p0), (14, .int .i64 r5)] rfl (by kernel_rfl) ?_
  obtain ⟨x18, hx19, hF⟩ := bind_some' hF
  refine OS.op (v := .string x18) rfl rfl rfl rfl rfl (fun a ha => spre_run rfl rfl rfl (by kernel_rfl) hx19 a _ ha) ?_
  refine OS.pure 5 [(16, .string p0), (20, .int .i64 (w64 (r5 + (p1.size : Int))))] rfl (by kernel_rfl) ?_
  obtain ⟨x20, hx21, hF⟩ := bind_some' hF
  refine OS.op (v := .string x20) rfl rfl rfl rfl rfl (fun a ha => ssuf_run rfl rfl rfl (by kernel_rfl) hx21 a _ ha) ?_
  refine OS.pure 3 [(4, .string x18), (5, .string x20), (6, .bool true)] rfl (by kernel_rfl) ?_
  refine OS.fin rfl ?_
  refine QW.next ?_
  refine CW.ret ?_
  refine QW.then_ret ?_
  obtain rfl := Option.some.inj hF
  refine QW.ret3 rfl rfl rfl rfl ?_
  exact ⟨rfl, hst.keep [] rfl⟩
 ·have hF := ite_f hF hc9
  refine CW.cond_f rfl hc9 ?_
  refine CW.skip ?_
  refine QW.next ?_
  refine CW.seq ?_
  refine CW.region ?_
  refine OW.pure 4 [(4, .string p0), (5, .string ByteArray.empty), (6, .bool false)] (by kernel_rfl) ?_
  refine OW.nil rfl ?_
  refine QW.next ?_
  refine CW.ret ?_
  obtain rfl := Option.some.inj hF
  refine QW.ret3 rfl rfl rfl rfl ?_
  exact ⟨rfl, hst.keep [] rfl⟩

set_option maxRecDepth 10000 in
set_option maxHeartbeats 4000000 in
theorem strings_Cut_ok (w : World) (p0 : ByteArray) (p1 : ByteArray) (r : ByteArray × ByteArray × Bool) (hF : strings_Cut p0 p1 = some r)
    (hst : St w (fp []) w []) :
    Calls Tryd.prog 20 [.string p0, .string p1].toArray w (fun e w' => e = .returned (.tuple #[.string r.1, .string r.2.1, .bool r.2.2]) ∧ St w (fp []) w' []) := by
 refine CW.start (N := 13) Tryd.func20 rfl rfl rfl ?_
 refine CW.seq ?_
 refine CW.region ?_
 refine OW.pure 3 [] (by kernel_rfl) ?_
 refine OW.nil rfl ?_
 refine QW.next ?_
 refine CW.seq ?_
 refine CW.region ?_
 refine OW.pure 2 [(7, .string p0), (8, .string p1)] (by kernel_rfl) ?_
 obtain ⟨r5, hr6, hF⟩ := bind_some' hF
 refine OW.fn rfl rfl rfl rfl (by kernel_rfl) (stringslite_Cut_ok _ p0 p1 r5 hr6 (hst.part [] rfl)) ?_
 rintro e w7 ⟨rfl, hst8⟩
 refine ⟨_, rfl, ?_⟩
 have hst := hst.join (idx := []) (rest := []) rfl hst8
 refine OW.pure 6 [(4, .string r5.1), (5, .string r5.2.1), (6, .bool r5.2.2)] (by kernel_rfl) ?_
 refine OW.nil rfl ?_
 refine QW.next ?_
 refine CW.ret ?_
 obtain rfl := Option.some.inj hF
 refine QW.ret3 rfl rfl rfl rfl ?_
 exact ⟨rfl, hst.keep [] rfl⟩

set_option maxRecDepth 10000 in
set_option maxHeartbeats 4000000 in
theorem trace_Parse_ok (w : World) (fu : Nat) (p0 : ByteArray) (r : (List api_Entry) × Int × Int) (hF : trace_Parse fu p0 = some r)
    (hst : St w (fp []) w []) (hT0 : Rd w (fp []) (.slice (some ⟨0, 0, none⟩) 18 18) enc_trace_form 2 tab_g0) (hTL : LibG Tryd.prog 4 1 2 3 w (fp [])) :
    Calls Tryd.prog 9 [.string p0].toArray w (fun e w' => ∃ (x0 : Value), e = .returned (.tuple #[x0, .int .i64 r.2.1, .int .i64 r.2.2]) ∧ St w (fp []) w' [rowI x0 46 enc_api_Entry 22 r.1]) := by
 refine CW.start (N := 40) Tryd.func9 rfl rfl rfl ?_
 refine CW.seq ?_
 refine CW.region ?_
 refine OW.pure 3 [] (by kernel_rfl) ?_
 refine OW.nil rfl ?_
 refine QW.next ?_
 refine CW.seq ?_
 refine CW.region ?_
 refine OW.pure 1 [(5, .slice none 0 0)] (by kernel_rfl) ?_
 refine OW.nil rfl ?_
 refine QW.next ?_
 refine CW.seq ?_
 refine CW.seq ?_
 refine CW.region ?_
 refine OW.pure 1 [(6, .int .i64 1)] (by kernel_rfl) ?_
 refine OW.nil rfl ?_
 refine QW.next ?_
 obtain ⟨o145, ho146, hF⟩ := bind_some' hF
 refine CW.cutK (fun a w1 => ∃ (t147 : (List api_Entry)) (v144 : Value), o145 = .inl t147 ∧ Rep 40 [(5, v144)] a ∧ St w (fp []) w1 [rowI v144 46 enc_api_Entry 22 t147]) ?_ ?_
 ·refine CW.block ?_
  have hst := hst.nilRow api_Entry 46 enc_api_Entry 22
  refine CW.loop (fun n a w1 => ∃ (s243 : ByteArray × (List api_Entry) × Int) (v244 : Value), Rep 40 [(0, .string s243.1), (5, v244), (6, .int .i64 s243.2.2)] a ∧ St w (fp []) w1 [rowI v244 46 enc_api_Entry 22 s243.2.1] ∧ loop (trace_Parse_l1 fu) n s243 = some o145) fu (fun a ha => ⟨(p0, ([] : List api_Entry), 1), (.slice none 0 0), ha.agrees (by kernel_rfl), hst.keep [0] rfl, ho146⟩) ?_
  rintro n241 a w1 ⟨s243, v244, ha, hst, hl242⟩
  rcases n241 with _ | n241
  ·exact (loop_zero hl242).elim
  refine CW.go ?_ ha
  obtain ⟨l245, a246, c247, rfl⟩ := hst.len 0 rfl
  refine CW.seq ?_
  refine CW.seq ?_
  refine CW.region ?_
  refine OW.pure 2 [(13, .bool (sNe s243.1 ByteArray.empty))] (by kernel_rfl) ?_
  refine OW.nil rfl ?_
  refine QW.next ?_
  rcases Bool.eq_false_or_eq_true (sNe s243.1 ByteArray.empty) with hc248 | hc248
  ·have hl242 := ite_t hl242 hc248
   refine CW.cond_t rfl hc248 ?_
   refine CW.skip ?_
   refine QW.next ?_
   refine CW.seq ?_
   refine CW.block ?_
   refine CW.seq ?_
   refine CW.region ?_
   refine OW.pure 1 [(17, .string s243.1)] (by kernel_rfl) ?_
   obtain ⟨r253, hr254, hl242⟩ := bind_some' hl242
   refine OW.fn rfl rfl rfl rfl (by kernel_rfl) (strings_Cut_ok _ s243.1 (⟨[10].toArray⟩) r253 hr254 (hst.part [] rfl)) ?_
   rintro e w255 ⟨rfl, hst256⟩
   refine ⟨_, rfl, ?_⟩
   have hst := hst.join (idx := []) (rest := [0]) rfl hst256
   refine OW.pure 7 [(7, .string r253.1), (8, .string r253.2.1), (9, .bool r253.2.2)] (by kernel_rfl) ?_
   refine OW.nil rfl ?_
   refine QW.next ?_
   refine CW.seq ?_
   refine CW.region ?_
   refine OW.pure 1 [(23, .string r253.1)] (by kernel_rfl) ?_
   obtain ⟨r264, hr265, hl242⟩ := bind_some' hl242
   refine OW.fn rfl rfl rfl rfl (by kernel_rfl) (trace_parsed_ok _ fu r253.1 r264 hr265 (hst.part [] rfl) (hT0.give hst []) (hTL.give hst [])) ?_
   rintro e w266 ⟨rfl, hst267⟩
   refine ⟨_, rfl, ?_⟩
   have hst := hst.join (idx := []) (rest := [0]) rfl hst267
   refine OW.pure 3 [(25, .agg [.int .i64 r264.1.What, .int .i64 r264.1.Task, .int .i64 r264.1.From, .int .i64 r264.1.Cmd, .int .i64 r264.1.Tag, .int .i64 r264.1.Event, .int .i64 r264.1.Hook, .int .i64 r264.1.Prog, .int .i64 r264.1.Version, .int .i64 r264.1.Pc, .int .i64 r264.1.Item.Map, .int .i64 r264.1.Item.Op, .int .u64 r264.1.Item.Key, .int .u64 r264.1.Item.Val, .int .i64 r264.1.Res.E, .bool r264.1.Res.Found, .int .u64 r264.1.Res.Val, .bool r264.1.Res.Out, .int .u64 r264.1.Res.OutKey, .int .u64 r264.1.Res.OutVal, .int .u64 r264.1.Val, .int .i64 r264.1.E].toArray), (26, .bool r264.2)] (by kernel_rfl) ?_
   refine OW.alloc hst rfl rfl rfl [.int .i64 0, .int .i64 0, .int .i64 0, .int .i64 0, .int .i64 0, .int .i64 0, .int .i64 0, .int .i64 0, .int .i64 0, .int .i64 0, .int .i64 0, .int .i64 0, .int .u64 0, .int .u64 0, .int .i64 0, .bool false, .int .u64 0, .bool false, .int .u64 0, .int .u64 0, .int .u64 0, .int .i64 0] (by kernel_rfl) ?_
   intro b268 w269 hst
   refine OW.stB hst 1 rfl rfl rfl rfl rfl (by kernel_rfl) rfl rfl [.int .i64 r264.1.What, .int .i64 r264.1.Task, .int .i64 r264.1.From, .int .i64 r264.1.Cmd, .int .i64 r264.1.Tag, .int .i64 r264.1.Event, .int .i64 r264.1.Hook, .int .i64 r264.1.Prog, .int .i64 r264.1.Version, .int .i64 r264.1.Pc, .int .i64 r264.1.Item.Map, .int .i64 r264.1.Item.Op, .int .u64 r264.1.Item.Key, .int .u64 r264.1.Item.Val, .int .i64 r264.1.Res.E, .bool r264.1.Res.Found, .int .u64 r264.1.Res.Val, .bool r264.1.Res.Out, .int .u64 r264.1.Res.OutKey, .int .u64 r264.1.Res.OutVal, .int .u64 r264.1.Val, .int .i64 r264.1.E] rfl ?_
   intro w270 hst
   refine OW.pure 1 [(11, .bool r264.2)] (by kernel_rfl) ?_
   refine OW.nil rfl ?_
   refine QW.next ?_
   refine CW.seq ?_
   refine CW.seq ?_
   refine CW.cutK (fun a w1 => Rep 40 [(5, .slice a246 (s243.2.1).length c247), (6, .int .i64 s243.2.2), (8, .string r253.2.1), (10, .pointer (some ⟨b268, 0, none⟩)), (32, .bool ((!r253.2.2) || (!r264.2)))] a ∧ St w (fp []) w1 [rowI (.slice a246 (s243.2.1).length c247) 46 enc_api_Entry 22 s243.2.1, blkI b268 46 [.int .i64 r264.1.What, .int .i64 r264.1.Task, .int .i64 r264.1.From, .int .i64 r264.1.Cmd, .int .i64 r264.1.Tag, .int .i64 r264.1.Event, .int .i64 r264.1.Hook, .int .i64 r264.1.Prog, .int .i64 r264.1.Version, .int .i64 r264.1.Pc, .int .i64 r264.1.Item.Map, .int .i64 r264.1.Item.Op, .int .u64 r264.1.Item.Key, .int .u64 r264.1.Item.Val, .int .i64 r264.1.Res.E, .bool r264.1.Res.Found, .int .u64 r264.1.Res.Val, .bool r264.1.Res.Out, .int .u64 r264.1.Res.OutKey, .int .u64 r264.1.Res.OutVal, .int .u64 r264.1.Val, .int .i64 r264.1.E]]) ?_ ?_
   ·refine CW.region ?_
    refine OW.pure 3 [(29, .bool (!r253.2.2))] (by kernel_rfl) ?_
    refine OW.split 29 rfl (fun hc271 => ?_) (fun hc271 => ?_)
    ·refine OW.pure 3 [(32, .bool true)] (by kernel_rfl) ?_
     refine OW.nil rfl ?_
     refine QW.say 32 (v := .bool ((!r253.2.2) || (!r264.2))) rfl (by first | (rw [hc271]; done) | (rw [hc271]; rfl) | simp [hc271]) ?_
     exact QW.meet (fun a ha => ⟨ha.agrees (by kernel_rfl), hst.keep [0, 1] rfl⟩)
    ·refine OW.pure 3 [(32, .bool (!r264.2))] (by kernel_rfl) ?_
     refine OW.nil rfl ?_
     refine QW.say 32 (v := .bool ((!r253.2.2) || (!r264.2))) rfl (by first | (rw [hc271]; done) | (rw [hc271]; rfl) | simp [hc271]) ?_
     exact QW.meet (fun a ha => ⟨ha.agrees (by kernel_rfl), hst.keep [0, 1] rfl⟩)
   ·rintro a w1 ⟨ha, hst⟩
    refine CW.go ?_ ha
    rcases Bool.eq_false_or_eq_true (((!r253.2.2) || (!r264.2))) with hc272 | hc272
    ·have hl242 := ite_t hl242 hc272
     refine CW.cond_t rfl hc272 ?_
     refine CW.seq ?_
     refine CW.region ?_
     refine OW.pure 4 [(2, .slice none 0 0), (3, .int .i64 s243.2.2), (4, .int .i64 20)] (by kernel_rfl) ?_
     refine OW.nil rfl ?_
     refine QW.next ?_
     refine CW.ret ?_
     refine QW.then_ret ?_
     refine QW.block_ret ?_
     refine QW.then_ret ?_
     refine QW.then_ret ?_
     refine QW.block_ret ?_
     refine QW.then_ret ?_
     have hst := hst.nilRow api_Entry 46 enc_api_Entry 22
     obtain rfl := Option.some.inj hl242
     obtain rfl := Option.some.inj hF
     refine QW.ret3 rfl rfl rfl rfl ?_
     exact ⟨(.slice none 0 0), rfl, hst.keep [2] rfl⟩
    ·have hl242 := ite_f hl242 hc272
     refine CW.cond_f rfl hc272 ?_
     refine CW.skip ?_
     refine QW.next ?_
     refine CW.seq ?_
     refine CW.region ?_
     refine OW.pure 1 [(34, .slice a246 (s243.2.1).length c247)] (by kernel_rfl) ?_
     refine OW.ldN (cs := [.int .i64 r264.1.What, .int .i64 r264.1.Task, .int .i64 r264.1.From, .int .i64 r264.1.Cmd, .int .i64 r264.1.Tag, .int .i64 r264.1.Event, .int .i64 r264.1.Hook, .int .i64 r264.1.Prog, .int .i64 r264.1.Version, .int .i64 r264.1.Pc, .int .i64 r264.1.Item.Map, .int .i64 r264.1.Item.Op, .int .u64 r264.1.Item.Key, .int .u64 r264.1.Item.Val, .int .i64 r264.1.Res.E, .bool r264.1.Res.Found, .int .u64 r264.1.Res.Val, .bool r264.1.Res.Out, .int .u64 r264.1.Res.OutKey, .int .u64 r264.1.Res.OutVal, .int .u64 r264.1.Val, .int .i64 r264.1.E]) rfl rfl rfl rfl (by kernel_rfl) (by kernel_rfl) (hst.blkN 1 rfl 0 22) ?_
     refine OW.row (α := api_Entry) (e := 46) (enc := enc_api_Entry) (sz := 22) hst rfl rfl rfl [r264.1] rfl (fun _ => rfl) rfl rfl (fun _ => by kernel_rfl) ?_
     intro g282 w283 hst
     obtain ⟨u284, hr285, hl242⟩ := bind_some' hl242
     refine OW.app hst 0 rfl (fun _ => rfl) (fun _ => rfl) rfl rfl rfl rfl rfl rfl (by kernel_rfl) el46 (hst.rd 2 rfl (fun _ => rfl) [] rfl (hst.len 2 rfl).1) (room_le hr285) ?_
     intro v286 w287 hst
     obtain ⟨l288, a289, c290, rfl⟩ := hst.len 0 rfl
     refine OW.pure 1 [(5, .slice a289 ((s243.2.1 ++ [r264.1])).length c290)] (by kernel_rfl) ?_
     refine OW.nil rfl ?_
     refine QW.next ?_
     refine CW.region ?_
     refine OW.pure 2 [(0, .string r253.2.1)] (by kernel_rfl) ?_
     refine OW.nil rfl ?_
     refine QW.block_normal ?_
     refine QW.next ?_
     refine CW.region ?_
     refine OW.pure 3 [(6, .int .i64 (w64 (s243.2.2 + 1)))] (by kernel_rfl) ?_
     refine OW.nil rfl ?_
     have hst := hst.shutP0 (enc := enc_api_Entry) (sz := 22) (he := fun _ => rfl) 1 rfl r264.1 rfl
     exact QW.meet (fun a ha => ⟨n241, Nat.lt_succ_self _, (r253.2.1, (s243.2.1 ++ [r264.1]), w64 (s243.2.2 + 1)), (.slice a289 ((s243.2.1 ++ [r264.1])).length c290), ha.agrees (by kernel_rfl), hst.keep [0] rfl, hl242⟩)
  ·have hl242 := ite_f hl242 hc248
   refine CW.cond_f rfl hc248 ?_
   refine CW.exit ?_
   refine QW.then_exit ?_
   refine QW.then_exit ?_
   refine QW.block_here ?_
   obtain rfl := Option.some.inj hl242
   exact QW.meet (fun a ha => ⟨s243.2.1, (.slice a246 (s243.2.1).length c247), rfl, ha.agrees (by kernel_rfl), hst.keep [0] rfl⟩)
 ·rintro a w1 ⟨t147, v144, rfl, ha, hst⟩
  refine CW.go ?_ ha
  obtain ⟨l293, a294, c295, rfl⟩ := hst.len 0 rfl
  refine CW.seq ?_
  refine CW.region ?_
  refine OW.pure 4 [(2, .slice a294 (t147).length c295), (3, .int .i64 0), (4, .int .i64 0)] (by kernel_rfl) ?_
  refine OW.nil rfl ?_
  refine QW.next ?_
  refine CW.ret ?_
  obtain rfl := Option.some.inj hF
  refine QW.ret3 rfl rfl rfl rfl ?_
  exact ⟨(.slice a294 (t147).length c295), rfl, hst.keep [0] rfl⟩

set_option maxRecDepth 10000 in
set_option maxHeartbeats 4000000 in
theorem tappetlaw26_awake_ok (w : World) (fu : Nat)  (r : Bool) (hF : tappetlaw26_awake fu = some r)
    (hst : St w (fp []) w []) (hT0 : Rd w (fp []) (.slice (some ⟨0, 0, none⟩) 18 18) enc_trace_form 2 tab_g0) (hTL : LibG Tryd.prog 4 1 2 3 w (fp [])) :
    Calls Tryd.prog 8 [].toArray w (fun e w' => e = .returned (.bool r) ∧ St w (fp []) w' []) := by
 refine CW.start (N := 45) Tryd.func8 rfl rfl rfl ?_
 refine CW.seq ?_
 refine CW.region ?_
 refine OW.pure 1 [] (by kernel_rfl) ?_
 refine OW.nil rfl ?_
 refine QW.next ?_
 refine CW.seq ?_
 refine CW.region ?_
 refine OW.pure 2 [(7, .agg [.int .i64 1, .int .i64 0, .int .i64 0, .int .i64 2, .int .i64 0, .int .i64 0, .int .i64 0, .int .i64 0, .int .i64 0, .int .i64 0, .int .i64 0, .int .i64 0, .int .u64 0, .int .u64 0, .int .i64 0, .bool false, .int .u64 0, .bool false, .int .u64 0, .int .u64 0, .int .u64 0, .int .i64 0].toArray), (8, .agg [.int .i64 2, .int .i64 1, .int .i64 0, .int .i64 0, .int .i64 0, .int .i64 0, .int .i64 0, .int .i64 0, .int .i64 0, .int .i64 0, .int .i64 0, .int .i64 0, .int .u64 0, .int .u64 0, .int .i64 0, .bool false, .int .u64 0, .bool false, .int .u64 0, .int .u64 0, .int .u64 0, .int .i64 40].toArray)] (by kernel_rfl) ?_
 refine OW.row (α := api_Entry) (e := 46) (enc := enc_api_Entry) (sz := 22) hst rfl rfl rfl [(api_Entry.mk 1 0 0 2 0 0 0 0 0 0 (api_Item.mk 0 0 0 0) (api_Res.mk 0 false 0 false 0 0) 0 0), (api_Entry.mk 2 1 0 0 0 0 0 0 0 0 (api_Item.mk 0 0 0 0) (api_Res.mk 0 false 0 false 0 0) 0 40)] rfl (fun _ => rfl) rfl rfl (fun _ => by kernel_rfl) ?_
 intro g7 w8 hst
 obtain ⟨r9, hr10, hF⟩ := bind_some' hF
 refine OW.fn rfl rfl rfl rfl (by kernel_rfl) (trace_Print_ok _ fu (.slice (some ⟨g7, 0, none⟩) 2 2) ([(api_Entry.mk 1 0 0 2 0 0 0 0 0 0 (api_Item.mk 0 0 0 0) (api_Res.mk 0 false 0 false 0 0) 0 0), (api_Entry.mk 2 1 0 0 0 0 0 0 0 0 (api_Item.mk 0 0 0 0) (api_Res.mk 0 false 0 false 0 0) 0 40)]) r9 hr10 (hst.part [] rfl) (hst.rd 0 rfl (fun _ => rfl) [] rfl (hst.len 0 rfl).1) (hT0.give hst []) (hTL.give hst [])) ?_
 rintro e w11 ⟨rfl, hst12⟩
 refine ⟨_, rfl, ?_⟩
 have hst := hst.join (idx := []) (rest := [0]) rfl hst12
 refine OW.pure 5 [(1, .string r9.1), (2, .int .i64 r9.2)] (by kernel_rfl) ?_
 refine OW.nil rfl ?_
 refine QW.next ?_
 refine CW.seq ?_
 refine CW.region ?_
 obtain ⟨r21, hr22, hF⟩ := bind_some' hF
 refine OW.fn rfl rfl rfl rfl (by kernel_rfl) (trace_Parse_ok _ fu (⟨[98, 97, 99, 107, 32, 116, 50, 32, 101, 55, 32, 112, 49, 32, 118, 51, 32, 97, 52, 32, 121, 48, 32, 98, 48, 32, 114, 48, 32, 79, 56, 32, 86, 50, 10].toArray⟩) r21 hr22 (hst.part [] rfl) (hT0.give hst []) (hTL.give hst [])) ?_
 rintro e w23 ⟨v25, rfl, hst24⟩
 refine ⟨_, rfl, ?_⟩
 have hst := hst.join (idx := []) (rest := [0]) rfl hst24
 obtain ⟨l26, a27, c28, rfl⟩ := hst.len 0 rfl
 refine OW.pure 7 [(3, .slice a27 (r21.1).length c28), (4, .int .i64 r21.2.1), (5, .int .i64 r21.2.2)] (by kernel_rfl) ?_
 refine OW.nil rfl ?_
 refine QW.next ?_
 refine CW.seq ?_
 obtain ⟨o40, ho41, hF⟩ := bind_some' hF
 refine CW.cutK (fun a w1 => Rep 45 [(0, .bool o40)] a ∧ St w (fp []) w1 []) ?_ ?_
 ·refine CW.region ?_
  refine OW.pure 3 [(20, .bool (sEq r9.1 (⟨[99, 97, 108, 108, 32, 116, 48, 32, 99, 50, 10, 114, 101, 116, 117, 114, 110, 32, 116, 49, 32, 99, 48, 32, 120, 52, 48, 32, 110, 48, 10].toArray⟩)))] (by kernel_rfl) ?_
  refine OW.split 20 rfl (fun hc42 => ?_) (fun hc42 => ?_)
  ·have ho41 := ite_t ho41 hc42
   refine OW.pure 4 [(24, .bool (r9.2 == 0))] (by kernel_rfl) ?_
   refine OW.split 24 rfl (fun hc43 => ?_) (fun hc43 => ?_)
   ·have ho41 := ite_t ho41 hc43
    refine OW.pure 5 [(29, .bool (((r21.1).length : Int) == 1))] (by kernel_rfl) ?_
    refine OW.split 29 rfl (fun hc44 => ?_) (fun hc44 => ?_)
    ·have ho41 := ite_t ho41 hc44
     refine OW.pure 4 [(33, .bool (r21.2.1 == 0))] (by kernel_rfl) ?_
     refine OW.split 33 rfl (fun hc45 => ?_) (fun hc45 => ?_)
     ·have ho41 := ite_t ho41 hc45
      refine OW.pure 4 [(37, .bool (r21.2.2 == 0))] (by kernel_rfl) ?_
      refine OW.split 37 rfl (fun hc46 => ?_) (fun hc46 => ?_)
      ·have ho41 := ite_t ho41 hc46
       refine OW.pure 1 [(38, .slice a27 (r21.1).length c28)] (by kernel_rfl) ?_
       obtain ⟨x47, hx48, ho41⟩ := bind_some' ho41
       obtain ⟨g50, o51, c52, hv49⟩ := hst.rowv 0 rfl hx48
       refine OW.idx 46 22 rfl rfl rfl rfl hv49 rfl (idx_some hx48).1 (idx_some hx48).2.1 (by kernel_rfl) (by kernel_rfl) ?_
       refine OW.ldN (cs := enc_api_Entry x47) rfl rfl rfl rfl (by kernel_rfl) (by kernel_rfl) (hst.rowc 0 rfl (fun _ => rfl) hx48 hv49) ?_
       refine OW.pure 2 [(42, .agg [.int .i64 17, .int .i64 2, .int .i64 0, .int .i64 0, .int .i64 0, .int .i64 7, .int .i64 0, .int .i64 1, .int .i64 3, .int .i64 4, .int .i64 0, .int .i64 0, .int .u64 0, .int .u64 0, .int .i64 0, .bool false, .int .u64 0, .bool true, .int .u64 8, .int .u64 2, .int .u64 0, .int .i64 0].toArray)] (by kernel_rfl) ?_
       refine OW.op (v := .bool ((x47.What == 17) && ((x47.Task == 2) && ((x47.From == 0) && ((x47.Cmd == 0) && ((x47.Tag == 0) && ((x47.Event == 7) && ((x47.Hook == 0) && ((x47.Prog == 1) && ((x47.Version == 3) && ((x47.Pc == 4) && (((x47.Item.Map == 0) && ((x47.Item.Op == 0) && ((x47.Item.Key == 0) && ((x47.Item.Val == 0) && true)))) && (((x47.Res.E == 0) && ((x47.Res.Found == false) && ((x47.Res.Val == 0) && ((x47.Res.Out == true) && ((x47.Res.OutKey == 8) && ((x47.Res.OutVal == 2) && true)))))) && ((x47.Val == 0) && ((x47.E == 0) && true))))))))))))))) rfl rfl rfl rfl (fun a ha => seq_run rfl rfl rfl (by kernel_rfl) (by kernel_rfl) a _ ha) ?_
       refine OW.pure 2 [(0, .bool ((x47.What == 17) && ((x47.Task == 2) && ((x47.From == 0) && ((x47.Cmd == 0) && ((x47.Tag == 0) && ((x47.Event == 7) && ((x47.Hook == 0) && ((x47.Prog == 1) && ((x47.Version == 3) && ((x47.Pc == 4) && (((x47.Item.Map == 0) && ((x47.Item.Op == 0) && ((x47.Item.Key == 0) && ((x47.Item.Val == 0) && true)))) && (((x47.Res.E == 0) && ((x47.Res.Found == false) && ((x47.Res.Val == 0) && ((x47.Res.Out == true) && ((x47.Res.OutKey == 8) && ((x47.Res.OutVal == 2) && true)))))) && ((x47.Val == 0) && ((x47.E == 0) && true)))))))))))))))] (by kernel_rfl) ?_
       refine OW.nil rfl ?_
       obtain rfl := Option.some.inj ho41
       exact QW.meet (fun a ha => ⟨ha.agrees (by kernel_rfl), hst.keep [] rfl⟩)
      ·have ho41 := ite_f ho41 hc46
       refine OW.pure 8 [(0, .bool false)] (by kernel_rfl) ?_
       refine OW.nil rfl ?_
       obtain rfl := Option.some.inj ho41
       exact QW.meet (fun a ha => ⟨ha.agrees (by kernel_rfl), hst.keep [] rfl⟩)
     ·have ho41 := ite_f ho41 hc45
      refine OW.pure 12 [(0, .bool false)] (by kernel_rfl) ?_
      refine OW.nil rfl ?_
      obtain rfl := Option.some.inj ho41
      exact QW.meet (fun a ha => ⟨ha.agrees (by kernel_rfl), hst.keep [] rfl⟩)
    ·have ho41 := ite_f ho41 hc44
     refine OW.pure 16 [(0, .bool false)] (by kernel_rfl) ?_
     refine OW.nil rfl ?_
     obtain rfl := Option.some.inj ho41
     exact QW.meet (fun a ha => ⟨ha.agrees (by kernel_rfl), hst.keep [] rfl⟩)
   ·have ho41 := ite_f ho41 hc43
    refine OW.pure 21 [(0, .bool false)] (by kernel_rfl) ?_
    refine OW.nil rfl ?_
    obtain rfl := Option.some.inj ho41
    exact QW.meet (fun a ha => ⟨ha.agrees (by kernel_rfl), hst.keep [] rfl⟩)
  ·have ho41 := ite_f ho41 hc42
   refine OW.pure 25 [(0, .bool false)] (by kernel_rfl) ?_
   refine OW.nil rfl ?_
   obtain rfl := Option.some.inj ho41
   exact QW.meet (fun a ha => ⟨ha.agrees (by kernel_rfl), hst.keep [] rfl⟩)
 ·rintro a w1 ⟨ha, hst⟩
  refine CW.go ?_ ha
  refine CW.ret ?_
  obtain rfl := Option.some.inj hF
  refine QW.ret1 rfl rfl ?_
  exact ⟨rfl, hst.keep [] rfl⟩

set_option maxRecDepth 10000 in
set_option maxHeartbeats 4000000 in
theorem tappetref26_Name_ok (w : World) (p0 : Int) (r : ByteArray) (hF : tappetref26_Name p0 = some r)
    (hst : St w (fp []) w []) :
    Calls Tryd.prog 15 [.int .i64 p0].toArray w (fun e w' => e = .returned (.string r) ∧ St w (fp []) w' []) := by
 refine CW.start (N := 15) Tryd.func15 rfl rfl rfl ?_
 refine CW.seq ?_
 refine CW.region ?_
 refine OW.pure 1 [] (by kernel_rfl) ?_
 refine OW.nil rfl ?_
 refine QW.next ?_
 refine CW.seq ?_
 refine CW.region ?_
 refine OW.row (α := ByteArray) (e := 9) (enc := encText) (sz := 1) hst rfl rfl rfl [ByteArray.empty, ⟨[99, 97, 108, 108].toArray⟩, ⟨[114, 101, 116, 117, 114, 110].toArray⟩, ⟨[97, 112, 112, 108, 121].toArray⟩, ⟨[97, 99, 99, 101, 112, 116].toArray⟩, ⟨[116, 97, 107, 101].toArray⟩, ⟨[101, 110, 116, 101, 114].toArray⟩, ⟨[114, 97, 110].toArray⟩, ⟨[110, 111, 116, 101].toArray⟩, ⟨[100, 111, 110, 101].toArray⟩, ⟨[100, 114, 111, 112].toArray⟩, ⟨[112, 117, 98, 108, 105, 115, 104].toArray⟩, ⟨[108, 111, 97, 100, 101, 100].toArray⟩, ⟨[114, 101, 116, 105, 114, 101, 100].toArray⟩, ⟨[99, 108, 111, 115, 101, 100].toArray⟩, ⟨[101, 110, 100].toArray⟩, ⟨[97, 115, 107].toArray⟩, ⟨[98, 97, 99, 107].toArray⟩] rfl (fun _ => rfl) rfl rfl (fun _ => by kernel_rfl) ?_
 intro g3 w4 hst
 refine OW.pure 1 [(3, .slice (some ⟨g3, 0, none⟩) 18 18)] (by kernel_rfl) ?_
 refine OW.nil rfl ?_
 refine QW.next ?_
 refine CW.seq ?_
 refine CW.seq ?_
 refine CW.cutK (fun a w1 => Rep 15 [(0, .int .i64 p0), (3, .slice (some ⟨g3, 0, none⟩) 18 18), (10, .bool (decide (p0 < 1) || decide (p0 > 17)))] a ∧ St w (fp []) w1 [rowI (.slice (some ⟨g3, 0, none⟩) 18 18) 9 encText 1 ([ByteArray.empty, ⟨[99, 97, 108, 108].toArray⟩, ⟨[114, 101, 116, 117, 114, 110].toArray⟩, ⟨[97, 112, 112, 108, 121].toArray⟩, ⟨[97, 99, 99, 101, 112, 116].toArray⟩, ⟨[116, 97, 107, 101].toArray⟩, ⟨[101, 110, 116, 101, 114].toArray⟩, ⟨[114, 97, 110].toArray⟩, ⟨[110, 111, 116, 101].toArray⟩, ⟨[100, 111, 110, 101].toArray⟩, ⟨[100, 114, 111, 112].toArray⟩, ⟨[112, 117, 98, 108, 105, 115, 104].toArray⟩, ⟨[108, 111, 97, 100, 101, 100].toArray⟩, ⟨[114, 101, 116, 105, 114, 101, 100].toArray⟩, ⟨[99, 108, 111, 115, 101, 100].toArray⟩, ⟨[101, 110, 100].toArray⟩, ⟨[97, 115, 107].toArray⟩, ⟨[98, 97, 99, 107].toArray⟩])]) ?_ ?_
 ·refine CW.region ?_
  refine OW.pure 3 [(7, .bool (decide (p0 < 1)))] (by kernel_rfl) ?_
  refine OW.split 7 rfl (fun hc5 => ?_) (fun hc5 => ?_)
  ·refine OW.pure 3 [(10, .bool true)] (by kernel_rfl) ?_
   refine OW.nil rfl ?_
   refine QW.say 10 (v := .bool (decide (p0 < 1) || decide (p0 > 17))) rfl (by first | (rw [hc5]; done) | (rw [hc5]; rfl) | simp [hc5]) ?_
   exact QW.meet (fun a ha => ⟨ha.agrees (by kernel_rfl), hst.keep [0] rfl⟩)
  ·refine OW.pure 3 [(10, .bool (decide (p0 > 17)))] (by kernel_rfl) ?_
   refine OW.nil rfl ?_
   refine QW.say 10 (v := .bool (decide (p0 < 1) || decide (p0 > 17))) rfl (by first | (rw [hc5]; done) | (rw [hc5]; rfl) | simp [hc5]) ?_
   exact QW.meet (fun a ha => ⟨ha.agrees (by kernel_rfl), hst.keep [0] rfl⟩)
 ·rintro a w1 ⟨ha, hst⟩
  refine CW.go ?_ ha
  rcases Bool.eq_false_or_eq_true ((decide (p0 < 1) || decide (p0 > 17))) with hc6 | hc6
  ·have hF := ite_t hF hc6
   refine CW.cond_t rfl hc6 ?_
   refine CW.seq ?_
   refine CW.region ?_
   refine OW.pure 1 [(2, .string ByteArray.empty)] (by kernel_rfl) ?_
   refine OW.nil rfl ?_
   refine QW.next ?_
   refine CW.ret ?_
   refine QW.then_ret ?_
   obtain rfl := Option.some.inj hF
   refine QW.ret1 rfl rfl ?_
   exact ⟨rfl, hst.keep [] rfl⟩
  ·have hF := ite_f hF hc6
   refine CW.cond_f rfl hc6 ?_
   refine CW.skip ?_
   refine QW.next ?_
   refine CW.seq ?_
   refine CW.region ?_
   refine OW.pure 2 [(11, .slice (some ⟨g3, 0, none⟩) 18 18), (12, .int .i64 p0)] (by kernel_rfl) ?_
   obtain ⟨x13, hx14, hF⟩ := bind_some' hF
   obtain ⟨g16, o17, c18, hv15⟩ := hst.rowv 0 rfl hx14
   refine OW.idx 9 1 rfl rfl rfl rfl hv15 rfl (idx_some hx14).1 (idx_some hx14).2.1 (by kernel_rfl) (by kernel_rfl) ?_
   refine OW.ld rfl rfl rfl rfl (by kernel_rfl) (hst.rowc 0 rfl (fun _ => rfl) hx14 hv15 0 _ rfl) ?_
   refine OW.pure 1 [(2, .string x13)] (by kernel_rfl) ?_
   refine OW.nil rfl ?_
   refine QW.next ?_
   refine CW.ret ?_
   obtain rfl := Option.some.inj hF
   refine QW.ret1 rfl rfl ?_
   exact ⟨rfl, hst.keep [] rfl⟩

set_option maxRecDepth 10000 in
set_option maxHeartbeats 4000000 in
theorem tappetref26_fields_ok (w : World) (p0 : Int) (p1 : Bool) (r : ByteArray) (hF : tappetref26_fields p0 p1 = some r)
    (hst : St w (fp []) w []) :
    Calls Tryd.prog 28 [.int .i64 p0, .bool p1].toArray w (fun e w' => e = .returned (.string r) ∧ St w (fp []) w' []) := by
 refine CW.start (N := 39) Tryd.func28 rfl rfl rfl ?_
 refine CW.seq ?_
 refine CW.region ?_
 refine OW.pure 1 [] (by kernel_rfl) ?_
 refine OW.nil rfl ?_
 refine QW.next ?_
 refine CW.seq ?_
 refine CW.region ?_
 refine OW.pure 1 [(5, .string (⟨[121, 98, 114].toArray⟩))] (by kernel_rfl) ?_
 refine OW.nil rfl ?_
 refine QW.next ?_
 refine CW.seq ?_
 refine CW.seq ?_
 refine CW.region ?_
 refine OW.pure 1 [(6, .bool p1)] (by kernel_rfl) ?_
 refine OW.nil rfl ?_
 refine QW.next ?_
 obtain ⟨o2, ho3, hF⟩ := bind_some' hF
 refine CW.cutK (fun a w1 => Rep 39 [(0, .int .i64 p0), (5, .string o2)] a ∧ St w (fp []) w1 []) ?_ ?_
 ·rcases Bool.eq_false_or_eq_true (p1) with hc4 | hc4
  ·have ho3 := ite_t ho3 hc4
   refine CW.cond_t rfl hc4 ?_
   refine CW.region ?_
   refine OW.pure 1 [(5, .string (⟨[121, 98, 114, 79, 86].toArray⟩))] (by kernel_rfl) ?_
   refine OW.nil rfl ?_
   obtain rfl := Option.some.inj ho3
   exact QW.meet (fun a ha => ⟨ha.agrees (by kernel_rfl), hst.keep [] rfl⟩)
  ·have ho3 := ite_f ho3 hc4
   refine CW.cond_f rfl hc4 ?_
   refine CW.skip ?_
   obtain rfl := Option.some.inj ho3
   exact QW.meet (fun a ha => ⟨ha.agrees (by kernel_rfl), hst.keep [] rfl⟩)
 ·rintro a w1 ⟨ha, hst⟩
  refine CW.go ?_ ha
  refine CW.seq ?_
  refine CW.seq ?_
  refine CW.region ?_
  refine OW.pure 1 [(7, .int .i64 p0)] (by kernel_rfl) ?_
  refine OW.nil rfl ?_
  refine QW.next ?_
  refine CW.block ?_
  refine CW.seq ?_
  refine CW.region ?_
  refine OW.pure 2 [(8, .bool (p0 == 1))] (by kernel_rfl) ?_
  refine OW.nil rfl ?_
  refine QW.next ?_
  rcases Bool.eq_false_or_eq_true ((p0 == 1)) with hc5 | hc5
  ·have hF := ite_t hF hc5
   refine CW.cond_t rfl hc5 ?_
   refine CW.seq ?_
   refine CW.region ?_
   refine OW.pure 1 [(4, .string (⟨[116, 99].toArray⟩))] (by kernel_rfl) ?_
   refine OW.nil rfl ?_
   refine QW.next ?_
   refine CW.ret ?_
   refine QW.block_ret ?_
   refine QW.then_ret ?_
   obtain rfl := Option.some.inj hF
   refine QW.ret1 rfl rfl ?_
   exact ⟨rfl, hst.keep [] rfl⟩
  ·have hF := ite_f hF hc5
   refine CW.cond_f rfl hc5 ?_
   refine CW.seq ?_
   refine CW.region ?_
   refine OW.pure 2 [(10, .bool (p0 == 2))] (by kernel_rfl) ?_
   refine OW.nil rfl ?_
   refine QW.next ?_
   rcases Bool.eq_false_or_eq_true ((p0 == 2)) with hc6 | hc6
   ·have hF := ite_t hF hc6
    refine CW.cond_t rfl hc6 ?_
    refine CW.seq ?_
    refine CW.region ?_
    refine OW.pure 1 [(4, .string (⟨[116, 99, 120, 110].toArray⟩))] (by kernel_rfl) ?_
    refine OW.nil rfl ?_
    refine QW.next ?_
    refine CW.ret ?_
    refine QW.block_ret ?_
    refine QW.then_ret ?_
    obtain rfl := Option.some.inj hF
    refine QW.ret1 rfl rfl ?_
    exact ⟨rfl, hst.keep [] rfl⟩
   ·have hF := ite_f hF hc6
    refine CW.cond_f rfl hc6 ?_
    refine CW.seq ?_
    refine CW.region ?_
    refine OW.pure 2 [(12, .bool (p0 == 3))] (by kernel_rfl) ?_
    refine OW.nil rfl ?_
    refine QW.next ?_
    rcases Bool.eq_false_or_eq_true ((p0 == 3)) with hc7 | hc7
    ·have hF := ite_t hF hc7
     refine CW.cond_t rfl hc7 ?_
     refine CW.seq ?_
     refine CW.region ?_
     refine OW.pure 1 [(14, .string o2)] (by kernel_rfl) ?_
     obtain ⟨x10, hx11, hF⟩ := bind_some' hF
     refine OW.op (v := .string x10) rfl rfl rfl rfl (fun a ha => cat_run rfl rfl rfl (by kernel_rfl) hx11 a _ ha) ?_
     refine OW.pure 1 [(4, .string x10)] (by kernel_rfl) ?_
     refine OW.nil rfl ?_
     refine QW.next ?_
     refine CW.ret ?_
     refine QW.block_ret ?_
     refine QW.then_ret ?_
     obtain rfl := Option.some.inj hF
     refine QW.ret1 rfl rfl ?_
     exact ⟨rfl, hst.keep [] rfl⟩
    ·have hF := ite_f hF hc7
     refine CW.cond_f rfl hc7 ?_
     refine CW.seq ?_
     refine CW.region ?_
     refine OW.pure 2 [(16, .bool (p0 == 4))] (by kernel_rfl) ?_
     refine OW.nil rfl ?_
     refine QW.next ?_
     rcases Bool.eq_false_or_eq_true ((p0 == 4)) with hc12 | hc12
     ·have hF := ite_t hF hc12
      refine CW.cond_t rfl hc12 ?_
      refine CW.seq ?_
      refine CW.region ?_
      refine OW.pure 1 [(4, .string (⟨[116, 99, 104, 101].toArray⟩))] (by kernel_rfl) ?_
      refine OW.nil rfl ?_
      refine QW.next ?_
      refine CW.ret ?_
      refine QW.block_ret ?_
      refine QW.then_ret ?_
      obtain rfl := Option.some.inj hF
      refine QW.ret1 rfl rfl ?_
      exact ⟨rfl, hst.keep [] rfl⟩
     ·have hF := ite_f hF hc12
      refine CW.cond_f rfl hc12 ?_
      refine CW.seq ?_
      refine CW.seq ?_
      refine CW.region ?_
      refine OW.pure 2 [(18, .bool (p0 == 5))] (by kernel_rfl) ?_
      refine OW.nil rfl ?_
      refine QW.next ?_
      obtain ⟨o14, ho15, hF⟩ := bind_some' hF
      refine CW.cutK (fun a w1 => Rep 39 [(5, .string o2), (7, .int .i64 p0), (18, .bool o14)] a ∧ St w (fp []) w1 []) ?_ ?_
      ·rcases Bool.eq_false_or_eq_true ((p0 == 5)) with hc16 | hc16
       ·have ho15 := ite_t ho15 hc16
        refine CW.cond_t rfl hc16 ?_
        refine CW.skip ?_
        obtain rfl := Option.some.inj ho15
        exact QW.meet (fun a ha => ⟨ha.agrees (by kernel_rfl), hst.keep [] rfl⟩)
       ·have ho15 := ite_f ho15 hc16
        refine CW.cond_f rfl hc16 ?_
        refine CW.region ?_
        refine OW.pure 2 [(18, .bool (p0 == 10))] (by kernel_rfl) ?_
        refine OW.nil rfl ?_
        obtain rfl := Option.some.inj ho15
        exact QW.meet (fun a ha => ⟨ha.agrees (by kernel_rfl), hst.keep [] rfl⟩)
      ·rintro a w1 ⟨ha, hst⟩
       refine CW.go ?_ ha
       rcases Bool.eq_false_or_eq_true (o14) with hc17 | hc17
       ·have hF := ite_t hF hc17
        refine CW.cond_t rfl hc17 ?_
        refine CW.seq ?_
        refine CW.region ?_
        refine OW.pure 1 [(4, .string (⟨[116, 104, 101].toArray⟩))] (by kernel_rfl) ?_
        refine OW.nil rfl ?_
        refine QW.next ?_
        refine CW.ret ?_
        refine QW.block_ret ?_
        refine QW.then_ret ?_
        obtain rfl := Option.some.inj hF
        refine QW.ret1 rfl rfl ?_
        exact ⟨rfl, hst.keep [] rfl⟩
       ·have hF := ite_f hF hc17
        refine CW.cond_f rfl hc17 ?_
        refine CW.seq ?_
        refine CW.region ?_
        refine OW.pure 2 [(21, .bool (p0 == 6))] (by kernel_rfl) ?_
        refine OW.nil rfl ?_
        refine QW.next ?_
        rcases Bool.eq_false_or_eq_true ((p0 == 6)) with hc18 | hc18
        ·have hF := ite_t hF hc18
         refine CW.cond_t rfl hc18 ?_
         refine CW.seq ?_
         refine CW.region ?_
         refine OW.pure 1 [(4, .string (⟨[116, 104, 101, 112, 118].toArray⟩))] (by kernel_rfl) ?_
         refine OW.nil rfl ?_
         refine QW.next ?_
         refine CW.ret ?_
         refine QW.block_ret ?_
         refine QW.then_ret ?_
         obtain rfl := Option.some.inj hF
         refine QW.ret1 rfl rfl ?_
         exact ⟨rfl, hst.keep [] rfl⟩
        ·have hF := ite_f hF hc18
         refine CW.cond_f rfl hc18 ?_
         refine CW.seq ?_
         refine CW.seq ?_
         refine CW.region ?_
         refine OW.pure 2 [(23, .bool (p0 == 7))] (by kernel_rfl) ?_
         refine OW.nil rfl ?_
         refine QW.next ?_
         obtain ⟨o20, ho21, hF⟩ := bind_some' hF
         refine CW.cutK (fun a w1 => Rep 39 [(5, .string o2), (7, .int .i64 p0), (23, .bool o20)] a ∧ St w (fp []) w1 []) ?_ ?_
         ·rcases Bool.eq_false_or_eq_true ((p0 == 7)) with hc22 | hc22
          ·have ho21 := ite_t ho21 hc22
           refine CW.cond_t rfl hc22 ?_
           refine CW.skip ?_
           obtain rfl := Option.some.inj ho21
           exact QW.meet (fun a ha => ⟨ha.agrees (by kernel_rfl), hst.keep [] rfl⟩)
          ·have ho21 := ite_f ho21 hc22
           refine CW.cond_f rfl hc22 ?_
           refine CW.region ?_
           refine OW.pure 2 [(23, .bool (p0 == 8))] (by kernel_rfl) ?_
           refine OW.nil rfl ?_
           obtain rfl := Option.some.inj ho21
           exact QW.meet (fun a ha => ⟨ha.agrees (by kernel_rfl), hst.keep [] rfl⟩)
         ·rintro a w1 ⟨ha, hst⟩
          refine CW.go ?_ ha
          rcases Bool.eq_false_or_eq_true (o20) with hc23 | hc23
          ·have hF := ite_t hF hc23
           refine CW.cond_t rfl hc23 ?_
           refine CW.seq ?_
           refine CW.region ?_
           refine OW.pure 1 [(4, .string (⟨[116, 101, 112, 118, 97, 110].toArray⟩))] (by kernel_rfl) ?_
           refine OW.nil rfl ?_
           refine QW.next ?_
           refine CW.ret ?_
           refine QW.block_ret ?_
           refine QW.then_ret ?_
           obtain rfl := Option.some.inj hF
           refine QW.ret1 rfl rfl ?_
           exact ⟨rfl, hst.keep [] rfl⟩
          ·have hF := ite_f hF hc23
           refine CW.cond_f rfl hc23 ?_
           refine CW.seq ?_
           refine CW.region ?_
           refine OW.pure 2 [(26, .bool (p0 == 9))] (by kernel_rfl) ?_
           refine OW.nil rfl ?_
           refine QW.next ?_
           rcases Bool.eq_false_or_eq_true ((p0 == 9)) with hc24 | hc24
           ·have hF := ite_t hF hc24
            refine CW.cond_t rfl hc24 ?_
            refine CW.seq ?_
            refine CW.region ?_
            refine OW.pure 1 [(4, .string (⟨[116, 104, 101, 112, 118, 97, 110].toArray⟩))] (by kernel_rfl) ?_
            refine OW.nil rfl ?_
            refine QW.next ?_
            refine CW.ret ?_
            refine QW.block_ret ?_
            refine QW.then_ret ?_
            obtain rfl := Option.some.inj hF
            refine QW.ret1 rfl rfl ?_
            exact ⟨rfl, hst.keep [] rfl⟩
           ·have hF := ite_f hF hc24
            refine CW.cond_f rfl hc24 ?_
            refine CW.seq ?_
            refine CW.region ?_
            refine OW.pure 2 [(28, .bool (p0 == 11))] (by kernel_rfl) ?_
            refine OW.nil rfl ?_
            refine QW.next ?_
            rcases Bool.eq_false_or_eq_true ((p0 == 11)) with hc25 | hc25
            ·have hF := ite_t hF hc25
             refine CW.cond_t rfl hc25 ?_
             refine CW.seq ?_
             refine CW.region ?_
             refine OW.pure 1 [(4, .string (⟨[116, 104, 112, 118].toArray⟩))] (by kernel_rfl) ?_
             refine OW.nil rfl ?_
             refine QW.next ?_
             refine CW.ret ?_
             refine QW.block_ret ?_
             refine QW.then_ret ?_
             obtain rfl := Option.some.inj hF
             refine QW.ret1 rfl rfl ?_
             exact ⟨rfl, hst.keep [] rfl⟩
            ·have hF := ite_f hF hc25
             refine CW.cond_f rfl hc25 ?_
             refine CW.seq ?_
             refine CW.seq ?_
             refine CW.region ?_
             refine OW.pure 2 [(30, .bool (p0 == 12))] (by kernel_rfl) ?_
             refine OW.nil rfl ?_
             refine QW.next ?_
             obtain ⟨o27, ho28, hF⟩ := bind_some' hF
             refine CW.cutK (fun a w1 => Rep 39 [(5, .string o2), (7, .int .i64 p0), (30, .bool o27)] a ∧ St w (fp []) w1 []) ?_ ?_
             ·rcases Bool.eq_false_or_eq_true ((p0 == 12)) with hc29 | hc29
              ·have ho28 := ite_t ho28 hc29
               refine CW.cond_t rfl hc29 ?_
               refine CW.skip ?_
               obtain rfl := Option.some.inj ho28
               exact QW.meet (fun a ha => ⟨ha.agrees (by kernel_rfl), hst.keep [] rfl⟩)
              ·have ho28 := ite_f ho28 hc29
               refine CW.cond_f rfl hc29 ?_
               refine CW.region ?_
               refine OW.pure 2 [(30, .bool (p0 == 13))] (by kernel_rfl) ?_
               refine OW.nil rfl ?_
               obtain rfl := Option.some.inj ho28
               exact QW.meet (fun a ha => ⟨ha.agrees (by kernel_rfl), hst.keep [] rfl⟩)
             ·rintro a w1 ⟨ha, hst⟩
              refine CW.go ?_ ha
              rcases Bool.eq_false_or_eq_true (o27) with hc30 | hc30
              ·have hF := ite_t hF hc30
               refine CW.cond_t rfl hc30 ?_
               refine CW.seq ?_
               refine CW.region ?_
               refine OW.pure 1 [(4, .string (⟨[116, 112].toArray⟩))] (by kernel_rfl) ?_
               refine OW.nil rfl ?_
               refine QW.next ?_
               refine CW.ret ?_
               refine QW.block_ret ?_
               refine QW.then_ret ?_
               obtain rfl := Option.some.inj hF
               refine QW.ret1 rfl rfl ?_
               exact ⟨rfl, hst.keep [] rfl⟩
              ·have hF := ite_f hF hc30
               refine CW.cond_f rfl hc30 ?_
               refine CW.seq ?_
               refine CW.region ?_
               refine OW.pure 2 [(33, .bool (p0 == 16))] (by kernel_rfl) ?_
               refine OW.nil rfl ?_
               refine QW.next ?_
               rcases Bool.eq_false_or_eq_true ((p0 == 16)) with hc31 | hc31
               ·have hF := ite_t hF hc31
                refine CW.cond_t rfl hc31 ?_
                refine CW.seq ?_
                refine CW.region ?_
                refine OW.pure 1 [(4, .string (⟨[116, 101, 112, 118, 97, 109, 111, 107, 119].toArray⟩))] (by kernel_rfl) ?_
                refine OW.nil rfl ?_
                refine QW.next ?_
                refine CW.ret ?_
                refine QW.block_ret ?_
                refine QW.then_ret ?_
                obtain rfl := Option.some.inj hF
                refine QW.ret1 rfl rfl ?_
                exact ⟨rfl, hst.keep [] rfl⟩
               ·have hF := ite_f hF hc31
                refine CW.cond_f rfl hc31 ?_
                refine CW.seq ?_
                refine CW.region ?_
                refine OW.pure 2 [(35, .bool (p0 == 17))] (by kernel_rfl) ?_
                refine OW.nil rfl ?_
                refine QW.next ?_
                rcases Bool.eq_false_or_eq_true ((p0 == 17)) with hc32 | hc32
                ·have hF := ite_t hF hc32
                 refine CW.cond_t rfl hc32 ?_
                 refine CW.seq ?_
                 refine CW.region ?_
                 refine OW.pure 1 [(37, .string o2)] (by kernel_rfl) ?_
                 obtain ⟨x35, hx36, hF⟩ := bind_some' hF
                 refine OW.op (v := .string x35) rfl rfl rfl rfl (fun a ha => cat_run rfl rfl rfl (by kernel_rfl) hx36 a _ ha) ?_
                 refine OW.pure 1 [(4, .string x35)] (by kernel_rfl) ?_
                 refine OW.nil rfl ?_
                 refine QW.next ?_
                 refine CW.ret ?_
                 refine QW.block_ret ?_
                 refine QW.then_ret ?_
                 obtain rfl := Option.some.inj hF
                 refine QW.ret1 rfl rfl ?_
                 exact ⟨rfl, hst.keep [] rfl⟩
                ·have hF := ite_f hF hc32
                 refine CW.cond_f rfl hc32 ?_
                 refine CW.skip ?_
                 refine QW.block_normal ?_
                 refine QW.next ?_
                 refine CW.seq ?_
                 refine CW.region ?_
                 refine OW.pure 1 [(4, .string (⟨[116].toArray⟩))] (by kernel_rfl) ?_
                 refine OW.nil rfl ?_
                 refine QW.next ?_
                 refine CW.ret ?_
                 obtain rfl := Option.some.inj hF
                 refine QW.ret1 rfl rfl ?_
                 exact ⟨rfl, hst.keep [] rfl⟩

set_option maxRecDepth 10000 in
set_option maxHeartbeats 4000000 in
theorem tappetref26_has_ok (w : World) (p0 : ByteArray) (p1 : Int) (r : Bool) (hF : tappetref26_has p0 p1 = some r)
    (hst : St w (fp []) w []) :
    Calls Tryd.prog 30 [.string p0, .int .u8 p1].toArray w (fun e w' => e = .returned (.bool r) ∧ St w (fp []) w' []) := by
 refine CW.start (N := 17) Tryd.func30 rfl rfl rfl ?_
 refine CW.seq ?_
 refine CW.region ?_
 refine OW.pure 1 [] (by kernel_rfl) ?_
 refine OW.nil rfl ?_
 refine QW.next ?_
 refine CW.seq ?_
 refine CW.seq ?_
 refine CW.region ?_
 refine OW.pure 1 [(5, .int .i64 0)] (by kernel_rfl) ?_
 refine OW.nil rfl ?_
 refine QW.next ?_
 obtain ⟨o27, ho28, hF⟩ := bind_some' hF
 refine CW.cutK (fun a w1 => ∃ (t29 : Unit), o27 = .inl t29 ∧ Rep 17 [] a ∧ St w (fp []) w1 []) ?_ ?_
 ·refine CW.block ?_
  obtain ⟨u48, hr49, ho28⟩ := bind_some' ho28
  refine CW.loop (fun n a w1 => ∃ (i46 : Nat) (s45 : Unit), i46 + n = p0.size ∧ Rep 17 [(0, .string p0), (1, .int .u8 p1), (5, .int .i64 (i46 : Int))] a ∧ St w (fp []) w1 [] ∧ forN (tappetref26_has_l1 p0 p1) (fun (s45 : Unit) => (.inl ())) n i46 s45 = some o27) p0.size (fun a ha => ⟨0, (), Nat.zero_add _, ha.agrees (by kernel_rfl), hst.keep [] rfl, ho28⟩) ?_
  rintro n43 a w1 ⟨i46, s45, hi47, ha, hst, hl44⟩
  refine CW.go ?_ ha
  refine CW.seq ?_
  refine CW.seq ?_
  refine CW.region ?_
  refine OW.pure 4 [(9, .bool (decide ((i46 : Int) < (p0.size : Int))))] (by kernel_rfl) ?_
  refine OW.nil rfl ?_
  refine QW.next ?_
  rcases Bool.eq_false_or_eq_true (decide ((i46 : Int) < (p0.size : Int))) with hc50 | hc50
  ·rcases n43 with _ | n43
   ·exact (cnt0 hi47 hc50).elim
   refine CW.cond_t rfl hc50 ?_
   refine CW.skip ?_
   refine QW.next ?_
   refine CW.seq ?_
   refine CW.block ?_
   refine CW.seq ?_
   refine CW.region ?_
   refine OW.pure 2 [(12, .string p0), (13, .int .i64 (i46 : Int))] (by kernel_rfl) ?_
   obtain ⟨c53, hx54, hl44⟩ := bind_some' hl44
   refine OW.op (v := .int .u8 c53) rfl rfl rfl rfl (fun a ha => sidx_run rfl rfl rfl (by kernel_rfl) hx54 a _ ha) ?_
   refine OW.pure 2 [(16, .bool (c53 == p1))] (by kernel_rfl) ?_
   refine OW.nil rfl ?_
   refine QW.next ?_
   rcases Bool.eq_false_or_eq_true ((c53 == p1)) with hc55 | hc55
   ·have hl44 := ite_t hl44 hc55
    refine CW.cond_t rfl hc55 ?_
    refine CW.seq ?_
    refine CW.region ?_
    refine OW.pure 1 [(4, .bool true)] (by kernel_rfl) ?_
    refine OW.nil rfl ?_
    refine QW.next ?_
    refine CW.ret ?_
    refine QW.block_ret ?_
    refine QW.then_ret ?_
    refine QW.then_ret ?_
    refine QW.block_ret ?_
    refine QW.then_ret ?_
    obtain rfl := Option.some.inj hl44
    obtain rfl := Option.some.inj hF
    refine QW.ret1 rfl rfl ?_
    exact ⟨rfl, hst.keep [] rfl⟩
   ·have hl44 := ite_f hl44 hc55
    refine CW.cond_f rfl hc55 ?_
    refine CW.skip ?_
    refine QW.block_normal ?_
    refine QW.next ?_
    refine CW.region ?_
    refine OW.pure 3 [(5, .int .i64 (w64 ((i46 : Int) + 1)))] (by kernel_rfl) ?_
    refine OW.nil rfl ?_
    refine QW.say 5 rfl (congrArg (Value.int .i64) (w64_cnt hc50 (room_sz hr49))) ?_
    exact QW.meet (fun a ha => ⟨n43, Nat.lt_succ_self _, i46 + 1, (), cnt_next hi47, ha.agrees (by kernel_rfl), hst.keep [] rfl, hl44⟩)
  ·rcases n43 with _ | n43
   ·refine CW.cond_f rfl hc50 ?_
    refine CW.exit ?_
    refine QW.then_exit ?_
    refine QW.then_exit ?_
    refine QW.block_here ?_
    obtain rfl := Option.some.inj hl44
    exact QW.meet (fun a ha => ⟨(), rfl, ha.agrees (by kernel_rfl), hst.keep [] rfl⟩)
   ·exact (cnt1 hi47 hc50).elim
 ·rintro a w1 ⟨t29, rfl, ha, hst⟩
  refine CW.go ?_ ha
  refine CW.seq ?_
  refine CW.region ?_
  refine OW.pure 1 [(4, .bool false)] (by kernel_rfl) ?_
  refine OW.nil rfl ?_
  refine QW.next ?_
  refine CW.ret ?_
  obtain rfl := Option.some.inj hF
  refine QW.ret1 rfl rfl ?_
  exact ⟨rfl, hst.keep [] rfl⟩

set_option maxRecDepth 10000 in
set_option maxHeartbeats 4000000 in
theorem tappetref26_broad_ok (w : World) (p0 : api_Entry) (p1 : Int) (p2 : Int) (r : api_Entry) (hF : tappetref26_broad p0 p1 p2 = some r)
    (hst : St w (fp []) w []) :
    Calls Tryd.prog 59 [.agg [.int .i64 p0.What, .int .i64 p0.Task, .int .i64 p0.From, .int .i64 p0.Cmd, .int .i64 p0.Tag, .int .i64 p0.Event, .int .i64 p0.Hook, .int .i64 p0.Prog, .int .i64 p0.Version, .int .i64 p0.Pc, .int .i64 p0.Item.Map, .int .i64 p0.Item.Op, .int .u64 p0.Item.Key, .int .u64 p0.Item.Val, .int .i64 p0.Res.E, .bool p0.Res.Found, .int .u64 p0.Res.Val, .bool p0.Res.Out, .int .u64 p0.Res.OutKey, .int .u64 p0.Res.OutVal, .int .u64 p0.Val, .int .i64 p0.E].toArray, .int .u8 p1, .int .u64 p2].toArray w (fun e w' => e = .returned (.agg [.int .i64 r.What, .int .i64 r.Task, .int .i64 r.From, .int .i64 r.Cmd, .int .i64 r.Tag, .int .i64 r.Event, .int .i64 r.Hook, .int .i64 r.Prog, .int .i64 r.Version, .int .i64 r.Pc, .int .i64 r.Item.Map, .int .i64 r.Item.Op, .int .u64 r.Item.Key, .int .u64 r.Item.Val, .int .i64 r.Res.E, .bool r.Res.Found, .int .u64 r.Res.Val, .bool r.Res.Out, .int .u64 r.Res.OutKey, .int .u64 r.Res.OutVal, .int .u64 r.Val, .int .i64 r.E].toArray) ∧ St w (fp []) w' []) := by
 refine CW.start (N := 38) Tryd.func59 rfl rfl rfl ?_
 refine CW.seq ?_
 refine CW.region ?_
 refine OW.box hst rfl rfl rfl rfl [.int .i64 p0.What, .int .i64 p0.Task, .int .i64 p0.From, .int .i64 p0.Cmd, .int .i64 p0.Tag, .int .i64 p0.Event, .int .i64 p0.Hook, .int .i64 p0.Prog, .int .i64 p0.Version, .int .i64 p0.Pc, .int .i64 p0.Item.Map, .int .i64 p0.Item.Op, .int .u64 p0.Item.Key, .int .u64 p0.Item.Val, .int .i64 p0.Res.E, .bool p0.Res.Found, .int .u64 p0.Res.Val, .bool p0.Res.Out, .int .u64 p0.Res.OutKey, .int .u64 p0.Res.OutVal, .int .u64 p0.Val, .int .i64 p0.E] rfl ?_
 intro b5 w6 hst
 refine OW.alloc hst rfl rfl rfl [.int .i64 0, .int .i64 0, .int .i64 0, .int .i64 0, .int .i64 0, .int .i64 0, .int .i64 0, .int .i64 0, .int .i64 0, .int .i64 0, .int .i64 0, .int .i64 0, .int .u64 0, .int .u64 0, .int .i64 0, .bool false, .int .u64 0, .bool false, .int .u64 0, .int .u64 0, .int .u64 0, .int .i64 0] (by kernel_rfl) ?_
 intro b7 w8 hst
 refine OW.nil rfl ?_
 refine QW.next ?_
 refine CW.seq ?_
 refine CW.seq ?_
 refine CW.region ?_
 refine OW.pure 1 [(7, .int .u8 p1)] (by kernel_rfl) ?_
 refine OW.nil rfl ?_
 refine QW.next ?_
 refine CW.block ?_
 refine CW.seq ?_
 refine CW.region ?_
 refine OW.pure 2 [(8, .bool (p1 == 110))] (by kernel_rfl) ?_
 refine OW.nil rfl ?_
 refine QW.next ?_
 rcases Bool.eq_false_or_eq_true ((p1 == 110)) with hc9 | hc9
 ·have hF := ite_t hF hc9
  refine CW.cond_t rfl hc9 ?_
  refine CW.region ?_
  refine OW.pure 2 [(10, .int .u64 p2), (11, .pointer (some ⟨b5, 20, none⟩))] (by kernel_rfl) ?_
  refine OW.stB hst 0 rfl rfl rfl rfl rfl (by kernel_rfl) rfl rfl [.int .i64 p0.What, .int .i64 p0.Task, .int .i64 p0.From, .int .i64 p0.Cmd, .int .i64 p0.Tag, .int .i64 p0.Event, .int .i64 p0.Hook, .int .i64 p0.Prog, .int .i64 p0.Version, .int .i64 p0.Pc, .int .i64 p0.Item.Map, .int .i64 p0.Item.Op, .int .u64 p0.Item.Key, .int .u64 p0.Item.Val, .int .i64 p0.Res.E, .bool p0.Res.Found, .int .u64 p0.Res.Val, .bool p0.Res.Out, .int .u64 p0.Res.OutKey, .int .u64 p0.Res.OutVal, .int .u64 p2, .int .i64 p0.E] rfl ?_
  intro w11 hst
  refine OW.nil rfl ?_
  refine QW.block_normal ?_
  refine QW.next ?_
  refine CW.seq ?_
  refine CW.region ?_
  refine OW.ldN (cs := [.int .i64 p0.What, .int .i64 p0.Task, .int .i64 p0.From, .int .i64 p0.Cmd, .int .i64 p0.Tag, .int .i64 p0.Event, .int .i64 p0.Hook, .int .i64 p0.Prog, .int .i64 p0.Version, .int .i64 p0.Pc, .int .i64 p0.Item.Map, .int .i64 p0.Item.Op, .int .u64 p0.Item.Key, .int .u64 p0.Item.Val, .int .i64 p0.Res.E, .bool p0.Res.Found, .int .u64 p0.Res.Val, .bool p0.Res.Out, .int .u64 p0.Res.OutKey, .int .u64 p0.Res.OutVal, .int .u64 p2, .int .i64 p0.E]) rfl rfl rfl rfl (by kernel_rfl) (by kernel_rfl) (hst.blkN 0 rfl 0 22) ?_
  refine OW.stB hst 1 rfl rfl rfl rfl rfl (by kernel_rfl) rfl rfl [.int .i64 p0.What, .int .i64 p0.Task, .int .i64 p0.From, .int .i64 p0.Cmd, .int .i64 p0.Tag, .int .i64 p0.Event, .int .i64 p0.Hook, .int .i64 p0.Prog, .int .i64 p0.Version, .int .i64 p0.Pc, .int .i64 p0.Item.Map, .int .i64 p0.Item.Op, .int .u64 p0.Item.Key, .int .u64 p0.Item.Val, .int .i64 p0.Res.E, .bool p0.Res.Found, .int .u64 p0.Res.Val, .bool p0.Res.Out, .int .u64 p0.Res.OutKey, .int .u64 p0.Res.OutVal, .int .u64 p2, .int .i64 p0.E] rfl ?_
  intro w13 hst
  refine OW.nil rfl ?_
  refine QW.next ?_
  refine CW.ret ?_
  obtain rfl := Option.some.inj hF
  refine QW.ret_c rfl rfl (run_loadN (cs := [.int .i64 p0.What, .int .i64 p0.Task, .int .i64 p0.From, .int .i64 p0.Cmd, .int .i64 p0.Tag, .int .i64 p0.Event, .int .i64 p0.Hook, .int .i64 p0.Prog, .int .i64 p0.Version, .int .i64 p0.Pc, .int .i64 p0.Item.Map, .int .i64 p0.Item.Op, .int .u64 p0.Item.Key, .int .u64 p0.Item.Val, .int .i64 p0.Res.E, .bool p0.Res.Found, .int .u64 p0.Res.Val, .bool p0.Res.Out, .int .u64 p0.Res.OutKey, .int .u64 p0.Res.OutVal, .int .u64 p2, .int .i64 p0.E]) (by kernel_rfl) (by kernel_rfl) (hst.blkN 1 rfl 0 22)) ?_
  exact ⟨rfl, hst.keep [] rfl⟩
 ·have hF := ite_f hF hc9
  refine CW.cond_f rfl hc9 ?_
  refine CW.seq ?_
  refine CW.region ?_
  refine OW.pure 2 [(12, .bool (p1 == 107))] (by kernel_rfl) ?_
  refine OW.nil rfl ?_
  refine QW.next ?_
  rcases Bool.eq_false_or_eq_true ((p1 == 107)) with hc14 | hc14
  ·have hF := ite_t hF hc14
   refine CW.cond_t rfl hc14 ?_
   refine CW.region ?_
   refine OW.pure 3 [(14, .int .u64 p2), (16, .pointer (some ⟨b5, 12, none⟩))] (by kernel_rfl) ?_
   refine OW.stB hst 0 rfl rfl rfl rfl rfl (by kernel_rfl) rfl rfl [.int .i64 p0.What, .int .i64 p0.Task, .int .i64 p0.From, .int .i64 p0.Cmd, .int .i64 p0.Tag, .int .i64 p0.Event, .int .i64 p0.Hook, .int .i64 p0.Prog, .int .i64 p0.Version, .int .i64 p0.Pc, .int .i64 p0.Item.Map, .int .i64 p0.Item.Op, .int .u64 p2, .int .u64 p0.Item.Val, .int .i64 p0.Res.E, .bool p0.Res.Found, .int .u64 p0.Res.Val, .bool p0.Res.Out, .int .u64 p0.Res.OutKey, .int .u64 p0.Res.OutVal, .int .u64 p0.Val, .int .i64 p0.E] rfl ?_
   intro w16 hst
   refine OW.nil rfl ?_
   refine QW.block_normal ?_
   refine QW.next ?_
   refine CW.seq ?_
   refine CW.region ?_
   refine OW.ldN (cs := [.int .i64 p0.What, .int .i64 p0.Task, .int .i64 p0.From, .int .i64 p0.Cmd, .int .i64 p0.Tag, .int .i64 p0.Event, .int .i64 p0.Hook, .int .i64 p0.Prog, .int .i64 p0.Version, .int .i64 p0.Pc, .int .i64 p0.Item.Map, .int .i64 p0.Item.Op, .int .u64 p2, .int .u64 p0.Item.Val, .int .i64 p0.Res.E, .bool p0.Res.Found, .int .u64 p0.Res.Val, .bool p0.Res.Out, .int .u64 p0.Res.OutKey, .int .u64 p0.Res.OutVal, .int .u64 p0.Val, .int .i64 p0.E]) rfl rfl rfl rfl (by kernel_rfl) (by kernel_rfl) (hst.blkN 0 rfl 0 22) ?_
   refine OW.stB hst 1 rfl rfl rfl rfl rfl (by kernel_rfl) rfl rfl [.int .i64 p0.What, .int .i64 p0.Task, .int .i64 p0.From, .int .i64 p0.Cmd, .int .i64 p0.Tag, .int .i64 p0.Event, .int .i64 p0.Hook, .int .i64 p0.Prog, .int .i64 p0.Version, .int .i64 p0.Pc, .int .i64 p0.Item.Map, .int .i64 p0.Item.Op, .int .u64 p2, .int .u64 p0.Item.Val, .int .i64 p0.Res.E, .bool p0.Res.Found, .int .u64 p0.Res.Val, .bool p0.Res.Out, .int .u64 p0.Res.OutKey, .int .u64 p0.Res.OutVal, .int .u64 p0.Val, .int .i64 p0.E] rfl ?_
   intro w18 hst
   refine OW.nil rfl ?_
   refine QW.next ?_
   refine CW.ret ?_
   obtain rfl := Option.some.inj hF
   refine QW.ret_c rfl rfl (run_loadN (cs := [.int .i64 p0.What, .int .i64 p0.Task, .int .i64 p0.From, .int .i64 p0.Cmd, .int .i64 p0.Tag, .int .i64 p0.Event, .int .i64 p0.Hook, .int .i64 p0.Prog, .int .i64 p0.Version, .int .i64 p0.Pc, .int .i64 p0.Item.Map, .int .i64 p0.Item.Op, .int .u64 p2, .int .u64 p0.Item.Val, .int .i64 p0.Res.E, .bool p0.Res.Found, .int .u64 p0.Res.Val, .bool p0.Res.Out, .int .u64 p0.Res.OutKey, .int .u64 p0.Res.OutVal, .int .u64 p0.Val, .int .i64 p0.E]) (by kernel_rfl) (by kernel_rfl) (hst.blkN 1 rfl 0 22)) ?_
   exact ⟨rfl, hst.keep [] rfl⟩
  ·have hF := ite_f hF hc14
   refine CW.cond_f rfl hc14 ?_
   refine CW.seq ?_
   refine CW.region ?_
   refine OW.pure 2 [(17, .bool (p1 == 119))] (by kernel_rfl) ?_
   refine OW.nil rfl ?_
   refine QW.next ?_
   rcases Bool.eq_false_or_eq_true ((p1 == 119)) with hc19 | hc19
   ·have hF := ite_t hF hc19
    refine CW.cond_t rfl hc19 ?_
    refine CW.region ?_
    refine OW.pure 3 [(19, .int .u64 p2), (21, .pointer (some ⟨b5, 13, none⟩))] (by kernel_rfl) ?_
    refine OW.stB hst 0 rfl rfl rfl rfl rfl (by kernel_rfl) rfl rfl [.int .i64 p0.What, .int .i64 p0.Task, .int .i64 p0.From, .int .i64 p0.Cmd, .int .i64 p0.Tag, .int .i64 p0.Event, .int .i64 p0.Hook, .int .i64 p0.Prog, .int .i64 p0.Version, .int .i64 p0.Pc, .int .i64 p0.Item.Map, .int .i64 p0.Item.Op, .int .u64 p0.Item.Key, .int .u64 p2, .int .i64 p0.Res.E, .bool p0.Res.Found, .int .u64 p0.Res.Val, .bool p0.Res.Out, .int .u64 p0.Res.OutKey, .int .u64 p0.Res.OutVal, .int .u64 p0.Val, .int .i64 p0.E] rfl ?_
    intro w21 hst
    refine OW.nil rfl ?_
    refine QW.block_normal ?_
    refine QW.next ?_
    refine CW.seq ?_
    refine CW.region ?_
    refine OW.ldN (cs := [.int .i64 p0.What, .int .i64 p0.Task, .int .i64 p0.From, .int .i64 p0.Cmd, .int .i64 p0.Tag, .int .i64 p0.Event, .int .i64 p0.Hook, .int .i64 p0.Prog, .int .i64 p0.Version, .int .i64 p0.Pc, .int .i64 p0.Item.Map, .int .i64 p0.Item.Op, .int .u64 p0.Item.Key, .int .u64 p2, .int .i64 p0.Res.E, .bool p0.Res.Found, .int .u64 p0.Res.Val, .bool p0.Res.Out, .int .u64 p0.Res.OutKey, .int .u64 p0.Res.OutVal, .int .u64 p0.Val, .int .i64 p0.E]) rfl rfl rfl rfl (by kernel_rfl) (by kernel_rfl) (hst.blkN 0 rfl 0 22) ?_
    refine OW.stB hst 1 rfl rfl rfl rfl rfl (by kernel_rfl) rfl rfl [.int .i64 p0.What, .int .i64 p0.Task, .int .i64 p0.From, .int .i64 p0.Cmd, .int .i64 p0.Tag, .int .i64 p0.Event, .int .i64 p0.Hook, .int .i64 p0.Prog, .int .i64 p0.Version, .int .i64 p0.Pc, .int .i64 p0.Item.Map, .int .i64 p0.Item.Op, .int .u64 p0.Item.Key, .int .u64 p2, .int .i64 p0.Res.E, .bool p0.Res.Found, .int .u64 p0.Res.Val, .bool p0.Res.Out, .int .u64 p0.Res.OutKey, .int .u64 p0.Res.OutVal, .int .u64 p0.Val, .int .i64 p0.E] rfl ?_
    intro w23 hst
    refine OW.nil rfl ?_
    refine QW.next ?_
    refine CW.ret ?_
    obtain rfl := Option.some.inj hF
    refine QW.ret_c rfl rfl (run_loadN (cs := [.int .i64 p0.What, .int .i64 p0.Task, .int .i64 p0.From, .int .i64 p0.Cmd, .int .i64 p0.Tag, .int .i64 p0.Event, .int .i64 p0.Hook, .int .i64 p0.Prog, .int .i64 p0.Version, .int .i64 p0.Pc, .int .i64 p0.Item.Map, .int .i64 p0.Item.Op, .int .u64 p0.Item.Key, .int .u64 p2, .int .i64 p0.Res.E, .bool p0.Res.Found, .int .u64 p0.Res.Val, .bool p0.Res.Out, .int .u64 p0.Res.OutKey, .int .u64 p0.Res.OutVal, .int .u64 p0.Val, .int .i64 p0.E]) (by kernel_rfl) (by kernel_rfl) (hst.blkN 1 rfl 0 22)) ?_
    exact ⟨rfl, hst.keep [] rfl⟩
   ·have hF := ite_f hF hc19
    refine CW.cond_f rfl hc19 ?_
    refine CW.seq ?_
    refine CW.region ?_
    refine OW.pure 2 [(22, .bool (p1 == 114))] (by kernel_rfl) ?_
    refine OW.nil rfl ?_
    refine QW.next ?_
    rcases Bool.eq_false_or_eq_true ((p1 == 114)) with hc24 | hc24
    ·have hF := ite_t hF hc24
     refine CW.cond_t rfl hc24 ?_
     refine CW.region ?_
     refine OW.pure 3 [(24, .int .u64 p2), (26, .pointer (some ⟨b5, 16, none⟩))] (by kernel_rfl) ?_
     refine OW.stB hst 0 rfl rfl rfl rfl rfl (by kernel_rfl) rfl rfl [.int .i64 p0.What, .int .i64 p0.Task, .int .i64 p0.From, .int .i64 p0.Cmd, .int .i64 p0.Tag, .int .i64 p0.Event, .int .i64 p0.Hook, .int .i64 p0.Prog, .int .i64 p0.Version, .int .i64 p0.Pc, .int .i64 p0.Item.Map, .int .i64 p0.Item.Op, .int .u64 p0.Item.Key, .int .u64 p0.Item.Val, .int .i64 p0.Res.E, .bool p0.Res.Found, .int .u64 p2, .bool p0.Res.Out, .int .u64 p0.Res.OutKey, .int .u64 p0.Res.OutVal, .int .u64 p0.Val, .int .i64 p0.E] rfl ?_
     intro w26 hst
     refine OW.nil rfl ?_
     refine QW.block_normal ?_
     refine QW.next ?_
     refine CW.seq ?_
     refine CW.region ?_
     refine OW.ldN (cs := [.int .i64 p0.What, .int .i64 p0.Task, .int .i64 p0.From, .int .i64 p0.Cmd, .int .i64 p0.Tag, .int .i64 p0.Event, .int .i64 p0.Hook, .int .i64 p0.Prog, .int .i64 p0.Version, .int .i64 p0.Pc, .int .i64 p0.Item.Map, .int .i64 p0.Item.Op, .int .u64 p0.Item.Key, .int .u64 p0.Item.Val, .int .i64 p0.Res.E, .bool p0.Res.Found, .int .u64 p2, .bool p0.Res.Out, .int .u64 p0.Res.OutKey, .int .u64 p0.Res.OutVal, .int .u64 p0.Val, .int .i64 p0.E]) rfl rfl rfl rfl (by kernel_rfl) (by kernel_rfl) (hst.blkN 0 rfl 0 22) ?_
     refine OW.stB hst 1 rfl rfl rfl rfl rfl (by kernel_rfl) rfl rfl [.int .i64 p0.What, .int .i64 p0.Task, .int .i64 p0.From, .int .i64 p0.Cmd, .int .i64 p0.Tag, .int .i64 p0.Event, .int .i64 p0.Hook, .int .i64 p0.Prog, .int .i64 p0.Version, .int .i64 p0.Pc, .int .i64 p0.Item.Map, .int .i64 p0.Item.Op, .int .u64 p0.Item.Key, .int .u64 p0.Item.Val, .int .i64 p0.Res.E, .bool p0.Res.Found, .int .u64 p2, .bool p0.Res.Out, .int .u64 p0.Res.OutKey, .int .u64 p0.Res.OutVal, .int .u64 p0.Val, .int .i64 p0.E] rfl ?_
     intro w28 hst
     refine OW.nil rfl ?_
     refine QW.next ?_
     refine CW.ret ?_
     obtain rfl := Option.some.inj hF
     refine QW.ret_c rfl rfl (run_loadN (cs := [.int .i64 p0.What, .int .i64 p0.Task, .int .i64 p0.From, .int .i64 p0.Cmd, .int .i64 p0.Tag, .int .i64 p0.Event, .int .i64 p0.Hook, .int .i64 p0.Prog, .int .i64 p0.Version, .int .i64 p0.Pc, .int .i64 p0.Item.Map, .int .i64 p0.Item.Op, .int .u64 p0.Item.Key, .int .u64 p0.Item.Val, .int .i64 p0.Res.E, .bool p0.Res.Found, .int .u64 p2, .bool p0.Res.Out, .int .u64 p0.Res.OutKey, .int .u64 p0.Res.OutVal, .int .u64 p0.Val, .int .i64 p0.E]) (by kernel_rfl) (by kernel_rfl) (hst.blkN 1 rfl 0 22)) ?_
     exact ⟨rfl, hst.keep [] rfl⟩
    ·have hF := ite_f hF hc24
     refine CW.cond_f rfl hc24 ?_
     refine CW.seq ?_
     refine CW.region ?_
     refine OW.pure 2 [(27, .bool (p1 == 79))] (by kernel_rfl) ?_
     refine OW.nil rfl ?_
     refine QW.next ?_
     rcases Bool.eq_false_or_eq_true ((p1 == 79)) with hc29 | hc29
     ·have hF := ite_t hF hc29
      refine CW.cond_t rfl hc29 ?_
      refine CW.region ?_
      refine OW.pure 3 [(29, .int .u64 p2), (31, .pointer (some ⟨b5, 18, none⟩))] (by kernel_rfl) ?_
      refine OW.stB hst 0 rfl rfl rfl rfl rfl (by kernel_rfl) rfl rfl [.int .i64 p0.What, .int .i64 p0.Task, .int .i64 p0.From, .int .i64 p0.Cmd, .int .i64 p0.Tag, .int .i64 p0.Event, .int .i64 p0.Hook, .int .i64 p0.Prog, .int .i64 p0.Version, .int .i64 p0.Pc, .int .i64 p0.Item.Map, .int .i64 p0.Item.Op, .int .u64 p0.Item.Key, .int .u64 p0.Item.Val, .int .i64 p0.Res.E, .bool p0.Res.Found, .int .u64 p0.Res.Val, .bool p0.Res.Out, .int .u64 p2, .int .u64 p0.Res.OutVal, .int .u64 p0.Val, .int .i64 p0.E] rfl ?_
      intro w31 hst
      refine OW.nil rfl ?_
      refine QW.block_normal ?_
      refine QW.next ?_
      refine CW.seq ?_
      refine CW.region ?_
      refine OW.ldN (cs := [.int .i64 p0.What, .int .i64 p0.Task, .int .i64 p0.From, .int .i64 p0.Cmd, .int .i64 p0.Tag, .int .i64 p0.Event, .int .i64 p0.Hook, .int .i64 p0.Prog, .int .i64 p0.Version, .int .i64 p0.Pc, .int .i64 p0.Item.Map, .int .i64 p0.Item.Op, .int .u64 p0.Item.Key, .int .u64 p0.Item.Val, .int .i64 p0.Res.E, .bool p0.Res.Found, .int .u64 p0.Res.Val, .bool p0.Res.Out, .int .u64 p2, .int .u64 p0.Res.OutVal, .int .u64 p0.Val, .int .i64 p0.E]) rfl rfl rfl rfl (by kernel_rfl) (by kernel_rfl) (hst.blkN 0 rfl 0 22) ?_
      refine OW.stB hst 1 rfl rfl rfl rfl rfl (by kernel_rfl) rfl rfl [.int .i64 p0.What, .int .i64 p0.Task, .int .i64 p0.From, .int .i64 p0.Cmd, .int .i64 p0.Tag, .int .i64 p0.Event, .int .i64 p0.Hook, .int .i64 p0.Prog, .int .i64 p0.Version, .int .i64 p0.Pc, .int .i64 p0.Item.Map, .int .i64 p0.Item.Op, .int .u64 p0.Item.Key, .int .u64 p0.Item.Val, .int .i64 p0.Res.E, .bool p0.Res.Found, .int .u64 p0.Res.Val, .bool p0.Res.Out, .int .u64 p2, .int .u64 p0.Res.OutVal, .int .u64 p0.Val, .int .i64 p0.E] rfl ?_
      intro w33 hst
      refine OW.nil rfl ?_
      refine QW.next ?_
      refine CW.ret ?_
      obtain rfl := Option.some.inj hF
      refine QW.ret_c rfl rfl (run_loadN (cs := [.int .i64 p0.What, .int .i64 p0.Task, .int .i64 p0.From, .int .i64 p0.Cmd, .int .i64 p0.Tag, .int .i64 p0.Event, .int .i64 p0.Hook, .int .i64 p0.Prog, .int .i64 p0.Version, .int .i64 p0.Pc, .int .i64 p0.Item.Map, .int .i64 p0.Item.Op, .int .u64 p0.Item.Key, .int .u64 p0.Item.Val, .int .i64 p0.Res.E, .bool p0.Res.Found, .int .u64 p0.Res.Val, .bool p0.Res.Out, .int .u64 p2, .int .u64 p0.Res.OutVal, .int .u64 p0.Val, .int .i64 p0.E]) (by kernel_rfl) (by kernel_rfl) (hst.blkN 1 rfl 0 22)) ?_
      exact ⟨rfl, hst.keep [] rfl⟩
     ·have hF := ite_f hF hc29
      refine CW.cond_f rfl hc29 ?_
      refine CW.seq ?_
      refine CW.region ?_
      refine OW.pure 2 [(32, .bool (p1 == 86))] (by kernel_rfl) ?_
      refine OW.nil rfl ?_
      refine QW.next ?_
      rcases Bool.eq_false_or_eq_true ((p1 == 86)) with hc34 | hc34
      ·have hF := ite_t hF hc34
       refine CW.cond_t rfl hc34 ?_
       refine CW.region ?_
       refine OW.pure 3 [(34, .int .u64 p2), (36, .pointer (some ⟨b5, 19, none⟩))] (by kernel_rfl) ?_
       refine OW.stB hst 0 rfl rfl rfl rfl rfl (by kernel_rfl) rfl rfl [.int .i64 p0.What, .int .i64 p0.Task, .int .i64 p0.From, .int .i64 p0.Cmd, .int .i64 p0.Tag, .int .i64 p0.Event, .int .i64 p0.Hook, .int .i64 p0.Prog, .int .i64 p0.Version, .int .i64 p0.Pc, .int .i64 p0.Item.Map, .int .i64 p0.Item.Op, .int .u64 p0.Item.Key, .int .u64 p0.Item.Val, .int .i64 p0.Res.E, .bool p0.Res.Found, .int .u64 p0.Res.Val, .bool p0.Res.Out, .int .u64 p0.Res.OutKey, .int .u64 p2, .int .u64 p0.Val, .int .i64 p0.E] rfl ?_
       intro w36 hst
       refine OW.nil rfl ?_
       refine QW.block_normal ?_
       refine QW.next ?_
       refine CW.seq ?_
       refine CW.region ?_
       refine OW.ldN (cs := [.int .i64 p0.What, .int .i64 p0.Task, .int .i64 p0.From, .int .i64 p0.Cmd, .int .i64 p0.Tag, .int .i64 p0.Event, .int .i64 p0.Hook, .int .i64 p0.Prog, .int .i64 p0.Version, .int .i64 p0.Pc, .int .i64 p0.Item.Map, .int .i64 p0.Item.Op, .int .u64 p0.Item.Key, .int .u64 p0.Item.Val, .int .i64 p0.Res.E, .bool p0.Res.Found, .int .u64 p0.Res.Val, .bool p0.Res.Out, .int .u64 p0.Res.OutKey, .int .u64 p2, .int .u64 p0.Val, .int .i64 p0.E]) rfl rfl rfl rfl (by kernel_rfl) (by kernel_rfl) (hst.blkN 0 rfl 0 22) ?_
       refine OW.stB hst 1 rfl rfl rfl rfl rfl (by kernel_rfl) rfl rfl [.int .i64 p0.What, .int .i64 p0.Task, .int .i64 p0.From, .int .i64 p0.Cmd, .int .i64 p0.Tag, .int .i64 p0.Event, .int .i64 p0.Hook, .int .i64 p0.Prog, .int .i64 p0.Version, .int .i64 p0.Pc, .int .i64 p0.Item.Map, .int .i64 p0.Item.Op, .int .u64 p0.Item.Key, .int .u64 p0.Item.Val, .int .i64 p0.Res.E, .bool p0.Res.Found, .int .u64 p0.Res.Val, .bool p0.Res.Out, .int .u64 p0.Res.OutKey, .int .u64 p2, .int .u64 p0.Val, .int .i64 p0.E] rfl ?_
       intro w38 hst
       refine OW.nil rfl ?_
       refine QW.next ?_
       refine CW.ret ?_
       obtain rfl := Option.some.inj hF
       refine QW.ret_c rfl rfl (run_loadN (cs := [.int .i64 p0.What, .int .i64 p0.Task, .int .i64 p0.From, .int .i64 p0.Cmd, .int .i64 p0.Tag, .int .i64 p0.Event, .int .i64 p0.Hook, .int .i64 p0.Prog, .int .i64 p0.Version, .int .i64 p0.Pc, .int .i64 p0.Item.Map, .int .i64 p0.Item.Op, .int .u64 p0.Item.Key, .int .u64 p0.Item.Val, .int .i64 p0.Res.E, .bool p0.Res.Found, .int .u64 p0.Res.Val, .bool p0.Res.Out, .int .u64 p0.Res.OutKey, .int .u64 p2, .int .u64 p0.Val, .int .i64 p0.E]) (by kernel_rfl) (by kernel_rfl) (hst.blkN 1 rfl 0 22)) ?_
       exact ⟨rfl, hst.keep [] rfl⟩
      ·have hF := ite_f hF hc34
       refine CW.cond_f rfl hc34 ?_
       refine CW.skip ?_
       refine QW.block_normal ?_
       refine QW.next ?_
       refine CW.seq ?_
       refine CW.region ?_
       refine OW.ldN (cs := [.int .i64 p0.What, .int .i64 p0.Task, .int .i64 p0.From, .int .i64 p0.Cmd, .int .i64 p0.Tag, .int .i64 p0.Event, .int .i64 p0.Hook, .int .i64 p0.Prog, .int .i64 p0.Version, .int .i64 p0.Pc, .int .i64 p0.Item.Map, .int .i64 p0.Item.Op, .int .u64 p0.Item.Key, .int .u64 p0.Item.Val, .int .i64 p0.Res.E, .bool p0.Res.Found, .int .u64 p0.Res.Val, .bool p0.Res.Out, .int .u64 p0.Res.OutKey, .int .u64 p0.Res.OutVal, .int .u64 p0.Val, .int .i64 p0.E]) rfl rfl rfl rfl (by kernel_rfl) (by kernel_rfl) (hst.blkN 0 rfl 0 22) ?_
       refine OW.stB hst 1 rfl rfl rfl rfl rfl (by kernel_rfl) rfl rfl [.int .i64 p0.What, .int .i64 p0.Task, .int .i64 p0.From, .int .i64 p0.Cmd, .int .i64 p0.Tag, .int .i64 p0.Event, .int .i64 p0.Hook, .int .i64 p0.Prog, .int .i64 p0.Version, .int .i64 p0.Pc, .int .i64 p0.Item.Map, .int .i64 p0.Item.Op, .int .u64 p0.Item.Key, .int .u64 p0.Item.Val, .int .i64 p0.Res.E, .bool p0.Res.Found, .int .u64 p0.Res.Val, .bool p0.Res.Out, .int .u64 p0.Res.OutKey, .int .u64 p0.Res.OutVal, .int .u64 p0.Val, .int .i64 p0.E] rfl ?_
       intro w40 hst
       refine OW.nil rfl ?_
       refine QW.next ?_
       refine CW.ret ?_
       obtain rfl := Option.some.inj hF
       refine QW.ret_c rfl rfl (run_loadN (cs := [.int .i64 p0.What, .int .i64 p0.Task, .int .i64 p0.From, .int .i64 p0.Cmd, .int .i64 p0.Tag, .int .i64 p0.Event, .int .i64 p0.Hook, .int .i64 p0.Prog, .int .i64 p0.Version, .int .i64 p0.Pc, .int .i64 p0.Item.Map, .int .i64 p0.Item.Op, .int .u64 p0.Item.Key, .int .u64 p0.Item.Val, .int .i64 p0.Res.E, .bool p0.Res.Found, .int .u64 p0.Res.Val, .bool p0.Res.Out, .int .u64 p0.Res.OutKey, .int .u64 p0.Res.OutVal, .int .u64 p0.Val, .int .i64 p0.E]) (by kernel_rfl) (by kernel_rfl) (hst.blkN 1 rfl 0 22)) ?_
       exact ⟨rfl, hst.keep [] rfl⟩


end Go.Proofs.YtalllncanpcmfaaDoor

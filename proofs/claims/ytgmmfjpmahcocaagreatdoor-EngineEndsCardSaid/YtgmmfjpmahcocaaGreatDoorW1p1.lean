/- Written by a program (wip/gen): the walks: each Go function returns what its plain function computes. -/
import Derived.Test.YtgmmfjpmahcocaaGreatDoorProg
import Derived.Test.YtgmmfjpmahcocaaGreatDoorF1
import Derived.Test.YtgmmfjpmahcocaaGreatDoorOpen
import Derived.Test.YtgmmfjpmahcocaaGreatDoorPart
import Derived.Test.YtgmmfjpmahcocaaGreatDoorExt
import Derived.Test.YtgmmfjpmahcocaaGreatDoorSh
import Derived.Test.YtgmmfjpmahcocaaGreatDoorO1
namespace Go.Proofs.YtgmmfjpmahcocaaGreatDoor
open Go.Sx
set_option linter.unusedVariables false
set_option maxRecDepth 10000
set_option maxHeartbeats 4000000
theorem el164 : Elem Tryz.prog 164 3 24 := Elem.of (i := Tryz.t164) (by kernel_rfl) (by kernel_rfl) (by kernel_rfl) (by kernel_rfl) (by kernel_rfl) (by decide) (by decide)
theorem el156 : Elem Tryz.prog 156 4 32 := Elem.of (i := Tryz.t156) (by kernel_rfl) (by kernel_rfl) (by kernel_rfl) (by kernel_rfl) (by kernel_rfl) (by decide) (by decide)
theorem el158 : Elem Tryz.prog 158 32 256 := Elem.of (i := Tryz.t158) (by kernel_rfl) (by kernel_rfl) (by kernel_rfl) (by kernel_rfl) (by kernel_rfl) (by decide) (by decide)
theorem el4 : Elem Tryz.prog 4 1 1 := Elem.of (i := Tryz.t4) (by kernel_rfl) (by kernel_rfl) (by kernel_rfl) (by kernel_rfl) (by kernel_rfl) (by decide) (by decide)
theorem el3 : Elem Tryz.prog 3 1 8 := Elem.of (i := Tryz.t3) (by kernel_rfl) (by kernel_rfl) (by kernel_rfl) (by kernel_rfl) (by kernel_rfl) (by decide) (by decide)
theorem el43 : Elem Tryz.prog 43 5 40 := Elem.of (i := Tryz.t43) (by kernel_rfl) (by kernel_rfl) (by kernel_rfl) (by kernel_rfl) (by kernel_rfl) (by decide) (by decide)
theorem el80 : Elem Tryz.prog 80 7 56 := Elem.of (i := Tryz.t80) (by kernel_rfl) (by kernel_rfl) (by kernel_rfl) (by kernel_rfl) (by kernel_rfl) (by decide) (by decide)
theorem el45 : Elem Tryz.prog 45 6 48 := Elem.of (i := Tryz.t45) (by kernel_rfl) (by kernel_rfl) (by kernel_rfl) (by kernel_rfl) (by kernel_rfl) (by decide) (by decide)
theorem tappetlaw11_asks_ok (w : World)  (r : api_Module) (hF : tappetlaw11_asks  = some r)
    (hst : St w (fp []) w []) :
    Calls Tryz.prog 26 [].toArray w (fun e w' => ∃ (x0_0 : Value) (x0_1 : Value), e = .returned (.agg [x0_0, x0_1].toArray) ∧ St w (fp []) w' [rowI x0_0 3 (encInt .i64) 1 r.Maps, rowI x0_1 43 enc_api_Inst 5 r.Code]) := by
 refine CW.start (N := 8) Tryz.func26 rfl rfl rfl (CW.seq (CW.region ?_))
 refine OW.alloc hst rfl rfl rfl [.slice none 0 0, .slice none 0 0] (by kernel_rfl) ?_
 intro b3 w4 hst
 refine OW.nil rfl (QW.next (CW.seq (CW.region ?_)))
 refine OW.row (α := Int) (e := 3) (enc := encInt .i64) (sz := 1) hst rfl rfl rfl [2] rfl (fun _ => rfl) rfl rfl (fun _ => by kernel_rfl) ?_
 intro g10 w11 hst
 refine OW.pure 4 [(2, .agg [.int .i64 13, .int .i64 2, .int .i64 0, .int .i64 0, .int .i64 0].toArray), (3, .agg [.int .i64 14, .int .i64 1, .int .i64 0, .int .i64 0, .int .i64 0].toArray), (4, .agg [.int .i64 21, .int .i64 0, .int .i64 0, .int .i64 0, .int .i64 0].toArray), (5, .agg [.int .i64 22, .int .i64 0, .int .i64 0, .int .i64 0, .int .i64 0].toArray)] (by kernel_rfl) ?_
 refine OW.row (α := api_Inst) (e := 43) (enc := enc_api_Inst) (sz := 5) hst rfl rfl rfl [(api_Inst.mk 13 2 0 0 0), (api_Inst.mk 14 1 0 0 0), (api_Inst.mk 21 0 0 0 0), (api_Inst.mk 22 0 0 0 0)] rfl (fun _ => rfl) rfl rfl (fun _ => by kernel_rfl) ?_
 intro g12 w13 hst
 refine OW.pure 1 [(7, .agg [.slice (some ⟨g10, 0, none⟩) 1 1, .slice (some ⟨g12, 0, none⟩) 4 4].toArray)] (by kernel_rfl) ?_
 refine OW.stB hst 0 rfl rfl rfl rfl rfl (by kernel_rfl) rfl rfl [.slice (some ⟨g10, 0, none⟩) 1 1, .slice (some ⟨g12, 0, none⟩) 4 4] rfl ?_
 intro w14 hst
 refine OW.nil rfl (QW.next (CW.ret ?_))
 obtain rfl := Option.some.inj hF
 refine QW.ret_c rfl rfl (run_loadN (cs := [.slice (some ⟨g10, 0, none⟩) 1 1, .slice (some ⟨g12, 0, none⟩) 4 4]) (by kernel_rfl) (by kernel_rfl) (hst.blkN 0 rfl 0 2)) ?_
 exact ⟨(.slice (some ⟨g10, 0, none⟩) 1 1), (.slice (some ⟨g12, 0, none⟩) 4 4), rfl, hst.keep [1, 2] rfl⟩
theorem scratch_New_ok (w : World)  (r : scratch_Scratch) (hF : scratch_New  = some r)
    (hst : St w (fp []) w []) :
    Calls Tryz.prog 11 [].toArray w (fun e w' => ∃ (y0 : Value) (z0 : List Nat), e = .returned (y0) ∧ St w (fp []) w' [itI R_t47 [y0] z0 r]) := by
 refine CW.start (N := 3) Tryz.func11 rfl rfl rfl (CW.seq (CW.region ?_))
 refine OW.pure 1 [] (by kernel_rfl) (OW.nil rfl (QW.next (CW.seq (CW.region ?_))))
 refine OW.pure 1 [(1, .agg [.int .u64 0, .int .u64 0, .int .u64 0, .int .u64 0, .int .u64 0, .int .u64 0, .int .u64 0, .int .u64 0, .int .u64 0, .int .u64 0, .int .u64 0, .int .u64 0, .int .u64 0, .int .u64 0, .int .u64 0, .int .u64 0, .int .u64 0, .int .u64 0, .int .u64 0, .int .u64 0, .int .u64 0, .int .u64 0, .int .u64 0, .int .u64 0, .int .u64 0, .int .u64 0, .int .u64 0, .int .u64 0, .int .u64 0, .int .u64 0, .int .u64 0, .int .u64 0].toArray)] (by kernel_rfl) ?_
 refine OW.box hst rfl rfl rfl rfl [.int .u64 0, .int .u64 0, .int .u64 0, .int .u64 0, .int .u64 0, .int .u64 0, .int .u64 0, .int .u64 0, .int .u64 0, .int .u64 0, .int .u64 0, .int .u64 0, .int .u64 0, .int .u64 0, .int .u64 0, .int .u64 0, .int .u64 0, .int .u64 0, .int .u64 0, .int .u64 0, .int .u64 0, .int .u64 0, .int .u64 0, .int .u64 0, .int .u64 0, .int .u64 0, .int .u64 0, .int .u64 0, .int .u64 0, .int .u64 0, .int .u64 0, .int .u64 0] rfl ?_
 intro b3 w4 hst
 refine OW.pure 1 [(0, .pointer (some ⟨b3, 0, none⟩))] (by kernel_rfl) (OW.nil rfl (QW.next (CW.ret ?_)))
 have hst := hst.shutP0 (enc := enc_scratch_Scratch) (sz := 32) (he := fun _ => rfl) 0 rfl (scratch_Scratch.mk (scratch_Words.mk (fun _ => 0)) (scratch_Counters.mk (fun _ => 0))) rfl
 obtain rfl := Option.some.inj hF
 refine QW.ret1 rfl rfl ?_
 exact ⟨(.pointer (some ⟨b3, 0, none⟩)), ([b3]), rfl, hst.keep [0] rfl⟩
theorem slices_Index_int_int_ok (w : World) (v0 : Value) (p0 : List Int) (p1 : Int) (r : Int) (hF : slices_Index_int_int p0 p1 = some r)
    (hst : St w (fp []) w []) (h0 : Rd w (fp []) v0 (encInt .i64) 1 p0) :
    Calls Tryz.prog 144 [v0, .int .i64 p1].toArray w (fun e w' => e = .returned (.int .i64 r) ∧ St w (fp []) w' []) := by
 refine CW.start (N := 19) Tryz.func144 rfl rfl rfl ?_
 obtain ⟨l1, a2, c3, rfl⟩ := h0.len
 refine CW.seq (CW.region ?_)
 refine OW.pure 1 [] (by kernel_rfl) (OW.nil rfl (QW.next (CW.seq (CW.seq (CW.region ?_)))))
 refine OW.pure 3 [(7, .int .i64 ((p0).length : Int)), (8, .int .i64 0)] (by kernel_rfl) (OW.nil rfl (QW.next ?_))
 obtain ⟨o52, ho53, hF⟩ := bind_some' hF
 refine CW.cutK (fun a w1 => ∃ (t54 : Unit), o52 = .inl t54 ∧ Rep 19 [] a ∧ St w (fp []) w1 []) ?_ ?_
 ·refine CW.block ?_
  refine CW.loop (fun n a w1 => ∃ (i87 : Nat) (s86 : Unit), i87 + n = (p0).length ∧ Rep 19 [(0, .slice a2 (p0).length c3), (1, .int .i64 p1), (7, .int .i64 ((p0).length : Int)), (8, .int .i64 (i87 : Int))] a ∧ St w (fp []) w1 [] ∧ forN (slices_Index_int_int_l1 p0 p1) (fun (s86 : Unit) => (.inl ())) n i87 s86 = some o52) (p0).length (fun a ha => ⟨0, (), Nat.zero_add _, ha.agrees (by kernel_rfl), hst.keep [] rfl, ho53⟩) ?_
  rintro n84 a w1 ⟨i87, s86, hi88, ha, hst, hl85⟩
  refine CW.go ?_ ha
  refine CW.seq (CW.region ?_)
  refine OW.pure 1 [(9, .bool (decide ((i87 : Int) < ((p0).length : Int))))] (by kernel_rfl) (OW.nil rfl (QW.next (CW.seq ?_)))
  rcases Bool.eq_false_or_eq_true (decide ((i87 : Int) < ((p0).length : Int))) with hc89 | hc89
  ·rcases n84 with _ | n84
   ·exact (cnt0 hi88 hc89).elim
   refine CW.cond_t rfl hc89 (CW.skip (QW.next (CW.seq (CW.block (CW.seq (CW.region ?_))))))
   refine OW.pure 2 [(5, .int .i64 (i87 : Int))] (by kernel_rfl) (OW.nil rfl (QW.next (CW.seq (CW.region ?_))))
   refine OW.pure 3 [(11, .int .i64 p1), (12, .slice a2 (p0).length c3), (13, .int .i64 (i87 : Int))] (by kernel_rfl) ?_
   obtain ⟨x96, hx97, hl85⟩ := bind_some' hl85
   obtain ⟨g99, o100, c101, hv98⟩ := h0.formv (fun _ => ⟨_, rfl⟩) hx97
   refine OW.idx 3 1 rfl rfl rfl rfl hv98 rfl (idx_some hx97).1 (idx_some hx97).2.1 (by kernel_rfl) (by kernel_rfl) ?_
   refine OW.ld rfl rfl rfl rfl (by kernel_rfl) (h0.cellv hst hx97 hv98 0 _ rfl) ?_
   refine OW.pure 1 [(16, .bool (p1 == x96))] (by kernel_rfl) (OW.nil rfl (QW.next ?_))
   rcases Bool.eq_false_or_eq_true ((p1 == x96)) with hc102 | hc102
   ·have hl85 := ite_t hl85 hc102
    refine CW.cond_t rfl hc102 (CW.seq (CW.region ?_))
    refine OW.pure 2 [(4, .int .i64 (i87 : Int))] (by kernel_rfl) (OW.nil rfl (QW.next (CW.ret (QW.block_ret (QW.then_ret (QW.then_ret (QW.block_ret (QW.then_ret ?_))))))))
    obtain rfl := Option.some.inj hl85
    obtain rfl := Option.some.inj hF
    refine QW.ret1 rfl rfl ?_
    exact ⟨rfl, hst.keep [] rfl⟩
   have hl85 := ite_f hl85 hc102
   refine CW.cond_f rfl hc102 (CW.skip (QW.block_normal (QW.next (CW.region ?_))))
   refine OW.pure 2 [(8, .int .i64 (w64 ((i87 : Int) + 1)))] (by kernel_rfl) (OW.nil rfl ?_)
   refine QW.say 8 rfl (congrArg (Value.int .i64) (w64_cnt hc89 l1)) ?_
   exact QW.meet (fun a ha => ⟨n84, Nat.lt_succ_self _, i87 + 1, (), cnt_next hi88, ha.agrees (by kernel_rfl), hst.keep [] rfl, hl85⟩)
  rcases n84 with _ | n84
  ·refine CW.cond_f rfl hc89 ?_
   refine CW.exit (QW.then_exit (QW.then_exit ?_))
   refine QW.block_here ?_
   obtain rfl := Option.some.inj hl85
   exact QW.meet (fun a ha => ⟨(), rfl, ha.agrees (by kernel_rfl), hst.keep [] rfl⟩)
  exact (cnt1 hi88 hc89).elim
 rintro a w1 ⟨t54, rfl, ha, hst⟩
 refine CW.go ?_ ha
 refine CW.seq (CW.region ?_)
 refine OW.pure 1 [(4, .int .i64 (-1))] (by kernel_rfl) (OW.nil rfl (QW.next (CW.ret ?_)))
 obtain rfl := Option.some.inj hF
 refine QW.ret1 rfl rfl ?_
 exact ⟨rfl, hst.keep [] rfl⟩
theorem slices_Contains_int_int_ok (w : World) (v0 : Value) (p0 : List Int) (p1 : Int) (r : Bool) (hF : slices_Contains_int_int p0 p1 = some r)
    (hst : St w (fp []) w []) (h0 : Rd w (fp []) v0 (encInt .i64) 1 p0) :
    Calls Tryz.prog 109 [v0, .int .i64 p1].toArray w (fun e w' => e = .returned (.bool r) ∧ St w (fp []) w' []) := by
 refine CW.start (N := 9) Tryz.func109 rfl rfl rfl ?_
 obtain ⟨l1, a2, c3, rfl⟩ := h0.len
 refine CW.seq (CW.region ?_)
 refine OW.pure 1 [] (by kernel_rfl) (OW.nil rfl (QW.next (CW.seq (CW.region ?_))))
 refine OW.pure 2 [(5, .slice a2 (p0).length c3), (6, .int .i64 p1)] (by kernel_rfl) ?_
 obtain ⟨r8, hr9, hF⟩ := bind_some' hF
 refine OW.fn rfl rfl rfl rfl (by kernel_rfl) (slices_Index_int_int_ok _ (.slice a2 (p0).length c3) p0 p1 r8 hr9 (hst.part [] rfl) (h0.give hst [])) ?_
 rintro e w10 ⟨rfl, hst11⟩
 refine ⟨_, rfl, ?_⟩
 have hst := hst.join (idx := []) (rest := []) rfl hst11
 refine OW.pure 2 [(4, .bool (decide (r8 ≥ 0)))] (by kernel_rfl) (OW.nil rfl (QW.next (CW.ret ?_)))
 obtain rfl := Option.some.inj hF
 refine QW.ret1 rfl rfl ?_
 exact ⟨rfl, hst.keep [] rfl⟩
theorem judge_good_ok (w : World) (v0 : Value) (p0 : List Int) (r : Bool) (hF : judge_good p0 = some r)
    (hst : St w (fp []) w []) (h0 : Rd w (fp []) v0 (encInt .i64) 1 p0) :
    Calls Tryz.prog 73 [v0].toArray w (fun e w' => e = .returned (.bool r) ∧ St w (fp []) w' []) := by
 refine CW.start (N := 29) Tryz.func73 rfl rfl rfl ?_
 obtain ⟨l1, a2, c3, rfl⟩ := h0.len
 refine CW.seq (CW.region ?_)
 refine OW.pure 1 [] (by kernel_rfl) (OW.nil rfl (QW.next (CW.seq (CW.seq (CW.region ?_)))))
 refine OW.pure 3 [(5, .slice a2 (p0).length c3), (6, .int .i64 ((p0).length : Int)), (7, .int .i64 0)] (by kernel_rfl) (OW.nil rfl (QW.next ?_))
 obtain ⟨o112, ho113, hF⟩ := bind_some' hF
 refine CW.cutK (fun a w1 => ∃ (t114 : Unit), o112 = .inl t114 ∧ Rep 29 [(0, .slice a2 (p0).length c3)] a ∧ St w (fp []) w1 []) ?_ ?_
 ·refine CW.block ?_
  refine CW.loop (fun n a w1 => ∃ (i187 : Nat) (s186 : Unit), i187 + n = (p0).length ∧ Rep 29 [(0, .slice a2 (p0).length c3), (5, .slice a2 (p0).length c3), (6, .int .i64 ((p0).length : Int)), (7, .int .i64 (i187 : Int))] a ∧ St w (fp []) w1 [] ∧ forN (judge_good_l1 p0) (fun (s186 : Unit) => (.inl ())) n i187 s186 = some o112) (p0).length (fun a ha => ⟨0, (), Nat.zero_add _, ha.agrees (by kernel_rfl), hst.keep [] rfl, ho113⟩) ?_
  rintro n184 a w1 ⟨i187, s186, hi188, ha, hst, hl185⟩
  refine CW.go ?_ ha
  refine CW.seq (CW.region ?_)
  refine OW.pure 1 [(8, .bool (decide ((i187 : Int) < ((p0).length : Int))))] (by kernel_rfl) (OW.nil rfl (QW.next (CW.seq ?_)))
  rcases Bool.eq_false_or_eq_true (decide ((i187 : Int) < ((p0).length : Int))) with hc189 | hc189
  ·rcases n184 with _ | n184
   ·exact (cnt0 hi188 hc189).elim
   refine CW.cond_t rfl hc189 (CW.skip (QW.next (CW.seq (CW.block (CW.seq (CW.region ?_))))))
   refine OW.pure 1 [(9, .int .i64 (i187 : Int))] (by kernel_rfl) ?_
   obtain ⟨x196, hx197, hl185⟩ := bind_some' hl185
   obtain ⟨g199, o200, c201, hv198⟩ := h0.formv (fun _ => ⟨_, rfl⟩) hx197
   refine OW.idx 3 1 rfl rfl rfl rfl hv198 rfl (idx_some hx197).1 (idx_some hx197).2.1 (by kernel_rfl) (by kernel_rfl) ?_
   refine OW.ld rfl rfl rfl rfl (by kernel_rfl) (h0.cellv hst hx197 hv198 0 _ rfl) ?_
   refine OW.pure 2 [(3, .int .i64 (i187 : Int)), (4, .int .i64 x196)] (by kernel_rfl) (OW.nil rfl (QW.next (CW.seq ?_)))
   obtain ⟨o211, ho212, hl185⟩ := bind_some' hl185
   refine CW.cutK (fun a w1 => Rep 29 [(0, .slice a2 (p0).length c3), (5, .slice a2 (p0).length c3), (6, .int .i64 ((p0).length : Int)), (7, .int .i64 (i187 : Int)), (24, .bool o211)] a ∧ St w (fp []) w1 []) ?_ ?_
   ·refine CW.region ?_
    refine OW.pure 3 [(14, .bool (decide (x196 < 0)))] (by kernel_rfl) ?_
    refine OW.split 14 rfl (fun hc213 => ?_) (fun hc213 => ?_)
    ·have ho212 := ite_t ho212 hc213
     refine OW.pure 10 [(24, .bool true)] (by kernel_rfl) (OW.nil rfl ?_)
     obtain rfl := Option.some.inj ho212
     exact QW.meet (fun a ha => ⟨ha.agrees (by kernel_rfl), hst.keep [] rfl⟩)
    have ho212 := ite_f ho212 hc213
    refine OW.pure 4 [(18, .bool (decide (x196 ≥ 4)))] (by kernel_rfl) ?_
    refine OW.split 18 rfl (fun hc214 => ?_) (fun hc214 => ?_)
    ·have ho212 := ite_t ho212 hc214
     refine OW.pure 6 [(24, .bool true)] (by kernel_rfl) (OW.nil rfl ?_)
     obtain rfl := Option.some.inj ho212
     exact QW.meet (fun a ha => ⟨ha.agrees (by kernel_rfl), hst.keep [] rfl⟩)
    have ho212 := ite_f ho212 hc214
    refine OW.pure 2 [(19, .slice a2 (p0).length c3), (20, .int .i64 (i187 : Int))] (by kernel_rfl) ?_
    obtain ⟨ys215, hcut216, ho212⟩ := bind_some' ho212
    refine OW.op (v := .slice a2 (ys215).length c3) rfl rfl rfl rfl (fun a ha => pre_run (e := 3) 1 rfl rfl rfl hcut216 h0.cap (by kernel_rfl) (by kernel_rfl) a _ ha) ?_
    have hp217 := h0.pre hcut216
    refine OW.pure 1 [(22, .int .i64 x196)] (by kernel_rfl) ?_
    obtain ⟨r218, hr219, ho212⟩ := bind_some' ho212
    refine OW.fn rfl rfl rfl rfl (by kernel_rfl) (slices_Contains_int_int_ok _ (.slice a2 (ys215).length c3) ys215 x196 r218 hr219 (hst.part [] rfl) (hp217.give hst [])) ?_
    rintro e w220 ⟨rfl, hst221⟩
    refine ⟨_, rfl, ?_⟩
    have hst := hst.join (idx := []) (rest := []) rfl hst221
    refine OW.pure 1 [(24, .bool r218)] (by kernel_rfl) (OW.nil rfl ?_)
    obtain rfl := Option.some.inj ho212
    exact QW.meet (fun a ha => ⟨ha.agrees (by kernel_rfl), hst.keep [] rfl⟩)
   rintro a w1 ⟨ha, hst⟩
   refine CW.go ?_ ha
   rcases Bool.eq_false_or_eq_true (o211) with hc222 | hc222
   ·have hl185 := ite_t hl185 hc222
    refine CW.cond_t rfl hc222 (CW.seq (CW.region ?_))
    refine OW.pure 1 [(2, .bool false)] (by kernel_rfl) (OW.nil rfl (QW.next (CW.ret (QW.block_ret (QW.then_ret (QW.then_ret (QW.block_ret (QW.then_ret ?_))))))))
    obtain rfl := Option.some.inj hl185
    obtain rfl := Option.some.inj hF
    refine QW.ret1 rfl rfl ?_
    exact ⟨rfl, hst.keep [] rfl⟩
   have hl185 := ite_f hl185 hc222
   refine CW.cond_f rfl hc222 (CW.skip (QW.block_normal (QW.next (CW.region ?_))))
   refine OW.pure 2 [(7, .int .i64 (w64 ((i187 : Int) + 1)))] (by kernel_rfl) (OW.nil rfl ?_)
   refine QW.say 7 rfl (congrArg (Value.int .i64) (w64_cnt hc189 l1)) ?_
   exact QW.meet (fun a ha => ⟨n184, Nat.lt_succ_self _, i187 + 1, (), cnt_next hi188, ha.agrees (by kernel_rfl), hst.keep [] rfl, hl185⟩)
  rcases n184 with _ | n184
  ·refine CW.cond_f rfl hc189 ?_
   refine CW.exit (QW.then_exit (QW.then_exit ?_))
   refine QW.block_here ?_
   obtain rfl := Option.some.inj hl185
   exact QW.meet (fun a ha => ⟨(), rfl, ha.agrees (by kernel_rfl), hst.keep [] rfl⟩)
  exact (cnt1 hi188 hc189).elim
 rintro a w1 ⟨t114, rfl, ha, hst⟩
 refine CW.go ?_ ha
 refine CW.seq (CW.region ?_)
 refine OW.pure 4 [(2, .bool (decide (((p0).length : Int) ≤ 4)))] (by kernel_rfl) (OW.nil rfl (QW.next (CW.ret ?_)))
 obtain rfl := Option.some.inj hF
 refine QW.ret1 rfl rfl ?_
 exact ⟨rfl, hst.keep [] rfl⟩
theorem ops_of_ok (w : World) (p0 : Int) (r : ops_form × Bool) (hF : ops_of p0 = some r)
    (hst : St w (fp []) w []) (hT0 : Rd w (fp []) (.slice (some ⟨0, 0, none⟩) 23 23) enc_ops_form 2 tab_g0) :
    Calls Tryz.prog 83 [.int .i64 p0].toArray w (fun e w' => e = .returned (.tuple #[.agg [.string r.1.name, .string r.1.fields].toArray, .bool r.2]) ∧ St w (fp []) w' []) := by
 refine CW.start (N := 14) Tryz.func83 rfl rfl rfl (CW.seq (CW.region ?_))
 refine OW.alloc hst rfl rfl rfl [.string ByteArray.empty, .string ByteArray.empty] (by kernel_rfl) ?_
 intro b3 w4 hst
 refine OW.pure 1 [] (by kernel_rfl) (OW.nil rfl (QW.next (CW.seq (CW.seq ?_))))
 refine CW.cutK (fun a w1 => Rep 14 [(0, .int .i64 p0), (2, .pointer (some ⟨b3, 0, none⟩)), (9, .bool (decide (p0 < 0) || decide (p0 ≥ 23)))] a ∧ St w (fp []) w1 [blkI b3 167 [.string ByteArray.empty, .string ByteArray.empty]]) ?_ ?_
 ·refine CW.region ?_
  refine OW.pure 3 [(6, .bool (decide (p0 < 0)))] (by kernel_rfl) ?_
  refine OW.split 6 rfl (fun hc5 => ?_) (fun hc5 => ?_)
  ·refine OW.pure 3 [(9, .bool true)] (by kernel_rfl) (OW.nil rfl ?_)
   refine QW.say 9 (v := .bool (decide (p0 < 0) || decide (p0 ≥ 23))) rfl (by first | (rw [hc5]; done) | (rw [hc5]; rfl) | simp [hc5]) ?_
   exact QW.meet (fun a ha => ⟨ha.agrees (by kernel_rfl), hst.keep [0] rfl⟩)
  refine OW.pure 3 [(9, .bool (decide (p0 ≥ 23)))] (by kernel_rfl) (OW.nil rfl ?_)
  refine QW.say 9 (v := .bool (decide (p0 < 0) || decide (p0 ≥ 23))) rfl (by first | (rw [hc5]; done) | (rw [hc5]; rfl) | simp [hc5]) ?_
  exact QW.meet (fun a ha => ⟨ha.agrees (by kernel_rfl), hst.keep [0] rfl⟩)
 rintro a w1 ⟨ha, hst⟩
 refine CW.go ?_ ha
 rcases Bool.eq_false_or_eq_true ((decide (p0 < 0) || decide (p0 ≥ 23))) with hc6 | hc6
 ·have hF := ite_t hF hc6
  refine CW.cond_t rfl hc6 (CW.seq (CW.region ?_))
  refine OW.pure 1 [(10, .agg [.string ByteArray.empty, .string ByteArray.empty].toArray)] (by kernel_rfl) ?_
  refine OW.stB hst 0 rfl rfl rfl rfl rfl (by kernel_rfl) rfl rfl [.string ByteArray.empty, .string ByteArray.empty] rfl ?_
  intro w8 hst
  refine OW.pure 1 [(3, .bool false)] (by kernel_rfl) (OW.nil rfl (QW.next (CW.ret (QW.then_ret ?_))))
  obtain rfl := Option.some.inj hF
  refine QW.ret_ct rfl rfl (run_loadN (cs := [.string ByteArray.empty, .string ByteArray.empty]) (by kernel_rfl) (by kernel_rfl) (hst.blkN 0 rfl 0 2)) rfl ?_
  exact ⟨rfl, hst.keep [] rfl⟩
 have hF := ite_f hF hc6
 refine CW.cond_f rfl hc6 (CW.skip (QW.next (CW.seq (CW.region ?_))))
 refine OW.pure 1 [(11, .int .i64 p0)] (by kernel_rfl) ?_
 obtain ⟨x12, hx13, hF⟩ := bind_some' hF
 refine OW.op (v := .pointer (some ⟨0, 0 + Int.toNat p0 * 2, none⟩)) rfl rfl rfl rfl (fun a ha => aidx_run (n := tab_g0.length) 167 2 rfl rfl rfl (idx_some hx13).1 (idx_some hx13).2.1 (by kernel_rfl) (by kernel_rfl) a _ ha) ?_
 refine OW.ldN (cs := enc_ops_form x12) rfl rfl rfl rfl (by kernel_rfl) (by kernel_rfl) (hT0.cellv hst hx13 (show Value.slice (some ⟨0, 0, none⟩) 23 23 = .slice (some ⟨0, 0, none⟩) tab_g0.length 23 from rfl)) ?_
 refine OW.stB hst 0 rfl rfl rfl rfl rfl (by kernel_rfl) rfl rfl [.string x12.name, .string x12.fields] rfl ?_
 intro w14 hst
 refine OW.pure 1 [(3, .bool true)] (by kernel_rfl) (OW.nil rfl (QW.next (CW.ret ?_)))
 obtain rfl := Option.some.inj hF
 refine QW.ret_ct rfl rfl (run_loadN (cs := [.string x12.name, .string x12.fields]) (by kernel_rfl) (by kernel_rfl) (hst.blkN 0 rfl 0 2)) rfl ?_
 exact ⟨rfl, hst.keep [] rfl⟩
theorem ops_register_ok (w : World) (p0 : Int) (r : Bool) (hF : ops_register p0 = some r)
    (hst : St w (fp []) w []) :
    Calls Tryz.prog 125 [.int .i64 p0].toArray w (fun e w' => e = .returned (.bool r) ∧ St w (fp []) w' []) := by
 refine CW.start (N := 9) Tryz.func125 rfl rfl rfl (CW.seq (CW.region ?_))
 refine OW.pure 1 [] (by kernel_rfl) (OW.nil rfl (QW.next (CW.seq ?_)))
 refine CW.cutK (fun a w1 => Rep 9 [(2, .bool (decide (p0 ≥ 0) && decide (p0 < 8)))] a ∧ St w (fp []) w1 []) ?_ ?_
 ·refine CW.region ?_
  refine OW.pure 3 [(5, .bool (decide (p0 ≥ 0)))] (by kernel_rfl) ?_
  refine OW.split 5 rfl (fun hc1 => ?_) (fun hc1 => ?_)
  ·refine OW.pure 4 [(2, .bool (decide (p0 < 8)))] (by kernel_rfl) (OW.nil rfl ?_)
   refine QW.say 2 (v := .bool (decide (p0 ≥ 0) && decide (p0 < 8))) rfl (by first | (rw [hc1]; done) | (rw [hc1]; rfl) | simp [hc1]) ?_
   exact QW.meet (fun a ha => ⟨ha.agrees (by kernel_rfl), hst.keep [] rfl⟩)
  refine OW.pure 4 [(2, .bool false)] (by kernel_rfl) (OW.nil rfl ?_)
  refine QW.say 2 (v := .bool (decide (p0 ≥ 0) && decide (p0 < 8))) rfl (by first | (rw [hc1]; done) | (rw [hc1]; rfl) | simp [hc1]) ?_
  exact QW.meet (fun a ha => ⟨ha.agrees (by kernel_rfl), hst.keep [] rfl⟩)
 rintro a w1 ⟨ha, hst⟩
 refine CW.go ?_ ha
 refine CW.ret ?_
 obtain rfl := Option.some.inj hF
 refine QW.ret1 rfl rfl ?_
 exact ⟨rfl, hst.keep [] rfl⟩
theorem ops_within_ok (w : World) (p0 : Int) (p1 : Int) (p2 : Int) (r : Bool) (hF : ops_within p0 p1 p2 = some r)
    (hst : St w (fp []) w []) :
    Calls Tryz.prog 126 [.int .i64 p0, .int .i64 p1, .int .i64 p2].toArray w (fun e w' => e = .returned (.bool r) ∧ St w (fp []) w' []) := by
 refine CW.start (N := 15) Tryz.func126 rfl rfl rfl (CW.seq (CW.region ?_))
 refine OW.pure 1 [] (by kernel_rfl) (OW.nil rfl (QW.next (CW.seq ?_)))
 refine CW.cutK (fun a w1 => Rep 15 [(6, .bool (decide (p0 ≥ p1) && decide (p0 ≤ p2)))] a ∧ St w (fp []) w1 []) ?_ ?_
 ·refine CW.region ?_
  refine OW.pure 4 [(10, .bool (decide (p0 ≥ p1)))] (by kernel_rfl) ?_
  refine OW.split 10 rfl (fun hc1 => ?_) (fun hc1 => ?_)
  ·refine OW.pure 5 [(6, .bool (decide (p0 ≤ p2)))] (by kernel_rfl) (OW.nil rfl ?_)
   refine QW.say 6 (v := .bool (decide (p0 ≥ p1) && decide (p0 ≤ p2))) rfl (by first | (rw [hc1]; done) | (rw [hc1]; rfl) | simp [hc1]) ?_
   exact QW.meet (fun a ha => ⟨ha.agrees (by kernel_rfl), hst.keep [] rfl⟩)
  refine OW.pure 5 [(6, .bool false)] (by kernel_rfl) (OW.nil rfl ?_)
  refine QW.say 6 (v := .bool (decide (p0 ≥ p1) && decide (p0 ≤ p2))) rfl (by first | (rw [hc1]; done) | (rw [hc1]; rfl) | simp [hc1]) ?_
  exact QW.meet (fun a ha => ⟨ha.agrees (by kernel_rfl), hst.keep [] rfl⟩)
 rintro a w1 ⟨ha, hst⟩
 refine CW.go ?_ ha
 refine CW.ret ?_
 obtain rfl := Option.some.inj hF
 refine QW.ret1 rfl rfl ?_
 exact ⟨rfl, hst.keep [] rfl⟩
theorem ops_right_ok (w : World) (p0 : api_Inst) (r : Bool) (hF : ops_right p0 = some r)
    (hst : St w (fp []) w []) (hT0 : Rd w (fp []) (.slice (some ⟨0, 0, none⟩) 23 23) enc_ops_form 2 tab_g0) :
    Calls Tryz.prog 82 [.agg [.int .i64 p0.Op, .int .i64 p0.D, .int .i64 p0.A, .int .i64 p0.B, .int .i64 p0.Imm].toArray].toArray w (fun e w' => e = .returned (.bool r) ∧ St w (fp []) w' []) := by
 refine CW.start (N := 129) Tryz.func82 rfl rfl rfl (CW.seq (CW.region ?_))
 refine OW.box hst rfl rfl rfl rfl [.int .i64 p0.Op, .int .i64 p0.D, .int .i64 p0.A, .int .i64 p0.B, .int .i64 p0.Imm] rfl ?_
 intro b3 w4 hst
 refine OW.pure 1 [] (by kernel_rfl) (OW.nil rfl (QW.next (CW.seq (CW.region ?_))))
 refine OW.pure 1 [(8, .pointer (some ⟨b3, 0, none⟩))] (by kernel_rfl) ?_
 refine OW.ld rfl rfl rfl rfl (by kernel_rfl) (hst.blk 0 rfl rfl) ?_
 obtain ⟨r12, hr13, hF⟩ := bind_some' hF
 refine OW.fn rfl rfl rfl rfl (by kernel_rfl) (ops_of_ok _ p0.Op r12 hr13 (hst.part [] rfl) (hT0.give hst [])) ?_
 rintro e w14 ⟨rfl, hst15⟩
 refine ⟨_, rfl, ?_⟩
 have hst := hst.join (idx := []) (rest := [0]) rfl hst15
 refine OW.pure 3 [(11, .agg [.string r12.1.name, .string r12.1.fields].toArray), (12, .bool r12.2)] (by kernel_rfl) ?_
 refine OW.alloc hst rfl rfl rfl [.string ByteArray.empty, .string ByteArray.empty] (by kernel_rfl) ?_
 intro b16 w17 hst
 refine OW.stB hst 1 rfl rfl rfl rfl rfl (by kernel_rfl) rfl rfl [.string r12.1.name, .string r12.1.fields] rfl ?_
 intro w18 hst
 refine OW.pure 1 [(4, .bool r12.2)] (by kernel_rfl) (OW.nil rfl (QW.next (CW.seq (CW.seq (CW.region ?_)))))
 refine OW.pure 2 [(14, .bool (!r12.2))] (by kernel_rfl) (OW.nil rfl (QW.next ?_))
 rcases Bool.eq_false_or_eq_true ((!r12.2)) with hc19 | hc19
 ·have hF := ite_t hF hc19
  refine CW.cond_t rfl hc19 (CW.seq (CW.region ?_))
  refine OW.pure 1 [(2, .bool false)] (by kernel_rfl) (OW.nil rfl (QW.next (CW.ret (QW.then_ret ?_))))
  obtain rfl := Option.some.inj hF
  refine QW.ret1 rfl rfl ?_
  exact ⟨rfl, hst.keep [] rfl⟩
 have hF := ite_f hF hc19
 refine CW.cond_f rfl hc19 (CW.skip (QW.next (CW.seq (CW.region ?_))))
 refine OW.alloc hst rfl rfl rfl [.int .i64 0, .int .i64 0, .int .i64 0, .int .i64 0, .int .i64 0] (by kernel_rfl) ?_
 intro b22 w23 hst
 refine OW.nil rfl (QW.next (CW.seq ?_))
 refine CW.plan (by kernel_rfl) ?_
 intro w30 hch31
 have hst := hst.same hch31
 refine OA.pure [0] [(15, .pointer (some ⟨b3, 1, none⟩))] (by kernel_rfl) ?_
 refine OA.ld (i := 1) rfl (by kernel_rfl) rfl rfl rfl (by kernel_rfl) (hst.blk 0 rfl rfl) ?_
 refine OA.pure [2] [(17, .pointer (some ⟨b3, 2, none⟩))] (by kernel_rfl) ?_
 refine OA.ld (i := 3) rfl (by kernel_rfl) rfl rfl rfl (by kernel_rfl) (hst.blk 0 rfl rfl) ?_
 refine OA.pure [4] [(19, .pointer (some ⟨b3, 3, none⟩))] (by kernel_rfl) ?_
 refine OA.ld (i := 5) rfl (by kernel_rfl) rfl rfl rfl (by kernel_rfl) (hst.blk 0 rfl rfl) ?_
 refine OA.pure [6] [(21, .pointer (some ⟨b3, 4, none⟩))] (by kernel_rfl) ?_
 refine OA.ld (i := 7) rfl (by kernel_rfl) rfl rfl rfl (by kernel_rfl) (hst.blk 0 rfl rfl) ?_
 refine OA.pure [8] [(23, .pointer (some ⟨b22, 1, none⟩))] (by kernel_rfl) ?_
 refine OA.act (i := 9) [7, 5, 3] (by kernel_rfl) rfl rfl (by kernel_rfl) (by kernel_rfl) ?_
 refine OW.stB hst 2 rfl rfl rfl rfl rfl (by kernel_rfl) rfl rfl [.int .i64 0, .int .i64 p0.D, .int .i64 0, .int .i64 0, .int .i64 0] rfl ?_
 intro w32 hst
 refine OA.next ⟨(hst.blk 0 rfl rfl), (hst.blk 0 rfl rfl), (hst.blk 0 rfl rfl), trivial⟩ ?_
 refine OA.pure [10] [(24, .pointer (some ⟨b22, 2, none⟩))] (by kernel_rfl) ?_
 refine OA.act (i := 11) [7, 5] (by kernel_rfl) rfl rfl (by kernel_rfl) (by kernel_rfl) ?_
 refine OW.stB hst 2 rfl rfl rfl rfl rfl (by kernel_rfl) rfl rfl [.int .i64 0, .int .i64 p0.D, .int .i64 p0.A, .int .i64 0, .int .i64 0] rfl ?_
 intro w33 hst
 refine OA.next ⟨(hst.blk 0 rfl rfl), (hst.blk 0 rfl rfl), trivial⟩ ?_
 refine OA.pure [12] [(25, .pointer (some ⟨b22, 3, none⟩))] (by kernel_rfl) ?_
 refine OA.act (i := 13) [7] (by kernel_rfl) rfl rfl (by kernel_rfl) (by kernel_rfl) ?_
 refine OW.stB hst 2 rfl rfl rfl rfl rfl (by kernel_rfl) rfl rfl [.int .i64 0, .int .i64 p0.D, .int .i64 p0.A, .int .i64 p0.B, .int .i64 0] rfl ?_
 intro w34 hst
 refine OA.next ⟨(hst.blk 0 rfl rfl), trivial⟩ ?_
 refine OA.pure [14] [(26, .pointer (some ⟨b22, 4, none⟩))] (by kernel_rfl) ?_
 refine OA.act (i := 15) [] (by kernel_rfl) rfl rfl (by kernel_rfl) (by kernel_rfl) ?_
 refine OW.stB hst 2 rfl rfl rfl rfl rfl (by kernel_rfl) rfl rfl [.int .i64 0, .int .i64 p0.D, .int .i64 p0.A, .int .i64 p0.B, .int .i64 p0.Imm] rfl ?_
 intro w35 hst
 refine OA.next trivial ?_
 refine OA.fin (by kernel_rfl) (by kernel_rfl) (QW.next (CW.seq (CW.seq (CW.region ?_))))
 refine OW.pure 1 [(27, .pointer (some ⟨b16, 1, none⟩))] (by kernel_rfl) ?_
 refine OW.ld rfl rfl rfl rfl (by kernel_rfl) (hst.blk 1 rfl rfl) ?_
 refine OW.pure 2 [(29, .int .i64 (r12.1.fields.size : Int)), (30, .int .i64 0)] (by kernel_rfl) (OW.nil rfl (QW.next ?_))
 obtain ⟨o364, ho365, hF⟩ := bind_some' hF
 refine CW.cutK (fun a w1 => Rep 129 [(4, .bool o364.1), (5, .pointer (some ⟨b22, 0, none⟩))] a ∧ St w (fp []) w1 [blkI b22 43 [.int .i64 o364.2.Op, .int .i64 o364.2.D, .int .i64 o364.2.A, .int .i64 o364.2.B, .int .i64 o364.2.Imm]]) ?_ ?_
 ·refine CW.block ?_
  obtain ⟨u612, hr613, ho365⟩ := bind_some' ho365
  refine CW.loop (fun n a w1 => ∃ (i610 : Nat) (s609 : Bool × api_Inst), i610 + n = r12.1.fields.size ∧ Rep 129 [(1, .pointer (some ⟨b3, 0, none⟩)), (3, .pointer (some ⟨b16, 0, none⟩)), (4, .bool s609.1), (5, .pointer (some ⟨b22, 0, none⟩)), (29, .int .i64 (r12.1.fields.size : Int)), (30, .int .i64 (i610 : Int))] a ∧ St w (fp []) w1 [blkI b3 43 [.int .i64 p0.Op, .int .i64 p0.D, .int .i64 p0.A, .int .i64 p0.B, .int .i64 p0.Imm], blkI b16 167 [.string r12.1.name, .string r12.1.fields], blkI b22 43 [.int .i64 s609.2.Op, .int .i64 s609.2.D, .int .i64 s609.2.A, .int .i64 s609.2.B, .int .i64 s609.2.Imm]] ∧ forN (ops_right_l1 p0 r12) (fun (s609 : Bool × api_Inst) => (s609.1, s609.2)) n i610 s609 = some o364) r12.1.fields.size (fun a ha => ⟨0, (r12.2, (api_Inst.mk 0 p0.D p0.A p0.B p0.Imm)), Nat.zero_add _, ha.agrees (by kernel_rfl), hst.keep [0, 1, 2] rfl, ho365⟩) ?_
  rintro n607 a w1 ⟨i610, s609, hi611, ha, hst, hl608⟩
  refine CW.go ?_ ha
  refine CW.seq (CW.region ?_)
  refine OW.pure 1 [(31, .bool (decide ((i610 : Int) < (r12.1.fields.size : Int))))] (by kernel_rfl) (OW.nil rfl (QW.next (CW.seq ?_)))
  rcases Bool.eq_false_or_eq_true (decide ((i610 : Int) < (r12.1.fields.size : Int))) with hc614 | hc614
  ·rcases n607 with _ | n607
   ·exact (cnt0 hi611 hc614).elim
   refine CW.cond_t rfl hc614 (CW.skip (QW.next (CW.seq (CW.block (CW.seq (CW.region ?_))))))
   refine OW.pure 2 [(6, .int .i64 (i610 : Int))] (by kernel_rfl) (OW.nil rfl (QW.next (CW.seq (CW.region ?_))))
   refine OW.pure 1 [(33, .pointer (some ⟨b16, 1, none⟩))] (by kernel_rfl) ?_
   refine OW.ld rfl rfl rfl rfl (by kernel_rfl) (hst.blk 1 rfl rfl) ?_
   refine OW.pure 1 [(35, .int .i64 (i610 : Int))] (by kernel_rfl) ?_
   obtain ⟨c617, hx618, hl608⟩ := bind_some' hl608
   refine OW.op (v := .int .u8 c617) rfl rfl rfl rfl (fun a ha => sidx_run rfl rfl rfl (by kernel_rfl) hx618 a _ ha) (OW.nil rfl (QW.next (CW.block (CW.seq (CW.region ?_)))))
   refine OW.pure 2 [(37, .bool (c617 == 100))] (by kernel_rfl) (OW.nil rfl (QW.next ?_))
   rcases Bool.eq_false_or_eq_true ((c617 == 100)) with hc619 | hc619
   ·have hl608 := ite_t hl608 hc619
    refine CW.cond_t rfl hc619 (CW.region ?_)
    refine OW.pure 2 [(40, .bool s609.1)] (by kernel_rfl) ?_
    refine OW.split 40 rfl (fun hc620 => ?_) (fun hc620 => ?_)
    ·have hl608 := ite_t hl608 hc620
     refine OW.pure 1 [(41, .pointer (some ⟨b3, 1, none⟩))] (by kernel_rfl) ?_
     refine OW.ld rfl rfl rfl rfl (by kernel_rfl) (hst.blk 0 rfl rfl) ?_
     obtain ⟨r621, hr622, hl608⟩ := bind_some' hl608
     refine OW.fn rfl rfl rfl rfl (by kernel_rfl) (ops_register_ok _ p0.D r621 hr622 (hst.part [] rfl)) ?_
     rintro e w623 ⟨rfl, hst624⟩
     refine ⟨_, rfl, ?_⟩
     have hst := hst.join (idx := []) (rest := [0, 1, 2]) rfl hst624
     refine OW.pure 3 [(4, .bool r621), (45, .pointer (some ⟨b22, 1, none⟩))] (by kernel_rfl) ?_
     refine OW.stB hst 2 rfl rfl rfl rfl rfl (by kernel_rfl) rfl rfl [.int .i64 s609.2.Op, .int .i64 0, .int .i64 s609.2.A, .int .i64 s609.2.B, .int .i64 s609.2.Imm] rfl ?_
     intro w625 hst
     refine OW.nil rfl (QW.block_normal (QW.block_normal (QW.next (CW.region ?_))))
     refine OW.pure 2 [(30, .int .i64 (w64 ((i610 : Int) + 1)))] (by kernel_rfl) (OW.nil rfl ?_)
     refine QW.say 30 rfl (congrArg (Value.int .i64) (w64_cnt hc614 (room_sz hr613))) ?_
     exact QW.meet (fun a ha => ⟨n607, Nat.lt_succ_self _, i610 + 1, (r621, (api_Inst.mk s609.2.Op 0 s609.2.A s609.2.B s609.2.Imm)), cnt_next hi611, ha.agrees (by kernel_rfl), hst.keep [0, 1, 2] rfl, hl608⟩)
    have hl608 := ite_f hl608 hc620
    refine OW.pure 6 [(4, .bool false), (45, .pointer (some ⟨b22, 1, none⟩))] (by kernel_rfl) ?_
    refine OW.stB hst 2 rfl rfl rfl rfl rfl (by kernel_rfl) rfl rfl [.int .i64 s609.2.Op, .int .i64 0, .int .i64 s609.2.A, .int .i64 s609.2.B, .int .i64 s609.2.Imm] rfl ?_
    intro w626 hst
    refine OW.nil rfl (QW.block_normal (QW.block_normal (QW.next (CW.region ?_))))
    refine OW.pure 2 [(30, .int .i64 (w64 ((i610 : Int) + 1)))] (by kernel_rfl) (OW.nil rfl ?_)
    refine QW.say 30 rfl (congrArg (Value.int .i64) (w64_cnt hc614 (room_sz hr613))) ?_
    exact QW.meet (fun a ha => ⟨n607, Nat.lt_succ_self _, i610 + 1, (false, (api_Inst.mk s609.2.Op 0 s609.2.A s609.2.B s609.2.Imm)), cnt_next hi611, ha.agrees (by kernel_rfl), hst.keep [0, 1, 2] rfl, hl608⟩)
   have hl608 := ite_f hl608 hc619
   refine CW.cond_f rfl hc619 (CW.seq (CW.region ?_))
   refine OW.pure 2 [(46, .bool (c617 == 97))] (by kernel_rfl) (OW.nil rfl (QW.next ?_))
   rcases Bool.eq_false_or_eq_true ((c617 == 97)) with hc627 | hc627
   ·have hl608 := ite_t hl608 hc627
    refine CW.cond_t rfl hc627 (CW.region ?_)
    refine OW.pure 2 [(49, .bool s609.1)] (by kernel_rfl) ?_
    refine OW.split 49 rfl (fun hc628 => ?_) (fun hc628 => ?_)
    ·have hl608 := ite_t hl608 hc628
     refine OW.pure 1 [(50, .pointer (some ⟨b3, 2, none⟩))] (by kernel_rfl) ?_
     refine OW.ld rfl rfl rfl rfl (by kernel_rfl) (hst.blk 0 rfl rfl) ?_
     obtain ⟨r629, hr630, hl608⟩ := bind_some' hl608
     refine OW.fn rfl rfl rfl rfl (by kernel_rfl) (ops_register_ok _ p0.A r629 hr630 (hst.part [] rfl)) ?_
     rintro e w631 ⟨rfl, hst632⟩
     refine ⟨_, rfl, ?_⟩
     have hst := hst.join (idx := []) (rest := [0, 1, 2]) rfl hst632
     refine OW.pure 3 [(4, .bool r629), (54, .pointer (some ⟨b22, 2, none⟩))] (by kernel_rfl) ?_
     refine OW.stB hst 2 rfl rfl rfl rfl rfl (by kernel_rfl) rfl rfl [.int .i64 s609.2.Op, .int .i64 s609.2.D, .int .i64 0, .int .i64 s609.2.B, .int .i64 s609.2.Imm] rfl ?_
     intro w633 hst
     refine OW.nil rfl (QW.block_normal (QW.block_normal (QW.next (CW.region ?_))))
     refine OW.pure 2 [(30, .int .i64 (w64 ((i610 : Int) + 1)))] (by kernel_rfl) (OW.nil rfl ?_)
     refine QW.say 30 rfl (congrArg (Value.int .i64) (w64_cnt hc614 (room_sz hr613))) ?_
     exact QW.meet (fun a ha => ⟨n607, Nat.lt_succ_self _, i610 + 1, (r629, (api_Inst.mk s609.2.Op s609.2.D 0 s609.2.B s609.2.Imm)), cnt_next hi611, ha.agrees (by kernel_rfl), hst.keep [0, 1, 2] rfl, hl608⟩)
    have hl608 := ite_f hl608 hc628
    refine OW.pure 6 [(4, .bool false), (54, .pointer (some ⟨b22, 2, none⟩))] (by kernel_rfl) ?_
    refine OW.stB hst 2 rfl rfl rfl rfl rfl (by kernel_rfl) rfl rfl [.int .i64 s609.2.Op, .int .i64 s609.2.D, .int .i64 0, .int .i64 s609.2.B, .int .i64 s609.2.Imm] rfl ?_
    intro w634 hst
    refine OW.nil rfl (QW.block_normal (QW.block_normal (QW.next (CW.region ?_))))
    refine OW.pure 2 [(30, .int .i64 (w64 ((i610 : Int) + 1)))] (by kernel_rfl) (OW.nil rfl ?_)
    refine QW.say 30 rfl (congrArg (Value.int .i64) (w64_cnt hc614 (room_sz hr613))) ?_
    exact QW.meet (fun a ha => ⟨n607, Nat.lt_succ_self _, i610 + 1, (false, (api_Inst.mk s609.2.Op s609.2.D 0 s609.2.B s609.2.Imm)), cnt_next hi611, ha.agrees (by kernel_rfl), hst.keep [0, 1, 2] rfl, hl608⟩)
   have hl608 := ite_f hl608 hc627
   refine CW.cond_f rfl hc627 (CW.seq (CW.region ?_))
   refine OW.pure 2 [(55, .bool (c617 == 115))] (by kernel_rfl) (OW.nil rfl (QW.next ?_))
   rcases Bool.eq_false_or_eq_true ((c617 == 115)) with hc635 | hc635
   ·have hl608 := ite_t hl608 hc635
    refine CW.cond_t rfl hc635 (CW.seq (CW.region ?_))
    refine OW.pure 1 [(57, .pointer (some ⟨b22, 3, none⟩))] (by kernel_rfl) ?_
    refine OW.stB hst 2 rfl rfl rfl rfl rfl (by kernel_rfl) rfl rfl [.int .i64 s609.2.Op, .int .i64 s609.2.D, .int .i64 s609.2.A, .int .i64 0, .int .i64 s609.2.Imm] rfl ?_
    intro w637 hst
    refine OW.nil rfl (QW.next (CW.seq (CW.region ?_)))
    refine OW.pure 1 [(58, .pointer (some ⟨b3, 3, none⟩))] (by kernel_rfl) ?_
    refine OW.ld rfl rfl rfl rfl (by kernel_rfl) (hst.blk 0 rfl rfl) ?_
    refine OW.pure 1 [(60, .bool (p0.B == 8))] (by kernel_rfl) (OW.nil rfl (QW.next ?_))
    rcases Bool.eq_false_or_eq_true ((p0.B == 8)) with hc638 | hc638
    ·have hl608 := ite_t hl608 hc638
     refine CW.cond_t rfl hc638 (CW.region ?_)
     refine OW.pure 1 [(61, .pointer (some ⟨b22, 4, none⟩))] (by kernel_rfl) ?_
     refine OW.stB hst 2 rfl rfl rfl rfl rfl (by kernel_rfl) rfl rfl [.int .i64 s609.2.Op, .int .i64 s609.2.D, .int .i64 s609.2.A, .int .i64 0, .int .i64 0] rfl ?_
     intro w640 hst
     refine OW.nil rfl (QW.block_normal (QW.block_normal (QW.next (CW.region ?_))))
     refine OW.pure 2 [(30, .int .i64 (w64 ((i610 : Int) + 1)))] (by kernel_rfl) (OW.nil rfl ?_)
     refine QW.say 30 rfl (congrArg (Value.int .i64) (w64_cnt hc614 (room_sz hr613))) ?_
     exact QW.meet (fun a ha => ⟨n607, Nat.lt_succ_self _, i610 + 1, (s609.1, (api_Inst.mk s609.2.Op s609.2.D s609.2.A 0 0)), cnt_next hi611, ha.agrees (by kernel_rfl), hst.keep [0, 1, 2] rfl, hl608⟩)
    have hl608 := ite_f hl608 hc638
    refine CW.cond_f rfl hc638 (CW.region ?_)
    refine OW.pure 2 [(63, .bool s609.1)] (by kernel_rfl) ?_
    refine OW.split 63 rfl (fun hc641 => ?_) (fun hc641 => ?_)
    ·have hl608 := ite_t hl608 hc641
     refine OW.pure 1 [(64, .pointer (some ⟨b3, 3, none⟩))] (by kernel_rfl) ?_
     refine OW.ld rfl rfl rfl rfl (by kernel_rfl) (hst.blk 0 rfl rfl) ?_
     obtain ⟨r642, hr643, hl608⟩ := bind_some' hl608
     refine OW.fn rfl rfl rfl rfl (by kernel_rfl) (ops_register_ok _ p0.B r642 hr643 (hst.part [] rfl)) ?_
     rintro e w644 ⟨rfl, hst645⟩
     refine ⟨_, rfl, ?_⟩
     have hst := hst.join (idx := []) (rest := [0, 1, 2]) rfl hst645
     refine OW.pure 2 [(4, .bool r642)] (by kernel_rfl) (OW.nil rfl (QW.block_normal (QW.block_normal (QW.next (CW.region ?_)))))
     refine OW.pure 2 [(30, .int .i64 (w64 ((i610 : Int) + 1)))] (by kernel_rfl) (OW.nil rfl ?_)
     refine QW.say 30 rfl (congrArg (Value.int .i64) (w64_cnt hc614 (room_sz hr613))) ?_
     exact QW.meet (fun a ha => ⟨n607, Nat.lt_succ_self _, i610 + 1, (r642, (api_Inst.mk s609.2.Op s609.2.D s609.2.A 0 s609.2.Imm)), cnt_next hi611, ha.agrees (by kernel_rfl), hst.keep [0, 1, 2] rfl, hl608⟩)
    have hl608 := ite_f hl608 hc641
    refine OW.pure 5 [(4, .bool false)] (by kernel_rfl) (OW.nil rfl (QW.block_normal (QW.block_normal (QW.next (CW.region ?_)))))
    refine OW.pure 2 [(30, .int .i64 (w64 ((i610 : Int) + 1)))] (by kernel_rfl) (OW.nil rfl ?_)
    refine QW.say 30 rfl (congrArg (Value.int .i64) (w64_cnt hc614 (room_sz hr613))) ?_
    exact QW.meet (fun a ha => ⟨n607, Nat.lt_succ_self _, i610 + 1, (false, (api_Inst.mk s609.2.Op s609.2.D s609.2.A 0 s609.2.Imm)), cnt_next hi611, ha.agrees (by kernel_rfl), hst.keep [0, 1, 2] rfl, hl608⟩)
   have hl608 := ite_f hl608 hc635
   refine CW.cond_f rfl hc635 (CW.seq (CW.region ?_))
   refine OW.pure 2 [(68, .bool (c617 == 102))] (by kernel_rfl) (OW.nil rfl (QW.next ?_))
   rcases Bool.eq_false_or_eq_true ((c617 == 102)) with hc646 | hc646
   ·have hl608 := ite_t hl608 hc646
    refine CW.cond_t rfl hc646 (CW.region ?_)
    refine OW.pure 2 [(71, .bool s609.1)] (by kernel_rfl) ?_
    refine OW.split 71 rfl (fun hc647 => ?_) (fun hc647 => ?_)
    ·have hl608 := ite_t hl608 hc647
     refine OW.pure 1 [(72, .pointer (some ⟨b3, 4, none⟩))] (by kernel_rfl) ?_
     refine OW.ld rfl rfl rfl rfl (by kernel_rfl) (hst.blk 0 rfl rfl) ?_
     obtain ⟨r648, hr649, hl608⟩ := bind_some' hl608
     refine OW.fn rfl rfl rfl rfl (by kernel_rfl) (ops_within_ok _ p0.Imm 0 1 r648 hr649 (hst.part [] rfl)) ?_
     rintro e w650 ⟨rfl, hst651⟩
     refine ⟨_, rfl, ?_⟩
     have hst := hst.join (idx := []) (rest := [0, 1, 2]) rfl hst651
     refine OW.pure 3 [(4, .bool r648), (76, .pointer (some ⟨b22, 4, none⟩))] (by kernel_rfl) ?_
     refine OW.stB hst 2 rfl rfl rfl rfl rfl (by kernel_rfl) rfl rfl [.int .i64 s609.2.Op, .int .i64 s609.2.D, .int .i64 s609.2.A, .int .i64 s609.2.B, .int .i64 0] rfl ?_
     intro w652 hst
     refine OW.nil rfl (QW.block_normal (QW.block_normal (QW.next (CW.region ?_))))
     refine OW.pure 2 [(30, .int .i64 (w64 ((i610 : Int) + 1)))] (by kernel_rfl) (OW.nil rfl ?_)
     refine QW.say 30 rfl (congrArg (Value.int .i64) (w64_cnt hc614 (room_sz hr613))) ?_
     exact QW.meet (fun a ha => ⟨n607, Nat.lt_succ_self _, i610 + 1, (r648, (api_Inst.mk s609.2.Op s609.2.D s609.2.A s609.2.B 0)), cnt_next hi611, ha.agrees (by kernel_rfl), hst.keep [0, 1, 2] rfl, hl608⟩)
    have hl608 := ite_f hl608 hc647
    refine OW.pure 6 [(4, .bool false), (76, .pointer (some ⟨b22, 4, none⟩))] (by kernel_rfl) ?_
    refine OW.stB hst 2 rfl rfl rfl rfl rfl (by kernel_rfl) rfl rfl [.int .i64 s609.2.Op, .int .i64 s609.2.D, .int .i64 s609.2.A, .int .i64 s609.2.B, .int .i64 0] rfl ?_
    intro w653 hst
    refine OW.nil rfl (QW.block_normal (QW.block_normal (QW.next (CW.region ?_))))
    refine OW.pure 2 [(30, .int .i64 (w64 ((i610 : Int) + 1)))] (by kernel_rfl) (OW.nil rfl ?_)
    refine QW.say 30 rfl (congrArg (Value.int .i64) (w64_cnt hc614 (room_sz hr613))) ?_
    exact QW.meet (fun a ha => ⟨n607, Nat.lt_succ_self _, i610 + 1, (false, (api_Inst.mk s609.2.Op s609.2.D s609.2.A s609.2.B 0)), cnt_next hi611, ha.agrees (by kernel_rfl), hst.keep [0, 1, 2] rfl, hl608⟩)
   have hl608 := ite_f hl608 hc646
   refine CW.cond_f rfl hc646 (CW.seq (CW.region ?_))
   refine OW.pure 2 [(77, .bool (c617 == 109))] (by kernel_rfl) (OW.nil rfl (QW.next ?_))
   rcases Bool.eq_false_or_eq_true ((c617 == 109)) with hc654 | hc654
   ·have hl608 := ite_t hl608 hc654
    refine CW.cond_t rfl hc654 (CW.region ?_)
    refine OW.pure 2 [(80, .bool s609.1)] (by kernel_rfl) ?_
    refine OW.split 80 rfl (fun hc655 => ?_) (fun hc655 => ?_)
    ·have hl608 := ite_t hl608 hc655
     refine OW.pure 1 [(81, .pointer (some ⟨b3, 4, none⟩))] (by kernel_rfl) ?_
     refine OW.ld rfl rfl rfl rfl (by kernel_rfl) (hst.blk 0 rfl rfl) ?_
     obtain ⟨r656, hr657, hl608⟩ := bind_some' hl608
     refine OW.fn rfl rfl rfl rfl (by kernel_rfl) (ops_within_ok _ p0.Imm 0 3 r656 hr657 (hst.part [] rfl)) ?_
     rintro e w658 ⟨rfl, hst659⟩
     refine ⟨_, rfl, ?_⟩
     have hst := hst.join (idx := []) (rest := [0, 1, 2]) rfl hst659
     refine OW.pure 3 [(4, .bool r656), (85, .pointer (some ⟨b22, 4, none⟩))] (by kernel_rfl) ?_
     refine OW.stB hst 2 rfl rfl rfl rfl rfl (by kernel_rfl) rfl rfl [.int .i64 s609.2.Op, .int .i64 s609.2.D, .int .i64 s609.2.A, .int .i64 s609.2.B, .int .i64 0] rfl ?_
     intro w660 hst
     refine OW.nil rfl (QW.block_normal (QW.block_normal (QW.next (CW.region ?_))))
     refine OW.pure 2 [(30, .int .i64 (w64 ((i610 : Int) + 1)))] (by kernel_rfl) (OW.nil rfl ?_)
     refine QW.say 30 rfl (congrArg (Value.int .i64) (w64_cnt hc614 (room_sz hr613))) ?_
     exact QW.meet (fun a ha => ⟨n607, Nat.lt_succ_self _, i610 + 1, (r656, (api_Inst.mk s609.2.Op s609.2.D s609.2.A s609.2.B 0)), cnt_next hi611, ha.agrees (by kernel_rfl), hst.keep [0, 1, 2] rfl, hl608⟩)
    have hl608 := ite_f hl608 hc655
    refine OW.pure 6 [(4, .bool false), (85, .pointer (some ⟨b22, 4, none⟩))] (by kernel_rfl) ?_
    refine OW.stB hst 2 rfl rfl rfl rfl rfl (by kernel_rfl) rfl rfl [.int .i64 s609.2.Op, .int .i64 s609.2.D, .int .i64 s609.2.A, .int .i64 s609.2.B, .int .i64 0] rfl ?_
    intro w661 hst
    refine OW.nil rfl (QW.block_normal (QW.block_normal (QW.next (CW.region ?_))))
    refine OW.pure 2 [(30, .int .i64 (w64 ((i610 : Int) + 1)))] (by kernel_rfl) (OW.nil rfl ?_)
    refine QW.say 30 rfl (congrArg (Value.int .i64) (w64_cnt hc614 (room_sz hr613))) ?_
    exact QW.meet (fun a ha => ⟨n607, Nat.lt_succ_self _, i610 + 1, (false, (api_Inst.mk s609.2.Op s609.2.D s609.2.A s609.2.B 0)), cnt_next hi611, ha.agrees (by kernel_rfl), hst.keep [0, 1, 2] rfl, hl608⟩)
   have hl608 := ite_f hl608 hc654
   refine CW.cond_f rfl hc654 (CW.seq (CW.region ?_))
   refine OW.pure 2 [(86, .bool (c617 == 104))] (by kernel_rfl) (OW.nil rfl (QW.next ?_))
   rcases Bool.eq_false_or_eq_true ((c617 == 104)) with hc662 | hc662
   ·have hl608 := ite_t hl608 hc662
    refine CW.cond_t rfl hc662 (CW.region ?_)
    refine OW.pure 2 [(89, .bool s609.1)] (by kernel_rfl) ?_
    refine OW.split 89 rfl (fun hc663 => ?_) (fun hc663 => ?_)
    ·have hl608 := ite_t hl608 hc663
     refine OW.pure 1 [(90, .pointer (some ⟨b3, 4, none⟩))] (by kernel_rfl) ?_
     refine OW.ld rfl rfl rfl rfl (by kernel_rfl) (hst.blk 0 rfl rfl) ?_
     obtain ⟨r664, hr665, hl608⟩ := bind_some' hl608
     refine OW.fn rfl rfl rfl rfl (by kernel_rfl) (ops_within_ok _ p0.Imm 0 6 r664 hr665 (hst.part [] rfl)) ?_
     rintro e w666 ⟨rfl, hst667⟩
     refine ⟨_, rfl, ?_⟩
     have hst := hst.join (idx := []) (rest := [0, 1, 2]) rfl hst667
     refine OW.pure 3 [(4, .bool r664), (94, .pointer (some ⟨b22, 4, none⟩))] (by kernel_rfl) ?_
     refine OW.stB hst 2 rfl rfl rfl rfl rfl (by kernel_rfl) rfl rfl [.int .i64 s609.2.Op, .int .i64 s609.2.D, .int .i64 s609.2.A, .int .i64 s609.2.B, .int .i64 0] rfl ?_
     intro w668 hst
     refine OW.nil rfl (QW.block_normal (QW.block_normal (QW.next (CW.region ?_))))
     refine OW.pure 2 [(30, .int .i64 (w64 ((i610 : Int) + 1)))] (by kernel_rfl) (OW.nil rfl ?_)
     refine QW.say 30 rfl (congrArg (Value.int .i64) (w64_cnt hc614 (room_sz hr613))) ?_
     exact QW.meet (fun a ha => ⟨n607, Nat.lt_succ_self _, i610 + 1, (r664, (api_Inst.mk s609.2.Op s609.2.D s609.2.A s609.2.B 0)), cnt_next hi611, ha.agrees (by kernel_rfl), hst.keep [0, 1, 2] rfl, hl608⟩)
    have hl608 := ite_f hl608 hc663
    refine OW.pure 6 [(4, .bool false), (94, .pointer (some ⟨b22, 4, none⟩))] (by kernel_rfl) ?_
    refine OW.stB hst 2 rfl rfl rfl rfl rfl (by kernel_rfl) rfl rfl [.int .i64 s609.2.Op, .int .i64 s609.2.D, .int .i64 s609.2.A, .int .i64 s609.2.B, .int .i64 0] rfl ?_
    intro w669 hst
    refine OW.nil rfl (QW.block_normal (QW.block_normal (QW.next (CW.region ?_))))
    refine OW.pure 2 [(30, .int .i64 (w64 ((i610 : Int) + 1)))] (by kernel_rfl) (OW.nil rfl ?_)
    refine QW.say 30 rfl (congrArg (Value.int .i64) (w64_cnt hc614 (room_sz hr613))) ?_
    exact QW.meet (fun a ha => ⟨n607, Nat.lt_succ_self _, i610 + 1, (false, (api_Inst.mk s609.2.Op s609.2.D s609.2.A s609.2.B 0)), cnt_next hi611, ha.agrees (by kernel_rfl), hst.keep [0, 1, 2] rfl, hl608⟩)
   have hl608 := ite_f hl608 hc662
   refine CW.cond_f rfl hc662 (CW.seq (CW.region ?_))
   refine OW.pure 2 [(95, .bool (c617 == 110))] (by kernel_rfl) (OW.nil rfl (QW.next ?_))
   rcases Bool.eq_false_or_eq_true ((c617 == 110)) with hc670 | hc670
   ·have hl608 := ite_t hl608 hc670
    refine CW.cond_t rfl hc670 (CW.region ?_)
    refine OW.pure 2 [(98, .bool s609.1)] (by kernel_rfl) ?_
    refine OW.split 98 rfl (fun hc671 => ?_) (fun hc671 => ?_)
    ·have hl608 := ite_t hl608 hc671
     refine OW.pure 1 [(99, .pointer (some ⟨b3, 4, none⟩))] (by kernel_rfl) ?_
     refine OW.ld rfl rfl rfl rfl (by kernel_rfl) (hst.blk 0 rfl rfl) ?_
     obtain ⟨r672, hr673, hl608⟩ := bind_some' hl608
     refine OW.fn rfl rfl rfl rfl (by kernel_rfl) (ops_within_ok _ p0.Imm 1 255 r672 hr673 (hst.part [] rfl)) ?_
     rintro e w674 ⟨rfl, hst675⟩
     refine ⟨_, rfl, ?_⟩
     have hst := hst.join (idx := []) (rest := [0, 1, 2]) rfl hst675
     refine OW.pure 3 [(4, .bool r672), (103, .pointer (some ⟨b22, 4, none⟩))] (by kernel_rfl) ?_
     refine OW.stB hst 2 rfl rfl rfl rfl rfl (by kernel_rfl) rfl rfl [.int .i64 s609.2.Op, .int .i64 s609.2.D, .int .i64 s609.2.A, .int .i64 s609.2.B, .int .i64 0] rfl ?_
     intro w676 hst
     refine OW.nil rfl (QW.block_normal (QW.block_normal (QW.next (CW.region ?_))))
     refine OW.pure 2 [(30, .int .i64 (w64 ((i610 : Int) + 1)))] (by kernel_rfl) (OW.nil rfl ?_)
     refine QW.say 30 rfl (congrArg (Value.int .i64) (w64_cnt hc614 (room_sz hr613))) ?_
     exact QW.meet (fun a ha => ⟨n607, Nat.lt_succ_self _, i610 + 1, (r672, (api_Inst.mk s609.2.Op s609.2.D s609.2.A s609.2.B 0)), cnt_next hi611, ha.agrees (by kernel_rfl), hst.keep [0, 1, 2] rfl, hl608⟩)
    have hl608 := ite_f hl608 hc671
    refine OW.pure 6 [(4, .bool false), (103, .pointer (some ⟨b22, 4, none⟩))] (by kernel_rfl) ?_
    refine OW.stB hst 2 rfl rfl rfl rfl rfl (by kernel_rfl) rfl rfl [.int .i64 s609.2.Op, .int .i64 s609.2.D, .int .i64 s609.2.A, .int .i64 s609.2.B, .int .i64 0] rfl ?_
    intro w677 hst
    refine OW.nil rfl (QW.block_normal (QW.block_normal (QW.next (CW.region ?_))))
    refine OW.pure 2 [(30, .int .i64 (w64 ((i610 : Int) + 1)))] (by kernel_rfl) (OW.nil rfl ?_)
    refine QW.say 30 rfl (congrArg (Value.int .i64) (w64_cnt hc614 (room_sz hr613))) ?_
    exact QW.meet (fun a ha => ⟨n607, Nat.lt_succ_self _, i610 + 1, (false, (api_Inst.mk s609.2.Op s609.2.D s609.2.A s609.2.B 0)), cnt_next hi611, ha.agrees (by kernel_rfl), hst.keep [0, 1, 2] rfl, hl608⟩)
   have hl608 := ite_f hl608 hc670
   refine CW.cond_f rfl hc670 (CW.seq (CW.region ?_))
   refine OW.pure 2 [(104, .bool (c617 == 106))] (by kernel_rfl) (OW.nil rfl (QW.next ?_))
   rcases Bool.eq_false_or_eq_true ((c617 == 106)) with hc678 | hc678
   ·have hl608 := ite_t hl608 hc678
    refine CW.cond_t rfl hc678 (CW.region ?_)
    refine OW.pure 2 [(107, .bool s609.1)] (by kernel_rfl) ?_
    refine OW.split 107 rfl (fun hc679 => ?_) (fun hc679 => ?_)
    ·have hl608 := ite_t hl608 hc679
     refine OW.pure 1 [(108, .pointer (some ⟨b3, 1, none⟩))] (by kernel_rfl) ?_
     refine OW.ld rfl rfl rfl rfl (by kernel_rfl) (hst.blk 0 rfl rfl) ?_
     obtain ⟨r680, hr681, hl608⟩ := bind_some' hl608
     refine OW.fn rfl rfl rfl rfl (by kernel_rfl) (ops_within_ok _ p0.D 0 63 r680 hr681 (hst.part [] rfl)) ?_
     rintro e w682 ⟨rfl, hst683⟩
     refine ⟨_, rfl, ?_⟩
     have hst := hst.join (idx := []) (rest := [0, 1, 2]) rfl hst683
     refine OW.pure 3 [(4, .bool r680), (112, .pointer (some ⟨b22, 1, none⟩))] (by kernel_rfl) ?_
     refine OW.stB hst 2 rfl rfl rfl rfl rfl (by kernel_rfl) rfl rfl [.int .i64 s609.2.Op, .int .i64 0, .int .i64 s609.2.A, .int .i64 s609.2.B, .int .i64 s609.2.Imm] rfl ?_
     intro w684 hst
     refine OW.nil rfl (QW.block_normal (QW.block_normal (QW.next (CW.region ?_))))
     refine OW.pure 2 [(30, .int .i64 (w64 ((i610 : Int) + 1)))] (by kernel_rfl) (OW.nil rfl ?_)
     refine QW.say 30 rfl (congrArg (Value.int .i64) (w64_cnt hc614 (room_sz hr613))) ?_
     exact QW.meet (fun a ha => ⟨n607, Nat.lt_succ_self _, i610 + 1, (r680, (api_Inst.mk s609.2.Op 0 s609.2.A s609.2.B s609.2.Imm)), cnt_next hi611, ha.agrees (by kernel_rfl), hst.keep [0, 1, 2] rfl, hl608⟩)
    have hl608 := ite_f hl608 hc679
    refine OW.pure 6 [(4, .bool false), (112, .pointer (some ⟨b22, 1, none⟩))] (by kernel_rfl) ?_
    refine OW.stB hst 2 rfl rfl rfl rfl rfl (by kernel_rfl) rfl rfl [.int .i64 s609.2.Op, .int .i64 0, .int .i64 s609.2.A, .int .i64 s609.2.B, .int .i64 s609.2.Imm] rfl ?_
    intro w685 hst
    refine OW.nil rfl (QW.block_normal (QW.block_normal (QW.next (CW.region ?_))))
    refine OW.pure 2 [(30, .int .i64 (w64 ((i610 : Int) + 1)))] (by kernel_rfl) (OW.nil rfl ?_)
    refine QW.say 30 rfl (congrArg (Value.int .i64) (w64_cnt hc614 (room_sz hr613))) ?_
    exact QW.meet (fun a ha => ⟨n607, Nat.lt_succ_self _, i610 + 1, (false, (api_Inst.mk s609.2.Op 0 s609.2.A s609.2.B s609.2.Imm)), cnt_next hi611, ha.agrees (by kernel_rfl), hst.keep [0, 1, 2] rfl, hl608⟩)
   have hl608 := ite_f hl608 hc678
   refine CW.cond_f rfl hc678 (CW.seq (CW.region ?_))
   refine OW.pure 2 [(113, .bool (c617 == 98))] (by kernel_rfl) (OW.nil rfl (QW.next ?_))
   rcases Bool.eq_false_or_eq_true ((c617 == 98)) with hc686 | hc686
   ·have hl608 := ite_t hl608 hc686
    refine CW.cond_t rfl hc686 (CW.region ?_)
    refine OW.pure 2 [(116, .bool s609.1)] (by kernel_rfl) ?_
    refine OW.split 116 rfl (fun hc687 => ?_) (fun hc687 => ?_)
    ·have hl608 := ite_t hl608 hc687
     refine OW.pure 1 [(117, .pointer (some ⟨b3, 1, none⟩))] (by kernel_rfl) ?_
     refine OW.ld rfl rfl rfl rfl (by kernel_rfl) (hst.blk 0 rfl rfl) ?_
     obtain ⟨r688, hr689, hl608⟩ := bind_some' hl608
     refine OW.fn rfl rfl rfl rfl (by kernel_rfl) (ops_within_ok _ p0.D 1 63 r688 hr689 (hst.part [] rfl)) ?_
     rintro e w690 ⟨rfl, hst691⟩
     refine ⟨_, rfl, ?_⟩
     have hst := hst.join (idx := []) (rest := [0, 1, 2]) rfl hst691
     refine OW.pure 3 [(4, .bool r688), (121, .pointer (some ⟨b22, 1, none⟩))] (by kernel_rfl) ?_
     refine OW.stB hst 2 rfl rfl rfl rfl rfl (by kernel_rfl) rfl rfl [.int .i64 s609.2.Op, .int .i64 0, .int .i64 s609.2.A, .int .i64 s609.2.B, .int .i64 s609.2.Imm] rfl ?_
     intro w692 hst
     refine OW.nil rfl (QW.block_normal (QW.block_normal (QW.next (CW.region ?_))))
     refine OW.pure 2 [(30, .int .i64 (w64 ((i610 : Int) + 1)))] (by kernel_rfl) (OW.nil rfl ?_)
     refine QW.say 30 rfl (congrArg (Value.int .i64) (w64_cnt hc614 (room_sz hr613))) ?_
     exact QW.meet (fun a ha => ⟨n607, Nat.lt_succ_self _, i610 + 1, (r688, (api_Inst.mk s609.2.Op 0 s609.2.A s609.2.B s609.2.Imm)), cnt_next hi611, ha.agrees (by kernel_rfl), hst.keep [0, 1, 2] rfl, hl608⟩)
    have hl608 := ite_f hl608 hc687
    refine OW.pure 6 [(4, .bool false), (121, .pointer (some ⟨b22, 1, none⟩))] (by kernel_rfl) ?_
    refine OW.stB hst 2 rfl rfl rfl rfl rfl (by kernel_rfl) rfl rfl [.int .i64 s609.2.Op, .int .i64 0, .int .i64 s609.2.A, .int .i64 s609.2.B, .int .i64 s609.2.Imm] rfl ?_
    intro w693 hst
    refine OW.nil rfl (QW.block_normal (QW.block_normal (QW.next (CW.region ?_))))
    refine OW.pure 2 [(30, .int .i64 (w64 ((i610 : Int) + 1)))] (by kernel_rfl) (OW.nil rfl ?_)
    refine QW.say 30 rfl (congrArg (Value.int .i64) (w64_cnt hc614 (room_sz hr613))) ?_
    exact QW.meet (fun a ha => ⟨n607, Nat.lt_succ_self _, i610 + 1, (false, (api_Inst.mk s609.2.Op 0 s609.2.A s609.2.B s609.2.Imm)), cnt_next hi611, ha.agrees (by kernel_rfl), hst.keep [0, 1, 2] rfl, hl608⟩)
   have hl608 := ite_f hl608 hc686
   refine CW.cond_f rfl hc686 (CW.skip (QW.block_normal (QW.block_normal (QW.next (CW.region ?_)))))
   refine OW.pure 2 [(30, .int .i64 (w64 ((i610 : Int) + 1)))] (by kernel_rfl) (OW.nil rfl ?_)
   refine QW.say 30 rfl (congrArg (Value.int .i64) (w64_cnt hc614 (room_sz hr613))) ?_
   exact QW.meet (fun a ha => ⟨n607, Nat.lt_succ_self _, i610 + 1, (s609.1, s609.2), cnt_next hi611, ha.agrees (by kernel_rfl), hst.keep [0, 1, 2] rfl, hl608⟩)
  rcases n607 with _ | n607
  ·refine CW.cond_f rfl hc614 ?_
   refine CW.exit (QW.then_exit (QW.then_exit ?_))
   refine QW.block_here ?_
   obtain rfl := Option.some.inj hl608
   exact QW.meet (fun a ha => ⟨ha.agrees (by kernel_rfl), hst.keep [2] rfl⟩)
  exact (cnt1 hi611 hc614).elim
 rintro a w1 ⟨ha, hst⟩
 refine CW.go ?_ ha
 refine CW.seq ?_
 obtain ⟨o695, ho696, hF⟩ := bind_some' hF
 refine CW.cutK (fun a w1 => Rep 129 [(2, .bool o695)] a ∧ St w (fp []) w1 []) ?_ ?_
 ·refine CW.region ?_
  refine OW.pure 2 [(124, .bool o364.1)] (by kernel_rfl) ?_
  refine OW.split 124 rfl (fun hc697 => ?_) (fun hc697 => ?_)
  ·have ho696 := ite_t ho696 hc697
   refine OW.ldN (cs := [.int .i64 o364.2.Op, .int .i64 o364.2.D, .int .i64 o364.2.A, .int .i64 o364.2.B, .int .i64 o364.2.Imm]) rfl rfl rfl rfl (by kernel_rfl) (by kernel_rfl) (hst.blkN 0 rfl 0 5) ?_
   refine OW.pure 1 [(126, .agg [.int .i64 0, .int .i64 0, .int .i64 0, .int .i64 0, .int .i64 0].toArray)] (by kernel_rfl) ?_
   refine OW.op (v := .bool ((o364.2.Op == 0) && ((o364.2.D == 0) && ((o364.2.A == 0) && ((o364.2.B == 0) && ((o364.2.Imm == 0) && true)))))) rfl rfl rfl rfl (fun a ha => seq_run rfl rfl rfl (by kernel_rfl) (by kernel_rfl) a _ ha) ?_
   refine OW.pure 2 [(2, .bool ((o364.2.Op == 0) && ((o364.2.D == 0) && ((o364.2.A == 0) && ((o364.2.B == 0) && ((o364.2.Imm == 0) && true))))))] (by kernel_rfl) (OW.nil rfl ?_)
   obtain rfl := Option.some.inj ho696
   exact QW.meet (fun a ha => ⟨ha.agrees (by kernel_rfl), hst.keep [] rfl⟩)
  have ho696 := ite_f ho696 hc697
  refine OW.pure 5 [(2, .bool false)] (by kernel_rfl) (OW.nil rfl ?_)
  obtain rfl := Option.some.inj ho696
  exact QW.meet (fun a ha => ⟨ha.agrees (by kernel_rfl), hst.keep [] rfl⟩)
 rintro a w1 ⟨ha, hst⟩
 refine CW.go ?_ ha
 refine CW.ret ?_
 obtain rfl := Option.some.inj hF
 refine QW.ret1 rfl rfl ?_
 exact ⟨rfl, hst.keep [] rfl⟩
theorem ops_form_uses_ok (w : World) (p0 : ops_form) (p1 : Int) (r : Bool) (hF : ops_form_uses p0 p1 = some r)
    (hst : St w (fp []) w []) :
    Calls Tryz.prog 84 [.agg [.string p0.name, .string p0.fields].toArray, .int .u8 p1].toArray w (fun e w' => e = .returned (.bool r) ∧ St w (fp []) w' []) := by
 refine CW.start (N := 19) Tryz.func84 rfl rfl rfl (CW.seq (CW.region ?_))
 refine OW.box hst rfl rfl rfl rfl [.string p0.name, .string p0.fields] rfl ?_
 intro b3 w4 hst
 refine OW.pure 1 [] (by kernel_rfl) (OW.nil rfl (QW.next (CW.seq (CW.seq (CW.region ?_)))))
 refine OW.pure 1 [(6, .pointer (some ⟨b3, 1, none⟩))] (by kernel_rfl) ?_
 refine OW.ld rfl rfl rfl rfl (by kernel_rfl) (hst.blk 0 rfl rfl) ?_
 refine OW.pure 2 [(8, .int .i64 (p0.fields.size : Int)), (9, .int .i64 0)] (by kernel_rfl) (OW.nil rfl (QW.next ?_))
 obtain ⟨o31, ho32, hF⟩ := bind_some' hF
 refine CW.cutK (fun a w1 => ∃ (t33 : Unit), o31 = .inl t33 ∧ Rep 19 [] a ∧ St w (fp []) w1 []) ?_ ?_
 ·refine CW.block ?_
  obtain ⟨u52, hr53, ho32⟩ := bind_some' ho32
  refine CW.loop (fun n a w1 => ∃ (i50 : Nat) (s49 : Unit), i50 + n = p0.fields.size ∧ Rep 19 [(1, .int .u8 p1), (2, .pointer (some ⟨b3, 0, none⟩)), (8, .int .i64 (p0.fields.size : Int)), (9, .int .i64 (i50 : Int))] a ∧ St w (fp []) w1 [blkI b3 167 [.string p0.name, .string p0.fields]] ∧ forN (ops_form_uses_l1 p0 p1) (fun (s49 : Unit) => (.inl ())) n i50 s49 = some o31) p0.fields.size (fun a ha => ⟨0, (), Nat.zero_add _, ha.agrees (by kernel_rfl), hst.keep [0] rfl, ho32⟩) ?_
  rintro n47 a w1 ⟨i50, s49, hi51, ha, hst, hl48⟩
  refine CW.go ?_ ha
  refine CW.seq (CW.region ?_)
  refine OW.pure 1 [(10, .bool (decide ((i50 : Int) < (p0.fields.size : Int))))] (by kernel_rfl) (OW.nil rfl (QW.next (CW.seq ?_)))
  rcases Bool.eq_false_or_eq_true (decide ((i50 : Int) < (p0.fields.size : Int))) with hc54 | hc54
  ·rcases n47 with _ | n47
   ·exact (cnt0 hi51 hc54).elim
   refine CW.cond_t rfl hc54 (CW.skip (QW.next (CW.seq (CW.block (CW.seq (CW.region ?_))))))
   refine OW.pure 2 [(5, .int .i64 (i50 : Int))] (by kernel_rfl) (OW.nil rfl (QW.next (CW.seq (CW.region ?_))))
   refine OW.pure 1 [(12, .pointer (some ⟨b3, 1, none⟩))] (by kernel_rfl) ?_
   refine OW.ld rfl rfl rfl rfl (by kernel_rfl) (hst.blk 0 rfl rfl) ?_
   refine OW.pure 1 [(14, .int .i64 (i50 : Int))] (by kernel_rfl) ?_
   obtain ⟨c57, hx58, hl48⟩ := bind_some' hl48
   refine OW.op (v := .int .u8 c57) rfl rfl rfl rfl (fun a ha => sidx_run rfl rfl rfl (by kernel_rfl) hx58 a _ ha) ?_
   refine OW.pure 2 [(17, .bool (c57 == p1))] (by kernel_rfl) (OW.nil rfl (QW.next ?_))
   rcases Bool.eq_false_or_eq_true ((c57 == p1)) with hc59 | hc59
   ·have hl48 := ite_t hl48 hc59
    refine CW.cond_t rfl hc59 (CW.seq (CW.region ?_))
    refine OW.pure 1 [(4, .bool true)] (by kernel_rfl) (OW.nil rfl (QW.next (CW.ret (QW.block_ret (QW.then_ret (QW.then_ret (QW.block_ret (QW.then_ret ?_))))))))
    obtain rfl := Option.some.inj hl48
    obtain rfl := Option.some.inj hF
    refine QW.ret1 rfl rfl ?_
    exact ⟨rfl, hst.keep [] rfl⟩
   have hl48 := ite_f hl48 hc59
   refine CW.cond_f rfl hc59 (CW.skip (QW.block_normal (QW.next (CW.region ?_))))
   refine OW.pure 2 [(9, .int .i64 (w64 ((i50 : Int) + 1)))] (by kernel_rfl) (OW.nil rfl ?_)
   refine QW.say 9 rfl (congrArg (Value.int .i64) (w64_cnt hc54 (room_sz hr53))) ?_
   exact QW.meet (fun a ha => ⟨n47, Nat.lt_succ_self _, i50 + 1, (), cnt_next hi51, ha.agrees (by kernel_rfl), hst.keep [0] rfl, hl48⟩)
  rcases n47 with _ | n47
  ·refine CW.cond_f rfl hc54 ?_
   refine CW.exit (QW.then_exit (QW.then_exit ?_))
   refine QW.block_here ?_
   obtain rfl := Option.some.inj hl48
   exact QW.meet (fun a ha => ⟨(), rfl, ha.agrees (by kernel_rfl), hst.keep [] rfl⟩)
  exact (cnt1 hi51 hc54).elim
 rintro a w1 ⟨t33, rfl, ha, hst⟩
 refine CW.go ?_ ha
 refine CW.seq (CW.region ?_)
 refine OW.pure 1 [(4, .bool false)] (by kernel_rfl) (OW.nil rfl (QW.next (CW.ret ?_)))
 obtain rfl := Option.some.inj hF
 refine QW.ret1 rfl rfl ?_
 exact ⟨rfl, hst.keep [] rfl⟩
theorem ops_Goes_ok (w : World) (p0 : api_Inst) (r : Int × Bool × Bool) (hF : ops_Goes p0 = some r)
    (hst : St w (fp []) w []) (hT0 : Rd w (fp []) (.slice (some ⟨0, 0, none⟩) 23 23) enc_ops_form 2 tab_g0) :
    Calls Tryz.prog 50 [.agg [.int .i64 p0.Op, .int .i64 p0.D, .int .i64 p0.A, .int .i64 p0.B, .int .i64 p0.Imm].toArray].toArray w (fun e w' => e = .returned (.tuple #[.int .i64 r.1, .bool r.2.1, .bool r.2.2]) ∧ St w (fp []) w' []) := by
 refine CW.start (N := 34) Tryz.func50 rfl rfl rfl (CW.seq (CW.region ?_))
 refine OW.box hst rfl rfl rfl rfl [.int .i64 p0.Op, .int .i64 p0.D, .int .i64 p0.A, .int .i64 p0.B, .int .i64 p0.Imm] rfl ?_
 intro b3 w4 hst
 refine OW.pure 3 [] (by kernel_rfl) (OW.nil rfl (QW.next (CW.seq (CW.seq (CW.region ?_)))))
 refine OW.ldN (cs := [.int .i64 p0.Op, .int .i64 p0.D, .int .i64 p0.A, .int .i64 p0.B, .int .i64 p0.Imm]) rfl rfl rfl rfl (by kernel_rfl) (by kernel_rfl) (hst.blkN 0 rfl 0 5) ?_
 obtain ⟨r9, hr10, hF⟩ := bind_some' hF
 refine OW.fn rfl rfl rfl rfl (by kernel_rfl) (ops_right_ok _ p0 r9 hr10 (hst.part [] rfl) (hT0.give hst [])) ?_
 rintro e w11 ⟨rfl, hst12⟩
 refine ⟨_, rfl, ?_⟩
 have hst := hst.join (idx := []) (rest := [0]) rfl hst12
 refine OW.pure 1 [(9, .bool (!r9))] (by kernel_rfl) (OW.nil rfl (QW.next ?_))
 rcases Bool.eq_false_or_eq_true ((!r9)) with hc13 | hc13
 ·have hF := ite_t hF hc13
  refine CW.cond_t rfl hc13 (CW.seq (CW.region ?_))
  refine OW.pure 3 [(2, .int .i64 0), (3, .bool false), (4, .bool false)] (by kernel_rfl) (OW.nil rfl (QW.next (CW.ret (QW.then_ret ?_))))
  obtain rfl := Option.some.inj hF
  refine QW.ret3 rfl rfl rfl rfl ?_
  exact ⟨rfl, hst.keep [] rfl⟩
 have hF := ite_f hF hc13
 refine CW.cond_f rfl hc13 (CW.skip (QW.next (CW.seq (CW.region ?_))))
 refine OW.pure 1 [(11, .pointer (some ⟨b3, 0, none⟩))] (by kernel_rfl) ?_
 refine OW.ld rfl rfl rfl rfl (by kernel_rfl) (hst.blk 0 rfl rfl) ?_
 obtain ⟨r21, hr22, hF⟩ := bind_some' hF
 refine OW.fn rfl rfl rfl rfl (by kernel_rfl) (ops_of_ok _ p0.Op r21 hr22 (hst.part [] rfl) (hT0.give hst [])) ?_
 rintro e w23 ⟨rfl, hst24⟩
 refine ⟨_, rfl, ?_⟩
 have hst := hst.join (idx := []) (rest := [0]) rfl hst24
 refine OW.pure 3 [(14, .agg [.string r21.1.name, .string r21.1.fields].toArray), (15, .bool r21.2)] (by kernel_rfl) ?_
 refine OW.alloc hst rfl rfl rfl [.string ByteArray.empty, .string ByteArray.empty] (by kernel_rfl) ?_
 intro b25 w26 hst
 refine OW.stB hst 1 rfl rfl rfl rfl rfl (by kernel_rfl) rfl rfl [.string r21.1.name, .string r21.1.fields] rfl ?_
 intro w27 hst
 refine OW.pure 1 [] (by kernel_rfl) (OW.nil rfl (QW.next (CW.seq (CW.block (CW.seq (CW.region ?_))))))
 refine OW.ldN (cs := [.string r21.1.name, .string r21.1.fields]) rfl rfl rfl rfl (by kernel_rfl) (by kernel_rfl) (hst.blkN 1 rfl 0 2) ?_
 obtain ⟨r32, hr33, hF⟩ := bind_some' hF
 refine OW.fn rfl rfl rfl rfl (by kernel_rfl) (ops_form_uses_ok _ r21.1 106 r32 hr33 (hst.part [] rfl)) ?_
 rintro e w34 ⟨rfl, hst35⟩
 refine ⟨_, rfl, ?_⟩
 have hst := hst.join (idx := []) (rest := [0, 1]) rfl hst35
 refine OW.pure 1 [(16, .bool r32)] (by kernel_rfl) (OW.nil rfl (QW.next ?_))
 rcases Bool.eq_false_or_eq_true (r32) with hc36 | hc36
 ·have hF := ite_t hF hc36
  refine CW.cond_t rfl hc36 (CW.seq ?_)
  refine CW.still (by kernel_rfl) (by kernel_rfl) ?_
  intro w39 hch40
  have hst := hst.same hch40
  refine OS.pure 1 [(19, .pointer (some ⟨b3, 1, none⟩))] rfl (by kernel_rfl) ?_
  refine OS.ld rfl rfl rfl rfl rfl (by kernel_rfl) (hst.blk 0 rfl rfl) ?_
  refine OS.pure 2 [(21, .int .i64 (w64 (p0.D + 1))), (22, .pointer (some ⟨b3, 0, none⟩))] rfl (by kernel_rfl) ?_
  refine OS.ld rfl rfl rfl rfl rfl (by kernel_rfl) (hst.blk 0 rfl rfl) ?_
  refine OS.pure 4 [(2, .int .i64 (w64 (p0.D + 1))), (3, .bool true), (4, .bool (p0.Op != 15))] rfl (by kernel_rfl) ?_
  refine OS.fin rfl (QW.next (CW.ret (QW.block_ret (QW.then_ret ?_))))
  obtain rfl := Option.some.inj hF
  refine QW.ret3 rfl rfl rfl rfl ?_
  exact ⟨rfl, hst.keep [] rfl⟩
 have hF := ite_f hF hc36
 refine CW.cond_f rfl hc36 (CW.seq (CW.region ?_))
 refine OW.ldN (cs := [.string r21.1.name, .string r21.1.fields]) rfl rfl rfl rfl (by kernel_rfl) (by kernel_rfl) (hst.blkN 1 rfl 0 2) ?_
 obtain ⟨r45, hr46, hF⟩ := bind_some' hF
 refine OW.fn rfl rfl rfl rfl (by kernel_rfl) (ops_form_uses_ok _ r21.1 98 r45 hr46 (hst.part [] rfl)) ?_
 rintro e w47 ⟨rfl, hst48⟩
 refine ⟨_, rfl, ?_⟩
 have hst := hst.join (idx := []) (rest := [0, 1]) rfl hst48
 refine OW.pure 1 [(25, .bool r45)] (by kernel_rfl) (OW.nil rfl (QW.next ?_))
 rcases Bool.eq_false_or_eq_true (r45) with hc49 | hc49
 ·have hF := ite_t hF hc49
  refine CW.cond_t rfl hc49 (CW.seq (CW.region ?_))
  refine OW.pure 1 [(28, .pointer (some ⟨b3, 1, none⟩))] (by kernel_rfl) ?_
  refine OW.ld rfl rfl rfl rfl (by kernel_rfl) (hst.blk 0 rfl rfl) ?_
  refine OW.pure 4 [(2, .int .i64 (w64 (0 - p0.D))), (3, .bool true), (4, .bool true)] (by kernel_rfl) (OW.nil rfl (QW.next (CW.ret (QW.block_ret (QW.then_ret ?_)))))
  obtain rfl := Option.some.inj hF
  refine QW.ret3 rfl rfl rfl rfl ?_
  exact ⟨rfl, hst.keep [] rfl⟩
 have hF := ite_f hF hc49
 refine CW.cond_f rfl hc49 (CW.skip (QW.block_normal (QW.next (CW.seq ?_))))
 refine CW.still (by kernel_rfl) (by kernel_rfl) ?_
 intro w52 hch53
 have hst := hst.same hch53
 refine OS.pure 1 [(31, .pointer (some ⟨b3, 0, none⟩))] rfl (by kernel_rfl) ?_
 refine OS.ld rfl rfl rfl rfl rfl (by kernel_rfl) (hst.blk 0 rfl rfl) ?_
 refine OS.pure 4 [(2, .int .i64 0), (3, .bool false), (4, .bool (p0.Op != 22))] rfl (by kernel_rfl) ?_
 refine OS.fin rfl (QW.next (CW.ret ?_))
 obtain rfl := Option.some.inj hF
 refine QW.ret3 rfl rfl rfl rfl ?_
 exact ⟨rfl, hst.keep [] rfl⟩
theorem ops_Right_ok (w : World) (v0 : Value) (p0 : List api_Inst) (r : Bool) (hF : ops_Right p0 = some r)
    (hst : St w (fp []) w []) (h0 : Rd w (fp []) v0 enc_api_Inst 5 p0) (hT0 : Rd w (fp []) (.slice (some ⟨0, 0, none⟩) 23 23) enc_ops_form 2 tab_g0) :
    Calls Tryz.prog 124 [v0].toArray w (fun e w' => e = .returned (.bool r) ∧ St w (fp []) w' []) := by
 refine CW.start (N := 15) Tryz.func124 rfl rfl rfl ?_
 obtain ⟨l1, a2, c3, rfl⟩ := h0.len
 refine CW.seq (CW.region ?_)
 refine OW.pure 1 [] (by kernel_rfl) (OW.nil rfl (QW.next (CW.seq (CW.seq (CW.region ?_)))))
 refine OW.pure 3 [(5, .slice a2 (p0).length c3), (6, .int .i64 ((p0).length : Int)), (7, .int .i64 0)] (by kernel_rfl) (OW.nil rfl (QW.next ?_))
 obtain ⟨o94, ho95, hF⟩ := bind_some' hF
 refine CW.cutK (fun a w1 => ∃ (t96 : Unit), o94 = .inl t96 ∧ Rep 15 [] a ∧ St w (fp []) w1 []) ?_ ?_
 ·refine CW.block ?_
  refine CW.loop (fun n a w1 => ∃ (i157 : Nat) (s156 : Unit), i157 + n = (p0).length ∧ Rep 15 [(5, .slice a2 (p0).length c3), (6, .int .i64 ((p0).length : Int)), (7, .int .i64 (i157 : Int))] a ∧ St w (fp []) w1 [] ∧ forN (ops_Right_l1 p0) (fun (s156 : Unit) => (.inl ())) n i157 s156 = some o94) (p0).length (fun a ha => ⟨0, (), Nat.zero_add _, ha.agrees (by kernel_rfl), hst.keep [] rfl, ho95⟩) ?_
  rintro n154 a w1 ⟨i157, s156, hi158, ha, hst, hl155⟩
  refine CW.go ?_ ha
  refine CW.seq (CW.region ?_)
  refine OW.pure 1 [(8, .bool (decide ((i157 : Int) < ((p0).length : Int))))] (by kernel_rfl) (OW.nil rfl (QW.next (CW.seq ?_)))
  rcases Bool.eq_false_or_eq_true (decide ((i157 : Int) < ((p0).length : Int))) with hc159 | hc159
  ·rcases n154 with _ | n154
   ·exact (cnt0 hi158 hc159).elim
   refine CW.cond_t rfl hc159 (CW.skip (QW.next (CW.seq (CW.block (CW.seq (CW.region ?_))))))
   obtain ⟨x169, hx170, hl155⟩ := bind_some' hl155
   obtain ⟨g172, o173, c174, hv171⟩ := h0.formv (fun _ => ⟨_, rfl⟩) hx170
   refine OW.idx 43 5 rfl rfl rfl rfl hv171 rfl (idx_some hx170).1 (idx_some hx170).2.1 (by kernel_rfl) (by kernel_rfl) ?_
   refine OW.ldN (cs := enc_api_Inst x169) rfl rfl rfl rfl (by kernel_rfl) (by kernel_rfl) (h0.cellv hst hx170 hv171) ?_
   refine OW.alloc hst rfl rfl rfl [.int .i64 0, .int .i64 0, .int .i64 0, .int .i64 0, .int .i64 0] (by kernel_rfl) ?_
   intro b175 w176 hst
   refine OW.stB hst 0 rfl rfl rfl rfl rfl (by kernel_rfl) rfl rfl [.int .i64 x169.Op, .int .i64 x169.D, .int .i64 x169.A, .int .i64 x169.B, .int .i64 x169.Imm] rfl ?_
   intro w177 hst
   refine OW.nil rfl (QW.next (CW.seq (CW.region ?_)))
   refine OW.ldN (cs := [.int .i64 x169.Op, .int .i64 x169.D, .int .i64 x169.A, .int .i64 x169.B, .int .i64 x169.Imm]) rfl rfl rfl rfl (by kernel_rfl) (by kernel_rfl) (hst.blkN 0 rfl 0 5) ?_
   obtain ⟨r182, hr183, hl155⟩ := bind_some' hl155
   refine OW.fn rfl rfl rfl rfl (by kernel_rfl) (ops_right_ok _ x169 r182 hr183 (hst.part [] rfl) (hT0.give hst [])) ?_
   rintro e w184 ⟨rfl, hst185⟩
   refine ⟨_, rfl, ?_⟩
   have hst := hst.join (idx := []) (rest := [0]) rfl hst185
   refine OW.pure 1 [(13, .bool (!r182))] (by kernel_rfl) (OW.nil rfl (QW.next ?_))
   rcases Bool.eq_false_or_eq_true ((!r182)) with hc186 | hc186
   ·have hl155 := ite_t hl155 hc186
    refine CW.cond_t rfl hc186 (CW.seq (CW.region ?_))
    refine OW.pure 1 [(2, .bool false)] (by kernel_rfl) (OW.nil rfl (QW.next (CW.ret (QW.block_ret (QW.then_ret (QW.then_ret (QW.block_ret (QW.then_ret ?_))))))))
    obtain rfl := Option.some.inj hl155
    obtain rfl := Option.some.inj hF
    refine QW.ret1 rfl rfl ?_
    exact ⟨rfl, hst.keep [] rfl⟩
   have hl155 := ite_f hl155 hc186
   refine CW.cond_f rfl hc186 (CW.skip (QW.block_normal (QW.next (CW.region ?_))))
   refine OW.pure 2 [(7, .int .i64 (w64 ((i157 : Int) + 1)))] (by kernel_rfl) (OW.nil rfl ?_)
   refine QW.say 7 rfl (congrArg (Value.int .i64) (w64_cnt hc159 l1)) ?_
   exact QW.meet (fun a ha => ⟨n154, Nat.lt_succ_self _, i157 + 1, (), cnt_next hi158, ha.agrees (by kernel_rfl), hst.keep [] rfl, hl155⟩)
  rcases n154 with _ | n154
  ·refine CW.cond_f rfl hc159 ?_
   refine CW.exit (QW.then_exit (QW.then_exit ?_))
   refine QW.block_here ?_
   obtain rfl := Option.some.inj hl155
   exact QW.meet (fun a ha => ⟨(), rfl, ha.agrees (by kernel_rfl), hst.keep [] rfl⟩)
  exact (cnt1 hi158 hc159).elim
 rintro a w1 ⟨t96, rfl, ha, hst⟩
 refine CW.go ?_ ha
 refine CW.seq (CW.region ?_)
 refine OW.pure 1 [(2, .bool true)] (by kernel_rfl) (OW.nil rfl (QW.next (CW.ret ?_)))
 obtain rfl := Option.some.inj hF
 refine QW.ret1 rfl rfl ?_
 exact ⟨rfl, hst.keep [] rfl⟩
theorem flow_places_ok (w : World) (v0 : Value) (p0 : List api_Inst) (r : Int × Int) (hF : flow_places p0 = some r)
    (hst : St w (fp []) w []) (h0 : Rd w (fp []) v0 enc_api_Inst 5 p0) (hT0 : Rd w (fp []) (.slice (some ⟨0, 0, none⟩) 23 23) enc_ops_form 2 tab_g0) :
    Calls Tryz.prog 78 [v0].toArray w (fun e w' => e = .returned (.tuple #[.int .i64 r.1, .int .i64 r.2]) ∧ St w (fp []) w' []) := by
 refine CW.start (N := 56) Tryz.func78 rfl rfl rfl ?_
 obtain ⟨l1, a2, c3, rfl⟩ := h0.len
 refine CW.seq (CW.region ?_)
 refine OW.pure 2 [] (by kernel_rfl) (OW.nil rfl (QW.next (CW.seq (CW.seq (CW.region ?_)))))
 refine OW.pure 3 [(9, .slice a2 (p0).length c3), (10, .int .i64 ((p0).length : Int)), (11, .int .i64 0)] (by kernel_rfl) (OW.nil rfl (QW.next ?_))
 obtain ⟨o145, ho146, hF⟩ := bind_some' hF
 refine CW.cutK (fun a w1 => ∃ (t147 : Unit), o145 = .inl t147 ∧ Rep 56 [] a ∧ St w (fp []) w1 []) ?_ ?_
 ·refine CW.block ?_
  refine CW.loop (fun n a w1 => ∃ (i242 : Nat) (s241 : Unit), i242 + n = (p0).length ∧ Rep 56 [(0, .slice a2 (p0).length c3), (9, .slice a2 (p0).length c3), (10, .int .i64 ((p0).length : Int)), (11, .int .i64 (i242 : Int))] a ∧ St w (fp []) w1 [] ∧ forN (flow_places_l1 p0) (fun (s241 : Unit) => (.inl ())) n i242 s241 = some o145) (p0).length (fun a ha => ⟨0, (), Nat.zero_add _, ha.agrees (by kernel_rfl), hst.keep [] rfl, ho146⟩) ?_
  rintro n239 a w1 ⟨i242, s241, hi243, ha, hst, hl240⟩
  refine CW.go ?_ ha
  refine CW.seq (CW.region ?_)
  refine OW.pure 1 [(12, .bool (decide ((i242 : Int) < ((p0).length : Int))))] (by kernel_rfl) (OW.nil rfl (QW.next (CW.seq ?_)))
  rcases Bool.eq_false_or_eq_true (decide ((i242 : Int) < ((p0).length : Int))) with hc244 | hc244
  ·rcases n239 with _ | n239
   ·exact (cnt0 hi243 hc244).elim
   refine CW.cond_t rfl hc244 (CW.skip (QW.next (CW.seq (CW.block (CW.seq (CW.region ?_))))))
   refine OW.pure 1 [(13, .int .i64 (i242 : Int))] (by kernel_rfl) ?_
   obtain ⟨x254, hx255, hl240⟩ := bind_some' hl240
   obtain ⟨g257, o258, c259, hv256⟩ := h0.formv (fun _ => ⟨_, rfl⟩) hx255
   refine OW.idx 43 5 rfl rfl rfl rfl hv256 rfl (idx_some hx255).1 (idx_some hx255).2.1 (by kernel_rfl) (by kernel_rfl) ?_
   refine OW.ldN (cs := enc_api_Inst x254) rfl rfl rfl rfl (by kernel_rfl) (by kernel_rfl) (h0.cellv hst hx255 hv256) ?_
   refine OW.alloc hst rfl rfl rfl [.int .i64 0, .int .i64 0, .int .i64 0, .int .i64 0, .int .i64 0] (by kernel_rfl) ?_
   intro b260 w261 hst
   refine OW.pure 1 [(4, .int .i64 (i242 : Int))] (by kernel_rfl) ?_
   refine OW.stB hst 0 rfl rfl rfl rfl rfl (by kernel_rfl) rfl rfl [.int .i64 x254.Op, .int .i64 x254.D, .int .i64 x254.A, .int .i64 x254.B, .int .i64 x254.Imm] rfl ?_
   intro w262 hst
   refine OW.nil rfl (QW.next (CW.seq (CW.region ?_)))
   refine OW.ldN (cs := [.int .i64 x254.Op, .int .i64 x254.D, .int .i64 x254.A, .int .i64 x254.B, .int .i64 x254.Imm]) rfl rfl rfl rfl (by kernel_rfl) (by kernel_rfl) (hst.blkN 0 rfl 0 5) ?_
   obtain ⟨r267, hr268, hl240⟩ := bind_some' hl240
   refine OW.fn rfl rfl rfl rfl (by kernel_rfl) (ops_Goes_ok _ x254 r267 hr268 (hst.part [] rfl) (hT0.give hst [])) ?_
   rintro e w269 ⟨rfl, hst270⟩
   refine ⟨_, rfl, ?_⟩
   have hst := hst.join (idx := []) (rest := [0]) rfl hst270
   refine OW.pure 7 [(6, .int .i64 r267.1), (7, .bool r267.2.1), (8, .bool r267.2.2)] (by kernel_rfl) (OW.nil rfl (QW.next (CW.block (CW.seq (CW.region ?_)))))
   refine OW.ldN (cs := [.int .i64 x254.Op, .int .i64 x254.D, .int .i64 x254.A, .int .i64 x254.B, .int .i64 x254.Imm]) rfl rfl rfl rfl (by kernel_rfl) (by kernel_rfl) (hst.blkN 0 rfl 0 5) ?_
   refine OW.row (α := api_Inst) (e := 43) (enc := enc_api_Inst) (sz := 5) hst rfl rfl rfl [x254] rfl (fun _ => rfl) rfl rfl (fun _ => by kernel_rfl) ?_
   intro g277 w278 hst
   obtain ⟨r279, hr280, hl240⟩ := bind_some' hl240
   refine OW.fn rfl rfl rfl rfl (by kernel_rfl) (ops_Right_ok _ (.slice (some ⟨g277, 0, none⟩) 1 1) ([x254]) r279 hr280 (hst.part [] rfl) (hst.rd 1 rfl (fun _ => rfl) [] rfl (hst.len 1 rfl).1) (hT0.give hst [])) ?_
   rintro e w281 ⟨rfl, hst282⟩
   refine ⟨_, rfl, ?_⟩
   have hst := hst.join (idx := []) (rest := [0, 1]) rfl hst282
   refine OW.pure 2 [(22, .bool (!r279))] (by kernel_rfl) (OW.nil rfl (QW.next ?_))
   rcases Bool.eq_false_or_eq_true ((!r279)) with hc283 | hc283
   ·have hl240 := ite_t hl240 hc283
    refine CW.cond_t rfl hc283 (CW.seq (CW.region ?_))
    refine OW.pure 3 [(2, .int .i64 (i242 : Int)), (3, .int .i64 12)] (by kernel_rfl) (OW.nil rfl (QW.next (CW.ret (QW.block_ret (QW.block_ret (QW.then_ret (QW.then_ret (QW.block_ret (QW.then_ret ?_)))))))))
    obtain rfl := Option.some.inj hl240
    obtain rfl := Option.some.inj hF
    refine QW.ret2 rfl rfl rfl ?_
    exact ⟨rfl, hst.keep [] rfl⟩
   have hl240 := ite_f hl240 hc283
   refine CW.cond_f rfl hc283 (CW.seq ?_)
   refine CW.cutK (fun a w1 => Rep 56 [(0, .slice a2 (p0).length c3), (4, .int .i64 (i242 : Int)), (8, .bool r267.2.2), (9, .slice a2 (p0).length c3), (10, .int .i64 ((p0).length : Int)), (11, .int .i64 (i242 : Int)), (28, .bool (r267.2.1 && (decide ((w64 ((i242 : Int) + r267.1)) < 0) || decide ((w64 ((i242 : Int) + r267.1)) ≥ ((p0).length : Int)))))] a ∧ St w (fp []) w1 []) ?_ ?_
   ·refine CW.region ?_
    refine OW.pure 2 [(30, .bool r267.2.1)] (by kernel_rfl) ?_
    refine OW.split 30 rfl (fun hc284 => ?_) (fun hc284 => ?_)
    ·refine OW.pure 5 [(35, .bool (decide ((w64 ((i242 : Int) + r267.1)) < 0)))] (by kernel_rfl) ?_
     refine OW.split 35 rfl (fun hc285 => ?_) (fun hc285 => ?_)
     ·refine OW.pure 9 [(28, .bool true)] (by kernel_rfl) (OW.nil rfl ?_)
      refine QW.say 28 (v := .bool (r267.2.1 && (decide ((w64 ((i242 : Int) + r267.1)) < 0) || decide ((w64 ((i242 : Int) + r267.1)) ≥ ((p0).length : Int))))) rfl (by first | (rw [hc284, hc285]; done) | (rw [hc284, hc285]; rfl) | simp [hc284, hc285]) ?_
      exact QW.meet (fun a ha => ⟨ha.agrees (by kernel_rfl), hst.keep [] rfl⟩)
     refine OW.pure 9 [(28, .bool (decide ((w64 ((i242 : Int) + r267.1)) ≥ ((p0).length : Int))))] (by kernel_rfl) (OW.nil rfl ?_)
     refine QW.say 28 (v := .bool (r267.2.1 && (decide ((w64 ((i242 : Int) + r267.1)) < 0) || decide ((w64 ((i242 : Int) + r267.1)) ≥ ((p0).length : Int))))) rfl (by first | (rw [hc284, hc285]; done) | (rw [hc284, hc285]; rfl) | simp [hc284, hc285]) ?_
     exact QW.meet (fun a ha => ⟨ha.agrees (by kernel_rfl), hst.keep [] rfl⟩)
    refine OW.pure 14 [(28, .bool false)] (by kernel_rfl) (OW.nil rfl ?_)
    refine QW.say 28 (v := .bool (r267.2.1 && (decide ((w64 ((i242 : Int) + r267.1)) < 0) || decide ((w64 ((i242 : Int) + r267.1)) ≥ ((p0).length : Int))))) rfl (by first | (rw [hc284]; done) | (rw [hc284]; rfl) | simp [hc284]) ?_
    exact QW.meet (fun a ha => ⟨ha.agrees (by kernel_rfl), hst.keep [] rfl⟩)
   rintro a w1 ⟨ha, hst⟩
   refine CW.go ?_ ha
   rcases Bool.eq_false_or_eq_true ((r267.2.1 && (decide ((w64 ((i242 : Int) + r267.1)) < 0) || decide ((w64 ((i242 : Int) + r267.1)) ≥ ((p0).length : Int))))) with hc286 | hc286
   ·have hl240 := ite_t hl240 hc286
    refine CW.cond_t rfl hc286 (CW.seq (CW.region ?_))
    refine OW.pure 3 [(2, .int .i64 (i242 : Int)), (3, .int .i64 30)] (by kernel_rfl) (OW.nil rfl (QW.next (CW.ret (QW.block_ret (QW.block_ret (QW.then_ret (QW.then_ret (QW.block_ret (QW.then_ret ?_)))))))))
    obtain rfl := Option.some.inj hl240
    obtain rfl := Option.some.inj hF
    refine QW.ret2 rfl rfl rfl ?_
    exact ⟨rfl, hst.keep [] rfl⟩
   have hl240 := ite_f hl240 hc286
   refine CW.cond_f rfl hc286 (CW.seq ?_)
   refine CW.cutK (fun a w1 => Rep 56 [(0, .slice a2 (p0).length c3), (4, .int .i64 (i242 : Int)), (9, .slice a2 (p0).length c3), (10, .int .i64 ((p0).length : Int)), (11, .int .i64 (i242 : Int)), (45, .bool (r267.2.2 && ((i242 : Int) == (w64 (((p0).length : Int) - 1)))))] a ∧ St w (fp []) w1 []) ?_ ?_
   ·refine CW.region ?_
    refine OW.pure 2 [(47, .bool r267.2.2)] (by kernel_rfl) ?_
    refine OW.split 47 rfl (fun hc287 => ?_) (fun hc287 => ?_)
    ·refine OW.pure 7 [(45, .bool ((i242 : Int) == (w64 (((p0).length : Int) - 1))))] (by kernel_rfl) (OW.nil rfl ?_)
     refine QW.say 45 (v := .bool (r267.2.2 && ((i242 : Int) == (w64 (((p0).length : Int) - 1))))) rfl (by first | (rw [hc287]; done) | (rw [hc287]; rfl) | simp [hc287]) ?_
     exact QW.meet (fun a ha => ⟨ha.agrees (by kernel_rfl), hst.keep [] rfl⟩)
    refine OW.pure 7 [(45, .bool false)] (by kernel_rfl) (OW.nil rfl ?_)
    refine QW.say 45 (v := .bool (r267.2.2 && ((i242 : Int) == (w64 (((p0).length : Int) - 1))))) rfl (by first | (rw [hc287]; done) | (rw [hc287]; rfl) | simp [hc287]) ?_
    exact QW.meet (fun a ha => ⟨ha.agrees (by kernel_rfl), hst.keep [] rfl⟩)
   rintro a w1 ⟨ha, hst⟩
   refine CW.go ?_ ha
   rcases Bool.eq_false_or_eq_true ((r267.2.2 && ((i242 : Int) == (w64 (((p0).length : Int) - 1))))) with hc288 | hc288
   ·have hl240 := ite_t hl240 hc288
    refine CW.cond_t rfl hc288 (CW.seq (CW.region ?_))
    refine OW.pure 3 [(2, .int .i64 (i242 : Int)), (3, .int .i64 36)] (by kernel_rfl) (OW.nil rfl (QW.next (CW.ret (QW.block_ret (QW.block_ret (QW.then_ret (QW.then_ret (QW.block_ret (QW.then_ret ?_)))))))))
    obtain rfl := Option.some.inj hl240
    obtain rfl := Option.some.inj hF
    refine QW.ret2 rfl rfl rfl ?_
    exact ⟨rfl, hst.keep [] rfl⟩
   have hl240 := ite_f hl240 hc288
   refine CW.cond_f rfl hc288 (CW.skip (QW.block_normal (QW.block_normal (QW.next (CW.region ?_)))))
   refine OW.pure 2 [(11, .int .i64 (w64 ((i242 : Int) + 1)))] (by kernel_rfl) (OW.nil rfl ?_)
   refine QW.say 11 rfl (congrArg (Value.int .i64) (w64_cnt hc244 l1)) ?_
   exact QW.meet (fun a ha => ⟨n239, Nat.lt_succ_self _, i242 + 1, (), cnt_next hi243, ha.agrees (by kernel_rfl), hst.keep [] rfl, hl240⟩)
  rcases n239 with _ | n239
  ·refine CW.cond_f rfl hc244 ?_
   refine CW.exit (QW.then_exit (QW.then_exit ?_))
   refine QW.block_here ?_
   obtain rfl := Option.some.inj hl240
   exact QW.meet (fun a ha => ⟨(), rfl, ha.agrees (by kernel_rfl), hst.keep [] rfl⟩)
  exact (cnt1 hi243 hc244).elim
 rintro a w1 ⟨t147, rfl, ha, hst⟩
 refine CW.go ?_ ha
 refine CW.seq (CW.region ?_)
 refine OW.pure 2 [(2, .int .i64 0), (3, .int .i64 0)] (by kernel_rfl) (OW.nil rfl (QW.next (CW.ret ?_)))
 obtain rfl := Option.some.inj hF
 refine QW.ret2 rfl rfl rfl ?_
 exact ⟨rfl, hst.keep [] rfl⟩
theorem flow_loops_ok (w : World) (v0 : Value) (p0 : List api_Inst) (r : (List api_Loop)) (hF : flow_loops p0 = some r)
    (hst : St w (fp []) w []) (h0 : Rd w (fp []) v0 enc_api_Inst 5 p0) :
    Calls Tryz.prog 80 [v0].toArray w (fun e w' => ∃ (x0 : Value), e = .returned (x0) ∧ St w (fp []) w' [rowI x0 164 enc_api_Loop 3 r]) := by
 refine CW.start (N := 29) Tryz.func80 rfl rfl rfl ?_
 obtain ⟨l1, a2, c3, rfl⟩ := h0.len
 refine CW.seq (CW.region ?_)
 refine OW.pure 1 [] (by kernel_rfl) (OW.nil rfl (QW.next (CW.seq (CW.region ?_))))
 refine OW.pure 1 [(3, .slice none 0 0)] (by kernel_rfl) (OW.nil rfl (QW.next (CW.seq (CW.seq (CW.region ?_)))))
 refine OW.pure 3 [(6, .slice a2 (p0).length c3), (7, .int .i64 ((p0).length : Int)), (8, .int .i64 0)] (by kernel_rfl) (OW.nil rfl (QW.next ?_))
 obtain ⟨o139, ho140, hF⟩ := bind_some' hF
 refine CW.cutK (fun a w1 => ∃ (v138 : Value), Rep 29 [(3, v138)] a ∧ St w (fp []) w1 [rowI v138 164 enc_api_Loop 3 o139]) ?_ ?_
 ·refine CW.block ?_
  have hst := hst.nilRow api_Loop 164 enc_api_Loop 3
  refine CW.loop (fun n a w1 => ∃ (i231 : Nat) (s229 : (List api_Loop)) (v230 : Value), i231 + n = (p0).length ∧ Rep 29 [(3, v230), (6, .slice a2 (p0).length c3), (7, .int .i64 ((p0).length : Int)), (8, .int .i64 (i231 : Int))] a ∧ St w (fp []) w1 [rowI v230 164 enc_api_Loop 3 s229] ∧ forN (flow_loops_l1 p0) (fun (s229 : (List api_Loop)) => s229) n i231 s229 = some o139) (p0).length (fun a ha => ⟨0, ([] : List api_Loop), (.slice none 0 0), Nat.zero_add _, ha.agrees (by kernel_rfl), hst.keep [0] rfl, ho140⟩) ?_
  rintro n227 a w1 ⟨i231, s229, v230, hi232, ha, hst, hl228⟩
  refine CW.go ?_ ha
  obtain ⟨l233, a234, c235, rfl⟩ := hst.len 0 rfl
  refine CW.seq (CW.region ?_)
  refine OW.pure 1 [(9, .bool (decide ((i231 : Int) < ((p0).length : Int))))] (by kernel_rfl) (OW.nil rfl (QW.next (CW.seq ?_)))
  rcases Bool.eq_false_or_eq_true (decide ((i231 : Int) < ((p0).length : Int))) with hc236 | hc236
  ·rcases n227 with _ | n227
   ·exact (cnt0 hi232 hc236).elim
   refine CW.cond_t rfl hc236 (CW.skip (QW.next (CW.seq (CW.block (CW.seq (CW.region ?_))))))
   refine OW.pure 1 [(10, .int .i64 (i231 : Int))] (by kernel_rfl) ?_
   obtain ⟨x246, hx247, hl228⟩ := bind_some' hl228
   obtain ⟨g249, o250, c251, hv248⟩ := h0.formv (fun _ => ⟨_, rfl⟩) hx247
   refine OW.idx 43 5 rfl rfl rfl rfl hv248 rfl (idx_some hx247).1 (idx_some hx247).2.1 (by kernel_rfl) (by kernel_rfl) ?_
   refine OW.ldN (cs := enc_api_Inst x246) rfl rfl rfl rfl (by kernel_rfl) (by kernel_rfl) (h0.cellv hst hx247 hv248) ?_
   refine OW.alloc hst rfl rfl rfl [.int .i64 0, .int .i64 0, .int .i64 0, .int .i64 0, .int .i64 0] (by kernel_rfl) ?_
   intro b252 w253 hst
   refine OW.pure 1 [(4, .int .i64 (i231 : Int))] (by kernel_rfl) ?_
   refine OW.stB hst 1 rfl rfl rfl rfl rfl (by kernel_rfl) rfl rfl [.int .i64 x246.Op, .int .i64 x246.D, .int .i64 x246.A, .int .i64 x246.B, .int .i64 x246.Imm] rfl ?_
   intro w254 hst
   refine OW.nil rfl (QW.next (CW.seq (CW.region ?_)))
   refine OW.pure 1 [(13, .pointer (some ⟨b252, 0, none⟩))] (by kernel_rfl) ?_
   refine OW.ld rfl rfl rfl rfl (by kernel_rfl) (hst.blk 1 rfl rfl) ?_
   refine OW.pure 1 [(15, .bool (x246.Op == 20))] (by kernel_rfl) (OW.nil rfl (QW.next ?_))
   rcases Bool.eq_false_or_eq_true ((x246.Op == 20)) with hc255 | hc255
   ·have hl228 := ite_t hl228 hc255
    refine CW.cond_t rfl hc255 (CW.region ?_)
    refine OW.pure 3 [(16, .slice a234 (s229).length c235), (17, .int .i64 (i231 : Int)), (18, .pointer (some ⟨b252, 1, none⟩))] (by kernel_rfl) ?_
    refine OW.ld rfl rfl rfl rfl (by kernel_rfl) (hst.blk 1 rfl rfl) ?_
    refine OW.pure 3 [(20, .int .i64 (w64 ((i231 : Int) - x246.D))), (21, .int .i64 (i231 : Int)), (22, .pointer (some ⟨b252, 4, none⟩))] (by kernel_rfl) ?_
    refine OW.ld rfl rfl rfl rfl (by kernel_rfl) (hst.blk 1 rfl rfl) ?_
    refine OW.pure 1 [(24, .agg [.int .i64 (w64 ((i231 : Int) - x246.D)), .int .i64 (i231 : Int), .int .i64 x246.Imm].toArray)] (by kernel_rfl) ?_
    refine OW.row (α := api_Loop) (e := 164) (enc := enc_api_Loop) (sz := 3) hst rfl rfl rfl [(api_Loop.mk (w64 ((i231 : Int) - x246.D)) (i231 : Int) x246.Imm)] rfl (fun _ => rfl) rfl rfl (fun _ => by kernel_rfl) ?_
    intro g265 w266 hst
    obtain ⟨u267, hr268, hl228⟩ := bind_some' hl228
    refine OW.app hst 0 rfl (fun _ => rfl) (fun _ => rfl) rfl rfl rfl rfl rfl rfl (by kernel_rfl) el164 (hst.rd 2 rfl (fun _ => rfl) [] rfl (hst.len 2 rfl).1) (room_le hr268) ?_
    intro v269 w270 hst
    obtain ⟨l271, a272, c273, rfl⟩ := hst.len 0 rfl
    refine OW.pure 1 [(3, .slice a272 ((s229 ++ [(api_Loop.mk (w64 ((i231 : Int) - x246.D)) (i231 : Int) x246.Imm)])).length c273)] (by kernel_rfl) (OW.nil rfl (QW.block_normal (QW.next (CW.region ?_))))
    refine OW.pure 2 [(8, .int .i64 (w64 ((i231 : Int) + 1)))] (by kernel_rfl) (OW.nil rfl ?_)
    refine QW.say 8 rfl (congrArg (Value.int .i64) (w64_cnt hc236 l1)) ?_
    exact QW.meet (fun a ha => ⟨n227, Nat.lt_succ_self _, i231 + 1, (s229 ++ [(api_Loop.mk (w64 ((i231 : Int) - x246.D)) (i231 : Int) x246.Imm)]), (.slice a272 ((s229 ++ [(api_Loop.mk (w64 ((i231 : Int) - x246.D)) (i231 : Int) x246.Imm)])).length c273), cnt_next hi232, ha.agrees (by kernel_rfl), hst.keep [0] rfl, hl228⟩)
   have hl228 := ite_f hl228 hc255
   refine CW.cond_f rfl hc255 (CW.skip (QW.block_normal (QW.next (CW.region ?_))))
   refine OW.pure 2 [(8, .int .i64 (w64 ((i231 : Int) + 1)))] (by kernel_rfl) (OW.nil rfl ?_)
   refine QW.say 8 rfl (congrArg (Value.int .i64) (w64_cnt hc236 l1)) ?_
   exact QW.meet (fun a ha => ⟨n227, Nat.lt_succ_self _, i231 + 1, s229, (.slice a234 (s229).length c235), cnt_next hi232, ha.agrees (by kernel_rfl), hst.keep [0] rfl, hl228⟩)
  rcases n227 with _ | n227
  ·refine CW.cond_f rfl hc236 ?_
   refine CW.exit (QW.then_exit (QW.then_exit ?_))
   refine QW.block_here ?_
   obtain rfl := Option.some.inj hl228
   exact QW.meet (fun a ha => ⟨(.slice a234 (s229).length c235), ha.agrees (by kernel_rfl), hst.keep [0] rfl⟩)
  exact (cnt1 hi232 hc236).elim
 rintro a w1 ⟨v138, ha, hst⟩
 refine CW.go ?_ ha
 obtain ⟨l277, a278, c279, rfl⟩ := hst.len 0 rfl
 refine CW.seq (CW.region ?_)
 refine OW.pure 2 [(2, .slice a278 (o139).length c279)] (by kernel_rfl) (OW.nil rfl (QW.next (CW.ret ?_)))
 obtain rfl := Option.some.inj hF
 refine QW.ret1 rfl rfl ?_
 exact ⟨(.slice a278 (o139).length c279), rfl, hst.keep [0] rfl⟩
theorem flow_in_ok (w : World) (p0 : api_Loop) (p1 : Int) (r : Bool) (hF : flow_in p0 p1 = some r)
    (hst : St w (fp []) w []) :
    Calls Tryz.prog 81 [.agg [.int .i64 p0.Head, .int .i64 p0.At, .int .i64 p0.Bound].toArray, .int .i64 p1].toArray w (fun e w' => e = .returned (.bool r) ∧ St w (fp []) w' []) := by
 refine CW.start (N := 15) Tryz.func81 rfl rfl rfl (CW.seq (CW.region ?_))
 refine OW.box hst rfl rfl rfl rfl [.int .i64 p0.Head, .int .i64 p0.At, .int .i64 p0.Bound] rfl ?_
 intro b3 w4 hst
 refine OW.pure 1 [] (by kernel_rfl) (OW.nil rfl (QW.next (CW.seq ?_)))
 refine CW.cutK (fun a w1 => Rep 15 [(4, .bool (decide (p1 ≥ p0.Head) && decide (p1 ≤ p0.At)))] a ∧ St w (fp []) w1 []) ?_ ?_
 ·refine CW.region ?_
  refine OW.pure 2 [(5, .int .i64 p1), (6, .pointer (some ⟨b3, 0, none⟩))] (by kernel_rfl) ?_
  refine OW.ld rfl rfl rfl rfl (by kernel_rfl) (hst.blk 0 rfl rfl) ?_
  refine OW.pure 2 [(9, .bool (decide (p1 ≥ p0.Head)))] (by kernel_rfl) ?_
  refine OW.split 9 rfl (fun hc5 => ?_) (fun hc5 => ?_)
  ·refine OW.pure 2 [(10, .int .i64 p1), (11, .pointer (some ⟨b3, 1, none⟩))] (by kernel_rfl) ?_
   refine OW.ld rfl rfl rfl rfl (by kernel_rfl) (hst.blk 0 rfl rfl) ?_
   refine OW.pure 3 [(4, .bool (decide (p1 ≤ p0.At)))] (by kernel_rfl) (OW.nil rfl ?_)
   refine QW.say 4 (v := .bool (decide (p1 ≥ p0.Head) && decide (p1 ≤ p0.At))) rfl (by first | (rw [hc5]; done) | (rw [hc5]; rfl) | simp [hc5]) ?_
   exact QW.meet (fun a ha => ⟨ha.agrees (by kernel_rfl), hst.keep [] rfl⟩)
  refine OW.pure 6 [(4, .bool false)] (by kernel_rfl) (OW.nil rfl ?_)
  refine QW.say 4 (v := .bool (decide (p1 ≥ p0.Head) && decide (p1 ≤ p0.At))) rfl (by first | (rw [hc5]; done) | (rw [hc5]; rfl) | simp [hc5]) ?_
  exact QW.meet (fun a ha => ⟨ha.agrees (by kernel_rfl), hst.keep [] rfl⟩)
 rintro a w1 ⟨ha, hst⟩
 refine CW.go ?_ ha
 refine CW.ret ?_
 obtain rfl := Option.some.inj hF
 refine QW.ret1 rfl rfl ?_
 exact ⟨rfl, hst.keep [] rfl⟩
theorem flow_nested_ok (w : World) (v0 : Value) (p0 : List api_Inst) (r : Int × Int) (hF : flow_nested p0 = some r)
    (hst : St w (fp []) w []) (h0 : Rd w (fp []) v0 enc_api_Inst 5 p0) (hT0 : Rd w (fp []) (.slice (some ⟨0, 0, none⟩) 23 23) enc_ops_form 2 tab_g0) :
    Calls Tryz.prog 79 [v0].toArray w (fun e w' => e = .returned (.tuple #[.int .i64 r.1, .int .i64 r.2]) ∧ St w (fp []) w' []) := by
 refine CW.start (N := 97) Tryz.func79 rfl rfl rfl ?_
 obtain ⟨l1, a2, c3, rfl⟩ := h0.len
 refine CW.seq (CW.region ?_)
 refine OW.pure 2 [] (by kernel_rfl) (OW.nil rfl (QW.next (CW.seq (CW.region ?_))))
 refine OW.pure 1 [(16, .slice a2 (p0).length c3)] (by kernel_rfl) ?_
 obtain ⟨r12, hr13, hF⟩ := bind_some' hF
 refine OW.fn rfl rfl rfl rfl (by kernel_rfl) (flow_loops_ok _ (.slice a2 (p0).length c3) p0 r12 hr13 (hst.part [] rfl) (h0.give hst [])) ?_
 rintro e w14 ⟨v16, rfl, hst15⟩
 refine ⟨_, rfl, ?_⟩
 have hst := hst.join (idx := []) (rest := []) rfl hst15
 obtain ⟨l17, a18, c19, rfl⟩ := hst.len 0 rfl
 refine OW.pure 1 [(4, .slice a18 (r12).length c19)] (by kernel_rfl) (OW.nil rfl (QW.next (CW.seq (CW.seq (CW.region ?_)))))
 refine OW.pure 3 [(18, .slice a18 (r12).length c19), (19, .int .i64 ((r12).length : Int)), (20, .int .i64 0)] (by kernel_rfl) (OW.nil rfl (QW.next ?_))
 obtain ⟨o590, ho591, hF⟩ := bind_some' hF
 refine CW.cutK (fun a w1 => ∃ (t592 : Unit), o590 = .inl t592 ∧ Rep 97 [(0, .slice a2 (p0).length c3), (4, .slice a18 (r12).length c19)] a ∧ St w (fp []) w1 [rowI (.slice a18 (r12).length c19) 164 enc_api_Loop 3 r12]) ?_ ?_
 ·refine CW.block ?_
  refine CW.loop (fun n a w1 => ∃ (i973 : Nat) (s972 : Unit), i973 + n = (r12).length ∧ Rep 97 [(0, .slice a2 (p0).length c3), (4, .slice a18 (r12).length c19), (18, .slice a18 (r12).length c19), (19, .int .i64 ((r12).length : Int)), (20, .int .i64 (i973 : Int))] a ∧ St w (fp []) w1 [rowI (.slice a18 (r12).length c19) 164 enc_api_Loop 3 r12] ∧ forN (flow_nested_l1 r12) (fun (s972 : Unit) => (.inl ())) n i973 s972 = some o590) (r12).length (fun a ha => ⟨0, (), Nat.zero_add _, ha.agrees (by kernel_rfl), hst.keep [0] rfl, ho591⟩) ?_
  rintro n970 a w1 ⟨i973, s972, hi974, ha, hst, hl971⟩
  refine CW.go ?_ ha
  refine CW.seq (CW.region ?_)
  refine OW.pure 1 [(21, .bool (decide ((i973 : Int) < ((r12).length : Int))))] (by kernel_rfl) (OW.nil rfl (QW.next (CW.seq ?_)))
  rcases Bool.eq_false_or_eq_true (decide ((i973 : Int) < ((r12).length : Int))) with hc975 | hc975
  ·rcases n970 with _ | n970
   ·exact (cnt0 hi974 hc975).elim
   refine CW.cond_t rfl hc975 (CW.skip (QW.next (CW.seq (CW.block (CW.seq (CW.region ?_))))))
   refine OW.pure 1 [(22, .int .i64 (i973 : Int))] (by kernel_rfl) ?_
   obtain ⟨x985, hx986, hl971⟩ := bind_some' hl971
   obtain ⟨g988, o989, c990, hv987⟩ := hst.rowv 0 rfl hx986
   refine OW.idx 164 3 rfl rfl rfl rfl hv987 rfl (idx_some hx986).1 (idx_some hx986).2.1 (by kernel_rfl) (by kernel_rfl) ?_
   refine OW.ldN (cs := enc_api_Loop x985) rfl rfl rfl rfl (by kernel_rfl) (by kernel_rfl) (hst.rowc 0 rfl (fun _ => rfl) hx986 hv987) ?_
   refine OW.alloc hst rfl rfl rfl [.int .i64 0, .int .i64 0, .int .i64 0] (by kernel_rfl) ?_
   intro b991 w992 hst
   refine OW.pure 1 [(5, .int .i64 (i973 : Int))] (by kernel_rfl) ?_
   refine OW.stB hst 1 rfl rfl rfl rfl rfl (by kernel_rfl) rfl rfl [.int .i64 x985.Head, .int .i64 x985.At, .int .i64 x985.Bound] rfl ?_
   intro w993 hst
   refine OW.nil rfl (QW.next (CW.seq (CW.region ?_)))
   refine OW.pure 2 [(25, .slice a18 (r12).length c19), (26, .int .i64 (i973 : Int))] (by kernel_rfl) ?_
   obtain ⟨ys996, hcut997, hl971⟩ := bind_some' hl971
   refine OW.op (v := .slice a18 (ys996).length c19) rfl rfl rfl rfl (fun a ha => pre_run (e := 164) 3 rfl rfl rfl hcut997 (hst.cap 0 rfl) (by kernel_rfl) (by kernel_rfl) a _ ha) ?_
   refine OW.pure 2 [(28, .int .i64 ((ys996).length : Int)), (29, .int .i64 0)] (by kernel_rfl) (OW.nil rfl (QW.next ?_))
   obtain ⟨o1079, ho1080, hl971⟩ := bind_some' hl971
   refine CW.cutQ (fun a w1 => ∃ (t1081 : Unit), o1079 = .inl t1081 ∧ Rep 97 [(0, .slice a2 (p0).length c3), (4, .slice a18 (r12).length c19), (18, .slice a18 (r12).length c19), (19, .int .i64 ((r12).length : Int)), (20, .int .i64 (i973 : Int))] a ∧ St w (fp []) w1 [rowI (.slice a18 (r12).length c19) 164 enc_api_Loop 3 r12]) ?_ ?_
   ·refine CW.block ?_
    refine CW.loop (fun n a w1 => ∃ (i1136 : Nat) (s1135 : Unit), i1136 + n = (ys996).length ∧ Rep 97 [(0, .slice a2 (p0).length c3), (4, .slice a18 (r12).length c19), (6, .pointer (some ⟨b991, 0, none⟩)), (18, .slice a18 (r12).length c19), (19, .int .i64 ((r12).length : Int)), (20, .int .i64 (i973 : Int)), (27, .slice a18 (ys996).length c19), (28, .int .i64 ((ys996).length : Int)), (29, .int .i64 (i1136 : Int))] a ∧ St w (fp []) w1 [rowI (.slice a18 (r12).length c19) 164 enc_api_Loop 3 r12, blkI b991 164 [.int .i64 x985.Head, .int .i64 x985.At, .int .i64 x985.Bound]] ∧ forN (flow_nested_l2 x985 ys996) (fun (s1135 : Unit) => (.inl ())) n i1136 s1135 = some o1079) (ys996).length (fun a ha => ⟨0, (), Nat.zero_add _, ha.agrees (by kernel_rfl), hst.keep [0, 1] rfl, ho1080⟩) ?_
    rintro n1133 a w1 ⟨i1136, s1135, hi1137, ha, hst, hl1134⟩
    refine CW.go ?_ ha
    refine CW.seq (CW.region ?_)
    refine OW.pure 1 [(30, .bool (decide ((i1136 : Int) < ((ys996).length : Int))))] (by kernel_rfl) (OW.nil rfl (QW.next (CW.seq ?_)))
    rcases Bool.eq_false_or_eq_true (decide ((i1136 : Int) < ((ys996).length : Int))) with hc1138 | hc1138
    ·rcases n1133 with _ | n1133
     ·exact (cnt0 hi1137 hc1138).elim
     refine CW.cond_t rfl hc1138 (CW.skip (QW.next (CW.seq (CW.block (CW.seq (CW.region ?_))))))
     obtain ⟨x1150, hx1151, hl1134⟩ := bind_some' hl1134
     have hx1156 := pre_idx hcut997 hx1151
     obtain ⟨g1153, o1154, c1155, hv1152⟩ := hst.rowv 0 rfl hx1156
     refine OW.idx 164 3 rfl rfl rfl rfl (pre_hv hv1152) rfl (idx_some hx1151).1 (idx_some hx1151).2.1 (by kernel_rfl) (by kernel_rfl) ?_
     refine OW.ldN (cs := enc_api_Loop x1150) rfl rfl rfl rfl (by kernel_rfl) (by kernel_rfl) (hst.rowc 0 rfl (fun _ => rfl) hx1156 hv1152) ?_
     refine OW.alloc hst rfl rfl rfl [.int .i64 0, .int .i64 0, .int .i64 0] (by kernel_rfl) ?_
     intro b1158 w1159 hst
     refine OW.stB hst 2 rfl rfl rfl rfl rfl (by kernel_rfl) rfl rfl [.int .i64 x1150.Head, .int .i64 x1150.At, .int .i64 x1150.Bound] rfl ?_
     intro w1160 hst
     refine OW.nil rfl (QW.next (CW.seq ?_))
     refine CW.cutK (fun a w1 => Rep 97 [(0, .slice a2 (p0).length c3), (4, .slice a18 (r12).length c19), (6, .pointer (some ⟨b991, 0, none⟩)), (18, .slice a18 (r12).length c19), (19, .int .i64 ((r12).length : Int)), (20, .int .i64 (i973 : Int)), (27, .slice a18 (ys996).length c19), (28, .int .i64 ((ys996).length : Int)), (29, .int .i64 (i1136 : Int)), (44, .bool (decide (x1150.At ≥ x985.Head) && decide (x1150.Head < x985.Head)))] a ∧ St w (fp []) w1 [rowI (.slice a18 (r12).length c19) 164 enc_api_Loop 3 r12, blkI b991 164 [.int .i64 x985.Head, .int .i64 x985.At, .int .i64 x985.Bound]]) ?_ ?_
     ·refine CW.region ?_
      refine OW.pure 1 [(33, .pointer (some ⟨b1158, 1, none⟩))] (by kernel_rfl) ?_
      refine OW.ld rfl rfl rfl rfl (by kernel_rfl) (hst.blk 2 rfl rfl) ?_
      refine OW.pure 1 [(35, .pointer (some ⟨b991, 0, none⟩))] (by kernel_rfl) ?_
      refine OW.ld rfl rfl rfl rfl (by kernel_rfl) (hst.blk 1 rfl rfl) ?_
      refine OW.pure 2 [(38, .bool (decide (x1150.At ≥ x985.Head)))] (by kernel_rfl) ?_
      refine OW.split 38 rfl (fun hc1161 => ?_) (fun hc1161 => ?_)
      ·refine OW.pure 1 [(39, .pointer (some ⟨b1158, 0, none⟩))] (by kernel_rfl) ?_
       refine OW.ld rfl rfl rfl rfl (by kernel_rfl) (hst.blk 2 rfl rfl) ?_
       refine OW.pure 1 [(41, .pointer (some ⟨b991, 0, none⟩))] (by kernel_rfl) ?_
       refine OW.ld rfl rfl rfl rfl (by kernel_rfl) (hst.blk 1 rfl rfl) ?_
       refine OW.pure 2 [(44, .bool (decide (x1150.Head < x985.Head)))] (by kernel_rfl) (OW.nil rfl ?_)
       refine QW.say 44 (v := .bool (decide (x1150.At ≥ x985.Head) && decide (x1150.Head < x985.Head))) rfl (by first | (rw [hc1161]; done) | (rw [hc1161]; rfl) | simp [hc1161]) ?_
       exact QW.meet (fun a ha => ⟨ha.agrees (by kernel_rfl), hst.keep [0, 1] rfl⟩)
      refine OW.pure 6 [(44, .bool false)] (by kernel_rfl) (OW.nil rfl ?_)
      refine QW.say 44 (v := .bool (decide (x1150.At ≥ x985.Head) && decide (x1150.Head < x985.Head))) rfl (by first | (rw [hc1161]; done) | (rw [hc1161]; rfl) | simp [hc1161]) ?_
      exact QW.meet (fun a ha => ⟨ha.agrees (by kernel_rfl), hst.keep [0, 1] rfl⟩)
     rintro a w1 ⟨ha, hst⟩
     refine CW.go ?_ ha
     rcases Bool.eq_false_or_eq_true ((decide (x1150.At ≥ x985.Head) && decide (x1150.Head < x985.Head))) with hc1162 | hc1162
     ·have hl1134 := ite_t hl1134 hc1162
      refine CW.cond_t rfl hc1162 (CW.seq (CW.region ?_))
      refine OW.pure 1 [(45, .pointer (some ⟨b991, 1, none⟩))] (by kernel_rfl) ?_
      refine OW.ld rfl rfl rfl rfl (by kernel_rfl) (hst.blk 1 rfl rfl) ?_
      refine OW.pure 2 [(2, .int .i64 x985.At), (3, .int .i64 31)] (by kernel_rfl) (OW.nil rfl (QW.next (CW.ret (QW.block_ret (QW.then_ret (QW.then_ret (QW.block_ret (QW.then_ret (QW.block_ret (QW.then_ret (QW.then_ret (QW.block_ret (QW.then_ret ?_)))))))))))))
      obtain rfl := Option.some.inj hl1134
      obtain rfl := Option.some.inj hl971
      obtain rfl := Option.some.inj hF
      refine QW.ret2 rfl rfl rfl ?_
      exact ⟨rfl, hst.keep [] rfl⟩
     have hl1134 := ite_f hl1134 hc1162
     refine CW.cond_f rfl hc1162 (CW.skip (QW.block_normal (QW.next (CW.region ?_))))
     refine OW.pure 2 [(29, .int .i64 (w64 ((i1136 : Int) + 1)))] (by kernel_rfl) (OW.nil rfl ?_)
     refine QW.say 29 rfl (congrArg (Value.int .i64) (w64_cnt hc1138 (Nat.le_trans (cut_le hcut997) l17))) ?_
     exact QW.meet (fun a ha => ⟨n1133, Nat.lt_succ_self _, i1136 + 1, (), cnt_next hi1137, ha.agrees (by kernel_rfl), hst.keep [0, 1] rfl, hl1134⟩)
    rcases n1133 with _ | n1133
    ·refine CW.cond_f rfl hc1138 ?_
     refine CW.exit (QW.then_exit (QW.then_exit ?_))
     refine QW.block_here ?_
     obtain rfl := Option.some.inj hl1134
     exact QW.meet (fun a ha => ⟨(), rfl, ha.agrees (by kernel_rfl), hst.keep [0] rfl⟩)
    exact (cnt1 hi1137 hc1138).elim
   rintro a w1 ⟨t1081, rfl, ha, hst⟩
   refine QW.go ?_ ha
   refine QW.block_normal (QW.next (CW.region ?_))
   refine OW.pure 2 [(20, .int .i64 (w64 ((i973 : Int) + 1)))] (by kernel_rfl) (OW.nil rfl ?_)
   refine QW.say 20 rfl (congrArg (Value.int .i64) (w64_cnt hc975 l17)) ?_
   exact QW.meet (fun a ha => ⟨n970, Nat.lt_succ_self _, i973 + 1, (), cnt_next hi974, ha.agrees (by kernel_rfl), hst.keep [0] rfl, hl971⟩)
  rcases n970 with _ | n970
  ·refine CW.cond_f rfl hc975 ?_
   refine CW.exit (QW.then_exit (QW.then_exit ?_))
   refine QW.block_here ?_
   obtain rfl := Option.some.inj hl971
   exact QW.meet (fun a ha => ⟨(), rfl, ha.agrees (by kernel_rfl), hst.keep [0] rfl⟩)
  exact (cnt1 hi974 hc975).elim
 rintro a w1 ⟨t592, rfl, ha, hst⟩
 refine CW.go ?_ ha
 refine CW.seq (CW.seq (CW.region ?_))
 refine OW.pure 3 [(49, .slice a2 (p0).length c3), (50, .int .i64 ((p0).length : Int)), (51, .int .i64 0)] (by kernel_rfl) (OW.nil rfl (QW.next ?_))
 obtain ⟨o2123, ho2124, hF⟩ := bind_some' hF
 refine CW.cutK (fun a w1 => ∃ (t2125 : Unit), o2123 = .inl t2125 ∧ Rep 97 [] a ∧ St w (fp []) w1 []) ?_ ?_
 ·refine CW.block ?_
  refine CW.loop (fun n a w1 => ∃ (i2766 : Nat) (s2765 : Unit), i2766 + n = (p0).length ∧ Rep 97 [(4, .slice a18 (r12).length c19), (49, .slice a2 (p0).length c3), (50, .int .i64 ((p0).length : Int)), (51, .int .i64 (i2766 : Int))] a ∧ St w (fp []) w1 [rowI (.slice a18 (r12).length c19) 164 enc_api_Loop 3 r12] ∧ forN (flow_nested_l3 p0 r12) (fun (s2765 : Unit) => (.inl ())) n i2766 s2765 = some o2123) (p0).length (fun a ha => ⟨0, (), Nat.zero_add _, ha.agrees (by kernel_rfl), hst.keep [0] rfl, ho2124⟩) ?_
  rintro n2763 a w1 ⟨i2766, s2765, hi2767, ha, hst, hl2764⟩
  refine CW.go ?_ ha
  refine CW.seq (CW.region ?_)
  refine OW.pure 1 [(52, .bool (decide ((i2766 : Int) < ((p0).length : Int))))] (by kernel_rfl) (OW.nil rfl (QW.next (CW.seq ?_)))
  rcases Bool.eq_false_or_eq_true (decide ((i2766 : Int) < ((p0).length : Int))) with hc2768 | hc2768
  ·rcases n2763 with _ | n2763
   ·exact (cnt0 hi2767 hc2768).elim
   refine CW.cond_t rfl hc2768 (CW.skip (QW.next (CW.seq (CW.block (CW.seq (CW.region ?_))))))
   refine OW.pure 1 [(53, .int .i64 (i2766 : Int))] (by kernel_rfl) ?_
   obtain ⟨x2778, hx2779, hl2764⟩ := bind_some' hl2764
   obtain ⟨g2781, o2782, c2783, hv2780⟩ := h0.formv (fun _ => ⟨_, rfl⟩) hx2779
   refine OW.idx 43 5 rfl rfl rfl rfl hv2780 rfl (idx_some hx2779).1 (idx_some hx2779).2.1 (by kernel_rfl) (by kernel_rfl) ?_
   refine OW.ldN (cs := enc_api_Inst x2778) rfl rfl rfl rfl (by kernel_rfl) (by kernel_rfl) (h0.cellv hst hx2779 hv2780) ?_
   refine OW.alloc hst rfl rfl rfl [.int .i64 0, .int .i64 0, .int .i64 0, .int .i64 0, .int .i64 0] (by kernel_rfl) ?_
   intro b2784 w2785 hst
   refine OW.pure 1 [(9, .int .i64 (i2766 : Int))] (by kernel_rfl) ?_
   refine OW.stB hst 1 rfl rfl rfl rfl rfl (by kernel_rfl) rfl rfl [.int .i64 x2778.Op, .int .i64 x2778.D, .int .i64 x2778.A, .int .i64 x2778.B, .int .i64 x2778.Imm] rfl ?_
   intro w2786 hst
   refine OW.nil rfl (QW.next (CW.seq (CW.region ?_)))
   refine OW.ldN (cs := [.int .i64 x2778.Op, .int .i64 x2778.D, .int .i64 x2778.A, .int .i64 x2778.B, .int .i64 x2778.Imm]) rfl rfl rfl rfl (by kernel_rfl) (by kernel_rfl) (hst.blkN 1 rfl 0 5) ?_
   obtain ⟨r2791, hr2792, hl2764⟩ := bind_some' hl2764
   refine OW.fn rfl rfl rfl rfl (by kernel_rfl) (ops_Goes_ok _ x2778 r2791 hr2792 (hst.part [] rfl) (hT0.give hst [])) ?_
   rintro e w2793 ⟨rfl, hst2794⟩
   refine ⟨_, rfl, ?_⟩
   have hst := hst.join (idx := []) (rest := [0, 1]) rfl hst2794
   refine OW.pure 7 [(11, .int .i64 r2791.1), (12, .bool r2791.2.1)] (by kernel_rfl) (OW.nil rfl (QW.next (CW.seq (CW.region ?_))))
   refine OW.pure 3 [(62, .slice a18 (r12).length c19), (63, .int .i64 ((r12).length : Int)), (64, .int .i64 0)] (by kernel_rfl) (OW.nil rfl (QW.next ?_))
   obtain ⟨o2939, ho2940, hl2764⟩ := bind_some' hl2764
   refine CW.cutQ (fun a w1 => ∃ (t2941 : Unit), o2939 = .inl t2941 ∧ Rep 97 [(4, .slice a18 (r12).length c19), (49, .slice a2 (p0).length c3), (50, .int .i64 ((p0).length : Int)), (51, .int .i64 (i2766 : Int))] a ∧ St w (fp []) w1 [rowI (.slice a18 (r12).length c19) 164 enc_api_Loop 3 r12]) ?_ ?_
   ·refine CW.block ?_
    refine CW.loop (fun n a w1 => ∃ (i3038 : Nat) (s3037 : Unit), i3038 + n = (r12).length ∧ Rep 97 [(4, .slice a18 (r12).length c19), (9, .int .i64 (i2766 : Int)), (11, .int .i64 r2791.1), (12, .bool r2791.2.1), (49, .slice a2 (p0).length c3), (50, .int .i64 ((p0).length : Int)), (51, .int .i64 (i2766 : Int)), (62, .slice a18 (r12).length c19), (63, .int .i64 ((r12).length : Int)), (64, .int .i64 (i3038 : Int))] a ∧ St w (fp []) w1 [rowI (.slice a18 (r12).length c19) 164 enc_api_Loop 3 r12] ∧ forN (flow_nested_l4 r12 i2766 r2791) (fun (s3037 : Unit) => (.inl ())) n i3038 s3037 = some o2939) (r12).length (fun a ha => ⟨0, (), Nat.zero_add _, ha.agrees (by kernel_rfl), hst.keep [0] rfl, ho2940⟩) ?_
    rintro n3035 a w1 ⟨i3038, s3037, hi3039, ha, hst, hl3036⟩
    refine CW.go ?_ ha
    refine CW.seq (CW.region ?_)
    refine OW.pure 1 [(65, .bool (decide ((i3038 : Int) < ((r12).length : Int))))] (by kernel_rfl) (OW.nil rfl (QW.next (CW.seq ?_)))
    rcases Bool.eq_false_or_eq_true (decide ((i3038 : Int) < ((r12).length : Int))) with hc3040 | hc3040
    ·rcases n3035 with _ | n3035
     ·exact (cnt0 hi3039 hc3040).elim
     refine CW.cond_t rfl hc3040 (CW.skip (QW.next (CW.seq (CW.block (CW.seq (CW.region ?_))))))
     obtain ⟨x3050, hx3051, hl3036⟩ := bind_some' hl3036
     obtain ⟨g3053, o3054, c3055, hv3052⟩ := hst.rowv 0 rfl hx3051
     refine OW.idx 164 3 rfl rfl rfl rfl hv3052 rfl (idx_some hx3051).1 (idx_some hx3051).2.1 (by kernel_rfl) (by kernel_rfl) ?_
     refine OW.ldN (cs := enc_api_Loop x3050) rfl rfl rfl rfl (by kernel_rfl) (by kernel_rfl) (hst.rowc 0 rfl (fun _ => rfl) hx3051 hv3052) ?_
     refine OW.alloc hst rfl rfl rfl [.int .i64 0, .int .i64 0, .int .i64 0] (by kernel_rfl) ?_
     intro b3056 w3057 hst
     refine OW.stB hst 1 rfl rfl rfl rfl rfl (by kernel_rfl) rfl rfl [.int .i64 x3050.Head, .int .i64 x3050.At, .int .i64 x3050.Bound] rfl ?_
     intro w3058 hst
     refine OW.nil rfl (QW.next (CW.seq ?_))
     obtain ⟨o3071, ho3072, hl3036⟩ := bind_some' hl3036
     refine CW.cutK (fun a w1 => Rep 97 [(4, .slice a18 (r12).length c19), (9, .int .i64 (i2766 : Int)), (11, .int .i64 r2791.1), (12, .bool r2791.2.1), (49, .slice a2 (p0).length c3), (50, .int .i64 ((p0).length : Int)), (51, .int .i64 (i2766 : Int)), (62, .slice a18 (r12).length c19), (63, .int .i64 ((r12).length : Int)), (64, .int .i64 (i3038 : Int)), (93, .bool o3071)] a ∧ St w (fp []) w1 [rowI (.slice a18 (r12).length c19) 164 enc_api_Loop 3 r12]) ?_ ?_
     ·refine CW.region ?_
      refine OW.pure 2 [(69, .bool r2791.2.1)] (by kernel_rfl) ?_
      refine OW.split 69 rfl (fun hc3073 => ?_) (fun hc3073 => ?_)
      ·have ho3072 := ite_t ho3072 hc3073
       refine OW.pure 4 [(73, .bool (decide (r2791.1 > 0)))] (by kernel_rfl) ?_
       refine OW.split 73 rfl (fun hc3074 => ?_) (fun hc3074 => ?_)
       ·have ho3072 := ite_t ho3072 hc3074
        refine OW.ldN (cs := [.int .i64 x3050.Head, .int .i64 x3050.At, .int .i64 x3050.Bound]) rfl rfl rfl rfl (by kernel_rfl) (by kernel_rfl) (hst.blkN 1 rfl 0 3) ?_
        refine OW.pure 1 [(75, .int .i64 (i2766 : Int))] (by kernel_rfl) ?_
        obtain ⟨r3075, hr3076, ho3072⟩ := bind_some' ho3072
        refine OW.fn rfl rfl rfl rfl (by kernel_rfl) (flow_in_ok _ x3050 (i2766 : Int) r3075 hr3076 (hst.part [] rfl)) ?_
        rintro e w3077 ⟨rfl, hst3078⟩
        refine ⟨_, rfl, ?_⟩
        have hst := hst.join (idx := []) (rest := [0, 1]) rfl hst3078
        refine OW.pure 3 [(79, .bool (!r3075))] (by kernel_rfl) ?_
        refine OW.split 79 rfl (fun hc3079 => ?_) (fun hc3079 => ?_)
        ·have ho3072 := ite_t ho3072 hc3079
         refine OW.ldN (cs := [.int .i64 x3050.Head, .int .i64 x3050.At, .int .i64 x3050.Bound]) rfl rfl rfl rfl (by kernel_rfl) (by kernel_rfl) (hst.blkN 1 rfl 0 3) ?_
         refine OW.pure 3 [(83, .int .i64 (w64 ((i2766 : Int) + r2791.1)))] (by kernel_rfl) ?_
         obtain ⟨r3080, hr3081, ho3072⟩ := bind_some' ho3072
         refine OW.fn rfl rfl rfl rfl (by kernel_rfl) (flow_in_ok _ x3050 (w64 ((i2766 : Int) + r2791.1)) r3080 hr3081 (hst.part [] rfl)) ?_
         rintro e w3082 ⟨rfl, hst3083⟩
         refine ⟨_, rfl, ?_⟩
         have hst := hst.join (idx := []) (rest := [0, 1]) rfl hst3083
         refine OW.pure 2 [(86, .bool r3080)] (by kernel_rfl) ?_
         refine OW.split 86 rfl (fun hc3084 => ?_) (fun hc3084 => ?_)
         ·have ho3072 := ite_t ho3072 hc3084
          refine OW.pure 4 [(89, .int .i64 (w64 ((i2766 : Int) + r2791.1))), (90, .pointer (some ⟨b3056, 0, none⟩))] (by kernel_rfl) ?_
          refine OW.ld rfl rfl rfl rfl (by kernel_rfl) (hst.blk 1 rfl rfl) ?_
          refine OW.pure 2 [(93, .bool ((w64 ((i2766 : Int) + r2791.1)) != x3050.Head))] (by kernel_rfl) (OW.nil rfl ?_)
          obtain rfl := Option.some.inj ho3072
          exact QW.meet (fun a ha => ⟨ha.agrees (by kernel_rfl), hst.keep [0] rfl⟩)
         have ho3072 := ite_f ho3072 hc3084
         refine OW.pure 7 [(93, .bool false)] (by kernel_rfl) (OW.nil rfl ?_)
         obtain rfl := Option.some.inj ho3072
         exact QW.meet (fun a ha => ⟨ha.agrees (by kernel_rfl), hst.keep [0] rfl⟩)
        have ho3072 := ite_f ho3072 hc3079
        refine OW.pure 14 [(93, .bool false)] (by kernel_rfl) (OW.nil rfl ?_)
        obtain rfl := Option.some.inj ho3072
        exact QW.meet (fun a ha => ⟨ha.agrees (by kernel_rfl), hst.keep [0] rfl⟩)
       have ho3072 := ite_f ho3072 hc3074
       refine OW.pure 20 [(93, .bool false)] (by kernel_rfl) (OW.nil rfl ?_)
       obtain rfl := Option.some.inj ho3072
       exact QW.meet (fun a ha => ⟨ha.agrees (by kernel_rfl), hst.keep [0] rfl⟩)
      have ho3072 := ite_f ho3072 hc3073
      refine OW.pure 24 [(93, .bool false)] (by kernel_rfl) (OW.nil rfl ?_)
      obtain rfl := Option.some.inj ho3072
      exact QW.meet (fun a ha => ⟨ha.agrees (by kernel_rfl), hst.keep [0] rfl⟩)
     rintro a w1 ⟨ha, hst⟩
     refine CW.go ?_ ha
     rcases Bool.eq_false_or_eq_true (o3071) with hc3085 | hc3085
     ·have hl3036 := ite_t hl3036 hc3085
      refine CW.cond_t rfl hc3085 (CW.seq (CW.region ?_))
      refine OW.pure 3 [(2, .int .i64 (i2766 : Int)), (3, .int .i64 31)] (by kernel_rfl) (OW.nil rfl (QW.next (CW.ret (QW.block_ret (QW.then_ret (QW.then_ret (QW.block_ret (QW.then_ret (QW.block_ret (QW.then_ret (QW.then_ret (QW.block_ret (QW.then_ret ?_)))))))))))))
      obtain rfl := Option.some.inj hl3036
      obtain rfl := Option.some.inj hl2764
      obtain rfl := Option.some.inj hF
      refine QW.ret2 rfl rfl rfl ?_
      exact ⟨rfl, hst.keep [] rfl⟩
     have hl3036 := ite_f hl3036 hc3085
     refine CW.cond_f rfl hc3085 (CW.skip (QW.block_normal (QW.next (CW.region ?_))))
     refine OW.pure 2 [(64, .int .i64 (w64 ((i3038 : Int) + 1)))] (by kernel_rfl) (OW.nil rfl ?_)
     refine QW.say 64 rfl (congrArg (Value.int .i64) (w64_cnt hc3040 l17)) ?_
     exact QW.meet (fun a ha => ⟨n3035, Nat.lt_succ_self _, i3038 + 1, (), cnt_next hi3039, ha.agrees (by kernel_rfl), hst.keep [0] rfl, hl3036⟩)
    rcases n3035 with _ | n3035
    ·refine CW.cond_f rfl hc3040 ?_
     refine CW.exit (QW.then_exit (QW.then_exit ?_))
     refine QW.block_here ?_
     obtain rfl := Option.some.inj hl3036
     exact QW.meet (fun a ha => ⟨(), rfl, ha.agrees (by kernel_rfl), hst.keep [0] rfl⟩)
    exact (cnt1 hi3039 hc3040).elim
   rintro a w1 ⟨t2941, rfl, ha, hst⟩
   refine QW.go ?_ ha
   refine QW.block_normal (QW.next (CW.region ?_))
   refine OW.pure 2 [(51, .int .i64 (w64 ((i2766 : Int) + 1)))] (by kernel_rfl) (OW.nil rfl ?_)
   refine QW.say 51 rfl (congrArg (Value.int .i64) (w64_cnt hc2768 l1)) ?_
   exact QW.meet (fun a ha => ⟨n2763, Nat.lt_succ_self _, i2766 + 1, (), cnt_next hi2767, ha.agrees (by kernel_rfl), hst.keep [0] rfl, hl2764⟩)
  rcases n2763 with _ | n2763
  ·refine CW.cond_f rfl hc2768 ?_
   refine CW.exit (QW.then_exit (QW.then_exit ?_))
   refine QW.block_here ?_
   obtain rfl := Option.some.inj hl2764
   exact QW.meet (fun a ha => ⟨(), rfl, ha.agrees (by kernel_rfl), hst.keep [] rfl⟩)
  exact (cnt1 hi2767 hc2768).elim
 rintro a w1 ⟨t2125, rfl, ha, hst⟩
 refine CW.go ?_ ha
 refine CW.seq (CW.region ?_)
 refine OW.pure 2 [(2, .int .i64 0), (3, .int .i64 0)] (by kernel_rfl) (OW.nil rfl (QW.next (CW.ret ?_)))
 obtain rfl := Option.some.inj hF
 refine QW.ret2 rfl rfl rfl ?_
 exact ⟨rfl, hst.keep [] rfl⟩
theorem flow_cost_ok (w : World) (v0 : Value) (p0 : List api_Inst) (r : Int) (hF : flow_cost p0 = some r)
    (hst : St w (fp []) w []) (h0 : Rd w (fp []) v0 enc_api_Inst 5 p0) :
    Calls Tryz.prog 48 [v0].toArray w (fun e w' => e = .returned (.int .i64 r) ∧ St w (fp []) w' []) := by
 refine CW.start (N := 38) Tryz.func48 rfl rfl rfl ?_
 obtain ⟨l1, a2, c3, rfl⟩ := h0.len
 refine CW.seq (CW.region ?_)
 refine OW.pure 1 [] (by kernel_rfl) (OW.nil rfl (QW.next (CW.seq (CW.region ?_))))
 refine OW.pure 1 [(9, .slice a2 (p0).length c3)] (by kernel_rfl) ?_
 obtain ⟨r12, hr13, hF⟩ := bind_some' hF
 refine OW.fn rfl rfl rfl rfl (by kernel_rfl) (flow_loops_ok _ (.slice a2 (p0).length c3) p0 r12 hr13 (hst.part [] rfl) (h0.give hst [])) ?_
 rintro e w14 ⟨v16, rfl, hst15⟩
 refine ⟨_, rfl, ?_⟩
 have hst := hst.join (idx := []) (rest := []) rfl hst15
 obtain ⟨l17, a18, c19, rfl⟩ := hst.len 0 rfl
 refine OW.pure 1 [(3, .slice a18 (r12).length c19)] (by kernel_rfl) (OW.nil rfl (QW.next (CW.seq (CW.region ?_))))
 refine OW.pure 1 [(4, .int .i64 0)] (by kernel_rfl) (OW.nil rfl (QW.next (CW.seq (CW.seq (CW.region ?_)))))
 refine OW.pure 3 [(12, .int .i64 ((p0).length : Int)), (13, .int .i64 0)] (by kernel_rfl) (OW.nil rfl (QW.next ?_))
 obtain ⟨o575, ho576, hF⟩ := bind_some' hF
 refine CW.cutK (fun a w1 => Rep 38 [(4, .int .i64 o575)] a ∧ St w (fp []) w1 []) ?_ ?_
 ·refine CW.block ?_
  refine CW.loop (fun n a w1 => ∃ (i947 : Nat) (s946 : Int), i947 + n = (p0).length ∧ Rep 38 [(3, .slice a18 (r12).length c19), (4, .int .i64 s946), (12, .int .i64 ((p0).length : Int)), (13, .int .i64 (i947 : Int))] a ∧ St w (fp []) w1 [rowI (.slice a18 (r12).length c19) 164 enc_api_Loop 3 r12] ∧ forN (flow_cost_l1 r12) (fun (s946 : Int) => s946) n i947 s946 = some o575) (p0).length (fun a ha => ⟨0, 0, Nat.zero_add _, ha.agrees (by kernel_rfl), hst.keep [0] rfl, ho576⟩) ?_
  rintro n944 a w1 ⟨i947, s946, hi948, ha, hst, hl945⟩
  refine CW.go ?_ ha
  refine CW.seq (CW.region ?_)
  refine OW.pure 1 [(14, .bool (decide ((i947 : Int) < ((p0).length : Int))))] (by kernel_rfl) (OW.nil rfl (QW.next (CW.seq ?_)))
  rcases Bool.eq_false_or_eq_true (decide ((i947 : Int) < ((p0).length : Int))) with hc949 | hc949
  ·rcases n944 with _ | n944
   ·exact (cnt0 hi948 hc949).elim
   refine CW.cond_t rfl hc949 (CW.skip (QW.next (CW.seq (CW.block (CW.seq (CW.region ?_))))))
   refine OW.pure 2 [(5, .int .i64 (i947 : Int))] (by kernel_rfl) (OW.nil rfl (QW.next (CW.seq (CW.region ?_))))
   refine OW.pure 1 [(6, .int .i64 1)] (by kernel_rfl) (OW.nil rfl (QW.next (CW.seq (CW.seq (CW.region ?_)))))
   refine OW.pure 3 [(16, .slice a18 (r12).length c19), (17, .int .i64 ((r12).length : Int)), (18, .int .i64 0)] (by kernel_rfl) (OW.nil rfl (QW.next ?_))
   obtain ⟨o1040, ho1041, hl945⟩ := bind_some' hl945
   refine CW.cutK (fun a w1 => Rep 38 [(3, .slice a18 (r12).length c19), (4, .int .i64 s946), (6, .int .i64 o1040), (12, .int .i64 ((p0).length : Int)), (13, .int .i64 (i947 : Int))] a ∧ St w (fp []) w1 [rowI (.slice a18 (r12).length c19) 164 enc_api_Loop 3 r12]) ?_ ?_
   ·refine CW.block ?_
    refine CW.loop (fun n a w1 => ∃ (i1102 : Nat) (s1101 : Int), i1102 + n = (r12).length ∧ Rep 38 [(3, .slice a18 (r12).length c19), (4, .int .i64 s946), (5, .int .i64 (i947 : Int)), (6, .int .i64 s1101), (12, .int .i64 ((p0).length : Int)), (13, .int .i64 (i947 : Int)), (16, .slice a18 (r12).length c19), (17, .int .i64 ((r12).length : Int)), (18, .int .i64 (i1102 : Int))] a ∧ St w (fp []) w1 [rowI (.slice a18 (r12).length c19) 164 enc_api_Loop 3 r12] ∧ forN (flow_cost_l2 r12 i947) (fun (s1101 : Int) => s1101) n i1102 s1101 = some o1040) (r12).length (fun a ha => ⟨0, 1, Nat.zero_add _, ha.agrees (by kernel_rfl), hst.keep [0] rfl, ho1041⟩) ?_
    rintro n1099 a w1 ⟨i1102, s1101, hi1103, ha, hst, hl1100⟩
    refine CW.go ?_ ha
    refine CW.seq (CW.region ?_)
    refine OW.pure 1 [(19, .bool (decide ((i1102 : Int) < ((r12).length : Int))))] (by kernel_rfl) (OW.nil rfl (QW.next (CW.seq ?_)))
    rcases Bool.eq_false_or_eq_true (decide ((i1102 : Int) < ((r12).length : Int))) with hc1104 | hc1104
    ·rcases n1099 with _ | n1099
     ·exact (cnt0 hi1103 hc1104).elim
     refine CW.cond_t rfl hc1104 (CW.skip (QW.next (CW.seq (CW.block (CW.seq (CW.region ?_))))))
     obtain ⟨x1114, hx1115, hl1100⟩ := bind_some' hl1100
     obtain ⟨g1117, o1118, c1119, hv1116⟩ := hst.rowv 0 rfl hx1115
     refine OW.idx 164 3 rfl rfl rfl rfl hv1116 rfl (idx_some hx1115).1 (idx_some hx1115).2.1 (by kernel_rfl) (by kernel_rfl) ?_
     refine OW.ldN (cs := enc_api_Loop x1114) rfl rfl rfl rfl (by kernel_rfl) (by kernel_rfl) (hst.rowc 0 rfl (fun _ => rfl) hx1115 hv1116) ?_
     refine OW.alloc hst rfl rfl rfl [.int .i64 0, .int .i64 0, .int .i64 0] (by kernel_rfl) ?_
     intro b1120 w1121 hst
     refine OW.stB hst 1 rfl rfl rfl rfl rfl (by kernel_rfl) rfl rfl [.int .i64 x1114.Head, .int .i64 x1114.At, .int .i64 x1114.Bound] rfl ?_
     intro w1122 hst
     refine OW.nil rfl (QW.next (CW.seq (CW.region ?_)))
     refine OW.ldN (cs := [.int .i64 x1114.Head, .int .i64 x1114.At, .int .i64 x1114.Bound]) rfl rfl rfl rfl (by kernel_rfl) (by kernel_rfl) (hst.blkN 1 rfl 0 3) ?_
     refine OW.pure 1 [(23, .int .i64 (i947 : Int))] (by kernel_rfl) ?_
     obtain ⟨r1127, hr1128, hl1100⟩ := bind_some' hl1100
     refine OW.fn rfl rfl rfl rfl (by kernel_rfl) (flow_in_ok _ x1114 (i947 : Int) r1127 hr1128 (hst.part [] rfl)) ?_
     rintro e w1129 ⟨rfl, hst1130⟩
     refine ⟨_, rfl, ?_⟩
     have hst := hst.join (idx := []) (rest := [0, 1]) rfl hst1130
     refine OW.nil rfl (QW.next ?_)
     rcases Bool.eq_false_or_eq_true (r1127) with hc1131 | hc1131
     ·have hl1100 := ite_t hl1100 hc1131
      refine CW.cond_t rfl hc1131 (CW.region ?_)
      refine OW.pure 2 [(25, .int .i64 s1101), (26, .pointer (some ⟨b1120, 2, none⟩))] (by kernel_rfl) ?_
      refine OW.ld rfl rfl rfl rfl (by kernel_rfl) (hst.blk 1 rfl rfl) ?_
      refine OW.pure 4 [(6, .int .i64 (imin (w64 (s1101 * (w64 (x1114.Bound + 1)))) 257))] (by kernel_rfl) (OW.nil rfl (QW.block_normal (QW.next (CW.region ?_))))
      refine OW.pure 2 [(18, .int .i64 (w64 ((i1102 : Int) + 1)))] (by kernel_rfl) (OW.nil rfl ?_)
      refine QW.say 18 rfl (congrArg (Value.int .i64) (w64_cnt hc1104 l17)) ?_
      exact QW.meet (fun a ha => ⟨n1099, Nat.lt_succ_self _, i1102 + 1, (imin (w64 (s1101 * (w64 (x1114.Bound + 1)))) 257), cnt_next hi1103, ha.agrees (by kernel_rfl), hst.keep [0] rfl, hl1100⟩)
     have hl1100 := ite_f hl1100 hc1131
     refine CW.cond_f rfl hc1131 (CW.skip (QW.block_normal (QW.next (CW.region ?_))))
     refine OW.pure 2 [(18, .int .i64 (w64 ((i1102 : Int) + 1)))] (by kernel_rfl) (OW.nil rfl ?_)
     refine QW.say 18 rfl (congrArg (Value.int .i64) (w64_cnt hc1104 l17)) ?_
     exact QW.meet (fun a ha => ⟨n1099, Nat.lt_succ_self _, i1102 + 1, s1101, cnt_next hi1103, ha.agrees (by kernel_rfl), hst.keep [0] rfl, hl1100⟩)
    rcases n1099 with _ | n1099
    ·refine CW.cond_f rfl hc1104 ?_
     refine CW.exit (QW.then_exit (QW.then_exit ?_))
     refine QW.block_here ?_
     obtain rfl := Option.some.inj hl1100
     exact QW.meet (fun a ha => ⟨ha.agrees (by kernel_rfl), hst.keep [0] rfl⟩)
    exact (cnt1 hi1103 hc1104).elim
   rintro a w1 ⟨ha, hst⟩
   refine CW.go ?_ ha
   refine CW.region ?_
   refine OW.pure 5 [(4, .int .i64 (imin (w64 (s946 + o1040)) 257))] (by kernel_rfl) (OW.nil rfl (QW.block_normal (QW.next (CW.region ?_))))
   refine OW.pure 2 [(13, .int .i64 (w64 ((i947 : Int) + 1)))] (by kernel_rfl) (OW.nil rfl ?_)
   refine QW.say 13 rfl (congrArg (Value.int .i64) (w64_cnt hc949 l1)) ?_
   exact QW.meet (fun a ha => ⟨n944, Nat.lt_succ_self _, i947 + 1, (imin (w64 (s946 + o1040)) 257), cnt_next hi948, ha.agrees (by kernel_rfl), hst.keep [0] rfl, hl945⟩)
  rcases n944 with _ | n944
  ·refine CW.cond_f rfl hc949 ?_
   refine CW.exit (QW.then_exit (QW.then_exit ?_))
   refine QW.block_here ?_
   obtain rfl := Option.some.inj hl945
   exact QW.meet (fun a ha => ⟨ha.agrees (by kernel_rfl), hst.keep [] rfl⟩)
  exact (cnt1 hi948 hc949).elim
 rintro a w1 ⟨ha, hst⟩
 refine CW.go ?_ ha
 refine CW.seq (CW.region ?_)
 refine OW.pure 2 [(2, .int .i64 o575)] (by kernel_rfl) (OW.nil rfl (QW.next (CW.ret ?_)))
 obtain rfl := Option.some.inj hF
 refine QW.ret1 rfl rfl ?_
 exact ⟨rfl, hst.keep [] rfl⟩
theorem flow_Check_ok (w : World) (v0 : Value) (p0 : List api_Inst) (r : Int × Int) (hF : flow_Check p0 = some r)
    (hst : St w (fp []) w []) (h0 : Rd w (fp []) v0 enc_api_Inst 5 p0) (hT0 : Rd w (fp []) (.slice (some ⟨0, 0, none⟩) 23 23) enc_ops_form 2 tab_g0) :
    Calls Tryz.prog 47 [v0].toArray w (fun e w' => e = .returned (.tuple #[.int .i64 r.1, .int .i64 r.2]) ∧ St w (fp []) w' []) := by
 refine CW.start (N := 37) Tryz.func47 rfl rfl rfl ?_
 obtain ⟨l1, a2, c3, rfl⟩ := h0.len
 refine CW.seq (CW.region ?_)
 refine OW.pure 2 [] (by kernel_rfl) (OW.nil rfl (QW.next (CW.seq (CW.block (CW.seq (CW.region ?_))))))
 refine OW.pure 4 [(8, .bool (((p0).length : Int) == 0))] (by kernel_rfl) (OW.nil rfl (QW.next ?_))
 rcases Bool.eq_false_or_eq_true ((((p0).length : Int) == 0)) with hc4 | hc4
 ·have hF := ite_t hF hc4
  refine CW.cond_t rfl hc4 (CW.seq (CW.region ?_))
  refine OW.pure 2 [(2, .int .i64 0), (3, .int .i64 10)] (by kernel_rfl) (OW.nil rfl (QW.next (CW.ret (QW.block_ret (QW.then_ret ?_)))))
  obtain rfl := Option.some.inj hF
  refine QW.ret2 rfl rfl rfl ?_
  exact ⟨rfl, hst.keep [] rfl⟩
 have hF := ite_f hF hc4
 refine CW.cond_f rfl hc4 (CW.seq (CW.region ?_))
 refine OW.pure 4 [(12, .bool (decide (((p0).length : Int) > 64)))] (by kernel_rfl) (OW.nil rfl (QW.next ?_))
 rcases Bool.eq_false_or_eq_true (decide (((p0).length : Int) > 64)) with hc5 | hc5
 ·have hF := ite_t hF hc5
  refine CW.cond_t rfl hc5 (CW.seq (CW.region ?_))
  refine OW.pure 2 [(2, .int .i64 0), (3, .int .i64 11)] (by kernel_rfl) (OW.nil rfl (QW.next (CW.ret (QW.block_ret (QW.then_ret ?_)))))
  obtain rfl := Option.some.inj hF
  refine QW.ret2 rfl rfl rfl ?_
  exact ⟨rfl, hst.keep [] rfl⟩
 have hF := ite_f hF hc5
 refine CW.cond_f rfl hc5 (CW.skip (QW.block_normal (QW.next (CW.seq (CW.seq (CW.region ?_))))))
 refine OW.pure 1 [(17, .slice a2 (p0).length c3)] (by kernel_rfl) ?_
 obtain ⟨r10, hr11, hF⟩ := bind_some' hF
 refine OW.fn rfl rfl rfl rfl (by kernel_rfl) (flow_places_ok _ (.slice a2 (p0).length c3) p0 r10 hr11 (hst.part [] rfl) (h0.give hst []) (hT0.give hst [])) ?_
 rintro e w12 ⟨rfl, hst13⟩
 refine ⟨_, rfl, ?_⟩
 have hst := hst.join (idx := []) (rest := []) rfl hst13
 refine OW.pure 5 [(4, .int .i64 r10.1), (5, .int .i64 r10.2)] (by kernel_rfl) (OW.nil rfl (QW.next (CW.seq (CW.region ?_))))
 refine OW.pure 2 [(22, .bool (r10.2 != 0))] (by kernel_rfl) (OW.nil rfl (QW.next ?_))
 rcases Bool.eq_false_or_eq_true ((r10.2 != 0)) with hc14 | hc14
 ·have hF := ite_t hF hc14
  refine CW.cond_t rfl hc14 (CW.seq (CW.region ?_))
  refine OW.pure 4 [(2, .int .i64 r10.1), (3, .int .i64 r10.2)] (by kernel_rfl) (OW.nil rfl (QW.next (CW.ret (QW.then_ret ?_))))
  obtain rfl := Option.some.inj hF
  refine QW.ret2 rfl rfl rfl ?_
  exact ⟨rfl, hst.keep [] rfl⟩
 have hF := ite_f hF hc14
 refine CW.cond_f rfl hc14 (CW.skip (QW.next (CW.seq (CW.seq (CW.region ?_)))))
 refine OW.pure 1 [(26, .slice a2 (p0).length c3)] (by kernel_rfl) ?_
 obtain ⟨r19, hr20, hF⟩ := bind_some' hF
 refine OW.fn rfl rfl rfl rfl (by kernel_rfl) (flow_nested_ok _ (.slice a2 (p0).length c3) p0 r19 hr20 (hst.part [] rfl) (h0.give hst []) (hT0.give hst [])) ?_
 rintro e w21 ⟨rfl, hst22⟩
 refine ⟨_, rfl, ?_⟩
 have hst := hst.join (idx := []) (rest := []) rfl hst22
 refine OW.pure 5 [(6, .int .i64 r19.1), (7, .int .i64 r19.2)] (by kernel_rfl) (OW.nil rfl (QW.next (CW.seq (CW.region ?_))))
 refine OW.pure 2 [(31, .bool (r19.2 != 0))] (by kernel_rfl) (OW.nil rfl (QW.next ?_))
 rcases Bool.eq_false_or_eq_true ((r19.2 != 0)) with hc23 | hc23
 ·have hF := ite_t hF hc23
  refine CW.cond_t rfl hc23 (CW.seq (CW.region ?_))
  refine OW.pure 4 [(2, .int .i64 r19.1), (3, .int .i64 r19.2)] (by kernel_rfl) (OW.nil rfl (QW.next (CW.ret (QW.then_ret ?_))))
  obtain rfl := Option.some.inj hF
  refine QW.ret2 rfl rfl rfl ?_
  exact ⟨rfl, hst.keep [] rfl⟩
 have hF := ite_f hF hc23
 refine CW.cond_f rfl hc23 (CW.skip (QW.next (CW.seq (CW.seq (CW.region ?_)))))
 refine OW.pure 1 [(34, .slice a2 (p0).length c3)] (by kernel_rfl) ?_
 obtain ⟨r28, hr29, hF⟩ := bind_some' hF
 refine OW.fn rfl rfl rfl rfl (by kernel_rfl) (flow_cost_ok _ (.slice a2 (p0).length c3) p0 r28 hr29 (hst.part [] rfl) (h0.give hst [])) ?_
 rintro e w30 ⟨rfl, hst31⟩
 refine ⟨_, rfl, ?_⟩
 have hst := hst.join (idx := []) (rest := []) rfl hst31
 refine OW.pure 1 [(36, .bool (decide (r28 > 256)))] (by kernel_rfl) (OW.nil rfl (QW.next ?_))
 rcases Bool.eq_false_or_eq_true (decide (r28 > 256)) with hc32 | hc32
 ·have hF := ite_t hF hc32
  refine CW.cond_t rfl hc32 (CW.seq (CW.region ?_))
  refine OW.pure 2 [(2, .int .i64 0), (3, .int .i64 32)] (by kernel_rfl) (OW.nil rfl (QW.next (CW.ret (QW.then_ret ?_))))
  obtain rfl := Option.some.inj hF
  refine QW.ret2 rfl rfl rfl ?_
  exact ⟨rfl, hst.keep [] rfl⟩
 have hF := ite_f hF hc32
 refine CW.cond_f rfl hc32 (CW.skip (QW.next (CW.seq (CW.region ?_))))
 refine OW.pure 2 [(2, .int .i64 0), (3, .int .i64 0)] (by kernel_rfl) (OW.nil rfl (QW.next (CW.ret ?_)))
 obtain rfl := Option.some.inj hF
 refine QW.ret2 rfl rfl rfl ?_
 exact ⟨rfl, hst.keep [] rfl⟩
theorem flow_Loops_ok (w : World) (v0 : Value) (p0 : List api_Inst) (r : (List api_Loop) × Int) (hF : flow_Loops p0 = some r)
    (hst : St w (fp []) w []) (h0 : Rd w (fp []) v0 enc_api_Inst 5 p0) (hT0 : Rd w (fp []) (.slice (some ⟨0, 0, none⟩) 23 23) enc_ops_form 2 tab_g0) :
    Calls Tryz.prog 74 [v0].toArray w (fun e w' => ∃ (x0 : Value), e = .returned (.tuple #[x0, .int .i64 r.2]) ∧ St w (fp []) w' [rowI x0 164 enc_api_Loop 3 r.1]) := by
 refine CW.start (N := 16) Tryz.func74 rfl rfl rfl ?_
 obtain ⟨l1, a2, c3, rfl⟩ := h0.len
 refine CW.seq (CW.region ?_)
 refine OW.pure 2 [] (by kernel_rfl) (OW.nil rfl (QW.next (CW.seq (CW.seq (CW.region ?_)))))
 refine OW.pure 1 [(7, .slice a2 (p0).length c3)] (by kernel_rfl) ?_
 obtain ⟨r8, hr9, hF⟩ := bind_some' hF
 refine OW.fn rfl rfl rfl rfl (by kernel_rfl) (flow_Check_ok _ (.slice a2 (p0).length c3) p0 r8 hr9 (hst.part [] rfl) (h0.give hst []) (hT0.give hst [])) ?_
 rintro e w10 ⟨rfl, hst11⟩
 refine ⟨_, rfl, ?_⟩
 have hst := hst.join (idx := []) (rest := []) rfl hst11
 refine OW.pure 5 [(5, .int .i64 r8.2)] (by kernel_rfl) (OW.nil rfl (QW.next (CW.seq (CW.region ?_))))
 refine OW.pure 2 [(12, .bool (r8.2 != 0))] (by kernel_rfl) (OW.nil rfl (QW.next ?_))
 rcases Bool.eq_false_or_eq_true ((r8.2 != 0)) with hc12 | hc12
 ·have hF := ite_t hF hc12
  refine CW.cond_t rfl hc12 (CW.seq (CW.region ?_))
  refine OW.pure 3 [(2, .slice none 0 0), (3, .int .i64 r8.2)] (by kernel_rfl) (OW.nil rfl (QW.next (CW.ret (QW.then_ret ?_))))
  have hst := hst.nilRow api_Loop 164 enc_api_Loop 3
  obtain rfl := Option.some.inj hF
  refine QW.ret2 rfl rfl rfl ?_
  exact ⟨(.slice none 0 0), rfl, hst.keep [0] rfl⟩
 have hF := ite_f hF hc12
 refine CW.cond_f rfl hc12 (CW.skip (QW.next (CW.seq (CW.region ?_))))
 refine OW.pure 1 [(14, .slice a2 (p0).length c3)] (by kernel_rfl) ?_
 obtain ⟨r21, hr22, hF⟩ := bind_some' hF
 refine OW.fn rfl rfl rfl rfl (by kernel_rfl) (flow_loops_ok _ (.slice a2 (p0).length c3) p0 r21 hr22 (hst.part [] rfl) (h0.give hst [])) ?_
 rintro e w23 ⟨v25, rfl, hst24⟩
 refine ⟨_, rfl, ?_⟩
 have hst := hst.join (idx := []) (rest := []) rfl hst24
 obtain ⟨l26, a27, c28, rfl⟩ := hst.len 0 rfl
 refine OW.pure 2 [(2, .slice a27 (r21).length c28), (3, .int .i64 0)] (by kernel_rfl) (OW.nil rfl (QW.next (CW.ret ?_)))
 obtain rfl := Option.some.inj hF
 refine QW.ret2 rfl rfl rfl ?_
 exact ⟨(.slice a27 (r21).length c28), rfl, hst.keep [0] rfl⟩
theorem ops_Writes_ok (w : World) (p0 : api_Inst) (r : Int × Bool) (hF : ops_Writes p0 = some r)
    (hst : St w (fp []) w []) (hT0 : Rd w (fp []) (.slice (some ⟨0, 0, none⟩) 23 23) enc_ops_form 2 tab_g0) :
    Calls Tryz.prog 110 [.agg [.int .i64 p0.Op, .int .i64 p0.D, .int .i64 p0.A, .int .i64 p0.B, .int .i64 p0.Imm].toArray].toArray w (fun e w' => e = .returned (.tuple #[.int .i64 r.1, .bool r.2]) ∧ St w (fp []) w' []) := by
 refine CW.start (N := 22) Tryz.func110 rfl rfl rfl (CW.seq (CW.region ?_))
 refine OW.box hst rfl rfl rfl rfl [.int .i64 p0.Op, .int .i64 p0.D, .int .i64 p0.A, .int .i64 p0.B, .int .i64 p0.Imm] rfl ?_
 intro b3 w4 hst
 refine OW.pure 2 [] (by kernel_rfl) (OW.nil rfl (QW.next (CW.seq (CW.seq (CW.region ?_)))))
 refine OW.ldN (cs := [.int .i64 p0.Op, .int .i64 p0.D, .int .i64 p0.A, .int .i64 p0.B, .int .i64 p0.Imm]) rfl rfl rfl rfl (by kernel_rfl) (by kernel_rfl) (hst.blkN 0 rfl 0 5) ?_
 obtain ⟨r9, hr10, hF⟩ := bind_some' hF
 refine OW.fn rfl rfl rfl rfl (by kernel_rfl) (ops_right_ok _ p0 r9 hr10 (hst.part [] rfl) (hT0.give hst [])) ?_
 rintro e w11 ⟨rfl, hst12⟩
 refine ⟨_, rfl, ?_⟩
 have hst := hst.join (idx := []) (rest := [0]) rfl hst12
 refine OW.pure 1 [(8, .bool (!r9))] (by kernel_rfl) (OW.nil rfl (QW.next ?_))
 rcases Bool.eq_false_or_eq_true ((!r9)) with hc13 | hc13
 ·have hF := ite_t hF hc13
  refine CW.cond_t rfl hc13 (CW.seq (CW.region ?_))
  refine OW.pure 2 [(2, .int .i64 0), (3, .bool false)] (by kernel_rfl) (OW.nil rfl (QW.next (CW.ret (QW.then_ret ?_))))
  obtain rfl := Option.some.inj hF
  refine QW.ret2 rfl rfl rfl ?_
  exact ⟨rfl, hst.keep [] rfl⟩
 have hF := ite_f hF hc13
 refine CW.cond_f rfl hc13 (CW.skip (QW.next (CW.seq (CW.region ?_))))
 refine OW.pure 1 [(10, .pointer (some ⟨b3, 0, none⟩))] (by kernel_rfl) ?_
 refine OW.ld rfl rfl rfl rfl (by kernel_rfl) (hst.blk 0 rfl rfl) ?_
 obtain ⟨r21, hr22, hF⟩ := bind_some' hF
 refine OW.fn rfl rfl rfl rfl (by kernel_rfl) (ops_of_ok _ p0.Op r21 hr22 (hst.part [] rfl) (hT0.give hst [])) ?_
 rintro e w23 ⟨rfl, hst24⟩
 refine ⟨_, rfl, ?_⟩
 have hst := hst.join (idx := []) (rest := [0]) rfl hst24
 refine OW.pure 3 [(13, .agg [.string r21.1.name, .string r21.1.fields].toArray), (14, .bool r21.2)] (by kernel_rfl) ?_
 refine OW.alloc hst rfl rfl rfl [.string ByteArray.empty, .string ByteArray.empty] (by kernel_rfl) ?_
 intro b25 w26 hst
 refine OW.stB hst 1 rfl rfl rfl rfl rfl (by kernel_rfl) rfl rfl [.string r21.1.name, .string r21.1.fields] rfl ?_
 intro w27 hst
 refine OW.pure 1 [] (by kernel_rfl) (OW.nil rfl (QW.next (CW.seq (CW.seq (CW.region ?_)))))
 refine OW.ldN (cs := [.string r21.1.name, .string r21.1.fields]) rfl rfl rfl rfl (by kernel_rfl) (by kernel_rfl) (hst.blkN 1 rfl 0 2) ?_
 obtain ⟨r32, hr33, hF⟩ := bind_some' hF
 refine OW.fn rfl rfl rfl rfl (by kernel_rfl) (ops_form_uses_ok _ r21.1 100 r32 hr33 (hst.part [] rfl)) ?_
 rintro e w34 ⟨rfl, hst35⟩
 refine ⟨_, rfl, ?_⟩
 have hst := hst.join (idx := []) (rest := [0, 1]) rfl hst35
 refine OW.nil rfl (QW.next ?_)
 rcases Bool.eq_false_or_eq_true (r32) with hc36 | hc36
 ·have hF := ite_t hF hc36
  refine CW.cond_t rfl hc36 (CW.seq (CW.region ?_))
  refine OW.pure 1 [(17, .pointer (some ⟨b3, 1, none⟩))] (by kernel_rfl) ?_
  refine OW.ld rfl rfl rfl rfl (by kernel_rfl) (hst.blk 0 rfl rfl) ?_
  refine OW.pure 2 [(2, .int .i64 p0.D), (3, .bool true)] (by kernel_rfl) (OW.nil rfl (QW.next (CW.ret (QW.then_ret ?_))))
  obtain rfl := Option.some.inj hF
  refine QW.ret2 rfl rfl rfl ?_
  exact ⟨rfl, hst.keep [] rfl⟩
 have hF := ite_f hF hc36
 refine CW.cond_f rfl hc36 (CW.skip (QW.next (CW.seq ?_)))
 refine CW.still (by kernel_rfl) (by kernel_rfl) ?_
 intro w39 hch40
 have hst := hst.same hch40
 refine OS.pure 1 [(19, .pointer (some ⟨b3, 0, none⟩))] rfl (by kernel_rfl) ?_
 refine OS.ld rfl rfl rfl rfl rfl (by kernel_rfl) (hst.blk 0 rfl rfl) ?_
 refine OS.pure 3 [(2, .int .i64 0), (3, .bool (p0.Op == 21))] rfl (by kernel_rfl) ?_
 refine OS.fin rfl (QW.next (CW.ret ?_))
 obtain rfl := Option.some.inj hF
 refine QW.ret2 rfl rfl rfl ?_
 exact ⟨rfl, hst.keep [] rfl⟩
theorem span_Full_ok (w : World)  (r : api_Span) (hF : span_Full  = some r)
    (hst : St w (fp []) w []) :
    Calls Tryz.prog 112 [].toArray w (fun e w' => e = .returned (.agg [.int .u64 r.Lo, .int .u64 r.Hi].toArray) ∧ St w (fp []) w' []) := by
 refine CW.start (N := 2) Tryz.func112 rfl rfl rfl (CW.seq (CW.region ?_))
 refine OW.alloc hst rfl rfl rfl [.int .u64 0, .int .u64 0] (by kernel_rfl) ?_
 intro b3 w4 hst
 refine OW.nil rfl (QW.next (CW.seq (CW.region ?_)))
 refine OW.pure 1 [(1, .agg [.int .u64 0, .int .u64 18446744073709551615].toArray)] (by kernel_rfl) ?_
 refine OW.stB hst 0 rfl rfl rfl rfl rfl (by kernel_rfl) rfl rfl [.int .u64 0, .int .u64 18446744073709551615] rfl ?_
 intro w6 hst
 refine OW.nil rfl (QW.next (CW.ret ?_))
 obtain rfl := Option.some.inj hF
 refine QW.ret_c rfl rfl (run_loadN (cs := [.int .u64 0, .int .u64 18446744073709551615]) (by kernel_rfl) (by kernel_rfl) (hst.blkN 0 rfl 0 2)) ?_
 exact ⟨rfl, hst.keep [] rfl⟩
theorem judge_number_ok (w : World) (p0 : api_Span) (r : api_Type) (hF : judge_number p0 = some r)
    (hst : St w (fp []) w []) :
    Calls Tryz.prog 111 [.agg [.int .u64 p0.Lo, .int .u64 p0.Hi].toArray].toArray w (fun e w' => e = .returned (.agg [.int .i64 r.Kind, .int .u64 r.Span.Lo, .int .u64 r.Span.Hi, .int .i64 r.Map].toArray) ∧ St w (fp []) w' []) := by
 refine CW.start (N := 5) Tryz.func111 rfl rfl rfl (CW.seq (CW.region ?_))
 refine OW.box hst rfl rfl rfl rfl [.int .u64 p0.Lo, .int .u64 p0.Hi] rfl ?_
 intro b5 w6 hst
 refine OW.alloc hst rfl rfl rfl [.int .i64 0, .int .u64 0, .int .u64 0, .int .i64 0] (by kernel_rfl) ?_
 intro b7 w8 hst
 refine OW.nil rfl (QW.next (CW.seq (CW.region ?_)))
 refine OW.ldN (cs := [.int .u64 p0.Lo, .int .u64 p0.Hi]) rfl rfl rfl rfl (by kernel_rfl) (by kernel_rfl) (hst.blkN 0 rfl 0 2) ?_
 refine OW.pure 1 [(4, .agg [.int .i64 1, .int .u64 p0.Lo, .int .u64 p0.Hi, .int .i64 0].toArray)] (by kernel_rfl) ?_
 refine OW.stB hst 1 rfl rfl rfl rfl rfl (by kernel_rfl) rfl rfl [.int .i64 1, .int .u64 p0.Lo, .int .u64 p0.Hi, .int .i64 0] rfl ?_
 intro w10 hst
 refine OW.nil rfl (QW.next (CW.ret ?_))
 obtain rfl := Option.some.inj hF
 refine QW.ret_c rfl rfl (run_loadN (cs := [.int .i64 1, .int .u64 p0.Lo, .int .u64 p0.Hi, .int .i64 0]) (by kernel_rfl) (by kernel_rfl) (hst.blkN 1 rfl 0 4)) ?_
 exact ⟨rfl, hst.keep [] rfl⟩
theorem judge_judge_widen_ok (w : World) (wb : World) (Sb : List Nat) (v0 : Value) (S0 : List Nat) (p0 : judge_judge) (p1 : Int) (r : judge_judge) (hF : judge_judge_widen p0 p1 = some r)
    (hst : St w (fp [itI (R_t116 wb Sb) [v0] S0 p0]) w [itI (R_t116 wb Sb) [v0] S0 p0]) (hb : Bor wb Sb w (fp [itI (R_t116 wb Sb) [v0] S0 p0])) (hT0 : Rd w (fp [itI (R_t116 wb Sb) [v0] S0 p0]) (.slice (some ⟨0, 0, none⟩) 23 23) enc_ops_form 2 tab_g0) :
    Calls Tryz.prog 75 [v0, .int .i64 p1].toArray w (fun e w' => ∃ (s0 : List Nat), e = .returned (.tuple #[]) ∧ St w (fp [itI (R_t116 wb Sb) [v0] S0 p0]) w' [itI (R_t116 wb Sb) [v0] s0 r]) := by
 refine CW.start (N := 78) Tryz.func75 rfl rfl rfl ?_
 obtain ⟨b1, rfl⟩ := hst.fptr 0 rfl
 refine CW.seq ?_
 obtain ⟨v2, S3, v4, S5, v6, S7, v8, S9, v10, S11, hst⟩ := hst.openQ5 0 rfl rfl rfl rfl rfl rfl
 have hbo12 := hst.borOut 1 rfl
 have hbr13 := hbo12.bor hb
 have hbo14 := hst.borOut 2 rfl
 have hbr15 := hbo14.bor hb
 have hst := hst.toRow1 3 rfl
 have hst := hst.toRow1 4 rfl
 have hst := hst.toRow1 5 rfl
 have hst := hst.keep [0, 3, 4, 5] rfl
 obtain ⟨l16, a17, c18, rfl⟩ := hbr13.len
 obtain ⟨l19, a20, c21, rfl⟩ := hbr15.len
 obtain ⟨l22, a23, c24, rfl⟩ := hst.len 1 rfl
 obtain ⟨l25, a26, c27, rfl⟩ := hst.len 2 rfl
 obtain ⟨l28, a29, c30, rfl⟩ := hst.len 3 rfl
 have hst : St _ _ _ [blkI b1 148 [.slice a17 (p0.Module.Maps).length c18, .slice a20 (p0.Module.Code).length c21, .slice a23 (p0.came).length c24, .slice a26 (p0.any).length c27, .slice a29 (p0.loops).length c30], _, _, _] := hst
 refine CW.region ?_
 refine OW.pure 3 [(12, .pointer (some ⟨b1, 4, none⟩))] (by kernel_rfl) ?_
 refine OW.ld rfl rfl rfl rfl (by kernel_rfl) (hst.blk 0 rfl rfl) ?_
 refine OW.pure 2 [(14, .int .i64 ((p0.loops).length : Int)), (15, .int .i64 0)] (by kernel_rfl) (OW.nil rfl (QW.next ?_))
 obtain ⟨o1835, ho1836, hF⟩ := bind_some' hF
 refine CW.cutQ (fun a w1 => ∃ (S1834 : List Nat), Rep 78 [] a ∧ St w (fp [itI (R_t116 wb Sb) [.pointer (some ⟨b1, 0, none⟩)] S0 p0]) w1 [itI (R_t116 wb Sb) [.pointer (some ⟨b1, 0, none⟩)] S1834 o1835]) ?_ ?_
 ·refine CW.block ?_
  refine CW.loop (fun n a w1 => ∃ (i3038 : Nat) (s3036 : (List (Nat → api_Type))) (v3037 : Value), i3038 + n = (p0.loops).length ∧ Rep 78 [(0, .pointer (some ⟨b1, 0, none⟩)), (1, .int .i64 p1), (13, .slice a29 (p0.loops).length c30), (14, .int .i64 ((p0.loops).length : Int)), (15, .int .i64 (i3038 : Int))] a ∧ St w (fp [itI (R_t116 wb Sb) [.pointer (some ⟨b1, 0, none⟩)] S0 p0]) w1 [blkI b1 148 [.slice a17 (p0.Module.Maps).length c18, .slice a20 (p0.Module.Code).length c21, v3037, .slice a26 (p0.any).length c27, .slice a29 (p0.loops).length c30], rowI v3037 158 (arrC (enc_api_Type) 8) 32 s3036, rowI (.slice a26 (p0.any).length c27) 4 encBool 1 p0.any, rowI (.slice a29 (p0.loops).length c30) 164 enc_api_Loop 3 p0.loops] ∧ forN (judge_judge_widen_l1 p0 p1) (fun (s3036 : (List (Nat → api_Type))) => (judge_judge.mk p0.Module s3036 p0.any p0.loops)) n i3038 s3036 = some o1835) (p0.loops).length (fun a ha => ⟨0, p0.came, (.slice a23 (p0.came).length c24), Nat.zero_add _, ha.agrees (by kernel_rfl), hst.keep [0, 1, 2, 3] rfl, ho1836⟩) ?_
  rintro n3034 a w1 ⟨i3038, s3036, v3037, hi3039, ha, hst, hl3035⟩
  refine CW.go ?_ ha
  obtain ⟨l3040, a3041, c3042, rfl⟩ := hst.len 1 rfl
  refine CW.seq (CW.region ?_)
  refine OW.pure 1 [(16, .bool (decide ((i3038 : Int) < ((p0.loops).length : Int))))] (by kernel_rfl) (OW.nil rfl (QW.next (CW.seq ?_)))
  rcases Bool.eq_false_or_eq_true (decide ((i3038 : Int) < ((p0.loops).length : Int))) with hc3043 | hc3043
  ·rcases n3034 with _ | n3034
   ·exact (cnt0 hi3039 hc3043).elim
   refine CW.cond_t rfl hc3043 (CW.skip (QW.next (CW.seq (CW.block (CW.seq (CW.region ?_))))))
   obtain ⟨x3053, hx3054, hl3035⟩ := bind_some' hl3035
   obtain ⟨g3056, o3057, c3058, hv3055⟩ := hst.rowv 3 rfl hx3054
   refine OW.idx 164 3 rfl rfl rfl rfl hv3055 rfl (idx_some hx3054).1 (idx_some hx3054).2.1 (by kernel_rfl) (by kernel_rfl) ?_
   refine OW.ldN (cs := enc_api_Loop x3053) rfl rfl rfl rfl (by kernel_rfl) (by kernel_rfl) (hst.rowc 3 rfl (fun _ => rfl) hx3054 hv3055) ?_
   refine OW.alloc hst rfl rfl rfl [.int .i64 0, .int .i64 0, .int .i64 0] (by kernel_rfl) ?_
   intro b3059 w3060 hst
   refine OW.stB hst 4 rfl rfl rfl rfl rfl (by kernel_rfl) rfl rfl [.int .i64 x3053.Head, .int .i64 x3053.At, .int .i64 x3053.Bound] rfl ?_
   intro w3061 hst
   refine OW.nil rfl (QW.next (CW.seq (CW.seq (CW.region ?_))))
   refine OW.pure 1 [(19, .pointer (some ⟨b3059, 0, none⟩))] (by kernel_rfl) ?_
   refine OW.ld rfl rfl rfl rfl (by kernel_rfl) (hst.blk 4 rfl rfl) ?_
   refine OW.pure 2 [(22, .bool (x3053.Head != p1))] (by kernel_rfl) (OW.nil rfl (QW.next ?_))
   rcases Bool.eq_false_or_eq_true ((x3053.Head != p1)) with hc3062 | hc3062
   ·have hl3035 := ite_t hl3035 hc3062
    refine CW.cond_t rfl hc3062 ?_
    refine CW.exit (QW.then_exit ?_)
    refine QW.block_here (QW.next (CW.region ?_))
    refine OW.pure 2 [(15, .int .i64 (w64 ((i3038 : Int) + 1)))] (by kernel_rfl) (OW.nil rfl ?_)
    refine QW.say 15 rfl (congrArg (Value.int .i64) (w64_cnt hc3043 l28)) ?_
    exact QW.meet (fun a ha => ⟨n3034, Nat.lt_succ_self _, i3038 + 1, s3036, (.slice a3041 (s3036).length c3042), cnt_next hi3039, ha.agrees (by kernel_rfl), hst.keep [0, 1, 2, 3] rfl, hl3035⟩)
   have hl3035 := ite_f hl3035 hc3062
   refine CW.cond_f rfl hc3062 (CW.skip (QW.next (CW.seq ?_)))
   refine CW.still (by kernel_rfl) (by kernel_rfl) ?_
   intro w3069 hch3070
   have hst := hst.same hch3070
   refine OS.pure 4 [(26, .pointer (some ⟨b1, 1, none⟩))] rfl (by kernel_rfl) ?_
   refine OS.ld rfl rfl rfl rfl rfl (by kernel_rfl) (hst.blk 0 rfl rfl) ?_
   refine OS.pure 1 [(28, .pointer (some ⟨b3059, 0, none⟩))] rfl (by kernel_rfl) ?_
   refine OS.ld rfl rfl rfl rfl rfl (by kernel_rfl) (hst.blk 4 rfl rfl) ?_
   refine OS.pure 1 [(30, .pointer (some ⟨b3059, 1, none⟩))] rfl (by kernel_rfl) ?_
   refine OS.ld rfl rfl rfl rfl rfl (by kernel_rfl) (hst.blk 4 rfl rfl) ?_
   refine OS.pure 1 [(32, .int .i64 (w64 (x3053.At + 1)))] rfl (by kernel_rfl) ?_
   obtain ⟨ys3071, hcut3072, hl3035⟩ := bind_some' hl3035
   refine OS.op (v := .slice (shd a20 c21 (Int.toNat x3053.Head) 5) (ys3071).length (c21 - Int.toNat x3053.Head)) rfl rfl rfl rfl rfl (fun a ha => sub_run (e := 43) 5 rfl rfl rfl rfl hcut3072 hbr15.cap (by kernel_rfl) (by kernel_rfl) a _ ha) ?_
   have hp3073 := hbr15.part hcut3072
   refine OS.pure 2 [(34, .int .i64 ((ys3071).length : Int)), (35, .int .i64 0)] rfl (by kernel_rfl) ?_
   refine OS.fin rfl (QW.next ?_)
   obtain ⟨o3352, ho3353, hl3035⟩ := bind_some' hl3035
   refine CW.cutQ (fun a w1 => ∃ (v3351 : Value), Rep 78 [(0, .pointer (some ⟨b1, 0, none⟩)), (1, .int .i64 p1), (13, .slice a29 (p0.loops).length c30), (14, .int .i64 ((p0.loops).length : Int)), (15, .int .i64 (i3038 : Int))] a ∧ St w (fp [itI (R_t116 wb Sb) [.pointer (some ⟨b1, 0, none⟩)] S0 p0]) w1 [blkI b1 148 [.slice a17 (p0.Module.Maps).length c18, .slice a20 (p0.Module.Code).length c21, v3351, .slice a26 (p0.any).length c27, .slice a29 (p0.loops).length c30], rowI v3351 158 (arrC (enc_api_Type) 8) 32 o3352, rowI (.slice a26 (p0.any).length c27) 4 encBool 1 p0.any, rowI (.slice a29 (p0.loops).length c30) 164 enc_api_Loop 3 p0.loops]) ?_ ?_
   ·refine CW.block ?_
    refine CW.loop (fun n a w1 => ∃ (i3539 : Nat) (s3537 : (List (Nat → api_Type))) (v3538 : Value), i3539 + n = (ys3071).length ∧ Rep 78 [(0, .pointer (some ⟨b1, 0, none⟩)), (1, .int .i64 p1), (13, .slice a29 (p0.loops).length c30), (14, .int .i64 ((p0.loops).length : Int)), (15, .int .i64 (i3038 : Int)), (33, .slice (shd a20 c21 (Int.toNat x3053.Head) 5) (ys3071).length (c21 - Int.toNat x3053.Head)), (34, .int .i64 ((ys3071).length : Int)), (35, .int .i64 (i3539 : Int))] a ∧ St w (fp [itI (R_t116 wb Sb) [.pointer (some ⟨b1, 0, none⟩)] S0 p0]) w1 [blkI b1 148 [.slice a17 (p0.Module.Maps).length c18, .slice a20 (p0.Module.Code).length c21, v3538, .slice a26 (p0.any).length c27, .slice a29 (p0.loops).length c30], rowI v3538 158 (arrC (enc_api_Type) 8) 32 s3537, rowI (.slice a26 (p0.any).length c27) 4 encBool 1 p0.any, rowI (.slice a29 (p0.loops).length c30) 164 enc_api_Loop 3 p0.loops] ∧ forN (judge_judge_widen_l2 p1 ys3071) (fun (s3537 : (List (Nat → api_Type))) => s3537) n i3539 s3537 = some o3352) (ys3071).length (fun a ha => ⟨0, s3036, (.slice a3041 (s3036).length c3042), Nat.zero_add _, ha.agrees (by kernel_rfl), hst.keep [0, 1, 2, 3] rfl, ho3353⟩) ?_
    rintro n3535 a w1 ⟨i3539, s3537, v3538, hi3540, ha, hst, hl3536⟩
    refine CW.go ?_ ha
    obtain ⟨l3541, a3542, c3543, rfl⟩ := hst.len 1 rfl
    refine CW.seq (CW.region ?_)
    refine OW.pure 1 [(36, .bool (decide ((i3539 : Int) < ((ys3071).length : Int))))] (by kernel_rfl) (OW.nil rfl (QW.next (CW.seq ?_)))
    rcases Bool.eq_false_or_eq_true (decide ((i3539 : Int) < ((ys3071).length : Int))) with hc3544 | hc3544
    ·rcases n3535 with _ | n3535
     ·exact (cnt0 hi3540 hc3544).elim
     refine CW.cond_t rfl hc3544 (CW.skip (QW.next (CW.seq (CW.block (CW.seq (CW.region ?_))))))
     obtain ⟨x3554, hx3555, hl3536⟩ := bind_some' hl3536
     obtain ⟨g3557, o3558, c3559, hv3556⟩ := hp3073.formv (fun _ => ⟨_, rfl⟩) hx3555
     refine OW.idx 43 5 rfl rfl rfl rfl hv3556 rfl (idx_some hx3555).1 (idx_some hx3555).2.1 (by kernel_rfl) (by kernel_rfl) ?_
     refine OW.ldN (cs := enc_api_Inst x3554) rfl rfl rfl rfl (by kernel_rfl) (by kernel_rfl) (hp3073.cellv hst hx3555 hv3556) ?_
     refine OW.alloc hst rfl rfl rfl [.int .i64 0, .int .i64 0, .int .i64 0, .int .i64 0, .int .i64 0] (by kernel_rfl) ?_
     intro b3560 w3561 hst
     refine OW.stB hst 4 rfl rfl rfl rfl rfl (by kernel_rfl) rfl rfl [.int .i64 x3554.Op, .int .i64 x3554.D, .int .i64 x3554.A, .int .i64 x3554.B, .int .i64 x3554.Imm] rfl ?_
     intro w3562 hst
     refine OW.nil rfl (QW.next (CW.seq (CW.region ?_)))
     refine OW.ldN (cs := [.int .i64 x3554.Op, .int .i64 x3554.D, .int .i64 x3554.A, .int .i64 x3554.B, .int .i64 x3554.Imm]) rfl rfl rfl rfl (by kernel_rfl) (by kernel_rfl) (hst.blkN 4 rfl 0 5) ?_
     obtain ⟨r3567, hr3568, hl3536⟩ := bind_some' hl3536
     refine OW.fn rfl rfl rfl rfl (by kernel_rfl) (ops_Writes_ok _ x3554 r3567 hr3568 (hst.part [] rfl) (hT0.give hst [])) ?_
     rintro e w3569 ⟨rfl, hst3570⟩
     refine ⟨_, rfl, ?_⟩
     have hst := hst.join (idx := []) (rest := [0, 1, 2, 3, 4]) rfl hst3570
     refine OW.pure 5 [(8, .int .i64 r3567.1), (9, .bool r3567.2)] (by kernel_rfl) (OW.nil rfl (QW.next (CW.seq (CW.seq (CW.region ?_)))))
     refine OW.pure 2 [(45, .bool (!r3567.2))] (by kernel_rfl) (OW.nil rfl (QW.next ?_))
     rcases Bool.eq_false_or_eq_true ((!r3567.2)) with hc3571 | hc3571
     ·have hl3536 := ite_t hl3536 hc3571
      refine CW.cond_t rfl hc3571 ?_
      refine CW.exit (QW.then_exit ?_)
      refine QW.block_here (QW.next (CW.region ?_))
      refine OW.pure 2 [(35, .int .i64 (w64 ((i3539 : Int) + 1)))] (by kernel_rfl) (OW.nil rfl ?_)
      refine QW.say 35 rfl (congrArg (Value.int .i64) (w64_cnt hc3544 (Nat.le_trans (cut_le hcut3072) l19))) ?_
      exact QW.meet (fun a ha => ⟨n3535, Nat.lt_succ_self _, i3539 + 1, s3537, (.slice a3542 (s3537).length c3543), cnt_next hi3540, ha.agrees (by kernel_rfl), hst.keep [0, 1, 2, 3] rfl, hl3536⟩)
     have hl3536 := ite_f hl3536 hc3571
     refine CW.cond_f rfl hc3571 (CW.skip (QW.next (CW.seq (CW.region ?_))))
     refine OW.pure 3 [(48, .pointer (some ⟨b1, 2, none⟩))] (by kernel_rfl) ?_
     refine OW.ld rfl rfl rfl rfl (by kernel_rfl) (hst.blk 0 rfl rfl) ?_
     refine OW.pure 2 [(50, .int .i64 p1), (51, .int .i64 r3567.1)] (by kernel_rfl) ?_
     obtain ⟨x3581, hx3582, hl3536⟩ := bind_some' hl3536
     obtain ⟨g3584, o3585, c3586, hv3583⟩ := hst.rowv 1 rfl hx3582
     refine OW.idx 158 32 rfl rfl rfl rfl hv3583 rfl (idx_some hx3582).1 (idx_some hx3582).2.1 (by kernel_rfl) (by kernel_rfl) ?_
     obtain ⟨i3587, hi3588, hl3536⟩ := bind_some' hl3536
     refine OW.op (v := .pointer (some ⟨g3584, o3585 + Int.toNat p1 * 32 + 0 + Int.toNat r3567.1 * 4, none⟩)) rfl rfl rfl rfl (fun a ha => aidx_run (n := 8) 156 4 rfl rfl rfl (ain_some hi3588).1 (ain_some hi3588).2.1 (by kernel_rfl) (by kernel_rfl) a _ ha) ?_
     refine OW.pure 1 [(54, .pointer (some ⟨g3584, o3585 + Int.toNat p1 * 32 + 0 + Int.toNat r3567.1 * 4, none⟩))] (by kernel_rfl) ?_
     refine OW.ld rfl rfl rfl rfl (by kernel_rfl) (cell_arr (hst.rowc 1 rfl (fun _ => rfl) hx3582 hv3583) enc_api_Type (fun _ => rfl) 8 x3581 0 rfl rfl hi3588 0 _ rfl) ?_
     refine OW.pure 1 [(56, .bool ((x3581 i3587).Kind == 1))] (by kernel_rfl) (OW.nil rfl (QW.next ?_))
     rcases Bool.eq_false_or_eq_true (((x3581 i3587).Kind == 1)) with hc3589 | hc3589
     ·have hl3536 := ite_t hl3536 hc3589
      refine CW.cond_t rfl hc3589 ?_
      refine CW.plan (by kernel_rfl) ?_
      intro w3605 hch3606
      have hst := hst.same hch3606
      refine OA.pure [0, 1, 2] [(59, .pointer (some ⟨b1, 2, none⟩))] (by kernel_rfl) ?_
      refine OA.ld (i := 3) rfl (by kernel_rfl) rfl rfl rfl (by kernel_rfl) (hst.blk 0 rfl rfl) ?_
      refine OA.pure [4, 5] [(61, .int .i64 p1), (62, .int .i64 r3567.1)] (by kernel_rfl) ?_
      obtain ⟨g3608, o3609, c3610, hv3607⟩ := hst.rowv 1 rfl hx3582
      refine OA.idx (i := 8) 158 32 rfl (by kernel_rfl) rfl rfl rfl hv3607 rfl (idx_some hx3582).1 (idx_some hx3582).2.1 (by kernel_rfl) (by kernel_rfl) ?_
      refine OA.act (i := 6) [3] (by kernel_rfl) rfl rfl (by kernel_rfl) (by kernel_rfl) ?_
      obtain ⟨r3611, hr3612, hl3536⟩ := bind_some' hl3536
      refine OW.fn rfl rfl rfl rfl (by kernel_rfl) (span_Full_ok _ r3611 hr3612 (hst.part [] rfl)) ?_
      rintro e w3613 ⟨rfl, hst3614⟩
      refine ⟨_, rfl, ?_⟩
      have hst := hst.join (idx := []) (rest := [0, 1, 2, 3, 4]) rfl hst3614
      refine OA.next ⟨(hst.blk 0 rfl rfl), trivial⟩ ?_
      refine OA.act (i := 7) [3] (by kernel_rfl) rfl rfl (by kernel_rfl) (by kernel_rfl) ?_
      obtain ⟨r3615, hr3616, hl3536⟩ := bind_some' hl3536
      refine OW.fn rfl rfl rfl rfl (by kernel_rfl) (judge_number_ok _ r3611 r3615 hr3616 (hst.part [] rfl)) ?_
      rintro e w3617 ⟨rfl, hst3618⟩
      refine ⟨_, rfl, ?_⟩
      have hst := hst.join (idx := []) (rest := [0, 1, 2, 3, 4]) rfl hst3618
      refine OA.next ⟨(hst.blk 0 rfl rfl), trivial⟩ ?_
      refine OA.val (i := 9) (v := .pointer (some ⟨g3608, o3609 + Int.toNat p1 * 32 + 0 + Int.toNat r3567.1 * 4, none⟩)) rfl (by kernel_rfl) rfl rfl rfl rfl (fun a w ha => aidx_run (n := 8) 156 4 rfl rfl rfl (ain_some hi3588).1 (ain_some hi3588).2.1 (by kernel_rfl) (by kernel_rfl) a w ha) ?_
      refine OA.act (i := 10) [] (by kernel_rfl) rfl rfl (by kernel_rfl) (by kernel_rfl) ?_
      refine OW.stRA hst 1 rfl hv3607 (fun _ => rfl) rfl rfl hx3582 rfl rfl (by kernel_rfl) rfl enc_api_Type (fun _ => rfl) 8 x3581 0 rfl rfl hi3588 0 rfl rfl r3615 rfl (aset x3581 i3587 r3615) rfl ?_
      intro w3619 hst
      refine OA.next trivial ?_
      refine OA.fin (by kernel_rfl) (by kernel_rfl) (QW.block_normal (QW.next (CW.region ?_)))
      refine OW.pure 2 [(35, .int .i64 (w64 ((i3539 : Int) + 1)))] (by kernel_rfl) (OW.nil rfl ?_)
      refine QW.say 35 rfl (congrArg (Value.int .i64) (w64_cnt hc3544 (Nat.le_trans (cut_le hcut3072) l19))) ?_
      exact QW.meet (fun a ha => ⟨n3535, Nat.lt_succ_self _, i3539 + 1, (s3537.set (Int.toNat p1) (aset x3581 i3587 r3615)), (.slice a3542 (s3537).length c3543), cnt_next hi3540, ha.agrees (by kernel_rfl), hst.keep [0, 1, 2, 3] rfl, hl3536⟩)
     have hl3536 := ite_f hl3536 hc3589
     refine CW.cond_f rfl hc3589 (CW.region ?_)
     refine OW.pure 3 [(69, .pointer (some ⟨b1, 2, none⟩))] (by kernel_rfl) ?_
     refine OW.ld rfl rfl rfl rfl (by kernel_rfl) (hst.blk 0 rfl rfl) ?_
     refine OW.pure 3 [(71, .int .i64 p1), (72, .int .i64 r3567.1), (73, .agg [.int .i64 0, .int .u64 0, .int .u64 0, .int .i64 0].toArray)] (by kernel_rfl) ?_
     obtain ⟨g3627, o3628, c3629, hv3626⟩ := hst.rowv 1 rfl hx3582
     refine OW.idx 158 32 rfl rfl rfl rfl hv3626 rfl (idx_some hx3582).1 (idx_some hx3582).2.1 (by kernel_rfl) (by kernel_rfl) ?_
     refine OW.op (v := .pointer (some ⟨g3627, o3628 + Int.toNat p1 * 32 + 0 + Int.toNat r3567.1 * 4, none⟩)) rfl rfl rfl rfl (fun a ha => aidx_run (n := 8) 156 4 rfl rfl rfl (ain_some hi3588).1 (ain_some hi3588).2.1 (by kernel_rfl) (by kernel_rfl) a _ ha) ?_
     refine OW.stRA hst 1 rfl hv3626 (fun _ => rfl) rfl rfl hx3582 rfl rfl (by kernel_rfl) rfl enc_api_Type (fun _ => rfl) 8 x3581 0 rfl rfl hi3588 0 rfl rfl (api_Type.mk 0 (api_Span.mk 0 0) 0) rfl (aset x3581 i3587 (api_Type.mk 0 (api_Span.mk 0 0) 0)) rfl ?_
     intro w3630 hst
     refine OW.nil rfl (QW.block_normal (QW.next (CW.region ?_)))
     refine OW.pure 2 [(35, .int .i64 (w64 ((i3539 : Int) + 1)))] (by kernel_rfl) (OW.nil rfl ?_)
     refine QW.say 35 rfl (congrArg (Value.int .i64) (w64_cnt hc3544 (Nat.le_trans (cut_le hcut3072) l19))) ?_
     exact QW.meet (fun a ha => ⟨n3535, Nat.lt_succ_self _, i3539 + 1, (s3537.set (Int.toNat p1) (aset x3581 i3587 (api_Type.mk 0 (api_Span.mk 0 0) 0))), (.slice a3542 (s3537).length c3543), cnt_next hi3540, ha.agrees (by kernel_rfl), hst.keep [0, 1, 2, 3] rfl, hl3536⟩)
    rcases n3535 with _ | n3535
    ·refine CW.cond_f rfl hc3544 ?_
     refine CW.exit (QW.then_exit (QW.then_exit ?_))
     refine QW.block_here ?_
     obtain rfl := Option.some.inj hl3536
     exact QW.meet (fun a ha => ⟨(.slice a3542 (s3537).length c3543), ha.agrees (by kernel_rfl), hst.keep [0, 1, 2, 3] rfl⟩)
    exact (cnt1 hi3540 hc3544).elim
   rintro a w1 ⟨v3351, ha, hst⟩
   refine QW.go ?_ ha
   obtain ⟨l3634, a3635, c3636, rfl⟩ := hst.len 1 rfl
   refine QW.block_normal (QW.next (CW.region ?_))
   refine OW.pure 2 [(15, .int .i64 (w64 ((i3038 : Int) + 1)))] (by kernel_rfl) (OW.nil rfl ?_)
   refine QW.say 15 rfl (congrArg (Value.int .i64) (w64_cnt hc3043 l28)) ?_
   exact QW.meet (fun a ha => ⟨n3034, Nat.lt_succ_self _, i3038 + 1, o3352, (.slice a3635 (o3352).length c3636), cnt_next hi3039, ha.agrees (by kernel_rfl), hst.keep [0, 1, 2, 3] rfl, hl3035⟩)
  rcases n3034 with _ | n3034
  ·refine CW.cond_f rfl hc3043 ?_
   refine CW.exit (QW.then_exit (QW.then_exit ?_))
   refine QW.block_here ?_
   have hst := hst.borIn hbo12
   have hst := hst.borIn hbo14
   have hst := hst.toIt 1 rfl (fun _ => rfl) (by decide)
   have hst := hst.toIt 2 rfl (fun _ => rfl) (by decide)
   have hst := hst.toIt 3 rfl (fun _ => rfl) (by decide)
   obtain ⟨S3638, hst⟩ := hst.shutP5 (R_t148 wb Sb) rfl 0 4 5 1 2 3 [] rfl rfl rfl rfl rfl rfl rfl (judge_judge.mk p0.Module s3036 p0.any p0.loops) rfl rfl
   obtain rfl := Option.some.inj hl3035
   exact QW.meet (fun a ha => ⟨S3638, ha.agrees (by kernel_rfl), hst.keep [0] rfl⟩)
  exact (cnt1 hi3039 hc3043).elim
 rintro a w1 ⟨S1834, ha, hst⟩
 refine QW.go ?_ ha
 obtain rfl := Option.some.inj hF
 refine QW.end0 rfl ?_
 exact ⟨S1834, rfl, hst.keep [0] rfl⟩
theorem ops_Source_ok (w : World) (p0 : api_Inst) (r : Bool) (hF : ops_Source p0 = some r)
    (hst : St w (fp []) w []) (hT0 : Rd w (fp []) (.slice (some ⟨0, 0, none⟩) 23 23) enc_ops_form 2 tab_g0) :
    Calls Tryz.prog 113 [.agg [.int .i64 p0.Op, .int .i64 p0.D, .int .i64 p0.A, .int .i64 p0.B, .int .i64 p0.Imm].toArray].toArray w (fun e w' => e = .returned (.bool r) ∧ St w (fp []) w' []) := by
 refine CW.start (N := 17) Tryz.func113 rfl rfl rfl (CW.seq (CW.region ?_))
 refine OW.box hst rfl rfl rfl rfl [.int .i64 p0.Op, .int .i64 p0.D, .int .i64 p0.A, .int .i64 p0.B, .int .i64 p0.Imm] rfl ?_
 intro b3 w4 hst
 refine OW.pure 1 [] (by kernel_rfl) (OW.nil rfl (QW.next (CW.seq (CW.region ?_))))
 refine OW.pure 1 [(6, .pointer (some ⟨b3, 0, none⟩))] (by kernel_rfl) ?_
 refine OW.ld rfl rfl rfl rfl (by kernel_rfl) (hst.blk 0 rfl rfl) ?_
 obtain ⟨r12, hr13, hF⟩ := bind_some' hF
 refine OW.fn rfl rfl rfl rfl (by kernel_rfl) (ops_of_ok _ p0.Op r12 hr13 (hst.part [] rfl) (hT0.give hst [])) ?_
 rintro e w14 ⟨rfl, hst15⟩
 refine ⟨_, rfl, ?_⟩
 have hst := hst.join (idx := []) (rest := [0]) rfl hst15
 refine OW.pure 3 [(9, .agg [.string r12.1.name, .string r12.1.fields].toArray), (10, .bool r12.2)] (by kernel_rfl) ?_
 refine OW.alloc hst rfl rfl rfl [.string ByteArray.empty, .string ByteArray.empty] (by kernel_rfl) ?_
 intro b16 w17 hst
 refine OW.stB hst 1 rfl rfl rfl rfl rfl (by kernel_rfl) rfl rfl [.string r12.1.name, .string r12.1.fields] rfl ?_
 intro w18 hst
 refine OW.pure 1 [] (by kernel_rfl) (OW.nil rfl (QW.next (CW.seq ?_)))
 obtain ⟨o32, ho33, hF⟩ := bind_some' hF
 refine CW.cutK (fun a w1 => Rep 17 [(2, .bool o32)] a ∧ St w (fp []) w1 []) ?_ ?_
 ·refine CW.region ?_
  refine OW.ldN (cs := [.int .i64 p0.Op, .int .i64 p0.D, .int .i64 p0.A, .int .i64 p0.B, .int .i64 p0.Imm]) rfl rfl rfl rfl (by kernel_rfl) (by kernel_rfl) (hst.blkN 0 rfl 0 5) ?_
  obtain ⟨r34, hr35, ho33⟩ := bind_some' ho33
  refine OW.fn rfl rfl rfl rfl (by kernel_rfl) (ops_right_ok _ p0 r34 hr35 (hst.part [] rfl) (hT0.give hst [])) ?_
  rintro e w36 ⟨rfl, hst37⟩
  refine ⟨_, rfl, ?_⟩
  have hst := hst.join (idx := []) (rest := [0, 1]) rfl hst37
  refine OW.pure 1 [(13, .bool r34)] (by kernel_rfl) ?_
  refine OW.split 13 rfl (fun hc38 => ?_) (fun hc38 => ?_)
  ·have ho33 := ite_t ho33 hc38
   refine OW.ldN (cs := [.string r12.1.name, .string r12.1.fields]) rfl rfl rfl rfl (by kernel_rfl) (by kernel_rfl) (hst.blkN 1 rfl 0 2) ?_
   obtain ⟨r39, hr40, ho33⟩ := bind_some' ho33
   refine OW.fn rfl rfl rfl rfl (by kernel_rfl) (ops_form_uses_ok _ r12.1 115 r39 hr40 (hst.part [] rfl)) ?_
   rintro e w41 ⟨rfl, hst42⟩
   refine ⟨_, rfl, ?_⟩
   have hst := hst.join (idx := []) (rest := [0, 1]) rfl hst42
   refine OW.pure 2 [(2, .bool r39)] (by kernel_rfl) (OW.nil rfl ?_)
   obtain rfl := Option.some.inj ho33
   exact QW.meet (fun a ha => ⟨ha.agrees (by kernel_rfl), hst.keep [] rfl⟩)
  have ho33 := ite_f ho33 hc38
  refine OW.pure 4 [(2, .bool false)] (by kernel_rfl) (OW.nil rfl ?_)
  obtain rfl := Option.some.inj ho33
  exact QW.meet (fun a ha => ⟨ha.agrees (by kernel_rfl), hst.keep [] rfl⟩)
 rintro a w1 ⟨ha, hst⟩
 refine CW.go ?_ ha
 refine CW.ret ?_
 obtain rfl := Option.some.inj hF
 refine QW.ret1 rfl rfl ?_
 exact ⟨rfl, hst.keep [] rfl⟩
theorem span_Single_ok (w : World) (p0 : Int) (r : api_Span) (hF : span_Single p0 = some r)
    (hst : St w (fp []) w []) :
    Calls Tryz.prog 145 [.int .u64 p0].toArray w (fun e w' => e = .returned (.agg [.int .u64 r.Lo, .int .u64 r.Hi].toArray) ∧ St w (fp []) w' []) := by
 refine CW.start (N := 6) Tryz.func145 rfl rfl rfl (CW.seq (CW.region ?_))
 refine OW.alloc hst rfl rfl rfl [.int .u64 0, .int .u64 0] (by kernel_rfl) ?_
 intro b3 w4 hst
 refine OW.nil rfl (QW.next (CW.seq (CW.region ?_)))
 refine OW.pure 3 [(5, .agg [.int .u64 p0, .int .u64 p0].toArray)] (by kernel_rfl) ?_
 refine OW.stB hst 0 rfl rfl rfl rfl rfl (by kernel_rfl) rfl rfl [.int .u64 p0, .int .u64 p0] rfl ?_
 intro w6 hst
 refine OW.nil rfl (QW.next (CW.ret ?_))
 obtain rfl := Option.some.inj hF
 refine QW.ret_c rfl rfl (run_loadN (cs := [.int .u64 p0, .int .u64 p0]) (by kernel_rfl) (by kernel_rfl) (hst.blkN 0 rfl 0 2)) ?_
 exact ⟨rfl, hst.keep [] rfl⟩
theorem judge_source_ok (w : World) (p0 : api_Inst) (p1 : Nat → api_Type) (r : api_Type) (hF : judge_source p0 p1 = some r)
    (hst : St w (fp []) w []) :
    Calls Tryz.prog 114 [.agg [.int .i64 p0.Op, .int .i64 p0.D, .int .i64 p0.A, .int .i64 p0.B, .int .i64 p0.Imm].toArray, .agg [.int .i64 (p1 0).Kind, .int .u64 (p1 0).Span.Lo, .int .u64 (p1 0).Span.Hi, .int .i64 (p1 0).Map, .int .i64 (p1 1).Kind, .int .u64 (p1 1).Span.Lo, .int .u64 (p1 1).Span.Hi, .int .i64 (p1 1).Map, .int .i64 (p1 2).Kind, .int .u64 (p1 2).Span.Lo, .int .u64 (p1 2).Span.Hi, .int .i64 (p1 2).Map, .int .i64 (p1 3).Kind, .int .u64 (p1 3).Span.Lo, .int .u64 (p1 3).Span.Hi, .int .i64 (p1 3).Map, .int .i64 (p1 4).Kind, .int .u64 (p1 4).Span.Lo, .int .u64 (p1 4).Span.Hi, .int .i64 (p1 4).Map, .int .i64 (p1 5).Kind, .int .u64 (p1 5).Span.Lo, .int .u64 (p1 5).Span.Hi, .int .i64 (p1 5).Map, .int .i64 (p1 6).Kind, .int .u64 (p1 6).Span.Lo, .int .u64 (p1 6).Span.Hi, .int .i64 (p1 6).Map, .int .i64 (p1 7).Kind, .int .u64 (p1 7).Span.Lo, .int .u64 (p1 7).Span.Hi, .int .i64 (p1 7).Map].toArray].toArray w (fun e w' => e = .returned (.agg [.int .i64 r.Kind, .int .u64 r.Span.Lo, .int .u64 r.Span.Hi, .int .i64 r.Map].toArray) ∧ St w (fp []) w' []) := by
 refine CW.start (N := 17) Tryz.func114 rfl rfl rfl (CW.seq (CW.region ?_))
 refine OW.box hst rfl rfl rfl rfl [.int .i64 p0.Op, .int .i64 p0.D, .int .i64 p0.A, .int .i64 p0.B, .int .i64 p0.Imm] rfl ?_
 intro b7 w8 hst
 refine OW.box hst rfl rfl rfl rfl [.int .i64 (p1 0).Kind, .int .u64 (p1 0).Span.Lo, .int .u64 (p1 0).Span.Hi, .int .i64 (p1 0).Map, .int .i64 (p1 1).Kind, .int .u64 (p1 1).Span.Lo, .int .u64 (p1 1).Span.Hi, .int .i64 (p1 1).Map, .int .i64 (p1 2).Kind, .int .u64 (p1 2).Span.Lo, .int .u64 (p1 2).Span.Hi, .int .i64 (p1 2).Map, .int .i64 (p1 3).Kind, .int .u64 (p1 3).Span.Lo, .int .u64 (p1 3).Span.Hi, .int .i64 (p1 3).Map, .int .i64 (p1 4).Kind, .int .u64 (p1 4).Span.Lo, .int .u64 (p1 4).Span.Hi, .int .i64 (p1 4).Map, .int .i64 (p1 5).Kind, .int .u64 (p1 5).Span.Lo, .int .u64 (p1 5).Span.Hi, .int .i64 (p1 5).Map, .int .i64 (p1 6).Kind, .int .u64 (p1 6).Span.Lo, .int .u64 (p1 6).Span.Hi, .int .i64 (p1 6).Map, .int .i64 (p1 7).Kind, .int .u64 (p1 7).Span.Lo, .int .u64 (p1 7).Span.Hi, .int .i64 (p1 7).Map] rfl ?_
 intro b9 w10 hst
 refine OW.alloc hst rfl rfl rfl [.int .i64 0, .int .u64 0, .int .u64 0, .int .i64 0] (by kernel_rfl) ?_
 intro b11 w12 hst
 refine OW.nil rfl (QW.next (CW.seq (CW.seq (CW.region ?_))))
 refine OW.pure 1 [(5, .pointer (some ⟨b7, 3, none⟩))] (by kernel_rfl) ?_
 refine OW.ld rfl rfl rfl rfl (by kernel_rfl) (hst.blk 0 rfl rfl) ?_
 refine OW.pure 1 [(7, .bool (p0.B == 8))] (by kernel_rfl) (OW.nil rfl (QW.next ?_))
 rcases Bool.eq_false_or_eq_true ((p0.B == 8)) with hc13 | hc13
 ·have hF := ite_t hF hc13
  refine CW.cond_t rfl hc13 (CW.seq (CW.region ?_))
  refine OW.pure 1 [(8, .pointer (some ⟨b7, 4, none⟩))] (by kernel_rfl) ?_
  refine OW.ld rfl rfl rfl rfl (by kernel_rfl) (hst.blk 0 rfl rfl) ?_
  refine OW.pure 1 [(10, .int .u64 (wu64 p0.Imm))] (by kernel_rfl) ?_
  obtain ⟨r23, hr24, hF⟩ := bind_some' hF
  refine OW.fn rfl rfl rfl rfl (by kernel_rfl) (span_Single_ok _ (wu64 p0.Imm) r23 hr24 (hst.part [] rfl)) ?_
  rintro e w25 ⟨rfl, hst26⟩
  refine ⟨_, rfl, ?_⟩
  have hst := hst.join (idx := []) (rest := [0, 1, 2]) rfl hst26
  obtain ⟨r27, hr28, hF⟩ := bind_some' hF
  refine OW.fn rfl rfl rfl rfl (by kernel_rfl) (judge_number_ok _ r23 r27 hr28 (hst.part [] rfl)) ?_
  rintro e w29 ⟨rfl, hst30⟩
  refine ⟨_, rfl, ?_⟩
  have hst := hst.join (idx := []) (rest := [0, 1, 2]) rfl hst30
  refine OW.stB hst 2 rfl rfl rfl rfl rfl (by kernel_rfl) rfl rfl [.int .i64 r27.Kind, .int .u64 r27.Span.Lo, .int .u64 r27.Span.Hi, .int .i64 r27.Map] rfl ?_
  intro w31 hst
  refine OW.nil rfl (QW.next (CW.ret (QW.then_ret ?_)))
  obtain rfl := Option.some.inj hF
  refine QW.ret_c rfl rfl (run_loadN (cs := [.int .i64 r27.Kind, .int .u64 r27.Span.Lo, .int .u64 r27.Span.Hi, .int .i64 r27.Map]) (by kernel_rfl) (by kernel_rfl) (hst.blkN 2 rfl 0 4)) ?_
  exact ⟨rfl, hst.keep [] rfl⟩
 have hF := ite_f hF hc13
 refine CW.cond_f rfl hc13 (CW.skip (QW.next (CW.seq (CW.region ?_))))
 refine OW.pure 1 [(13, .pointer (some ⟨b7, 3, none⟩))] (by kernel_rfl) ?_
 refine OW.ld rfl rfl rfl rfl (by kernel_rfl) (hst.blk 0 rfl rfl) ?_
 obtain ⟨i35, hi36, hF⟩ := bind_some' hF
 refine OW.op (v := .pointer (some ⟨b9, 0 + Int.toNat p0.B * 4, none⟩)) rfl rfl rfl rfl (fun a ha => aidx_run (n := 8) 156 4 rfl rfl rfl (ain_some hi36).1 (ain_some hi36).2.1 (by kernel_rfl) (by kernel_rfl) a _ ha) ?_
 refine OW.ldN (cs := enc_api_Type (p1 i35)) rfl rfl rfl rfl (by kernel_rfl) (by kernel_rfl) (hst.arrB 1 rfl enc_api_Type (fun _ => rfl) 8 p1 0 rfl rfl hi36) ?_
 refine OW.stB hst 2 rfl rfl rfl rfl rfl (by kernel_rfl) rfl rfl [.int .i64 (p1 i35).Kind, .int .u64 (p1 i35).Span.Lo, .int .u64 (p1 i35).Span.Hi, .int .i64 (p1 i35).Map] rfl ?_
 intro w37 hst
 refine OW.nil rfl (QW.next (CW.ret ?_))
 obtain rfl := Option.some.inj hF
 refine QW.ret_c rfl rfl (run_loadN (cs := [.int .i64 (p1 i35).Kind, .int .u64 (p1 i35).Span.Lo, .int .u64 (p1 i35).Span.Hi, .int .i64 (p1 i35).Map]) (by kernel_rfl) (by kernel_rfl) (hst.blkN 2 rfl 0 4)) ?_
 exact ⟨rfl, hst.keep [] rfl⟩
theorem judge_nums_ok (w : World) (v0 : Value) (p0 : List api_Type) (r : Int) (hF : judge_nums p0 = some r)
    (hst : St w (fp []) w []) (h0 : Rd w (fp []) v0 enc_api_Type 4 p0) :
    Calls Tryz.prog 116 [v0].toArray w (fun e w' => e = .returned (.int .i64 r) ∧ St w (fp []) w' []) := by
 refine CW.start (N := 15) Tryz.func116 rfl rfl rfl ?_
 obtain ⟨l1, a2, c3, rfl⟩ := h0.len
 refine CW.seq (CW.region ?_)
 refine OW.pure 1 [] (by kernel_rfl) (OW.nil rfl (QW.next (CW.seq (CW.seq (CW.region ?_)))))
 refine OW.pure 3 [(5, .slice a2 (p0).length c3), (6, .int .i64 ((p0).length : Int)), (7, .int .i64 0)] (by kernel_rfl) (OW.nil rfl (QW.next ?_))
 obtain ⟨o70, ho71, hF⟩ := bind_some' hF
 refine CW.cutK (fun a w1 => ∃ (t72 : Unit), o70 = .inl t72 ∧ Rep 15 [] a ∧ St w (fp []) w1 []) ?_ ?_
 ·refine CW.block ?_
  refine CW.loop (fun n a w1 => ∃ (i117 : Nat) (s116 : Unit), i117 + n = (p0).length ∧ Rep 15 [(5, .slice a2 (p0).length c3), (6, .int .i64 ((p0).length : Int)), (7, .int .i64 (i117 : Int))] a ∧ St w (fp []) w1 [] ∧ forN (judge_nums_l1 p0) (fun (s116 : Unit) => (.inl ())) n i117 s116 = some o70) (p0).length (fun a ha => ⟨0, (), Nat.zero_add _, ha.agrees (by kernel_rfl), hst.keep [] rfl, ho71⟩) ?_
  rintro n114 a w1 ⟨i117, s116, hi118, ha, hst, hl115⟩
  refine CW.go ?_ ha
  refine CW.seq (CW.region ?_)
  refine OW.pure 1 [(8, .bool (decide ((i117 : Int) < ((p0).length : Int))))] (by kernel_rfl) (OW.nil rfl (QW.next (CW.seq ?_)))
  rcases Bool.eq_false_or_eq_true (decide ((i117 : Int) < ((p0).length : Int))) with hc119 | hc119
  ·rcases n114 with _ | n114
   ·exact (cnt0 hi118 hc119).elim
   refine CW.cond_t rfl hc119 (CW.skip (QW.next (CW.seq (CW.block (CW.seq (CW.region ?_))))))
   obtain ⟨x129, hx130, hl115⟩ := bind_some' hl115
   obtain ⟨g132, o133, c134, hv131⟩ := h0.formv (fun _ => ⟨_, rfl⟩) hx130
   refine OW.idx 156 4 rfl rfl rfl rfl hv131 rfl (idx_some hx130).1 (idx_some hx130).2.1 (by kernel_rfl) (by kernel_rfl) ?_
   refine OW.ldN (cs := enc_api_Type x129) rfl rfl rfl rfl (by kernel_rfl) (by kernel_rfl) (h0.cellv hst hx130 hv131) ?_
   refine OW.alloc hst rfl rfl rfl [.int .i64 0, .int .u64 0, .int .u64 0, .int .i64 0] (by kernel_rfl) ?_
   intro b135 w136 hst
   refine OW.stB hst 0 rfl rfl rfl rfl rfl (by kernel_rfl) rfl rfl [.int .i64 x129.Kind, .int .u64 x129.Span.Lo, .int .u64 x129.Span.Hi, .int .i64 x129.Map] rfl ?_
   intro w137 hst
   refine OW.nil rfl (QW.next (CW.seq (CW.region ?_)))
   refine OW.pure 1 [(11, .pointer (some ⟨b135, 0, none⟩))] (by kernel_rfl) ?_
   refine OW.ld rfl rfl rfl rfl (by kernel_rfl) (hst.blk 0 rfl rfl) ?_
   refine OW.pure 1 [(13, .bool (x129.Kind != 1))] (by kernel_rfl) (OW.nil rfl (QW.next ?_))
   rcases Bool.eq_false_or_eq_true ((x129.Kind != 1)) with hc138 | hc138
   ·have hl115 := ite_t hl115 hc138
    refine CW.cond_t rfl hc138 (CW.seq (CW.region ?_))
    refine OW.pure 1 [(2, .int .i64 33)] (by kernel_rfl) (OW.nil rfl (QW.next (CW.ret (QW.block_ret (QW.then_ret (QW.then_ret (QW.block_ret (QW.then_ret ?_))))))))
    obtain rfl := Option.some.inj hl115
    obtain rfl := Option.some.inj hF
    refine QW.ret1 rfl rfl ?_
    exact ⟨rfl, hst.keep [] rfl⟩
   have hl115 := ite_f hl115 hc138
   refine CW.cond_f rfl hc138 (CW.skip (QW.block_normal (QW.next (CW.region ?_))))
   refine OW.pure 2 [(7, .int .i64 (w64 ((i117 : Int) + 1)))] (by kernel_rfl) (OW.nil rfl ?_)
   refine QW.say 7 rfl (congrArg (Value.int .i64) (w64_cnt hc119 l1)) ?_
   exact QW.meet (fun a ha => ⟨n114, Nat.lt_succ_self _, i117 + 1, (), cnt_next hi118, ha.agrees (by kernel_rfl), hst.keep [] rfl, hl115⟩)
  rcases n114 with _ | n114
  ·refine CW.cond_f rfl hc119 ?_
   refine CW.exit (QW.then_exit (QW.then_exit ?_))
   refine QW.block_here ?_
   obtain rfl := Option.some.inj hl115
   exact QW.meet (fun a ha => ⟨(), rfl, ha.agrees (by kernel_rfl), hst.keep [] rfl⟩)
  exact (cnt1 hi118 hc119).elim
 rintro a w1 ⟨t72, rfl, ha, hst⟩
 refine CW.go ?_ ha
 refine CW.seq (CW.region ?_)
 refine OW.pure 1 [(2, .int .i64 0)] (by kernel_rfl) (OW.nil rfl (QW.next (CW.ret ?_)))
 obtain rfl := Option.some.inj hF
 refine QW.ret1 rfl rfl ?_
 exact ⟨rfl, hst.keep [] rfl⟩
theorem span_Right_ok (w : World) (p0 : api_Span) (r : Bool) (hF : span_Right p0 = some r)
    (hst : St w (fp []) w []) :
    Calls Tryz.prog 147 [.agg [.int .u64 p0.Lo, .int .u64 p0.Hi].toArray].toArray w (fun e w' => e = .returned (.bool r) ∧ St w (fp []) w' []) := by
 refine CW.start (N := 8) Tryz.func147 rfl rfl rfl (CW.seq (CW.region ?_))
 refine OW.box hst rfl rfl rfl rfl [.int .u64 p0.Lo, .int .u64 p0.Hi] rfl ?_
 intro b3 w4 hst
 refine OW.pure 1 [] (by kernel_rfl) (OW.nil rfl (QW.next (CW.seq (CW.region ?_))))
 refine OW.pure 1 [(3, .pointer (some ⟨b3, 0, none⟩))] (by kernel_rfl) ?_
 refine OW.ld rfl rfl rfl rfl (by kernel_rfl) (hst.blk 0 rfl rfl) ?_
 refine OW.pure 1 [(5, .pointer (some ⟨b3, 1, none⟩))] (by kernel_rfl) ?_
 refine OW.ld rfl rfl rfl rfl (by kernel_rfl) (hst.blk 0 rfl rfl) ?_
 refine OW.pure 2 [(2, .bool (decide (p0.Lo ≤ p0.Hi)))] (by kernel_rfl) (OW.nil rfl (QW.next (CW.ret ?_)))
 obtain rfl := Option.some.inj hF
 refine QW.ret1 rfl rfl ?_
 exact ⟨rfl, hst.keep [] rfl⟩
theorem span_Within_ok (w : World) (p0 : api_Span) (p1 : api_Span) (r : Bool) (hF : span_Within p0 p1 = some r)
    (hst : St w (fp []) w []) :
    Calls Tryz.prog 146 [.agg [.int .u64 p0.Lo, .int .u64 p0.Hi].toArray, .agg [.int .u64 p1.Lo, .int .u64 p1.Hi].toArray].toArray w (fun e w' => e = .returned (.bool r) ∧ St w (fp []) w' []) := by
 refine CW.start (N := 21) Tryz.func146 rfl rfl rfl (CW.seq (CW.region ?_))
 refine OW.box hst rfl rfl rfl rfl [.int .u64 p0.Lo, .int .u64 p0.Hi] rfl ?_
 intro b5 w6 hst
 refine OW.box hst rfl rfl rfl rfl [.int .u64 p1.Lo, .int .u64 p1.Hi] rfl ?_
 intro b7 w8 hst
 refine OW.pure 1 [] (by kernel_rfl) (OW.nil rfl (QW.next (CW.seq ?_)))
 obtain ⟨o19, ho20, hF⟩ := bind_some' hF
 refine CW.cutK (fun a w1 => Rep 21 [(4, .bool o19)] a ∧ St w (fp []) w1 []) ?_ ?_
 ·refine CW.region ?_
  refine OW.ldN (cs := [.int .u64 p0.Lo, .int .u64 p0.Hi]) rfl rfl rfl rfl (by kernel_rfl) (by kernel_rfl) (hst.blkN 0 rfl 0 2) ?_
  obtain ⟨r21, hr22, ho20⟩ := bind_some' ho20
  refine OW.fn rfl rfl rfl rfl (by kernel_rfl) (span_Right_ok _ p0 r21 hr22 (hst.part [] rfl)) ?_
  rintro e w23 ⟨rfl, hst24⟩
  refine ⟨_, rfl, ?_⟩
  have hst := hst.join (idx := []) (rest := [0, 1]) rfl hst24
  refine OW.pure 1 [(7, .bool r21)] (by kernel_rfl) ?_
  refine OW.split 7 rfl (fun hc25 => ?_) (fun hc25 => ?_)
  ·have ho20 := ite_t ho20 hc25
   refine OW.pure 1 [(8, .pointer (some ⟨b7, 0, none⟩))] (by kernel_rfl) ?_
   refine OW.ld rfl rfl rfl rfl (by kernel_rfl) (hst.blk 1 rfl rfl) ?_
   refine OW.pure 1 [(10, .pointer (some ⟨b5, 0, none⟩))] (by kernel_rfl) ?_
   refine OW.ld rfl rfl rfl rfl (by kernel_rfl) (hst.blk 0 rfl rfl) ?_
   refine OW.pure 3 [(14, .bool (decide (p1.Lo ≤ p0.Lo)))] (by kernel_rfl) ?_
   refine OW.split 14 rfl (fun hc26 => ?_) (fun hc26 => ?_)
   ·have ho20 := ite_t ho20 hc26
    refine OW.pure 1 [(15, .pointer (some ⟨b5, 1, none⟩))] (by kernel_rfl) ?_
    refine OW.ld rfl rfl rfl rfl (by kernel_rfl) (hst.blk 0 rfl rfl) ?_
    refine OW.pure 1 [(17, .pointer (some ⟨b7, 1, none⟩))] (by kernel_rfl) ?_
    refine OW.ld rfl rfl rfl rfl (by kernel_rfl) (hst.blk 1 rfl rfl) ?_
    refine OW.pure 3 [(4, .bool (decide (p0.Hi ≤ p1.Hi)))] (by kernel_rfl) (OW.nil rfl ?_)
    obtain rfl := Option.some.inj ho20
    exact QW.meet (fun a ha => ⟨ha.agrees (by kernel_rfl), hst.keep [] rfl⟩)
   have ho20 := ite_f ho20 hc26
   refine OW.pure 7 [(4, .bool false)] (by kernel_rfl) (OW.nil rfl ?_)
   obtain rfl := Option.some.inj ho20
   exact QW.meet (fun a ha => ⟨ha.agrees (by kernel_rfl), hst.keep [] rfl⟩)
  have ho20 := ite_f ho20 hc25
  refine OW.pure 14 [(4, .bool false)] (by kernel_rfl) (OW.nil rfl ?_)
  obtain rfl := Option.some.inj ho20
  exact QW.meet (fun a ha => ⟨ha.agrees (by kernel_rfl), hst.keep [] rfl⟩)
 rintro a w1 ⟨ha, hst⟩
 refine CW.go ?_ ha
 refine CW.ret ?_
 obtain rfl := Option.some.inj hF
 refine QW.ret1 rfl rfl ?_
 exact ⟨rfl, hst.keep [] rfl⟩
theorem judge_word_ok (w : World) (p0 : api_Type) (r : Int) (hF : judge_word p0 = some r)
    (hst : St w (fp []) w []) :
    Calls Tryz.prog 117 [.agg [.int .i64 p0.Kind, .int .u64 p0.Span.Lo, .int .u64 p0.Span.Hi, .int .i64 p0.Map].toArray].toArray w (fun e w' => e = .returned (.int .i64 r) ∧ St w (fp []) w' []) := by
 refine CW.start (N := 8) Tryz.func117 rfl rfl rfl (CW.seq (CW.region ?_))
 refine OW.box hst rfl rfl rfl rfl [.int .i64 p0.Kind, .int .u64 p0.Span.Lo, .int .u64 p0.Span.Hi, .int .i64 p0.Map] rfl ?_
 intro b3 w4 hst
 refine OW.pure 1 [] (by kernel_rfl) (OW.nil rfl (QW.next (CW.seq (CW.seq (CW.region ?_)))))
 refine OW.pure 1 [(3, .pointer (some ⟨b3, 1, none⟩))] (by kernel_rfl) ?_
 refine OW.ldN (cs := [.int .u64 p0.Span.Lo, .int .u64 p0.Span.Hi]) rfl rfl rfl rfl (by kernel_rfl) (by kernel_rfl) (hst.blkN 0 rfl 1 2) ?_
 refine OW.pure 1 [(5, .agg [.int .u64 0, .int .u64 15].toArray)] (by kernel_rfl) ?_
 obtain ⟨r9, hr10, hF⟩ := bind_some' hF
 refine OW.fn rfl rfl rfl rfl (by kernel_rfl) (span_Within_ok _ p0.Span (api_Span.mk 0 15) r9 hr10 (hst.part [] rfl)) ?_
 rintro e w11 ⟨rfl, hst12⟩
 refine ⟨_, rfl, ?_⟩
 have hst := hst.join (idx := []) (rest := [0]) rfl hst12
 refine OW.pure 1 [(7, .bool (!r9))] (by kernel_rfl) (OW.nil rfl (QW.next ?_))
 rcases Bool.eq_false_or_eq_true ((!r9)) with hc13 | hc13
 ·have hF := ite_t hF hc13
  refine CW.cond_t rfl hc13 (CW.seq (CW.region ?_))
  refine OW.pure 1 [(2, .int .i64 35)] (by kernel_rfl) (OW.nil rfl (QW.next (CW.ret (QW.then_ret ?_))))
  obtain rfl := Option.some.inj hF
  refine QW.ret1 rfl rfl ?_
  exact ⟨rfl, hst.keep [] rfl⟩
 have hF := ite_f hF hc13
 refine CW.cond_f rfl hc13 (CW.skip (QW.next (CW.seq (CW.region ?_))))
 refine OW.pure 1 [(2, .int .i64 0)] (by kernel_rfl) (OW.nil rfl (QW.next (CW.ret ?_)))
 obtain rfl := Option.some.inj hF
 refine QW.ret1 rfl rfl ?_
 exact ⟨rfl, hst.keep [] rfl⟩
theorem judge_first_ok (w : World) (v0 : Value) (p0 : List Int) (r : Int) (hF : judge_first p0 = some r)
    (hst : St w (fp []) w []) (h0 : Rd w (fp []) v0 (encInt .i64) 1 p0) :
    Calls Tryz.prog 115 [v0].toArray w (fun e w' => e = .returned (.int .i64 r) ∧ St w (fp []) w' []) := by
 refine CW.start (N := 15) Tryz.func115 rfl rfl rfl ?_
 obtain ⟨l1, a2, c3, rfl⟩ := h0.len
 refine CW.seq (CW.region ?_)
 refine OW.pure 1 [] (by kernel_rfl) (OW.nil rfl (QW.next (CW.seq (CW.seq (CW.region ?_)))))
 refine OW.pure 3 [(5, .slice a2 (p0).length c3), (6, .int .i64 ((p0).length : Int)), (7, .int .i64 0)] (by kernel_rfl) (OW.nil rfl (QW.next ?_))
 obtain ⟨o52, ho53, hF⟩ := bind_some' hF
 refine CW.cutK (fun a w1 => ∃ (t54 : Unit), o52 = .inl t54 ∧ Rep 15 [] a ∧ St w (fp []) w1 []) ?_ ?_
 ·refine CW.block ?_
  refine CW.loop (fun n a w1 => ∃ (i87 : Nat) (s86 : Unit), i87 + n = (p0).length ∧ Rep 15 [(5, .slice a2 (p0).length c3), (6, .int .i64 ((p0).length : Int)), (7, .int .i64 (i87 : Int))] a ∧ St w (fp []) w1 [] ∧ forN (judge_first_l1 p0) (fun (s86 : Unit) => (.inl ())) n i87 s86 = some o52) (p0).length (fun a ha => ⟨0, (), Nat.zero_add _, ha.agrees (by kernel_rfl), hst.keep [] rfl, ho53⟩) ?_
  rintro n84 a w1 ⟨i87, s86, hi88, ha, hst, hl85⟩
  refine CW.go ?_ ha
  refine CW.seq (CW.region ?_)
  refine OW.pure 1 [(8, .bool (decide ((i87 : Int) < ((p0).length : Int))))] (by kernel_rfl) (OW.nil rfl (QW.next (CW.seq ?_)))
  rcases Bool.eq_false_or_eq_true (decide ((i87 : Int) < ((p0).length : Int))) with hc89 | hc89
  ·rcases n84 with _ | n84
   ·exact (cnt0 hi88 hc89).elim
   refine CW.cond_t rfl hc89 (CW.skip (QW.next (CW.seq (CW.block (CW.seq (CW.region ?_))))))
   obtain ⟨x96, hx97, hl85⟩ := bind_some' hl85
   obtain ⟨g99, o100, c101, hv98⟩ := h0.formv (fun _ => ⟨_, rfl⟩) hx97
   refine OW.idx 35 1 rfl rfl rfl rfl hv98 rfl (idx_some hx97).1 (idx_some hx97).2.1 (by kernel_rfl) (by kernel_rfl) ?_
   refine OW.ld rfl rfl rfl rfl (by kernel_rfl) (h0.cellv hst hx97 hv98 0 _ rfl) ?_
   refine OW.pure 1 [(4, .int .i64 x96)] (by kernel_rfl) (OW.nil rfl (QW.next (CW.seq (CW.region ?_))))
   refine OW.pure 2 [(12, .bool (x96 != 0))] (by kernel_rfl) (OW.nil rfl (QW.next ?_))
   rcases Bool.eq_false_or_eq_true ((x96 != 0)) with hc102 | hc102
   ·have hl85 := ite_t hl85 hc102
    refine CW.cond_t rfl hc102 (CW.seq (CW.region ?_))
    refine OW.pure 2 [(2, .int .i64 x96)] (by kernel_rfl) (OW.nil rfl (QW.next (CW.ret (QW.block_ret (QW.then_ret (QW.then_ret (QW.block_ret (QW.then_ret ?_))))))))
    obtain rfl := Option.some.inj hl85
    obtain rfl := Option.some.inj hF
    refine QW.ret1 rfl rfl ?_
    exact ⟨rfl, hst.keep [] rfl⟩
   have hl85 := ite_f hl85 hc102
   refine CW.cond_f rfl hc102 (CW.skip (QW.block_normal (QW.next (CW.region ?_))))
   refine OW.pure 2 [(7, .int .i64 (w64 ((i87 : Int) + 1)))] (by kernel_rfl) (OW.nil rfl ?_)
   refine QW.say 7 rfl (congrArg (Value.int .i64) (w64_cnt hc89 l1)) ?_
   exact QW.meet (fun a ha => ⟨n84, Nat.lt_succ_self _, i87 + 1, (), cnt_next hi88, ha.agrees (by kernel_rfl), hst.keep [] rfl, hl85⟩)
  rcases n84 with _ | n84
  ·refine CW.cond_f rfl hc89 ?_
   refine CW.exit (QW.then_exit (QW.then_exit ?_))
   refine QW.block_here ?_
   obtain rfl := Option.some.inj hl85
   exact QW.meet (fun a ha => ⟨(), rfl, ha.agrees (by kernel_rfl), hst.keep [] rfl⟩)
  exact (cnt1 hi88 hc89).elim
 rintro a w1 ⟨t54, rfl, ha, hst⟩
 refine CW.go ?_ ha
 refine CW.seq (CW.region ?_)
 refine OW.pure 1 [(2, .int .i64 0)] (by kernel_rfl) (OW.nil rfl (QW.next (CW.ret ?_)))
 obtain rfl := Option.some.inj hF
 refine QW.ret1 rfl rfl ?_
 exact ⟨rfl, hst.keep [] rfl⟩
theorem judge_fits_ok (w : World) (p0 : api_Type) (p1 : api_Type) (r : Bool) (hF : judge_fits p0 p1 = some r)
    (hst : St w (fp []) w []) :
    Calls Tryz.prog 118 [.agg [.int .i64 p0.Kind, .int .u64 p0.Span.Lo, .int .u64 p0.Span.Hi, .int .i64 p0.Map].toArray, .agg [.int .i64 p1.Kind, .int .u64 p1.Span.Lo, .int .u64 p1.Span.Hi, .int .i64 p1.Map].toArray].toArray w (fun e w' => e = .returned (.bool r) ∧ St w (fp []) w' []) := by
 refine CW.start (N := 24) Tryz.func118 rfl rfl rfl (CW.seq (CW.region ?_))
 refine OW.box hst rfl rfl rfl rfl [.int .i64 p0.Kind, .int .u64 p0.Span.Lo, .int .u64 p0.Span.Hi, .int .i64 p0.Map] rfl ?_
 intro b5 w6 hst
 refine OW.box hst rfl rfl rfl rfl [.int .i64 p1.Kind, .int .u64 p1.Span.Lo, .int .u64 p1.Span.Hi, .int .i64 p1.Map] rfl ?_
 intro b7 w8 hst
 refine OW.pure 1 [] (by kernel_rfl) (OW.nil rfl (QW.next (CW.seq (CW.seq (CW.region ?_)))))
 refine OW.pure 1 [(5, .pointer (some ⟨b7, 0, none⟩))] (by kernel_rfl) ?_
 refine OW.ld rfl rfl rfl rfl (by kernel_rfl) (hst.blk 1 rfl rfl) (OW.nil rfl (QW.next (CW.block (CW.seq (CW.region ?_)))))
 refine OW.pure 2 [(7, .bool (p1.Kind == 1))] (by kernel_rfl) (OW.nil rfl (QW.next ?_))
 rcases Bool.eq_false_or_eq_true ((p1.Kind == 1)) with hc9 | hc9
 ·have hF := ite_t hF hc9
  refine CW.cond_t rfl hc9 (CW.seq ?_)
  obtain ⟨o15, ho16, hF⟩ := bind_some' hF
  refine CW.cutK (fun a w1 => Rep 24 [(4, .bool o15)] a ∧ St w (fp []) w1 []) ?_ ?_
  ·refine CW.region ?_
   refine OW.pure 1 [(9, .pointer (some ⟨b5, 0, none⟩))] (by kernel_rfl) ?_
   refine OW.ld rfl rfl rfl rfl (by kernel_rfl) (hst.blk 0 rfl rfl) ?_
   refine OW.pure 2 [(12, .bool (p0.Kind == 1))] (by kernel_rfl) ?_
   refine OW.split 12 rfl (fun hc17 => ?_) (fun hc17 => ?_)
   ·have ho16 := ite_t ho16 hc17
    refine OW.pure 1 [(13, .pointer (some ⟨b5, 1, none⟩))] (by kernel_rfl) ?_
    refine OW.ldN (cs := [.int .u64 p0.Span.Lo, .int .u64 p0.Span.Hi]) rfl rfl rfl rfl (by kernel_rfl) (by kernel_rfl) (hst.blkN 0 rfl 1 2) ?_
    refine OW.pure 1 [(15, .pointer (some ⟨b7, 1, none⟩))] (by kernel_rfl) ?_
    refine OW.ldN (cs := [.int .u64 p1.Span.Lo, .int .u64 p1.Span.Hi]) rfl rfl rfl rfl (by kernel_rfl) (by kernel_rfl) (hst.blkN 1 rfl 1 2) ?_
    obtain ⟨r18, hr19, ho16⟩ := bind_some' ho16
    refine OW.fn rfl rfl rfl rfl (by kernel_rfl) (span_Within_ok _ p0.Span p1.Span r18 hr19 (hst.part [] rfl)) ?_
    rintro e w20 ⟨rfl, hst21⟩
    refine ⟨_, rfl, ?_⟩
    have hst := hst.join (idx := []) (rest := [0, 1]) rfl hst21
    refine OW.pure 2 [(4, .bool r18)] (by kernel_rfl) (OW.nil rfl ?_)
    obtain rfl := Option.some.inj ho16
    exact QW.meet (fun a ha => ⟨ha.agrees (by kernel_rfl), hst.keep [] rfl⟩)
   have ho16 := ite_f ho16 hc17
   refine OW.pure 7 [(4, .bool false)] (by kernel_rfl) (OW.nil rfl ?_)
   obtain rfl := Option.some.inj ho16
   exact QW.meet (fun a ha => ⟨ha.agrees (by kernel_rfl), hst.keep [] rfl⟩)
  rintro a w1 ⟨ha, hst⟩
  refine CW.go ?_ ha
  refine CW.ret (QW.block_ret (QW.then_ret ?_))
  obtain rfl := Option.some.inj hF
  refine QW.ret1 rfl rfl ?_
  exact ⟨rfl, hst.keep [] rfl⟩
 have hF := ite_f hF hc9
 refine CW.cond_f rfl hc9 (CW.seq (CW.region ?_))
 refine OW.pure 2 [(19, .bool (p1.Kind == 2))] (by kernel_rfl) (OW.nil rfl (QW.next ?_))
 rcases Bool.eq_false_or_eq_true ((p1.Kind == 2)) with hc22 | hc22
 ·have hF := ite_t hF hc22
  refine CW.cond_t rfl hc22 (CW.seq (CW.region ?_))
  refine OW.ldN (cs := [.int .i64 p0.Kind, .int .u64 p0.Span.Lo, .int .u64 p0.Span.Hi, .int .i64 p0.Map]) rfl rfl rfl rfl (by kernel_rfl) (by kernel_rfl) (hst.blkN 0 rfl 0 4) ?_
  refine OW.ldN (cs := [.int .i64 p1.Kind, .int .u64 p1.Span.Lo, .int .u64 p1.Span.Hi, .int .i64 p1.Map]) rfl rfl rfl rfl (by kernel_rfl) (by kernel_rfl) (hst.blkN 1 rfl 0 4) ?_
  refine OW.op (v := .bool ((p0.Kind == p1.Kind) && (((p0.Span.Lo == p1.Span.Lo) && ((p0.Span.Hi == p1.Span.Hi) && true)) && ((p0.Map == p1.Map) && true)))) rfl rfl rfl rfl (fun a ha => seq_run rfl rfl rfl (by kernel_rfl) (by kernel_rfl) a _ ha) ?_
  refine OW.pure 1 [(4, .bool ((p0.Kind == p1.Kind) && (((p0.Span.Lo == p1.Span.Lo) && ((p0.Span.Hi == p1.Span.Hi) && true)) && ((p0.Map == p1.Map) && true))))] (by kernel_rfl) (OW.nil rfl (QW.next (CW.ret (QW.block_ret (QW.then_ret ?_)))))
  obtain rfl := Option.some.inj hF
  refine QW.ret1 rfl rfl ?_
  exact ⟨rfl, hst.keep [] rfl⟩
 have hF := ite_f hF hc22
 refine CW.cond_f rfl hc22 (CW.skip (QW.block_normal (QW.next (CW.seq (CW.region ?_)))))
 refine OW.pure 1 [(4, .bool true)] (by kernel_rfl) (OW.nil rfl (QW.next (CW.ret ?_)))
 obtain rfl := Option.some.inj hF
 refine QW.ret1 rfl rfl ?_
 exact ⟨rfl, hst.keep [] rfl⟩
theorem sigs_of_ok (w : World) (p0 : Int) (r : sigs_sig × Bool) (hF : sigs_of p0 = some r)
    (hst : St w (fp []) w []) (hT1 : Rd w (fp []) (.slice (some ⟨1, 0, none⟩) 7 7) enc_sigs_sig 5 tab_g1) :
    Calls Tryz.prog 100 [.int .i64 p0].toArray w (fun e w' => e = .returned (.tuple #[.agg [.string r.1.name, .string r.1.wants, .int .u64 r.1.most, .int .i64 r.1.asks, .bool r.1.isAsked].toArray, .bool r.2]) ∧ St w (fp []) w' []) := by
 refine CW.start (N := 14) Tryz.func100 rfl rfl rfl (CW.seq (CW.region ?_))
 refine OW.alloc hst rfl rfl rfl [.string ByteArray.empty, .string ByteArray.empty, .int .u64 0, .int .i64 0, .bool false] (by kernel_rfl) ?_
 intro b3 w4 hst
 refine OW.pure 1 [] (by kernel_rfl) (OW.nil rfl (QW.next (CW.seq (CW.seq ?_))))
 refine CW.cutK (fun a w1 => Rep 14 [(0, .int .i64 p0), (2, .pointer (some ⟨b3, 0, none⟩)), (9, .bool (decide (p0 < 0) || decide (p0 ≥ 7)))] a ∧ St w (fp []) w1 [blkI b3 187 [.string ByteArray.empty, .string ByteArray.empty, .int .u64 0, .int .i64 0, .bool false]]) ?_ ?_
 ·refine CW.region ?_
  refine OW.pure 3 [(6, .bool (decide (p0 < 0)))] (by kernel_rfl) ?_
  refine OW.split 6 rfl (fun hc5 => ?_) (fun hc5 => ?_)
  ·refine OW.pure 3 [(9, .bool true)] (by kernel_rfl) (OW.nil rfl ?_)
   refine QW.say 9 (v := .bool (decide (p0 < 0) || decide (p0 ≥ 7))) rfl (by first | (rw [hc5]; done) | (rw [hc5]; rfl) | simp [hc5]) ?_
   exact QW.meet (fun a ha => ⟨ha.agrees (by kernel_rfl), hst.keep [0] rfl⟩)
  refine OW.pure 3 [(9, .bool (decide (p0 ≥ 7)))] (by kernel_rfl) (OW.nil rfl ?_)
  refine QW.say 9 (v := .bool (decide (p0 < 0) || decide (p0 ≥ 7))) rfl (by first | (rw [hc5]; done) | (rw [hc5]; rfl) | simp [hc5]) ?_
  exact QW.meet (fun a ha => ⟨ha.agrees (by kernel_rfl), hst.keep [0] rfl⟩)
 rintro a w1 ⟨ha, hst⟩
 refine CW.go ?_ ha
 rcases Bool.eq_false_or_eq_true ((decide (p0 < 0) || decide (p0 ≥ 7))) with hc6 | hc6
 ·have hF := ite_t hF hc6
  refine CW.cond_t rfl hc6 (CW.seq (CW.region ?_))
  refine OW.pure 1 [(10, .agg [.string ByteArray.empty, .string ByteArray.empty, .int .u64 0, .int .i64 0, .bool false].toArray)] (by kernel_rfl) ?_
  refine OW.stB hst 0 rfl rfl rfl rfl rfl (by kernel_rfl) rfl rfl [.string ByteArray.empty, .string ByteArray.empty, .int .u64 0, .int .i64 0, .bool false] rfl ?_
  intro w8 hst
  refine OW.pure 1 [(3, .bool false)] (by kernel_rfl) (OW.nil rfl (QW.next (CW.ret (QW.then_ret ?_))))
  obtain rfl := Option.some.inj hF
  refine QW.ret_ct rfl rfl (run_loadN (cs := [.string ByteArray.empty, .string ByteArray.empty, .int .u64 0, .int .i64 0, .bool false]) (by kernel_rfl) (by kernel_rfl) (hst.blkN 0 rfl 0 5)) rfl ?_
  exact ⟨rfl, hst.keep [] rfl⟩
 have hF := ite_f hF hc6
 refine CW.cond_f rfl hc6 (CW.skip (QW.next (CW.seq (CW.region ?_))))
 refine OW.pure 1 [(11, .int .i64 p0)] (by kernel_rfl) ?_
 obtain ⟨x12, hx13, hF⟩ := bind_some' hF
 refine OW.op (v := .pointer (some ⟨1, 0 + Int.toNat p0 * 5, none⟩)) rfl rfl rfl rfl (fun a ha => aidx_run (n := tab_g1.length) 187 5 rfl rfl rfl (idx_some hx13).1 (idx_some hx13).2.1 (by kernel_rfl) (by kernel_rfl) a _ ha) ?_
 refine OW.ldN (cs := enc_sigs_sig x12) rfl rfl rfl rfl (by kernel_rfl) (by kernel_rfl) (hT1.cellv hst hx13 (show Value.slice (some ⟨1, 0, none⟩) 7 7 = .slice (some ⟨1, 0, none⟩) tab_g1.length 7 from rfl)) ?_
 refine OW.stB hst 0 rfl rfl rfl rfl rfl (by kernel_rfl) rfl rfl [.string x12.name, .string x12.wants, .int .u64 x12.most, .int .i64 x12.asks, .bool x12.isAsked] rfl ?_
 intro w14 hst
 refine OW.pure 1 [(3, .bool true)] (by kernel_rfl) (OW.nil rfl (QW.next (CW.ret ?_)))
 obtain rfl := Option.some.inj hF
 refine QW.ret_ct rfl rfl (run_loadN (cs := [.string x12.name, .string x12.wants, .int .u64 x12.most, .int .i64 x12.asks, .bool x12.isAsked]) (by kernel_rfl) (by kernel_rfl) (hst.blkN 0 rfl 0 5)) rfl ?_
 exact ⟨rfl, hst.keep [] rfl⟩
theorem sigs_number_ok (w : World) (p0 : Int) (r : api_Type) (hF : sigs_number p0 = some r)
    (hst : St w (fp []) w []) :
    Calls Tryz.prog 101 [.int .u64 p0].toArray w (fun e w' => e = .returned (.agg [.int .i64 r.Kind, .int .u64 r.Span.Lo, .int .u64 r.Span.Hi, .int .i64 r.Map].toArray) ∧ St w (fp []) w' []) := by
 refine CW.start (N := 6) Tryz.func101 rfl rfl rfl (CW.seq (CW.region ?_))
 refine OW.alloc hst rfl rfl rfl [.int .i64 0, .int .u64 0, .int .u64 0, .int .i64 0] (by kernel_rfl) ?_
 intro b3 w4 hst
 refine OW.nil rfl (QW.next (CW.seq (CW.region ?_)))
 refine OW.pure 3 [(5, .agg [.int .i64 1, .int .u64 0, .int .u64 p0, .int .i64 0].toArray)] (by kernel_rfl) ?_
 refine OW.stB hst 0 rfl rfl rfl rfl rfl (by kernel_rfl) rfl rfl [.int .i64 1, .int .u64 0, .int .u64 p0, .int .i64 0] rfl ?_
 intro w6 hst
 refine OW.nil rfl (QW.next (CW.ret ?_))
 obtain rfl := Option.some.inj hF
 refine QW.ret_c rfl rfl (run_loadN (cs := [.int .i64 1, .int .u64 0, .int .u64 p0, .int .i64 0]) (by kernel_rfl) (by kernel_rfl) (hst.blkN 0 rfl 0 4)) ?_
 exact ⟨rfl, hst.keep [] rfl⟩
theorem sigs_Args_ok (w : World) (fu : Nat) (p0 : Int) (r : (List api_Type)) (hF : sigs_Args fu p0 = some r)
    (hst : St w (fp []) w []) (hT1 : Rd w (fp []) (.slice (some ⟨1, 0, none⟩) 7 7) enc_sigs_sig 5 tab_g1) :
    Calls Tryz.prog 58 [.int .i64 p0].toArray w (fun e w' => ∃ (x0 : Value), e = .returned (x0) ∧ St w (fp []) w' [rowI x0 156 enc_api_Type 4 r]) := by
 refine CW.start (N := 37) Tryz.func58 rfl rfl rfl (CW.seq (CW.region ?_))
 refine OW.pure 1 [] (by kernel_rfl) (OW.nil rfl (QW.next (CW.seq (CW.region ?_))))
 refine OW.pure 1 [(9, .int .i64 p0)] (by kernel_rfl) ?_
 obtain ⟨r8, hr9, hF⟩ := bind_some' hF
 refine OW.fn rfl rfl rfl rfl (by kernel_rfl) (sigs_of_ok _ p0 r8 hr9 (hst.part [] rfl) (hT1.give hst [])) ?_
 rintro e w10 ⟨rfl, hst11⟩
 refine ⟨_, rfl, ?_⟩
 have hst := hst.join (idx := []) (rest := []) rfl hst11
 refine OW.pure 3 [(11, .agg [.string r8.1.name, .string r8.1.wants, .int .u64 r8.1.most, .int .i64 r8.1.asks, .bool r8.1.isAsked].toArray), (12, .bool r8.2)] (by kernel_rfl) ?_
 refine OW.alloc hst rfl rfl rfl [.string ByteArray.empty, .string ByteArray.empty, .int .u64 0, .int .i64 0, .bool false] (by kernel_rfl) ?_
 intro b12 w13 hst
 refine OW.stB hst 0 rfl rfl rfl rfl rfl (by kernel_rfl) rfl rfl [.string r8.1.name, .string r8.1.wants, .int .u64 r8.1.most, .int .i64 r8.1.asks, .bool r8.1.isAsked] rfl ?_
 intro w14 hst
 refine OW.pure 1 [] (by kernel_rfl) (OW.nil rfl (QW.next (CW.seq (CW.region ?_))))
 refine OW.pure 1 [(5, .slice none 0 0)] (by kernel_rfl) (OW.nil rfl (QW.next (CW.seq (CW.seq (CW.region ?_)))))
 refine OW.pure 1 [(13, .pointer (some ⟨b12, 1, none⟩))] (by kernel_rfl) ?_
 refine OW.ld rfl rfl rfl rfl (by kernel_rfl) (hst.blk 0 rfl rfl) ?_
 refine OW.srange (s := r8.1.wants) hst rfl rfl rfl rfl (by kernel_rfl) ?_
 intro it17 w18 hst
 refine OW.nil rfl (QW.next ?_)
 obtain ⟨o264, ho265, hF⟩ := bind_some' hF
 refine CW.cutK (fun a w1 => ∃ (v263 : Value), Rep 37 [(5, v263)] a ∧ St w (fp []) w1 [rowI v263 156 enc_api_Type 4 o264]) ?_ ?_
 ·refine CW.block ?_
  have hst := hst.nilRow api_Type 156 enc_api_Type 4
  refine CW.loop (fun n a w1 => ∃ (s427 : (List api_Type) × Nat) (v428 : Value), Rep 37 [(5, v428), (15, .pointer (some ⟨it17, 0, none⟩))] a ∧ St w (fp []) w1 [rowI v428 156 enc_api_Type 4 s427.1, sitI it17 r8.1.wants s427.2] ∧ loop (sigs_Args_l1 r8) n s427 = some o264) fu (fun a ha => ⟨(([] : List api_Type), 0), (.slice none 0 0), ha.agrees (by kernel_rfl), hst.keep [2, 1] rfl, ho265⟩) ?_
  rintro n425 a w1 ⟨s427, v428, ha, hst, hl426⟩
  rcases n425 with _ | n425
  ·exact (loop_zero hl426).elim
  refine CW.go ?_ ha
  obtain ⟨l429, a430, c431, rfl⟩ := hst.len 0 rfl
  refine CW.seq (CW.region ?_)
  refine OW.snext hst 1 rfl rfl rfl rfl rfl ?_ ?_
  ·intro hp434 w435 hst
   have hl426 := ite_t hl426 hp434
   refine OW.pure 1 [(17, .bool true)] (by kernel_rfl) (OW.nil rfl (QW.next (CW.seq (CW.cond_t rfl rfl (CW.skip (QW.next (CW.block (CW.seq (CW.region ?_)))))))))
   refine OW.pure 2 [(7, .int .i32 (runeAt r8.1.wants s427.2))] (by kernel_rfl) (OW.nil rfl (QW.next (CW.seq (CW.region ?_))))
   refine OW.pure 1 [(19, .int .i32 (runeAt r8.1.wants s427.2))] (by kernel_rfl) (OW.nil rfl (QW.next (CW.block (CW.seq (CW.region ?_)))))
   refine OW.pure 2 [(24, .bool ((runeAt r8.1.wants s427.2) == 104))] (by kernel_rfl) (OW.nil rfl (QW.next ?_))
   rcases Bool.eq_false_or_eq_true (((runeAt r8.1.wants s427.2) == 104)) with hc436 | hc436
   ·have hl426 := ite_t hl426 hc436
    refine CW.cond_t rfl hc436 (CW.region ?_)
    refine OW.pure 2 [(26, .slice a430 (s427.1).length c431), (27, .agg [.int .i64 2, .int .u64 0, .int .u64 0, .int .i64 0].toArray)] (by kernel_rfl) ?_
    refine OW.row (α := api_Type) (e := 156) (enc := enc_api_Type) (sz := 4) hst rfl rfl rfl [(api_Type.mk 2 (api_Span.mk 0 0) 0)] rfl (fun _ => rfl) rfl rfl (fun _ => by kernel_rfl) ?_
    intro g446 w447 hst
    obtain ⟨u448, hr449, hl426⟩ := bind_some' hl426
    refine OW.app hst 0 rfl (fun _ => rfl) (fun _ => rfl) rfl rfl rfl rfl rfl rfl (by kernel_rfl) el156 (hst.rd 2 rfl (fun _ => rfl) [] rfl (hst.len 2 rfl).1) (room_le hr449) ?_
    intro v450 w451 hst
    obtain ⟨l452, a453, c454, rfl⟩ := hst.len 0 rfl
    refine OW.pure 1 [(5, .slice a453 ((s427.1 ++ [(api_Type.mk 2 (api_Span.mk 0 0) 0)])).length c454)] (by kernel_rfl) (OW.nil rfl (QW.block_normal (QW.block_normal ?_)))
    exact QW.meet (fun a ha => ⟨n425, Nat.lt_succ_self _, ((s427.1 ++ [(api_Type.mk 2 (api_Span.mk 0 0) 0)]), (runeEnd r8.1.wants s427.2)), (.slice a453 ((s427.1 ++ [(api_Type.mk 2 (api_Span.mk 0 0) 0)])).length c454), ha.agrees (by kernel_rfl), hst.keep [0, 1] rfl, hl426⟩)
   have hl426 := ite_f hl426 hc436
   refine CW.cond_f rfl hc436 (CW.seq (CW.region ?_))
   refine OW.pure 2 [(30, .bool ((runeAt r8.1.wants s427.2) == 115))] (by kernel_rfl) (OW.nil rfl (QW.next ?_))
   rcases Bool.eq_false_or_eq_true (((runeAt r8.1.wants s427.2) == 115)) with hc456 | hc456
   ·have hl426 := ite_t hl426 hc456
    refine CW.cond_t rfl hc456 (CW.region ?_)
    refine OW.pure 1 [(32, .slice a430 (s427.1).length c431)] (by kernel_rfl) ?_
    obtain ⟨r470, hr471, hl426⟩ := bind_some' hl426
    refine OW.fn rfl rfl rfl rfl (by kernel_rfl) (sigs_number_ok _ 15 r470 hr471 (hst.part [] rfl)) ?_
    rintro e w472 ⟨rfl, hst473⟩
    refine ⟨_, rfl, ?_⟩
    have hst := hst.join (idx := []) (rest := [0, 1]) rfl hst473
    refine OW.row (α := api_Type) (e := 156) (enc := enc_api_Type) (sz := 4) hst rfl rfl rfl [r470] rfl (fun _ => rfl) rfl rfl (fun _ => by kernel_rfl) ?_
    intro g474 w475 hst
    obtain ⟨u476, hr477, hl426⟩ := bind_some' hl426
    refine OW.app hst 0 rfl (fun _ => rfl) (fun _ => rfl) rfl rfl rfl rfl rfl rfl (by kernel_rfl) el156 (hst.rd 2 rfl (fun _ => rfl) [] rfl (hst.len 2 rfl).1) (room_le hr477) ?_
    intro v478 w479 hst
    obtain ⟨l480, a481, c482, rfl⟩ := hst.len 0 rfl
    refine OW.pure 1 [(5, .slice a481 ((s427.1 ++ [r470])).length c482)] (by kernel_rfl) (OW.nil rfl (QW.block_normal (QW.block_normal ?_)))
    exact QW.meet (fun a ha => ⟨n425, Nat.lt_succ_self _, ((s427.1 ++ [r470]), (runeEnd r8.1.wants s427.2)), (.slice a481 ((s427.1 ++ [r470])).length c482), ha.agrees (by kernel_rfl), hst.keep [0, 1] rfl, hl426⟩)
   have hl426 := ite_f hl426 hc456
   refine CW.cond_f rfl hc456 (CW.region ?_)
   refine OW.pure 1 [(20, .slice a430 (s427.1).length c431)] (by kernel_rfl) ?_
   obtain ⟨r497, hr498, hl426⟩ := bind_some' hl426
   refine OW.fn rfl rfl rfl rfl (by kernel_rfl) (sigs_number_ok _ 18446744073709551615 r497 hr498 (hst.part [] rfl)) ?_
   rintro e w499 ⟨rfl, hst500⟩
   refine ⟨_, rfl, ?_⟩
   have hst := hst.join (idx := []) (rest := [0, 1]) rfl hst500
   refine OW.row (α := api_Type) (e := 156) (enc := enc_api_Type) (sz := 4) hst rfl rfl rfl [r497] rfl (fun _ => rfl) rfl rfl (fun _ => by kernel_rfl) ?_
   intro g501 w502 hst
   obtain ⟨u503, hr504, hl426⟩ := bind_some' hl426
   refine OW.app hst 0 rfl (fun _ => rfl) (fun _ => rfl) rfl rfl rfl rfl rfl rfl (by kernel_rfl) el156 (hst.rd 2 rfl (fun _ => rfl) [] rfl (hst.len 2 rfl).1) (room_le hr504) ?_
   intro v505 w506 hst
   obtain ⟨l507, a508, c509, rfl⟩ := hst.len 0 rfl
   refine OW.pure 1 [(5, .slice a508 ((s427.1 ++ [r497])).length c509)] (by kernel_rfl) (OW.nil rfl (QW.block_normal (QW.block_normal ?_)))
   exact QW.meet (fun a ha => ⟨n425, Nat.lt_succ_self _, ((s427.1 ++ [r497]), (runeEnd r8.1.wants s427.2)), (.slice a508 ((s427.1 ++ [r497])).length c509), ha.agrees (by kernel_rfl), hst.keep [0, 1] rfl, hl426⟩)
  intro hp434
  have hl426 := ite_f hl426 hp434
  refine OW.pure 1 [(17, .bool false)] (by kernel_rfl) (OW.nil rfl (QW.next (CW.seq (CW.cond_f rfl rfl ?_))))
  refine CW.exit (QW.then_exit (QW.then_exit ?_))
  refine QW.block_here ?_
  obtain rfl := Option.some.inj hl426
  exact QW.meet (fun a ha => ⟨(.slice a430 (s427.1).length c431), ha.agrees (by kernel_rfl), hst.keep [0] rfl⟩)
 rintro a w1 ⟨v263, ha, hst⟩
 refine CW.go ?_ ha
 obtain ⟨l512, a513, c514, rfl⟩ := hst.len 0 rfl
 refine CW.seq (CW.region ?_)
 refine OW.pure 2 [(2, .slice a513 (o264).length c514)] (by kernel_rfl) (OW.nil rfl (QW.next (CW.ret ?_)))
 obtain rfl := Option.some.inj hF
 refine QW.ret1 rfl rfl ?_
 exact ⟨(.slice a513 (o264).length c514), rfl, hst.keep [0] rfl⟩
theorem sigs_Check_ok (w : World) (fu : Nat) (p0 : Int) (v1 : Value) (p1 : List api_Type) (r : Int) (hF : sigs_Check fu p0 p1 = some r)
    (hst : St w (fp []) w []) (h1 : Rd w (fp []) v1 enc_api_Type 4 p1) (hT1 : Rd w (fp []) (.slice (some ⟨1, 0, none⟩) 7 7) enc_sigs_sig 5 tab_g1) :
    Calls Tryz.prog 119 [.int .i64 p0, v1].toArray w (fun e w' => e = .returned (.int .i64 r) ∧ St w (fp []) w' []) := by
 refine CW.start (N := 56) Tryz.func119 rfl rfl rfl ?_
 obtain ⟨l1, a2, c3, rfl⟩ := h1.len
 refine CW.seq (CW.region ?_)
 refine OW.pure 1 [] (by kernel_rfl) (OW.nil rfl (QW.next (CW.seq (CW.seq (CW.region ?_)))))
 refine OW.pure 1 [(11, .int .i64 p0)] (by kernel_rfl) ?_
 obtain ⟨r11, hr12, hF⟩ := bind_some' hF
 refine OW.fn rfl rfl rfl rfl (by kernel_rfl) (sigs_of_ok _ p0 r11 hr12 (hst.part [] rfl) (hT1.give hst [])) ?_
 rintro e w13 ⟨rfl, hst14⟩
 refine ⟨_, rfl, ?_⟩
 have hst := hst.join (idx := []) (rest := []) rfl hst14
 refine OW.pure 3 [(13, .agg [.string r11.1.name, .string r11.1.wants, .int .u64 r11.1.most, .int .i64 r11.1.asks, .bool r11.1.isAsked].toArray), (14, .bool r11.2)] (by kernel_rfl) ?_
 refine OW.alloc hst rfl rfl rfl [.string ByteArray.empty, .string ByteArray.empty, .int .u64 0, .int .i64 0, .bool false] (by kernel_rfl) ?_
 intro b15 w16 hst
 refine OW.stB hst 0 rfl rfl rfl rfl rfl (by kernel_rfl) rfl rfl [.string r11.1.name, .string r11.1.wants, .int .u64 r11.1.most, .int .i64 r11.1.asks, .bool r11.1.isAsked] rfl ?_
 intro w17 hst
 refine OW.pure 1 [(6, .bool r11.2)] (by kernel_rfl) (OW.nil rfl (QW.next (CW.seq (CW.region ?_))))
 refine OW.pure 2 [(16, .bool (!r11.2))] (by kernel_rfl) (OW.nil rfl (QW.next ?_))
 rcases Bool.eq_false_or_eq_true ((!r11.2)) with hc18 | hc18
 ·have hF := ite_t hF hc18
  refine CW.cond_t rfl hc18 (CW.seq (CW.region ?_))
  refine OW.pure 1 [(4, .int .i64 34)] (by kernel_rfl) (OW.nil rfl (QW.next (CW.ret (QW.then_ret ?_))))
  obtain rfl := Option.some.inj hF
  refine QW.ret1 rfl rfl ?_
  exact ⟨rfl, hst.keep [] rfl⟩
 have hF := ite_f hF hc18
 refine CW.cond_f rfl hc18 (CW.skip (QW.next (CW.seq (CW.region ?_))))
 refine OW.pure 1 [(17, .int .i64 p0)] (by kernel_rfl) ?_
 obtain ⟨r27, hr28, hF⟩ := bind_some' hF
 refine OW.fn rfl rfl rfl rfl (by kernel_rfl) (sigs_Args_ok _ fu p0 r27 hr28 (hst.part [] rfl) (hT1.give hst [])) ?_
 rintro e w29 ⟨v31, rfl, hst30⟩
 refine ⟨_, rfl, ?_⟩
 have hst := hst.join (idx := []) (rest := [0]) rfl hst30
 obtain ⟨l32, a33, c34, rfl⟩ := hst.len 0 rfl
 refine OW.pure 1 [(7, .slice a33 (r27).length c34)] (by kernel_rfl) (OW.nil rfl (QW.next (CW.seq (CW.seq (CW.region ?_)))))
 refine OW.pure 5 [(23, .bool (((r27).length : Int) != ((p1).length : Int)))] (by kernel_rfl) (OW.nil rfl (QW.next ?_))
 rcases Bool.eq_false_or_eq_true ((((r27).length : Int) != ((p1).length : Int))) with hc35 | hc35
 ·have hF := ite_t hF hc35
  refine CW.cond_t rfl hc35 (CW.seq (CW.region ?_))
  refine OW.pure 1 [(4, .int .i64 2)] (by kernel_rfl) (OW.nil rfl (QW.next (CW.ret (QW.then_ret ?_))))
  obtain rfl := Option.some.inj hF
  refine QW.ret1 rfl rfl ?_
  exact ⟨rfl, hst.keep [] rfl⟩
 have hF := ite_f hF hc35
 refine CW.cond_f rfl hc35 (CW.skip (QW.next (CW.seq (CW.seq (CW.region ?_)))))
 refine OW.pure 3 [(24, .slice a33 (r27).length c34), (25, .int .i64 ((r27).length : Int)), (26, .int .i64 0)] (by kernel_rfl) (OW.nil rfl (QW.next ?_))
 obtain ⟨o231, ho232, hF⟩ := bind_some' hF
 refine CW.cutK (fun a w1 => ∃ (t233 : Unit), o231 = .inl t233 ∧ Rep 56 [] a ∧ St w (fp []) w1 []) ?_ ?_
 ·refine CW.block ?_
  refine CW.loop (fun n a w1 => ∃ (i364 : Nat) (s363 : Unit), i364 + n = (r27).length ∧ Rep 56 [(1, .slice a2 (p1).length c3), (24, .slice a33 (r27).length c34), (25, .int .i64 ((r27).length : Int)), (26, .int .i64 (i364 : Int))] a ∧ St w (fp []) w1 [rowI (.slice a33 (r27).length c34) 156 enc_api_Type 4 r27] ∧ forN (sigs_Check_l1 p1 r27) (fun (s363 : Unit) => (.inl ())) n i364 s363 = some o231) (r27).length (fun a ha => ⟨0, (), Nat.zero_add _, ha.agrees (by kernel_rfl), hst.keep [0] rfl, ho232⟩) ?_
  rintro n361 a w1 ⟨i364, s363, hi365, ha, hst, hl362⟩
  refine CW.go ?_ ha
  refine CW.seq (CW.region ?_)
  refine OW.pure 1 [(27, .bool (decide ((i364 : Int) < ((r27).length : Int))))] (by kernel_rfl) (OW.nil rfl (QW.next (CW.seq ?_)))
  rcases Bool.eq_false_or_eq_true (decide ((i364 : Int) < ((r27).length : Int))) with hc366 | hc366
  ·rcases n361 with _ | n361
   ·exact (cnt0 hi365 hc366).elim
   refine CW.cond_t rfl hc366 (CW.skip (QW.next (CW.seq (CW.block (CW.seq (CW.region ?_))))))
   refine OW.pure 1 [(28, .int .i64 (i364 : Int))] (by kernel_rfl) ?_
   obtain ⟨x376, hx377, hl362⟩ := bind_some' hl362
   obtain ⟨g379, o380, c381, hv378⟩ := hst.rowv 0 rfl hx377
   refine OW.idx 156 4 rfl rfl rfl rfl hv378 rfl (idx_some hx377).1 (idx_some hx377).2.1 (by kernel_rfl) (by kernel_rfl) ?_
   refine OW.ldN (cs := enc_api_Type x376) rfl rfl rfl rfl (by kernel_rfl) (by kernel_rfl) (hst.rowc 0 rfl (fun _ => rfl) hx377 hv378) ?_
   refine OW.alloc hst rfl rfl rfl [.int .i64 0, .int .u64 0, .int .u64 0, .int .i64 0] (by kernel_rfl) ?_
   intro b382 w383 hst
   refine OW.pure 1 [(8, .int .i64 (i364 : Int))] (by kernel_rfl) ?_
   refine OW.stB hst 1 rfl rfl rfl rfl rfl (by kernel_rfl) rfl rfl [.int .i64 x376.Kind, .int .u64 x376.Span.Lo, .int .u64 x376.Span.Hi, .int .i64 x376.Map] rfl ?_
   intro w384 hst
   refine OW.nil rfl (QW.next (CW.block (CW.seq ?_)))
   refine CW.still (by kernel_rfl) (by kernel_rfl) ?_
   intro w393 hch394
   have hst := hst.same hch394
   refine OS.pure 1 [(32, .pointer (some ⟨b382, 0, none⟩))] rfl (by kernel_rfl) ?_
   refine OS.ld rfl rfl rfl rfl rfl (by kernel_rfl) (hst.blk 1 rfl rfl) ?_
   refine OS.pure 2 [(34, .slice a2 (p1).length c3), (35, .int .i64 (i364 : Int))] rfl (by kernel_rfl) ?_
   obtain ⟨x395, hx396, hl362⟩ := bind_some' hl362
   obtain ⟨g398, o399, c400, hv397⟩ := h1.formv (fun _ => ⟨_, rfl⟩) hx396
   refine OS.idx 156 4 rfl rfl rfl rfl rfl hv397 rfl (idx_some hx396).1 (idx_some hx396).2.1 (by kernel_rfl) (by kernel_rfl) ?_
   refine OS.pure 1 [(37, .pointer (some ⟨g398, o399 + Int.toNat (i364 : Int) * 4, none⟩))] rfl (by kernel_rfl) ?_
   refine OS.ld rfl rfl rfl rfl rfl (by kernel_rfl) (h1.cellv hst hx396 hv397 0 _ rfl) ?_
   refine OS.pure 2 [(31, .bool (x376.Kind != x395.Kind))] rfl (by kernel_rfl) ?_
   refine OS.fin rfl (QW.next ?_)
   rcases Bool.eq_false_or_eq_true ((x376.Kind != x395.Kind)) with hc401 | hc401
   ·have hl362 := ite_t hl362 hc401
    refine CW.cond_t rfl hc401 (CW.seq (CW.region ?_))
    refine OW.pure 1 [(4, .int .i64 33)] (by kernel_rfl) (OW.nil rfl (QW.next (CW.ret (QW.block_ret (QW.block_ret (QW.then_ret (QW.then_ret (QW.block_ret (QW.then_ret ?_)))))))))
    obtain rfl := Option.some.inj hl362
    obtain rfl := Option.some.inj hF
    refine QW.ret1 rfl rfl ?_
    exact ⟨rfl, hst.keep [] rfl⟩
   have hl362 := ite_f hl362 hc401
   refine CW.cond_f rfl hc401 (CW.seq ?_)
   obtain ⟨o415, ho416, hl362⟩ := bind_some' hl362
   refine CW.cutK (fun a w1 => Rep 56 [(1, .slice a2 (p1).length c3), (24, .slice a33 (r27).length c34), (25, .int .i64 ((r27).length : Int)), (26, .int .i64 (i364 : Int)), (40, .bool o415)] a ∧ St w (fp []) w1 [rowI (.slice a33 (r27).length c34) 156 enc_api_Type 4 r27]) ?_ ?_
   ·refine CW.tail 11 (by kernel_rfl) (by kernel_rfl) ?_
    intro w417 hch418
    have hst := hst.same hch418
    refine OS.pure 1 [(41, .pointer (some ⟨b382, 0, none⟩))] rfl (by kernel_rfl) ?_
    refine OS.ld rfl rfl rfl rfl rfl (by kernel_rfl) (hst.blk 1 rfl rfl) ?_
    refine OS.pure 2 [(44, .bool (x376.Kind == 1))] rfl (by kernel_rfl) ?_
    refine OS.split 44 rfl (fun hc419 => ?_) (fun hc419 => ?_)
    ·have ho416 := ite_t ho416 hc419
     refine OS.pure 2 [(45, .slice a2 (p1).length c3), (46, .int .i64 (i364 : Int))] rfl (by kernel_rfl) ?_
     obtain ⟨g421, o422, c423, hv420⟩ := h1.formv (fun _ => ⟨_, rfl⟩) hx396
     refine OS.idx 156 4 rfl rfl rfl rfl rfl hv420 rfl (idx_some hx396).1 (idx_some hx396).2.1 (by kernel_rfl) (by kernel_rfl) ?_
     refine OS.pure 1 [(48, .pointer (some ⟨g421, o422 + Int.toNat (i364 : Int) * 4 + 1, none⟩))] rfl (by kernel_rfl) ?_
     refine OS.ldN (cs := [.int .u64 x395.Span.Lo, .int .u64 x395.Span.Hi]) rfl rfl rfl rfl rfl (by kernel_rfl) (by kernel_rfl) (elN (h1.cellv hst hx396 hv420) 1 2) ?_
     refine OS.pure 1 [(50, .pointer (some ⟨b382, 1, none⟩))] rfl (by kernel_rfl) ?_
     refine OS.ldN (cs := [.int .u64 x376.Span.Lo, .int .u64 x376.Span.Hi]) rfl rfl rfl rfl rfl (by kernel_rfl) (by kernel_rfl) (hst.blkN 1 rfl 1 2) ?_
     refine OS.on ?_
     obtain ⟨r424, hr425, ho416⟩ := bind_some' ho416
     refine OW.fn rfl rfl rfl rfl (by kernel_rfl) (span_Within_ok _ x395.Span x376.Span r424 hr425 (hst.part [] rfl)) ?_
     rintro e w426 ⟨rfl, hst427⟩
     refine ⟨_, rfl, ?_⟩
     have hst := hst.join (idx := []) (rest := [0, 1]) rfl hst427
     refine OW.pure 3 [(40, .bool (!r424))] (by kernel_rfl) (OW.nil rfl ?_)
     obtain rfl := Option.some.inj ho416
     exact QW.meet (fun a ha => ⟨ha.agrees (by kernel_rfl), hst.keep [0] rfl⟩)
    have ho416 := ite_f ho416 hc419
    refine OS.pure 7 [(49, undef), (51, undef)] rfl (by kernel_rfl) ?_
    refine OS.on ?_
    refine OW.pure 4 [(40, .bool false)] (by kernel_rfl) (OW.nil rfl ?_)
    obtain rfl := Option.some.inj ho416
    exact QW.meet (fun a ha => ⟨ha.agrees (by kernel_rfl), hst.keep [0] rfl⟩)
   rintro a w1 ⟨ha, hst⟩
   refine CW.go ?_ ha
   rcases Bool.eq_false_or_eq_true (o415) with hc428 | hc428
   ·have hl362 := ite_t hl362 hc428
    refine CW.cond_t rfl hc428 (CW.seq (CW.region ?_))
    refine OW.pure 1 [(4, .int .i64 35)] (by kernel_rfl) (OW.nil rfl (QW.next (CW.ret (QW.block_ret (QW.block_ret (QW.then_ret (QW.then_ret (QW.block_ret (QW.then_ret ?_)))))))))
    obtain rfl := Option.some.inj hl362
    obtain rfl := Option.some.inj hF
    refine QW.ret1 rfl rfl ?_
    exact ⟨rfl, hst.keep [] rfl⟩
   have hl362 := ite_f hl362 hc428
   refine CW.cond_f rfl hc428 (CW.skip (QW.block_normal (QW.block_normal (QW.next (CW.region ?_)))))
   refine OW.pure 2 [(26, .int .i64 (w64 ((i364 : Int) + 1)))] (by kernel_rfl) (OW.nil rfl ?_)
   refine QW.say 26 rfl (congrArg (Value.int .i64) (w64_cnt hc366 l32)) ?_
   exact QW.meet (fun a ha => ⟨n361, Nat.lt_succ_self _, i364 + 1, (), cnt_next hi365, ha.agrees (by kernel_rfl), hst.keep [0] rfl, hl362⟩)
  rcases n361 with _ | n361
  ·refine CW.cond_f rfl hc366 ?_
   refine CW.exit (QW.then_exit (QW.then_exit ?_))
   refine QW.block_here ?_
   obtain rfl := Option.some.inj hl362
   exact QW.meet (fun a ha => ⟨(), rfl, ha.agrees (by kernel_rfl), hst.keep [] rfl⟩)
  exact (cnt1 hi365 hc366).elim
 rintro a w1 ⟨t233, rfl, ha, hst⟩
 refine CW.go ?_ ha
 refine CW.seq (CW.region ?_)
 refine OW.pure 1 [(4, .int .i64 0)] (by kernel_rfl) (OW.nil rfl (QW.next (CW.ret ?_)))
 obtain rfl := Option.some.inj hF
 refine QW.ret1 rfl rfl ?_
 exact ⟨rfl, hst.keep [] rfl⟩
theorem sigs_Result_ok (w : World) (p0 : Int) (r : api_Type × Bool) (hF : sigs_Result p0 = some r)
    (hst : St w (fp []) w []) (hT1 : Rd w (fp []) (.slice (some ⟨1, 0, none⟩) 7 7) enc_sigs_sig 5 tab_g1) :
    Calls Tryz.prog 120 [.int .i64 p0].toArray w (fun e w' => e = .returned (.tuple #[.agg [.int .i64 r.1.Kind, .int .u64 r.1.Span.Lo, .int .u64 r.1.Span.Hi, .int .i64 r.1.Map].toArray, .bool r.2]) ∧ St w (fp []) w' []) := by
 refine CW.start (N := 17) Tryz.func120 rfl rfl rfl (CW.seq (CW.region ?_))
 refine OW.alloc hst rfl rfl rfl [.int .i64 0, .int .u64 0, .int .u64 0, .int .i64 0] (by kernel_rfl) ?_
 intro b3 w4 hst
 refine OW.pure 1 [] (by kernel_rfl) (OW.nil rfl (QW.next (CW.seq (CW.region ?_))))
 refine OW.pure 1 [(7, .int .i64 p0)] (by kernel_rfl) ?_
 obtain ⟨r12, hr13, hF⟩ := bind_some' hF
 refine OW.fn rfl rfl rfl rfl (by kernel_rfl) (sigs_of_ok _ p0 r12 hr13 (hst.part [] rfl) (hT1.give hst [])) ?_
 rintro e w14 ⟨rfl, hst15⟩
 refine ⟨_, rfl, ?_⟩
 have hst := hst.join (idx := []) (rest := [0]) rfl hst15
 refine OW.pure 3 [(9, .agg [.string r12.1.name, .string r12.1.wants, .int .u64 r12.1.most, .int .i64 r12.1.asks, .bool r12.1.isAsked].toArray), (10, .bool r12.2)] (by kernel_rfl) ?_
 refine OW.alloc hst rfl rfl rfl [.string ByteArray.empty, .string ByteArray.empty, .int .u64 0, .int .i64 0, .bool false] (by kernel_rfl) ?_
 intro b16 w17 hst
 refine OW.stB hst 1 rfl rfl rfl rfl rfl (by kernel_rfl) rfl rfl [.string r12.1.name, .string r12.1.wants, .int .u64 r12.1.most, .int .i64 r12.1.asks, .bool r12.1.isAsked] rfl ?_
 intro w18 hst
 refine OW.pure 1 [(5, .bool r12.2)] (by kernel_rfl) (OW.nil rfl (QW.next (CW.seq (CW.seq (CW.region ?_)))))
 refine OW.pure 2 [(12, .bool (!r12.2))] (by kernel_rfl) (OW.nil rfl (QW.next ?_))
 rcases Bool.eq_false_or_eq_true ((!r12.2)) with hc19 | hc19
 ·have hF := ite_t hF hc19
  refine CW.cond_t rfl hc19 (CW.seq (CW.region ?_))
  refine OW.pure 1 [(13, .agg [.int .i64 0, .int .u64 0, .int .u64 0, .int .i64 0].toArray)] (by kernel_rfl) ?_
  refine OW.stB hst 0 rfl rfl rfl rfl rfl (by kernel_rfl) rfl rfl [.int .i64 0, .int .u64 0, .int .u64 0, .int .i64 0] rfl ?_
  intro w21 hst
  refine OW.pure 1 [(3, .bool false)] (by kernel_rfl) (OW.nil rfl (QW.next (CW.ret (QW.then_ret ?_))))
  obtain rfl := Option.some.inj hF
  refine QW.ret_ct rfl rfl (run_loadN (cs := [.int .i64 0, .int .u64 0, .int .u64 0, .int .i64 0]) (by kernel_rfl) (by kernel_rfl) (hst.blkN 0 rfl 0 4)) rfl ?_
  exact ⟨rfl, hst.keep [] rfl⟩
 have hF := ite_f hF hc19
 refine CW.cond_f rfl hc19 (CW.skip (QW.next (CW.seq (CW.region ?_))))
 refine OW.pure 1 [(14, .pointer (some ⟨b16, 2, none⟩))] (by kernel_rfl) ?_
 refine OW.ld rfl rfl rfl rfl (by kernel_rfl) (hst.blk 1 rfl rfl) ?_
 obtain ⟨r27, hr28, hF⟩ := bind_some' hF
 refine OW.fn rfl rfl rfl rfl (by kernel_rfl) (sigs_number_ok _ r12.1.most r27 hr28 (hst.part [] rfl)) ?_
 rintro e w29 ⟨rfl, hst30⟩
 refine ⟨_, rfl, ?_⟩
 have hst := hst.join (idx := []) (rest := [0, 1]) rfl hst30
 refine OW.stB hst 0 rfl rfl rfl rfl rfl (by kernel_rfl) rfl rfl [.int .i64 r27.Kind, .int .u64 r27.Span.Lo, .int .u64 r27.Span.Hi, .int .i64 r27.Map] rfl ?_
 intro w31 hst
 refine OW.pure 1 [(3, .bool true)] (by kernel_rfl) (OW.nil rfl (QW.next (CW.ret ?_)))
 obtain rfl := Option.some.inj hF
 refine QW.ret_ct rfl rfl (run_loadN (cs := [.int .i64 r27.Kind, .int .u64 r27.Span.Lo, .int .u64 r27.Span.Hi, .int .i64 r27.Map]) (by kernel_rfl) (by kernel_rfl) (hst.blkN 0 rfl 0 4)) rfl ?_
 exact ⟨rfl, hst.keep [] rfl⟩
theorem arith_Do_ok (w : World) (p0 : Int) (p1 : Int) (p2 : Int) (r : Int × Bool) (hF : arith_Do p0 p1 p2 = some r)
    (hst : St w (fp []) w []) :
    Calls Tryz.prog 62 [.int .i64 p0, .int .u64 p1, .int .u64 p2].toArray w (fun e w' => e = .returned (.tuple #[.int .u64 r.1, .bool r.2]) ∧ St w (fp []) w' []) := by
 refine CW.start (N := 64) Tryz.func62 rfl rfl rfl (CW.seq (CW.region ?_))
 refine OW.pure 2 [] (by kernel_rfl) (OW.nil rfl (QW.next (CW.seq (CW.seq (CW.region ?_)))))
 refine OW.pure 1 [(8, .int .i64 p0)] (by kernel_rfl) (OW.nil rfl (QW.next (CW.block (CW.seq (CW.region ?_)))))
 refine OW.pure 2 [(9, .bool (p0 == 1))] (by kernel_rfl) (OW.nil rfl (QW.next ?_))
 rcases Bool.eq_false_or_eq_true ((p0 == 1)) with hc1 | hc1
 ·have hF := ite_t hF hc1
  refine CW.cond_t rfl hc1 (CW.seq (CW.region ?_))
  refine OW.pure 5 [(6, .int .u64 (wu64 (p1 + p2))), (7, .bool true)] (by kernel_rfl) (OW.nil rfl (QW.next (CW.ret (QW.block_ret (QW.then_ret ?_)))))
  obtain rfl := Option.some.inj hF
  refine QW.ret2 rfl rfl rfl ?_
  exact ⟨rfl, hst.keep [] rfl⟩
 have hF := ite_f hF hc1
 refine CW.cond_f rfl hc1 (CW.seq (CW.region ?_))
 refine OW.pure 2 [(14, .bool (p0 == 2))] (by kernel_rfl) (OW.nil rfl (QW.next ?_))
 rcases Bool.eq_false_or_eq_true ((p0 == 2)) with hc2 | hc2
 ·have hF := ite_t hF hc2
  refine CW.cond_t rfl hc2 (CW.seq (CW.region ?_))
  refine OW.pure 5 [(6, .int .u64 (wu64 (p1 - p2))), (7, .bool true)] (by kernel_rfl) (OW.nil rfl (QW.next (CW.ret (QW.block_ret (QW.then_ret ?_)))))
  obtain rfl := Option.some.inj hF
  refine QW.ret2 rfl rfl rfl ?_
  exact ⟨rfl, hst.keep [] rfl⟩
 have hF := ite_f hF hc2
 refine CW.cond_f rfl hc2 (CW.seq (CW.region ?_))
 refine OW.pure 2 [(19, .bool (p0 == 3))] (by kernel_rfl) (OW.nil rfl (QW.next ?_))
 rcases Bool.eq_false_or_eq_true ((p0 == 3)) with hc3 | hc3
 ·have hF := ite_t hF hc3
  refine CW.cond_t rfl hc3 (CW.seq (CW.region ?_))
  refine OW.pure 5 [(6, .int .u64 (wu64 (p1 * p2))), (7, .bool true)] (by kernel_rfl) (OW.nil rfl (QW.next (CW.ret (QW.block_ret (QW.then_ret ?_)))))
  obtain rfl := Option.some.inj hF
  refine QW.ret2 rfl rfl rfl ?_
  exact ⟨rfl, hst.keep [] rfl⟩
 have hF := ite_f hF hc3
 refine CW.cond_f rfl hc3 (CW.seq (CW.region ?_))
 refine OW.pure 2 [(24, .bool (p0 == 4))] (by kernel_rfl) (OW.nil rfl (QW.next ?_))
 rcases Bool.eq_false_or_eq_true ((p0 == 4)) with hc4 | hc4
 ·have hF := ite_t hF hc4
  refine CW.cond_t rfl hc4 (CW.seq (CW.seq (CW.region ?_)))
  refine OW.pure 2 [(27, .bool (p2 == 0))] (by kernel_rfl) (OW.nil rfl (QW.next ?_))
  rcases Bool.eq_false_or_eq_true ((p2 == 0)) with hc5 | hc5
  ·have hF := ite_t hF hc5
   refine CW.cond_t rfl hc5 (CW.seq (CW.region ?_))
   refine OW.pure 2 [(6, .int .u64 0), (7, .bool true)] (by kernel_rfl) (OW.nil rfl (QW.next (CW.ret (QW.then_ret (QW.block_ret (QW.then_ret ?_))))))
   obtain rfl := Option.some.inj hF
   refine QW.ret2 rfl rfl rfl ?_
   exact ⟨rfl, hst.keep [] rfl⟩
  have hF := ite_f hF hc5
  refine CW.cond_f rfl hc5 (CW.skip (QW.next (CW.seq (CW.region ?_))))
  refine OW.pure 2 [(28, .int .u64 p1), (29, .int .u64 p2)] (by kernel_rfl) ?_
  obtain ⟨u8, hz9, hF⟩ := bind_some' hF
  refine OW.quo rfl rfl rfl rfl rfl (nz_ne hz9) ?_
  refine OW.pure 2 [(6, .int .u64 (wu64 (p1.tdiv p2))), (7, .bool true)] (by kernel_rfl) (OW.nil rfl (QW.next (CW.ret (QW.block_ret (QW.then_ret ?_)))))
  obtain rfl := Option.some.inj hF
  refine QW.ret2 rfl rfl rfl ?_
  exact ⟨rfl, hst.keep [] rfl⟩
 have hF := ite_f hF hc4
 refine CW.cond_f rfl hc4 (CW.seq (CW.region ?_))
 refine OW.pure 2 [(31, .bool (p0 == 5))] (by kernel_rfl) (OW.nil rfl (QW.next ?_))
 rcases Bool.eq_false_or_eq_true ((p0 == 5)) with hc10 | hc10
 ·have hF := ite_t hF hc10
  refine CW.cond_t rfl hc10 (CW.seq (CW.seq (CW.region ?_)))
  refine OW.pure 2 [(34, .bool (p2 == 0))] (by kernel_rfl) (OW.nil rfl (QW.next ?_))
  rcases Bool.eq_false_or_eq_true ((p2 == 0)) with hc11 | hc11
  ·have hF := ite_t hF hc11
   refine CW.cond_t rfl hc11 (CW.seq (CW.region ?_))
   refine OW.pure 3 [(6, .int .u64 p1), (7, .bool true)] (by kernel_rfl) (OW.nil rfl (QW.next (CW.ret (QW.then_ret (QW.block_ret (QW.then_ret ?_))))))
   obtain rfl := Option.some.inj hF
   refine QW.ret2 rfl rfl rfl ?_
   exact ⟨rfl, hst.keep [] rfl⟩
  have hF := ite_f hF hc11
  refine CW.cond_f rfl hc11 (CW.skip (QW.next (CW.seq (CW.region ?_))))
  refine OW.pure 2 [(36, .int .u64 p1), (37, .int .u64 p2)] (by kernel_rfl) ?_
  obtain ⟨u14, hz15, hF⟩ := bind_some' hF
  refine OW.rem rfl rfl rfl rfl rfl (nz_ne hz15) ?_
  refine OW.pure 2 [(6, .int .u64 (p1.tmod p2)), (7, .bool true)] (by kernel_rfl) (OW.nil rfl (QW.next (CW.ret (QW.block_ret (QW.then_ret ?_)))))
  obtain rfl := Option.some.inj hF
  refine QW.ret2 rfl rfl rfl ?_
  exact ⟨rfl, hst.keep [] rfl⟩
 have hF := ite_f hF hc10
 refine CW.cond_f rfl hc10 (CW.seq (CW.region ?_))
 refine OW.pure 2 [(39, .bool (p0 == 6))] (by kernel_rfl) (OW.nil rfl (QW.next ?_))
 rcases Bool.eq_false_or_eq_true ((p0 == 6)) with hc16 | hc16
 ·have hF := ite_t hF hc16
  refine CW.cond_t rfl hc16 (CW.seq (CW.region ?_))
  refine OW.pure 5 [(6, .int .u64 (bAnd .u64 p1 p2)), (7, .bool true)] (by kernel_rfl) (OW.nil rfl (QW.next (CW.ret (QW.block_ret (QW.then_ret ?_)))))
  obtain rfl := Option.some.inj hF
  refine QW.ret2 rfl rfl rfl ?_
  exact ⟨rfl, hst.keep [] rfl⟩
 have hF := ite_f hF hc16
 refine CW.cond_f rfl hc16 (CW.seq (CW.region ?_))
 refine OW.pure 2 [(44, .bool (p0 == 7))] (by kernel_rfl) (OW.nil rfl (QW.next ?_))
 rcases Bool.eq_false_or_eq_true ((p0 == 7)) with hc17 | hc17
 ·have hF := ite_t hF hc17
  refine CW.cond_t rfl hc17 (CW.seq (CW.region ?_))
  refine OW.pure 5 [(6, .int .u64 (bOr .u64 p1 p2)), (7, .bool true)] (by kernel_rfl) (OW.nil rfl (QW.next (CW.ret (QW.block_ret (QW.then_ret ?_)))))
  obtain rfl := Option.some.inj hF
  refine QW.ret2 rfl rfl rfl ?_
  exact ⟨rfl, hst.keep [] rfl⟩
 have hF := ite_f hF hc17
 refine CW.cond_f rfl hc17 (CW.seq (CW.region ?_))
 refine OW.pure 2 [(49, .bool (p0 == 8))] (by kernel_rfl) (OW.nil rfl (QW.next ?_))
 rcases Bool.eq_false_or_eq_true ((p0 == 8)) with hc18 | hc18
 ·have hF := ite_t hF hc18
  refine CW.cond_t rfl hc18 (CW.seq (CW.region ?_))
  refine OW.pure 5 [(6, .int .u64 (bXor .u64 p1 p2)), (7, .bool true)] (by kernel_rfl) (OW.nil rfl (QW.next (CW.ret (QW.block_ret (QW.then_ret ?_)))))
  obtain rfl := Option.some.inj hF
  refine QW.ret2 rfl rfl rfl ?_
  exact ⟨rfl, hst.keep [] rfl⟩
 have hF := ite_f hF hc18
 refine CW.cond_f rfl hc18 (CW.seq (CW.region ?_))
 refine OW.pure 2 [(54, .bool (p0 == 9))] (by kernel_rfl) (OW.nil rfl (QW.next ?_))
 rcases Bool.eq_false_or_eq_true ((p0 == 9)) with hc19 | hc19
 ·have hF := ite_t hF hc19
  refine CW.cond_t rfl hc19 (CW.seq (CW.region ?_))
  refine OW.pure 2 [(56, .int .u64 p1), (57, .int .u64 p2)] (by kernel_rfl) ?_
  obtain ⟨u22, hz23, hF⟩ := bind_some' hF
  refine OW.op (v := .int .u64 (bShl .u64 p1 p2)) rfl rfl rfl rfl (fun a ha => shl_run rfl rfl rfl (nn_ge hz23) a _ ha) ?_
  refine OW.pure 2 [(6, .int .u64 (bShl .u64 p1 p2)), (7, .bool true)] (by kernel_rfl) (OW.nil rfl (QW.next (CW.ret (QW.block_ret (QW.then_ret ?_)))))
  obtain rfl := Option.some.inj hF
  refine QW.ret2 rfl rfl rfl ?_
  exact ⟨rfl, hst.keep [] rfl⟩
 have hF := ite_f hF hc19
 refine CW.cond_f rfl hc19 (CW.seq (CW.region ?_))
 refine OW.pure 2 [(59, .bool (p0 == 10))] (by kernel_rfl) (OW.nil rfl (QW.next ?_))
 rcases Bool.eq_false_or_eq_true ((p0 == 10)) with hc24 | hc24
 ·have hF := ite_t hF hc24
  refine CW.cond_t rfl hc24 (CW.seq (CW.region ?_))
  refine OW.pure 2 [(61, .int .u64 p1), (62, .int .u64 p2)] (by kernel_rfl) ?_
  obtain ⟨u27, hz28, hF⟩ := bind_some' hF
  refine OW.op (v := .int .u64 (bShr .u64 p1 p2)) rfl rfl rfl rfl (fun a ha => shr_run rfl rfl rfl (nn_ge hz28) a _ ha) ?_
  refine OW.pure 2 [(6, .int .u64 (bShr .u64 p1 p2)), (7, .bool true)] (by kernel_rfl) (OW.nil rfl (QW.next (CW.ret (QW.block_ret (QW.then_ret ?_)))))
  obtain rfl := Option.some.inj hF
  refine QW.ret2 rfl rfl rfl ?_
  exact ⟨rfl, hst.keep [] rfl⟩
 have hF := ite_f hF hc24
 refine CW.cond_f rfl hc24 (CW.skip (QW.block_normal (QW.next (CW.seq (CW.region ?_)))))
 refine OW.pure 2 [(6, .int .u64 0), (7, .bool false)] (by kernel_rfl) (OW.nil rfl (QW.next (CW.ret ?_)))
 obtain rfl := Option.some.inj hF
 refine QW.ret2 rfl rfl rfl ?_
 exact ⟨rfl, hst.keep [] rfl⟩
theorem span_single_ok (w : World) (p0 : api_Span) (r : Bool) (hF : span_single p0 = some r)
    (hst : St w (fp []) w []) :
    Calls Tryz.prog 148 [.agg [.int .u64 p0.Lo, .int .u64 p0.Hi].toArray].toArray w (fun e w' => e = .returned (.bool r) ∧ St w (fp []) w' []) := by
 refine CW.start (N := 8) Tryz.func148 rfl rfl rfl (CW.seq (CW.region ?_))
 refine OW.box hst rfl rfl rfl rfl [.int .u64 p0.Lo, .int .u64 p0.Hi] rfl ?_
 intro b3 w4 hst
 refine OW.pure 1 [] (by kernel_rfl) (OW.nil rfl (QW.next (CW.seq (CW.region ?_))))
 refine OW.pure 1 [(3, .pointer (some ⟨b3, 0, none⟩))] (by kernel_rfl) ?_
 refine OW.ld rfl rfl rfl rfl (by kernel_rfl) (hst.blk 0 rfl rfl) ?_
 refine OW.pure 1 [(5, .pointer (some ⟨b3, 1, none⟩))] (by kernel_rfl) ?_
 refine OW.ld rfl rfl rfl rfl (by kernel_rfl) (hst.blk 0 rfl rfl) ?_
 refine OW.pure 2 [(2, .bool (p0.Lo == p0.Hi))] (by kernel_rfl) (OW.nil rfl (QW.next (CW.ret ?_)))
 obtain rfl := Option.some.inj hF
 refine QW.ret1 rfl rfl ?_
 exact ⟨rfl, hst.keep [] rfl⟩
theorem span_sum_ok (w : World) (p0 : api_Span) (p1 : api_Span) (r : api_Span) (hF : span_sum p0 p1 = some r)
    (hst : St w (fp []) w []) :
    Calls Tryz.prog 149 [.agg [.int .u64 p0.Lo, .int .u64 p0.Hi].toArray, .agg [.int .u64 p1.Lo, .int .u64 p1.Hi].toArray].toArray w (fun e w' => e = .returned (.agg [.int .u64 r.Lo, .int .u64 r.Hi].toArray) ∧ St w (fp []) w' []) := by
 refine CW.start (N := 25) Tryz.func149 rfl rfl rfl (CW.seq (CW.region ?_))
 refine OW.box hst rfl rfl rfl rfl [.int .u64 p0.Lo, .int .u64 p0.Hi] rfl ?_
 intro b7 w8 hst
 refine OW.box hst rfl rfl rfl rfl [.int .u64 p1.Lo, .int .u64 p1.Hi] rfl ?_
 intro b9 w10 hst
 refine OW.alloc hst rfl rfl rfl [.int .u64 0, .int .u64 0] (by kernel_rfl) ?_
 intro b11 w12 hst
 refine OW.nil rfl (QW.next (CW.seq (CW.region ?_)))
 refine OW.pure 1 [(8, .pointer (some ⟨b7, 1, none⟩))] (by kernel_rfl) ?_
 refine OW.ld rfl rfl rfl rfl (by kernel_rfl) (hst.blk 0 rfl rfl) ?_
 refine OW.pure 1 [(10, .pointer (some ⟨b9, 1, none⟩))] (by kernel_rfl) ?_
 refine OW.ld rfl rfl rfl rfl (by kernel_rfl) (hst.blk 1 rfl rfl) ?_
 obtain ⟨x15, hx16, hF⟩ := bind_some' hF
 refine OW.op (v := .tuple [.int .u64 x15.1, .int .u64 x15.2].toArray) rfl rfl rfl rfl (fun a ha => add64_run rfl rfl rfl rfl Tryz.func168 (by kernel_rfl) (by kernel_rfl) (by kernel_rfl) (by kernel_rfl) hx16 a _ ha) ?_
 refine OW.pure 5 [(5, .int .u64 x15.1), (6, .int .u64 x15.2)] (by kernel_rfl) (OW.nil rfl (QW.next (CW.seq (CW.seq (CW.region ?_)))))
 refine OW.pure 2 [(16, .bool (decide (x15.2 > 0)))] (by kernel_rfl) (OW.nil rfl (QW.next ?_))
 rcases Bool.eq_false_or_eq_true (decide (x15.2 > 0)) with hc17 | hc17
 ·have hF := ite_t hF hc17
  refine CW.cond_t rfl hc17 (CW.seq (CW.region ?_))
  obtain ⟨r23, hr24, hF⟩ := bind_some' hF
  refine OW.fn rfl rfl rfl rfl (by kernel_rfl) (span_Full_ok _ r23 hr24 (hst.part [] rfl)) ?_
  rintro e w25 ⟨rfl, hst26⟩
  refine ⟨_, rfl, ?_⟩
  have hst := hst.join (idx := []) (rest := [0, 1, 2]) rfl hst26
  refine OW.stB hst 2 rfl rfl rfl rfl rfl (by kernel_rfl) rfl rfl [.int .u64 r23.Lo, .int .u64 r23.Hi] rfl ?_
  intro w27 hst
  refine OW.nil rfl (QW.next (CW.ret (QW.then_ret ?_)))
  obtain rfl := Option.some.inj hF
  refine QW.ret_c rfl rfl (run_loadN (cs := [.int .u64 r23.Lo, .int .u64 r23.Hi]) (by kernel_rfl) (by kernel_rfl) (hst.blkN 2 rfl 0 2)) ?_
  exact ⟨rfl, hst.keep [] rfl⟩
 have hF := ite_f hF hc17
 refine CW.cond_f rfl hc17 (CW.skip (QW.next (CW.seq (CW.region ?_))))
 refine OW.pure 1 [(18, .pointer (some ⟨b7, 0, none⟩))] (by kernel_rfl) ?_
 refine OW.ld rfl rfl rfl rfl (by kernel_rfl) (hst.blk 0 rfl rfl) ?_
 refine OW.pure 1 [(20, .pointer (some ⟨b9, 0, none⟩))] (by kernel_rfl) ?_
 refine OW.ld rfl rfl rfl rfl (by kernel_rfl) (hst.blk 1 rfl rfl) ?_
 refine OW.pure 3 [(24, .agg [.int .u64 (wu64 (p0.Lo + p1.Lo)), .int .u64 x15.1].toArray)] (by kernel_rfl) ?_
 refine OW.stB hst 2 rfl rfl rfl rfl rfl (by kernel_rfl) rfl rfl [.int .u64 (wu64 (p0.Lo + p1.Lo)), .int .u64 x15.1] rfl ?_
 intro w29 hst
 refine OW.nil rfl (QW.next (CW.ret ?_))
 obtain rfl := Option.some.inj hF
 refine QW.ret_c rfl rfl (run_loadN (cs := [.int .u64 (wu64 (p0.Lo + p1.Lo)), .int .u64 x15.1]) (by kernel_rfl) (by kernel_rfl) (hst.blkN 2 rfl 0 2)) ?_
 exact ⟨rfl, hst.keep [] rfl⟩
theorem bits_Mul64_ok (w : World) (p0 : Int) (p1 : Int) (r : Int × Int) (hF : bits_Mul64 p0 p1 = some r)
    (hst : St w (fp []) w []) :
    Calls Tryz.prog 169 [.int .u64 p0, .int .u64 p1].toArray w (fun e w' => e = .returned (.tuple #[.int .u64 r.1, .int .u64 r.2]) ∧ St w (fp []) w' []) := by
 refine CW.start (N := 51) Tryz.func169 rfl rfl rfl (CW.seq (CW.region ?_))
 refine OW.pure 2 [] (by kernel_rfl) (OW.nil rfl (QW.next (CW.seq (CW.region ?_))))
 refine OW.pure 3 [(6, .int .u64 (bAnd .u64 p0 4294967295))] (by kernel_rfl) (OW.nil rfl (QW.next (CW.seq (CW.region ?_))))
 refine OW.pure 3 [(7, .int .u64 (bShr .u64 p0 32))] (by kernel_rfl) (OW.nil rfl (QW.next (CW.seq (CW.region ?_))))
 refine OW.pure 3 [(8, .int .u64 (bAnd .u64 p1 4294967295))] (by kernel_rfl) (OW.nil rfl (QW.next (CW.seq (CW.region ?_))))
 refine OW.pure 3 [(9, .int .u64 (bShr .u64 p1 32))] (by kernel_rfl) (OW.nil rfl (QW.next (CW.seq (CW.region ?_))))
 refine OW.pure 4 [(10, .int .u64 (wu64 ((bAnd .u64 p0 4294967295) * (bAnd .u64 p1 4294967295))))] (by kernel_rfl) (OW.nil rfl (QW.next (CW.seq (CW.region ?_))))
 refine OW.pure 7 [(11, .int .u64 (wu64 ((wu64 ((bShr .u64 p0 32) * (bAnd .u64 p1 4294967295))) + (bShr .u64 (wu64 ((bAnd .u64 p0 4294967295) * (bAnd .u64 p1 4294967295))) 32))))] (by kernel_rfl) (OW.nil rfl (QW.next (CW.seq (CW.region ?_))))
 refine OW.pure 3 [(12, .int .u64 (bAnd .u64 (wu64 ((wu64 ((bShr .u64 p0 32) * (bAnd .u64 p1 4294967295))) + (bShr .u64 (wu64 ((bAnd .u64 p0 4294967295) * (bAnd .u64 p1 4294967295))) 32))) 4294967295))] (by kernel_rfl) (OW.nil rfl (QW.next (CW.seq (CW.region ?_))))
 refine OW.pure 3 [(13, .int .u64 (bShr .u64 (wu64 ((wu64 ((bShr .u64 p0 32) * (bAnd .u64 p1 4294967295))) + (bShr .u64 (wu64 ((bAnd .u64 p0 4294967295) * (bAnd .u64 p1 4294967295))) 32))) 32))] (by kernel_rfl) (OW.nil rfl (QW.next (CW.seq (CW.region ?_))))
 refine OW.pure 6 [(12, .int .u64 (wu64 ((bAnd .u64 (wu64 ((wu64 ((bShr .u64 p0 32) * (bAnd .u64 p1 4294967295))) + (bShr .u64 (wu64 ((bAnd .u64 p0 4294967295) * (bAnd .u64 p1 4294967295))) 32))) 4294967295) + (wu64 ((bAnd .u64 p0 4294967295) * (bShr .u64 p1 32))))))] (by kernel_rfl) (OW.nil rfl (QW.next (CW.seq (CW.region ?_))))
 refine OW.pure 9 [(4, .int .u64 (wu64 ((wu64 ((wu64 ((bShr .u64 p0 32) * (bShr .u64 p1 32))) + (bShr .u64 (wu64 ((wu64 ((bShr .u64 p0 32) * (bAnd .u64 p1 4294967295))) + (bShr .u64 (wu64 ((bAnd .u64 p0 4294967295) * (bAnd .u64 p1 4294967295))) 32))) 32))) + (bShr .u64 (wu64 ((bAnd .u64 (wu64 ((wu64 ((bShr .u64 p0 32) * (bAnd .u64 p1 4294967295))) + (bShr .u64 (wu64 ((bAnd .u64 p0 4294967295) * (bAnd .u64 p1 4294967295))) 32))) 4294967295) + (wu64 ((bAnd .u64 p0 4294967295) * (bShr .u64 p1 32))))) 32))))] (by kernel_rfl) (OW.nil rfl (QW.next (CW.seq (CW.region ?_))))
 refine OW.pure 4 [(5, .int .u64 (wu64 (p0 * p1)))] (by kernel_rfl) (OW.nil rfl (QW.next (CW.ret ?_)))
 obtain rfl := Option.some.inj hF
 refine QW.ret2 rfl rfl rfl ?_
 exact ⟨rfl, hst.keep [] rfl⟩
theorem span_product_ok (w : World) (p0 : api_Span) (p1 : api_Span) (r : api_Span) (hF : span_product p0 p1 = some r)
    (hst : St w (fp []) w []) :
    Calls Tryz.prog 150 [.agg [.int .u64 p0.Lo, .int .u64 p0.Hi].toArray, .agg [.int .u64 p1.Lo, .int .u64 p1.Hi].toArray].toArray w (fun e w' => e = .returned (.agg [.int .u64 r.Lo, .int .u64 r.Hi].toArray) ∧ St w (fp []) w' []) := by
 refine CW.start (N := 25) Tryz.func150 rfl rfl rfl (CW.seq (CW.region ?_))
 refine OW.box hst rfl rfl rfl rfl [.int .u64 p0.Lo, .int .u64 p0.Hi] rfl ?_
 intro b7 w8 hst
 refine OW.box hst rfl rfl rfl rfl [.int .u64 p1.Lo, .int .u64 p1.Hi] rfl ?_
 intro b9 w10 hst
 refine OW.alloc hst rfl rfl rfl [.int .u64 0, .int .u64 0] (by kernel_rfl) ?_
 intro b11 w12 hst
 refine OW.nil rfl (QW.next (CW.seq (CW.region ?_)))
 refine OW.pure 1 [(8, .pointer (some ⟨b7, 1, none⟩))] (by kernel_rfl) ?_
 refine OW.ld rfl rfl rfl rfl (by kernel_rfl) (hst.blk 0 rfl rfl) ?_
 refine OW.pure 1 [(10, .pointer (some ⟨b9, 1, none⟩))] (by kernel_rfl) ?_
 refine OW.ld rfl rfl rfl rfl (by kernel_rfl) (hst.blk 1 rfl rfl) ?_
 obtain ⟨r17, hr18, hF⟩ := bind_some' hF
 refine OW.fn rfl rfl rfl rfl (by kernel_rfl) (bits_Mul64_ok _ p0.Hi p1.Hi r17 hr18 (hst.part [] rfl)) ?_
 rintro e w19 ⟨rfl, hst20⟩
 refine ⟨_, rfl, ?_⟩
 have hst := hst.join (idx := []) (rest := [0, 1, 2]) rfl hst20
 refine OW.pure 5 [(5, .int .u64 r17.1), (6, .int .u64 r17.2)] (by kernel_rfl) (OW.nil rfl (QW.next (CW.seq (CW.seq (CW.region ?_)))))
 refine OW.pure 2 [(16, .bool (decide (r17.1 > 0)))] (by kernel_rfl) (OW.nil rfl (QW.next ?_))
 rcases Bool.eq_false_or_eq_true (decide (r17.1 > 0)) with hc21 | hc21
 ·have hF := ite_t hF hc21
  refine CW.cond_t rfl hc21 (CW.seq (CW.region ?_))
  obtain ⟨r27, hr28, hF⟩ := bind_some' hF
  refine OW.fn rfl rfl rfl rfl (by kernel_rfl) (span_Full_ok _ r27 hr28 (hst.part [] rfl)) ?_
  rintro e w29 ⟨rfl, hst30⟩
  refine ⟨_, rfl, ?_⟩
  have hst := hst.join (idx := []) (rest := [0, 1, 2]) rfl hst30
  refine OW.stB hst 2 rfl rfl rfl rfl rfl (by kernel_rfl) rfl rfl [.int .u64 r27.Lo, .int .u64 r27.Hi] rfl ?_
  intro w31 hst
  refine OW.nil rfl (QW.next (CW.ret (QW.then_ret ?_)))
  obtain rfl := Option.some.inj hF
  refine QW.ret_c rfl rfl (run_loadN (cs := [.int .u64 r27.Lo, .int .u64 r27.Hi]) (by kernel_rfl) (by kernel_rfl) (hst.blkN 2 rfl 0 2)) ?_
  exact ⟨rfl, hst.keep [] rfl⟩
 have hF := ite_f hF hc21
 refine CW.cond_f rfl hc21 (CW.skip (QW.next (CW.seq (CW.region ?_))))
 refine OW.pure 1 [(18, .pointer (some ⟨b7, 0, none⟩))] (by kernel_rfl) ?_
 refine OW.ld rfl rfl rfl rfl (by kernel_rfl) (hst.blk 0 rfl rfl) ?_
 refine OW.pure 1 [(20, .pointer (some ⟨b9, 0, none⟩))] (by kernel_rfl) ?_
 refine OW.ld rfl rfl rfl rfl (by kernel_rfl) (hst.blk 1 rfl rfl) ?_
 refine OW.pure 3 [(24, .agg [.int .u64 (wu64 (p0.Lo * p1.Lo)), .int .u64 r17.2].toArray)] (by kernel_rfl) ?_
 refine OW.stB hst 2 rfl rfl rfl rfl rfl (by kernel_rfl) rfl rfl [.int .u64 (wu64 (p0.Lo * p1.Lo)), .int .u64 r17.2] rfl ?_
 intro w33 hst
 refine OW.nil rfl (QW.next (CW.ret ?_))
 obtain rfl := Option.some.inj hF
 refine QW.ret_c rfl rfl (run_loadN (cs := [.int .u64 (wu64 (p0.Lo * p1.Lo)), .int .u64 r17.2]) (by kernel_rfl) (by kernel_rfl) (hst.blkN 2 rfl 0 2)) ?_
 exact ⟨rfl, hst.keep [] rfl⟩
theorem span_divided_ok (w : World) (p0 : api_Span) (p1 : api_Span) (r : api_Span) (hF : span_divided p0 p1 = some r)
    (hst : St w (fp []) w []) :
    Calls Tryz.prog 151 [.agg [.int .u64 p0.Lo, .int .u64 p0.Hi].toArray, .agg [.int .u64 p1.Lo, .int .u64 p1.Hi].toArray].toArray w (fun e w' => e = .returned (.agg [.int .u64 r.Lo, .int .u64 r.Hi].toArray) ∧ St w (fp []) w' []) := by
 refine CW.start (N := 22) Tryz.func151 rfl rfl rfl (CW.seq (CW.region ?_))
 refine OW.box hst rfl rfl rfl rfl [.int .u64 p0.Lo, .int .u64 p0.Hi] rfl ?_
 intro b7 w8 hst
 refine OW.box hst rfl rfl rfl rfl [.int .u64 p1.Lo, .int .u64 p1.Hi] rfl ?_
 intro b9 w10 hst
 refine OW.alloc hst rfl rfl rfl [.int .u64 0, .int .u64 0] (by kernel_rfl) ?_
 intro b11 w12 hst
 refine OW.nil rfl (QW.next (CW.seq (CW.seq (CW.region ?_))))
 refine OW.pure 1 [(5, .pointer (some ⟨b9, 0, none⟩))] (by kernel_rfl) ?_
 refine OW.ld rfl rfl rfl rfl (by kernel_rfl) (hst.blk 1 rfl rfl) ?_
 refine OW.pure 1 [(7, .bool (p1.Lo == 0))] (by kernel_rfl) (OW.nil rfl (QW.next ?_))
 rcases Bool.eq_false_or_eq_true ((p1.Lo == 0)) with hc13 | hc13
 ·have hF := ite_t hF hc13
  refine CW.cond_t rfl hc13 (CW.seq (CW.region ?_))
  refine OW.pure 1 [(8, .pointer (some ⟨b7, 1, none⟩))] (by kernel_rfl) ?_
  refine OW.ld rfl rfl rfl rfl (by kernel_rfl) (hst.blk 0 rfl rfl) ?_
  refine OW.pure 1 [(10, .agg [.int .u64 0, .int .u64 p0.Hi].toArray)] (by kernel_rfl) ?_
  refine OW.stB hst 2 rfl rfl rfl rfl rfl (by kernel_rfl) rfl rfl [.int .u64 0, .int .u64 p0.Hi] rfl ?_
  intro w15 hst
  refine OW.nil rfl (QW.next (CW.ret (QW.then_ret ?_)))
  obtain rfl := Option.some.inj hF
  refine QW.ret_c rfl rfl (run_loadN (cs := [.int .u64 0, .int .u64 p0.Hi]) (by kernel_rfl) (by kernel_rfl) (hst.blkN 2 rfl 0 2)) ?_
  exact ⟨rfl, hst.keep [] rfl⟩
 have hF := ite_f hF hc13
 refine CW.cond_f rfl hc13 (CW.skip (QW.next (CW.seq ?_)))
 refine CW.tail 11 (by kernel_rfl) (by kernel_rfl) ?_
 intro w23 hch24
 have hst := hst.same hch24
 refine OS.pure 1 [(11, .pointer (some ⟨b7, 0, none⟩))] rfl (by kernel_rfl) ?_
 refine OS.ld rfl rfl rfl rfl rfl (by kernel_rfl) (hst.blk 0 rfl rfl) ?_
 refine OS.pure 1 [(13, .pointer (some ⟨b9, 1, none⟩))] rfl (by kernel_rfl) ?_
 refine OS.ld rfl rfl rfl rfl rfl (by kernel_rfl) (hst.blk 1 rfl rfl) ?_
 obtain ⟨u25, hz26, hF⟩ := bind_some' hF
 refine OS.quo rfl rfl rfl rfl rfl rfl (nz_ne hz26) ?_
 refine OS.pure 1 [(16, .pointer (some ⟨b7, 1, none⟩))] rfl (by kernel_rfl) ?_
 refine OS.ld rfl rfl rfl rfl rfl (by kernel_rfl) (hst.blk 0 rfl rfl) ?_
 refine OS.pure 1 [(18, .pointer (some ⟨b9, 0, none⟩))] rfl (by kernel_rfl) ?_
 refine OS.ld rfl rfl rfl rfl rfl (by kernel_rfl) (hst.blk 1 rfl rfl) ?_
 obtain ⟨u27, hz28, hF⟩ := bind_some' hF
 refine OS.quo rfl rfl rfl rfl rfl rfl (nz_ne hz28) ?_
 refine OS.pure 1 [(21, .agg [.int .u64 (wu64 (p0.Lo.tdiv p1.Hi)), .int .u64 (wu64 (p0.Hi.tdiv p1.Lo))].toArray)] rfl (by kernel_rfl) ?_
 refine OS.on ?_
 refine OW.stB hst 2 rfl rfl rfl rfl rfl (by kernel_rfl) rfl rfl [.int .u64 (wu64 (p0.Lo.tdiv p1.Hi)), .int .u64 (wu64 (p0.Hi.tdiv p1.Lo))] rfl ?_
 intro w29 hst
 refine OW.nil rfl (QW.next (CW.ret ?_))
 obtain rfl := Option.some.inj hF
 refine QW.ret_c rfl rfl (run_loadN (cs := [.int .u64 (wu64 (p0.Lo.tdiv p1.Hi)), .int .u64 (wu64 (p0.Hi.tdiv p1.Lo))]) (by kernel_rfl) (by kernel_rfl) (hst.blkN 2 rfl 0 2)) ?_
 exact ⟨rfl, hst.keep [] rfl⟩
theorem span_rest_ok (w : World) (p0 : api_Span) (p1 : api_Span) (r : api_Span) (hF : span_rest p0 p1 = some r)
    (hst : St w (fp []) w []) :
    Calls Tryz.prog 152 [.agg [.int .u64 p0.Lo, .int .u64 p0.Hi].toArray, .agg [.int .u64 p1.Lo, .int .u64 p1.Hi].toArray].toArray w (fun e w' => e = .returned (.agg [.int .u64 r.Lo, .int .u64 r.Hi].toArray) ∧ St w (fp []) w' []) := by
 refine CW.start (N := 26) Tryz.func152 rfl rfl rfl (CW.seq (CW.region ?_))
 refine OW.box hst rfl rfl rfl rfl [.int .u64 p0.Lo, .int .u64 p0.Hi] rfl ?_
 intro b7 w8 hst
 refine OW.box hst rfl rfl rfl rfl [.int .u64 p1.Lo, .int .u64 p1.Hi] rfl ?_
 intro b9 w10 hst
 refine OW.alloc hst rfl rfl rfl [.int .u64 0, .int .u64 0] (by kernel_rfl) ?_
 intro b11 w12 hst
 refine OW.nil rfl (QW.next (CW.seq (CW.block (CW.seq (CW.region ?_)))))
 refine OW.pure 1 [(6, .pointer (some ⟨b9, 0, none⟩))] (by kernel_rfl) ?_
 refine OW.ld rfl rfl rfl rfl (by kernel_rfl) (hst.blk 1 rfl rfl) ?_
 refine OW.pure 2 [(5, .bool (p1.Lo == 0))] (by kernel_rfl) (OW.nil rfl (QW.next ?_))
 rcases Bool.eq_false_or_eq_true ((p1.Lo == 0)) with hc13 | hc13
 ·have hF := ite_t hF hc13
  refine CW.cond_t rfl hc13 (CW.seq (CW.region ?_))
  refine OW.pure 1 [(9, .pointer (some ⟨b7, 1, none⟩))] (by kernel_rfl) ?_
  refine OW.ld rfl rfl rfl rfl (by kernel_rfl) (hst.blk 0 rfl rfl) ?_
  refine OW.pure 1 [(11, .agg [.int .u64 0, .int .u64 p0.Hi].toArray)] (by kernel_rfl) ?_
  refine OW.stB hst 2 rfl rfl rfl rfl rfl (by kernel_rfl) rfl rfl [.int .u64 0, .int .u64 p0.Hi] rfl ?_
  intro w15 hst
  refine OW.nil rfl (QW.next (CW.ret (QW.block_ret (QW.then_ret ?_))))
  obtain rfl := Option.some.inj hF
  refine QW.ret_c rfl rfl (run_loadN (cs := [.int .u64 0, .int .u64 p0.Hi]) (by kernel_rfl) (by kernel_rfl) (hst.blkN 2 rfl 0 2)) ?_
  exact ⟨rfl, hst.keep [] rfl⟩
 have hF := ite_f hF hc13
 refine CW.cond_f rfl hc13 (CW.seq (CW.region ?_))
 refine OW.pure 1 [(13, .pointer (some ⟨b7, 1, none⟩))] (by kernel_rfl) ?_
 refine OW.ld rfl rfl rfl rfl (by kernel_rfl) (hst.blk 0 rfl rfl) ?_
 refine OW.pure 1 [(15, .pointer (some ⟨b9, 0, none⟩))] (by kernel_rfl) ?_
 refine OW.ld rfl rfl rfl rfl (by kernel_rfl) (hst.blk 1 rfl rfl) ?_
 refine OW.pure 2 [(12, .bool (decide (p0.Hi < p1.Lo)))] (by kernel_rfl) (OW.nil rfl (QW.next ?_))
 rcases Bool.eq_false_or_eq_true (decide (p0.Hi < p1.Lo)) with hc16 | hc16
 ·have hF := ite_t hF hc16
  refine CW.cond_t rfl hc16 (CW.seq (CW.region ?_))
  refine OW.ldN (cs := [.int .u64 p0.Lo, .int .u64 p0.Hi]) rfl rfl rfl rfl (by kernel_rfl) (by kernel_rfl) (hst.blkN 0 rfl 0 2) ?_
  refine OW.stB hst 2 rfl rfl rfl rfl rfl (by kernel_rfl) rfl rfl [.int .u64 p0.Lo, .int .u64 p0.Hi] rfl ?_
  intro w18 hst
  refine OW.nil rfl (QW.next (CW.ret (QW.block_ret (QW.then_ret ?_))))
  obtain rfl := Option.some.inj hF
  refine QW.ret_c rfl rfl (run_loadN (cs := [.int .u64 p0.Lo, .int .u64 p0.Hi]) (by kernel_rfl) (by kernel_rfl) (hst.blkN 2 rfl 0 2)) ?_
  exact ⟨rfl, hst.keep [] rfl⟩
 have hF := ite_f hF hc16
 refine CW.cond_f rfl hc16 (CW.skip (QW.block_normal (QW.next (CW.seq (CW.region ?_)))))
 refine OW.pure 1 [(19, .pointer (some ⟨b7, 1, none⟩))] (by kernel_rfl) ?_
 refine OW.ld rfl rfl rfl rfl (by kernel_rfl) (hst.blk 0 rfl rfl) ?_
 refine OW.pure 1 [(21, .pointer (some ⟨b9, 1, none⟩))] (by kernel_rfl) ?_
 refine OW.ld rfl rfl rfl rfl (by kernel_rfl) (hst.blk 1 rfl rfl) ?_
 refine OW.pure 3 [(25, .agg [.int .u64 0, .int .u64 (imin p0.Hi (wu64 (p1.Hi - 1)))].toArray)] (by kernel_rfl) ?_
 refine OW.stB hst 2 rfl rfl rfl rfl rfl (by kernel_rfl) rfl rfl [.int .u64 0, .int .u64 (imin p0.Hi (wu64 (p1.Hi - 1)))] rfl ?_
 intro w20 hst
 refine OW.nil rfl (QW.next (CW.ret ?_))
 obtain rfl := Option.some.inj hF
 refine QW.ret_c rfl rfl (run_loadN (cs := [.int .u64 0, .int .u64 (imin p0.Hi (wu64 (p1.Hi - 1)))]) (by kernel_rfl) (by kernel_rfl) (hst.blkN 2 rfl 0 2)) ?_
 exact ⟨rfl, hst.keep [] rfl⟩
theorem bits_Len64_ok (w : World) (p0 : Int) (r : Int) (hF : bits_Len64 p0 = some r)
    (hst : St w (fp []) w []) :
    Calls Tryz.prog 137 [.int .u64 p0].toArray w (fun e w' => e = .returned (.int .i64 r) ∧ St w (fp []) w' []) := by
 refine CW.start (N := 25) Tryz.func137 rfl rfl rfl (CW.seq (CW.region ?_))
 refine OW.pure 1 [(2, .int .i64 0)] (by kernel_rfl) (OW.nil rfl (QW.next (CW.seq (CW.seq (CW.region ?_)))))
 refine OW.pure 2 [(4, .bool (decide (p0 ≥ 4294967296)))] (by kernel_rfl) (OW.nil rfl (QW.next ?_))
 obtain ⟨o2, ho3, hF⟩ := bind_some' hF
 refine CW.cutK (fun a w1 => Rep 25 [(0, .int .u64 o2.1), (2, .int .i64 o2.2)] a ∧ St w (fp []) w1 []) ?_ ?_
 ·rcases Bool.eq_false_or_eq_true (decide (p0 ≥ 4294967296)) with hc4 | hc4
  ·have ho3 := ite_t ho3 hc4
   refine CW.cond_t rfl hc4 (CW.seq (CW.region ?_))
   refine OW.pure 3 [(0, .int .u64 (bShr .u64 p0 32))] (by kernel_rfl) (OW.nil rfl (QW.next (CW.region ?_)))
   refine OW.pure 1 [(2, .int .i64 32)] (by kernel_rfl) (OW.nil rfl ?_)
   obtain rfl := Option.some.inj ho3
   exact QW.meet (fun a ha => ⟨ha.agrees (by kernel_rfl), hst.keep [] rfl⟩)
  have ho3 := ite_f ho3 hc4
  refine CW.cond_f rfl hc4 (CW.skip ?_)
  obtain rfl := Option.some.inj ho3
  exact QW.meet (fun a ha => ⟨ha.agrees (by kernel_rfl), hst.keep [] rfl⟩)
 rintro a w1 ⟨ha, hst⟩
 refine CW.go ?_ ha
 refine CW.seq (CW.seq (CW.region ?_))
 refine OW.pure 2 [(8, .bool (decide (o2.1 ≥ 65536)))] (by kernel_rfl) (OW.nil rfl (QW.next ?_))
 obtain ⟨o6, ho7, hF⟩ := bind_some' hF
 refine CW.cutK (fun a w1 => Rep 25 [(0, .int .u64 o6.1), (2, .int .i64 o6.2)] a ∧ St w (fp []) w1 []) ?_ ?_
 ·rcases Bool.eq_false_or_eq_true (decide (o2.1 ≥ 65536)) with hc8 | hc8
  ·have ho7 := ite_t ho7 hc8
   refine CW.cond_t rfl hc8 (CW.seq (CW.region ?_))
   refine OW.pure 3 [(0, .int .u64 (bShr .u64 o2.1 16))] (by kernel_rfl) (OW.nil rfl (QW.next (CW.region ?_)))
   refine OW.pure 3 [(2, .int .i64 (w64 (o2.2 + 16)))] (by kernel_rfl) (OW.nil rfl ?_)
   obtain rfl := Option.some.inj ho7
   exact QW.meet (fun a ha => ⟨ha.agrees (by kernel_rfl), hst.keep [] rfl⟩)
  have ho7 := ite_f ho7 hc8
  refine CW.cond_f rfl hc8 (CW.skip ?_)
  obtain rfl := Option.some.inj ho7
  exact QW.meet (fun a ha => ⟨ha.agrees (by kernel_rfl), hst.keep [] rfl⟩)
 rintro a w1 ⟨ha, hst⟩
 refine CW.go ?_ ha
 refine CW.seq (CW.seq (CW.region ?_))
 refine OW.pure 2 [(14, .bool (decide (o6.1 ≥ 256)))] (by kernel_rfl) (OW.nil rfl (QW.next ?_))
 obtain ⟨o10, ho11, hF⟩ := bind_some' hF
 refine CW.cutK (fun a w1 => Rep 25 [(0, .int .u64 o10.1), (2, .int .i64 o10.2)] a ∧ St w (fp []) w1 []) ?_ ?_
 ·rcases Bool.eq_false_or_eq_true (decide (o6.1 ≥ 256)) with hc12 | hc12
  ·have ho11 := ite_t ho11 hc12
   refine CW.cond_t rfl hc12 (CW.seq (CW.region ?_))
   refine OW.pure 3 [(0, .int .u64 (bShr .u64 o6.1 8))] (by kernel_rfl) (OW.nil rfl (QW.next (CW.region ?_)))
   refine OW.pure 3 [(2, .int .i64 (w64 (o6.2 + 8)))] (by kernel_rfl) (OW.nil rfl ?_)
   obtain rfl := Option.some.inj ho11
   exact QW.meet (fun a ha => ⟨ha.agrees (by kernel_rfl), hst.keep [] rfl⟩)
  have ho11 := ite_f ho11 hc12
  refine CW.cond_f rfl hc12 (CW.skip ?_)
  obtain rfl := Option.some.inj ho11
  exact QW.meet (fun a ha => ⟨ha.agrees (by kernel_rfl), hst.keep [] rfl⟩)
 rintro a w1 ⟨ha, hst⟩
 refine CW.go ?_ ha
 refine CW.seq (CW.region ?_)
 refine OW.pure 3 [(19, .int .i64 o10.2), (21, .int .u8 (IntKind.u8.wrap o10.1))] (by kernel_rfl) ?_
 obtain ⟨c15, hx16, hF⟩ := bind_some' hF
 refine OW.op (v := .int .u8 c15) rfl rfl rfl rfl (fun a ha => sidx_run rfl rfl rfl (by kernel_rfl) hx16 a _ ha) ?_
 refine OW.pure 3 [(2, .int .i64 (w64 (o10.2 + (w64 c15))))] (by kernel_rfl) (OW.nil rfl (QW.next (CW.ret ?_)))
 obtain rfl := Option.some.inj hF
 refine QW.ret1 rfl rfl ?_
 exact ⟨rfl, hst.keep [] rfl⟩
end Go.Proofs.YtgmmfjpmahcocaaGreatDoor

/- Written by a program (wip/gen): the walks: each Go function returns what its plain function computes. -/
import Derived.Test.YtjhmkpklhajpcaaDoorProg
import Derived.Test.YtjhmkpklhajpcaaDoorF1
import Derived.Test.YtjhmkpklhajpcaaDoorExt
import Derived.Test.YtjhmkpklhajpcaaDoorSh
import Derived.Test.YtjhmkpklhajpcaaDoorW1p1
namespace Go.Proofs.YtjhmkpklhajpcaaDoor
open Go.Sx
set_option linter.unusedVariables false

set_option maxRecDepth 10000 in
theorem tappetref07_cost_ok (w : World) (fu : Nat) (v0 : Value) (p0 : List api_Inst) (v1 : Value) (p1 : List (List Int)) (r : Int) (hF : tappetref07_cost fu p0 p1 = some r)
    (hst : St w (fp []) w []) (h0 : Rd w (fp []) v0 enc_api_Inst 5 p0) (h1 : RdN w (fp []) v1 R_t41.rd 1 p1) :
    Calls Tryd.prog 30 [v0, v1].toArray w (fun e w' => e = .returned (.int .i64 r) ∧ St w (fp []) w' []) := by
  refine CW.start (N := 46) Tryd.func30 rfl rfl rfl ?_
  obtain ⟨l1, a2, c3, rfl⟩ := h0.len
  obtain ⟨l4, a5, c6, rfl⟩ := h1.len
  refine CW.seq ?_
  refine CW.region ?_
  refine OW.pure 1 [] (by kernel_rfl) ?_
  refine OW.nil rfl ?_
  refine QW.next ?_
  refine CW.seq ?_
  refine CW.region ?_
  refine OW.pure 1 [(5, .int .i64 0)] (by kernel_rfl) ?_
  refine OW.nil rfl ?_
  refine QW.next ?_
  refine CW.seq ?_
  refine CW.seq ?_
  refine CW.region ?_
  refine OW.pure 1 [(6, .int .i64 0)] (by kernel_rfl) ?_
  refine OW.nil rfl ?_
  refine QW.next ?_
  obtain ⟨o1828, ho1829, hF⟩ := bind_some' hF
  refine CW.cutK (fun a w1 => Rep 46 [(5, .int .i64 o1828)] a ∧ St w (fp []) w1 []) ?_ ?_
  · refine CW.block ?_
    refine CW.loop (fun n a w1 => ∃ (i3044 : Nat) (s3043 : Int), i3044 + n = (p0).length ∧ Rep 46 [(0, .slice a2 (p0).length c3), (1, .slice a5 (p1).length c6), (5, .int .i64 s3043), (6, .int .i64 (i3044 : Int))] a ∧ St w (fp []) w1 [] ∧ forN (tappetref07_cost_l1 fu p0 p1) (fun (s3043 : Int) => s3043) n i3044 s3043 = some o1828) ((p0).length) (fun a ha => ⟨0, 0, Nat.zero_add _, ha.agrees (by kernel_rfl), hst.keep [] rfl, ho1829⟩) ?_
    rintro n3041 a w1 ⟨i3044, s3043, hi3045, ha, hst, hl3042⟩
    refine CW.go ?_ ha
    refine CW.seq ?_
    refine CW.seq ?_
    refine CW.region ?_
    refine OW.pure 4 [(12, .bool (decide ((i3044 : Int) < (((p0).length) : Int))))] (by kernel_rfl) ?_
    refine OW.nil rfl ?_
    refine QW.next ?_
    rcases Bool.eq_false_or_eq_true (decide ((i3044 : Int) < (((p0).length) : Int))) with hc3046 | hc3046
    · rcases n3041 with _ | n3041
      · exact (cnt0 hi3045 hc3046).elim
      refine CW.cond_t rfl hc3046 ?_
      refine CW.skip ?_
      refine QW.next ?_
      refine CW.seq ?_
      refine CW.block ?_
      refine CW.seq ?_
      refine CW.region ?_
      refine OW.pure 1 [(7, .int .i64 1)] (by kernel_rfl) ?_
      refine OW.nil rfl ?_
      refine QW.next ?_
      refine CW.seq ?_
      refine CW.seq ?_
      refine CW.region ?_
      refine OW.pure 1 [(8, .int .i64 0)] (by kernel_rfl) ?_
      refine OW.nil rfl ?_
      refine QW.next ?_
      obtain ⟨o3348, ho3349, hl3042⟩ := bind_some' hl3042
      refine CW.cutK (fun a w1 => Rep 46 [(0, .slice a2 (p0).length c3), (1, .slice a5 (p1).length c6), (5, .int .i64 s3043), (6, .int .i64 (i3044 : Int)), (7, .int .i64 o3348)] a ∧ St w (fp []) w1 []) ?_ ?_
      · refine CW.block ?_
        refine CW.loop (fun n a w1 => ∃ (s3551 : Int × Int), Rep 46 [(0, .slice a2 (p0).length c3), (1, .slice a5 (p1).length c6), (5, .int .i64 s3043), (6, .int .i64 (i3044 : Int)), (7, .int .i64 s3551.1), (8, .int .i64 s3551.2)] a ∧ St w (fp []) w1 [] ∧ loop (tappetref07_cost_l2 p0 p1 i3044) n s3551 = some o3348) fu (fun a ha => ⟨(1, 0), ha.agrees (by kernel_rfl), hst.keep [] rfl, ho3349⟩) ?_
        rintro n3549 a w1 ⟨s3551, ha, hst, hl3550⟩
        rcases n3549 with _ | n3549
        · exact (loop_zero hl3550).elim
        refine CW.go ?_ ha
        refine CW.seq ?_
        refine CW.seq ?_
        obtain ⟨o3581, ho3582, hl3550⟩ := bind_some' hl3550
        refine CW.cutK (fun a w1 => Rep 46 [(0, .slice a2 (p0).length c3), (1, .slice a5 (p1).length c6), (5, .int .i64 s3043), (6, .int .i64 (i3044 : Int)), (7, .int .i64 s3551.1), (8, .int .i64 s3551.2), (25, .bool o3581)] a ∧ St w (fp []) w1 []) ?_ ?_
        · refine CW.region ?_
          refine OW.pure 3 [(15, .int .i64 s3551.2), (16, .slice a5 (p1).length c6), (17, .int .i64 (i3044 : Int))] (by kernel_rfl) ?_
          obtain ⟨x3583, hx3584, ho3582⟩ := bind_some' ho3582
          obtain ⟨g3586, o3587, c3588, cs3589, hv3585, hd3590, hl3591⟩ := h1.formv hx3584
          obtain ⟨v3592, rfl, h3593⟩ := hd3590
          have h3593 : Rd _ _ _ _ _ x3583 := h3593
          obtain ⟨l3594, a3595, c3596, rfl⟩ := h3593.len
          refine OW.idx 41 1 rfl rfl rfl rfl hv3585 rfl (idx_some hx3584).1 (idx_some hx3584).2.1 (by kernel_rfl) (by kernel_rfl) ?_
          refine OW.ld rfl rfl rfl rfl (by kernel_rfl) (hl3591 0 _ rfl _ _ hst) ?_
          refine OW.pure 3 [(22, .bool (decide (s3551.2 < (((x3583).length) : Int))))] (by kernel_rfl) ?_
          refine OW.split 22 rfl (fun hc3597 => ?_) (fun hc3597 => ?_)
          · have ho3582 := ite_t ho3582 hc3597
            refine OW.pure 3 [(25, .bool (decide (s3551.1 ≤ 256)))] (by kernel_rfl) ?_
            refine OW.nil rfl ?_
            obtain rfl := Option.some.inj ho3582
            exact QW.meet (fun a ha => ⟨ha.agrees (by kernel_rfl), hst.keep [] rfl⟩)
          · have ho3582 := ite_f ho3582 hc3597
            refine OW.pure 3 [(25, .bool false)] (by kernel_rfl) ?_
            refine OW.nil rfl ?_
            obtain rfl := Option.some.inj ho3582
            exact QW.meet (fun a ha => ⟨ha.agrees (by kernel_rfl), hst.keep [] rfl⟩)
        · rintro a w1 ⟨ha, hst⟩
          refine CW.go ?_ ha
          rcases Bool.eq_false_or_eq_true (o3581) with hc3598 | hc3598
          · have hl3550 := ite_t hl3550 hc3598
            refine CW.cond_t rfl hc3598 ?_
            refine CW.skip ?_
            refine QW.next ?_
            refine CW.seq ?_
            refine CW.block ?_
            refine CW.region ?_
            refine OW.pure 4 [(28, .int .i64 s3551.1), (29, .slice a2 (p0).length c3), (30, .slice a5 (p1).length c6), (31, .int .i64 (i3044 : Int))] (by kernel_rfl) ?_
            obtain ⟨x3625, hx3626, hl3550⟩ := bind_some' hl3550
            obtain ⟨g3628, o3629, c3630, cs3631, hv3627, hd3632, hl3633⟩ := h1.formv hx3626
            obtain ⟨v3634, rfl, h3635⟩ := hd3632
            have h3635 : Rd _ _ _ _ _ x3625 := h3635
            obtain ⟨l3636, a3637, c3638, rfl⟩ := h3635.len
            refine OW.idx 41 1 rfl rfl rfl rfl hv3627 rfl (idx_some hx3626).1 (idx_some hx3626).2.1 (by kernel_rfl) (by kernel_rfl) ?_
            refine OW.ld rfl rfl rfl rfl (by kernel_rfl) (hl3633 0 _ rfl _ _ hst) ?_
            refine OW.pure 1 [(34, .int .i64 s3551.2)] (by kernel_rfl) ?_
            obtain ⟨x3639, hx3640, hl3550⟩ := bind_some' hl3550
            obtain ⟨g3642, o3643, c3644, hv3641⟩ := h3635.formv (fun _ => ⟨_, rfl⟩) hx3640
            refine OW.idx 3 1 rfl rfl rfl rfl hv3641 rfl (idx_some hx3640).1 (idx_some hx3640).2.1 (by kernel_rfl) (by kernel_rfl) ?_
            refine OW.ld rfl rfl rfl rfl (by kernel_rfl) (h3635.cellv hst hx3640 hv3641 0 _ rfl) ?_
            obtain ⟨x3645, hx3646, hl3550⟩ := bind_some' hl3550
            obtain ⟨g3648, o3649, c3650, hv3647⟩ := h0.formv (fun _ => ⟨_, rfl⟩) hx3646
            refine OW.idx 32 5 rfl rfl rfl rfl hv3647 rfl (idx_some hx3646).1 (idx_some hx3646).2.1 (by kernel_rfl) (by kernel_rfl) ?_
            refine OW.pure 1 [(38, .pointer (some ⟨g3648, o3649 + Int.toNat x3639 * 5 + 4, none⟩))] (by kernel_rfl) ?_
            refine OW.ld rfl rfl rfl rfl (by kernel_rfl) (h0.cellv hst hx3646 hv3647 4 _ rfl) ?_
            refine OW.pure 3 [(7, .int .i64 (w64 (s3551.1 * (w64 (x3645.Imm + 1)))))] (by kernel_rfl) ?_
            refine OW.nil rfl ?_
            refine QW.block_normal ?_
            refine QW.next ?_
            refine CW.region ?_
            refine OW.pure 3 [(8, .int .i64 (w64 (s3551.2 + 1)))] (by kernel_rfl) ?_
            refine OW.nil rfl ?_
            exact QW.meet (fun a ha => ⟨n3549, Nat.lt_succ_self _, (w64 (s3551.1 * (w64 (x3645.Imm + 1))), w64 (s3551.2 + 1)), ha.agrees (by kernel_rfl), hst.keep [] rfl, hl3550⟩)
          · have hl3550 := ite_f hl3550 hc3598
            refine CW.cond_f rfl hc3598 ?_
            refine CW.exit ?_
            refine QW.then_exit ?_
            refine QW.then_exit ?_
            refine QW.block_here ?_
            obtain rfl := Option.some.inj hl3550
            exact QW.meet (fun a ha => ⟨ha.agrees (by kernel_rfl), hst.keep [] rfl⟩)
      · rintro a w1 ⟨ha, hst⟩
        refine CW.go ?_ ha
        refine CW.region ?_
        refine OW.pure 4 [(5, .int .i64 (w64 (s3043 + o3348)))] (by kernel_rfl) ?_
        refine OW.nil rfl ?_
        refine QW.block_normal ?_
        refine QW.next ?_
        refine CW.region ?_
        refine OW.pure 3 [(6, .int .i64 (w64 ((i3044 : Int) + 1)))] (by kernel_rfl) ?_
        refine OW.nil rfl ?_
        refine QW.say 6 rfl (congrArg (Value.int .i64) (w64_cnt hc3046 l1)) ?_
        exact QW.meet (fun a ha => ⟨n3041, Nat.lt_succ_self _, i3044 + 1, (w64 (s3043 + o3348)), cnt_next hi3045, ha.agrees (by kernel_rfl), hst.keep [] rfl, hl3042⟩)
    · rcases n3041 with _ | n3041
      · refine CW.cond_f rfl hc3046 ?_
        refine CW.exit ?_
        refine QW.then_exit ?_
        refine QW.then_exit ?_
        refine QW.block_here ?_
        obtain rfl := Option.some.inj hl3042
        exact QW.meet (fun a ha => ⟨ha.agrees (by kernel_rfl), hst.keep [] rfl⟩)
      · exact (cnt1 hi3045 hc3046).elim
  · rintro a w1 ⟨ha, hst⟩
    refine CW.go ?_ ha
    refine CW.seq ?_
    refine CW.region ?_
    refine OW.pure 2 [(4, .int .i64 o1828)] (by kernel_rfl) ?_
    refine OW.nil rfl ?_
    refine QW.next ?_
    refine CW.ret ?_
    obtain rfl := Option.some.inj hF
    refine QW.ret1 rfl rfl ?_
    exact ⟨rfl, hst.keep [] rfl⟩

set_option maxRecDepth 10000 in
theorem tappetref07_Check_ok (w : World) (fu : Nat) (v0 : Value) (p0 : List api_Inst) (r : Int × Int) (hF : tappetref07_Check fu p0 = some r)
    (hst : St w (fp []) w []) (h0 : Rd w (fp []) v0 enc_api_Inst 5 p0) :
    Calls Tryd.prog 11 [v0].toArray w (fun e w' => e = .returned (.tuple #[.int .i64 r.1, .int .i64 r.2]) ∧ St w (fp []) w' []) := by
  refine CW.start (N := 85) Tryd.func11 rfl rfl rfl ?_
  obtain ⟨l1, a2, c3, rfl⟩ := h0.len
  refine CW.seq ?_
  refine CW.region ?_
  refine OW.pure 2 [] (by kernel_rfl) ?_
  refine OW.nil rfl ?_
  refine QW.next ?_
  refine CW.seq ?_
  refine CW.region ?_
  refine OW.pure 3 [(4, .int .i64 (((p0).length) : Int))] (by kernel_rfl) ?_
  refine OW.nil rfl ?_
  refine QW.next ?_
  refine CW.seq ?_
  refine CW.seq ?_
  refine CW.region ?_
  refine OW.pure 2 [(15, .bool ((((p0).length) : Int) == 0))] (by kernel_rfl) ?_
  refine OW.nil rfl ?_
  refine QW.next ?_
  rcases Bool.eq_false_or_eq_true (((((p0).length) : Int) == 0)) with hc4 | hc4
  · have hF := ite_t hF hc4
    refine CW.cond_t rfl hc4 ?_
    refine CW.seq ?_
    refine CW.region ?_
    refine OW.pure 2 [(2, .int .i64 0), (3, .int .i64 10)] (by kernel_rfl) ?_
    refine OW.nil rfl ?_
    refine QW.next ?_
    refine CW.ret ?_
    refine QW.then_ret ?_
    obtain rfl := Option.some.inj hF
    refine QW.ret2 rfl rfl rfl ?_
    exact ⟨rfl, hst.keep [] rfl⟩
  · have hF := ite_f hF hc4
    refine CW.cond_f rfl hc4 ?_
    refine CW.skip ?_
    refine QW.next ?_
    refine CW.seq ?_
    refine CW.seq ?_
    refine CW.region ?_
    refine OW.pure 2 [(17, .bool (decide ((((p0).length) : Int) > 64)))] (by kernel_rfl) ?_
    refine OW.nil rfl ?_
    refine QW.next ?_
    rcases Bool.eq_false_or_eq_true (decide ((((p0).length) : Int) > 64)) with hc5 | hc5
    · have hF := ite_t hF hc5
      refine CW.cond_t rfl hc5 ?_
      refine CW.seq ?_
      refine CW.region ?_
      refine OW.pure 2 [(2, .int .i64 0), (3, .int .i64 11)] (by kernel_rfl) ?_
      refine OW.nil rfl ?_
      refine QW.next ?_
      refine CW.ret ?_
      refine QW.then_ret ?_
      obtain rfl := Option.some.inj hF
      refine QW.ret2 rfl rfl rfl ?_
      exact ⟨rfl, hst.keep [] rfl⟩
    · have hF := ite_f hF hc5
      refine CW.cond_f rfl hc5 ?_
      refine CW.skip ?_
      refine QW.next ?_
      refine CW.seq ?_
      refine CW.seq ?_
      refine CW.region ?_
      refine OW.pure 1 [(5, .int .i64 0)] (by kernel_rfl) ?_
      refine OW.nil rfl ?_
      refine QW.next ?_
      obtain ⟨o141, ho142, hF⟩ := bind_some' hF
      refine CW.cutK (fun a w1 => ∃ (t143 : Unit), o141 = .inl t143 ∧ Rep 85 [(0, .slice a2 (p0).length c3)] a ∧ St w (fp []) w1 []) ?_ ?_
      · refine CW.block ?_
        refine CW.loop (fun n a w1 => ∃ (i234 : Nat) (s233 : Unit), i234 + n = (p0).length ∧ Rep 85 [(0, .slice a2 (p0).length c3), (4, .int .i64 (((p0).length) : Int)), (5, .int .i64 (i234 : Int))] a ∧ St w (fp []) w1 [] ∧ forN (tappetref07_Check_l1 p0) (fun (s233 : Unit) => (.inl ())) n i234 s233 = some o141) ((p0).length) (fun a ha => ⟨0, (), Nat.zero_add _, ha.agrees (by kernel_rfl), hst.keep [] rfl, ho142⟩) ?_
        rintro n231 a w1 ⟨i234, s233, hi235, ha, hst, hl232⟩
        refine CW.go ?_ ha
        refine CW.seq ?_
        refine CW.seq ?_
        refine CW.region ?_
        refine OW.pure 3 [(20, .bool (decide ((i234 : Int) < (((p0).length) : Int))))] (by kernel_rfl) ?_
        refine OW.nil rfl ?_
        refine QW.next ?_
        rcases Bool.eq_false_or_eq_true (decide ((i234 : Int) < (((p0).length) : Int))) with hc236 | hc236
        · rcases n231 with _ | n231
          · exact (cnt0 hi235 hc236).elim
          refine CW.cond_t rfl hc236 ?_
          refine CW.skip ?_
          refine QW.next ?_
          refine CW.seq ?_
          refine CW.block ?_
          refine CW.seq ?_
          refine CW.seq ?_
          refine CW.region ?_
          refine OW.pure 2 [(23, .slice a2 (p0).length c3), (24, .int .i64 (i234 : Int))] (by kernel_rfl) ?_
          obtain ⟨x247, hx248, hl232⟩ := bind_some' hl232
          obtain ⟨g250, o251, c252, hv249⟩ := h0.formv (fun _ => ⟨_, rfl⟩) hx248
          refine OW.idx 32 5 rfl rfl rfl rfl hv249 rfl (idx_some hx248).1 (idx_some hx248).2.1 (by kernel_rfl) (by kernel_rfl) ?_
          refine OW.ldN (cs := enc_api_Inst x247) rfl rfl rfl rfl (by kernel_rfl) (by kernel_rfl) (h0.cellv hst hx248 hv249) ?_
          obtain ⟨r253, hr254, hl232⟩ := bind_some' hl232
          refine OW.fn rfl rfl rfl rfl (by kernel_rfl) (tappetref02_Right_ok _ x247 r253 hr254 (hst.part [] rfl)) ?_
          rintro e w255 ⟨rfl, hst256⟩
          refine ⟨_, rfl, ?_⟩
          have hst := hst.join (idx := []) (rest := []) rfl hst256
          refine OW.pure 1 [(28, .bool (!r253))] (by kernel_rfl) ?_
          refine OW.nil rfl ?_
          refine QW.next ?_
          rcases Bool.eq_false_or_eq_true ((!r253)) with hc257 | hc257
          · have hl232 := ite_t hl232 hc257
            refine CW.cond_t rfl hc257 ?_
            refine CW.seq ?_
            refine CW.region ?_
            refine OW.pure 3 [(2, .int .i64 (i234 : Int)), (3, .int .i64 12)] (by kernel_rfl) ?_
            refine OW.nil rfl ?_
            refine QW.next ?_
            refine CW.ret ?_
            refine QW.then_ret ?_
            refine QW.block_ret ?_
            refine QW.then_ret ?_
            refine QW.then_ret ?_
            refine QW.block_ret ?_
            refine QW.then_ret ?_
            obtain rfl := Option.some.inj hl232
            obtain rfl := Option.some.inj hF
            refine QW.ret2 rfl rfl rfl ?_
            exact ⟨rfl, hst.keep [] rfl⟩
          · have hl232 := ite_f hl232 hc257
            refine CW.cond_f rfl hc257 ?_
            refine CW.skip ?_
            refine QW.next ?_
            refine CW.seq ?_
            refine CW.region ?_
            refine OW.pure 2 [(31, .slice a2 (p0).length c3), (32, .int .i64 (i234 : Int))] (by kernel_rfl) ?_
            obtain ⟨g267, o268, c269, hv266⟩ := h0.formv (fun _ => ⟨_, rfl⟩) hx248
            refine OW.idx 32 5 rfl rfl rfl rfl hv266 rfl (idx_some hx248).1 (idx_some hx248).2.1 (by kernel_rfl) (by kernel_rfl) ?_
            refine OW.ldN (cs := enc_api_Inst x247) rfl rfl rfl rfl (by kernel_rfl) (by kernel_rfl) (h0.cellv hst hx248 hv266) ?_
            obtain ⟨r270, hr271, hl232⟩ := bind_some' hl232
            refine OW.fn rfl rfl rfl rfl (by kernel_rfl) (tappetref02_Goes_ok _ x247 r270 hr271 (hst.part [] rfl)) ?_
            rintro e w272 ⟨rfl, hst273⟩
            refine ⟨_, rfl, ?_⟩
            have hst := hst.join (idx := []) (rest := []) rfl hst273
            refine OW.pure 7 [(6, .int .i64 r270.1), (7, .bool r270.2.1), (8, .bool r270.2.2)] (by kernel_rfl) ?_
            refine OW.nil rfl ?_
            refine QW.next ?_
            refine CW.seq ?_
            refine CW.seq ?_
            refine CW.cutK (fun a w1 => Rep 85 [(0, .slice a2 (p0).length c3), (4, .int .i64 (((p0).length) : Int)), (5, .int .i64 (i234 : Int)), (8, .bool r270.2.2), (53, .bool (r270.2.1 && (decide ((w64 ((i234 : Int) + r270.1)) < 0) || decide ((w64 ((i234 : Int) + r270.1)) > (w64 ((((p0).length) : Int) - 1))))))] a ∧ St w (fp []) w1 []) ?_ ?_
            · refine CW.region ?_
              refine OW.pure 2 [(40, .bool r270.2.1)] (by kernel_rfl) ?_
              refine OW.split 40 rfl (fun hc274 => ?_) (fun hc274 => ?_)
              · refine OW.pure 5 [(45, .bool (decide ((w64 ((i234 : Int) + r270.1)) < 0)))] (by kernel_rfl) ?_
                refine OW.split 45 rfl (fun hc275 => ?_) (fun hc275 => ?_)
                · refine OW.pure 8 [(53, .bool true)] (by kernel_rfl) ?_
                  refine OW.nil rfl ?_
                  refine QW.say 53 (v := .bool (r270.2.1 && (decide ((w64 ((i234 : Int) + r270.1)) < 0) || decide ((w64 ((i234 : Int) + r270.1)) > (w64 ((((p0).length) : Int) - 1)))))) rfl (by first | (rw [hc274, hc275]; done) | (rw [hc274, hc275]; rfl) | simp [hc274, hc275]) ?_
                  exact QW.meet (fun a ha => ⟨ha.agrees (by kernel_rfl), hst.keep [] rfl⟩)
                · refine OW.pure 8 [(53, .bool (decide ((w64 ((i234 : Int) + r270.1)) > (w64 ((((p0).length) : Int) - 1)))))] (by kernel_rfl) ?_
                  refine OW.nil rfl ?_
                  refine QW.say 53 (v := .bool (r270.2.1 && (decide ((w64 ((i234 : Int) + r270.1)) < 0) || decide ((w64 ((i234 : Int) + r270.1)) > (w64 ((((p0).length) : Int) - 1)))))) rfl (by first | (rw [hc274, hc275]; done) | (rw [hc274, hc275]; rfl) | simp [hc274, hc275]) ?_
                  exact QW.meet (fun a ha => ⟨ha.agrees (by kernel_rfl), hst.keep [] rfl⟩)
              · refine OW.pure 13 [(53, .bool false)] (by kernel_rfl) ?_
                refine OW.nil rfl ?_
                refine QW.say 53 (v := .bool (r270.2.1 && (decide ((w64 ((i234 : Int) + r270.1)) < 0) || decide ((w64 ((i234 : Int) + r270.1)) > (w64 ((((p0).length) : Int) - 1)))))) rfl (by first | (rw [hc274]; done) | (rw [hc274]; rfl) | simp [hc274]) ?_
                exact QW.meet (fun a ha => ⟨ha.agrees (by kernel_rfl), hst.keep [] rfl⟩)
            · rintro a w1 ⟨ha, hst⟩
              refine CW.go ?_ ha
              rcases Bool.eq_false_or_eq_true ((r270.2.1 && (decide ((w64 ((i234 : Int) + r270.1)) < 0) || decide ((w64 ((i234 : Int) + r270.1)) > (w64 ((((p0).length) : Int) - 1)))))) with hc276 | hc276
              · have hl232 := ite_t hl232 hc276
                refine CW.cond_t rfl hc276 ?_
                refine CW.seq ?_
                refine CW.region ?_
                refine OW.pure 3 [(2, .int .i64 (i234 : Int)), (3, .int .i64 30)] (by kernel_rfl) ?_
                refine OW.nil rfl ?_
                refine QW.next ?_
                refine CW.ret ?_
                refine QW.then_ret ?_
                refine QW.block_ret ?_
                refine QW.then_ret ?_
                refine QW.then_ret ?_
                refine QW.block_ret ?_
                refine QW.then_ret ?_
                obtain rfl := Option.some.inj hl232
                obtain rfl := Option.some.inj hF
                refine QW.ret2 rfl rfl rfl ?_
                exact ⟨rfl, hst.keep [] rfl⟩
              · have hl232 := ite_f hl232 hc276
                refine CW.cond_f rfl hc276 ?_
                refine CW.skip ?_
                refine QW.next ?_
                refine CW.seq ?_
                refine CW.cutK (fun a w1 => Rep 85 [(0, .slice a2 (p0).length c3), (4, .int .i64 (((p0).length) : Int)), (5, .int .i64 (i234 : Int)), (61, .bool (r270.2.2 && ((w64 ((i234 : Int) + 1)) == (((p0).length) : Int))))] a ∧ St w (fp []) w1 []) ?_ ?_
                · refine CW.region ?_
                  refine OW.pure 2 [(56, .bool r270.2.2)] (by kernel_rfl) ?_
                  refine OW.split 56 rfl (fun hc277 => ?_) (fun hc277 => ?_)
                  · refine OW.pure 5 [(61, .bool ((w64 ((i234 : Int) + 1)) == (((p0).length) : Int)))] (by kernel_rfl) ?_
                    refine OW.nil rfl ?_
                    refine QW.say 61 (v := .bool (r270.2.2 && ((w64 ((i234 : Int) + 1)) == (((p0).length) : Int)))) rfl (by first | (rw [hc277]; done) | (rw [hc277]; rfl) | simp [hc277]) ?_
                    exact QW.meet (fun a ha => ⟨ha.agrees (by kernel_rfl), hst.keep [] rfl⟩)
                  · refine OW.pure 5 [(61, .bool false)] (by kernel_rfl) ?_
                    refine OW.nil rfl ?_
                    refine QW.say 61 (v := .bool (r270.2.2 && ((w64 ((i234 : Int) + 1)) == (((p0).length) : Int)))) rfl (by first | (rw [hc277]; done) | (rw [hc277]; rfl) | simp [hc277]) ?_
                    exact QW.meet (fun a ha => ⟨ha.agrees (by kernel_rfl), hst.keep [] rfl⟩)
                · rintro a w1 ⟨ha, hst⟩
                  refine CW.go ?_ ha
                  rcases Bool.eq_false_or_eq_true ((r270.2.2 && ((w64 ((i234 : Int) + 1)) == (((p0).length) : Int)))) with hc278 | hc278
                  · have hl232 := ite_t hl232 hc278
                    refine CW.cond_t rfl hc278 ?_
                    refine CW.seq ?_
                    refine CW.region ?_
                    refine OW.pure 3 [(2, .int .i64 (i234 : Int)), (3, .int .i64 36)] (by kernel_rfl) ?_
                    refine OW.nil rfl ?_
                    refine QW.next ?_
                    refine CW.ret ?_
                    refine QW.block_ret ?_
                    refine QW.then_ret ?_
                    refine QW.then_ret ?_
                    refine QW.block_ret ?_
                    refine QW.then_ret ?_
                    obtain rfl := Option.some.inj hl232
                    obtain rfl := Option.some.inj hF
                    refine QW.ret2 rfl rfl rfl ?_
                    exact ⟨rfl, hst.keep [] rfl⟩
                  · have hl232 := ite_f hl232 hc278
                    refine CW.cond_f rfl hc278 ?_
                    refine CW.skip ?_
                    refine QW.block_normal ?_
                    refine QW.next ?_
                    refine CW.region ?_
                    refine OW.pure 3 [(5, .int .i64 (w64 ((i234 : Int) + 1)))] (by kernel_rfl) ?_
                    refine OW.nil rfl ?_
                    refine QW.say 5 rfl (congrArg (Value.int .i64) (w64_cnt hc236 l1)) ?_
                    exact QW.meet (fun a ha => ⟨n231, Nat.lt_succ_self _, i234 + 1, (), cnt_next hi235, ha.agrees (by kernel_rfl), hst.keep [] rfl, hl232⟩)
        · rcases n231 with _ | n231
          · refine CW.cond_f rfl hc236 ?_
            refine CW.exit ?_
            refine QW.then_exit ?_
            refine QW.then_exit ?_
            refine QW.block_here ?_
            obtain rfl := Option.some.inj hl232
            exact QW.meet (fun a ha => ⟨(), rfl, ha.agrees (by kernel_rfl), hst.keep [] rfl⟩)
          · exact (cnt1 hi235 hc236).elim
      · rintro a w1 ⟨t143, rfl, ha, hst⟩
        refine CW.go ?_ ha
        refine CW.seq ?_
        refine CW.region ?_
        refine OW.pure 1 [(63, .slice a2 (p0).length c3)] (by kernel_rfl) ?_
        obtain ⟨r287, hr288, hF⟩ := bind_some' hF
        refine OW.fn rfl rfl rfl rfl (by kernel_rfl) (tappetref07_bodies_ok _ fu (.slice a2 (p0).length c3) p0 r287 hr288 (hst.part [] rfl) (h0.give hst [])) ?_
        rintro e w289 ⟨v291, cv291, Sv291, rfl, hst290⟩
        refine ⟨_, rfl, ?_⟩
        have hst := hst.join (idx := []) (rest := []) rfl hst290
        obtain ⟨l292, a293, c294, rfl⟩ := hst.bunLen 0 1 rfl rfl
        refine OW.pure 1 [(9, .slice a293 (r287).length c294)] (by kernel_rfl) ?_
        refine OW.nil rfl ?_
        refine QW.next ?_
        refine CW.seq ?_
        refine CW.region ?_
        refine OW.pure 2 [(66, .slice a2 (p0).length c3), (67, .slice a293 (r287).length c294)] (by kernel_rfl) ?_
        obtain ⟨r299, hr300, hF⟩ := bind_some' hF
        refine OW.fn rfl rfl rfl rfl (by kernel_rfl) (tappetref07_crossing_ok _ fu (.slice a2 (p0).length c3) p0 (.slice a293 (r287).length c294) r287 r299 hr300 (hst.part [] rfl) (h0.give hst []) (hst.rdn (R := R_t41) 0 1 rfl rfl [] rfl rfl)) ?_
        rintro e w301 ⟨rfl, hst302⟩
        refine ⟨_, rfl, ?_⟩
        have hst := hst.join (idx := []) (rest := [0, 1]) rfl hst302
        refine OW.pure 5 [(10, .int .i64 r299.1), (11, .bool r299.2)] (by kernel_rfl) ?_
        refine OW.nil rfl ?_
        refine QW.next ?_
        refine CW.seq ?_
        refine CW.seq ?_
        refine CW.region ?_
        refine OW.pure 1 [(71, .bool r299.2)] (by kernel_rfl) ?_
        refine OW.nil rfl ?_
        refine QW.next ?_
        rcases Bool.eq_false_or_eq_true (r299.2) with hc303 | hc303
        · have hF := ite_t hF hc303
          refine CW.cond_t rfl hc303 ?_
          refine CW.seq ?_
          refine CW.region ?_
          refine OW.pure 3 [(2, .int .i64 r299.1), (3, .int .i64 31)] (by kernel_rfl) ?_
          refine OW.nil rfl ?_
          refine QW.next ?_
          refine CW.ret ?_
          refine QW.then_ret ?_
          obtain rfl := Option.some.inj hF
          refine QW.ret2 rfl rfl rfl ?_
          exact ⟨rfl, hst.keep [] rfl⟩
        · have hF := ite_f hF hc303
          refine CW.cond_f rfl hc303 ?_
          refine CW.skip ?_
          refine QW.next ?_
          refine CW.seq ?_
          refine CW.region ?_
          refine OW.pure 2 [(74, .slice a2 (p0).length c3), (75, .slice a293 (r287).length c294)] (by kernel_rfl) ?_
          obtain ⟨r308, hr309, hF⟩ := bind_some' hF
          refine OW.fn rfl rfl rfl rfl (by kernel_rfl) (tappetref07_entering_ok _ fu (.slice a2 (p0).length c3) p0 (.slice a293 (r287).length c294) r287 r308 hr309 (hst.part [] rfl) (h0.give hst []) (hst.rdn (R := R_t41) 0 1 rfl rfl [] rfl rfl)) ?_
          rintro e w310 ⟨rfl, hst311⟩
          refine ⟨_, rfl, ?_⟩
          have hst := hst.join (idx := []) (rest := [0, 1]) rfl hst311
          refine OW.pure 5 [(10, .int .i64 r308.1), (11, .bool r308.2)] (by kernel_rfl) ?_
          refine OW.nil rfl ?_
          refine QW.next ?_
          refine CW.seq ?_
          refine CW.seq ?_
          refine CW.region ?_
          refine OW.pure 1 [(79, .bool r308.2)] (by kernel_rfl) ?_
          refine OW.nil rfl ?_
          refine QW.next ?_
          rcases Bool.eq_false_or_eq_true (r308.2) with hc312 | hc312
          · have hF := ite_t hF hc312
            refine CW.cond_t rfl hc312 ?_
            refine CW.seq ?_
            refine CW.region ?_
            refine OW.pure 3 [(2, .int .i64 r308.1), (3, .int .i64 31)] (by kernel_rfl) ?_
            refine OW.nil rfl ?_
            refine QW.next ?_
            refine CW.ret ?_
            refine QW.then_ret ?_
            obtain rfl := Option.some.inj hF
            refine QW.ret2 rfl rfl rfl ?_
            exact ⟨rfl, hst.keep [] rfl⟩
          · have hF := ite_f hF hc312
            refine CW.cond_f rfl hc312 ?_
            refine CW.skip ?_
            refine QW.next ?_
            refine CW.seq ?_
            refine CW.seq ?_
            refine CW.region ?_
            refine OW.pure 2 [(81, .slice a2 (p0).length c3), (82, .slice a293 (r287).length c294)] (by kernel_rfl) ?_
            obtain ⟨r317, hr318, hF⟩ := bind_some' hF
            refine OW.fn rfl rfl rfl rfl (by kernel_rfl) (tappetref07_cost_ok _ fu (.slice a2 (p0).length c3) p0 (.slice a293 (r287).length c294) r287 r317 hr318 (hst.part [] rfl) (h0.give hst []) (hst.rdn (R := R_t41) 0 1 rfl rfl [] rfl rfl)) ?_
            rintro e w319 ⟨rfl, hst320⟩
            refine ⟨_, rfl, ?_⟩
            have hst := hst.join (idx := []) (rest := [0, 1]) rfl hst320
            refine OW.pure 1 [(84, .bool (decide (r317 > 256)))] (by kernel_rfl) ?_
            refine OW.nil rfl ?_
            refine QW.next ?_
            rcases Bool.eq_false_or_eq_true (decide (r317 > 256)) with hc321 | hc321
            · have hF := ite_t hF hc321
              refine CW.cond_t rfl hc321 ?_
              refine CW.seq ?_
              refine CW.region ?_
              refine OW.pure 2 [(2, .int .i64 0), (3, .int .i64 32)] (by kernel_rfl) ?_
              refine OW.nil rfl ?_
              refine QW.next ?_
              refine CW.ret ?_
              refine QW.then_ret ?_
              obtain rfl := Option.some.inj hF
              refine QW.ret2 rfl rfl rfl ?_
              exact ⟨rfl, hst.keep [] rfl⟩
            · have hF := ite_f hF hc321
              refine CW.cond_f rfl hc321 ?_
              refine CW.skip ?_
              refine QW.next ?_
              refine CW.seq ?_
              refine CW.region ?_
              refine OW.pure 2 [(2, .int .i64 0), (3, .int .i64 0)] (by kernel_rfl) ?_
              refine OW.nil rfl ?_
              refine QW.next ?_
              refine CW.ret ?_
              obtain rfl := Option.some.inj hF
              refine QW.ret2 rfl rfl rfl ?_
              exact ⟨rfl, hst.keep [] rfl⟩

set_option maxRecDepth 10000 in
theorem tappetlaw07_FlowChecks_ok (w : World) (fu : Nat) (v0 : Value) (p0 : List api_Inst) (r : Bool) (hF : tappetlaw07_FlowChecks fu p0 = some r)
    (hst : St w (fp []) w []) (h0 : Rd w (fp []) v0 enc_api_Inst 5 p0) (hT0 : Rd w (fp []) (.slice (some ⟨0, 0, none⟩) 23 23) enc_ops_form 2 tab_g0) :
    Calls Tryd.prog 3 [v0].toArray w (fun e w' => e = .returned (.bool r) ∧ St w (fp []) w' []) := by
  refine CW.start (N := 46) Tryd.func3 rfl rfl rfl ?_
  obtain ⟨l1, a2, c3, rfl⟩ := h0.len
  refine CW.seq ?_
  refine CW.region ?_
  refine OW.pure 1 [] (by kernel_rfl) ?_
  refine OW.nil rfl ?_
  refine QW.next ?_
  refine CW.seq ?_
  refine CW.seq ?_
  refine CW.region ?_
  obtain ⟨r8, hr9, hF⟩ := bind_some' hF
  refine OW.fn rfl rfl rfl rfl (by kernel_rfl) (tappetlaw07_awake_ok _ r8 hr9 (hst.part [] rfl) (hT0.give hst [])) ?_
  rintro e w10 ⟨rfl, hst11⟩
  refine ⟨_, rfl, ?_⟩
  have hst := hst.join (idx := []) (rest := []) rfl hst11
  refine OW.pure 1 [(10, .bool (!r8))] (by kernel_rfl) ?_
  refine OW.nil rfl ?_
  refine QW.next ?_
  rcases Bool.eq_false_or_eq_true ((!r8)) with hc12 | hc12
  · have hF := ite_t hF hc12
    refine CW.cond_t rfl hc12 ?_
    refine CW.seq ?_
    refine CW.region ?_
    refine OW.pure 1 [(2, .bool false)] (by kernel_rfl) ?_
    refine OW.nil rfl ?_
    refine QW.next ?_
    refine CW.ret ?_
    refine QW.then_ret ?_
    obtain rfl := Option.some.inj hF
    refine QW.ret1 rfl rfl ?_
    exact ⟨rfl, hst.keep [] rfl⟩
  · have hF := ite_f hF hc12
    refine CW.cond_f rfl hc12 ?_
    refine CW.skip ?_
    refine QW.next ?_
    refine CW.seq ?_
    refine CW.region ?_
    refine OW.pure 1 [(11, .slice a2 (p0).length c3)] (by kernel_rfl) ?_
    obtain ⟨r21, hr22, hF⟩ := bind_some' hF
    refine OW.fn rfl rfl rfl rfl (by kernel_rfl) (tappetlaw07_copied_ok _ (.slice a2 (p0).length c3) p0 r21 hr22 (hst.part [] rfl) (h0.give hst [])) ?_
    rintro e w23 ⟨v25, rfl, hst24⟩
    refine ⟨_, rfl, ?_⟩
    have hst := hst.join (idx := []) (rest := []) rfl hst24
    obtain ⟨l26, a27, c28, rfl⟩ := hst.len 0 rfl
    refine OW.pure 1 [(3, .slice a27 (r21).length c28)] (by kernel_rfl) ?_
    refine OW.nil rfl ?_
    refine QW.next ?_
    refine CW.seq ?_
    refine CW.region ?_
    refine OW.pure 1 [(14, .slice a27 (r21).length c28)] (by kernel_rfl) ?_
    obtain ⟨r33, hr34, hF⟩ := bind_some' hF
    refine OW.fn rfl rfl rfl rfl (by kernel_rfl) (flow_Check_ok _ (.slice a27 (r21).length c28) r21 r33 hr34 (hst.part [] rfl) (hst.rd 0 rfl (fun _ => rfl) [] rfl (hst.len 0 rfl).1) (hT0.give hst [])) ?_
    rintro e w35 ⟨rfl, hst36⟩
    refine ⟨_, rfl, ?_⟩
    have hst := hst.join (idx := []) (rest := [0]) rfl hst36
    refine OW.pure 5 [(4, .int .i64 r33.1), (5, .int .i64 r33.2)] (by kernel_rfl) ?_
    refine OW.nil rfl ?_
    refine QW.next ?_
    refine CW.seq ?_
    refine CW.region ?_
    refine OW.pure 1 [(19, .slice a2 (p0).length c3)] (by kernel_rfl) ?_
    obtain ⟨r41, hr42, hF⟩ := bind_some' hF
    refine OW.fn rfl rfl rfl rfl (by kernel_rfl) (tappetref07_Check_ok _ fu (.slice a2 (p0).length c3) p0 r41 hr42 (hst.part [] rfl) (h0.give hst [])) ?_
    rintro e w43 ⟨rfl, hst44⟩
    refine ⟨_, rfl, ?_⟩
    have hst := hst.join (idx := []) (rest := [0]) rfl hst44
    refine OW.pure 5 [(6, .int .i64 r41.1), (7, .int .i64 r41.2)] (by kernel_rfl) ?_
    refine OW.nil rfl ?_
    refine QW.next ?_
    refine CW.seq ?_
    refine CW.seq ?_
    refine CW.region ?_
    refine OW.pure 1 [(8, .int .i64 0)] (by kernel_rfl) ?_
    refine OW.nil rfl ?_
    refine QW.next ?_
    obtain ⟨o135, ho136, hF⟩ := bind_some' hF
    refine CW.cutK (fun a w1 => ∃ (t137 : Unit), o135 = .inl t137 ∧ Rep 46 [(4, .int .i64 r33.1), (5, .int .i64 r33.2), (6, .int .i64 r41.1), (7, .int .i64 r41.2)] a ∧ St w (fp []) w1 []) ?_ ?_
    · refine CW.block ?_
      refine CW.loop (fun n a w1 => ∃ (i198 : Nat) (s197 : Unit), i198 + n = (p0).length ∧ Rep 46 [(0, .slice a2 (p0).length c3), (3, .slice a27 (r21).length c28), (4, .int .i64 r33.1), (5, .int .i64 r33.2), (6, .int .i64 r41.1), (7, .int .i64 r41.2), (8, .int .i64 (i198 : Int))] a ∧ St w (fp []) w1 [rowI (.slice a27 (r21).length c28) 32 enc_api_Inst 5 r21] ∧ forN (tappetlaw07_FlowChecks_l1 p0 r21) (fun (s197 : Unit) => (.inl ())) n i198 s197 = some o135) ((p0).length) (fun a ha => ⟨0, (), Nat.zero_add _, ha.agrees (by kernel_rfl), hst.keep [0] rfl, ho136⟩) ?_
      rintro n195 a w1 ⟨i198, s197, hi199, ha, hst, hl196⟩
      refine CW.go ?_ ha
      refine CW.seq ?_
      refine CW.seq ?_
      refine CW.region ?_
      refine OW.pure 4 [(26, .bool (decide ((i198 : Int) < (((p0).length) : Int))))] (by kernel_rfl) ?_
      refine OW.nil rfl ?_
      refine QW.next ?_
      rcases Bool.eq_false_or_eq_true (decide ((i198 : Int) < (((p0).length) : Int))) with hc200 | hc200
      · rcases n195 with _ | n195
        · exact (cnt0 hi199 hc200).elim
        refine CW.cond_t rfl hc200 ?_
        refine CW.skip ?_
        refine QW.next ?_
        refine CW.seq ?_
        refine CW.block ?_
        refine CW.seq ?_
        refine CW.still (by kernel_rfl) (by kernel_rfl) ?_
        intro w214 hch215
        have hst := hst.same hch215
        refine OS.pure 2 [(29, .slice a27 (r21).length c28), (30, .int .i64 (i198 : Int))] rfl (by kernel_rfl) ?_
        obtain ⟨x216, hx217, hl196⟩ := bind_some' hl196
        obtain ⟨g219, c220, hv218⟩ := hst.rowv 0 rfl hx217
        refine OS.idx 32 5 rfl rfl rfl rfl rfl hv218 rfl (idx_some hx217).1 (idx_some hx217).2.1 (by kernel_rfl) (by kernel_rfl) ?_
        refine OS.ldN (cs := enc_api_Inst x216) rfl rfl rfl rfl rfl (by kernel_rfl) (by kernel_rfl) (hst.rowc 0 rfl (fun _ => rfl) hx217 hv218) ?_
        refine OS.pure 2 [(33, .slice a2 (p0).length c3), (34, .int .i64 (i198 : Int))] rfl (by kernel_rfl) ?_
        obtain ⟨x221, hx222, hl196⟩ := bind_some' hl196
        obtain ⟨g224, o225, c226, hv223⟩ := h0.formv (fun _ => ⟨_, rfl⟩) hx222
        refine OS.idx 32 5 rfl rfl rfl rfl rfl hv223 rfl (idx_some hx222).1 (idx_some hx222).2.1 (by kernel_rfl) (by kernel_rfl) ?_
        refine OS.ldN (cs := enc_api_Inst x221) rfl rfl rfl rfl rfl (by kernel_rfl) (by kernel_rfl) (h0.cellv hst hx222 hv223) ?_
        refine OS.op (v := .bool (!((x216.Op == x221.Op) && ((x216.D == x221.D) && ((x216.A == x221.A) && ((x216.B == x221.B) && ((x216.Imm == x221.Imm) && true))))))) rfl rfl rfl rfl rfl (fun a ha => sneq_run rfl rfl rfl (by kernel_rfl) (by kernel_rfl) a _ ha) ?_
        refine OS.fin rfl ?_
        refine QW.next ?_
        rcases Bool.eq_false_or_eq_true ((!((x216.Op == x221.Op) && ((x216.D == x221.D) && ((x216.A == x221.A) && ((x216.B == x221.B) && ((x216.Imm == x221.Imm) && true))))))) with hc227 | hc227
        · have hl196 := ite_t hl196 hc227
          refine CW.cond_t rfl hc227 ?_
          refine CW.seq ?_
          refine CW.region ?_
          refine OW.pure 1 [(2, .bool false)] (by kernel_rfl) ?_
          refine OW.nil rfl ?_
          refine QW.next ?_
          refine CW.ret ?_
          refine QW.block_ret ?_
          refine QW.then_ret ?_
          refine QW.then_ret ?_
          refine QW.block_ret ?_
          refine QW.then_ret ?_
          obtain rfl := Option.some.inj hl196
          obtain rfl := Option.some.inj hF
          refine QW.ret1 rfl rfl ?_
          exact ⟨rfl, hst.keep [] rfl⟩
        · have hl196 := ite_f hl196 hc227
          refine CW.cond_f rfl hc227 ?_
          refine CW.skip ?_
          refine QW.block_normal ?_
          refine QW.next ?_
          refine CW.region ?_
          refine OW.pure 3 [(8, .int .i64 (w64 ((i198 : Int) + 1)))] (by kernel_rfl) ?_
          refine OW.nil rfl ?_
          refine QW.say 8 rfl (congrArg (Value.int .i64) (w64_cnt hc200 l1)) ?_
          exact QW.meet (fun a ha => ⟨n195, Nat.lt_succ_self _, i198 + 1, (), cnt_next hi199, ha.agrees (by kernel_rfl), hst.keep [0] rfl, hl196⟩)
      · rcases n195 with _ | n195
        · refine CW.cond_f rfl hc200 ?_
          refine CW.exit ?_
          refine QW.then_exit ?_
          refine QW.then_exit ?_
          refine QW.block_here ?_
          obtain rfl := Option.some.inj hl196
          exact QW.meet (fun a ha => ⟨(), rfl, ha.agrees (by kernel_rfl), hst.keep [] rfl⟩)
        · exact (cnt1 hi199 hc200).elim
    · rintro a w1 ⟨t137, rfl, ha, hst⟩
      refine CW.go ?_ ha
      refine CW.seq ?_
      refine CW.cutK (fun a w1 => Rep 46 [(2, .bool ((r33.1 == r41.1) && (r33.2 == r41.2)))] a ∧ St w (fp []) w1 []) ?_ ?_
      · refine CW.region ?_
        refine OW.pure 4 [(41, .bool (r33.1 == r41.1))] (by kernel_rfl) ?_
        refine OW.split 41 rfl (fun hc228 => ?_) (fun hc228 => ?_)
        · refine OW.pure 5 [(2, .bool (r33.2 == r41.2))] (by kernel_rfl) ?_
          refine OW.nil rfl ?_
          refine QW.say 2 (v := .bool ((r33.1 == r41.1) && (r33.2 == r41.2))) rfl (by first | (rw [hc228]; done) | (rw [hc228]; rfl) | simp [hc228]) ?_
          exact QW.meet (fun a ha => ⟨ha.agrees (by kernel_rfl), hst.keep [] rfl⟩)
        · refine OW.pure 5 [(2, .bool false)] (by kernel_rfl) ?_
          refine OW.nil rfl ?_
          refine QW.say 2 (v := .bool ((r33.1 == r41.1) && (r33.2 == r41.2))) rfl (by first | (rw [hc228]; done) | (rw [hc228]; rfl) | simp [hc228]) ?_
          exact QW.meet (fun a ha => ⟨ha.agrees (by kernel_rfl), hst.keep [] rfl⟩)
      · rintro a w1 ⟨ha, hst⟩
        refine CW.go ?_ ha
        refine CW.ret ?_
        obtain rfl := Option.some.inj hF
        refine QW.ret1 rfl rfl ?_
        exact ⟨rfl, hst.keep [] rfl⟩

set_option maxRecDepth 10000 in
theorem tappetref07_Loops_ok (w : World) (fu : Nat) (v0 : Value) (p0 : List api_Inst) (r : (List api_Loop) × Int) (hF : tappetref07_Loops fu p0 = some r)
    (hst : St w (fp []) w []) (h0 : Rd w (fp []) v0 enc_api_Inst 5 p0) :
    Calls Tryd.prog 13 [v0].toArray w (fun e w' => ∃ (x0 : Value), e = .returned (.tuple #[x0, .int .i64 r.2]) ∧ St w (fp []) w' [rowI x0 40 enc_api_Loop 3 r.1]) := by
  refine CW.start (N := 46) Tryd.func13 rfl rfl rfl ?_
  obtain ⟨l1, a2, c3, rfl⟩ := h0.len
  refine CW.seq ?_
  refine CW.region ?_
  refine OW.pure 2 [] (by kernel_rfl) ?_
  refine OW.nil rfl ?_
  refine QW.next ?_
  refine CW.seq ?_
  refine CW.region ?_
  refine OW.pure 1 [(9, .slice a2 (p0).length c3)] (by kernel_rfl) ?_
  obtain ⟨r8, hr9, hF⟩ := bind_some' hF
  refine OW.fn rfl rfl rfl rfl (by kernel_rfl) (tappetref07_Check_ok _ fu (.slice a2 (p0).length c3) p0 r8 hr9 (hst.part [] rfl) (h0.give hst [])) ?_
  rintro e w10 ⟨rfl, hst11⟩
  refine ⟨_, rfl, ?_⟩
  have hst := hst.join (idx := []) (rest := []) rfl hst11
  refine OW.pure 5 [(5, .int .i64 r8.2)] (by kernel_rfl) ?_
  refine OW.nil rfl ?_
  refine QW.next ?_
  refine CW.seq ?_
  refine CW.seq ?_
  refine CW.region ?_
  refine OW.pure 2 [(14, .bool (r8.2 != 0))] (by kernel_rfl) ?_
  refine OW.nil rfl ?_
  refine QW.next ?_
  rcases Bool.eq_false_or_eq_true ((r8.2 != 0)) with hc12 | hc12
  · have hF := ite_t hF hc12
    refine CW.cond_t rfl hc12 ?_
    refine CW.seq ?_
    refine CW.region ?_
    refine OW.pure 3 [(2, .slice none 0 0), (3, .int .i64 r8.2)] (by kernel_rfl) ?_
    refine OW.nil rfl ?_
    refine QW.next ?_
    refine CW.ret ?_
    refine QW.then_ret ?_
    have hst := hst.nilRow api_Loop 40 enc_api_Loop 3
    obtain rfl := Option.some.inj hF
    refine QW.ret2 rfl rfl rfl ?_
    exact ⟨(.slice none 0 0), rfl, hst.keep [0] rfl⟩
  · have hF := ite_f hF hc12
    refine CW.cond_f rfl hc12 ?_
    refine CW.skip ?_
    refine QW.next ?_
    refine CW.seq ?_
    refine CW.region ?_
    refine OW.pure 1 [(6, .slice none 0 0)] (by kernel_rfl) ?_
    refine OW.nil rfl ?_
    refine QW.next ?_
    refine CW.seq ?_
    refine CW.seq ?_
    refine CW.region ?_
    refine OW.pure 1 [(7, .int .i64 0)] (by kernel_rfl) ?_
    refine OW.nil rfl ?_
    refine QW.next ?_
    obtain ⟨o190, ho191, hF⟩ := bind_some' hF
    refine CW.cutK (fun a w1 => ∃ (v189 : Value), Rep 46 [(6, v189)] a ∧ St w (fp []) w1 [rowI v189 40 enc_api_Loop 3 o190]) ?_ ?_
    · refine CW.block ?_
      have hst := hst.nilRow api_Loop 40 enc_api_Loop 3
      refine CW.loop (fun n a w1 => ∃ (i310 : Nat) (s308 : (List api_Loop)) (v309 : Value), i310 + n = (p0).length ∧ Rep 46 [(0, .slice a2 (p0).length c3), (6, v309), (7, .int .i64 (i310 : Int))] a ∧ St w (fp []) w1 [rowI v309 40 enc_api_Loop 3 s308] ∧ forN (tappetref07_Loops_l1 p0) (fun (s308 : (List api_Loop)) => s308) n i310 s308 = some o190) ((p0).length) (fun a ha => ⟨0, ([] : List api_Loop), (.slice none 0 0), Nat.zero_add _, ha.agrees (by kernel_rfl), hst.keep [0] rfl, ho191⟩) ?_
      rintro n306 a w1 ⟨i310, s308, v309, hi311, ha, hst, hl307⟩
      refine CW.go ?_ ha
      obtain ⟨l312, a313, c314, rfl⟩ := hst.len 0 rfl
      refine CW.seq ?_
      refine CW.seq ?_
      refine CW.region ?_
      refine OW.pure 4 [(19, .bool (decide ((i310 : Int) < (((p0).length) : Int))))] (by kernel_rfl) ?_
      refine OW.nil rfl ?_
      refine QW.next ?_
      rcases Bool.eq_false_or_eq_true (decide ((i310 : Int) < (((p0).length) : Int))) with hc315 | hc315
      · rcases n306 with _ | n306
        · exact (cnt0 hi311 hc315).elim
        refine CW.cond_t rfl hc315 ?_
        refine CW.skip ?_
        refine QW.next ?_
        refine CW.seq ?_
        refine CW.block ?_
        refine CW.seq ?_
        refine CW.region ?_
        refine OW.pure 2 [(22, .slice a2 (p0).length c3), (23, .int .i64 (i310 : Int))] (by kernel_rfl) ?_
        obtain ⟨x322, hx323, hl307⟩ := bind_some' hl307
        obtain ⟨g325, o326, c327, hv324⟩ := h0.formv (fun _ => ⟨_, rfl⟩) hx323
        refine OW.idx 32 5 rfl rfl rfl rfl hv324 rfl (idx_some hx323).1 (idx_some hx323).2.1 (by kernel_rfl) (by kernel_rfl) ?_
        refine OW.pure 1 [(25, .pointer (some ⟨g325, o326 + Int.toNat (i310 : Int) * 5, none⟩))] (by kernel_rfl) ?_
        refine OW.ld rfl rfl rfl rfl (by kernel_rfl) (h0.cellv hst hx323 hv324 0 _ rfl) ?_
        refine OW.pure 1 [(27, .bool (x322.Op == 20))] (by kernel_rfl) ?_
        refine OW.nil rfl ?_
        refine QW.next ?_
        rcases Bool.eq_false_or_eq_true ((x322.Op == 20)) with hc328 | hc328
        · have hl307 := ite_t hl307 hc328
          refine CW.cond_t rfl hc328 ?_
          refine CW.plan (by kernel_rfl) ?_
          intro w348 hch349
          have hst := hst.same hch349
          refine OA.pure [0, 1, 2, 3] [(28, .slice a313 (s308).length c314), (29, .int .i64 (i310 : Int)), (30, .slice a2 (p0).length c3), (31, .int .i64 (i310 : Int))] (by kernel_rfl) ?_
          obtain ⟨g351, o352, c353, hv350⟩ := h0.formv (fun _ => ⟨_, rfl⟩) hx323
          refine OA.idx (i := 4) 32 5 rfl (by kernel_rfl) rfl rfl rfl hv350 rfl (idx_some hx323).1 (idx_some hx323).2.1 (by kernel_rfl) (by kernel_rfl) ?_
          refine OA.pure [5] [(33, .pointer (some ⟨g351, o352 + Int.toNat (i310 : Int) * 5 + 1, none⟩))] (by kernel_rfl) ?_
          refine OA.ld (i := 6) rfl (by kernel_rfl) rfl rfl rfl (by kernel_rfl) (h0.cellv hst hx323 hv350 1 _ rfl) ?_
          refine OA.pure [7, 8, 9, 10] [(35, .int .i64 (w64 ((i310 : Int) - x322.D))), (36, .int .i64 (i310 : Int)), (37, .slice a2 (p0).length c3), (38, .int .i64 (i310 : Int))] (by kernel_rfl) ?_
          obtain ⟨g355, o356, c357, hv354⟩ := h0.formv (fun _ => ⟨_, rfl⟩) hx323
          refine OA.idx (i := 11) 32 5 rfl (by kernel_rfl) rfl rfl rfl hv354 rfl (idx_some hx323).1 (idx_some hx323).2.1 (by kernel_rfl) (by kernel_rfl) ?_
          refine OA.pure [12] [(40, .pointer (some ⟨g355, o356 + Int.toNat (i310 : Int) * 5 + 4, none⟩))] (by kernel_rfl) ?_
          refine OA.ld (i := 13) rfl (by kernel_rfl) rfl rfl rfl (by kernel_rfl) (h0.cellv hst hx323 hv354 4 _ rfl) ?_
          refine OA.pure [14] [(42, .agg [.int .i64 (w64 ((i310 : Int) - x322.D)), .int .i64 (i310 : Int), .int .i64 x322.Imm].toArray)] (by kernel_rfl) ?_
          refine OA.act (i := 15) [] (by kernel_rfl) rfl rfl (by kernel_rfl) (by kernel_rfl) ?_
          refine OW.row (α := api_Loop) (e := 40) (enc := enc_api_Loop) (sz := 3) hst rfl rfl rfl [(api_Loop.mk (w64 ((i310 : Int) - x322.D)) (i310 : Int) x322.Imm)] rfl (fun _ => rfl) rfl rfl (fun _ => by kernel_rfl) ?_
          intro g358 w359 hst
          refine OA.next trivial ?_
          refine OA.act (i := 16) [] (by kernel_rfl) rfl rfl (by kernel_rfl) (by kernel_rfl) ?_
          obtain ⟨u360, hr361, hl307⟩ := bind_some' hl307
          refine OW.app hst 0 rfl (fun _ => rfl) (fun _ => rfl) rfl rfl rfl rfl rfl rfl (by kernel_rfl) el40 (hst.rd 1 rfl (fun _ => rfl) [] rfl (hst.len 1 rfl).1) (room_le hr361) ?_
          intro v362 w363 hst
          obtain ⟨l364, a365, c366, rfl⟩ := hst.len 0 rfl
          refine OA.next trivial ?_
          refine OA.act (i := 17) [] (by kernel_rfl) rfl rfl (by kernel_rfl) (by kernel_rfl) ?_
          refine OW.pure 1 [(6, .slice a365 ((s308 ++ [(api_Loop.mk (w64 ((i310 : Int) - x322.D)) (i310 : Int) x322.Imm)])).length c366)] (by kernel_rfl) ?_
          refine OA.next trivial ?_
          refine OA.fin (by kernel_rfl) (by kernel_rfl) ?_
          refine QW.block_normal ?_
          refine QW.next ?_
          refine CW.region ?_
          refine OW.pure 3 [(7, .int .i64 (w64 ((i310 : Int) + 1)))] (by kernel_rfl) ?_
          refine OW.nil rfl ?_
          refine QW.say 7 rfl (congrArg (Value.int .i64) (w64_cnt hc315 l1)) ?_
          exact QW.meet (fun a ha => ⟨n306, Nat.lt_succ_self _, i310 + 1, (s308 ++ [(api_Loop.mk (w64 ((i310 : Int) - x322.D)) (i310 : Int) x322.Imm)]), (.slice a365 ((s308 ++ [(api_Loop.mk (w64 ((i310 : Int) - x322.D)) (i310 : Int) x322.Imm)])).length c366), cnt_next hi311, ha.agrees (by kernel_rfl), hst.keep [0] rfl, hl307⟩)
        · have hl307 := ite_f hl307 hc328
          refine CW.cond_f rfl hc328 ?_
          refine CW.skip ?_
          refine QW.block_normal ?_
          refine QW.next ?_
          refine CW.region ?_
          refine OW.pure 3 [(7, .int .i64 (w64 ((i310 : Int) + 1)))] (by kernel_rfl) ?_
          refine OW.nil rfl ?_
          refine QW.say 7 rfl (congrArg (Value.int .i64) (w64_cnt hc315 l1)) ?_
          exact QW.meet (fun a ha => ⟨n306, Nat.lt_succ_self _, i310 + 1, s308, (.slice a313 (s308).length c314), cnt_next hi311, ha.agrees (by kernel_rfl), hst.keep [0] rfl, hl307⟩)
      · rcases n306 with _ | n306
        · refine CW.cond_f rfl hc315 ?_
          refine CW.exit ?_
          refine QW.then_exit ?_
          refine QW.then_exit ?_
          refine QW.block_here ?_
          obtain rfl := Option.some.inj hl307
          exact QW.meet (fun a ha => ⟨(.slice a313 (s308).length c314), ha.agrees (by kernel_rfl), hst.keep [0] rfl⟩)
        · exact (cnt1 hi311 hc315).elim
    · rintro a w1 ⟨v189, ha, hst⟩
      refine CW.go ?_ ha
      obtain ⟨l370, a371, c372, rfl⟩ := hst.len 0 rfl
      refine CW.seq ?_
      refine CW.region ?_
      refine OW.pure 3 [(2, .slice a371 (o190).length c372), (3, .int .i64 0)] (by kernel_rfl) ?_
      refine OW.nil rfl ?_
      refine QW.next ?_
      refine CW.ret ?_
      obtain rfl := Option.some.inj hF
      refine QW.ret2 rfl rfl rfl ?_
      exact ⟨(.slice a371 (o190).length c372), rfl, hst.keep [0] rfl⟩

set_option maxRecDepth 10000 in
theorem tappetref07_Cost_ok (w : World) (fu : Nat) (v0 : Value) (p0 : List api_Inst) (r : Int × Int) (hF : tappetref07_Cost fu p0 = some r)
    (hst : St w (fp []) w []) (h0 : Rd w (fp []) v0 enc_api_Inst 5 p0) :
    Calls Tryd.prog 15 [v0].toArray w (fun e w' => e = .returned (.tuple #[.int .i64 r.1, .int .i64 r.2]) ∧ St w (fp []) w' []) := by
  refine CW.start (N := 18) Tryd.func15 rfl rfl rfl ?_
  obtain ⟨l1, a2, c3, rfl⟩ := h0.len
  refine CW.seq ?_
  refine CW.region ?_
  refine OW.pure 2 [] (by kernel_rfl) ?_
  refine OW.nil rfl ?_
  refine QW.next ?_
  refine CW.seq ?_
  refine CW.region ?_
  refine OW.pure 1 [(7, .slice a2 (p0).length c3)] (by kernel_rfl) ?_
  obtain ⟨r8, hr9, hF⟩ := bind_some' hF
  refine OW.fn rfl rfl rfl rfl (by kernel_rfl) (tappetref07_Check_ok _ fu (.slice a2 (p0).length c3) p0 r8 hr9 (hst.part [] rfl) (h0.give hst [])) ?_
  rintro e w10 ⟨rfl, hst11⟩
  refine ⟨_, rfl, ?_⟩
  have hst := hst.join (idx := []) (rest := []) rfl hst11
  refine OW.pure 5 [(5, .int .i64 r8.2)] (by kernel_rfl) ?_
  refine OW.nil rfl ?_
  refine QW.next ?_
  refine CW.seq ?_
  refine CW.seq ?_
  refine CW.region ?_
  refine OW.pure 2 [(12, .bool (r8.2 != 0))] (by kernel_rfl) ?_
  refine OW.nil rfl ?_
  refine QW.next ?_
  rcases Bool.eq_false_or_eq_true ((r8.2 != 0)) with hc12 | hc12
  · have hF := ite_t hF hc12
    refine CW.cond_t rfl hc12 ?_
    refine CW.seq ?_
    refine CW.region ?_
    refine OW.pure 3 [(2, .int .i64 0), (3, .int .i64 r8.2)] (by kernel_rfl) ?_
    refine OW.nil rfl ?_
    refine QW.next ?_
    refine CW.ret ?_
    refine QW.then_ret ?_
    obtain rfl := Option.some.inj hF
    refine QW.ret2 rfl rfl rfl ?_
    exact ⟨rfl, hst.keep [] rfl⟩
  · have hF := ite_f hF hc12
    refine CW.cond_f rfl hc12 ?_
    refine CW.skip ?_
    refine QW.next ?_
    refine CW.seq ?_
    refine CW.region ?_
    refine OW.pure 2 [(14, .slice a2 (p0).length c3), (15, .slice a2 (p0).length c3)] (by kernel_rfl) ?_
    obtain ⟨r25, hr26, hF⟩ := bind_some' hF
    refine OW.fn rfl rfl rfl rfl (by kernel_rfl) (tappetref07_bodies_ok _ fu (.slice a2 (p0).length c3) p0 r25 hr26 (hst.part [] rfl) (h0.give hst [])) ?_
    rintro e w27 ⟨v29, cv29, Sv29, rfl, hst28⟩
    refine ⟨_, rfl, ?_⟩
    have hst := hst.join (idx := []) (rest := []) rfl hst28
    obtain ⟨l30, a31, c32, rfl⟩ := hst.bunLen 0 1 rfl rfl
    obtain ⟨r33, hr34, hF⟩ := bind_some' hF
    refine OW.fn rfl rfl rfl rfl (by kernel_rfl) (tappetref07_cost_ok _ fu (.slice a2 (p0).length c3) p0 (.slice a31 (r25).length c32) r25 r33 hr34 (hst.part [] rfl) (h0.give hst []) (hst.rdn (R := R_t41) 0 1 rfl rfl [] rfl rfl)) ?_
    rintro e w35 ⟨rfl, hst36⟩
    refine ⟨_, rfl, ?_⟩
    have hst := hst.join (idx := []) (rest := [0, 1]) rfl hst36
    refine OW.pure 2 [(2, .int .i64 r33), (3, .int .i64 0)] (by kernel_rfl) ?_
    refine OW.nil rfl ?_
    refine QW.next ?_
    refine CW.ret ?_
    obtain rfl := Option.some.inj hF
    refine QW.ret2 rfl rfl rfl ?_
    exact ⟨rfl, hst.keep [] rfl⟩

set_option maxRecDepth 10000 in
theorem tappetlaw07_FlowLoops_ok (w : World) (fu : Nat) (v0 : Value) (p0 : List api_Inst) (r : Bool) (hF : tappetlaw07_FlowLoops fu p0 = some r)
    (hst : St w (fp []) w []) (h0 : Rd w (fp []) v0 enc_api_Inst 5 p0) (hT0 : Rd w (fp []) (.slice (some ⟨0, 0, none⟩) 23 23) enc_ops_form 2 tab_g0) :
    Calls Tryd.prog 4 [v0].toArray w (fun e w' => e = .returned (.bool r) ∧ St w (fp []) w' []) := by
  refine CW.start (N := 103) Tryd.func4 rfl rfl rfl ?_
  obtain ⟨l1, a2, c3, rfl⟩ := h0.len
  refine CW.seq ?_
  refine CW.region ?_
  refine OW.pure 1 [] (by kernel_rfl) ?_
  refine OW.nil rfl ?_
  refine QW.next ?_
  refine CW.seq ?_
  refine CW.seq ?_
  refine CW.region ?_
  obtain ⟨r8, hr9, hF⟩ := bind_some' hF
  refine OW.fn rfl rfl rfl rfl (by kernel_rfl) (tappetlaw07_awake_ok _ r8 hr9 (hst.part [] rfl) (hT0.give hst [])) ?_
  rintro e w10 ⟨rfl, hst11⟩
  refine ⟨_, rfl, ?_⟩
  have hst := hst.join (idx := []) (rest := []) rfl hst11
  refine OW.pure 1 [(16, .bool (!r8))] (by kernel_rfl) ?_
  refine OW.nil rfl ?_
  refine QW.next ?_
  rcases Bool.eq_false_or_eq_true ((!r8)) with hc12 | hc12
  · have hF := ite_t hF hc12
    refine CW.cond_t rfl hc12 ?_
    refine CW.seq ?_
    refine CW.region ?_
    refine OW.pure 1 [(2, .bool false)] (by kernel_rfl) ?_
    refine OW.nil rfl ?_
    refine QW.next ?_
    refine CW.ret ?_
    refine QW.then_ret ?_
    obtain rfl := Option.some.inj hF
    refine QW.ret1 rfl rfl ?_
    exact ⟨rfl, hst.keep [] rfl⟩
  · have hF := ite_f hF hc12
    refine CW.cond_f rfl hc12 ?_
    refine CW.skip ?_
    refine QW.next ?_
    refine CW.seq ?_
    refine CW.region ?_
    refine OW.pure 1 [(18, .slice a2 (p0).length c3)] (by kernel_rfl) ?_
    obtain ⟨r29, hr30, hF⟩ := bind_some' hF
    refine OW.fn rfl rfl rfl rfl (by kernel_rfl) (tappetlaw07_copied_ok _ (.slice a2 (p0).length c3) p0 r29 hr30 (hst.part [] rfl) (h0.give hst [])) ?_
    rintro e w31 ⟨v33, rfl, hst32⟩
    refine ⟨_, rfl, ?_⟩
    have hst := hst.join (idx := []) (rest := []) rfl hst32
    obtain ⟨l34, a35, c36, rfl⟩ := hst.len 0 rfl
    obtain ⟨r37, hr38, hF⟩ := bind_some' hF
    refine OW.fn rfl rfl rfl rfl (by kernel_rfl) (flow_Loops_ok _ (.slice a35 (r29).length c36) r29 r37 hr38 (hst.part [] rfl) (hst.rd 0 rfl (fun _ => rfl) [] rfl (hst.len 0 rfl).1) (hT0.give hst [])) ?_
    rintro e w39 ⟨v41, rfl, hst40⟩
    refine ⟨_, rfl, ?_⟩
    have hst := hst.join (idx := []) (rest := [0]) rfl hst40
    obtain ⟨l42, a43, c44, rfl⟩ := hst.len 0 rfl
    refine OW.pure 5 [(3, .slice a43 (r37.1).length c44), (4, .int .i64 r37.2)] (by kernel_rfl) ?_
    refine OW.nil rfl ?_
    refine QW.next ?_
    refine CW.seq ?_
    refine CW.region ?_
    refine OW.pure 1 [(24, .slice a2 (p0).length c3)] (by kernel_rfl) ?_
    obtain ⟨r61, hr62, hF⟩ := bind_some' hF
    refine OW.fn rfl rfl rfl rfl (by kernel_rfl) (tappetlaw07_copied_ok _ (.slice a2 (p0).length c3) p0 r61 hr62 (hst.part [] rfl) (h0.give hst [])) ?_
    rintro e w63 ⟨v65, rfl, hst64⟩
    refine ⟨_, rfl, ?_⟩
    have hst := hst.join (idx := []) (rest := [0, 1]) rfl hst64
    obtain ⟨l66, a67, c68, rfl⟩ := hst.len 0 rfl
    obtain ⟨r69, hr70, hF⟩ := bind_some' hF
    refine OW.fn rfl rfl rfl rfl (by kernel_rfl) (flow_Loops_ok _ (.slice a67 (r61).length c68) r61 r69 hr70 (hst.part [] rfl) (hst.rd 0 rfl (fun _ => rfl) [] rfl (hst.len 0 rfl).1) (hT0.give hst [])) ?_
    rintro e w71 ⟨v73, rfl, hst72⟩
    refine ⟨_, rfl, ?_⟩
    have hst := hst.join (idx := []) (rest := [0, 1, 2]) rfl hst72
    obtain ⟨l74, a75, c76, rfl⟩ := hst.len 0 rfl
    refine OW.pure 5 [(5, .slice a75 (r69.1).length c76)] (by kernel_rfl) ?_
    refine OW.nil rfl ?_
    refine QW.next ?_
    refine CW.seq ?_
    refine CW.region ?_
    refine OW.pure 1 [(30, .slice a2 (p0).length c3)] (by kernel_rfl) ?_
    obtain ⟨r85, hr86, hF⟩ := bind_some' hF
    refine OW.fn rfl rfl rfl rfl (by kernel_rfl) (tappetref07_Loops_ok _ fu (.slice a2 (p0).length c3) p0 r85 hr86 (hst.part [] rfl) (h0.give hst [])) ?_
    rintro e w87 ⟨v89, rfl, hst88⟩
    refine ⟨_, rfl, ?_⟩
    have hst := hst.join (idx := []) (rest := [0, 1, 2, 3]) rfl hst88
    obtain ⟨l90, a91, c92, rfl⟩ := hst.len 0 rfl
    refine OW.pure 5 [(7, .slice a91 (r85.1).length c92), (8, .int .i64 r85.2)] (by kernel_rfl) ?_
    refine OW.nil rfl ?_
    refine QW.next ?_
    refine CW.seq ?_
    refine CW.region ?_
    refine OW.pure 1 [(35, .slice a2 (p0).length c3)] (by kernel_rfl) ?_
    obtain ⟨r105, hr106, hF⟩ := bind_some' hF
    refine OW.fn rfl rfl rfl rfl (by kernel_rfl) (tappetlaw07_copied_ok _ (.slice a2 (p0).length c3) p0 r105 hr106 (hst.part [] rfl) (h0.give hst [])) ?_
    rintro e w107 ⟨v109, rfl, hst108⟩
    refine ⟨_, rfl, ?_⟩
    have hst := hst.join (idx := []) (rest := [0, 1, 2, 3, 4]) rfl hst108
    obtain ⟨l110, a111, c112, rfl⟩ := hst.len 0 rfl
    obtain ⟨r113, hr114, hF⟩ := bind_some' hF
    refine OW.fn rfl rfl rfl rfl (by kernel_rfl) (flow_Cost_ok _ (.slice a111 (r105).length c112) r105 r113 hr114 (hst.part [] rfl) (hst.rd 0 rfl (fun _ => rfl) [] rfl (hst.len 0 rfl).1) (hT0.give hst [])) ?_
    rintro e w115 ⟨rfl, hst116⟩
    refine ⟨_, rfl, ?_⟩
    have hst := hst.join (idx := []) (rest := [0, 1, 2, 3, 4, 5]) rfl hst116
    refine OW.pure 5 [(9, .int .i64 r113.1), (10, .int .i64 r113.2)] (by kernel_rfl) ?_
    refine OW.nil rfl ?_
    refine QW.next ?_
    refine CW.seq ?_
    refine CW.region ?_
    refine OW.pure 1 [(41, .slice a2 (p0).length c3)] (by kernel_rfl) ?_
    obtain ⟨r121, hr122, hF⟩ := bind_some' hF
    refine OW.fn rfl rfl rfl rfl (by kernel_rfl) (tappetref07_Cost_ok _ fu (.slice a2 (p0).length c3) p0 r121 hr122 (hst.part [] rfl) (h0.give hst [])) ?_
    rintro e w123 ⟨rfl, hst124⟩
    refine ⟨_, rfl, ?_⟩
    have hst := hst.join (idx := []) (rest := [0, 1, 2, 3, 4, 5]) rfl hst124
    refine OW.pure 5 [(11, .int .i64 r121.1), (12, .int .i64 r121.2)] (by kernel_rfl) ?_
    refine OW.nil rfl ?_
    refine QW.next ?_
    refine CW.seq ?_
    refine CW.seq ?_
    refine CW.cutK (fun a w1 => Rep 103 [(3, .slice a43 (r37.1).length c44), (5, .slice a75 (r69.1).length c76), (7, .slice a91 (r85.1).length c92), (71, .bool ((((((((r37.1).length) : Int) != (((r85.1).length) : Int)) || ((((r69.1).length) : Int) != (((r85.1).length) : Int))) || (r37.2 != r85.2)) || (r113.1 != r121.1)) || (r113.2 != r121.2)))] a ∧ St w (fp []) w1 [rowI (.slice a91 (r85.1).length c92) 40 enc_api_Loop 3 r85.1, rowI (.slice a75 (r69.1).length c76) 40 enc_api_Loop 3 r69.1, rowI (.slice a43 (r37.1).length c44) 40 enc_api_Loop 3 r37.1]) ?_ ?_
    · refine CW.region ?_
      refine OW.pure 6 [(50, .bool ((((r37.1).length) : Int) != (((r85.1).length) : Int)))] (by kernel_rfl) ?_
      refine OW.split 50 rfl (fun hc125 => ?_) (fun hc125 => ?_)
      · refine OW.pure 21 [(71, .bool true)] (by kernel_rfl) ?_
        refine OW.nil rfl ?_
        refine QW.say 71 (v := .bool ((((((((r37.1).length) : Int) != (((r85.1).length) : Int)) || ((((r69.1).length) : Int) != (((r85.1).length) : Int))) || (r37.2 != r85.2)) || (r113.1 != r121.1)) || (r113.2 != r121.2))) rfl (by first | (rw [hc125]; done) | (rw [hc125]; rfl) | simp [hc125]) ?_
        exact QW.meet (fun a ha => ⟨ha.agrees (by kernel_rfl), hst.keep [1, 2, 4] rfl⟩)
      · refine OW.pure 7 [(57, .bool ((((r69.1).length) : Int) != (((r85.1).length) : Int)))] (by kernel_rfl) ?_
        refine OW.split 57 rfl (fun hc126 => ?_) (fun hc126 => ?_)
        · refine OW.pure 14 [(71, .bool true)] (by kernel_rfl) ?_
          refine OW.nil rfl ?_
          refine QW.say 71 (v := .bool ((((((((r37.1).length) : Int) != (((r85.1).length) : Int)) || ((((r69.1).length) : Int) != (((r85.1).length) : Int))) || (r37.2 != r85.2)) || (r113.1 != r121.1)) || (r113.2 != r121.2))) rfl (by first | (rw [hc125, hc126]; done) | (rw [hc125, hc126]; rfl) | simp [hc125, hc126]) ?_
          exact QW.meet (fun a ha => ⟨ha.agrees (by kernel_rfl), hst.keep [1, 2, 4] rfl⟩)
        · refine OW.pure 5 [(62, .bool (r37.2 != r85.2))] (by kernel_rfl) ?_
          refine OW.split 62 rfl (fun hc127 => ?_) (fun hc127 => ?_)
          · refine OW.pure 9 [(71, .bool true)] (by kernel_rfl) ?_
            refine OW.nil rfl ?_
            refine QW.say 71 (v := .bool ((((((((r37.1).length) : Int) != (((r85.1).length) : Int)) || ((((r69.1).length) : Int) != (((r85.1).length) : Int))) || (r37.2 != r85.2)) || (r113.1 != r121.1)) || (r113.2 != r121.2))) rfl (by first | (rw [hc125, hc126, hc127]; done) | (rw [hc125, hc126, hc127]; rfl) | simp [hc125, hc126, hc127]) ?_
            exact QW.meet (fun a ha => ⟨ha.agrees (by kernel_rfl), hst.keep [1, 2, 4] rfl⟩)
          · refine OW.pure 5 [(67, .bool (r113.1 != r121.1))] (by kernel_rfl) ?_
            refine OW.split 67 rfl (fun hc128 => ?_) (fun hc128 => ?_)
            · refine OW.pure 4 [(71, .bool true)] (by kernel_rfl) ?_
              refine OW.nil rfl ?_
              refine QW.say 71 (v := .bool ((((((((r37.1).length) : Int) != (((r85.1).length) : Int)) || ((((r69.1).length) : Int) != (((r85.1).length) : Int))) || (r37.2 != r85.2)) || (r113.1 != r121.1)) || (r113.2 != r121.2))) rfl (by first | (rw [hc125, hc126, hc127, hc128]; done) | (rw [hc125, hc126, hc127, hc128]; rfl) | simp [hc125, hc126, hc127, hc128]) ?_
              exact QW.meet (fun a ha => ⟨ha.agrees (by kernel_rfl), hst.keep [1, 2, 4] rfl⟩)
            · refine OW.pure 4 [(71, .bool (r113.2 != r121.2))] (by kernel_rfl) ?_
              refine OW.nil rfl ?_
              refine QW.say 71 (v := .bool ((((((((r37.1).length) : Int) != (((r85.1).length) : Int)) || ((((r69.1).length) : Int) != (((r85.1).length) : Int))) || (r37.2 != r85.2)) || (r113.1 != r121.1)) || (r113.2 != r121.2))) rfl (by first | (rw [hc125, hc126, hc127, hc128]; done) | (rw [hc125, hc126, hc127, hc128]; rfl) | simp [hc125, hc126, hc127, hc128]) ?_
              exact QW.meet (fun a ha => ⟨ha.agrees (by kernel_rfl), hst.keep [1, 2, 4] rfl⟩)
    · rintro a w1 ⟨ha, hst⟩
      refine CW.go ?_ ha
      rcases Bool.eq_false_or_eq_true (((((((((r37.1).length) : Int) != (((r85.1).length) : Int)) || ((((r69.1).length) : Int) != (((r85.1).length) : Int))) || (r37.2 != r85.2)) || (r113.1 != r121.1)) || (r113.2 != r121.2))) with hc129 | hc129
      · have hF := ite_t hF hc129
        refine CW.cond_t rfl hc129 ?_
        refine CW.seq ?_
        refine CW.region ?_
        refine OW.pure 1 [(2, .bool false)] (by kernel_rfl) ?_
        refine OW.nil rfl ?_
        refine QW.next ?_
        refine CW.ret ?_
        refine QW.then_ret ?_
        obtain rfl := Option.some.inj hF
        refine QW.ret1 rfl rfl ?_
        exact ⟨rfl, hst.keep [] rfl⟩
      · have hF := ite_f hF hc129
        refine CW.cond_f rfl hc129 ?_
        refine CW.skip ?_
        refine QW.next ?_
        refine CW.seq ?_
        refine CW.seq ?_
        refine CW.region ?_
        refine OW.pure 1 [(13, .int .i64 0)] (by kernel_rfl) ?_
        refine OW.nil rfl ?_
        refine QW.next ?_
        obtain ⟨o205, ho206, hF⟩ := bind_some' hF
        refine CW.cutK (fun a w1 => Rep 103 [(5, .slice a75 (r69.1).length c76), (7, .slice a91 (r85.1).length c92)] a ∧ St w (fp []) w1 [rowI (.slice a75 (r69.1).length c76) 40 enc_api_Loop 3 r69.1, rowI (.slice a91 (r85.1).length c92) 40 enc_api_Loop 3 r85.1]) ?_ ?_
        · refine CW.block ?_
          refine CW.loop (fun n a w1 => ∃ (s256 : (List api_Loop) × Int) (v257 : Value), Rep 103 [(3, v257), (5, .slice a75 (r69.1).length c76), (7, .slice a91 (r85.1).length c92), (13, .int .i64 s256.2)] a ∧ St w (fp []) w1 [rowI v257 40 enc_api_Loop 3 s256.1, rowI (.slice a75 (r69.1).length c76) 40 enc_api_Loop 3 r69.1, rowI (.slice a91 (r85.1).length c92) 40 enc_api_Loop 3 r85.1] ∧ loop tappetlaw07_FlowLoops_l1 n s256 = some o205) fu (fun a ha => ⟨(r37.1, 0), (.slice a43 (r37.1).length c44), ha.agrees (by kernel_rfl), hst.keep [2, 1, 0] rfl, ho206⟩) ?_
          rintro n254 a w1 ⟨s256, v257, ha, hst, hl255⟩
          rcases n254 with _ | n254
          · exact (loop_zero hl255).elim
          refine CW.go ?_ ha
          obtain ⟨l258, a259, c260, rfl⟩ := hst.len 0 rfl
          refine CW.seq ?_
          refine CW.seq ?_
          refine CW.region ?_
          refine OW.pure 4 [(75, .bool (decide (s256.2 < (((s256.1).length) : Int))))] (by kernel_rfl) ?_
          refine OW.nil rfl ?_
          refine QW.next ?_
          rcases Bool.eq_false_or_eq_true (decide (s256.2 < (((s256.1).length) : Int))) with hc261 | hc261
          · have hl255 := ite_t hl255 hc261
            refine CW.cond_t rfl hc261 ?_
            refine CW.skip ?_
            refine QW.next ?_
            refine CW.seq ?_
            refine CW.block ?_
            refine CW.region ?_
            refine OW.pure 4 [(78, .slice a259 (s256.1).length c260), (79, .int .i64 s256.2), (80, .slice a259 (s256.1).length c260), (81, .int .i64 s256.2)] (by kernel_rfl) ?_
            obtain ⟨x271, hx272, hl255⟩ := bind_some' hl255
            obtain ⟨g274, c275, hv273⟩ := hst.rowv 0 rfl hx272
            refine OW.idx 40 3 rfl rfl rfl rfl hv273 rfl (idx_some hx272).1 (idx_some hx272).2.1 (by kernel_rfl) (by kernel_rfl) ?_
            refine OW.pure 1 [(83, .pointer (some ⟨g274, 0 + Int.toNat s256.2 * 3 + 2, none⟩))] (by kernel_rfl) ?_
            refine OW.ld rfl rfl rfl rfl (by kernel_rfl) (hst.rowc 0 rfl (fun _ => rfl) hx272 hv273 2 _ rfl) ?_
            refine OW.pure 1 [(85, .int .i64 (w64 (x271.Bound - 1000)))] (by kernel_rfl) ?_
            obtain ⟨g277, c278, hv276⟩ := hst.rowv 0 rfl hx272
            refine OW.idx 40 3 rfl rfl rfl rfl hv276 rfl (idx_some hx272).1 (idx_some hx272).2.1 (by kernel_rfl) (by kernel_rfl) ?_
            refine OW.pure 1 [(87, .pointer (some ⟨g277, 0 + Int.toNat s256.2 * 3 + 2, none⟩))] (by kernel_rfl) ?_
            refine OW.stR hst 0 rfl hv276 (fun _ => rfl) rfl rfl hx272 2 rfl rfl rfl (by kernel_rfl) rfl rfl (api_Loop.mk x271.Head x271.At (w64 (x271.Bound - 1000))) rfl ?_
            intro w279 hst
            refine OW.nil rfl ?_
            refine QW.block_normal ?_
            refine QW.next ?_
            refine CW.region ?_
            refine OW.pure 3 [(13, .int .i64 (w64 (s256.2 + 1)))] (by kernel_rfl) ?_
            refine OW.nil rfl ?_
            exact QW.meet (fun a ha => ⟨n254, Nat.lt_succ_self _, ((s256.1.set (Int.toNat s256.2) (api_Loop.mk x271.Head x271.At (w64 (x271.Bound - 1000)))), w64 (s256.2 + 1)), (.slice a259 (s256.1).length c260), ha.agrees (by kernel_rfl), hst.keep [0, 1, 2] rfl, hl255⟩)
          · have hl255 := ite_f hl255 hc261
            refine CW.cond_f rfl hc261 ?_
            refine CW.exit ?_
            refine QW.then_exit ?_
            refine QW.then_exit ?_
            refine QW.block_here ?_
            obtain rfl := Option.some.inj hl255
            exact QW.meet (fun a ha => ⟨ha.agrees (by kernel_rfl), hst.keep [1, 2] rfl⟩)
        · rintro a w1 ⟨ha, hst⟩
          refine CW.go ?_ ha
          refine CW.seq ?_
          refine CW.seq ?_
          refine CW.region ?_
          refine OW.pure 1 [(14, .int .i64 0)] (by kernel_rfl) ?_
          refine OW.nil rfl ?_
          refine QW.next ?_
          obtain ⟨o366, ho367, hF⟩ := bind_some' hF
          refine CW.cutK (fun a w1 => ∃ (t368 : Unit), o366 = .inl t368 ∧ Rep 103 [] a ∧ St w (fp []) w1 []) ?_ ?_
          · refine CW.block ?_
            refine CW.loop (fun n a w1 => ∃ (i425 : Nat) (s424 : Unit), i425 + n = (r85.1).length ∧ Rep 103 [(5, .slice a75 (r69.1).length c76), (7, .slice a91 (r85.1).length c92), (14, .int .i64 (i425 : Int))] a ∧ St w (fp []) w1 [rowI (.slice a75 (r69.1).length c76) 40 enc_api_Loop 3 r69.1, rowI (.slice a91 (r85.1).length c92) 40 enc_api_Loop 3 r85.1] ∧ forN (tappetlaw07_FlowLoops_l2 r69 r85) (fun (s424 : Unit) => (.inl ())) n i425 s424 = some o366) ((r85.1).length) (fun a ha => ⟨0, (), Nat.zero_add _, ha.agrees (by kernel_rfl), hst.keep [0, 1] rfl, ho367⟩) ?_
            rintro n422 a w1 ⟨i425, s424, hi426, ha, hst, hl423⟩
            refine CW.go ?_ ha
            refine CW.seq ?_
            refine CW.seq ?_
            refine CW.region ?_
            refine OW.pure 4 [(91, .bool (decide ((i425 : Int) < (((r85.1).length) : Int))))] (by kernel_rfl) ?_
            refine OW.nil rfl ?_
            refine QW.next ?_
            rcases Bool.eq_false_or_eq_true (decide ((i425 : Int) < (((r85.1).length) : Int))) with hc427 | hc427
            · rcases n422 with _ | n422
              · exact (cnt0 hi426 hc427).elim
              refine CW.cond_t rfl hc427 ?_
              refine CW.skip ?_
              refine QW.next ?_
              refine CW.seq ?_
              refine CW.block ?_
              refine CW.seq ?_
              refine CW.still (by kernel_rfl) (by kernel_rfl) ?_
              intro w440 hch441
              have hst := hst.same hch441
              refine OS.pure 2 [(94, .slice a75 (r69.1).length c76), (95, .int .i64 (i425 : Int))] rfl (by kernel_rfl) ?_
              obtain ⟨x442, hx443, hl423⟩ := bind_some' hl423
              obtain ⟨g445, c446, hv444⟩ := hst.rowv 0 rfl hx443
              refine OS.idx 40 3 rfl rfl rfl rfl rfl hv444 rfl (idx_some hx443).1 (idx_some hx443).2.1 (by kernel_rfl) (by kernel_rfl) ?_
              refine OS.ldN (cs := enc_api_Loop x442) rfl rfl rfl rfl rfl (by kernel_rfl) (by kernel_rfl) (hst.rowc 0 rfl (fun _ => rfl) hx443 hv444) ?_
              refine OS.pure 2 [(98, .slice a91 (r85.1).length c92), (99, .int .i64 (i425 : Int))] rfl (by kernel_rfl) ?_
              obtain ⟨x447, hx448, hl423⟩ := bind_some' hl423
              obtain ⟨g450, c451, hv449⟩ := hst.rowv 1 rfl hx448
              refine OS.idx 40 3 rfl rfl rfl rfl rfl hv449 rfl (idx_some hx448).1 (idx_some hx448).2.1 (by kernel_rfl) (by kernel_rfl) ?_
              refine OS.ldN (cs := enc_api_Loop x447) rfl rfl rfl rfl rfl (by kernel_rfl) (by kernel_rfl) (hst.rowc 1 rfl (fun _ => rfl) hx448 hv449) ?_
              refine OS.op (v := .bool (!((x442.Head == x447.Head) && ((x442.At == x447.At) && ((x442.Bound == x447.Bound) && true))))) rfl rfl rfl rfl rfl (fun a ha => sneq_run rfl rfl rfl (by kernel_rfl) (by kernel_rfl) a _ ha) ?_
              refine OS.fin rfl ?_
              refine QW.next ?_
              rcases Bool.eq_false_or_eq_true ((!((x442.Head == x447.Head) && ((x442.At == x447.At) && ((x442.Bound == x447.Bound) && true))))) with hc452 | hc452
              · have hl423 := ite_t hl423 hc452
                refine CW.cond_t rfl hc452 ?_
                refine CW.seq ?_
                refine CW.region ?_
                refine OW.pure 1 [(2, .bool false)] (by kernel_rfl) ?_
                refine OW.nil rfl ?_
                refine QW.next ?_
                refine CW.ret ?_
                refine QW.block_ret ?_
                refine QW.then_ret ?_
                refine QW.then_ret ?_
                refine QW.block_ret ?_
                refine QW.then_ret ?_
                obtain rfl := Option.some.inj hl423
                obtain rfl := Option.some.inj hF
                refine QW.ret1 rfl rfl ?_
                exact ⟨rfl, hst.keep [] rfl⟩
              · have hl423 := ite_f hl423 hc452
                refine CW.cond_f rfl hc452 ?_
                refine CW.skip ?_
                refine QW.block_normal ?_
                refine QW.next ?_
                refine CW.region ?_
                refine OW.pure 3 [(14, .int .i64 (w64 ((i425 : Int) + 1)))] (by kernel_rfl) ?_
                refine OW.nil rfl ?_
                refine QW.say 14 rfl (congrArg (Value.int .i64) (w64_cnt hc427 l90)) ?_
                exact QW.meet (fun a ha => ⟨n422, Nat.lt_succ_self _, i425 + 1, (), cnt_next hi426, ha.agrees (by kernel_rfl), hst.keep [0, 1] rfl, hl423⟩)
            · rcases n422 with _ | n422
              · refine CW.cond_f rfl hc427 ?_
                refine CW.exit ?_
                refine QW.then_exit ?_
                refine QW.then_exit ?_
                refine QW.block_here ?_
                obtain rfl := Option.some.inj hl423
                exact QW.meet (fun a ha => ⟨(), rfl, ha.agrees (by kernel_rfl), hst.keep [] rfl⟩)
              · exact (cnt1 hi426 hc427).elim
          · rintro a w1 ⟨t368, rfl, ha, hst⟩
            refine CW.go ?_ ha
            refine CW.seq ?_
            refine CW.region ?_
            refine OW.pure 1 [(2, .bool true)] (by kernel_rfl) ?_
            refine OW.nil rfl ?_
            refine QW.next ?_
            refine CW.ret ?_
            obtain rfl := Option.some.inj hF
            refine QW.ret1 rfl rfl ?_
            exact ⟨rfl, hst.keep [] rfl⟩

set_option maxRecDepth 10000 in
theorem flow_check_ok (w : World) (v0 : Value) (p0 : List api_Inst) (p1 : Int) (r : Int) (hF : flow_check p0 p1 = some r)
    (hst : St w (fp []) w []) (h0 : Rd w (fp []) v0 enc_api_Inst 5 p0) (hT0 : Rd w (fp []) (.slice (some ⟨0, 0, none⟩) 23 23) enc_ops_form 2 tab_g0) :
    Calls Tryd.prog 32 [v0, .int .i64 p1].toArray w (fun e w' => e = .returned (.int .i64 r) ∧ St w (fp []) w' []) := by
  refine CW.start (N := 25) Tryd.func32 rfl rfl rfl ?_
  obtain ⟨l1, a2, c3, rfl⟩ := h0.len
  refine CW.seq ?_
  refine CW.region ?_
  refine OW.pure 1 [] (by kernel_rfl) ?_
  refine OW.nil rfl ?_
  refine QW.next ?_
  refine CW.seq ?_
  refine CW.region ?_
  refine OW.pure 1 [(8, .slice a2 (p0).length c3)] (by kernel_rfl) ?_
  obtain ⟨r8, hr9, hF⟩ := bind_some' hF
  refine OW.fn rfl rfl rfl rfl (by kernel_rfl) (flow_Check_ok _ (.slice a2 (p0).length c3) p0 r8 hr9 (hst.part [] rfl) (h0.give hst []) (hT0.give hst [])) ?_
  rintro e w10 ⟨rfl, hst11⟩
  refine ⟨_, rfl, ?_⟩
  have hst := hst.join (idx := []) (rest := []) rfl hst11
  refine OW.pure 5 [(6, .int .i64 r8.2)] (by kernel_rfl) ?_
  refine OW.nil rfl ?_
  refine QW.next ?_
  refine CW.seq ?_
  refine CW.seq ?_
  refine CW.cutK (fun a w1 => Rep 25 [(6, .int .i64 r8.2), (23, .bool ((r8.2 == 0) && (decide (p1 < 0) || decide (p1 ≥ (((p0).length) : Int)))))] a ∧ St w (fp []) w1 []) ?_ ?_
  · refine CW.region ?_
    refine OW.pure 3 [(14, .bool (r8.2 == 0))] (by kernel_rfl) ?_
    refine OW.split 14 rfl (fun hc12 => ?_) (fun hc12 => ?_)
    · refine OW.pure 3 [(17, .bool (decide (p1 < 0)))] (by kernel_rfl) ?_
      refine OW.split 17 rfl (fun hc13 => ?_) (fun hc13 => ?_)
      · refine OW.pure 6 [(23, .bool true)] (by kernel_rfl) ?_
        refine OW.nil rfl ?_
        refine QW.say 23 (v := .bool ((r8.2 == 0) && (decide (p1 < 0) || decide (p1 ≥ (((p0).length) : Int))))) rfl (by first | (rw [hc12, hc13]; done) | (rw [hc12, hc13]; rfl) | simp [hc12, hc13]) ?_
        exact QW.meet (fun a ha => ⟨ha.agrees (by kernel_rfl), hst.keep [] rfl⟩)
      · refine OW.pure 6 [(23, .bool (decide (p1 ≥ (((p0).length) : Int))))] (by kernel_rfl) ?_
        refine OW.nil rfl ?_
        refine QW.say 23 (v := .bool ((r8.2 == 0) && (decide (p1 < 0) || decide (p1 ≥ (((p0).length) : Int))))) rfl (by first | (rw [hc12, hc13]; done) | (rw [hc12, hc13]; rfl) | simp [hc12, hc13]) ?_
        exact QW.meet (fun a ha => ⟨ha.agrees (by kernel_rfl), hst.keep [] rfl⟩)
    · refine OW.pure 9 [(23, .bool false)] (by kernel_rfl) ?_
      refine OW.nil rfl ?_
      refine QW.say 23 (v := .bool ((r8.2 == 0) && (decide (p1 < 0) || decide (p1 ≥ (((p0).length) : Int))))) rfl (by first | (rw [hc12]; done) | (rw [hc12]; rfl) | simp [hc12]) ?_
      exact QW.meet (fun a ha => ⟨ha.agrees (by kernel_rfl), hst.keep [] rfl⟩)
  · rintro a w1 ⟨ha, hst⟩
    refine CW.go ?_ ha
    rcases Bool.eq_false_or_eq_true (((r8.2 == 0) && (decide (p1 < 0) || decide (p1 ≥ (((p0).length) : Int))))) with hc14 | hc14
    · have hF := ite_t hF hc14
      refine CW.cond_t rfl hc14 ?_
      refine CW.seq ?_
      refine CW.region ?_
      refine OW.pure 1 [(4, .int .i64 2)] (by kernel_rfl) ?_
      refine OW.nil rfl ?_
      refine QW.next ?_
      refine CW.ret ?_
      refine QW.then_ret ?_
      obtain rfl := Option.some.inj hF
      refine QW.ret1 rfl rfl ?_
      exact ⟨rfl, hst.keep [] rfl⟩
    · have hF := ite_f hF hc14
      refine CW.cond_f rfl hc14 ?_
      refine CW.skip ?_
      refine QW.next ?_
      refine CW.seq ?_
      refine CW.region ?_
      refine OW.pure 2 [(4, .int .i64 r8.2)] (by kernel_rfl) ?_
      refine OW.nil rfl ?_
      refine QW.next ?_
      refine CW.ret ?_
      obtain rfl := Option.some.inj hF
      refine QW.ret1 rfl rfl ?_
      exact ⟨rfl, hst.keep [] rfl⟩

set_option maxRecDepth 10000 in
theorem flow_Around_ok (w : World) (v0 : Value) (p0 : List api_Inst) (p1 : Int) (r : (List Int) × Int) (hF : flow_Around p0 p1 = some r)
    (hst : St w (fp []) w []) (h0 : Rd w (fp []) v0 enc_api_Inst 5 p0) (hT0 : Rd w (fp []) (.slice (some ⟨0, 0, none⟩) 23 23) enc_ops_form 2 tab_g0) :
    Calls Tryd.prog 16 [v0, .int .i64 p1].toArray w (fun e w' => ∃ (x0 : Value), e = .returned (.tuple #[x0, .int .i64 r.2]) ∧ St w (fp []) w' [rowI x0 3 (encInt .i64) 1 r.1]) := by
  refine CW.start (N := 33) Tryd.func16 rfl rfl rfl ?_
  obtain ⟨l1, a2, c3, rfl⟩ := h0.len
  refine CW.seq ?_
  refine CW.region ?_
  refine OW.pure 2 [] (by kernel_rfl) ?_
  refine OW.nil rfl ?_
  refine QW.next ?_
  refine CW.seq ?_
  refine CW.seq ?_
  refine CW.region ?_
  refine OW.pure 2 [(10, .slice a2 (p0).length c3), (11, .int .i64 p1)] (by kernel_rfl) ?_
  obtain ⟨r8, hr9, hF⟩ := bind_some' hF
  refine OW.fn rfl rfl rfl rfl (by kernel_rfl) (flow_check_ok _ (.slice a2 (p0).length c3) p0 p1 r8 hr9 (hst.part [] rfl) (h0.give hst []) (hT0.give hst [])) ?_
  rintro e w10 ⟨rfl, hst11⟩
  refine ⟨_, rfl, ?_⟩
  have hst := hst.join (idx := []) (rest := []) rfl hst11
  refine OW.pure 1 [(6, .int .i64 r8)] (by kernel_rfl) ?_
  refine OW.nil rfl ?_
  refine QW.next ?_
  refine CW.seq ?_
  refine CW.region ?_
  refine OW.pure 2 [(14, .bool (r8 != 0))] (by kernel_rfl) ?_
  refine OW.nil rfl ?_
  refine QW.next ?_
  rcases Bool.eq_false_or_eq_true ((r8 != 0)) with hc12 | hc12
  · have hF := ite_t hF hc12
    refine CW.cond_t rfl hc12 ?_
    refine CW.seq ?_
    refine CW.region ?_
    refine OW.pure 3 [(4, .slice none 0 0), (5, .int .i64 r8)] (by kernel_rfl) ?_
    refine OW.nil rfl ?_
    refine QW.next ?_
    refine CW.ret ?_
    refine QW.then_ret ?_
    have hst := hst.nilRow Int 3 (encInt .i64) 1
    obtain rfl := Option.some.inj hF
    refine QW.ret2 rfl rfl rfl ?_
    exact ⟨(.slice none 0 0), rfl, hst.keep [0] rfl⟩
  · have hF := ite_f hF hc12
    refine CW.cond_f rfl hc12 ?_
    refine CW.skip ?_
    refine QW.next ?_
    refine CW.seq ?_
    refine CW.region ?_
    refine OW.pure 1 [(7, .slice none 0 0)] (by kernel_rfl) ?_
    refine OW.nil rfl ?_
    refine QW.next ?_
    refine CW.seq ?_
    refine CW.seq ?_
    refine CW.region ?_
    refine OW.pure 1 [(16, .slice a2 (p0).length c3)] (by kernel_rfl) ?_
    obtain ⟨r21, hr22, hF⟩ := bind_some' hF
    refine OW.fn rfl rfl rfl rfl (by kernel_rfl) (flow_loops_ok _ (.slice a2 (p0).length c3) p0 r21 hr22 (hst.part [] rfl) (h0.give hst [])) ?_
    rintro e w23 ⟨v25, rfl, hst24⟩
    refine ⟨_, rfl, ?_⟩
    have hst := hst.join (idx := []) (rest := []) rfl hst24
    obtain ⟨l26, a27, c28, rfl⟩ := hst.len 0 rfl
    refine OW.pure 2 [(18, .int .i64 (((r21).length) : Int)), (19, .int .i64 0)] (by kernel_rfl) ?_
    refine OW.nil rfl ?_
    refine QW.next ?_
    obtain ⟨o182, ho183, hF⟩ := bind_some' hF
    refine CW.cutK (fun a w1 => ∃ (v181 : Value), Rep 33 [(7, v181)] a ∧ St w (fp []) w1 [rowI v181 3 (encInt .i64) 1 o182]) ?_ ?_
    · refine CW.block ?_
      have hst := hst.nilRow Int 3 (encInt .i64) 1
      refine CW.loop (fun n a w1 => ∃ (i286 : Nat) (s284 : (List Int)) (v285 : Value), i286 + n = (r21).length ∧ Rep 33 [(1, .int .i64 p1), (7, v285), (17, .slice a27 (r21).length c28), (18, .int .i64 (((r21).length) : Int)), (19, .int .i64 (i286 : Int))] a ∧ St w (fp []) w1 [rowI v285 3 (encInt .i64) 1 s284, rowI (.slice a27 (r21).length c28) 40 enc_api_Loop 3 r21] ∧ forN (flow_Around_l1 p1 r21) (fun (s284 : (List Int)) => s284) n i286 s284 = some o182) ((r21).length) (fun a ha => ⟨0, ([] : List Int), (.slice none 0 0), Nat.zero_add _, ha.agrees (by kernel_rfl), hst.keep [1, 0] rfl, ho183⟩) ?_
      rintro n282 a w1 ⟨i286, s284, v285, hi287, ha, hst, hl283⟩
      refine CW.go ?_ ha
      obtain ⟨l288, a289, c290, rfl⟩ := hst.len 0 rfl
      refine CW.seq ?_
      refine CW.region ?_
      refine OW.pure 1 [(20, .bool (decide ((i286 : Int) < (((r21).length) : Int))))] (by kernel_rfl) ?_
      refine OW.nil rfl ?_
      refine QW.next ?_
      refine CW.seq ?_
      rcases Bool.eq_false_or_eq_true (decide ((i286 : Int) < (((r21).length) : Int))) with hc291 | hc291
      · rcases n282 with _ | n282
        · exact (cnt0 hi287 hc291).elim
        refine CW.cond_t rfl hc291 ?_
        refine CW.skip ?_
        refine QW.next ?_
        refine CW.seq ?_
        refine CW.block ?_
        refine CW.seq ?_
        refine CW.region ?_
        obtain ⟨x300, hx301, hl283⟩ := bind_some' hl283
        obtain ⟨g303, c304, hv302⟩ := hst.rowv 1 rfl hx301
        refine OW.idx 40 3 rfl rfl rfl rfl hv302 rfl (idx_some hx301).1 (idx_some hx301).2.1 (by kernel_rfl) (by kernel_rfl) ?_
        refine OW.ldN (cs := enc_api_Loop x300) rfl rfl rfl rfl (by kernel_rfl) (by kernel_rfl) (hst.rowc 1 rfl (fun _ => rfl) hx301 hv302) ?_
        refine OW.alloc hst rfl rfl rfl [.int .i64 0, .int .i64 0, .int .i64 0] (by kernel_rfl) ?_
        intro b305 w306 hst
        refine OW.stB hst 2 rfl rfl rfl rfl rfl (by kernel_rfl) rfl rfl [.int .i64 x300.Head, .int .i64 x300.At, .int .i64 x300.Bound] rfl ?_
        intro w307 hst
        refine OW.nil rfl ?_
        refine QW.next ?_
        refine CW.seq ?_
        refine CW.region ?_
        refine OW.ldN (cs := [.int .i64 x300.Head, .int .i64 x300.At, .int .i64 x300.Bound]) rfl rfl rfl rfl (by kernel_rfl) (by kernel_rfl) (hst.blkN 2 rfl 0 3) ?_
        refine OW.pure 1 [(24, .int .i64 p1)] (by kernel_rfl) ?_
        obtain ⟨r312, hr313, hl283⟩ := bind_some' hl283
        refine OW.fn rfl rfl rfl rfl (by kernel_rfl) (flow_in_ok _ x300 p1 r312 hr313 (hst.part [] rfl)) ?_
        rintro e w314 ⟨rfl, hst315⟩
        refine ⟨_, rfl, ?_⟩
        have hst := hst.join (idx := []) (rest := [0, 1, 2]) rfl hst315
        refine OW.nil rfl ?_
        refine QW.next ?_
        rcases Bool.eq_false_or_eq_true (r312) with hc316 | hc316
        · have hl283 := ite_t hl283 hc316
          refine CW.cond_t rfl hc316 ?_
          refine CW.region ?_
          refine OW.pure 2 [(26, .slice a289 (s284).length c290), (27, .pointer (some ⟨b305, 1, none⟩))] (by kernel_rfl) ?_
          refine OW.ld rfl rfl rfl rfl (by kernel_rfl) (hst.blk 2 rfl rfl) ?_
          refine OW.row (α := Int) (e := 3) (enc := encInt .i64) (sz := 1) hst rfl rfl rfl [x300.At] rfl (fun _ => rfl) rfl rfl (fun _ => by kernel_rfl) ?_
          intro g326 w327 hst
          obtain ⟨u328, hr329, hl283⟩ := bind_some' hl283
          refine OW.app hst 0 rfl (fun _ => rfl) (fun _ => rfl) rfl rfl rfl rfl rfl rfl (by kernel_rfl) el3 (hst.rd 3 rfl (fun _ => rfl) [] rfl (hst.len 3 rfl).1) (room_le hr329) ?_
          intro v330 w331 hst
          obtain ⟨l332, a333, c334, rfl⟩ := hst.len 0 rfl
          refine OW.pure 1 [(7, .slice a333 ((s284 ++ [x300.At])).length c334)] (by kernel_rfl) ?_
          refine OW.nil rfl ?_
          refine QW.block_normal ?_
          refine QW.next ?_
          refine CW.region ?_
          refine OW.pure 2 [(19, .int .i64 (w64 ((i286 : Int) + 1)))] (by kernel_rfl) ?_
          refine OW.nil rfl ?_
          refine QW.say 19 rfl (congrArg (Value.int .i64) (w64_cnt hc291 l26)) ?_
          exact QW.meet (fun a ha => ⟨n282, Nat.lt_succ_self _, i286 + 1, (s284 ++ [x300.At]), (.slice a333 ((s284 ++ [x300.At])).length c334), cnt_next hi287, ha.agrees (by kernel_rfl), hst.keep [0, 1] rfl, hl283⟩)
        · have hl283 := ite_f hl283 hc316
          refine CW.cond_f rfl hc316 ?_
          refine CW.skip ?_
          refine QW.block_normal ?_
          refine QW.next ?_
          refine CW.region ?_
          refine OW.pure 2 [(19, .int .i64 (w64 ((i286 : Int) + 1)))] (by kernel_rfl) ?_
          refine OW.nil rfl ?_
          refine QW.say 19 rfl (congrArg (Value.int .i64) (w64_cnt hc291 l26)) ?_
          exact QW.meet (fun a ha => ⟨n282, Nat.lt_succ_self _, i286 + 1, s284, (.slice a289 (s284).length c290), cnt_next hi287, ha.agrees (by kernel_rfl), hst.keep [0, 1] rfl, hl283⟩)
      · rcases n282 with _ | n282
        · refine CW.cond_f rfl hc291 ?_
          refine CW.exit ?_
          refine QW.then_exit ?_
          refine QW.then_exit ?_
          refine QW.block_here ?_
          obtain rfl := Option.some.inj hl283
          exact QW.meet (fun a ha => ⟨(.slice a289 (s284).length c290), ha.agrees (by kernel_rfl), hst.keep [0] rfl⟩)
        · exact (cnt1 hi287 hc291).elim
    · rintro a w1 ⟨v181, ha, hst⟩
      refine CW.go ?_ ha
      obtain ⟨l338, a339, c340, rfl⟩ := hst.len 0 rfl
      refine CW.seq ?_
      refine CW.region ?_
      refine OW.pure 3 [(4, .slice a339 (o182).length c340), (5, .int .i64 0)] (by kernel_rfl) ?_
      refine OW.nil rfl ?_
      refine QW.next ?_
      refine CW.ret ?_
      obtain rfl := Option.some.inj hF
      refine QW.ret2 rfl rfl rfl ?_
      exact ⟨(.slice a339 (o182).length c340), rfl, hst.keep [0] rfl⟩

set_option maxRecDepth 10000 in
theorem tappetlaw07_FlowNested_ok (w : World) (fu : Nat) (v0 : Value) (p0 : List api_Inst) (r : Bool) (hF : tappetlaw07_FlowNested fu p0 = some r)
    (hst : St w (fp []) w []) (h0 : Rd w (fp []) v0 enc_api_Inst 5 p0) (hT0 : Rd w (fp []) (.slice (some ⟨0, 0, none⟩) 23 23) enc_ops_form 2 tab_g0) :
    Calls Tryd.prog 5 [v0].toArray w (fun e w' => e = .returned (.bool r) ∧ St w (fp []) w' []) := by
  refine CW.start (N := 169) Tryd.func5 rfl rfl rfl ?_
  obtain ⟨l1, a2, c3, rfl⟩ := h0.len
  refine CW.seq ?_
  refine CW.region ?_
  refine OW.pure 1 [] (by kernel_rfl) ?_
  refine OW.nil rfl ?_
  refine QW.next ?_
  refine CW.seq ?_
  refine CW.seq ?_
  refine CW.region ?_
  obtain ⟨r8, hr9, hF⟩ := bind_some' hF
  refine OW.fn rfl rfl rfl rfl (by kernel_rfl) (tappetlaw07_awake_ok _ r8 hr9 (hst.part [] rfl) (hT0.give hst [])) ?_
  rintro e w10 ⟨rfl, hst11⟩
  refine ⟨_, rfl, ?_⟩
  have hst := hst.join (idx := []) (rest := []) rfl hst11
  refine OW.pure 1 [(16, .bool (!r8))] (by kernel_rfl) ?_
  refine OW.nil rfl ?_
  refine QW.next ?_
  rcases Bool.eq_false_or_eq_true ((!r8)) with hc12 | hc12
  · have hF := ite_t hF hc12
    refine CW.cond_t rfl hc12 ?_
    refine CW.seq ?_
    refine CW.region ?_
    refine OW.pure 1 [(2, .bool false)] (by kernel_rfl) ?_
    refine OW.nil rfl ?_
    refine QW.next ?_
    refine CW.ret ?_
    refine QW.then_ret ?_
    obtain rfl := Option.some.inj hF
    refine QW.ret1 rfl rfl ?_
    exact ⟨rfl, hst.keep [] rfl⟩
  · have hF := ite_f hF hc12
    refine CW.cond_f rfl hc12 ?_
    refine CW.skip ?_
    refine QW.next ?_
    refine CW.seq ?_
    refine CW.region ?_
    refine OW.pure 1 [(18, .slice a2 (p0).length c3)] (by kernel_rfl) ?_
    obtain ⟨r29, hr30, hF⟩ := bind_some' hF
    refine OW.fn rfl rfl rfl rfl (by kernel_rfl) (tappetlaw07_copied_ok _ (.slice a2 (p0).length c3) p0 r29 hr30 (hst.part [] rfl) (h0.give hst [])) ?_
    rintro e w31 ⟨v33, rfl, hst32⟩
    refine ⟨_, rfl, ?_⟩
    have hst := hst.join (idx := []) (rest := []) rfl hst32
    obtain ⟨l34, a35, c36, rfl⟩ := hst.len 0 rfl
    obtain ⟨r37, hr38, hF⟩ := bind_some' hF
    refine OW.fn rfl rfl rfl rfl (by kernel_rfl) (flow_Loops_ok _ (.slice a35 (r29).length c36) r29 r37 hr38 (hst.part [] rfl) (hst.rd 0 rfl (fun _ => rfl) [] rfl (hst.len 0 rfl).1) (hT0.give hst [])) ?_
    rintro e w39 ⟨v41, rfl, hst40⟩
    refine ⟨_, rfl, ?_⟩
    have hst := hst.join (idx := []) (rest := [0]) rfl hst40
    obtain ⟨l42, a43, c44, rfl⟩ := hst.len 0 rfl
    refine OW.pure 5 [(3, .slice a43 (r37.1).length c44), (4, .int .i64 r37.2)] (by kernel_rfl) ?_
    refine OW.nil rfl ?_
    refine QW.next ?_
    refine CW.seq ?_
    refine CW.seq ?_
    refine CW.region ?_
    refine OW.pure 2 [(24, .bool (r37.2 != 0))] (by kernel_rfl) ?_
    refine OW.nil rfl ?_
    refine QW.next ?_
    rcases Bool.eq_false_or_eq_true ((r37.2 != 0)) with hc45 | hc45
    · have hF := ite_t hF hc45
      refine CW.cond_t rfl hc45 ?_
      refine CW.seq ?_
      refine CW.region ?_
      refine OW.pure 4 [(2, .bool ((((r37.1).length) : Int) == 0))] (by kernel_rfl) ?_
      refine OW.nil rfl ?_
      refine QW.next ?_
      refine CW.ret ?_
      refine QW.then_ret ?_
      obtain rfl := Option.some.inj hF
      refine QW.ret1 rfl rfl ?_
      exact ⟨rfl, hst.keep [] rfl⟩
    · have hF := ite_f hF hc45
      refine CW.cond_f rfl hc45 ?_
      refine CW.skip ?_
      refine QW.next ?_
      refine CW.seq ?_
      refine CW.seq ?_
      refine CW.region ?_
      refine OW.pure 1 [(5, .int .i64 0)] (by kernel_rfl) ?_
      refine OW.nil rfl ?_
      refine QW.next ?_
      obtain ⟨o1446, ho1447, hF⟩ := bind_some' hF
      refine CW.cutK (fun a w1 => ∃ (t1448 : Unit), o1446 = .inl t1448 ∧ Rep 169 [(0, .slice a2 (p0).length c3)] a ∧ St w (fp []) w1 []) ?_ ?_
      · refine CW.block ?_
        refine CW.loop (fun n a w1 => ∃ (i2307 : Nat) (s2306 : Unit), i2307 + n = (r37.1).length ∧ Rep 169 [(0, .slice a2 (p0).length c3), (3, .slice a43 (r37.1).length c44), (5, .int .i64 (i2307 : Int))] a ∧ St w (fp []) w1 [rowI (.slice a43 (r37.1).length c44) 40 enc_api_Loop 3 r37.1] ∧ forN (tappetlaw07_FlowNested_l1 p0 r37) (fun (s2306 : Unit) => (.inl ())) n i2307 s2306 = some o1446) ((r37.1).length) (fun a ha => ⟨0, (), Nat.zero_add _, ha.agrees (by kernel_rfl), hst.keep [0] rfl, ho1447⟩) ?_
        rintro n2304 a w1 ⟨i2307, s2306, hi2308, ha, hst, hl2305⟩
        refine CW.go ?_ ha
        refine CW.seq ?_
        refine CW.seq ?_
        refine CW.region ?_
        refine OW.pure 4 [(31, .bool (decide ((i2307 : Int) < (((r37.1).length) : Int))))] (by kernel_rfl) ?_
        refine OW.nil rfl ?_
        refine QW.next ?_
        rcases Bool.eq_false_or_eq_true (decide ((i2307 : Int) < (((r37.1).length) : Int))) with hc2309 | hc2309
        · rcases n2304 with _ | n2304
          · exact (cnt0 hi2308 hc2309).elim
          refine CW.cond_t rfl hc2309 ?_
          refine CW.skip ?_
          refine QW.next ?_
          refine CW.seq ?_
          refine CW.block ?_
          refine CW.seq ?_
          refine CW.region ?_
          refine OW.pure 2 [(34, .slice a43 (r37.1).length c44), (35, .int .i64 (i2307 : Int))] (by kernel_rfl) ?_
          obtain ⟨x2318, hx2319, hl2305⟩ := bind_some' hl2305
          obtain ⟨g2321, c2322, hv2320⟩ := hst.rowv 0 rfl hx2319
          refine OW.idx 40 3 rfl rfl rfl rfl hv2320 rfl (idx_some hx2319).1 (idx_some hx2319).2.1 (by kernel_rfl) (by kernel_rfl) ?_
          refine OW.ldN (cs := enc_api_Loop x2318) rfl rfl rfl rfl (by kernel_rfl) (by kernel_rfl) (hst.rowc 0 rfl (fun _ => rfl) hx2319 hv2320) ?_
          refine OW.alloc hst rfl rfl rfl [.int .i64 0, .int .i64 0, .int .i64 0] (by kernel_rfl) ?_
          intro b2323 w2324 hst
          refine OW.stB hst 1 rfl rfl rfl rfl rfl (by kernel_rfl) rfl rfl [.int .i64 x2318.Head, .int .i64 x2318.At, .int .i64 x2318.Bound] rfl ?_
          intro w2325 hst
          refine OW.nil rfl ?_
          refine QW.next ?_
          refine CW.seq ?_
          refine CW.seq ?_
          obtain ⟨o2339, ho2340, hl2305⟩ := bind_some' hl2305
          refine CW.cutK (fun a w1 => Rep 169 [(0, .slice a2 (p0).length c3), (3, .slice a43 (r37.1).length c44), (5, .int .i64 (i2307 : Int)), (6, .pointer (some ⟨b2323, 0, none⟩)), (69, .bool o2339)] a ∧ St w (fp []) w1 [rowI (.slice a43 (r37.1).length c44) 40 enc_api_Loop 3 r37.1, blkI b2323 40 [.int .i64 x2318.Head, .int .i64 x2318.At, .int .i64 x2318.Bound]]) ?_ ?_
          · refine CW.still (by kernel_rfl) (by kernel_rfl) ?_
            intro w2341 hch2342
            have hst := hst.same hch2342
            refine OS.pure 1 [(38, .pointer (some ⟨b2323, 0, none⟩))] rfl (by kernel_rfl) ?_
            refine OS.ld rfl rfl rfl rfl rfl (by kernel_rfl) (hst.blk 1 rfl rfl) ?_
            refine OS.pure 2 [(41, .bool (decide (x2318.Head < 0)))] rfl (by kernel_rfl) ?_
            refine OS.split 41 rfl (fun hc2343 => ?_) (fun hc2343 => ?_)
            · have ho2340 := ite_t ho2340 hc2343
              refine OS.pure 28 [(69, .bool true)] rfl (by kernel_rfl) ?_
              refine OS.fin rfl ?_
              obtain rfl := Option.some.inj ho2340
              exact QW.meet (fun a ha => ⟨ha.agrees (by kernel_rfl), hst.keep [0, 1] rfl⟩)
            · have ho2340 := ite_f ho2340 hc2343
              refine OS.pure 1 [(42, .pointer (some ⟨b2323, 0, none⟩))] rfl (by kernel_rfl) ?_
              refine OS.ld rfl rfl rfl rfl rfl (by kernel_rfl) (hst.blk 1 rfl rfl) ?_
              refine OS.pure 1 [(44, .pointer (some ⟨b2323, 1, none⟩))] rfl (by kernel_rfl) ?_
              refine OS.ld rfl rfl rfl rfl rfl (by kernel_rfl) (hst.blk 1 rfl rfl) ?_
              refine OS.pure 3 [(48, .bool (decide (x2318.Head ≥ x2318.At)))] rfl (by kernel_rfl) ?_
              refine OS.split 48 rfl (fun hc2344 => ?_) (fun hc2344 => ?_)
              · have ho2340 := ite_t ho2340 hc2344
                refine OS.pure 21 [(69, .bool true)] rfl (by kernel_rfl) ?_
                refine OS.fin rfl ?_
                obtain rfl := Option.some.inj ho2340
                exact QW.meet (fun a ha => ⟨ha.agrees (by kernel_rfl), hst.keep [0, 1] rfl⟩)
              · have ho2340 := ite_f ho2340 hc2344
                refine OS.pure 1 [(49, .pointer (some ⟨b2323, 1, none⟩))] rfl (by kernel_rfl) ?_
                refine OS.ld rfl rfl rfl rfl rfl (by kernel_rfl) (hst.blk 1 rfl rfl) ?_
                refine OS.pure 5 [(55, .bool (decide (x2318.At ≥ (((p0).length) : Int))))] rfl (by kernel_rfl) ?_
                refine OS.split 55 rfl (fun hc2345 => ?_) (fun hc2345 => ?_)
                · have ho2340 := ite_t ho2340 hc2345
                  refine OS.pure 14 [(69, .bool true)] rfl (by kernel_rfl) ?_
                  refine OS.fin rfl ?_
                  obtain rfl := Option.some.inj ho2340
                  exact QW.meet (fun a ha => ⟨ha.agrees (by kernel_rfl), hst.keep [0, 1] rfl⟩)
                · have ho2340 := ite_f ho2340 hc2345
                  refine OS.pure 3 [(58, .bool (decide ((i2307 : Int) > 0)))] rfl (by kernel_rfl) ?_
                  refine OS.split 58 rfl (fun hc2346 => ?_) (fun hc2346 => ?_)
                  · have ho2340 := ite_t ho2340 hc2346
                    refine OS.pure 3 [(59, .slice a43 (r37.1).length c44), (61, .int .i64 (w64 ((i2307 : Int) - 1)))] rfl (by kernel_rfl) ?_
                    obtain ⟨x2347, hx2348, ho2340⟩ := bind_some' ho2340
                    obtain ⟨g2350, c2351, hv2349⟩ := hst.rowv 0 rfl hx2348
                    refine OS.idx 40 3 rfl rfl rfl rfl rfl hv2349 rfl (idx_some hx2348).1 (idx_some hx2348).2.1 (by kernel_rfl) (by kernel_rfl) ?_
                    refine OS.pure 1 [(63, .pointer (some ⟨g2350, 0 + Int.toNat (w64 ((i2307 : Int) - 1)) * 3 + 1, none⟩))] rfl (by kernel_rfl) ?_
                    refine OS.ld rfl rfl rfl rfl rfl (by kernel_rfl) (hst.rowc 0 rfl (fun _ => rfl) hx2348 hv2349 1 _ rfl) ?_
                    refine OS.pure 1 [(65, .pointer (some ⟨b2323, 1, none⟩))] rfl (by kernel_rfl) ?_
                    refine OS.ld rfl rfl rfl rfl rfl (by kernel_rfl) (hst.blk 1 rfl rfl) ?_
                    refine OS.pure 3 [(69, .bool (decide (x2347.At ≥ x2318.At)))] rfl (by kernel_rfl) ?_
                    refine OS.fin rfl ?_
                    obtain rfl := Option.some.inj ho2340
                    exact QW.meet (fun a ha => ⟨ha.agrees (by kernel_rfl), hst.keep [0, 1] rfl⟩)
                  · have ho2340 := ite_f ho2340 hc2346
                    refine OS.pure 11 [(69, .bool false)] rfl (by kernel_rfl) ?_
                    refine OS.fin rfl ?_
                    obtain rfl := Option.some.inj ho2340
                    exact QW.meet (fun a ha => ⟨ha.agrees (by kernel_rfl), hst.keep [0, 1] rfl⟩)
          · rintro a w1 ⟨ha, hst⟩
            refine CW.go ?_ ha
            rcases Bool.eq_false_or_eq_true (o2339) with hc2352 | hc2352
            · have hl2305 := ite_t hl2305 hc2352
              refine CW.cond_t rfl hc2352 ?_
              refine CW.seq ?_
              refine CW.region ?_
              refine OW.pure 1 [(2, .bool false)] (by kernel_rfl) ?_
              refine OW.nil rfl ?_
              refine QW.next ?_
              refine CW.ret ?_
              refine QW.then_ret ?_
              refine QW.block_ret ?_
              refine QW.then_ret ?_
              refine QW.then_ret ?_
              refine QW.block_ret ?_
              refine QW.then_ret ?_
              obtain rfl := Option.some.inj hl2305
              obtain rfl := Option.some.inj hF
              refine QW.ret1 rfl rfl ?_
              exact ⟨rfl, hst.keep [] rfl⟩
            · have hl2305 := ite_f hl2305 hc2352
              refine CW.cond_f rfl hc2352 ?_
              refine CW.skip ?_
              refine QW.next ?_
              refine CW.seq ?_
              refine CW.seq ?_
              refine CW.region ?_
              refine OW.pure 1 [(7, .int .i64 0)] (by kernel_rfl) ?_
              refine OW.nil rfl ?_
              refine QW.next ?_
              obtain ⟨o2460, ho2461, hl2305⟩ := bind_some' hl2305
              refine CW.cutK (fun a w1 => ∃ (t2462 : Unit), o2460 = .inl t2462 ∧ Rep 169 [(0, .slice a2 (p0).length c3), (3, .slice a43 (r37.1).length c44), (5, .int .i64 (i2307 : Int)), (6, .pointer (some ⟨b2323, 0, none⟩))] a ∧ St w (fp []) w1 [rowI (.slice a43 (r37.1).length c44) 40 enc_api_Loop 3 r37.1, blkI b2323 40 [.int .i64 x2318.Head, .int .i64 x2318.At, .int .i64 x2318.Bound]]) ?_ ?_
              · refine CW.block ?_
                obtain ⟨u2535, hr2536, ho2461⟩ := bind_some' ho2461
                refine CW.loop (fun n a w1 => ∃ (i2533 : Nat) (s2532 : Unit), i2533 + n = i2307 ∧ Rep 169 [(0, .slice a2 (p0).length c3), (3, .slice a43 (r37.1).length c44), (5, .int .i64 (i2307 : Int)), (6, .pointer (some ⟨b2323, 0, none⟩)), (7, .int .i64 (i2533 : Int))] a ∧ St w (fp []) w1 [rowI (.slice a43 (r37.1).length c44) 40 enc_api_Loop 3 r37.1, blkI b2323 40 [.int .i64 x2318.Head, .int .i64 x2318.At, .int .i64 x2318.Bound]] ∧ forN (tappetlaw07_FlowNested_l2 r37 x2318) (fun (s2532 : Unit) => (.inl ())) n i2533 s2532 = some o2460) i2307 (fun a ha => ⟨0, (), Nat.zero_add _, ha.agrees (by kernel_rfl), hst.keep [0, 1] rfl, ho2461⟩) ?_
                rintro n2530 a w1 ⟨i2533, s2532, hi2534, ha, hst, hl2531⟩
                refine CW.go ?_ ha
                refine CW.seq ?_
                refine CW.seq ?_
                refine CW.region ?_
                refine OW.pure 3 [(72, .bool (decide ((i2533 : Int) < (i2307 : Int))))] (by kernel_rfl) ?_
                refine OW.nil rfl ?_
                refine QW.next ?_
                rcases Bool.eq_false_or_eq_true (decide ((i2533 : Int) < (i2307 : Int))) with hc2537 | hc2537
                · rcases n2530 with _ | n2530
                  · exact (cnt0 hi2534 hc2537).elim
                  refine CW.cond_t rfl hc2537 ?_
                  refine CW.skip ?_
                  refine QW.next ?_
                  refine CW.seq ?_
                  refine CW.block ?_
                  refine CW.seq ?_
                  obtain ⟨o2556, ho2557, hl2531⟩ := bind_some' hl2531
                  refine CW.cutK (fun a w1 => Rep 169 [(0, .slice a2 (p0).length c3), (3, .slice a43 (r37.1).length c44), (5, .int .i64 (i2307 : Int)), (6, .pointer (some ⟨b2323, 0, none⟩)), (7, .int .i64 (i2533 : Int)), (92, .bool o2556)] a ∧ St w (fp []) w1 [rowI (.slice a43 (r37.1).length c44) 40 enc_api_Loop 3 r37.1, blkI b2323 40 [.int .i64 x2318.Head, .int .i64 x2318.At, .int .i64 x2318.Bound]]) ?_ ?_
                  · refine CW.still (by kernel_rfl) (by kernel_rfl) ?_
                    intro w2558 hch2559
                    have hst := hst.same hch2559
                    refine OS.pure 2 [(75, .slice a43 (r37.1).length c44), (76, .int .i64 (i2533 : Int))] rfl (by kernel_rfl) ?_
                    obtain ⟨x2560, hx2561, ho2557⟩ := bind_some' ho2557
                    obtain ⟨g2563, c2564, hv2562⟩ := hst.rowv 0 rfl hx2561
                    refine OS.idx 40 3 rfl rfl rfl rfl rfl hv2562 rfl (idx_some hx2561).1 (idx_some hx2561).2.1 (by kernel_rfl) (by kernel_rfl) ?_
                    refine OS.pure 1 [(78, .pointer (some ⟨g2563, 0 + Int.toNat (i2533 : Int) * 3 + 1, none⟩))] rfl (by kernel_rfl) ?_
                    refine OS.ld rfl rfl rfl rfl rfl (by kernel_rfl) (hst.rowc 0 rfl (fun _ => rfl) hx2561 hv2562 1 _ rfl) ?_
                    refine OS.pure 1 [(80, .pointer (some ⟨b2323, 0, none⟩))] rfl (by kernel_rfl) ?_
                    refine OS.ld rfl rfl rfl rfl rfl (by kernel_rfl) (hst.blk 1 rfl rfl) ?_
                    refine OS.pure 2 [(83, .bool (decide (x2560.At ≥ x2318.Head)))] rfl (by kernel_rfl) ?_
                    refine OS.split 83 rfl (fun hc2565 => ?_) (fun hc2565 => ?_)
                    · have ho2557 := ite_t ho2557 hc2565
                      refine OS.pure 2 [(84, .slice a43 (r37.1).length c44), (85, .int .i64 (i2533 : Int))] rfl (by kernel_rfl) ?_
                      obtain ⟨g2567, c2568, hv2566⟩ := hst.rowv 0 rfl hx2561
                      refine OS.idx 40 3 rfl rfl rfl rfl rfl hv2566 rfl (idx_some hx2561).1 (idx_some hx2561).2.1 (by kernel_rfl) (by kernel_rfl) ?_
                      refine OS.pure 1 [(87, .pointer (some ⟨g2567, 0 + Int.toNat (i2533 : Int) * 3, none⟩))] rfl (by kernel_rfl) ?_
                      refine OS.ld rfl rfl rfl rfl rfl (by kernel_rfl) (hst.rowc 0 rfl (fun _ => rfl) hx2561 hv2566 0 _ rfl) ?_
                      refine OS.pure 1 [(89, .pointer (some ⟨b2323, 0, none⟩))] rfl (by kernel_rfl) ?_
                      refine OS.ld rfl rfl rfl rfl rfl (by kernel_rfl) (hst.blk 1 rfl rfl) ?_
                      refine OS.pure 2 [(92, .bool (decide (x2560.Head < x2318.Head)))] rfl (by kernel_rfl) ?_
                      refine OS.fin rfl ?_
                      obtain rfl := Option.some.inj ho2557
                      exact QW.meet (fun a ha => ⟨ha.agrees (by kernel_rfl), hst.keep [0, 1] rfl⟩)
                    · have ho2557 := ite_f ho2557 hc2565
                      refine OS.pure 9 [(92, .bool false)] rfl (by kernel_rfl) ?_
                      refine OS.fin rfl ?_
                      obtain rfl := Option.some.inj ho2557
                      exact QW.meet (fun a ha => ⟨ha.agrees (by kernel_rfl), hst.keep [0, 1] rfl⟩)
                  · rintro a w1 ⟨ha, hst⟩
                    refine CW.go ?_ ha
                    rcases Bool.eq_false_or_eq_true (o2556) with hc2569 | hc2569
                    · have hl2531 := ite_t hl2531 hc2569
                      refine CW.cond_t rfl hc2569 ?_
                      refine CW.seq ?_
                      refine CW.region ?_
                      refine OW.pure 1 [(2, .bool false)] (by kernel_rfl) ?_
                      refine OW.nil rfl ?_
                      refine QW.next ?_
                      refine CW.ret ?_
                      refine QW.block_ret ?_
                      refine QW.then_ret ?_
                      refine QW.then_ret ?_
                      refine QW.block_ret ?_
                      refine QW.then_ret ?_
                      refine QW.block_ret ?_
                      refine QW.then_ret ?_
                      refine QW.then_ret ?_
                      refine QW.block_ret ?_
                      refine QW.then_ret ?_
                      obtain rfl := Option.some.inj hl2531
                      obtain rfl := Option.some.inj hl2305
                      obtain rfl := Option.some.inj hF
                      refine QW.ret1 rfl rfl ?_
                      exact ⟨rfl, hst.keep [] rfl⟩
                    · have hl2531 := ite_f hl2531 hc2569
                      refine CW.cond_f rfl hc2569 ?_
                      refine CW.skip ?_
                      refine QW.block_normal ?_
                      refine QW.next ?_
                      refine CW.region ?_
                      refine OW.pure 3 [(7, .int .i64 (w64 ((i2533 : Int) + 1)))] (by kernel_rfl) ?_
                      refine OW.nil rfl ?_
                      refine QW.say 7 rfl (congrArg (Value.int .i64) (w64_cnt hc2537 (room_sz hr2536))) ?_
                      exact QW.meet (fun a ha => ⟨n2530, Nat.lt_succ_self _, i2533 + 1, (), cnt_next hi2534, ha.agrees (by kernel_rfl), hst.keep [0, 1] rfl, hl2531⟩)
                · rcases n2530 with _ | n2530
                  · refine CW.cond_f rfl hc2537 ?_
                    refine CW.exit ?_
                    refine QW.then_exit ?_
                    refine QW.then_exit ?_
                    refine QW.block_here ?_
                    obtain rfl := Option.some.inj hl2531
                    exact QW.meet (fun a ha => ⟨(), rfl, ha.agrees (by kernel_rfl), hst.keep [0, 1] rfl⟩)
                  · exact (cnt1 hi2534 hc2537).elim
              · rintro a w1 ⟨t2462, rfl, ha, hst⟩
                refine CW.go ?_ ha
                refine CW.seq ?_
                refine CW.region ?_
                refine OW.pure 2 [(94, .slice a2 (p0).length c3), (95, .pointer (some ⟨b2323, 0, none⟩))] (by kernel_rfl) ?_
                refine OW.ld rfl rfl rfl rfl (by kernel_rfl) (hst.blk 1 rfl rfl) ?_
                obtain ⟨r2578, hr2579, hl2305⟩ := bind_some' hl2305
                refine OW.fn rfl rfl rfl rfl (by kernel_rfl) (flow_Around_ok _ (.slice a2 (p0).length c3) p0 x2318.Head r2578 hr2579 (hst.part [] rfl) (h0.give hst []) (hT0.give hst [])) ?_
                rintro e w2580 ⟨v2582, rfl, hst2581⟩
                refine ⟨_, rfl, ?_⟩
                have hst := hst.join (idx := []) (rest := [0, 1]) rfl hst2581
                obtain ⟨l2583, a2584, c2585, rfl⟩ := hst.len 0 rfl
                refine OW.pure 5 [(8, .slice a2584 (r2578.1).length c2585), (9, .int .i64 r2578.2)] (by kernel_rfl) ?_
                refine OW.nil rfl ?_
                refine QW.next ?_
                refine CW.seq ?_
                refine CW.region ?_
                refine OW.pure 1 [(10, .bool false)] (by kernel_rfl) ?_
                refine OW.nil rfl ?_
                refine QW.next ?_
                refine CW.seq ?_
                refine CW.seq ?_
                refine CW.region ?_
                refine OW.pure 1 [(11, .int .i64 0)] (by kernel_rfl) ?_
                refine OW.nil rfl ?_
                refine QW.next ?_
                obtain ⟨o2715, ho2716, hl2305⟩ := bind_some' hl2305
                refine CW.cutK (fun a w1 => ∃ (t2717 : Bool), o2715 = .inl t2717 ∧ Rep 169 [(0, .slice a2 (p0).length c3), (3, .slice a43 (r37.1).length c44), (5, .int .i64 (i2307 : Int)), (9, .int .i64 r2578.2), (10, .bool t2717)] a ∧ St w (fp []) w1 [rowI (.slice a43 (r37.1).length c44) 40 enc_api_Loop 3 r37.1]) ?_ ?_
                · refine CW.block ?_
                  refine CW.loop (fun n a w1 => ∃ (i2793 : Nat) (s2792 : Bool), i2793 + n = (r2578.1).length ∧ Rep 169 [(0, .slice a2 (p0).length c3), (3, .slice a43 (r37.1).length c44), (5, .int .i64 (i2307 : Int)), (6, .pointer (some ⟨b2323, 0, none⟩)), (8, .slice a2584 (r2578.1).length c2585), (9, .int .i64 r2578.2), (10, .bool s2792), (11, .int .i64 (i2793 : Int))] a ∧ St w (fp []) w1 [rowI (.slice a43 (r37.1).length c44) 40 enc_api_Loop 3 r37.1, blkI b2323 40 [.int .i64 x2318.Head, .int .i64 x2318.At, .int .i64 x2318.Bound], rowI (.slice a2584 (r2578.1).length c2585) 3 (encInt .i64) 1 r2578.1] ∧ forN (tappetlaw07_FlowNested_l3 x2318 r2578) (fun (s2792 : Bool) => (.inl s2792)) n i2793 s2792 = some o2715) ((r2578.1).length) (fun a ha => ⟨0, false, Nat.zero_add _, ha.agrees (by kernel_rfl), hst.keep [1, 2, 0] rfl, ho2716⟩) ?_
                  rintro n2790 a w1 ⟨i2793, s2792, hi2794, ha, hst, hl2791⟩
                  refine CW.go ?_ ha
                  refine CW.seq ?_
                  refine CW.seq ?_
                  refine CW.region ?_
                  refine OW.pure 4 [(103, .bool (decide ((i2793 : Int) < (((r2578.1).length) : Int))))] (by kernel_rfl) ?_
                  refine OW.nil rfl ?_
                  refine QW.next ?_
                  rcases Bool.eq_false_or_eq_true (decide ((i2793 : Int) < (((r2578.1).length) : Int))) with hc2795 | hc2795
                  · rcases n2790 with _ | n2790
                    · exact (cnt0 hi2794 hc2795).elim
                    refine CW.cond_t rfl hc2795 ?_
                    refine CW.skip ?_
                    refine QW.next ?_
                    refine CW.seq ?_
                    refine CW.block ?_
                    refine CW.seq ?_
                    obtain ⟨o2806, ho2807, hl2791⟩ := bind_some' hl2791
                    refine CW.cutK (fun a w1 => Rep 169 [(0, .slice a2 (p0).length c3), (3, .slice a43 (r37.1).length c44), (5, .int .i64 (i2307 : Int)), (6, .pointer (some ⟨b2323, 0, none⟩)), (8, .slice a2584 (r2578.1).length c2585), (9, .int .i64 r2578.2), (10, .bool o2806), (11, .int .i64 (i2793 : Int))] a ∧ St w (fp []) w1 [rowI (.slice a43 (r37.1).length c44) 40 enc_api_Loop 3 r37.1, blkI b2323 40 [.int .i64 x2318.Head, .int .i64 x2318.At, .int .i64 x2318.Bound], rowI (.slice a2584 (r2578.1).length c2585) 3 (encInt .i64) 1 r2578.1]) ?_ ?_
                    · refine CW.still (by kernel_rfl) (by kernel_rfl) ?_
                      intro w2808 hch2809
                      have hst := hst.same hch2809
                      refine OS.pure 2 [(107, .bool s2792)] rfl (by kernel_rfl) ?_
                      refine OS.split 107 rfl (fun hc2810 => ?_) (fun hc2810 => ?_)
                      · have ho2807 := ite_t ho2807 hc2810
                        refine OS.pure 9 [(10, .bool true)] rfl (by kernel_rfl) ?_
                        refine OS.fin rfl ?_
                        obtain rfl := Option.some.inj ho2807
                        exact QW.meet (fun a ha => ⟨ha.agrees (by kernel_rfl), hst.keep [0, 1, 2] rfl⟩)
                      · have ho2807 := ite_f ho2807 hc2810
                        refine OS.pure 2 [(108, .slice a2584 (r2578.1).length c2585), (109, .int .i64 (i2793 : Int))] rfl (by kernel_rfl) ?_
                        obtain ⟨x2811, hx2812, ho2807⟩ := bind_some' ho2807
                        obtain ⟨g2814, c2815, hv2813⟩ := hst.rowv 2 rfl hx2812
                        refine OS.idx 3 1 rfl rfl rfl rfl rfl hv2813 rfl (idx_some hx2812).1 (idx_some hx2812).2.1 (by kernel_rfl) (by kernel_rfl) ?_
                        refine OS.ld rfl rfl rfl rfl rfl (by kernel_rfl) (hst.rowc 2 rfl (fun _ => rfl) hx2812 hv2813 0 _ rfl) ?_
                        refine OS.pure 1 [(112, .pointer (some ⟨b2323, 1, none⟩))] rfl (by kernel_rfl) ?_
                        refine OS.ld rfl rfl rfl rfl rfl (by kernel_rfl) (hst.blk 1 rfl rfl) ?_
                        refine OS.pure 3 [(10, .bool (x2811 == x2318.At))] rfl (by kernel_rfl) ?_
                        refine OS.fin rfl ?_
                        obtain rfl := Option.some.inj ho2807
                        exact QW.meet (fun a ha => ⟨ha.agrees (by kernel_rfl), hst.keep [0, 1, 2] rfl⟩)
                    · rintro a w1 ⟨ha, hst⟩
                      refine CW.go ?_ ha
                      refine CW.seq ?_
                      obtain ⟨o2831, ho2832, hl2791⟩ := bind_some' hl2791
                      refine CW.cutK (fun a w1 => Rep 169 [(0, .slice a2 (p0).length c3), (3, .slice a43 (r37.1).length c44), (5, .int .i64 (i2307 : Int)), (6, .pointer (some ⟨b2323, 0, none⟩)), (8, .slice a2584 (r2578.1).length c2585), (9, .int .i64 r2578.2), (10, .bool o2806), (11, .int .i64 (i2793 : Int)), (129, .bool o2831)] a ∧ St w (fp []) w1 [rowI (.slice a43 (r37.1).length c44) 40 enc_api_Loop 3 r37.1, blkI b2323 40 [.int .i64 x2318.Head, .int .i64 x2318.At, .int .i64 x2318.Bound], rowI (.slice a2584 (r2578.1).length c2585) 3 (encInt .i64) 1 r2578.1]) ?_ ?_
                      · refine CW.still (by kernel_rfl) (by kernel_rfl) ?_
                        intro w2833 hch2834
                        have hst := hst.same hch2834
                        refine OS.pure 3 [(118, .bool (decide ((i2793 : Int) > 0)))] rfl (by kernel_rfl) ?_
                        refine OS.split 118 rfl (fun hc2835 => ?_) (fun hc2835 => ?_)
                        · have ho2832 := ite_t ho2832 hc2835
                          refine OS.pure 3 [(119, .slice a2584 (r2578.1).length c2585), (121, .int .i64 (w64 ((i2793 : Int) - 1)))] rfl (by kernel_rfl) ?_
                          obtain ⟨x2836, hx2837, ho2832⟩ := bind_some' ho2832
                          obtain ⟨g2839, c2840, hv2838⟩ := hst.rowv 2 rfl hx2837
                          refine OS.idx 3 1 rfl rfl rfl rfl rfl hv2838 rfl (idx_some hx2837).1 (idx_some hx2837).2.1 (by kernel_rfl) (by kernel_rfl) ?_
                          refine OS.ld rfl rfl rfl rfl rfl (by kernel_rfl) (hst.rowc 2 rfl (fun _ => rfl) hx2837 hv2838 0 _ rfl) ?_
                          refine OS.pure 2 [(124, .slice a2584 (r2578.1).length c2585), (125, .int .i64 (i2793 : Int))] rfl (by kernel_rfl) ?_
                          obtain ⟨x2841, hx2842, ho2832⟩ := bind_some' ho2832
                          obtain ⟨g2844, c2845, hv2843⟩ := hst.rowv 2 rfl hx2842
                          refine OS.idx 3 1 rfl rfl rfl rfl rfl hv2843 rfl (idx_some hx2842).1 (idx_some hx2842).2.1 (by kernel_rfl) (by kernel_rfl) ?_
                          refine OS.ld rfl rfl rfl rfl rfl (by kernel_rfl) (hst.rowc 2 rfl (fun _ => rfl) hx2842 hv2843 0 _ rfl) ?_
                          refine OS.pure 2 [(129, .bool (decide (x2836 ≥ x2841)))] rfl (by kernel_rfl) ?_
                          refine OS.fin rfl ?_
                          obtain rfl := Option.some.inj ho2832
                          exact QW.meet (fun a ha => ⟨ha.agrees (by kernel_rfl), hst.keep [0, 1, 2] rfl⟩)
                        · have ho2832 := ite_f ho2832 hc2835
                          refine OS.pure 11 [(129, .bool false)] rfl (by kernel_rfl) ?_
                          refine OS.fin rfl ?_
                          obtain rfl := Option.some.inj ho2832
                          exact QW.meet (fun a ha => ⟨ha.agrees (by kernel_rfl), hst.keep [0, 1, 2] rfl⟩)
                      · rintro a w1 ⟨ha, hst⟩
                        refine CW.go ?_ ha
                        rcases Bool.eq_false_or_eq_true (o2831) with hc2846 | hc2846
                        · have hl2791 := ite_t hl2791 hc2846
                          refine CW.cond_t rfl hc2846 ?_
                          refine CW.seq ?_
                          refine CW.region ?_
                          refine OW.pure 1 [(2, .bool false)] (by kernel_rfl) ?_
                          refine OW.nil rfl ?_
                          refine QW.next ?_
                          refine CW.ret ?_
                          refine QW.block_ret ?_
                          refine QW.then_ret ?_
                          refine QW.then_ret ?_
                          refine QW.block_ret ?_
                          refine QW.then_ret ?_
                          refine QW.block_ret ?_
                          refine QW.then_ret ?_
                          refine QW.then_ret ?_
                          refine QW.block_ret ?_
                          refine QW.then_ret ?_
                          obtain rfl := Option.some.inj hl2791
                          obtain rfl := Option.some.inj hl2305
                          obtain rfl := Option.some.inj hF
                          refine QW.ret1 rfl rfl ?_
                          exact ⟨rfl, hst.keep [] rfl⟩
                        · have hl2791 := ite_f hl2791 hc2846
                          refine CW.cond_f rfl hc2846 ?_
                          refine CW.skip ?_
                          refine QW.block_normal ?_
                          refine QW.next ?_
                          refine CW.region ?_
                          refine OW.pure 3 [(11, .int .i64 (w64 ((i2793 : Int) + 1)))] (by kernel_rfl) ?_
                          refine OW.nil rfl ?_
                          refine QW.say 11 rfl (congrArg (Value.int .i64) (w64_cnt hc2795 l2583)) ?_
                          exact QW.meet (fun a ha => ⟨n2790, Nat.lt_succ_self _, i2793 + 1, o2806, cnt_next hi2794, ha.agrees (by kernel_rfl), hst.keep [0, 1, 2] rfl, hl2791⟩)
                  · rcases n2790 with _ | n2790
                    · refine CW.cond_f rfl hc2795 ?_
                      refine CW.exit ?_
                      refine QW.then_exit ?_
                      refine QW.then_exit ?_
                      refine QW.block_here ?_
                      obtain rfl := Option.some.inj hl2791
                      exact QW.meet (fun a ha => ⟨s2792, rfl, ha.agrees (by kernel_rfl), hst.keep [0] rfl⟩)
                    · exact (cnt1 hi2794 hc2795).elim
                · rintro a w1 ⟨t2717, rfl, ha, hst⟩
                  refine CW.go ?_ ha
                  refine CW.seq ?_
                  refine CW.cutK (fun a w1 => Rep 169 [(0, .slice a2 (p0).length c3), (3, .slice a43 (r37.1).length c44), (5, .int .i64 (i2307 : Int)), (135, .bool ((r2578.2 != 0) || (!t2717)))] a ∧ St w (fp []) w1 [rowI (.slice a43 (r37.1).length c44) 40 enc_api_Loop 3 r37.1]) ?_ ?_
                  · refine CW.region ?_
                    refine OW.pure 3 [(132, .bool (r2578.2 != 0))] (by kernel_rfl) ?_
                    refine OW.split 132 rfl (fun hc2847 => ?_) (fun hc2847 => ?_)
                    · refine OW.pure 3 [(135, .bool true)] (by kernel_rfl) ?_
                      refine OW.nil rfl ?_
                      refine QW.say 135 (v := .bool ((r2578.2 != 0) || (!t2717))) rfl (by first | (rw [hc2847]; done) | (rw [hc2847]; rfl) | simp [hc2847]) ?_
                      exact QW.meet (fun a ha => ⟨ha.agrees (by kernel_rfl), hst.keep [0] rfl⟩)
                    · refine OW.pure 3 [(135, .bool (!t2717))] (by kernel_rfl) ?_
                      refine OW.nil rfl ?_
                      refine QW.say 135 (v := .bool ((r2578.2 != 0) || (!t2717))) rfl (by first | (rw [hc2847]; done) | (rw [hc2847]; rfl) | simp [hc2847]) ?_
                      exact QW.meet (fun a ha => ⟨ha.agrees (by kernel_rfl), hst.keep [0] rfl⟩)
                  · rintro a w1 ⟨ha, hst⟩
                    refine CW.go ?_ ha
                    rcases Bool.eq_false_or_eq_true (((r2578.2 != 0) || (!t2717))) with hc2848 | hc2848
                    · have hl2305 := ite_t hl2305 hc2848
                      refine CW.cond_t rfl hc2848 ?_
                      refine CW.seq ?_
                      refine CW.region ?_
                      refine OW.pure 1 [(2, .bool false)] (by kernel_rfl) ?_
                      refine OW.nil rfl ?_
                      refine QW.next ?_
                      refine CW.ret ?_
                      refine QW.block_ret ?_
                      refine QW.then_ret ?_
                      refine QW.then_ret ?_
                      refine QW.block_ret ?_
                      refine QW.then_ret ?_
                      obtain rfl := Option.some.inj hl2305
                      obtain rfl := Option.some.inj hF
                      refine QW.ret1 rfl rfl ?_
                      exact ⟨rfl, hst.keep [] rfl⟩
                    · have hl2305 := ite_f hl2305 hc2848
                      refine CW.cond_f rfl hc2848 ?_
                      refine CW.skip ?_
                      refine QW.block_normal ?_
                      refine QW.next ?_
                      refine CW.region ?_
                      refine OW.pure 3 [(5, .int .i64 (w64 ((i2307 : Int) + 1)))] (by kernel_rfl) ?_
                      refine OW.nil rfl ?_
                      refine QW.say 5 rfl (congrArg (Value.int .i64) (w64_cnt hc2309 l42)) ?_
                      exact QW.meet (fun a ha => ⟨n2304, Nat.lt_succ_self _, i2307 + 1, (), cnt_next hi2308, ha.agrees (by kernel_rfl), hst.keep [0] rfl, hl2305⟩)
        · rcases n2304 with _ | n2304
          · refine CW.cond_f rfl hc2309 ?_
            refine CW.exit ?_
            refine QW.then_exit ?_
            refine QW.then_exit ?_
            refine QW.block_here ?_
            obtain rfl := Option.some.inj hl2305
            exact QW.meet (fun a ha => ⟨(), rfl, ha.agrees (by kernel_rfl), hst.keep [] rfl⟩)
          · exact (cnt1 hi2308 hc2309).elim
      · rintro a w1 ⟨t1448, rfl, ha, hst⟩
        refine CW.go ?_ ha
        refine CW.seq ?_
        refine CW.region ?_
        refine OW.pure 1 [(137, .slice a2 (p0).length c3)] (by kernel_rfl) ?_
        obtain ⟨r2870, hr2871, hF⟩ := bind_some' hF
        refine OW.fn rfl rfl rfl rfl (by kernel_rfl) (tappetlaw07_copied_ok _ (.slice a2 (p0).length c3) p0 r2870 hr2871 (hst.part [] rfl) (h0.give hst [])) ?_
        rintro e w2872 ⟨v2874, rfl, hst2873⟩
        refine ⟨_, rfl, ?_⟩
        have hst := hst.join (idx := []) (rest := []) rfl hst2873
        obtain ⟨l2875, a2876, c2877, rfl⟩ := hst.len 0 rfl
        refine OW.pure 1 [(139, .agg [.int .i64 22, .int .i64 0, .int .i64 0, .int .i64 0, .int .i64 0].toArray)] (by kernel_rfl) ?_
        refine OW.row (α := api_Inst) (e := 32) (enc := enc_api_Inst) (sz := 5) hst rfl rfl rfl [(api_Inst.mk 22 0 0 0 0)] rfl (fun _ => rfl) rfl rfl (fun _ => by kernel_rfl) ?_
        intro g2878 w2879 hst
        obtain ⟨u2880, hr2881, hF⟩ := bind_some' hF
        refine OW.app hst 0 rfl (fun _ => rfl) (fun _ => rfl) rfl rfl rfl rfl rfl rfl (by kernel_rfl) el32 (hst.rd 1 rfl (fun _ => rfl) [] rfl (hst.len 1 rfl).1) (room_le hr2881) ?_
        intro v2882 w2883 hst
        obtain ⟨l2884, a2885, c2886, rfl⟩ := hst.len 0 rfl
        obtain ⟨r2887, hr2888, hF⟩ := bind_some' hF
        refine OW.fn rfl rfl rfl rfl (by kernel_rfl) (flow_Check_ok _ (.slice a2885 ((r2870 ++ [(api_Inst.mk 22 0 0 0 0)])).length c2886) (r2870 ++ [(api_Inst.mk 22 0 0 0 0)]) r2887 hr2888 (hst.part [] rfl) (hst.rd 0 rfl (fun _ => rfl) [] rfl (hst.len 0 rfl).1) (hT0.give hst [])) ?_
        rintro e w2889 ⟨rfl, hst2890⟩
        refine ⟨_, rfl, ?_⟩
        have hst := hst.join (idx := []) (rest := [0, 1]) rfl hst2890
        refine OW.pure 5 [(12, .int .i64 r2887.1), (4, .int .i64 r2887.2)] (by kernel_rfl) ?_
        refine OW.nil rfl ?_
        refine QW.next ?_
        refine CW.seq ?_
        refine CW.seq ?_
        refine CW.region ?_
        refine OW.pure 3 [(147, .bool ((((p0).length) : Int) == 64))] (by kernel_rfl) ?_
        refine OW.nil rfl ?_
        refine QW.next ?_
        rcases Bool.eq_false_or_eq_true (((((p0).length) : Int) == 64)) with hc2891 | hc2891
        · have hF := ite_t hF hc2891
          refine CW.cond_t rfl hc2891 ?_
          refine CW.seq ?_
          refine CW.cutK (fun a w1 => Rep 169 [(2, .bool ((r2887.1 == 0) && (r2887.2 == 11)))] a ∧ St w (fp []) w1 []) ?_ ?_
          · refine CW.region ?_
            refine OW.pure 3 [(150, .bool (r2887.1 == 0))] (by kernel_rfl) ?_
            refine OW.split 150 rfl (fun hc2892 => ?_) (fun hc2892 => ?_)
            · refine OW.pure 4 [(2, .bool (r2887.2 == 11))] (by kernel_rfl) ?_
              refine OW.nil rfl ?_
              refine QW.say 2 (v := .bool ((r2887.1 == 0) && (r2887.2 == 11))) rfl (by first | (rw [hc2892]; done) | (rw [hc2892]; rfl) | simp [hc2892]) ?_
              exact QW.meet (fun a ha => ⟨ha.agrees (by kernel_rfl), hst.keep [] rfl⟩)
            · refine OW.pure 4 [(2, .bool false)] (by kernel_rfl) ?_
              refine OW.nil rfl ?_
              refine QW.say 2 (v := .bool ((r2887.1 == 0) && (r2887.2 == 11))) rfl (by first | (rw [hc2892]; done) | (rw [hc2892]; rfl) | simp [hc2892]) ?_
              exact QW.meet (fun a ha => ⟨ha.agrees (by kernel_rfl), hst.keep [] rfl⟩)
          · rintro a w1 ⟨ha, hst⟩
            refine CW.go ?_ ha
            refine CW.ret ?_
            refine QW.then_ret ?_
            obtain rfl := Option.some.inj hF
            refine QW.ret1 rfl rfl ?_
            exact ⟨rfl, hst.keep [] rfl⟩
        · have hF := ite_f hF hc2891
          refine CW.cond_f rfl hc2891 ?_
          refine CW.skip ?_
          refine QW.next ?_
          refine CW.seq ?_
          refine CW.region ?_
          refine OW.pure 1 [(155, .slice a2 (p0).length c3)] (by kernel_rfl) ?_
          obtain ⟨r2897, hr2898, hF⟩ := bind_some' hF
          refine OW.fn rfl rfl rfl rfl (by kernel_rfl) (flow_Cost_ok _ (.slice a2 (p0).length c3) p0 r2897 hr2898 (hst.part [] rfl) (h0.give hst []) (hT0.give hst [])) ?_
          rintro e w2899 ⟨rfl, hst2900⟩
          refine ⟨_, rfl, ?_⟩
          have hst := hst.join (idx := []) (rest := [0, 1]) rfl hst2900
          refine OW.pure 5 [(13, .int .i64 r2897.1)] (by kernel_rfl) ?_
          refine OW.nil rfl ?_
          refine QW.next ?_
          refine CW.seq ?_
          refine CW.seq ?_
          refine CW.region ?_
          refine OW.pure 2 [(160, .bool (r2897.1 == 256))] (by kernel_rfl) ?_
          refine OW.nil rfl ?_
          refine QW.next ?_
          rcases Bool.eq_false_or_eq_true ((r2897.1 == 256)) with hc2901 | hc2901
          · have hF := ite_t hF hc2901
            refine CW.cond_t rfl hc2901 ?_
            refine CW.seq ?_
            refine CW.region ?_
            refine OW.pure 3 [(2, .bool (r2887.2 == 32))] (by kernel_rfl) ?_
            refine OW.nil rfl ?_
            refine QW.next ?_
            refine CW.ret ?_
            refine QW.then_ret ?_
            obtain rfl := Option.some.inj hF
            refine QW.ret1 rfl rfl ?_
            exact ⟨rfl, hst.keep [] rfl⟩
          · have hF := ite_f hF hc2901
            refine CW.cond_f rfl hc2901 ?_
            refine CW.skip ?_
            refine QW.next ?_
            refine CW.seq ?_
            refine CW.cutK (fun a w1 => Rep 169 [(2, .bool ((r2887.1 == 0) && (r2887.2 == 0)))] a ∧ St w (fp []) w1 []) ?_ ?_
            · refine CW.region ?_
              refine OW.pure 3 [(165, .bool (r2887.1 == 0))] (by kernel_rfl) ?_
              refine OW.split 165 rfl (fun hc2902 => ?_) (fun hc2902 => ?_)
              · refine OW.pure 4 [(2, .bool (r2887.2 == 0))] (by kernel_rfl) ?_
                refine OW.nil rfl ?_
                refine QW.say 2 (v := .bool ((r2887.1 == 0) && (r2887.2 == 0))) rfl (by first | (rw [hc2902]; done) | (rw [hc2902]; rfl) | simp [hc2902]) ?_
                exact QW.meet (fun a ha => ⟨ha.agrees (by kernel_rfl), hst.keep [] rfl⟩)
              · refine OW.pure 4 [(2, .bool false)] (by kernel_rfl) ?_
                refine OW.nil rfl ?_
                refine QW.say 2 (v := .bool ((r2887.1 == 0) && (r2887.2 == 0))) rfl (by first | (rw [hc2902]; done) | (rw [hc2902]; rfl) | simp [hc2902]) ?_
                exact QW.meet (fun a ha => ⟨ha.agrees (by kernel_rfl), hst.keep [] rfl⟩)
            · rintro a w1 ⟨ha, hst⟩
              refine CW.go ?_ ha
              refine CW.ret ?_
              obtain rfl := Option.some.inj hF
              refine QW.ret1 rfl rfl ?_
              exact ⟨rfl, hst.keep [] rfl⟩

theorem slices_Sort_int_int_ok (w : World) (v0 : Value) (p0 : List Int) (r : List Int) (hF : slices_Sort_int_int p0 = some r) (hst : St w (fp [rowI v0 3 (encInt .i64) 1 p0]) w [rowI v0 3 (encInt .i64) 1 p0]) :
    Calls Tryd.prog 35 [v0].toArray w (fun e w' => e = .returned (.tuple #[]) ∧ St w (fp [rowI v0 3 (encInt .i64) 1 p0]) w' [rowI v0 3 (encInt .i64) 1 r]) :=
  sort_int_ok Tryd.slices_Sort_int Tryd.slices_Sort_int_none hF hst

theorem slices_Compact_int_int_ok (w : World) (v0 : Value) (p0 : List Int) (r : List Int) (hF : slices_Compact_int_int p0 = some r) (hst : St w (fp [rowI v0 3 (encInt .i64) 1 p0]) w [rowI v0 3 (encInt .i64) 1 p0]) :
    Calls Tryd.prog 36 [v0].toArray w (fun e w' => ∃ x0 : Value, e = .returned x0 ∧ St w (fp [rowI v0 3 (encInt .i64) 1 p0]) w' [rowI x0 3 (encInt .i64) 1 r]) :=
  compact_int_ok Tryd.slices_Compact_int Tryd.slices_Compact_int_empty hF hst

set_option maxRecDepth 10000 in
theorem flow_Next_ok (w : World) (v0 : Value) (p0 : List api_Inst) (p1 : Int) (r : (List Int) × Int) (hF : flow_Next p0 p1 = some r)
    (hst : St w (fp []) w []) (h0 : Rd w (fp []) v0 enc_api_Inst 5 p0) (hT0 : Rd w (fp []) (.slice (some ⟨0, 0, none⟩) 23 23) enc_ops_form 2 tab_g0) :
    Calls Tryd.prog 17 [v0, .int .i64 p1].toArray w (fun e w' => ∃ (x0 : Value), e = .returned (.tuple #[x0, .int .i64 r.2]) ∧ St w (fp []) w' [rowI x0 3 (encInt .i64) 1 r.1]) := by
  refine CW.start (N := 43) Tryd.func17 rfl rfl rfl ?_
  obtain ⟨l1, a2, c3, rfl⟩ := h0.len
  refine CW.seq ?_
  refine CW.region ?_
  refine OW.pure 2 [] (by kernel_rfl) ?_
  refine OW.nil rfl ?_
  refine QW.next ?_
  refine CW.seq ?_
  refine CW.seq ?_
  refine CW.region ?_
  refine OW.pure 2 [(11, .slice a2 (p0).length c3), (12, .int .i64 p1)] (by kernel_rfl) ?_
  obtain ⟨r8, hr9, hF⟩ := bind_some' hF
  refine OW.fn rfl rfl rfl rfl (by kernel_rfl) (flow_check_ok _ (.slice a2 (p0).length c3) p0 p1 r8 hr9 (hst.part [] rfl) (h0.give hst []) (hT0.give hst [])) ?_
  rintro e w10 ⟨rfl, hst11⟩
  refine ⟨_, rfl, ?_⟩
  have hst := hst.join (idx := []) (rest := []) rfl hst11
  refine OW.pure 1 [(6, .int .i64 r8)] (by kernel_rfl) ?_
  refine OW.nil rfl ?_
  refine QW.next ?_
  refine CW.seq ?_
  refine CW.region ?_
  refine OW.pure 2 [(15, .bool (r8 != 0))] (by kernel_rfl) ?_
  refine OW.nil rfl ?_
  refine QW.next ?_
  rcases Bool.eq_false_or_eq_true ((r8 != 0)) with hc12 | hc12
  · have hF := ite_t hF hc12
    refine CW.cond_t rfl hc12 ?_
    refine CW.seq ?_
    refine CW.region ?_
    refine OW.pure 3 [(4, .slice none 0 0), (5, .int .i64 r8)] (by kernel_rfl) ?_
    refine OW.nil rfl ?_
    refine QW.next ?_
    refine CW.ret ?_
    refine QW.then_ret ?_
    have hst := hst.nilRow Int 3 (encInt .i64) 1
    obtain rfl := Option.some.inj hF
    refine QW.ret2 rfl rfl rfl ?_
    exact ⟨(.slice none 0 0), rfl, hst.keep [0] rfl⟩
  · have hF := ite_f hF hc12
    refine CW.cond_f rfl hc12 ?_
    refine CW.skip ?_
    refine QW.next ?_
    refine CW.seq ?_
    refine CW.region ?_
    refine OW.pure 2 [(18, .slice a2 (p0).length c3), (19, .int .i64 p1)] (by kernel_rfl) ?_
    obtain ⟨x23, hx24, hF⟩ := bind_some' hF
    obtain ⟨g26, o27, c28, hv25⟩ := h0.formv (fun _ => ⟨_, rfl⟩) hx24
    refine OW.idx 32 5 rfl rfl rfl rfl hv25 rfl (idx_some hx24).1 (idx_some hx24).2.1 (by kernel_rfl) (by kernel_rfl) ?_
    refine OW.ldN (cs := enc_api_Inst x23) rfl rfl rfl rfl (by kernel_rfl) (by kernel_rfl) (h0.cellv hst hx24 hv25) ?_
    obtain ⟨r29, hr30, hF⟩ := bind_some' hF
    refine OW.fn rfl rfl rfl rfl (by kernel_rfl) (ops_Goes_ok _ x23 r29 hr30 (hst.part [] rfl) (hT0.give hst [])) ?_
    rintro e w31 ⟨rfl, hst32⟩
    refine ⟨_, rfl, ?_⟩
    have hst := hst.join (idx := []) (rest := []) rfl hst32
    refine OW.pure 7 [(7, .int .i64 r29.1), (8, .bool r29.2.1), (9, .bool r29.2.2)] (by kernel_rfl) ?_
    refine OW.nil rfl ?_
    refine QW.next ?_
    refine CW.seq ?_
    refine CW.region ?_
    refine OW.pure 1 [(10, .slice none 0 0)] (by kernel_rfl) ?_
    refine OW.nil rfl ?_
    refine QW.next ?_
    refine CW.seq ?_
    refine CW.seq ?_
    refine CW.region ?_
    refine OW.pure 1 [(26, .bool r29.2.1)] (by kernel_rfl) ?_
    refine OW.nil rfl ?_
    refine QW.next ?_
    obtain ⟨o53, ho54, hF⟩ := bind_some' hF
    refine CW.cutK (fun a w1 => ∃ (v52 : Value), Rep 43 [(1, .int .i64 p1), (9, .bool r29.2.2), (10, v52)] a ∧ St w (fp []) w1 [rowI v52 3 (encInt .i64) 1 o53]) ?_ ?_
    · rcases Bool.eq_false_or_eq_true (r29.2.1) with hc55 | hc55
      · have ho54 := ite_t ho54 hc55
        refine CW.cond_t rfl hc55 ?_
        refine CW.region ?_
        refine OW.pure 4 [(27, .slice none 0 0), (30, .int .i64 (w64 (p1 + r29.1)))] (by kernel_rfl) ?_
        refine OW.row (α := Int) (e := 3) (enc := encInt .i64) (sz := 1) hst rfl rfl rfl [w64 (p1 + r29.1)] rfl (fun _ => rfl) rfl rfl (fun _ => by kernel_rfl) ?_
        intro g65 w66 hst
        have hst := hst.nilRow Int 3 (encInt .i64) 1
        obtain ⟨u67, hr68, ho54⟩ := bind_some' ho54
        refine OW.app hst 1 rfl (fun _ => rfl) (fun _ => rfl) rfl rfl rfl rfl rfl rfl (by kernel_rfl) el3 (hst.rd 0 rfl (fun _ => rfl) [] rfl (hst.len 0 rfl).1) (room_le hr68) ?_
        intro v69 w70 hst
        obtain ⟨l71, a72, c73, rfl⟩ := hst.len 1 rfl
        refine OW.pure 1 [(10, .slice a72 ((([] : List Int) ++ [w64 (p1 + r29.1)])).length c73)] (by kernel_rfl) ?_
        refine OW.nil rfl ?_
        obtain rfl := Option.some.inj ho54
        exact QW.meet (fun a ha => ⟨(.slice a72 ((([] : List Int) ++ [w64 (p1 + r29.1)])).length c73), ha.agrees (by kernel_rfl), hst.keep [1] rfl⟩)
      · have ho54 := ite_f ho54 hc55
        refine CW.cond_f rfl hc55 ?_
        refine CW.skip ?_
        have hst := hst.nilRow Int 3 (encInt .i64) 1
        obtain rfl := Option.some.inj ho54
        exact QW.meet (fun a ha => ⟨(.slice none 0 0), ha.agrees (by kernel_rfl), hst.keep [0] rfl⟩)
    · rintro a w1 ⟨v52, ha, hst⟩
      refine CW.go ?_ ha
      obtain ⟨l75, a76, c77, rfl⟩ := hst.len 0 rfl
      refine CW.seq ?_
      refine CW.seq ?_
      refine CW.region ?_
      refine OW.pure 1 [(33, .bool r29.2.2)] (by kernel_rfl) ?_
      refine OW.nil rfl ?_
      refine QW.next ?_
      obtain ⟨o98, ho99, hF⟩ := bind_some' hF
      refine CW.cutK (fun a w1 => ∃ (v97 : Value), Rep 43 [(10, v97)] a ∧ St w (fp []) w1 [rowI v97 3 (encInt .i64) 1 o98]) ?_ ?_
      · rcases Bool.eq_false_or_eq_true (r29.2.2) with hc100 | hc100
        · have ho99 := ite_t ho99 hc100
          refine CW.cond_t rfl hc100 ?_
          refine CW.region ?_
          refine OW.pure 3 [(34, .slice a76 (o53).length c77), (36, .int .i64 (w64 (p1 + 1)))] (by kernel_rfl) ?_
          refine OW.row (α := Int) (e := 3) (enc := encInt .i64) (sz := 1) hst rfl rfl rfl [w64 (p1 + 1)] rfl (fun _ => rfl) rfl rfl (fun _ => by kernel_rfl) ?_
          intro g110 w111 hst
          obtain ⟨u112, hr113, ho99⟩ := bind_some' ho99
          refine OW.app hst 0 rfl (fun _ => rfl) (fun _ => rfl) rfl rfl rfl rfl rfl rfl (by kernel_rfl) el3 (hst.rd 1 rfl (fun _ => rfl) [] rfl (hst.len 1 rfl).1) (room_le hr113) ?_
          intro v114 w115 hst
          obtain ⟨l116, a117, c118, rfl⟩ := hst.len 0 rfl
          refine OW.pure 1 [(10, .slice a117 ((o53 ++ [w64 (p1 + 1)])).length c118)] (by kernel_rfl) ?_
          refine OW.nil rfl ?_
          obtain rfl := Option.some.inj ho99
          exact QW.meet (fun a ha => ⟨(.slice a117 ((o53 ++ [w64 (p1 + 1)])).length c118), ha.agrees (by kernel_rfl), hst.keep [0] rfl⟩)
        · have ho99 := ite_f ho99 hc100
          refine CW.cond_f rfl hc100 ?_
          refine CW.skip ?_
          obtain rfl := Option.some.inj ho99
          exact QW.meet (fun a ha => ⟨(.slice a76 (o53).length c77), ha.agrees (by kernel_rfl), hst.keep [0] rfl⟩)
      · rintro a w1 ⟨v97, ha, hst⟩
        refine CW.go ?_ ha
        obtain ⟨l121, a122, c123, rfl⟩ := hst.len 0 rfl
        refine CW.seq ?_
        refine CW.region ?_
        refine OW.pure 1 [(39, .slice a122 (o98).length c123)] (by kernel_rfl) ?_
        obtain ⟨r128, hr129, hF⟩ := bind_some' hF
        refine OW.fn rfl rfl rfl rfl (by kernel_rfl) (slices_Sort_int_int_ok _ (.slice a122 (o98).length c123) o98 r128 hr129 (hst.part [0] rfl)) ?_
        rintro e w130 ⟨rfl, hst131⟩
        refine ⟨_, rfl, ?_⟩
        have hst := hst.join (idx := [0]) (rest := []) rfl hst131
        refine OW.nil rfl ?_
        refine QW.next ?_
        refine CW.seq ?_
        refine CW.region ?_
        refine OW.pure 1 [(41, .slice a122 (o98).length c123)] (by kernel_rfl) ?_
        obtain ⟨r140, hr141, hF⟩ := bind_some' hF
        refine OW.fn rfl rfl rfl rfl (by kernel_rfl) (slices_Compact_int_int_ok _ (.slice a122 (o98).length c123) r128 r140 hr141 (hst.part [0] rfl)) ?_
        rintro e w142 ⟨v144, rfl, hst143⟩
        refine ⟨_, rfl, ?_⟩
        have hst := hst.join (idx := [0]) (rest := []) rfl hst143
        obtain ⟨l145, a146, c147, rfl⟩ := hst.len 0 rfl
        refine OW.pure 2 [(4, .slice a146 (r140).length c147), (5, .int .i64 0)] (by kernel_rfl) ?_
        refine OW.nil rfl ?_
        refine QW.next ?_
        refine CW.ret ?_
        obtain rfl := Option.some.inj hF
        refine QW.ret2 rfl rfl rfl ?_
        exact ⟨(.slice a146 (r140).length c147), rfl, hst.keep [0] rfl⟩

set_option maxRecDepth 10000 in
theorem tappetlaw07_FlowEnds_ok (w : World) (fu : Nat) (v0 : Value) (p0 : List api_Inst) (v1 : Value) (p1 : List Int) (r : Bool) (hF : tappetlaw07_FlowEnds fu p0 p1 = some r)
    (hst : St w (fp []) w []) (h0 : Rd w (fp []) v0 enc_api_Inst 5 p0) (h1 : Rd w (fp []) v1 (encInt .i64) 1 p1) (hT0 : Rd w (fp []) (.slice (some ⟨0, 0, none⟩) 23 23) enc_ops_form 2 tab_g0) :
    Calls Tryd.prog 6 [v0, v1].toArray w (fun e w' => e = .returned (.bool r) ∧ St w (fp []) w' []) := by
  refine CW.start (N := 127) Tryd.func6 rfl rfl rfl ?_
  obtain ⟨l1, a2, c3, rfl⟩ := h0.len
  obtain ⟨l4, a5, c6, rfl⟩ := h1.len
  refine CW.seq ?_
  refine CW.region ?_
  refine OW.pure 1 [] (by kernel_rfl) ?_
  refine OW.nil rfl ?_
  refine QW.next ?_
  refine CW.seq ?_
  refine CW.seq ?_
  refine CW.region ?_
  obtain ⟨r11, hr12, hF⟩ := bind_some' hF
  refine OW.fn rfl rfl rfl rfl (by kernel_rfl) (tappetlaw07_awake_ok _ r11 hr12 (hst.part [] rfl) (hT0.give hst [])) ?_
  rintro e w13 ⟨rfl, hst14⟩
  refine ⟨_, rfl, ?_⟩
  have hst := hst.join (idx := []) (rest := []) rfl hst14
  refine OW.pure 1 [(15, .bool (!r11))] (by kernel_rfl) ?_
  refine OW.nil rfl ?_
  refine QW.next ?_
  rcases Bool.eq_false_or_eq_true ((!r11)) with hc15 | hc15
  · have hF := ite_t hF hc15
    refine CW.cond_t rfl hc15 ?_
    refine CW.seq ?_
    refine CW.region ?_
    refine OW.pure 1 [(4, .bool false)] (by kernel_rfl) ?_
    refine OW.nil rfl ?_
    refine QW.next ?_
    refine CW.ret ?_
    refine QW.then_ret ?_
    obtain rfl := Option.some.inj hF
    refine QW.ret1 rfl rfl ?_
    exact ⟨rfl, hst.keep [] rfl⟩
  · have hF := ite_f hF hc15
    refine CW.cond_f rfl hc15 ?_
    refine CW.skip ?_
    refine QW.next ?_
    refine CW.seq ?_
    refine CW.region ?_
    refine OW.pure 1 [(17, .slice a2 (p0).length c3)] (by kernel_rfl) ?_
    obtain ⟨r28, hr29, hF⟩ := bind_some' hF
    refine OW.fn rfl rfl rfl rfl (by kernel_rfl) (tappetlaw07_copied_ok _ (.slice a2 (p0).length c3) p0 r28 hr29 (hst.part [] rfl) (h0.give hst [])) ?_
    rintro e w30 ⟨v32, rfl, hst31⟩
    refine ⟨_, rfl, ?_⟩
    have hst := hst.join (idx := []) (rest := []) rfl hst31
    obtain ⟨l33, a34, c35, rfl⟩ := hst.len 0 rfl
    obtain ⟨r36, hr37, hF⟩ := bind_some' hF
    refine OW.fn rfl rfl rfl rfl (by kernel_rfl) (flow_Cost_ok _ (.slice a34 (r28).length c35) r28 r36 hr37 (hst.part [] rfl) (hst.rd 0 rfl (fun _ => rfl) [] rfl (hst.len 0 rfl).1) (hT0.give hst [])) ?_
    rintro e w38 ⟨rfl, hst39⟩
    refine ⟨_, rfl, ?_⟩
    have hst := hst.join (idx := []) (rest := [0]) rfl hst39
    refine OW.pure 5 [(5, .int .i64 r36.1), (6, .int .i64 r36.2)] (by kernel_rfl) ?_
    refine OW.nil rfl ?_
    refine QW.next ?_
    refine CW.seq ?_
    refine CW.seq ?_
    refine CW.region ?_
    refine OW.pure 2 [(23, .bool (r36.2 != 0))] (by kernel_rfl) ?_
    refine OW.nil rfl ?_
    refine QW.next ?_
    rcases Bool.eq_false_or_eq_true ((r36.2 != 0)) with hc40 | hc40
    · have hF := ite_t hF hc40
      refine CW.cond_t rfl hc40 ?_
      refine CW.seq ?_
      refine CW.region ?_
      refine OW.pure 3 [(4, .bool (r36.1 == 0))] (by kernel_rfl) ?_
      refine OW.nil rfl ?_
      refine QW.next ?_
      refine CW.ret ?_
      refine QW.then_ret ?_
      obtain rfl := Option.some.inj hF
      refine QW.ret1 rfl rfl ?_
      exact ⟨rfl, hst.keep [] rfl⟩
    · have hF := ite_f hF hc40
      refine CW.cond_f rfl hc40 ?_
      refine CW.skip ?_
      refine QW.next ?_
      refine CW.seq ?_
      refine CW.region ?_
      refine OW.pure 2 [(27, .int .i64 (((p0).length) : Int))] (by kernel_rfl) ?_
      obtain ⟨m45, hm46, hF⟩ := bind_some' hF
      refine OW.make (enc := encInt .i64) (sz := 1) hst rfl rfl rfl rfl rfl (by kernel_rfl) el3 0 (by kernel_rfl) (fun _ => rfl) hm46 ?_
      intro g47 w48 hst
      refine OW.pure 1 [(7, .slice (some ⟨g47, 0, none⟩) m45 m45)] (by kernel_rfl) ?_
      refine OW.nil rfl ?_
      refine QW.next ?_
      refine CW.seq ?_
      refine CW.region ?_
      refine OW.pure 1 [(8, .int .i64 0)] (by kernel_rfl) ?_
      refine OW.nil rfl ?_
      refine QW.next ?_
      refine CW.seq ?_
      refine CW.seq ?_
      refine CW.region ?_
      refine OW.pure 1 [(9, .int .i64 0)] (by kernel_rfl) ?_
      refine OW.nil rfl ?_
      refine QW.next ?_
      obtain ⟨o827, ho828, hF⟩ := bind_some' hF
      refine CW.cutK (fun a w1 => ∃ (t829 : Unit), o827 = .inl t829 ∧ Rep 127 [] a ∧ St w (fp []) w1 []) ?_ ?_
      · refine CW.block ?_
        refine CW.loop (fun n a w1 => ∃ (s1349 : (List Int) × Int × Int), Rep 127 [(0, .slice a2 (p0).length c3), (1, .slice a5 (p1).length c6), (5, .int .i64 r36.1), (7, .slice (some ⟨g47, 0, none⟩) m45 m45), (8, .int .i64 s1349.2.1), (9, .int .i64 s1349.2.2)] a ∧ St w (fp []) w1 [rowI (.slice (some ⟨g47, 0, none⟩) m45 m45) 3 (encInt .i64) 1 s1349.1] ∧ loop (tappetlaw07_FlowEnds_l1 p0 p1 r36) n s1349 = some o827) fu (fun a ha => ⟨((List.replicate m45 0), 0, 0), ha.agrees (by kernel_rfl), hst.keep [1] rfl, ho828⟩) ?_
        rintro n1347 a w1 ⟨s1349, ha, hst, hl1348⟩
        rcases n1347 with _ | n1347
        · exact (loop_zero hl1348).elim
        refine CW.go ?_ ha
        refine CW.seq ?_
        refine CW.seq ?_
        refine CW.region ?_
        refine OW.pure 3 [(31, .bool (decide (s1349.2.2 ≤ r36.1)))] (by kernel_rfl) ?_
        refine OW.nil rfl ?_
        refine QW.next ?_
        rcases Bool.eq_false_or_eq_true (decide (s1349.2.2 ≤ r36.1)) with hc1350 | hc1350
        · have hl1348 := ite_t hl1348 hc1350
          refine CW.cond_t rfl hc1350 ?_
          refine CW.skip ?_
          refine QW.next ?_
          refine CW.seq ?_
          refine CW.block ?_
          refine CW.seq ?_
          refine CW.region ?_
          refine OW.pure 2 [(35, .slice a2 (p0).length c3), (36, .int .i64 s1349.2.1)] (by kernel_rfl) ?_
          obtain ⟨r1359, hr1360, hl1348⟩ := bind_some' hl1348
          refine OW.fn rfl rfl rfl rfl (by kernel_rfl) (flow_Next_ok _ (.slice a2 (p0).length c3) p0 s1349.2.1 r1359 hr1360 (hst.part [] rfl) (h0.give hst []) (hT0.give hst [])) ?_
          rintro e w1361 ⟨v1363, rfl, hst1362⟩
          refine ⟨_, rfl, ?_⟩
          have hst := hst.join (idx := []) (rest := [0]) rfl hst1362
          obtain ⟨l1364, a1365, c1366, rfl⟩ := hst.len 0 rfl
          refine OW.pure 5 [(10, .slice a1365 (r1359.1).length c1366), (11, .int .i64 r1359.2)] (by kernel_rfl) ?_
          refine OW.nil rfl ?_
          refine QW.next ?_
          refine CW.seq ?_
          refine CW.seq ?_
          refine CW.region ?_
          refine OW.pure 2 [(41, .bool (r1359.2 != 0))] (by kernel_rfl) ?_
          refine OW.nil rfl ?_
          refine QW.next ?_
          rcases Bool.eq_false_or_eq_true ((r1359.2 != 0)) with hc1367 | hc1367
          · have hl1348 := ite_t hl1348 hc1367
            refine CW.cond_t rfl hc1367 ?_
            refine CW.seq ?_
            refine CW.region ?_
            refine OW.pure 1 [(4, .bool false)] (by kernel_rfl) ?_
            refine OW.nil rfl ?_
            refine QW.next ?_
            refine CW.ret ?_
            refine QW.then_ret ?_
            refine QW.block_ret ?_
            refine QW.then_ret ?_
            refine QW.then_ret ?_
            refine QW.block_ret ?_
            refine QW.then_ret ?_
            obtain rfl := Option.some.inj hl1348
            obtain rfl := Option.some.inj hF
            refine QW.ret1 rfl rfl ?_
            exact ⟨rfl, hst.keep [] rfl⟩
          · have hl1348 := ite_f hl1348 hc1367
            refine CW.cond_f rfl hc1367 ?_
            refine CW.skip ?_
            refine QW.next ?_
            refine CW.seq ?_
            refine CW.seq ?_
            refine CW.region ?_
            refine OW.pure 3 [(44, .bool ((((r1359.1).length) : Int) == 0))] (by kernel_rfl) ?_
            refine OW.nil rfl ?_
            refine QW.next ?_
            rcases Bool.eq_false_or_eq_true (((((r1359.1).length) : Int) == 0)) with hc1368 | hc1368
            · have hl1348 := ite_t hl1348 hc1368
              refine CW.cond_t rfl hc1368 ?_
              refine CW.seq ?_
              refine CW.region ?_
              refine OW.pure 4 [(4, .bool (decide (s1349.2.2 < r36.1)))] (by kernel_rfl) ?_
              refine OW.nil rfl ?_
              refine QW.next ?_
              refine CW.ret ?_
              refine QW.then_ret ?_
              refine QW.block_ret ?_
              refine QW.then_ret ?_
              refine QW.then_ret ?_
              refine QW.block_ret ?_
              refine QW.then_ret ?_
              obtain rfl := Option.some.inj hl1348
              obtain rfl := Option.some.inj hF
              refine QW.ret1 rfl rfl ?_
              exact ⟨rfl, hst.keep [] rfl⟩
            · have hl1348 := ite_f hl1348 hc1368
              refine CW.cond_f rfl hc1368 ?_
              refine CW.skip ?_
              refine QW.next ?_
              refine CW.seq ?_
              refine CW.region ?_
              refine OW.pure 1 [(48, .slice a1365 (r1359.1).length c1366)] (by kernel_rfl) ?_
              obtain ⟨x1374, hx1375, hl1348⟩ := bind_some' hl1348
              obtain ⟨g1377, c1378, hv1376⟩ := hst.rowv 0 rfl hx1375
              refine OW.idx 3 1 rfl rfl rfl rfl hv1376 rfl (idx_some hx1375).1 (idx_some hx1375).2.1 (by kernel_rfl) (by kernel_rfl) ?_
              refine OW.ld rfl rfl rfl rfl (by kernel_rfl) (hst.rowc 0 rfl (fun _ => rfl) hx1375 hv1376 0 _ rfl) ?_
              refine OW.pure 1 [(12, .int .i64 x1374)] (by kernel_rfl) ?_
              refine OW.nil rfl ?_
              refine QW.next ?_
              refine CW.seq ?_
              refine CW.region ?_
              refine OW.pure 1 [(13, .int .i64 0)] (by kernel_rfl) ?_
              refine OW.nil rfl ?_
              refine QW.next ?_
              refine CW.seq ?_
              refine CW.seq ?_
              refine CW.region ?_
              refine OW.pure 4 [(54, .bool (decide (s1349.2.2 < (((p1).length) : Int))))] (by kernel_rfl) ?_
              refine OW.nil rfl ?_
              refine QW.next ?_
              obtain ⟨o1392, ho1393, hl1348⟩ := bind_some' hl1348
              refine CW.cutK (fun a w1 => Rep 127 [(0, .slice a2 (p0).length c3), (1, .slice a5 (p1).length c6), (5, .int .i64 r36.1), (7, .slice (some ⟨g47, 0, none⟩) m45 m45), (8, .int .i64 s1349.2.1), (9, .int .i64 s1349.2.2), (10, .slice a1365 (r1359.1).length c1366), (12, .int .i64 x1374), (13, .int .i64 o1392)] a ∧ St w (fp []) w1 [rowI (.slice (some ⟨g47, 0, none⟩) m45 m45) 3 (encInt .i64) 1 s1349.1, rowI (.slice a1365 (r1359.1).length c1366) 3 (encInt .i64) 1 r1359.1]) ?_ ?_
              · rcases Bool.eq_false_or_eq_true (decide (s1349.2.2 < (((p1).length) : Int))) with hc1394 | hc1394
                · have ho1393 := ite_t ho1393 hc1394
                  refine CW.cond_t rfl hc1394 ?_
                  refine CW.region ?_
                  refine OW.pure 2 [(55, .slice a5 (p1).length c6), (56, .int .i64 s1349.2.2)] (by kernel_rfl) ?_
                  obtain ⟨x1401, hx1402, ho1393⟩ := bind_some' ho1393
                  obtain ⟨g1404, o1405, c1406, hv1403⟩ := h1.formv (fun _ => ⟨_, rfl⟩) hx1402
                  refine OW.idx 3 1 rfl rfl rfl rfl hv1403 rfl (idx_some hx1402).1 (idx_some hx1402).2.1 (by kernel_rfl) (by kernel_rfl) ?_
                  refine OW.ld rfl rfl rfl rfl (by kernel_rfl) (h1.cellv hst hx1402 hv1403 0 _ rfl) ?_
                  refine OW.pure 1 [(13, .int .i64 x1401)] (by kernel_rfl) ?_
                  refine OW.nil rfl ?_
                  obtain rfl := Option.some.inj ho1393
                  exact QW.meet (fun a ha => ⟨ha.agrees (by kernel_rfl), hst.keep [1, 0] rfl⟩)
                · have ho1393 := ite_f ho1393 hc1394
                  refine CW.cond_f rfl hc1394 ?_
                  refine CW.skip ?_
                  obtain rfl := Option.some.inj ho1393
                  exact QW.meet (fun a ha => ⟨ha.agrees (by kernel_rfl), hst.keep [1, 0] rfl⟩)
              · rintro a w1 ⟨ha, hst⟩
                refine CW.go ?_ ha
                refine CW.seq ?_
                refine CW.seq ?_
                refine CW.cutK (fun a w1 => Rep 127 [(0, .slice a2 (p0).length c3), (1, .slice a5 (p1).length c6), (5, .int .i64 r36.1), (7, .slice (some ⟨g47, 0, none⟩) m45 m45), (8, .int .i64 s1349.2.1), (9, .int .i64 s1349.2.2), (10, .slice a1365 (r1359.1).length c1366), (12, .int .i64 x1374), (13, .int .i64 o1392), (66, .bool (decide ((((r1359.1).length) : Int) > 1) && ((o1392.tmod 2) != 0)))] a ∧ St w (fp []) w1 [rowI (.slice (some ⟨g47, 0, none⟩) m45 m45) 3 (encInt .i64) 1 s1349.1, rowI (.slice a1365 (r1359.1).length c1366) 3 (encInt .i64) 1 r1359.1]) ?_ ?_
                · refine CW.region ?_
                  refine OW.pure 4 [(62, .bool (decide ((((r1359.1).length) : Int) > 1)))] (by kernel_rfl) ?_
                  refine OW.split 62 rfl (fun hc1407 => ?_) (fun hc1407 => ?_)
                  · refine OW.pure 4 [(66, .bool ((o1392.tmod 2) != 0))] (by kernel_rfl) ?_
                    refine OW.nil rfl ?_
                    refine QW.say 66 (v := .bool (decide ((((r1359.1).length) : Int) > 1) && ((o1392.tmod 2) != 0))) rfl (by first | (rw [hc1407]; done) | (rw [hc1407]; rfl) | simp [hc1407]) ?_
                    exact QW.meet (fun a ha => ⟨ha.agrees (by kernel_rfl), hst.keep [0, 1] rfl⟩)
                  · refine OW.pure 4 [(66, .bool false)] (by kernel_rfl) ?_
                    refine OW.nil rfl ?_
                    refine QW.say 66 (v := .bool (decide ((((r1359.1).length) : Int) > 1) && ((o1392.tmod 2) != 0))) rfl (by first | (rw [hc1407]; done) | (rw [hc1407]; rfl) | simp [hc1407]) ?_
                    exact QW.meet (fun a ha => ⟨ha.agrees (by kernel_rfl), hst.keep [0, 1] rfl⟩)
                · rintro a w1 ⟨ha, hst⟩
                  refine CW.go ?_ ha
                  obtain ⟨o1419, ho1420, hl1348⟩ := bind_some' hl1348
                  refine CW.cutK (fun a w1 => Rep 127 [(0, .slice a2 (p0).length c3), (1, .slice a5 (p1).length c6), (5, .int .i64 r36.1), (7, .slice (some ⟨g47, 0, none⟩) m45 m45), (8, .int .i64 s1349.2.1), (9, .int .i64 s1349.2.2), (10, .slice a1365 (r1359.1).length c1366), (12, .int .i64 o1419), (13, .int .i64 o1392)] a ∧ St w (fp []) w1 [rowI (.slice (some ⟨g47, 0, none⟩) m45 m45) 3 (encInt .i64) 1 s1349.1, rowI (.slice a1365 (r1359.1).length c1366) 3 (encInt .i64) 1 r1359.1]) ?_ ?_
                  · rcases Bool.eq_false_or_eq_true ((decide ((((r1359.1).length) : Int) > 1) && ((o1392.tmod 2) != 0))) with hc1421 | hc1421
                    · have ho1420 := ite_t ho1420 hc1421
                      refine CW.cond_t rfl hc1421 ?_
                      refine CW.region ?_
                      refine OW.pure 1 [(67, .slice a1365 (r1359.1).length c1366)] (by kernel_rfl) ?_
                      obtain ⟨x1427, hx1428, ho1420⟩ := bind_some' ho1420
                      obtain ⟨g1430, c1431, hv1429⟩ := hst.rowv 1 rfl hx1428
                      refine OW.idx 3 1 rfl rfl rfl rfl hv1429 rfl (idx_some hx1428).1 (idx_some hx1428).2.1 (by kernel_rfl) (by kernel_rfl) ?_
                      refine OW.ld rfl rfl rfl rfl (by kernel_rfl) (hst.rowc 1 rfl (fun _ => rfl) hx1428 hv1429 0 _ rfl) ?_
                      refine OW.pure 1 [(12, .int .i64 x1427)] (by kernel_rfl) ?_
                      refine OW.nil rfl ?_
                      obtain rfl := Option.some.inj ho1420
                      exact QW.meet (fun a ha => ⟨ha.agrees (by kernel_rfl), hst.keep [0, 1] rfl⟩)
                    · have ho1420 := ite_f ho1420 hc1421
                      refine CW.cond_f rfl hc1421 ?_
                      refine CW.skip ?_
                      obtain rfl := Option.some.inj ho1420
                      exact QW.meet (fun a ha => ⟨ha.agrees (by kernel_rfl), hst.keep [0, 1] rfl⟩)
                  · rintro a w1 ⟨ha, hst⟩
                    refine CW.go ?_ ha
                    refine CW.seq ?_
                    refine CW.seq ?_
                    refine CW.region ?_
                    refine OW.pure 2 [(70, .slice a2 (p0).length c3), (71, .int .i64 s1349.2.1)] (by kernel_rfl) ?_
                    obtain ⟨x1438, hx1439, hl1348⟩ := bind_some' hl1348
                    obtain ⟨g1441, o1442, c1443, hv1440⟩ := h0.formv (fun _ => ⟨_, rfl⟩) hx1439
                    refine OW.idx 32 5 rfl rfl rfl rfl hv1440 rfl (idx_some hx1439).1 (idx_some hx1439).2.1 (by kernel_rfl) (by kernel_rfl) ?_
                    refine OW.pure 1 [(73, .pointer (some ⟨g1441, o1442 + Int.toNat s1349.2.1 * 5, none⟩))] (by kernel_rfl) ?_
                    refine OW.ld rfl rfl rfl rfl (by kernel_rfl) (h0.cellv hst hx1439 hv1440 0 _ rfl) ?_
                    refine OW.pure 1 [(75, .bool (x1438.Op == 20))] (by kernel_rfl) ?_
                    refine OW.nil rfl ?_
                    refine QW.next ?_
                    obtain ⟨o1512, ho1513, hl1348⟩ := bind_some' hl1348
                    refine CW.cutK (fun a w1 => Rep 127 [(0, .slice a2 (p0).length c3), (1, .slice a5 (p1).length c6), (5, .int .i64 r36.1), (7, .slice (some ⟨g47, 0, none⟩) m45 m45), (9, .int .i64 s1349.2.2), (10, .slice a1365 (r1359.1).length c1366), (12, .int .i64 o1512.2)] a ∧ St w (fp []) w1 [rowI (.slice (some ⟨g47, 0, none⟩) m45 m45) 3 (encInt .i64) 1 o1512.1, rowI (.slice a1365 (r1359.1).length c1366) 3 (encInt .i64) 1 r1359.1]) ?_ ?_
                    · rcases Bool.eq_false_or_eq_true ((x1438.Op == 20)) with hc1514 | hc1514
                      · have ho1513 := ite_t ho1513 hc1514
                        refine CW.cond_t rfl hc1514 ?_
                        refine CW.seq ?_
                        refine CW.region ?_
                        refine OW.pure 3 [(12, .int .i64 (w64 (s1349.2.1 + 1)))] (by kernel_rfl) ?_
                        refine OW.nil rfl ?_
                        refine QW.next ?_
                        refine CW.seq ?_
                        obtain ⟨o1529, ho1530, ho1513⟩ := bind_some' ho1513
                        refine CW.cutK (fun a w1 => Rep 127 [(0, .slice a2 (p0).length c3), (1, .slice a5 (p1).length c6), (5, .int .i64 r36.1), (7, .slice (some ⟨g47, 0, none⟩) m45 m45), (8, .int .i64 s1349.2.1), (9, .int .i64 s1349.2.2), (10, .slice a1365 (r1359.1).length c1366), (12, .int .i64 (w64 (s1349.2.1 + 1))), (92, .bool o1529)] a ∧ St w (fp []) w1 [rowI (.slice (some ⟨g47, 0, none⟩) m45 m45) 3 (encInt .i64) 1 s1349.1, rowI (.slice a1365 (r1359.1).length c1366) 3 (encInt .i64) 1 r1359.1]) ?_ ?_
                        · refine CW.still (by kernel_rfl) (by kernel_rfl) ?_
                          intro w1531 hch1532
                          have hst := hst.same hch1532
                          refine OS.pure 4 [(81, .bool ((o1392.tmod 4) != 0))] rfl (by kernel_rfl) ?_
                          refine OS.split 81 rfl (fun hc1533 => ?_) (fun hc1533 => ?_)
                          · have ho1530 := ite_t ho1530 hc1533
                            refine OS.pure 2 [(82, .slice (some ⟨g47, 0, none⟩) m45 m45), (83, .int .i64 s1349.2.1)] rfl (by kernel_rfl) ?_
                            obtain ⟨x1534, hx1535, ho1530⟩ := bind_some' ho1530
                            obtain ⟨g1537, c1538, hv1536⟩ := hst.rowv 0 rfl hx1535
                            refine OS.idx 3 1 rfl rfl rfl rfl rfl hv1536 rfl (idx_some hx1535).1 (idx_some hx1535).2.1 (by kernel_rfl) (by kernel_rfl) ?_
                            refine OS.ld rfl rfl rfl rfl rfl (by kernel_rfl) (hst.rowc 0 rfl (fun _ => rfl) hx1535 hv1536 0 _ rfl) ?_
                            refine OS.pure 2 [(86, .slice a2 (p0).length c3), (87, .int .i64 s1349.2.1)] rfl (by kernel_rfl) ?_
                            obtain ⟨g1540, o1541, c1542, hv1539⟩ := h0.formv (fun _ => ⟨_, rfl⟩) hx1439
                            refine OS.idx 32 5 rfl rfl rfl rfl rfl hv1539 rfl (idx_some hx1439).1 (idx_some hx1439).2.1 (by kernel_rfl) (by kernel_rfl) ?_
                            refine OS.pure 1 [(89, .pointer (some ⟨g1540, o1541 + Int.toNat s1349.2.1 * 5 + 4, none⟩))] rfl (by kernel_rfl) ?_
                            refine OS.ld rfl rfl rfl rfl rfl (by kernel_rfl) (h0.cellv hst hx1439 hv1539 4 _ rfl) ?_
                            refine OS.pure 2 [(92, .bool (decide (x1534 < x1438.Imm)))] rfl (by kernel_rfl) ?_
                            refine OS.fin rfl ?_
                            obtain rfl := Option.some.inj ho1530
                            exact QW.meet (fun a ha => ⟨ha.agrees (by kernel_rfl), hst.keep [0, 1] rfl⟩)
                          · have ho1530 := ite_f ho1530 hc1533
                            refine OS.pure 11 [(92, .bool false)] rfl (by kernel_rfl) ?_
                            refine OS.fin rfl ?_
                            obtain rfl := Option.some.inj ho1530
                            exact QW.meet (fun a ha => ⟨ha.agrees (by kernel_rfl), hst.keep [0, 1] rfl⟩)
                        · rintro a w1 ⟨ha, hst⟩
                          refine CW.go ?_ ha
                          rcases Bool.eq_false_or_eq_true (o1529) with hc1543 | hc1543
                          · have ho1513 := ite_t ho1513 hc1543
                            refine CW.cond_t rfl hc1543 ?_
                            refine CW.seq ?_
                            refine CW.region ?_
                            refine OW.pure 3 [(93, .int .i64 s1349.2.1), (94, .slice a2 (p0).length c3), (95, .int .i64 s1349.2.1)] (by kernel_rfl) ?_
                            obtain ⟨g1549, o1550, c1551, hv1548⟩ := h0.formv (fun _ => ⟨_, rfl⟩) hx1439
                            refine OW.idx 32 5 rfl rfl rfl rfl hv1548 rfl (idx_some hx1439).1 (idx_some hx1439).2.1 (by kernel_rfl) (by kernel_rfl) ?_
                            refine OW.pure 1 [(97, .pointer (some ⟨g1549, o1550 + Int.toNat s1349.2.1 * 5 + 1, none⟩))] (by kernel_rfl) ?_
                            refine OW.ld rfl rfl rfl rfl (by kernel_rfl) (h0.cellv hst hx1439 hv1548 1 _ rfl) ?_
                            refine OW.pure 2 [(12, .int .i64 (w64 (s1349.2.1 - x1438.D)))] (by kernel_rfl) ?_
                            refine OW.nil rfl ?_
                            refine QW.next ?_
                            refine CW.region ?_
                            refine OW.pure 2 [(100, .slice (some ⟨g47, 0, none⟩) m45 m45), (101, .int .i64 s1349.2.1)] (by kernel_rfl) ?_
                            obtain ⟨x1561, hx1562, ho1513⟩ := bind_some' ho1513
                            obtain ⟨g1564, c1565, hv1563⟩ := hst.rowv 0 rfl hx1562
                            refine OW.idx 3 1 rfl rfl rfl rfl hv1563 rfl (idx_some hx1562).1 (idx_some hx1562).2.1 (by kernel_rfl) (by kernel_rfl) ?_
                            refine OW.ld rfl rfl rfl rfl (by kernel_rfl) (hst.rowc 0 rfl (fun _ => rfl) hx1562 hv1563 0 _ rfl) ?_
                            refine OW.pure 1 [(104, .int .i64 (w64 (x1561 + 1)))] (by kernel_rfl) ?_
                            obtain ⟨g1567, c1568, hv1566⟩ := hst.rowv 0 rfl hx1562
                            refine OW.idx 3 1 rfl rfl rfl rfl hv1566 rfl (idx_some hx1562).1 (idx_some hx1562).2.1 (by kernel_rfl) (by kernel_rfl) ?_
                            refine OW.stR hst 0 rfl hv1566 (fun _ => rfl) rfl rfl hx1562 0 rfl rfl rfl (by kernel_rfl) rfl rfl (w64 (x1561 + 1)) rfl ?_
                            intro w1569 hst
                            refine OW.nil rfl ?_
                            obtain rfl := Option.some.inj ho1513
                            exact QW.meet (fun a ha => ⟨ha.agrees (by kernel_rfl), hst.keep [0, 1] rfl⟩)
                          · have ho1513 := ite_f ho1513 hc1543
                            refine CW.cond_f rfl hc1543 ?_
                            refine CW.region ?_
                            refine OW.pure 2 [(106, .slice (some ⟨g47, 0, none⟩) m45 m45), (107, .int .i64 s1349.2.1)] (by kernel_rfl) ?_
                            obtain ⟨x1576, hx1577, ho1513⟩ := bind_some' ho1513
                            obtain ⟨g1579, c1580, hv1578⟩ := hst.rowv 0 rfl hx1577
                            refine OW.idx 3 1 rfl rfl rfl rfl hv1578 rfl (idx_some hx1577).1 (idx_some hx1577).2.1 (by kernel_rfl) (by kernel_rfl) ?_
                            refine OW.stR hst 0 rfl hv1578 (fun _ => rfl) rfl rfl hx1577 0 rfl rfl rfl (by kernel_rfl) rfl rfl 0 rfl ?_
                            intro w1581 hst
                            refine OW.nil rfl ?_
                            obtain rfl := Option.some.inj ho1513
                            exact QW.meet (fun a ha => ⟨ha.agrees (by kernel_rfl), hst.keep [0, 1] rfl⟩)
                      · have ho1513 := ite_f ho1513 hc1514
                        refine CW.cond_f rfl hc1514 ?_
                        refine CW.skip ?_
                        obtain rfl := Option.some.inj ho1513
                        exact QW.meet (fun a ha => ⟨ha.agrees (by kernel_rfl), hst.keep [0, 1] rfl⟩)
                    · rintro a w1 ⟨ha, hst⟩
                      refine CW.go ?_ ha
                      refine CW.seq ?_
                      refine CW.seq ?_
                      obtain ⟨o1595, ho1596, hl1348⟩ := bind_some' hl1348
                      refine CW.cutK (fun a w1 => Rep 127 [(0, .slice a2 (p0).length c3), (1, .slice a5 (p1).length c6), (5, .int .i64 r36.1), (7, .slice (some ⟨g47, 0, none⟩) m45 m45), (9, .int .i64 s1349.2.2), (12, .int .i64 o1512.2), (125, .bool o1595)] a ∧ St w (fp []) w1 [rowI (.slice (some ⟨g47, 0, none⟩) m45 m45) 3 (encInt .i64) 1 o1512.1]) ?_ ?_
                      · refine CW.region ?_
                        refine OW.pure 2 [(109, .int .i64 o1512.2), (110, .slice a1365 (r1359.1).length c1366)] (by kernel_rfl) ?_
                        obtain ⟨g1598, c1599, hv1597⟩ := hst.rowv 1 rfl hx1375
                        refine OW.idx 3 1 rfl rfl rfl rfl hv1597 rfl (idx_some hx1375).1 (idx_some hx1375).2.1 (by kernel_rfl) (by kernel_rfl) ?_
                        refine OW.ld rfl rfl rfl rfl (by kernel_rfl) (hst.rowc 1 rfl (fun _ => rfl) hx1375 hv1597 0 _ rfl) ?_
                        refine OW.pure 2 [(114, .bool (o1512.2 != x1374))] (by kernel_rfl) ?_
                        refine OW.split 114 rfl (fun hc1600 => ?_) (fun hc1600 => ?_)
                        · have ho1596 := ite_t ho1596 hc1600
                          refine OW.pure 4 [(118, .bool (decide ((((r1359.1).length) : Int) < 2)))] (by kernel_rfl) ?_
                          refine OW.split 118 rfl (fun hc1601 => ?_) (fun hc1601 => ?_)
                          · have ho1596 := ite_t ho1596 hc1601
                            refine OW.pure 7 [(125, .bool true)] (by kernel_rfl) ?_
                            refine OW.nil rfl ?_
                            obtain rfl := Option.some.inj ho1596
                            exact QW.meet (fun a ha => ⟨ha.agrees (by kernel_rfl), hst.keep [0] rfl⟩)
                          · have ho1596 := ite_f ho1596 hc1601
                            refine OW.pure 2 [(119, .int .i64 o1512.2), (120, .slice a1365 (r1359.1).length c1366)] (by kernel_rfl) ?_
                            obtain ⟨x1602, hx1603, ho1596⟩ := bind_some' ho1596
                            obtain ⟨g1605, c1606, hv1604⟩ := hst.rowv 1 rfl hx1603
                            refine OW.idx 3 1 rfl rfl rfl rfl hv1604 rfl (idx_some hx1603).1 (idx_some hx1603).2.1 (by kernel_rfl) (by kernel_rfl) ?_
                            refine OW.ld rfl rfl rfl rfl (by kernel_rfl) (hst.rowc 1 rfl (fun _ => rfl) hx1603 hv1604 0 _ rfl) ?_
                            refine OW.pure 3 [(125, .bool (o1512.2 != x1602))] (by kernel_rfl) ?_
                            refine OW.nil rfl ?_
                            obtain rfl := Option.some.inj ho1596
                            exact QW.meet (fun a ha => ⟨ha.agrees (by kernel_rfl), hst.keep [0] rfl⟩)
                        · have ho1596 := ite_f ho1596 hc1600
                          refine OW.pure 11 [(125, .bool false)] (by kernel_rfl) ?_
                          refine OW.nil rfl ?_
                          obtain rfl := Option.some.inj ho1596
                          exact QW.meet (fun a ha => ⟨ha.agrees (by kernel_rfl), hst.keep [0] rfl⟩)
                      · rintro a w1 ⟨ha, hst⟩
                        refine CW.go ?_ ha
                        rcases Bool.eq_false_or_eq_true (o1595) with hc1607 | hc1607
                        · have hl1348 := ite_t hl1348 hc1607
                          refine CW.cond_t rfl hc1607 ?_
                          refine CW.seq ?_
                          refine CW.region ?_
                          refine OW.pure 1 [(4, .bool false)] (by kernel_rfl) ?_
                          refine OW.nil rfl ?_
                          refine QW.next ?_
                          refine CW.ret ?_
                          refine QW.then_ret ?_
                          refine QW.block_ret ?_
                          refine QW.then_ret ?_
                          refine QW.then_ret ?_
                          refine QW.block_ret ?_
                          refine QW.then_ret ?_
                          obtain rfl := Option.some.inj hl1348
                          obtain rfl := Option.some.inj hF
                          refine QW.ret1 rfl rfl ?_
                          exact ⟨rfl, hst.keep [] rfl⟩
                        · have hl1348 := ite_f hl1348 hc1607
                          refine CW.cond_f rfl hc1607 ?_
                          refine CW.skip ?_
                          refine QW.next ?_
                          refine CW.region ?_
                          refine OW.pure 2 [(8, .int .i64 o1512.2)] (by kernel_rfl) ?_
                          refine OW.nil rfl ?_
                          refine QW.block_normal ?_
                          refine QW.next ?_
                          refine CW.region ?_
                          refine OW.pure 3 [(9, .int .i64 (w64 (s1349.2.2 + 1)))] (by kernel_rfl) ?_
                          refine OW.nil rfl ?_
                          exact QW.meet (fun a ha => ⟨n1347, Nat.lt_succ_self _, (o1512.1, o1512.2, w64 (s1349.2.2 + 1)), ha.agrees (by kernel_rfl), hst.keep [0] rfl, hl1348⟩)
        · have hl1348 := ite_f hl1348 hc1350
          refine CW.cond_f rfl hc1350 ?_
          refine CW.exit ?_
          refine QW.then_exit ?_
          refine QW.then_exit ?_
          refine QW.block_here ?_
          obtain rfl := Option.some.inj hl1348
          exact QW.meet (fun a ha => ⟨(), rfl, ha.agrees (by kernel_rfl), hst.keep [] rfl⟩)
      · rintro a w1 ⟨t829, rfl, ha, hst⟩
        refine CW.go ?_ ha
        refine CW.seq ?_
        refine CW.region ?_
        refine OW.pure 1 [(4, .bool false)] (by kernel_rfl) ?_
        refine OW.nil rfl ?_
        refine QW.next ?_
        refine CW.ret ?_
        obtain rfl := Option.some.inj hF
        refine QW.ret1 rfl rfl ?_
        exact ⟨rfl, hst.keep [] rfl⟩

set_option maxRecDepth 10000 in
theorem tappetref07_Next_ok (w : World) (fu : Nat) (v0 : Value) (p0 : List api_Inst) (p1 : Int) (r : (List Int) × Int) (hF : tappetref07_Next fu p0 p1 = some r)
    (hst : St w (fp []) w []) (h0 : Rd w (fp []) v0 enc_api_Inst 5 p0) :
    Calls Tryd.prog 18 [v0, .int .i64 p1].toArray w (fun e w' => ∃ (x0 : Value), e = .returned (.tuple #[x0, .int .i64 r.2]) ∧ St w (fp []) w' [rowI x0 3 (encInt .i64) 1 r.1]) := by
  refine CW.start (N := 66) Tryd.func18 rfl rfl rfl ?_
  obtain ⟨l1, a2, c3, rfl⟩ := h0.len
  refine CW.seq ?_
  refine CW.region ?_
  refine OW.pure 2 [] (by kernel_rfl) ?_
  refine OW.nil rfl ?_
  refine QW.next ?_
  refine CW.seq ?_
  refine CW.region ?_
  refine OW.pure 1 [(14, .slice a2 (p0).length c3)] (by kernel_rfl) ?_
  obtain ⟨r8, hr9, hF⟩ := bind_some' hF
  refine OW.fn rfl rfl rfl rfl (by kernel_rfl) (tappetref07_Check_ok _ fu (.slice a2 (p0).length c3) p0 r8 hr9 (hst.part [] rfl) (h0.give hst [])) ?_
  rintro e w10 ⟨rfl, hst11⟩
  refine ⟨_, rfl, ?_⟩
  have hst := hst.join (idx := []) (rest := []) rfl hst11
  refine OW.pure 5 [(7, .int .i64 r8.2)] (by kernel_rfl) ?_
  refine OW.nil rfl ?_
  refine QW.next ?_
  refine CW.seq ?_
  refine CW.seq ?_
  refine CW.region ?_
  refine OW.pure 2 [(19, .bool (r8.2 != 0))] (by kernel_rfl) ?_
  refine OW.nil rfl ?_
  refine QW.next ?_
  rcases Bool.eq_false_or_eq_true ((r8.2 != 0)) with hc12 | hc12
  · have hF := ite_t hF hc12
    refine CW.cond_t rfl hc12 ?_
    refine CW.seq ?_
    refine CW.region ?_
    refine OW.pure 3 [(4, .slice none 0 0), (5, .int .i64 r8.2)] (by kernel_rfl) ?_
    refine OW.nil rfl ?_
    refine QW.next ?_
    refine CW.ret ?_
    refine QW.then_ret ?_
    have hst := hst.nilRow Int 3 (encInt .i64) 1
    obtain rfl := Option.some.inj hF
    refine QW.ret2 rfl rfl rfl ?_
    exact ⟨(.slice none 0 0), rfl, hst.keep [0] rfl⟩
  · have hF := ite_f hF hc12
    refine CW.cond_f rfl hc12 ?_
    refine CW.skip ?_
    refine QW.next ?_
    refine CW.seq ?_
    refine CW.seq ?_
    refine CW.cutK (fun a w1 => Rep 66 [(0, .slice a2 (p0).length c3), (1, .int .i64 p1), (28, .bool (decide (p1 < 0) || decide (p1 ≥ (((p0).length) : Int))))] a ∧ St w (fp []) w1 []) ?_ ?_
    · refine CW.region ?_
      refine OW.pure 3 [(23, .bool (decide (p1 < 0)))] (by kernel_rfl) ?_
      refine OW.split 23 rfl (fun hc13 => ?_) (fun hc13 => ?_)
      · refine OW.pure 5 [(28, .bool true)] (by kernel_rfl) ?_
        refine OW.nil rfl ?_
        refine QW.say 28 (v := .bool (decide (p1 < 0) || decide (p1 ≥ (((p0).length) : Int)))) rfl (by first | (rw [hc13]; done) | (rw [hc13]; rfl) | simp [hc13]) ?_
        exact QW.meet (fun a ha => ⟨ha.agrees (by kernel_rfl), hst.keep [] rfl⟩)
      · refine OW.pure 5 [(28, .bool (decide (p1 ≥ (((p0).length) : Int))))] (by kernel_rfl) ?_
        refine OW.nil rfl ?_
        refine QW.say 28 (v := .bool (decide (p1 < 0) || decide (p1 ≥ (((p0).length) : Int)))) rfl (by first | (rw [hc13]; done) | (rw [hc13]; rfl) | simp [hc13]) ?_
        exact QW.meet (fun a ha => ⟨ha.agrees (by kernel_rfl), hst.keep [] rfl⟩)
    · rintro a w1 ⟨ha, hst⟩
      refine CW.go ?_ ha
      rcases Bool.eq_false_or_eq_true ((decide (p1 < 0) || decide (p1 ≥ (((p0).length) : Int)))) with hc14 | hc14
      · have hF := ite_t hF hc14
        refine CW.cond_t rfl hc14 ?_
        refine CW.seq ?_
        refine CW.region ?_
        refine OW.pure 2 [(4, .slice none 0 0), (5, .int .i64 2)] (by kernel_rfl) ?_
        refine OW.nil rfl ?_
        refine QW.next ?_
        refine CW.ret ?_
        refine QW.then_ret ?_
        have hst := hst.nilRow Int 3 (encInt .i64) 1
        obtain rfl := Option.some.inj hF
        refine QW.ret2 rfl rfl rfl ?_
        exact ⟨(.slice none 0 0), rfl, hst.keep [0] rfl⟩
      · have hF := ite_f hF hc14
        refine CW.cond_f rfl hc14 ?_
        refine CW.skip ?_
        refine QW.next ?_
        refine CW.seq ?_
        refine CW.region ?_
        refine OW.pure 2 [(30, .slice a2 (p0).length c3), (31, .int .i64 p1)] (by kernel_rfl) ?_
        obtain ⟨x25, hx26, hF⟩ := bind_some' hF
        obtain ⟨g28, o29, c30, hv27⟩ := h0.formv (fun _ => ⟨_, rfl⟩) hx26
        refine OW.idx 32 5 rfl rfl rfl rfl hv27 rfl (idx_some hx26).1 (idx_some hx26).2.1 (by kernel_rfl) (by kernel_rfl) ?_
        refine OW.ldN (cs := enc_api_Inst x25) rfl rfl rfl rfl (by kernel_rfl) (by kernel_rfl) (h0.cellv hst hx26 hv27) ?_
        obtain ⟨r31, hr32, hF⟩ := bind_some' hF
        refine OW.fn rfl rfl rfl rfl (by kernel_rfl) (tappetref02_Goes_ok _ x25 r31 hr32 (hst.part [] rfl)) ?_
        rintro e w33 ⟨rfl, hst34⟩
        refine ⟨_, rfl, ?_⟩
        have hst := hst.join (idx := []) (rest := []) rfl hst34
        refine OW.pure 7 [(8, .int .i64 r31.1), (9, .bool r31.2.1), (10, .bool r31.2.2)] (by kernel_rfl) ?_
        refine OW.nil rfl ?_
        refine QW.next ?_
        refine CW.seq ?_
        refine CW.region ?_
        refine OW.pure 1 [(11, .slice none 0 0)] (by kernel_rfl) ?_
        refine OW.nil rfl ?_
        refine QW.next ?_
        refine CW.seq ?_
        refine CW.seq ?_
        refine CW.region ?_
        refine OW.pure 1 [(12, .int .i64 0)] (by kernel_rfl) ?_
        refine OW.nil rfl ?_
        refine QW.next ?_
        obtain ⟨o128, ho129, hF⟩ := bind_some' hF
        refine CW.cutK (fun a w1 => ∃ (v127 : Value), Rep 66 [(11, v127)] a ∧ St w (fp []) w1 [rowI v127 3 (encInt .i64) 1 o128]) ?_ ?_
        · refine CW.block ?_
          have hst := hst.nilRow Int 3 (encInt .i64) 1
          refine CW.loop (fun n a w1 => ∃ (i192 : Nat) (s190 : (List Int)) (v191 : Value), i192 + n = (p0).length ∧ Rep 66 [(0, .slice a2 (p0).length c3), (1, .int .i64 p1), (8, .int .i64 r31.1), (9, .bool r31.2.1), (10, .bool r31.2.2), (11, v191), (12, .int .i64 (i192 : Int))] a ∧ St w (fp []) w1 [rowI v191 3 (encInt .i64) 1 s190] ∧ forN (tappetref07_Next_l1 p1 r31) (fun (s190 : (List Int)) => s190) n i192 s190 = some o128) ((p0).length) (fun a ha => ⟨0, ([] : List Int), (.slice none 0 0), Nat.zero_add _, ha.agrees (by kernel_rfl), hst.keep [0] rfl, ho129⟩) ?_
          rintro n188 a w1 ⟨i192, s190, v191, hi193, ha, hst, hl189⟩
          refine CW.go ?_ ha
          obtain ⟨l194, a195, c196, rfl⟩ := hst.len 0 rfl
          refine CW.seq ?_
          refine CW.seq ?_
          refine CW.region ?_
          refine OW.pure 4 [(41, .bool (decide ((i192 : Int) < (((p0).length) : Int))))] (by kernel_rfl) ?_
          refine OW.nil rfl ?_
          refine QW.next ?_
          rcases Bool.eq_false_or_eq_true (decide ((i192 : Int) < (((p0).length) : Int))) with hc197 | hc197
          · rcases n188 with _ | n188
            · exact (cnt0 hi193 hc197).elim
            refine CW.cond_t rfl hc197 ?_
            refine CW.skip ?_
            refine QW.next ?_
            refine CW.seq ?_
            refine CW.block ?_
            refine CW.seq ?_
            refine CW.cutK (fun a w1 => Rep 66 [(0, .slice a2 (p0).length c3), (1, .int .i64 p1), (8, .int .i64 r31.1), (9, .bool r31.2.1), (10, .bool r31.2.2), (11, .slice a195 (s190).length c196), (12, .int .i64 (i192 : Int)), (60, .bool ((r31.2.1 && ((i192 : Int) == (w64 (p1 + r31.1)))) || (r31.2.2 && ((i192 : Int) == (w64 (p1 + 1))))))] a ∧ St w (fp []) w1 [rowI (.slice a195 (s190).length c196) 3 (encInt .i64) 1 s190]) ?_ ?_
            · refine CW.region ?_
              refine OW.pure 2 [(45, .bool r31.2.1)] (by kernel_rfl) ?_
              refine OW.split 45 rfl (fun hc198 => ?_) (fun hc198 => ?_)
              · refine OW.pure 7 [(52, .bool ((i192 : Int) == (w64 (p1 + r31.1))))] (by kernel_rfl) ?_
                refine OW.split 52 rfl (fun hc199 => ?_) (fun hc199 => ?_)
                · refine OW.pure 8 [(60, .bool true)] (by kernel_rfl) ?_
                  refine OW.nil rfl ?_
                  refine QW.say 60 (v := .bool ((r31.2.1 && ((i192 : Int) == (w64 (p1 + r31.1)))) || (r31.2.2 && ((i192 : Int) == (w64 (p1 + 1)))))) rfl (by first | (rw [hc198, hc199]; done) | (rw [hc198, hc199]; rfl) | simp [hc198, hc199]) ?_
                  exact QW.meet (fun a ha => ⟨ha.agrees (by kernel_rfl), hst.keep [0] rfl⟩)
                · refine OW.pure 2 [(54, .bool r31.2.2)] (by kernel_rfl) ?_
                  refine OW.split 54 rfl (fun hc200 => ?_) (fun hc200 => ?_)
                  · refine OW.pure 6 [(60, .bool ((i192 : Int) == (w64 (p1 + 1))))] (by kernel_rfl) ?_
                    refine OW.nil rfl ?_
                    refine QW.say 60 (v := .bool ((r31.2.1 && ((i192 : Int) == (w64 (p1 + r31.1)))) || (r31.2.2 && ((i192 : Int) == (w64 (p1 + 1)))))) rfl (by first | (rw [hc198, hc199, hc200]; done) | (rw [hc198, hc199, hc200]; rfl) | simp [hc198, hc199, hc200]) ?_
                    exact QW.meet (fun a ha => ⟨ha.agrees (by kernel_rfl), hst.keep [0] rfl⟩)
                  · refine OW.pure 6 [(60, .bool false)] (by kernel_rfl) ?_
                    refine OW.nil rfl ?_
                    refine QW.say 60 (v := .bool ((r31.2.1 && ((i192 : Int) == (w64 (p1 + r31.1)))) || (r31.2.2 && ((i192 : Int) == (w64 (p1 + 1)))))) rfl (by first | (rw [hc198, hc199, hc200]; done) | (rw [hc198, hc199, hc200]; rfl) | simp [hc198, hc199, hc200]) ?_
                    exact QW.meet (fun a ha => ⟨ha.agrees (by kernel_rfl), hst.keep [0] rfl⟩)
              · refine OW.pure 9 [(52, .bool false), (54, .bool r31.2.2)] (by kernel_rfl) ?_
                refine OW.split 54 rfl (fun hc201 => ?_) (fun hc201 => ?_)
                · refine OW.pure 6 [(60, .bool ((i192 : Int) == (w64 (p1 + 1))))] (by kernel_rfl) ?_
                  refine OW.nil rfl ?_
                  refine QW.say 60 (v := .bool ((r31.2.1 && ((i192 : Int) == (w64 (p1 + r31.1)))) || (r31.2.2 && ((i192 : Int) == (w64 (p1 + 1)))))) rfl (by first | (rw [hc198, hc201]; done) | (rw [hc198, hc201]; rfl) | simp [hc198, hc201]) ?_
                  exact QW.meet (fun a ha => ⟨ha.agrees (by kernel_rfl), hst.keep [0] rfl⟩)
                · refine OW.pure 6 [(60, .bool false)] (by kernel_rfl) ?_
                  refine OW.nil rfl ?_
                  refine QW.say 60 (v := .bool ((r31.2.1 && ((i192 : Int) == (w64 (p1 + r31.1)))) || (r31.2.2 && ((i192 : Int) == (w64 (p1 + 1)))))) rfl (by first | (rw [hc198, hc201]; done) | (rw [hc198, hc201]; rfl) | simp [hc198, hc201]) ?_
                  exact QW.meet (fun a ha => ⟨ha.agrees (by kernel_rfl), hst.keep [0] rfl⟩)
            · rintro a w1 ⟨ha, hst⟩
              refine CW.go ?_ ha
              rcases Bool.eq_false_or_eq_true (((r31.2.1 && ((i192 : Int) == (w64 (p1 + r31.1)))) || (r31.2.2 && ((i192 : Int) == (w64 (p1 + 1)))))) with hc202 | hc202
              · have hl189 := ite_t hl189 hc202
                refine CW.cond_t rfl hc202 ?_
                refine CW.region ?_
                refine OW.pure 2 [(61, .slice a195 (s190).length c196), (62, .int .i64 (i192 : Int))] (by kernel_rfl) ?_
                refine OW.row (α := Int) (e := 3) (enc := encInt .i64) (sz := 1) hst rfl rfl rfl [(i192 : Int)] rfl (fun _ => rfl) rfl rfl (fun _ => by kernel_rfl) ?_
                intro g212 w213 hst
                obtain ⟨u214, hr215, hl189⟩ := bind_some' hl189
                refine OW.app hst 0 rfl (fun _ => rfl) (fun _ => rfl) rfl rfl rfl rfl rfl rfl (by kernel_rfl) el3 (hst.rd 1 rfl (fun _ => rfl) [] rfl (hst.len 1 rfl).1) (room_le hr215) ?_
                intro v216 w217 hst
                obtain ⟨l218, a219, c220, rfl⟩ := hst.len 0 rfl
                refine OW.pure 1 [(11, .slice a219 ((s190 ++ [(i192 : Int)])).length c220)] (by kernel_rfl) ?_
                refine OW.nil rfl ?_
                refine QW.block_normal ?_
                refine QW.next ?_
                refine CW.region ?_
                refine OW.pure 3 [(12, .int .i64 (w64 ((i192 : Int) + 1)))] (by kernel_rfl) ?_
                refine OW.nil rfl ?_
                refine QW.say 12 rfl (congrArg (Value.int .i64) (w64_cnt hc197 l1)) ?_
                exact QW.meet (fun a ha => ⟨n188, Nat.lt_succ_self _, i192 + 1, (s190 ++ [(i192 : Int)]), (.slice a219 ((s190 ++ [(i192 : Int)])).length c220), cnt_next hi193, ha.agrees (by kernel_rfl), hst.keep [0] rfl, hl189⟩)
              · have hl189 := ite_f hl189 hc202
                refine CW.cond_f rfl hc202 ?_
                refine CW.skip ?_
                refine QW.block_normal ?_
                refine QW.next ?_
                refine CW.region ?_
                refine OW.pure 3 [(12, .int .i64 (w64 ((i192 : Int) + 1)))] (by kernel_rfl) ?_
                refine OW.nil rfl ?_
                refine QW.say 12 rfl (congrArg (Value.int .i64) (w64_cnt hc197 l1)) ?_
                exact QW.meet (fun a ha => ⟨n188, Nat.lt_succ_self _, i192 + 1, s190, (.slice a195 (s190).length c196), cnt_next hi193, ha.agrees (by kernel_rfl), hst.keep [0] rfl, hl189⟩)
          · rcases n188 with _ | n188
            · refine CW.cond_f rfl hc197 ?_
              refine CW.exit ?_
              refine QW.then_exit ?_
              refine QW.then_exit ?_
              refine QW.block_here ?_
              obtain rfl := Option.some.inj hl189
              exact QW.meet (fun a ha => ⟨(.slice a195 (s190).length c196), ha.agrees (by kernel_rfl), hst.keep [0] rfl⟩)
            · exact (cnt1 hi193 hc197).elim
        · rintro a w1 ⟨v127, ha, hst⟩
          refine CW.go ?_ ha
          obtain ⟨l224, a225, c226, rfl⟩ := hst.len 0 rfl
          refine CW.seq ?_
          refine CW.region ?_
          refine OW.pure 3 [(4, .slice a225 (o128).length c226), (5, .int .i64 0)] (by kernel_rfl) ?_
          refine OW.nil rfl ?_
          refine QW.next ?_
          refine CW.ret ?_
          obtain rfl := Option.some.inj hF
          refine QW.ret2 rfl rfl rfl ?_
          exact ⟨(.slice a225 (o128).length c226), rfl, hst.keep [0] rfl⟩

set_option maxRecDepth 10000 in
theorem tappetref07_Around_ok (w : World) (fu : Nat) (v0 : Value) (p0 : List api_Inst) (p1 : Int) (r : (List Int) × Int) (hF : tappetref07_Around fu p0 p1 = some r)
    (hst : St w (fp []) w []) (h0 : Rd w (fp []) v0 enc_api_Inst 5 p0) :
    Calls Tryd.prog 19 [v0, .int .i64 p1].toArray w (fun e w' => ∃ (x0 : Value), e = .returned (.tuple #[x0, .int .i64 r.2]) ∧ St w (fp []) w' [rowI x0 3 (encInt .i64) 1 r.1]) := by
  refine CW.start (N := 29) Tryd.func19 rfl rfl rfl ?_
  obtain ⟨l1, a2, c3, rfl⟩ := h0.len
  refine CW.seq ?_
  refine CW.region ?_
  refine OW.pure 2 [] (by kernel_rfl) ?_
  refine OW.nil rfl ?_
  refine QW.next ?_
  refine CW.seq ?_
  refine CW.region ?_
  refine OW.pure 1 [(9, .slice a2 (p0).length c3)] (by kernel_rfl) ?_
  obtain ⟨r8, hr9, hF⟩ := bind_some' hF
  refine OW.fn rfl rfl rfl rfl (by kernel_rfl) (tappetref07_Check_ok _ fu (.slice a2 (p0).length c3) p0 r8 hr9 (hst.part [] rfl) (h0.give hst [])) ?_
  rintro e w10 ⟨rfl, hst11⟩
  refine ⟨_, rfl, ?_⟩
  have hst := hst.join (idx := []) (rest := []) rfl hst11
  refine OW.pure 5 [(7, .int .i64 r8.2)] (by kernel_rfl) ?_
  refine OW.nil rfl ?_
  refine QW.next ?_
  refine CW.seq ?_
  refine CW.seq ?_
  refine CW.region ?_
  refine OW.pure 2 [(14, .bool (r8.2 != 0))] (by kernel_rfl) ?_
  refine OW.nil rfl ?_
  refine QW.next ?_
  rcases Bool.eq_false_or_eq_true ((r8.2 != 0)) with hc12 | hc12
  · have hF := ite_t hF hc12
    refine CW.cond_t rfl hc12 ?_
    refine CW.seq ?_
    refine CW.region ?_
    refine OW.pure 3 [(4, .slice none 0 0), (5, .int .i64 r8.2)] (by kernel_rfl) ?_
    refine OW.nil rfl ?_
    refine QW.next ?_
    refine CW.ret ?_
    refine QW.then_ret ?_
    have hst := hst.nilRow Int 3 (encInt .i64) 1
    obtain rfl := Option.some.inj hF
    refine QW.ret2 rfl rfl rfl ?_
    exact ⟨(.slice none 0 0), rfl, hst.keep [0] rfl⟩
  · have hF := ite_f hF hc12
    refine CW.cond_f rfl hc12 ?_
    refine CW.skip ?_
    refine QW.next ?_
    refine CW.seq ?_
    refine CW.seq ?_
    refine CW.cutK (fun a w1 => Rep 29 [(0, .slice a2 (p0).length c3), (1, .int .i64 p1), (23, .bool (decide (p1 < 0) || decide (p1 ≥ (((p0).length) : Int))))] a ∧ St w (fp []) w1 []) ?_ ?_
    · refine CW.region ?_
      refine OW.pure 3 [(18, .bool (decide (p1 < 0)))] (by kernel_rfl) ?_
      refine OW.split 18 rfl (fun hc13 => ?_) (fun hc13 => ?_)
      · refine OW.pure 5 [(23, .bool true)] (by kernel_rfl) ?_
        refine OW.nil rfl ?_
        refine QW.say 23 (v := .bool (decide (p1 < 0) || decide (p1 ≥ (((p0).length) : Int)))) rfl (by first | (rw [hc13]; done) | (rw [hc13]; rfl) | simp [hc13]) ?_
        exact QW.meet (fun a ha => ⟨ha.agrees (by kernel_rfl), hst.keep [] rfl⟩)
      · refine OW.pure 5 [(23, .bool (decide (p1 ≥ (((p0).length) : Int))))] (by kernel_rfl) ?_
        refine OW.nil rfl ?_
        refine QW.say 23 (v := .bool (decide (p1 < 0) || decide (p1 ≥ (((p0).length) : Int)))) rfl (by first | (rw [hc13]; done) | (rw [hc13]; rfl) | simp [hc13]) ?_
        exact QW.meet (fun a ha => ⟨ha.agrees (by kernel_rfl), hst.keep [] rfl⟩)
    · rintro a w1 ⟨ha, hst⟩
      refine CW.go ?_ ha
      rcases Bool.eq_false_or_eq_true ((decide (p1 < 0) || decide (p1 ≥ (((p0).length) : Int)))) with hc14 | hc14
      · have hF := ite_t hF hc14
        refine CW.cond_t rfl hc14 ?_
        refine CW.seq ?_
        refine CW.region ?_
        refine OW.pure 2 [(4, .slice none 0 0), (5, .int .i64 2)] (by kernel_rfl) ?_
        refine OW.nil rfl ?_
        refine QW.next ?_
        refine CW.ret ?_
        refine QW.then_ret ?_
        have hst := hst.nilRow Int 3 (encInt .i64) 1
        obtain rfl := Option.some.inj hF
        refine QW.ret2 rfl rfl rfl ?_
        exact ⟨(.slice none 0 0), rfl, hst.keep [0] rfl⟩
      · have hF := ite_f hF hc14
        refine CW.cond_f rfl hc14 ?_
        refine CW.skip ?_
        refine QW.next ?_
        refine CW.seq ?_
        refine CW.region ?_
        refine OW.pure 1 [(24, .slice a2 (p0).length c3)] (by kernel_rfl) ?_
        obtain ⟨r36, hr37, hF⟩ := bind_some' hF
        refine OW.fn rfl rfl rfl rfl (by kernel_rfl) (tappetref07_bodies_ok _ fu (.slice a2 (p0).length c3) p0 r36 hr37 (hst.part [] rfl) (h0.give hst [])) ?_
        rintro e w38 ⟨v40, cv40, Sv40, rfl, hst39⟩
        refine ⟨_, rfl, ?_⟩
        have hst := hst.join (idx := []) (rest := []) rfl hst39
        obtain ⟨l41, a42, c43, rfl⟩ := hst.bunLen 0 1 rfl rfl
        refine OW.pure 1 [(26, .int .i64 p1)] (by kernel_rfl) ?_
        obtain ⟨x44, hx45, hF⟩ := bind_some' hF
        obtain ⟨cs49, S50, hk51, _, _⟩ := hst.bunAt 1 rfl hx45
        obtain ⟨g47, c48, hv46⟩ := hst.rowv 0 rfl hk51
        refine OW.idx 41 1 rfl rfl rfl rfl hv46 rfl (idx_some hk51).1 (idx_some hk51).2.1 (by kernel_rfl) (by kernel_rfl) ?_
        obtain ⟨S52, hst⟩ := hst.outc 1 rfl hx45 hk51
        obtain ⟨v53, rfl, hst⟩ := hst.toRow 2 rfl
        refine OW.ld rfl rfl rfl rfl (by kernel_rfl) (hst.rowc 0 rfl (fun _ => fit_len _ _) hk51 hv46 0 _ rfl) ?_
        obtain ⟨l54, a55, c56, rfl⟩ := hst.len 2 rfl
        refine OW.pure 2 [(4, .slice a55 (x44).length c56), (5, .int .i64 0)] (by kernel_rfl) ?_
        refine OW.nil rfl ?_
        refine QW.next ?_
        refine CW.ret ?_
        have hst := hst.toIt 2 rfl (fun _ => rfl) (by decide)
        have hst := hst.back 1 2 rfl rfl rfl hx45 hk51
        have hst := hst.keep [0, 1] rfl
        obtain ⟨S57, hst⟩ := hst.outc 1 rfl hx45 hk51
        obtain ⟨v58, hce, hst⟩ := hst.toRow 2 rfl
        obtain rfl := (List.cons.inj hce).1
        obtain rfl := Option.some.inj hF
        refine QW.ret2 rfl rfl rfl ?_
        exact ⟨(.slice a55 (x44).length c56), rfl, hst.keep [2] rfl⟩

set_option maxRecDepth 10000 in
theorem tappetlaw07_ints_ok (w : World) (v0 : Value) (p0 : List Int) (v1 : Value) (p1 : List Int) (r : Bool) (hF : tappetlaw07_ints p0 p1 = some r)
    (hst : St w (fp []) w []) (h0 : Rd w (fp []) v0 (encInt .i64) 1 p0) (h1 : Rd w (fp []) v1 (encInt .i64) 1 p1) :
    Calls Tryd.prog 20 [v0, v1].toArray w (fun e w' => e = .returned (.bool r) ∧ St w (fp []) w' []) := by
  refine CW.start (N := 26) Tryd.func20 rfl rfl rfl ?_
  obtain ⟨l1, a2, c3, rfl⟩ := h0.len
  obtain ⟨l4, a5, c6, rfl⟩ := h1.len
  refine CW.seq ?_
  refine CW.region ?_
  refine OW.pure 1 [] (by kernel_rfl) ?_
  refine OW.nil rfl ?_
  refine QW.next ?_
  refine CW.seq ?_
  refine CW.seq ?_
  refine CW.region ?_
  refine OW.pure 5 [(10, .bool ((((p0).length) : Int) != (((p1).length) : Int)))] (by kernel_rfl) ?_
  refine OW.nil rfl ?_
  refine QW.next ?_
  rcases Bool.eq_false_or_eq_true (((((p0).length) : Int) != (((p1).length) : Int))) with hc7 | hc7
  · have hF := ite_t hF hc7
    refine CW.cond_t rfl hc7 ?_
    refine CW.seq ?_
    refine CW.region ?_
    refine OW.pure 1 [(4, .bool false)] (by kernel_rfl) ?_
    refine OW.nil rfl ?_
    refine QW.next ?_
    refine CW.ret ?_
    refine QW.then_ret ?_
    obtain rfl := Option.some.inj hF
    refine QW.ret1 rfl rfl ?_
    exact ⟨rfl, hst.keep [] rfl⟩
  · have hF := ite_f hF hc7
    refine CW.cond_f rfl hc7 ?_
    refine CW.skip ?_
    refine QW.next ?_
    refine CW.seq ?_
    refine CW.seq ?_
    refine CW.region ?_
    refine OW.pure 1 [(5, .int .i64 0)] (by kernel_rfl) ?_
    refine OW.nil rfl ?_
    refine QW.next ?_
    obtain ⟨o104, ho105, hF⟩ := bind_some' hF
    refine CW.cutK (fun a w1 => ∃ (t106 : Unit), o104 = .inl t106 ∧ Rep 26 [] a ∧ St w (fp []) w1 []) ?_ ?_
    · refine CW.block ?_
      refine CW.loop (fun n a w1 => ∃ (i171 : Nat) (s170 : Unit), i171 + n = (p0).length ∧ Rep 26 [(0, .slice a2 (p0).length c3), (1, .slice a5 (p1).length c6), (5, .int .i64 (i171 : Int))] a ∧ St w (fp []) w1 [] ∧ forN (tappetlaw07_ints_l1 p0 p1) (fun (s170 : Unit) => (.inl ())) n i171 s170 = some o104) ((p0).length) (fun a ha => ⟨0, (), Nat.zero_add _, ha.agrees (by kernel_rfl), hst.keep [] rfl, ho105⟩) ?_
      rintro n168 a w1 ⟨i171, s170, hi172, ha, hst, hl169⟩
      refine CW.go ?_ ha
      refine CW.seq ?_
      refine CW.seq ?_
      refine CW.region ?_
      refine OW.pure 4 [(14, .bool (decide ((i171 : Int) < (((p0).length) : Int))))] (by kernel_rfl) ?_
      refine OW.nil rfl ?_
      refine QW.next ?_
      rcases Bool.eq_false_or_eq_true (decide ((i171 : Int) < (((p0).length) : Int))) with hc173 | hc173
      · rcases n168 with _ | n168
        · exact (cnt0 hi172 hc173).elim
        refine CW.cond_t rfl hc173 ?_
        refine CW.skip ?_
        refine QW.next ?_
        refine CW.seq ?_
        refine CW.block ?_
        refine CW.seq ?_
        refine CW.still (by kernel_rfl) (by kernel_rfl) ?_
        intro w188 hch189
        have hst := hst.same hch189
        refine OS.pure 2 [(17, .slice a2 (p0).length c3), (18, .int .i64 (i171 : Int))] rfl (by kernel_rfl) ?_
        obtain ⟨x190, hx191, hl169⟩ := bind_some' hl169
        obtain ⟨g193, o194, c195, hv192⟩ := h0.formv (fun _ => ⟨_, rfl⟩) hx191
        refine OS.idx 3 1 rfl rfl rfl rfl rfl hv192 rfl (idx_some hx191).1 (idx_some hx191).2.1 (by kernel_rfl) (by kernel_rfl) ?_
        refine OS.ld rfl rfl rfl rfl rfl (by kernel_rfl) (h0.cellv hst hx191 hv192 0 _ rfl) ?_
        refine OS.pure 2 [(21, .slice a5 (p1).length c6), (22, .int .i64 (i171 : Int))] rfl (by kernel_rfl) ?_
        obtain ⟨x196, hx197, hl169⟩ := bind_some' hl169
        obtain ⟨g199, o200, c201, hv198⟩ := h1.formv (fun _ => ⟨_, rfl⟩) hx197
        refine OS.idx 3 1 rfl rfl rfl rfl rfl hv198 rfl (idx_some hx197).1 (idx_some hx197).2.1 (by kernel_rfl) (by kernel_rfl) ?_
        refine OS.ld rfl rfl rfl rfl rfl (by kernel_rfl) (h1.cellv hst hx197 hv198 0 _ rfl) ?_
        refine OS.pure 1 [(25, .bool (x190 != x196))] rfl (by kernel_rfl) ?_
        refine OS.fin rfl ?_
        refine QW.next ?_
        rcases Bool.eq_false_or_eq_true ((x190 != x196)) with hc202 | hc202
        · have hl169 := ite_t hl169 hc202
          refine CW.cond_t rfl hc202 ?_
          refine CW.seq ?_
          refine CW.region ?_
          refine OW.pure 1 [(4, .bool false)] (by kernel_rfl) ?_
          refine OW.nil rfl ?_
          refine QW.next ?_
          refine CW.ret ?_
          refine QW.block_ret ?_
          refine QW.then_ret ?_
          refine QW.then_ret ?_
          refine QW.block_ret ?_
          refine QW.then_ret ?_
          obtain rfl := Option.some.inj hl169
          obtain rfl := Option.some.inj hF
          refine QW.ret1 rfl rfl ?_
          exact ⟨rfl, hst.keep [] rfl⟩
        · have hl169 := ite_f hl169 hc202
          refine CW.cond_f rfl hc202 ?_
          refine CW.skip ?_
          refine QW.block_normal ?_
          refine QW.next ?_
          refine CW.region ?_
          refine OW.pure 3 [(5, .int .i64 (w64 ((i171 : Int) + 1)))] (by kernel_rfl) ?_
          refine OW.nil rfl ?_
          refine QW.say 5 rfl (congrArg (Value.int .i64) (w64_cnt hc173 l1)) ?_
          exact QW.meet (fun a ha => ⟨n168, Nat.lt_succ_self _, i171 + 1, (), cnt_next hi172, ha.agrees (by kernel_rfl), hst.keep [] rfl, hl169⟩)
      · rcases n168 with _ | n168
        · refine CW.cond_f rfl hc173 ?_
          refine CW.exit ?_
          refine QW.then_exit ?_
          refine QW.then_exit ?_
          refine QW.block_here ?_
          obtain rfl := Option.some.inj hl169
          exact QW.meet (fun a ha => ⟨(), rfl, ha.agrees (by kernel_rfl), hst.keep [] rfl⟩)
        · exact (cnt1 hi172 hc173).elim
    · rintro a w1 ⟨t106, rfl, ha, hst⟩
      refine CW.go ?_ ha
      refine CW.seq ?_
      refine CW.region ?_
      refine OW.pure 1 [(4, .bool true)] (by kernel_rfl) ?_
      refine OW.nil rfl ?_
      refine QW.next ?_
      refine CW.ret ?_
      obtain rfl := Option.some.inj hF
      refine QW.ret1 rfl rfl ?_
      exact ⟨rfl, hst.keep [] rfl⟩

set_option maxRecDepth 10000 in
theorem tappetlaw07_FlowNexts_ok (w : World) (fu : Nat) (v0 : Value) (p0 : List api_Inst) (p1 : Int) (r : Bool) (hF : tappetlaw07_FlowNexts fu p0 p1 = some r)
    (hst : St w (fp []) w []) (h0 : Rd w (fp []) v0 enc_api_Inst 5 p0) (hT0 : Rd w (fp []) (.slice (some ⟨0, 0, none⟩) 23 23) enc_ops_form 2 tab_g0) :
    Calls Tryd.prog 7 [v0, .int .i64 p1].toArray w (fun e w' => e = .returned (.bool r) ∧ St w (fp []) w' []) := by
  refine CW.start (N := 75) Tryd.func7 rfl rfl rfl ?_
  obtain ⟨l1, a2, c3, rfl⟩ := h0.len
  refine CW.seq ?_
  refine CW.region ?_
  refine OW.pure 1 [] (by kernel_rfl) ?_
  refine OW.nil rfl ?_
  refine QW.next ?_
  refine CW.seq ?_
  refine CW.seq ?_
  refine CW.region ?_
  obtain ⟨r8, hr9, hF⟩ := bind_some' hF
  refine OW.fn rfl rfl rfl rfl (by kernel_rfl) (tappetlaw07_awake_ok _ r8 hr9 (hst.part [] rfl) (hT0.give hst [])) ?_
  rintro e w10 ⟨rfl, hst11⟩
  refine ⟨_, rfl, ?_⟩
  have hst := hst.join (idx := []) (rest := []) rfl hst11
  refine OW.pure 1 [(16, .bool (!r8))] (by kernel_rfl) ?_
  refine OW.nil rfl ?_
  refine QW.next ?_
  rcases Bool.eq_false_or_eq_true ((!r8)) with hc12 | hc12
  · have hF := ite_t hF hc12
    refine CW.cond_t rfl hc12 ?_
    refine CW.seq ?_
    refine CW.region ?_
    refine OW.pure 1 [(4, .bool false)] (by kernel_rfl) ?_
    refine OW.nil rfl ?_
    refine QW.next ?_
    refine CW.ret ?_
    refine QW.then_ret ?_
    obtain rfl := Option.some.inj hF
    refine QW.ret1 rfl rfl ?_
    exact ⟨rfl, hst.keep [] rfl⟩
  · have hF := ite_f hF hc12
    refine CW.cond_f rfl hc12 ?_
    refine CW.skip ?_
    refine QW.next ?_
    refine CW.seq ?_
    refine CW.seq ?_
    refine CW.region ?_
    refine OW.pure 1 [(5, .int .i64 (-2))] (by kernel_rfl) ?_
    refine OW.nil rfl ?_
    refine QW.next ?_
    obtain ⟨o405, ho406, hF⟩ := bind_some' hF
    refine CW.cutK (fun a w1 => ∃ (t407 : Unit), o405 = .inl t407 ∧ Rep 75 [] a ∧ St w (fp []) w1 []) ?_ ?_
    · refine CW.block ?_
      refine CW.loop (fun n a w1 => ∃ (s668 : Int), Rep 75 [(0, .slice a2 (p0).length c3), (1, .int .i64 p1), (5, .int .i64 s668)] a ∧ St w (fp []) w1 [] ∧ loop (tappetlaw07_FlowNexts_l1 fu p0 p1) n s668 = some o405) fu (fun a ha => ⟨(-2), ha.agrees (by kernel_rfl), hst.keep [] rfl, ho406⟩) ?_
      rintro n666 a w1 ⟨s668, ha, hst, hl667⟩
      rcases n666 with _ | n666
      · exact (loop_zero hl667).elim
      refine CW.go ?_ ha
      refine CW.seq ?_
      refine CW.seq ?_
      refine CW.region ?_
      refine OW.pure 2 [(18, .bool (decide (s668 < 68)))] (by kernel_rfl) ?_
      refine OW.nil rfl ?_
      refine QW.next ?_
      rcases Bool.eq_false_or_eq_true (decide (s668 < 68)) with hc669 | hc669
      · have hl667 := ite_t hl667 hc669
        refine CW.cond_t rfl hc669 ?_
        refine CW.skip ?_
        refine QW.next ?_
        refine CW.seq ?_
        refine CW.block ?_
        refine CW.seq ?_
        refine CW.region ?_
        refine OW.pure 2 [(6, .int .i64 s668)] (by kernel_rfl) ?_
        refine OW.nil rfl ?_
        refine QW.next ?_
        refine CW.seq ?_
        refine CW.seq ?_
        refine CW.region ?_
        refine OW.pure 2 [(23, .bool (s668 == (-2)))] (by kernel_rfl) ?_
        refine OW.nil rfl ?_
        refine QW.next ?_
        obtain ⟨o671, ho672, hl667⟩ := bind_some' hl667
        refine CW.cutK (fun a w1 => Rep 75 [(0, .slice a2 (p0).length c3), (1, .int .i64 p1), (5, .int .i64 s668), (6, .int .i64 o671)] a ∧ St w (fp []) w1 []) ?_ ?_
        · rcases Bool.eq_false_or_eq_true ((s668 == (-2))) with hc673 | hc673
          · have ho672 := ite_t ho672 hc673
            refine CW.cond_t rfl hc673 ?_
            refine CW.region ?_
            refine OW.pure 2 [(6, .int .i64 p1)] (by kernel_rfl) ?_
            refine OW.nil rfl ?_
            obtain rfl := Option.some.inj ho672
            exact QW.meet (fun a ha => ⟨ha.agrees (by kernel_rfl), hst.keep [] rfl⟩)
          · have ho672 := ite_f ho672 hc673
            refine CW.cond_f rfl hc673 ?_
            refine CW.skip ?_
            obtain rfl := Option.some.inj ho672
            exact QW.meet (fun a ha => ⟨ha.agrees (by kernel_rfl), hst.keep [] rfl⟩)
        · rintro a w1 ⟨ha, hst⟩
          refine CW.go ?_ ha
          refine CW.seq ?_
          refine CW.region ?_
          refine OW.pure 1 [(26, .slice a2 (p0).length c3)] (by kernel_rfl) ?_
          obtain ⟨r690, hr691, hl667⟩ := bind_some' hl667
          refine OW.fn rfl rfl rfl rfl (by kernel_rfl) (tappetlaw07_copied_ok _ (.slice a2 (p0).length c3) p0 r690 hr691 (hst.part [] rfl) (h0.give hst [])) ?_
          rintro e w692 ⟨v694, rfl, hst693⟩
          refine ⟨_, rfl, ?_⟩
          have hst := hst.join (idx := []) (rest := []) rfl hst693
          obtain ⟨l695, a696, c697, rfl⟩ := hst.len 0 rfl
          refine OW.pure 1 [(28, .int .i64 o671)] (by kernel_rfl) ?_
          obtain ⟨r698, hr699, hl667⟩ := bind_some' hl667
          refine OW.fn rfl rfl rfl rfl (by kernel_rfl) (flow_Next_ok _ (.slice a696 (r690).length c697) r690 o671 r698 hr699 (hst.part [] rfl) (hst.rd 0 rfl (fun _ => rfl) [] rfl (hst.len 0 rfl).1) (hT0.give hst [])) ?_
          rintro e w700 ⟨v702, rfl, hst701⟩
          refine ⟨_, rfl, ?_⟩
          have hst := hst.join (idx := []) (rest := [0]) rfl hst701
          obtain ⟨l703, a704, c705, rfl⟩ := hst.len 0 rfl
          refine OW.pure 5 [(7, .slice a704 (r698.1).length c705), (8, .int .i64 r698.2)] (by kernel_rfl) ?_
          refine OW.nil rfl ?_
          refine QW.next ?_
          refine CW.seq ?_
          refine CW.region ?_
          refine OW.pure 2 [(33, .slice a2 (p0).length c3), (34, .int .i64 o671)] (by kernel_rfl) ?_
          obtain ⟨r714, hr715, hl667⟩ := bind_some' hl667
          refine OW.fn rfl rfl rfl rfl (by kernel_rfl) (tappetref07_Next_ok _ fu (.slice a2 (p0).length c3) p0 o671 r714 hr715 (hst.part [] rfl) (h0.give hst [])) ?_
          rintro e w716 ⟨v718, rfl, hst717⟩
          refine ⟨_, rfl, ?_⟩
          have hst := hst.join (idx := []) (rest := [0, 1]) rfl hst717
          obtain ⟨l719, a720, c721, rfl⟩ := hst.len 0 rfl
          refine OW.pure 5 [(9, .slice a720 (r714.1).length c721), (10, .int .i64 r714.2)] (by kernel_rfl) ?_
          refine OW.nil rfl ?_
          refine QW.next ?_
          refine CW.seq ?_
          refine CW.region ?_
          refine OW.pure 1 [(39, .slice a2 (p0).length c3)] (by kernel_rfl) ?_
          obtain ⟨r738, hr739, hl667⟩ := bind_some' hl667
          refine OW.fn rfl rfl rfl rfl (by kernel_rfl) (tappetlaw07_copied_ok _ (.slice a2 (p0).length c3) p0 r738 hr739 (hst.part [] rfl) (h0.give hst [])) ?_
          rintro e w740 ⟨v742, rfl, hst741⟩
          refine ⟨_, rfl, ?_⟩
          have hst := hst.join (idx := []) (rest := [0, 1, 2]) rfl hst741
          obtain ⟨l743, a744, c745, rfl⟩ := hst.len 0 rfl
          refine OW.pure 1 [(41, .int .i64 o671)] (by kernel_rfl) ?_
          obtain ⟨r746, hr747, hl667⟩ := bind_some' hl667
          refine OW.fn rfl rfl rfl rfl (by kernel_rfl) (flow_Around_ok _ (.slice a744 (r738).length c745) r738 o671 r746 hr747 (hst.part [] rfl) (hst.rd 0 rfl (fun _ => rfl) [] rfl (hst.len 0 rfl).1) (hT0.give hst [])) ?_
          rintro e w748 ⟨v750, rfl, hst749⟩
          refine ⟨_, rfl, ?_⟩
          have hst := hst.join (idx := []) (rest := [0, 1, 2, 3]) rfl hst749
          obtain ⟨l751, a752, c753, rfl⟩ := hst.len 0 rfl
          refine OW.pure 5 [(11, .slice a752 (r746.1).length c753), (12, .int .i64 r746.2)] (by kernel_rfl) ?_
          refine OW.nil rfl ?_
          refine QW.next ?_
          refine CW.seq ?_
          refine CW.region ?_
          refine OW.pure 2 [(46, .slice a2 (p0).length c3), (47, .int .i64 o671)] (by kernel_rfl) ?_
          obtain ⟨r762, hr763, hl667⟩ := bind_some' hl667
          refine OW.fn rfl rfl rfl rfl (by kernel_rfl) (tappetref07_Around_ok _ fu (.slice a2 (p0).length c3) p0 o671 r762 hr763 (hst.part [] rfl) (h0.give hst [])) ?_
          rintro e w764 ⟨v766, rfl, hst765⟩
          refine ⟨_, rfl, ?_⟩
          have hst := hst.join (idx := []) (rest := [0, 1, 2, 3, 4]) rfl hst765
          obtain ⟨l767, a768, c769, rfl⟩ := hst.len 0 rfl
          refine OW.pure 5 [(13, .slice a768 (r762.1).length c769), (14, .int .i64 r762.2)] (by kernel_rfl) ?_
          refine OW.nil rfl ?_
          refine QW.next ?_
          refine CW.seq ?_
          refine CW.seq ?_
          obtain ⟨o785, ho786, hl667⟩ := bind_some' hl667
          refine CW.cutK (fun a w1 => Rep 75 [(0, .slice a2 (p0).length c3), (1, .int .i64 p1), (5, .int .i64 s668), (70, .bool o785)] a ∧ St w (fp []) w1 []) ?_ ?_
          · refine CW.region ?_
            refine OW.pure 2 [(51, .slice a704 (r698.1).length c705), (52, .slice a720 (r714.1).length c721)] (by kernel_rfl) ?_
            obtain ⟨r787, hr788, ho786⟩ := bind_some' ho786
            refine OW.fn rfl rfl rfl rfl (by kernel_rfl) (tappetlaw07_ints_ok _ (.slice a704 (r698.1).length c705) r698.1 (.slice a720 (r714.1).length c721) r714.1 r787 hr788 (hst.part [] rfl) (hst.rd 4 rfl (fun _ => rfl) [] rfl (hst.len 4 rfl).1) (hst.rd 3 rfl (fun _ => rfl) [] rfl (hst.len 3 rfl).1)) ?_
            rintro e w789 ⟨rfl, hst790⟩
            refine ⟨_, rfl, ?_⟩
            have hst := hst.join (idx := []) (rest := [0, 1, 2, 3, 4, 5]) rfl hst790
            refine OW.pure 2 [(55, .bool (!r787))] (by kernel_rfl) ?_
            refine OW.split 55 rfl (fun hc791 => ?_) (fun hc791 => ?_)
            · have ho786 := ite_t ho786 hc791
              refine OW.pure 15 [(70, .bool true)] (by kernel_rfl) ?_
              refine OW.nil rfl ?_
              obtain rfl := Option.some.inj ho786
              exact QW.meet (fun a ha => ⟨ha.agrees (by kernel_rfl), hst.keep [] rfl⟩)
            · have ho786 := ite_f ho786 hc791
              refine OW.pure 5 [(60, .bool (r698.2 != r714.2))] (by kernel_rfl) ?_
              refine OW.split 60 rfl (fun hc792 => ?_) (fun hc792 => ?_)
              · have ho786 := ite_t ho786 hc792
                refine OW.pure 10 [(70, .bool true)] (by kernel_rfl) ?_
                refine OW.nil rfl ?_
                obtain rfl := Option.some.inj ho786
                exact QW.meet (fun a ha => ⟨ha.agrees (by kernel_rfl), hst.keep [] rfl⟩)
              · have ho786 := ite_f ho786 hc792
                refine OW.pure 2 [(61, .slice a752 (r746.1).length c753), (62, .slice a768 (r762.1).length c769)] (by kernel_rfl) ?_
                obtain ⟨r793, hr794, ho786⟩ := bind_some' ho786
                refine OW.fn rfl rfl rfl rfl (by kernel_rfl) (tappetlaw07_ints_ok _ (.slice a752 (r746.1).length c753) r746.1 (.slice a768 (r762.1).length c769) r762.1 r793 hr794 (hst.part [] rfl) (hst.rd 1 rfl (fun _ => rfl) [] rfl (hst.len 1 rfl).1) (hst.rd 0 rfl (fun _ => rfl) [] rfl (hst.len 0 rfl).1)) ?_
                rintro e w795 ⟨rfl, hst796⟩
                refine ⟨_, rfl, ?_⟩
                have hst := hst.join (idx := []) (rest := [0, 1, 2, 3, 4, 5]) rfl hst796
                refine OW.pure 3 [(66, .bool (!r793))] (by kernel_rfl) ?_
                refine OW.split 66 rfl (fun hc797 => ?_) (fun hc797 => ?_)
                · have ho786 := ite_t ho786 hc797
                  refine OW.pure 4 [(70, .bool true)] (by kernel_rfl) ?_
                  refine OW.nil rfl ?_
                  obtain rfl := Option.some.inj ho786
                  exact QW.meet (fun a ha => ⟨ha.agrees (by kernel_rfl), hst.keep [] rfl⟩)
                · have ho786 := ite_f ho786 hc797
                  refine OW.pure 4 [(70, .bool (r746.2 != r762.2))] (by kernel_rfl) ?_
                  refine OW.nil rfl ?_
                  obtain rfl := Option.some.inj ho786
                  exact QW.meet (fun a ha => ⟨ha.agrees (by kernel_rfl), hst.keep [] rfl⟩)
          · rintro a w1 ⟨ha, hst⟩
            refine CW.go ?_ ha
            rcases Bool.eq_false_or_eq_true (o785) with hc798 | hc798
            · have hl667 := ite_t hl667 hc798
              refine CW.cond_t rfl hc798 ?_
              refine CW.seq ?_
              refine CW.region ?_
              refine OW.pure 1 [(4, .bool false)] (by kernel_rfl) ?_
              refine OW.nil rfl ?_
              refine QW.next ?_
              refine CW.ret ?_
              refine QW.then_ret ?_
              refine QW.block_ret ?_
              refine QW.then_ret ?_
              refine QW.then_ret ?_
              refine QW.block_ret ?_
              refine QW.then_ret ?_
              obtain rfl := Option.some.inj hl667
              obtain rfl := Option.some.inj hF
              refine QW.ret1 rfl rfl ?_
              exact ⟨rfl, hst.keep [] rfl⟩
            · have hl667 := ite_f hl667 hc798
              refine CW.cond_f rfl hc798 ?_
              refine CW.skip ?_
              refine QW.next ?_
              refine CW.seq ?_
              refine CW.region ?_
              refine OW.pure 4 [(74, .bool (decide (s668 > (((p0).length) : Int))))] (by kernel_rfl) ?_
              refine OW.nil rfl ?_
              refine QW.next ?_
              rcases Bool.eq_false_or_eq_true (decide (s668 > (((p0).length) : Int))) with hc799 | hc799
              · have hl667 := ite_t hl667 hc799
                refine CW.cond_t rfl hc799 ?_
                refine CW.exit ?_
                refine QW.block_on rfl ?_
                refine QW.then_exit ?_
                refine QW.then_exit ?_
                refine QW.block_here ?_
                obtain rfl := Option.some.inj hl667
                exact QW.meet (fun a ha => ⟨(), rfl, ha.agrees (by kernel_rfl), hst.keep [] rfl⟩)
              · have hl667 := ite_f hl667 hc799
                refine CW.cond_f rfl hc799 ?_
                refine CW.skip ?_
                refine QW.block_normal ?_
                refine QW.next ?_
                refine CW.region ?_
                refine OW.pure 3 [(5, .int .i64 (w64 (s668 + 1)))] (by kernel_rfl) ?_
                refine OW.nil rfl ?_
                exact QW.meet (fun a ha => ⟨n666, Nat.lt_succ_self _, (w64 (s668 + 1)), ha.agrees (by kernel_rfl), hst.keep [] rfl, hl667⟩)
      · have hl667 := ite_f hl667 hc669
        refine CW.cond_f rfl hc669 ?_
        refine CW.exit ?_
        refine QW.then_exit ?_
        refine QW.then_exit ?_
        refine QW.block_here ?_
        obtain rfl := Option.some.inj hl667
        exact QW.meet (fun a ha => ⟨(), rfl, ha.agrees (by kernel_rfl), hst.keep [] rfl⟩)
    · rintro a w1 ⟨t407, rfl, ha, hst⟩
      refine CW.go ?_ ha
      refine CW.seq ?_
      refine CW.region ?_
      refine OW.pure 1 [(4, .bool true)] (by kernel_rfl) ?_
      refine OW.nil rfl ?_
      refine QW.next ?_
      refine CW.ret ?_
      obtain rfl := Option.some.inj hF
      refine QW.ret1 rfl rfl ?_
      exact ⟨rfl, hst.keep [] rfl⟩


end Go.Proofs.YtjhmkpklhajpcaaDoor

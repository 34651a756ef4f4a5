/- Written by a program (wip/gen): the walks: each Go function returns what its plain function computes. -/
import Derived.Test.YtpchniebplpboaaProg
import Derived.Test.YtpchniebplpboaaF1
import Derived.Test.YtpchniebplpboaaSq
import Derived.Test.YtpchniebplpboaaPart
import Derived.Test.YtpchniebplpboaaO1
import Derived.Test.YtpchniebplpboaaW1p7
set_option linter.unusedSimpArgs false
namespace Go.Proofs.Ytpchniebplpboaa
open Go.Sx
set_option linter.unusedVariables false
set_option maxRecDepth 10000
set_option maxHeartbeats 4000000
theorem tappetref27_Events_ok (w : World) (fu : Nat) (p0 : Int) (v1 : Value) (p1 : List api_Entry) (r : Int) (hF : tappetref27_Events fu p0 p1 = some r)
    (hst : St w (fp []) w []) (h1 : Rd w (fp []) v1 enc_api_Entry 22 p1) :
    Calls Try.prog 13 [I p0, v1].toArray w (fun e w' => e = .returned (I r) ∧ St w (fp []) w' []) := by
 refine CW.start (N := 118) Try.func13 rfl rfl rfl ?_
 obtain ⟨l1, a2, c3, rfl⟩ := h1.len
 refine rg ?_
 refine pu 1 [] (nx (CW.seq (rg ?_)))
 refine pu 1 [(5, I 0)] (nx ?_)
 obtain ⟨o1800, ho1801, hF⟩ := bs hF
 refine CW.cutK (fun a w1 => ∃ (t1802 : Unit), o1800 = .inl t1802 ∧ Rep 118 [] a ∧ St w (fp []) w1 []) ?_ ?_
 ·refine CW.block ?_
  refine CW.loop (fun n a w1 => ∃ (i2721 : Nat) (s2720 : Unit), i2721 + n = (p1).length ∧ Rep 118 [(0, I p0), (1, .slice a2 (p1).length c3), (5, I (i2721 : Int))] a ∧ St w (fp []) w1 [] ∧ forN (tappetref27_Events_l1 p0 p1) (fun (s2720 : Unit) => (.inl ())) n i2721 s2720 = some o1800) (p1).length (fun a ha => ⟨0, (), Nat.zero_add _, ha.ag, hst.keep [] rfl, ho1801⟩) ?_
  rintro n2718 a w1 ⟨i2721, s2720, hi2722, ha, hst, hl2719⟩
  refine CW.go ?_ ha
  refine CW.seq (rg ?_)
  refine pu 4 [(13, .bool (decide ((i2721 : Int) < ((p1).length : Int))))] (nx ?_)
  rcases bft (decide ((i2721 : Int) < ((p1).length : Int))) with hc2723 | hc2723
  ·rcases n2718 with _ | n2718
   ·exact (cnt0 hi2722 hc2723).elim
   refine CW.cond_t rfl hc2723 (CW.skip (QW.next (CW.seq (CW.block (rg ?_)))))
   refine pu 2 [(16, .slice a2 (p1).length c3), (17, I (i2721 : Int))] ?_
   obtain ⟨x2733, hx2734, hl2719⟩ := bs hl2719
   obtain ⟨g2736, o2737, c2738, hv2735⟩ := h1.formv (fun _ => ⟨_, rfl⟩) hx2734
   refine OW.idx 48 22 rfl rfl rfl rfl hv2735 rfl (idx_some hx2734).1 (idx_some hx2734).2.1 (by kernel_rfl) (by kernel_rfl) ?_
   refine OW.ldN (cs := enc_api_Entry x2733) rfl rfl rfl rfl (by kernel_rfl) (by kernel_rfl) (h1.cellv hst hx2734 hv2735) ?_
   refine OW.alloc hst rfl rfl rfl [I 0, I 0, I 0, I 0, I 0, I 0, I 0, I 0, I 0, I 0, I 0, I 0, U 0, U 0, I 0, .bool false, U 0, .bool false, U 0, U 0, U 0, I 0] (by kernel_rfl) ?_
   intro b2739 w2740 hst
   refine OW.stB hst 0 rfl rfl rfl rfl rfl (by kernel_rfl) rfl rfl [I x2733.What, I x2733.Task, I x2733.From, I x2733.Cmd, I x2733.Tag, I x2733.Event, I x2733.Hook, I x2733.Prog, I x2733.Version, I x2733.Pc, I x2733.Item.Map, I x2733.Item.Op, U x2733.Item.Key, U x2733.Item.Val, I x2733.Res.E, .bool x2733.Res.Found, U x2733.Res.Val, .bool x2733.Res.Out, U x2733.Res.OutKey, U x2733.Res.OutVal, U x2733.Val, I x2733.E] rfl ?_
   intro w2741 hst
   refine nx (CW.seq (CW.seq ?_))
   refine CW.cutK (fun a w1 => Rep 118 [(0, I p0), (1, .slice a2 (p1).length c3), (5, I (i2721 : Int)), (6, Pt b2739), (32, .bool (((x2733.What != 4) && (x2733.What != 5)) && (x2733.What != 10)))] a ∧ St w (fp []) w1 [blkI b2739 48 [I x2733.What, I x2733.Task, I x2733.From, I x2733.Cmd, I x2733.Tag, I x2733.Event, I x2733.Hook, I x2733.Prog, I x2733.Version, I x2733.Pc, I x2733.Item.Map, I x2733.Item.Op, U x2733.Item.Key, U x2733.Item.Val, I x2733.Res.E, .bool x2733.Res.Found, U x2733.Res.Val, .bool x2733.Res.Out, U x2733.Res.OutKey, U x2733.Res.OutVal, U x2733.Val, I x2733.E]]) ?_ ?_
   ·refine CW.region ?_
    refine pu 1 [(20, Pt b2739)] ?_
    refine OW.ld rfl rfl rfl rfl (by kernel_rfl) (hst.blk 0 rfl rfl) ?_
    refine pu 2 [(23, .bool (x2733.What != 4))] ?_
    refine OW.split 23 rfl (fun hc2742 => ?_) (fun hc2742 => ?_)
    ·refine pu 1 [(24, Pt b2739)] ?_
     refine OW.ld rfl rfl rfl rfl (by kernel_rfl) (hst.blk 0 rfl rfl) ?_
     refine pu 3 [(28, .bool (x2733.What != 5))] ?_
     refine OW.split 28 rfl (fun hc2743 => ?_) (fun hc2743 => ?_)
     ·refine pu 1 [(29, Pt b2739)] ?_
      refine OW.ld rfl rfl rfl rfl (by kernel_rfl) (hst.blk 0 rfl rfl) ?_
      refine pu 2 [(32, .bool (x2733.What != 10))] (OW.nil rfl ?_)
      refine QW.say 32 (v := .bool (((x2733.What != 4) && (x2733.What != 5)) && (x2733.What != 10))) rfl (by first | (rw [hc2742, hc2743]; done) | (rw [hc2742, hc2743]; rfl) | simp [hc2742, hc2743]) ?_
      exact QW.meet (fun a ha => ⟨ha.ag, hst.keep [0] rfl⟩)
     refine pu 4 [(32, .bool false)] (OW.nil rfl ?_)
     refine QW.say 32 (v := .bool (((x2733.What != 4) && (x2733.What != 5)) && (x2733.What != 10))) rfl (by first | (rw [hc2742, hc2743]; done) | (rw [hc2742, hc2743]; rfl) | simp [hc2742, hc2743]) ?_
     exact QW.meet (fun a ha => ⟨ha.ag, hst.keep [0] rfl⟩)
    refine pu 9 [(32, .bool false)] (OW.nil rfl ?_)
    refine QW.say 32 (v := .bool (((x2733.What != 4) && (x2733.What != 5)) && (x2733.What != 10))) rfl (by first | (rw [hc2742]; done) | (rw [hc2742]; rfl) | simp [hc2742]) ?_
    exact QW.meet (fun a ha => ⟨ha.ag, hst.keep [0] rfl⟩)
   rintro a w1 ⟨ha, hst⟩
   refine CW.go ?_ ha
   refine br ((((x2733.What != 4) && (x2733.What != 5)) && (x2733.What != 10))) hl2719 (fun hl2719 hc2744 => ?_) (fun hl2719 hc2744 => ?_)
   ·refine CW.exit (QW.then_exit ?_)
    refine QW.block_here (QW.next (CW.region ?_))
    refine pu 3 [(5, I (w64 ((i2721 : Int) + 1)))] (OW.nil rfl ?_)
    refine QW.say 5 rfl (congrArg (Value.int .i64) (w64_cnt hc2723 l1)) ?_
    exact QW.meet (fun a ha => ⟨n2718, Nat.lt_succ_self _, i2721 + 1, (), cnt_next hi2722, ha.ag, hst.keep [] rfl, hl2719⟩)
   refine CW.skip (QW.next (rg ?_))
   refine pu 1 [(7, I 0)] (nx (rg ?_))
   refine pu 1 [(8, .slice none 0 0)] (nx (CW.seq (rg ?_)))
   refine pu 1 [(9, I 0)] (nx ?_)
   obtain ⟨o3155, ho3156, hl2719⟩ := bs hl2719
   refine CW.cutK (fun a w1 => ∃ (v3154 : Value), Rep 118 [(0, I p0), (1, .slice a2 (p1).length c3), (5, I (i2721 : Int)), (6, Pt b2739), (7, I o3155.1), (8, v3154)] a ∧ St w (fp []) w1 [blkI b2739 48 [I x2733.What, I x2733.Task, I x2733.From, I x2733.Cmd, I x2733.Tag, I x2733.Event, I x2733.Hook, I x2733.Prog, I x2733.Version, I x2733.Pc, I x2733.Item.Map, I x2733.Item.Op, U x2733.Item.Key, U x2733.Item.Val, I x2733.Res.E, .bool x2733.Res.Found, U x2733.Res.Val, .bool x2733.Res.Out, U x2733.Res.OutKey, U x2733.Res.OutVal, U x2733.Val, I x2733.E], rowI v3154 3 (encInt .i64) 1 o3155.2]) ?_ ?_
   ·refine CW.block ?_
    obtain ⟨u3430, hr3431, ho3156⟩ := bs ho3156
    have hst := hst.nilRow Int 3 (encInt .i64) 1
    refine CW.loop (fun n a w1 => ∃ (i3428 : Nat) (s3426 : Int × (List Int)) (v3427 : Value), i3428 + n = i2721 ∧ Rep 118 [(0, I p0), (1, .slice a2 (p1).length c3), (5, I (i2721 : Int)), (6, Pt b2739), (7, I s3426.1), (8, v3427), (9, I (i3428 : Int))] a ∧ St w (fp []) w1 [blkI b2739 48 [I x2733.What, I x2733.Task, I x2733.From, I x2733.Cmd, I x2733.Tag, I x2733.Event, I x2733.Hook, I x2733.Prog, I x2733.Version, I x2733.Pc, I x2733.Item.Map, I x2733.Item.Op, U x2733.Item.Key, U x2733.Item.Val, I x2733.Res.E, .bool x2733.Res.Found, U x2733.Res.Val, .bool x2733.Res.Out, U x2733.Res.OutKey, U x2733.Res.OutVal, U x2733.Val, I x2733.E], rowI v3427 3 (encInt .i64) 1 s3426.2] ∧ forN (tappetref27_Events_l2 p1 x2733) (fun (s3426 : Int × (List Int)) => (s3426.1, s3426.2)) n i3428 s3426 = some o3155) i2721 (fun a ha => ⟨0, (0, ([] : List Int)), (.slice none 0 0), Nat.zero_add _, ha.ag, hst.keep [0, 1] rfl, ho3156⟩) ?_
    rintro n3424 a w1 ⟨i3428, s3426, v3427, hi3429, ha, hst, hl3425⟩
    refine CW.go ?_ ha
    obtain ⟨l3432, a3433, c3434, rfl⟩ := hst.len 1 rfl
    refine CW.seq (rg ?_)
    refine pu 3 [(35, .bool (decide ((i3428 : Int) < (i2721 : Int))))] (nx ?_)
    rcases bft (decide ((i3428 : Int) < (i2721 : Int))) with hc3435 | hc3435
    ·rcases n3424 with _ | n3424
     ·exact (cnt0 hi3429 hc3435).elim
     refine CW.cond_t rfl hc3435 (CW.skip (QW.next (CW.seq (CW.block (CW.seq (rg ?_))))))
     refine pu 2 [(38, .slice a2 (p1).length c3), (39, I (i3428 : Int))] ?_
     obtain ⟨x3442, hx3443, hl3425⟩ := bs hl3425
     obtain ⟨g3445, o3446, c3447, hv3444⟩ := h1.formv (fun _ => ⟨_, rfl⟩) hx3443
     refine OW.idx 48 22 rfl rfl rfl rfl hv3444 rfl (idx_some hx3443).1 (idx_some hx3443).2.1 (by kernel_rfl) (by kernel_rfl) ?_
     refine pu 1 [(41, .pointer (some ⟨g3445, o3446 + Int.toNat (i3428 : Int) * 22, none⟩))] ?_
     refine OW.ld rfl rfl rfl rfl (by kernel_rfl) (h1.cellv hst hx3443 hv3444 0 _ rfl) ?_
     refine pu 1 [(43, .bool (x3442.What == 4))] (nx ?_)
     obtain ⟨o3449, ho3450, hl3425⟩ := bs hl3425
     refine CW.cutK (fun a w1 => Rep 118 [(0, I p0), (1, .slice a2 (p1).length c3), (5, I (i2721 : Int)), (6, Pt b2739), (7, I o3449), (8, .slice a3433 (s3426.2).length c3434), (9, I (i3428 : Int))] a ∧ St w (fp []) w1 [blkI b2739 48 [I x2733.What, I x2733.Task, I x2733.From, I x2733.Cmd, I x2733.Tag, I x2733.Event, I x2733.Hook, I x2733.Prog, I x2733.Version, I x2733.Pc, I x2733.Item.Map, I x2733.Item.Op, U x2733.Item.Key, U x2733.Item.Val, I x2733.Res.E, .bool x2733.Res.Found, U x2733.Res.Val, .bool x2733.Res.Out, U x2733.Res.OutKey, U x2733.Res.OutVal, U x2733.Val, I x2733.E], rowI (.slice a3433 (s3426.2).length c3434) 3 (encInt .i64) 1 s3426.2]) ?_ ?_
     ·refine br ((x3442.What == 4)) ho3450 (fun ho3450 hc3451 => ?_) (fun ho3450 hc3451 => ?_)
      ·refine CW.region ?_
       refine pu 3 [(7, I (w64 (s3426.1 + 1)))] (OW.nil rfl ?_)
       obtain rfl := inj ho3450
       exact QW.meet (fun a ha => ⟨ha.ag, hst.keep [0, 1] rfl⟩)
      refine CW.skip ?_
      obtain rfl := inj ho3450
      exact QW.meet (fun a ha => ⟨ha.ag, hst.keep [0, 1] rfl⟩)
     rintro a w1 ⟨ha, hst⟩
     refine CW.go ?_ ha
     refine CW.seq (CW.seq ?_)
     refine CW.still (by kernel_rfl) (by kernel_rfl) ?_
     intro w3458 hch3459
     have hst := hst.same hch3459
     refine OS.pure 2 [(46, .slice a2 (p1).length c3), (47, I (i3428 : Int))] rfl (by kernel_rfl) ?_
     obtain ⟨g3461, o3462, c3463, hv3460⟩ := h1.formv (fun _ => ⟨_, rfl⟩) hx3443
     refine OS.idx 48 22 rfl rfl rfl rfl rfl hv3460 rfl (idx_some hx3443).1 (idx_some hx3443).2.1 (by kernel_rfl) (by kernel_rfl) ?_
     refine OS.pure 1 [(49, .pointer (some ⟨g3461, o3462 + Int.toNat (i3428 : Int) * 22 + 6, none⟩))] rfl (by kernel_rfl) ?_
     refine OS.ld rfl rfl rfl rfl rfl (by kernel_rfl) (h1.cellv hst hx3443 hv3460 6 _ rfl) ?_
     refine OS.pure 1 [(51, .pointer (some ⟨b2739, 6, none⟩))] rfl (by kernel_rfl) ?_
     refine OS.ld rfl rfl rfl rfl rfl (by kernel_rfl) (hst.blk 0 rfl rfl) ?_
     refine OS.pure 1 [(53, .bool (x3442.Hook != x2733.Hook))] rfl (by kernel_rfl) ?_
     refine OS.fin rfl (QW.next ?_)
     refine br ((x3442.Hook != x2733.Hook)) hl3425 (fun hl3425 hc3464 => ?_) (fun hl3425 hc3464 => ?_)
     ·refine CW.exit (QW.then_exit ?_)
      refine QW.block_here (QW.next (CW.region ?_))
      refine pu 3 [(9, I (w64 ((i3428 : Int) + 1)))] (OW.nil rfl ?_)
      refine QW.say 9 rfl (congrArg (Value.int .i64) (w64_cnt hc3435 (room_sz hr3431))) ?_
      exact QW.meet (fun a ha => ⟨n3424, Nat.lt_succ_self _, i3428 + 1, (o3449, s3426.2), (.slice a3433 (s3426.2).length c3434), cnt_next hi3429, ha.ag, hst.keep [0, 1] rfl, hl3425⟩)
     refine CW.skip (QW.next (CW.seq (rg ?_)))
     refine pu 2 [(54, .slice a2 (p1).length c3), (55, I (i3428 : Int))] ?_
     obtain ⟨g3471, o3472, c3473, hv3470⟩ := h1.formv (fun _ => ⟨_, rfl⟩) hx3443
     refine OW.idx 48 22 rfl rfl rfl rfl hv3470 rfl (idx_some hx3443).1 (idx_some hx3443).2.1 (by kernel_rfl) (by kernel_rfl) ?_
     refine pu 1 [(57, .pointer (some ⟨g3471, o3472 + Int.toNat (i3428 : Int) * 22, none⟩))] ?_
     refine OW.ld rfl rfl rfl rfl (by kernel_rfl) (h1.cellv hst hx3443 hv3470 0 _ rfl) ?_
     refine pu 1 [(59, .bool (x3442.What == 4))] (nx ?_)
     obtain ⟨o3502, ho3503, hl3425⟩ := bs hl3425
     refine CW.cutK (fun a w1 => ∃ (v3501 : Value), Rep 118 [(0, I p0), (1, .slice a2 (p1).length c3), (5, I (i2721 : Int)), (6, Pt b2739), (7, I o3449), (8, v3501), (9, I (i3428 : Int))] a ∧ St w (fp []) w1 [blkI b2739 48 [I x2733.What, I x2733.Task, I x2733.From, I x2733.Cmd, I x2733.Tag, I x2733.Event, I x2733.Hook, I x2733.Prog, I x2733.Version, I x2733.Pc, I x2733.Item.Map, I x2733.Item.Op, U x2733.Item.Key, U x2733.Item.Val, I x2733.Res.E, .bool x2733.Res.Found, U x2733.Res.Val, .bool x2733.Res.Out, U x2733.Res.OutKey, U x2733.Res.OutVal, U x2733.Val, I x2733.E], rowI v3501 3 (encInt .i64) 1 o3502]) ?_ ?_
     ·refine br ((x3442.What == 4)) ho3503 (fun ho3503 hc3504 => ?_) (fun ho3503 hc3504 => ?_)
      ·refine CW.region ?_
       refine pu 3 [(60, .slice a3433 (s3426.2).length c3434), (61, .slice a2 (p1).length c3), (62, I (i3428 : Int))] ?_
       obtain ⟨g3519, o3520, c3521, hv3518⟩ := h1.formv (fun _ => ⟨_, rfl⟩) hx3443
       refine OW.idx 48 22 rfl rfl rfl rfl hv3518 rfl (idx_some hx3443).1 (idx_some hx3443).2.1 (by kernel_rfl) (by kernel_rfl) ?_
       refine pu 1 [(64, .pointer (some ⟨g3519, o3520 + Int.toNat (i3428 : Int) * 22 + 5, none⟩))] ?_
       refine OW.ld rfl rfl rfl rfl (by kernel_rfl) (h1.cellv hst hx3443 hv3518 5 _ rfl) ?_
       refine OW.row (α := Int) (e := 3) (enc := encInt .i64) (sz := 1) hst rfl rfl rfl [x3442.Event] rfl (fun _ => rfl) rfl rfl (fun _ => by kernel_rfl) ?_
       intro g3522 w3523 hst
       obtain ⟨u3524, hr3525, ho3503⟩ := bs ho3503
       refine OW.app hst 1 rfl (fun _ => rfl) (fun _ => rfl) rfl rfl rfl rfl rfl rfl (by kernel_rfl) el3 (hst.rd 2 rfl (fun _ => rfl) [] rfl (hst.len 2 rfl).1) (room_le hr3525) ?_
       intro v3526 w3527 hst
       obtain ⟨l3528, a3529, c3530, rfl⟩ := hst.len 1 rfl
       refine pu 1 [(8, .slice a3529 ((s3426.2 ++ [x3442.Event])).length c3530)] (OW.nil rfl ?_)
       obtain rfl := inj ho3503
       exact QW.meet (fun a ha => ⟨(.slice a3529 ((s3426.2 ++ [x3442.Event])).length c3530), ha.ag, hst.keep [0, 1] rfl⟩)
      refine CW.skip ?_
      obtain rfl := inj ho3503
      exact QW.meet (fun a ha => ⟨(.slice a3433 (s3426.2).length c3434), ha.ag, hst.keep [0, 1] rfl⟩)
     rintro a w1 ⟨v3501, ha, hst⟩
     refine CW.go ?_ ha
     obtain ⟨l3533, a3534, c3535, rfl⟩ := hst.len 1 rfl
     refine CW.seq ?_
     obtain ⟨o3549, ho3550, hl3425⟩ := bs hl3425
     refine CW.cutK (fun a w1 => Rep 118 [(0, I p0), (1, .slice a2 (p1).length c3), (5, I (i2721 : Int)), (6, Pt b2739), (7, I o3449), (8, .slice a3534 (o3502).length c3535), (9, I (i3428 : Int)), (81, .bool o3549)] a ∧ St w (fp []) w1 [blkI b2739 48 [I x2733.What, I x2733.Task, I x2733.From, I x2733.Cmd, I x2733.Tag, I x2733.Event, I x2733.Hook, I x2733.Prog, I x2733.Version, I x2733.Pc, I x2733.Item.Map, I x2733.Item.Op, U x2733.Item.Key, U x2733.Item.Val, I x2733.Res.E, .bool x2733.Res.Found, U x2733.Res.Val, .bool x2733.Res.Out, U x2733.Res.OutKey, U x2733.Res.OutVal, U x2733.Val, I x2733.E], rowI (.slice a3534 (o3502).length c3535) 3 (encInt .i64) 1 o3502]) ?_ ?_
     ·refine CW.region ?_
      refine pu 2 [(68, .slice a2 (p1).length c3), (69, I (i3428 : Int))] ?_
      obtain ⟨g3552, o3553, c3554, hv3551⟩ := h1.formv (fun _ => ⟨_, rfl⟩) hx3443
      refine OW.idx 48 22 rfl rfl rfl rfl hv3551 rfl (idx_some hx3443).1 (idx_some hx3443).2.1 (by kernel_rfl) (by kernel_rfl) ?_
      refine pu 1 [(71, .pointer (some ⟨g3552, o3553 + Int.toNat (i3428 : Int) * 22, none⟩))] ?_
      refine OW.ld rfl rfl rfl rfl (by kernel_rfl) (h1.cellv hst hx3443 hv3551 0 _ rfl) ?_
      refine pu 2 [(74, .bool (x3442.What == 5))] ?_
      refine OW.split 74 rfl (fun hc3555 => ?_) (fun hc3555 => ?_)
      ·have ho3550 := ite_t ho3550 hc3555
       refine pu 7 [(81, .bool true)] (OW.nil rfl ?_)
       obtain rfl := inj ho3550
       exact QW.meet (fun a ha => ⟨ha.ag, hst.keep [0, 1] rfl⟩)
      have ho3550 := ite_f ho3550 hc3555
      refine pu 2 [(75, .slice a2 (p1).length c3), (76, I (i3428 : Int))] ?_
      obtain ⟨g3557, o3558, c3559, hv3556⟩ := h1.formv (fun _ => ⟨_, rfl⟩) hx3443
      refine OW.idx 48 22 rfl rfl rfl rfl hv3556 rfl (idx_some hx3443).1 (idx_some hx3443).2.1 (by kernel_rfl) (by kernel_rfl) ?_
      refine pu 1 [(78, .pointer (some ⟨g3557, o3558 + Int.toNat (i3428 : Int) * 22, none⟩))] ?_
      refine OW.ld rfl rfl rfl rfl (by kernel_rfl) (h1.cellv hst hx3443 hv3556 0 _ rfl) ?_
      refine pu 2 [(81, .bool (x3442.What == 10))] (OW.nil rfl ?_)
      obtain rfl := inj ho3550
      exact QW.meet (fun a ha => ⟨ha.ag, hst.keep [0, 1] rfl⟩)
     rintro a w1 ⟨ha, hst⟩
     refine CW.go ?_ ha
     refine br (o3549) hl3425 (fun hl3425 hc3560 => ?_) (fun hl3425 hc3560 => ?_)
     ·refine CW.region ?_
      refine pu 1 [(82, .slice a3534 (o3502).length c3535)] ?_
      obtain ⟨ys3563, hcut3564, hl3425⟩ := bs hl3425
      refine OW.op (v := .slice (shd a3534 c3535 (Int.toNat 1) 1) (ys3563).length (c3535 - Int.toNat 1)) rfl rfl rfl rfl (fun a ha => suf_run (xs := o3502) (e := 3) 1 rfl rfl rfl rfl hcut3564 (by kernel_rfl) (by kernel_rfl) a _ ha) ?_
      refine pu 1 [(8, .slice (shd a3534 c3535 (Int.toNat 1) 1) (ys3563).length (c3535 - Int.toNat 1))] (OW.nil rfl (QW.block_normal (QW.next (CW.region ?_))))
      refine pu 3 [(9, I (w64 ((i3428 : Int) + 1)))] (OW.nil rfl ?_)
      have hst := hst.sufRow 1 rfl (fun _ => rfl) hcut3564
      refine QW.say 9 rfl (congrArg (Value.int .i64) (w64_cnt hc3435 (room_sz hr3431))) ?_
      exact QW.meet (fun a ha => ⟨n3424, Nat.lt_succ_self _, i3428 + 1, (o3449, ys3563), (.slice (shd a3534 c3535 (Int.toNat 1) 1) (ys3563).length (c3535 - Int.toNat 1)), cnt_next hi3429, ha.ag, hst.keep [0, 1] rfl, hl3425⟩)
     refine CW.skip (QW.block_normal (QW.next (CW.region ?_)))
     refine pu 3 [(9, I (w64 ((i3428 : Int) + 1)))] (OW.nil rfl ?_)
     refine QW.say 9 rfl (congrArg (Value.int .i64) (w64_cnt hc3435 (room_sz hr3431))) ?_
     exact QW.meet (fun a ha => ⟨n3424, Nat.lt_succ_self _, i3428 + 1, (o3449, o3502), (.slice a3534 (o3502).length c3535), cnt_next hi3429, ha.ag, hst.keep [0, 1] rfl, hl3425⟩)
    rcases n3424 with _ | n3424
    ·refine CW.cond_f rfl hc3435 ?_
     refine CW.exit (QW.then_exit (QW.then_exit ?_))
     refine QW.block_here ?_
     obtain rfl := inj hl3425
     exact QW.meet (fun a ha => ⟨(.slice a3433 (s3426.2).length c3434), ha.ag, hst.keep [0, 1] rfl⟩)
    exact (cnt1 hi3429 hc3435).elim
   rintro a w1 ⟨v3154, ha, hst⟩
   refine CW.go ?_ ha
   obtain ⟨l3568, a3569, c3570, rfl⟩ := hst.len 1 rfl
   refine CW.seq (CW.seq ?_)
   refine CW.cutK (fun a w1 => Rep 118 [(0, I p0), (1, .slice a2 (p1).length c3), (5, I (i2721 : Int)), (6, Pt b2739), (8, .slice a3569 (o3155.2).length c3570), (99, .bool ((x2733.What == 4) && ((x2733.Event != (w64 (o3155.1 + 1))) || decide (((o3155.2).length : Int) ≥ p0))))] a ∧ St w (fp []) w1 [blkI b2739 48 [I x2733.What, I x2733.Task, I x2733.From, I x2733.Cmd, I x2733.Tag, I x2733.Event, I x2733.Hook, I x2733.Prog, I x2733.Version, I x2733.Pc, I x2733.Item.Map, I x2733.Item.Op, U x2733.Item.Key, U x2733.Item.Val, I x2733.Res.E, .bool x2733.Res.Found, U x2733.Res.Val, .bool x2733.Res.Out, U x2733.Res.OutKey, U x2733.Res.OutVal, U x2733.Val, I x2733.E], rowI (.slice a3569 (o3155.2).length c3570) 3 (encInt .i64) 1 o3155.2]) ?_ ?_
   ·refine CW.region ?_
    refine pu 1 [(84, Pt b2739)] ?_
    refine OW.ld rfl rfl rfl rfl (by kernel_rfl) (hst.blk 0 rfl rfl) ?_
    refine pu 2 [(87, .bool (x2733.What == 4))] ?_
    refine OW.split 87 rfl (fun hc3571 => ?_) (fun hc3571 => ?_)
    ·refine pu 1 [(88, .pointer (some ⟨b2739, 5, none⟩))] ?_
     refine OW.ld rfl rfl rfl rfl (by kernel_rfl) (hst.blk 0 rfl rfl) ?_
     refine pu 4 [(93, .bool (x2733.Event != (w64 (o3155.1 + 1))))] ?_
     refine OW.split 93 rfl (fun hc3572 => ?_) (fun hc3572 => ?_)
     ·refine pu 6 [(99, .bool true)] (OW.nil rfl ?_)
      refine QW.say 99 (v := .bool ((x2733.What == 4) && ((x2733.Event != (w64 (o3155.1 + 1))) || decide (((o3155.2).length : Int) ≥ p0)))) rfl (by first | (rw [hc3571, hc3572]; done) | (rw [hc3571, hc3572]; rfl) | simp [hc3571, hc3572]) ?_
      exact QW.meet (fun a ha => ⟨ha.ag, hst.keep [0, 1] rfl⟩)
     refine pu 6 [(99, .bool (decide (((o3155.2).length : Int) ≥ p0)))] (OW.nil rfl ?_)
     refine QW.say 99 (v := .bool ((x2733.What == 4) && ((x2733.Event != (w64 (o3155.1 + 1))) || decide (((o3155.2).length : Int) ≥ p0)))) rfl (by first | (rw [hc3571, hc3572]; done) | (rw [hc3571, hc3572]; rfl) | simp [hc3571, hc3572]) ?_
     exact QW.meet (fun a ha => ⟨ha.ag, hst.keep [0, 1] rfl⟩)
    refine pu 12 [(99, .bool false)] (OW.nil rfl ?_)
    refine QW.say 99 (v := .bool ((x2733.What == 4) && ((x2733.Event != (w64 (o3155.1 + 1))) || decide (((o3155.2).length : Int) ≥ p0)))) rfl (by first | (rw [hc3571]; done) | (rw [hc3571]; rfl) | simp [hc3571]) ?_
    exact QW.meet (fun a ha => ⟨ha.ag, hst.keep [0, 1] rfl⟩)
   rintro a w1 ⟨ha, hst⟩
   refine CW.go ?_ ha
   refine br (((x2733.What == 4) && ((x2733.Event != (w64 (o3155.1 + 1))) || decide (((o3155.2).length : Int) ≥ p0)))) hl2719 (fun hl2719 hc3573 => ?_) (fun hl2719 hc3573 => ?_)
   ·refine rg ?_
    refine pu 2 [(4, I (i2721 : Int))] (nx (CW.ret (QW.then_ret (QW.block_ret (QW.then_ret (QW.then_ret (QW.block_ret (QW.then_ret ?_))))))))
    obtain rfl := inj hl2719
    obtain rfl := inj hF
    refine QW.ret1 rfl rfl ?_
    exact ⟨rfl, hst.keep [] rfl⟩
   refine CW.skip (QW.next (CW.seq ?_))
   obtain ⟨o3586, ho3587, hl2719⟩ := bs hl2719
   refine CW.cutK (fun a w1 => Rep 118 [(0, I p0), (1, .slice a2 (p1).length c3), (5, I (i2721 : Int)), (116, .bool o3586)] a ∧ St w (fp []) w1 []) ?_ ?_
   ·refine CW.still (by kernel_rfl) (by kernel_rfl) ?_
    intro w3588 hch3589
    have hst := hst.same hch3589
    refine OS.pure 1 [(101, Pt b2739)] rfl (by kernel_rfl) ?_
    refine OS.ld rfl rfl rfl rfl rfl (by kernel_rfl) (hst.blk 0 rfl rfl) ?_
    refine OS.pure 2 [(104, .bool (x2733.What != 4))] rfl (by kernel_rfl) ?_
    refine OS.split 104 rfl (fun hc3590 => ?_) (fun hc3590 => ?_)
    ·have ho3587 := ite_t ho3587 hc3590
     refine OS.pure 4 [(108, .bool (((o3155.2).length : Int) == 0))] rfl (by kernel_rfl) ?_
     refine OS.split 108 rfl (fun hc3591 => ?_) (fun hc3591 => ?_)
     ·have ho3587 := ite_t ho3587 hc3591
      refine OS.pure 8 [(116, .bool true)] rfl (by kernel_rfl) ?_
      refine OS.fin rfl ?_
      obtain rfl := inj ho3587
      exact QW.meet (fun a ha => ⟨ha.ag, hst.keep [] rfl⟩)
     have ho3587 := ite_f ho3587 hc3591
     refine OS.pure 1 [(109, .slice a3569 (o3155.2).length c3570)] rfl (by kernel_rfl) ?_
     obtain ⟨x3592, hx3593, ho3587⟩ := bs ho3587
     obtain ⟨g3595, o3596, c3597, hv3594⟩ := hst.rowv 1 rfl hx3593
     refine OS.idx 3 1 rfl rfl rfl rfl rfl hv3594 rfl (idx_some hx3593).1 (idx_some hx3593).2.1 (by kernel_rfl) (by kernel_rfl) ?_
     refine OS.ld rfl rfl rfl rfl rfl (by kernel_rfl) (hst.rowc 1 rfl (fun _ => rfl) hx3593 hv3594 0 _ rfl) ?_
     refine OS.pure 1 [(112, .pointer (some ⟨b2739, 5, none⟩))] rfl (by kernel_rfl) ?_
     refine OS.ld rfl rfl rfl rfl rfl (by kernel_rfl) (hst.blk 0 rfl rfl) ?_
     refine OS.pure 3 [(116, .bool (x3592 != x2733.Event))] rfl (by kernel_rfl) ?_
     refine OS.fin rfl ?_
     obtain rfl := inj ho3587
     exact QW.meet (fun a ha => ⟨ha.ag, hst.keep [] rfl⟩)
    have ho3587 := ite_f ho3587 hc3590
    refine OS.pure 12 [(116, .bool false)] rfl (by kernel_rfl) ?_
    refine OS.fin rfl ?_
    obtain rfl := inj ho3587
    exact QW.meet (fun a ha => ⟨ha.ag, hst.keep [] rfl⟩)
   rintro a w1 ⟨ha, hst⟩
   refine CW.go ?_ ha
   refine br (o3586) hl2719 (fun hl2719 hc3598 => ?_) (fun hl2719 hc3598 => ?_)
   ·refine rg ?_
    refine pu 2 [(4, I (i2721 : Int))] (nx (CW.ret (QW.block_ret (QW.then_ret (QW.then_ret (QW.block_ret (QW.then_ret ?_)))))))
    obtain rfl := inj hl2719
    obtain rfl := inj hF
    refine QW.ret1 rfl rfl ?_
    exact ⟨rfl, hst.keep [] rfl⟩
   refine CW.skip (QW.block_normal (QW.next (CW.region ?_)))
   refine pu 3 [(5, I (w64 ((i2721 : Int) + 1)))] (OW.nil rfl ?_)
   refine QW.say 5 rfl (congrArg (Value.int .i64) (w64_cnt hc2723 l1)) ?_
   exact QW.meet (fun a ha => ⟨n2718, Nat.lt_succ_self _, i2721 + 1, (), cnt_next hi2722, ha.ag, hst.keep [] rfl, hl2719⟩)
  rcases n2718 with _ | n2718
  ·refine CW.cond_f rfl hc2723 ?_
   refine CW.exit (QW.then_exit (QW.then_exit ?_))
   refine QW.block_here ?_
   obtain rfl := inj hl2719
   exact QW.meet (fun a ha => ⟨(), rfl, ha.ag, hst.keep [] rfl⟩)
  exact (cnt1 hi2722 hc2723).elim
 rintro a w1 ⟨t1802, rfl, ha, hst⟩
 refine CW.go ?_ ha
 refine rg ?_
 refine pu 1 [(4, I (-1))] (nx (CW.ret ?_))
 obtain rfl := inj hF
 refine QW.ret1 rfl rfl ?_
 exact ⟨rfl, hst.keep [] rfl⟩
theorem tappetlaw27_AuditCalls_ok (w : World) (fu : Nat) (p0 : Int) (v1 : Value) (p1 : List api_Entry) (r : Bool) (hF : tappetlaw27_AuditCalls fu p0 p1 = some r)
    (hst : St w (fp []) w []) (h1 : Rd w (fp []) v1 enc_api_Entry 22 p1) :
    Calls Try.prog 4 [I p0, v1].toArray w (fun e w' => e = .returned (.bool r) ∧ St w (fp []) w' []) := by
 refine CW.start (N := 25) Try.func4 rfl rfl rfl ?_
 obtain ⟨l1, a2, c3, rfl⟩ := h1.len
 refine rg ?_
 refine pu 1 [] (nx (CW.seq (rg ?_)))
 obtain ⟨r8, hr9, hF⟩ := bs hF
 refine OW.fn rfl rfl rfl rfl (by kernel_rfl) (tappetlaw27_awake_ok _ fu r8 hr9 (hst.part [] rfl)) ?_
 rintro e w10 ⟨rfl, hst11⟩
 refine ⟨_, rfl, ?_⟩
 have hst := hst.join (idx := []) (rest := []) rfl hst11
 refine pu 1 [(6, .bool (!r8))] (nx ?_)
 refine br ((!r8)) hF (fun hF hc12 => ?_) (fun hF hc12 => ?_)
 ·refine rg ?_
  refine pu 1 [(4, .bool false)] (nx (CW.ret (QW.then_ret ?_)))
  obtain rfl := inj hF
  refine QW.ret1 rfl rfl ?_
  exact ⟨rfl, hst.keep [] rfl⟩
 refine CW.skip (QW.next (CW.seq ?_))
 obtain ⟨o87, ho88, hF⟩ := bs hF
 refine CW.cutK (fun a w1 => Rep 25 [(4, .bool o87)] a ∧ St w (fp []) w1 []) ?_ ?_
 ·refine CW.region ?_
  refine pu 1 [(7, .slice a2 (p1).length c3)] ?_
  obtain ⟨r89, hr90, ho88⟩ := bs ho88
  refine OW.fn rfl rfl rfl rfl (by kernel_rfl) (tappetlaw27_cut_ok _ (.slice a2 (p1).length c3) p1 r89 hr90 (hst.part [] rfl) (h1.give hst [])) ?_
  rintro e w91 ⟨v93, rfl, hst92⟩
  refine ⟨_, rfl, ?_⟩
  have hst := hst.join (idx := []) (rest := []) rfl hst92
  obtain ⟨l94, a95, c96, rfl⟩ := hst.len 0 rfl
  obtain ⟨r97, hr98, ho88⟩ := bs ho88
  refine OW.fn rfl rfl rfl rfl (by kernel_rfl) (audit_Calls_ok _ fu (.slice a95 (r89).length c96) r89 r97 hr98 (hst.part [] rfl) (hst.rd 0 rfl (fun _ => rfl) [] rfl (hst.len 0 rfl).1)) ?_
  rintro e w99 ⟨rfl, hst100⟩
  refine ⟨_, rfl, ?_⟩
  have hst := hst.join (idx := []) (rest := [0]) rfl hst100
  refine pu 1 [(10, .slice a2 (p1).length c3)] ?_
  obtain ⟨r101, hr102, ho88⟩ := bs ho88
  refine OW.fn rfl rfl rfl rfl (by kernel_rfl) (tappetlaw27_cut_ok _ (.slice a2 (p1).length c3) p1 r101 hr102 (hst.part [] rfl) (h1.give hst [])) ?_
  rintro e w103 ⟨v105, rfl, hst104⟩
  refine ⟨_, rfl, ?_⟩
  have hst := hst.join (idx := []) (rest := [0]) rfl hst104
  obtain ⟨l106, a107, c108, rfl⟩ := hst.len 0 rfl
  obtain ⟨r109, hr110, ho88⟩ := bs ho88
  refine OW.fn rfl rfl rfl rfl (by kernel_rfl) (tappetref27_Calls_ok _ fu (.slice a107 (r101).length c108) r101 r109 hr110 (hst.part [] rfl) (hst.rd 0 rfl (fun _ => rfl) [] rfl (hst.len 0 rfl).1)) ?_
  rintro e w111 ⟨rfl, hst112⟩
  refine ⟨_, rfl, ?_⟩
  have hst := hst.join (idx := []) (rest := [0, 1]) rfl hst112
  refine pu 2 [(14, .bool (r97 == r109))] ?_
  refine OW.split 14 rfl (fun hc113 => ?_) (fun hc113 => ?_)
  ·have ho88 := ite_t ho88 hc113
   refine pu 2 [(15, I p0), (16, .slice a2 (p1).length c3)] ?_
   obtain ⟨r114, hr115, ho88⟩ := bs ho88
   refine OW.fn rfl rfl rfl rfl (by kernel_rfl) (tappetlaw27_cut_ok _ (.slice a2 (p1).length c3) p1 r114 hr115 (hst.part [] rfl) (h1.give hst [])) ?_
   rintro e w116 ⟨v118, rfl, hst117⟩
   refine ⟨_, rfl, ?_⟩
   have hst := hst.join (idx := []) (rest := [0, 1]) rfl hst117
   obtain ⟨l119, a120, c121, rfl⟩ := hst.len 0 rfl
   obtain ⟨r122, hr123, ho88⟩ := bs ho88
   refine OW.fn rfl rfl rfl rfl (by kernel_rfl) (audit_Events_ok _ fu p0 (.slice a120 (r114).length c121) r114 r122 hr123 (hst.part [] rfl) (hst.rd 0 rfl (fun _ => rfl) [] rfl (hst.len 0 rfl).1)) ?_
   rintro e w124 ⟨rfl, hst125⟩
   refine ⟨_, rfl, ?_⟩
   have hst := hst.join (idx := []) (rest := [0, 1, 2]) rfl hst125
   refine pu 2 [(19, I p0), (20, .slice a2 (p1).length c3)] ?_
   obtain ⟨r126, hr127, ho88⟩ := bs ho88
   refine OW.fn rfl rfl rfl rfl (by kernel_rfl) (tappetlaw27_cut_ok _ (.slice a2 (p1).length c3) p1 r126 hr127 (hst.part [] rfl) (h1.give hst [])) ?_
   rintro e w128 ⟨v130, rfl, hst129⟩
   refine ⟨_, rfl, ?_⟩
   have hst := hst.join (idx := []) (rest := [0, 1, 2]) rfl hst129
   obtain ⟨l131, a132, c133, rfl⟩ := hst.len 0 rfl
   obtain ⟨r134, hr135, ho88⟩ := bs ho88
   refine OW.fn rfl rfl rfl rfl (by kernel_rfl) (tappetref27_Events_ok _ fu p0 (.slice a132 (r126).length c133) r126 r134 hr135 (hst.part [] rfl) (hst.rd 0 rfl (fun _ => rfl) [] rfl (hst.len 0 rfl).1)) ?_
   rintro e w136 ⟨rfl, hst137⟩
   refine ⟨_, rfl, ?_⟩
   have hst := hst.join (idx := []) (rest := [0, 1, 2, 3]) rfl hst137
   refine pu 3 [(4, .bool (r122 == r134))] (OW.nil rfl ?_)
   obtain rfl := inj ho88
   exact QW.meet (fun a ha => ⟨ha.ag, hst.keep [] rfl⟩)
  have ho88 := ite_f ho88 hc113
  refine pu 11 [(4, .bool false)] (OW.nil rfl ?_)
  obtain rfl := inj ho88
  exact QW.meet (fun a ha => ⟨ha.ag, hst.keep [] rfl⟩)
 rintro a w1 ⟨ha, hst⟩
 refine CW.go ?_ ha
 refine CW.ret ?_
 obtain rfl := inj hF
 refine QW.ret1 rfl rfl ?_
 exact ⟨rfl, hst.keep [] rfl⟩
end Go.Proofs.Ytpchniebplpboaa

/- Written by a program (wip/gen): the walks: each Go function returns what its plain function computes. -/
import Derived.Test.YtdnogiegiclcfaaGreatDoorProg
import Derived.Test.YtdnogiegiclcfaaGreatDoorF1
import Derived.Test.YtdnogiegiclcfaaGreatDoorSq
import Derived.Test.YtdnogiegiclcfaaGreatDoorPart
import Derived.Test.YtdnogiegiclcfaaGreatDoorExt
import Derived.Test.YtdnogiegiclcfaaGreatDoorSh
import Derived.Test.YtdnogiegiclcfaaGreatDoorO1
import Derived.Test.YtdnogiegiclcfaaGreatDoorW1p4
set_option linter.unusedSimpArgs false
namespace Go.Proofs.YtdnogiegiclcfaaGreatDoor
open Go.Sx
set_option linter.unusedVariables false
set_option maxRecDepth 10000
set_option maxHeartbeats 4000000
theorem epoch_Clock_Leave_ok (w : World) (v0 : Value) (S0 : List Nat) (p0 : epoch_Clock) (v1 : Value) (p1 : List Int) (r : Int × epoch_Clock) (hF : epoch_Clock_Leave p0 p1 = some r)
    (hst : St w (fp [itI R_t55 [v0] S0 p0]) w [itI R_t55 [v0] S0 p0]) (h1 : Rd w (fp [itI R_t55 [v0] S0 p0]) v1 (encInt .i64) 1 p1) :
    Calls Tryz.prog 19 [v0, v1].toArray w (fun e w' => ∃ (s0 : List Nat), e = .returned (I r.1) ∧ St w (fp [itI R_t55 [v0] S0 p0]) w' [itI R_t55 [v0] s0 r.2]) := by
 refine CW.start (N := 58) Tryz.func19 rfl rfl rfl ?_
 obtain ⟨l1, a2, c3, rfl⟩ := h1.len
 obtain ⟨b4, rfl⟩ := hst.fptr 0 rfl
 refine rg ?_
 refine pu 1 [] (nx (rg ?_))
 refine OW.alloc hst rfl rfl rfl [.bool false, .bool false, .bool false, .bool false] (by kernel_rfl) ?_
 intro b7 w8 hst
 refine nx (CW.seq (rg ?_))
 refine pu 3 [(12, .slice a2 (p1).length c3), (13, I ((p1).length : Int)), (14, I 0)] (nx ?_)
 obtain ⟨o151, ho152, hF⟩ := bs hF
 refine CW.cutK (fun a w1 => ∃ (t153 : Unit) (S150 : List Nat), o151 = .inl t153 ∧ Rep 58 [(0, Pt b4), (1, .slice a2 (p1).length c3)] a ∧ St w (fp [itI R_t55 [Pt b4] S0 p0]) w1 [itI R_t55 [Pt b4] S150 p0]) ?_ ?_
 ·refine CW.block ?_
  refine CW.loop (fun n a w1 => ∃ (i249 : Nat) (s247 : (Nat → Bool)) (S248 : List Nat), i249 + n = (p1).length ∧ Rep 58 [(0, Pt b4), (1, .slice a2 (p1).length c3), (5, Pt b7), (12, .slice a2 (p1).length c3), (13, I ((p1).length : Int)), (14, I (i249 : Int))] a ∧ St w (fp [itI R_t55 [Pt b4] S0 p0]) w1 [itI R_t55 [Pt b4] S248 p0, blkI b7 108 [.bool (s247 0), .bool (s247 1), .bool (s247 2), .bool (s247 3)]] ∧ forN (epoch_Clock_Leave_l1 p0 p1) (fun (s247 : (Nat → Bool)) => (.inl ())) n i249 s247 = some o151) (p1).length (fun a ha => ⟨0, (fun _ => false), S0, Nat.zero_add _, ha.ag, hst.keep [0, 1] rfl, ho152⟩) ?_
  rintro n245 a w1 ⟨i249, s247, S248, hi250, ha, hst, hl246⟩
  refine CW.go ?_ ha
  refine rg ?_
  refine pu 1 [(15, .bool (decide ((i249 : Int) < ((p1).length : Int))))] (nx (CW.seq ?_))
  rcases bft (decide ((i249 : Int) < ((p1).length : Int))) with hc251 | hc251
  ·rcases n245 with _ | n245
   ·exact (cnt0 hi250 hc251).elim
   refine CW.cond_t rfl hc251 (CW.skip (QW.next (CW.seq (CW.block (rg ?_)))))
   obtain ⟨x258, hx259, hl246⟩ := bs hl246
   obtain ⟨g261, o262, c263, hv260⟩ := h1.formv (fun _ => ⟨_, rfl⟩) hx259
   refine OW.idx 3 1 rfl rfl rfl rfl hv260 rfl (idx_some hx259).1 (idx_some hx259).2.1 (by kernel_rfl) (by kernel_rfl) ?_
   refine OW.ld rfl rfl rfl rfl (by kernel_rfl) (h1.cellv hst hx259 hv260 0 _ rfl) ?_
   refine pu 1 [(7, I x258)] (nx (CW.seq (CW.seq ?_)))
   obtain ⟨o278, ho279, hl246⟩ := bs hl246
   refine CW.cutK (fun a w1 => ∃ (S277 : List Nat), Rep 58 [(0, Pt b4), (1, .slice a2 (p1).length c3), (5, Pt b7), (7, I x258), (12, .slice a2 (p1).length c3), (13, I ((p1).length : Int)), (14, I (i249 : Int)), (26, .bool o278)] a ∧ St w (fp [itI R_t55 [Pt b4] S0 p0]) w1 [itI R_t55 [Pt b4] S277 p0, blkI b7 108 [.bool (s247 0), .bool (s247 1), .bool (s247 2), .bool (s247 3)]]) ?_ ?_
   ·refine CW.region ?_
    refine pu 2 [(18, Pt b4), (19, I x258)] ?_
    obtain ⟨r280, hr281, ho279⟩ := bs ho279
    refine OW.fn rfl rfl rfl rfl (by kernel_rfl) (epoch_Clock_known_ok _ (Pt b4) S248 p0 x258 r280 hr281 (hst.part [0] rfl)) ?_
    rintro e w282 ⟨S284, rfl, hst283⟩
    refine ⟨_, rfl, ?_⟩
    have hst := hst.join (idx := [0]) (rest := [1]) rfl hst283
    refine pu 2 [(22, .bool (!r280))] ?_
    refine OW.split 22 rfl (fun hc285 => ?_) (fun hc285 => ?_)
    ·have ho279 := ite_t ho279 hc285
     refine pu 4 [(26, .bool true)] (OW.nil rfl ?_)
     obtain rfl := inj ho279
     exact QW.meet (fun a ha => ⟨S284, ha.ag, hst.keep [0, 1] rfl⟩)
    have ho279 := ite_f ho279 hc285
    refine pu 1 [(23, I x258)] ?_
    obtain ⟨i286, hi287, ho279⟩ := bs ho279
    refine OW.op (v := .pointer (some ⟨b7, 0 + Int.toNat x258 * 1, none⟩)) rfl rfl rfl rfl (fun a ha => aidx_run (n := 4) 4 1 rfl rfl rfl (ain_some hi287).1 (ain_some hi287).2.1 (by kernel_rfl) (by kernel_rfl) a _ ha) ?_
    refine OW.ld rfl rfl rfl rfl (by kernel_rfl) (hst.arrB 1 rfl encBool (fun _ => rfl) 4 s247 0 rfl rfl hi287 0 _ rfl) ?_
    refine pu 1 [(26, .bool (s247 i286))] (OW.nil rfl ?_)
    obtain rfl := inj ho279
    exact QW.meet (fun a ha => ⟨S284, ha.ag, hst.keep [0, 1] rfl⟩)
   rintro a w1 ⟨S277, ha, hst⟩
   refine CW.go ?_ ha
   refine br (o278) hl246 (fun hl246 hc288 => ?_) (fun hl246 hc288 => ?_)
   ·refine rg ?_
    refine pu 1 [(4, I 2)] (nx (CW.ret (QW.then_ret (QW.block_ret (QW.then_ret (QW.then_ret (QW.block_ret (QW.then_ret ?_))))))))
    obtain rfl := inj hl246
    obtain rfl := inj hF
    refine QW.ret1 rfl rfl ?_
    exact ⟨S277, rfl, hst.keep [0] rfl⟩
   refine CW.skip (QW.next (CW.region ?_))
   refine pu 1 [(27, I x258)] ?_
   obtain ⟨i292, hi293, hl246⟩ := bs hl246
   refine OW.op (v := .pointer (some ⟨b7, 0 + Int.toNat x258 * 1, none⟩)) rfl rfl rfl rfl (fun a ha => aidx_run (n := 4) 4 1 rfl rfl rfl (ain_some hi293).1 (ain_some hi293).2.1 (by kernel_rfl) (by kernel_rfl) a _ ha) ?_
   refine OW.stA hst 1 rfl rfl rfl rfl rfl (by kernel_rfl) rfl encBool (fun _ => rfl) 4 s247 0 rfl rfl hi293 0 rfl rfl true rfl [.bool ((aset s247 i292 true) 0), .bool ((aset s247 i292 true) 1), .bool ((aset s247 i292 true) 2), .bool ((aset s247 i292 true) 3)] rfl ?_
   intro w294 hst
   refine OW.nil rfl (QW.block_normal (QW.next (CW.region ?_)))
   refine pu 2 [(14, I (w64 ((i249 : Int) + 1)))] (OW.nil rfl ?_)
   refine QW.say 14 rfl (congrArg (Value.int .i64) (w64_cnt hc251 l1)) ?_
   exact QW.meet (fun a ha => ⟨n245, Nat.lt_succ_self _, i249 + 1, (aset s247 i292 true), S277, cnt_next hi250, ha.ag, hst.keep [0, 1] rfl, hl246⟩)
  rcases n245 with _ | n245
  ·refine CW.cond_f rfl hc251 ?_
   refine CW.exit (QW.then_exit (QW.then_exit ?_))
   refine QW.block_here ?_
   obtain rfl := inj hl246
   exact QW.meet (fun a ha => ⟨(), S248, rfl, ha.ag, hst.keep [0] rfl⟩)
  exact (cnt1 hi250 hc251).elim
 rintro a w1 ⟨t153, S150, rfl, ha, hst⟩
 refine CW.go ?_ ha
 refine CW.seq (rg ?_)
 refine pu 3 [(30, .slice a2 (p1).length c3), (31, I ((p1).length : Int)), (32, I 0)] (nx ?_)
 obtain ⟨o404, ho405, hF⟩ := bs hF
 refine CW.cutK (fun a w1 => ∃ (t406 : Unit) (S403 : List Nat), o404 = .inl t406 ∧ Rep 58 [(0, Pt b4), (1, .slice a2 (p1).length c3)] a ∧ St w (fp [itI R_t55 [Pt b4] S0 p0]) w1 [itI R_t55 [Pt b4] S403 p0]) ?_ ?_
 ·refine CW.block ?_
  refine CW.loop (fun n a w1 => ∃ (i480 : Nat) (s478 : Unit) (S479 : List Nat), i480 + n = (p1).length ∧ Rep 58 [(0, Pt b4), (1, .slice a2 (p1).length c3), (30, .slice a2 (p1).length c3), (31, I ((p1).length : Int)), (32, I (i480 : Int))] a ∧ St w (fp [itI R_t55 [Pt b4] S0 p0]) w1 [itI R_t55 [Pt b4] S479 p0] ∧ forN (epoch_Clock_Leave_l2 p0 p1) (fun (s478 : Unit) => (.inl ())) n i480 s478 = some o404) (p1).length (fun a ha => ⟨0, (), S150, Nat.zero_add _, ha.ag, hst.keep [0] rfl, ho405⟩) ?_
  rintro n476 a w1 ⟨i480, s478, S479, hi481, ha, hst, hl477⟩
  refine CW.go ?_ ha
  refine rg ?_
  refine pu 1 [(33, .bool (decide ((i480 : Int) < ((p1).length : Int))))] (nx (CW.seq ?_))
  rcases bft (decide ((i480 : Int) < ((p1).length : Int))) with hc482 | hc482
  ·rcases n476 with _ | n476
   ·exact (cnt0 hi481 hc482).elim
   refine CW.cond_t rfl hc482 (CW.skip (QW.next (CW.seq (CW.block (rg ?_)))))
   obtain ⟨x489, hx490, hl477⟩ := bs hl477
   obtain ⟨g492, o493, c494, hv491⟩ := h1.formv (fun _ => ⟨_, rfl⟩) hx490
   refine OW.idx 3 1 rfl rfl rfl rfl hv491 rfl (idx_some hx490).1 (idx_some hx490).2.1 (by kernel_rfl) (by kernel_rfl) ?_
   refine OW.ld rfl rfl rfl rfl (by kernel_rfl) (h1.cellv hst hx490 hv491 0 _ rfl) ?_
   refine pu 1 [(9, I x489)] (nx (CW.seq ?_))
   obtain ⟨v495, S496, hst⟩ := hst.openQ1 0 rfl rfl
   have hst := hst.toRow1 1 rfl
   obtain ⟨l497, a498, c499, rfl⟩ := hst.len 1 rfl
   have hst : St _ _ _ [blkI b4 106 [I p0.now, .slice a498 (p0.in_).length c499], _] := hst
   refine CW.region ?_
   refine pu 3 [(38, .pointer (some ⟨b4, 1, none⟩))] ?_
   refine OW.ld rfl rfl rfl rfl (by kernel_rfl) (hst.blk 0 rfl rfl) ?_
   refine pu 1 [(40, I x489)] ?_
   obtain ⟨x506, hx507, hl477⟩ := bs hl477
   obtain ⟨g509, o510, c511, hv508⟩ := hst.rowv 1 rfl hx507
   refine OW.idx 3 1 rfl rfl rfl rfl hv508 rfl (idx_some hx507).1 (idx_some hx507).2.1 (by kernel_rfl) (by kernel_rfl) ?_
   refine OW.ld rfl rfl rfl rfl (by kernel_rfl) (hst.rowc 1 rfl (fun _ => rfl) hx507 hv508 0 _ rfl) ?_
   refine pu 1 [(43, .bool (x506 == 0))] (nx ?_)
   refine br ((x506 == 0)) hl477 (fun hl477 hc512 => ?_) (fun hl477 hc512 => ?_)
   ·refine rg ?_
    refine pu 1 [(4, I 41)] (nx (CW.ret (QW.block_ret (QW.then_ret (QW.then_ret (QW.block_ret (QW.then_ret ?_)))))))
    have hst := hst.toIt 1 rfl (fun _ => rfl) (by decide)
    obtain ⟨S513, hst⟩ := hst.shutP1 R_t106 rfl 0 1 [] rfl rfl rfl p0 rfl rfl
    obtain rfl := inj hl477
    obtain rfl := inj hF
    refine QW.ret1 rfl rfl ?_
    exact ⟨S513, rfl, hst.keep [0] rfl⟩
   refine CW.skip (QW.block_normal (QW.next (CW.region ?_)))
   refine pu 2 [(32, I (w64 ((i480 : Int) + 1)))] (OW.nil rfl ?_)
   have hst := hst.toIt 1 rfl (fun _ => rfl) (by decide)
   obtain ⟨S514, hst⟩ := hst.shutP1 R_t106 rfl 0 1 [] rfl rfl rfl p0 rfl rfl
   refine QW.say 32 rfl (congrArg (Value.int .i64) (w64_cnt hc482 l1)) ?_
   exact QW.meet (fun a ha => ⟨n476, Nat.lt_succ_self _, i480 + 1, (), S514, cnt_next hi481, ha.ag, hst.keep [0] rfl, hl477⟩)
  rcases n476 with _ | n476
  ·refine CW.cond_f rfl hc482 ?_
   refine CW.exit (QW.then_exit (QW.then_exit ?_))
   refine QW.block_here ?_
   obtain rfl := inj hl477
   exact QW.meet (fun a ha => ⟨(), S479, rfl, ha.ag, hst.keep [0] rfl⟩)
  exact (cnt1 hi481 hc482).elim
 rintro a w1 ⟨t406, S403, rfl, ha, hst⟩
 refine CW.go ?_ ha
 refine CW.seq (rg ?_)
 refine pu 3 [(45, .slice a2 (p1).length c3), (46, I ((p1).length : Int)), (47, I 0)] (nx ?_)
 obtain ⟨o624, ho625, hF⟩ := bs hF
 refine CW.cutK (fun a w1 => ∃ (S623 : List Nat), Rep 58 [] a ∧ St w (fp [itI R_t55 [Pt b4] S0 p0]) w1 [itI R_t55 [Pt b4] S623 o624]) ?_ ?_
 ·refine CW.block ?_
  refine CW.loop (fun n a w1 => ∃ (i699 : Nat) (s697 : epoch_Clock) (S698 : List Nat), i699 + n = (p1).length ∧ Rep 58 [(0, Pt b4), (45, .slice a2 (p1).length c3), (46, I ((p1).length : Int)), (47, I (i699 : Int))] a ∧ St w (fp [itI R_t55 [Pt b4] S0 p0]) w1 [itI R_t55 [Pt b4] S698 s697] ∧ forN (epoch_Clock_Leave_l3 p1) (fun (s697 : epoch_Clock) => s697) n i699 s697 = some o624) (p1).length (fun a ha => ⟨0, p0, S403, Nat.zero_add _, ha.ag, hst.keep [0] rfl, ho625⟩) ?_
  rintro n695 a w1 ⟨i699, s697, S698, hi700, ha, hst, hl696⟩
  refine CW.go ?_ ha
  refine rg ?_
  refine pu 1 [(48, .bool (decide ((i699 : Int) < ((p1).length : Int))))] (nx (CW.seq ?_))
  rcases bft (decide ((i699 : Int) < ((p1).length : Int))) with hc701 | hc701
  ·rcases n695 with _ | n695
   ·exact (cnt0 hi700 hc701).elim
   refine CW.cond_t rfl hc701 (CW.skip (QW.next (CW.seq (CW.block (rg ?_)))))
   obtain ⟨x708, hx709, hl696⟩ := bs hl696
   obtain ⟨g711, o712, c713, hv710⟩ := h1.formv (fun _ => ⟨_, rfl⟩) hx709
   refine OW.idx 3 1 rfl rfl rfl rfl hv710 rfl (idx_some hx709).1 (idx_some hx709).2.1 (by kernel_rfl) (by kernel_rfl) ?_
   refine OW.ld rfl rfl rfl rfl (by kernel_rfl) (h1.cellv hst hx709 hv710 0 _ rfl) ?_
   refine pu 1 [(11, I x708)] (nx ?_)
   obtain ⟨v714, S715, hst⟩ := hst.openQ1 0 rfl rfl
   have hst := hst.toRow1 1 rfl
   obtain ⟨l716, a717, c718, rfl⟩ := hst.len 1 rfl
   have hst : St _ _ _ [blkI b4 106 [I s697.now, .slice a717 (s697.in_).length c718], _] := hst
   refine CW.region ?_
   refine pu 3 [(53, .pointer (some ⟨b4, 1, none⟩))] ?_
   refine OW.ld rfl rfl rfl rfl (by kernel_rfl) (hst.blk 0 rfl rfl) ?_
   refine pu 1 [(55, I x708)] ?_
   obtain ⟨x726, hx727, hl696⟩ := bs hl696
   obtain ⟨g729, o730, c731, hv728⟩ := hst.rowv 1 rfl hx727
   refine OW.idx 3 1 rfl rfl rfl rfl hv728 rfl (idx_some hx727).1 (idx_some hx727).2.1 (by kernel_rfl) (by kernel_rfl) ?_
   refine OW.stR hst 1 rfl hv728 (fun _ => rfl) rfl rfl hx727 0 rfl rfl rfl (by kernel_rfl) rfl rfl 0 rfl ?_
   intro w732 hst
   refine OW.nil rfl (QW.block_normal (QW.next (CW.region ?_)))
   refine pu 2 [(47, I (w64 ((i699 : Int) + 1)))] (OW.nil rfl ?_)
   have hst := hst.toIt 1 rfl (fun _ => rfl) (by decide)
   obtain ⟨S733, hst⟩ := hst.shutP1 R_t106 rfl 0 1 [] rfl rfl rfl (epoch_Clock.mk s697.now (s697.in_.set (Int.toNat x708) 0)) rfl rfl
   refine QW.say 47 rfl (congrArg (Value.int .i64) (w64_cnt hc701 l1)) ?_
   exact QW.meet (fun a ha => ⟨n695, Nat.lt_succ_self _, i699 + 1, (epoch_Clock.mk s697.now (s697.in_.set (Int.toNat x708) 0)), S733, cnt_next hi700, ha.ag, hst.keep [0] rfl, hl696⟩)
  rcases n695 with _ | n695
  ·refine CW.cond_f rfl hc701 ?_
   refine CW.exit (QW.then_exit (QW.then_exit ?_))
   refine QW.block_here ?_
   obtain rfl := inj hl696
   exact QW.meet (fun a ha => ⟨S698, ha.ag, hst.keep [0] rfl⟩)
  exact (cnt1 hi700 hc701).elim
 rintro a w1 ⟨S623, ha, hst⟩
 refine CW.go ?_ ha
 refine rg ?_
 refine pu 1 [(4, I 0)] (nx (CW.ret ?_))
 obtain rfl := inj hF
 refine QW.ret1 rfl rfl ?_
 exact ⟨S623, rfl, hst.keep [0] rfl⟩
theorem hooks_Table_Swap_ok (w : World) (v0 : Value) (S0 : List Nat) (p0 : hooks_Table) (p1 : Int) (p2 : Int) (r : Int × Int × hooks_Table) (hF : hooks_Table_Swap p0 p1 p2 = some r)
    (hst : St w (fp [itI R_t53 [v0] S0 p0]) w [itI R_t53 [v0] S0 p0]) :
    Calls Tryz.prog 83 [v0, I p1, I p2].toArray w (fun e w' => ∃ (s0 : List Nat), e = .returned (.tuple #[I r.1, I r.2.1]) ∧ St w (fp [itI R_t53 [v0] S0 p0]) w' [itI R_t53 [v0] s0 r.2.2]) := by
 refine CW.start (N := 24) Tryz.func83 rfl rfl rfl ?_
 obtain ⟨b1, rfl⟩ := hst.fptr 0 rfl
 refine rg ?_
 refine pu 2 [] (nx (CW.seq (CW.block (rg ?_))))
 refine pu 2 [(9, Pt b1), (10, I p1)] ?_
 obtain ⟨r7, hr8, hF⟩ := bs hF
 refine OW.fn rfl rfl rfl rfl (by kernel_rfl) (hooks_Table_known_ok _ (Pt b1) S0 p0 p1 r7 hr8 (hst.part [0] rfl)) ?_
 rintro e w9 ⟨S11, rfl, hst10⟩
 refine ⟨_, rfl, ?_⟩
 have hst := hst.join (idx := [0]) (rest := []) rfl hst10
 refine pu 2 [(8, .bool (!r7))] (nx ?_)
 refine br ((!r7)) hF (fun hF hc12 => ?_) (fun hF hc12 => ?_)
 ·refine rg ?_
  refine pu 2 [(6, I 0), (7, I 2)] (nx (CW.ret (QW.block_ret (QW.then_ret ?_))))
  obtain rfl := inj hF
  refine QW.ret2 rfl rfl rfl ?_
  exact ⟨S11, rfl, hst.keep [0] rfl⟩
 refine rg ?_
 refine pu 2 [(14, Pt b1), (15, I p1)] ?_
 obtain ⟨r18, hr19, hF⟩ := bs hF
 refine OW.fn rfl rfl rfl rfl (by kernel_rfl) (hooks_Table_taken_ok _ (Pt b1) S11 p0 p1 r18 hr19 (hst.part [0] rfl)) ?_
 rintro e w20 ⟨S22, rfl, hst21⟩
 refine ⟨_, rfl, ?_⟩
 have hst := hst.join (idx := [0]) (rest := []) rfl hst21
 refine pu 2 [(13, .bool (!r18))] (nx ?_)
 refine br ((!r18)) hF (fun hF hc23 => ?_) (fun hF hc23 => ?_)
 ·refine rg ?_
  refine pu 2 [(6, I 0), (7, I 41)] (nx (CW.ret (QW.block_ret (QW.then_ret ?_))))
  obtain rfl := inj hF
  refine QW.ret2 rfl rfl rfl ?_
  exact ⟨S22, rfl, hst.keep [0] rfl⟩
 refine CW.skip (QW.block_normal (QW.next (rg ?_)))
 refine pu 3 [(18, Pt b1), (19, I p1), (20, I p2)] ?_
 obtain ⟨r29, hr30, hF⟩ := bs hF
 refine OW.fn rfl rfl rfl rfl (by kernel_rfl) (hooks_Table_publish_ok _ (Pt b1) S22 p0 p1 p2 r29 hr30 (hst.part [0] rfl)) ?_
 rintro e w31 ⟨S33, rfl, hst32⟩
 refine ⟨_, rfl, ?_⟩
 have hst := hst.join (idx := [0]) (rest := []) rfl hst32
 refine pu 4 [(6, I r29.1), (7, I r29.2.1)] (nx (CW.ret ?_))
 obtain rfl := inj hF
 refine QW.ret2 rfl rfl rfl ?_
 exact ⟨S33, rfl, hst.keep [0] rfl⟩
theorem registry_Registry_Swap_ok (w : World) (v0 : Value) (S0 : List Nat) (p0 : registry_Registry) (p1 : Int) (p2 : Int) (r : Int × Int × registry_Registry) (hF : registry_Registry_Swap p0 p1 p2 = some r)
    (hst : St w (fp [itI R_t24 [v0] S0 p0]) w [itI R_t24 [v0] S0 p0]) :
    Calls Tryz.prog 50 [v0, I p1, I p2].toArray w (fun e w' => ∃ (s0 : List Nat), e = .returned (.tuple #[I r.1, I r.2.1]) ∧ St w (fp [itI R_t24 [v0] S0 p0]) w' [itI R_t24 [v0] s0 r.2.2]) := by
 refine CW.start (N := 19) Tryz.func50 rfl rfl rfl ?_
 obtain ⟨b1, rfl⟩ := hst.fptr 0 rfl
 refine rg ?_
 refine pu 2 [] (nx (CW.seq ?_))
 obtain ⟨v2, S3, v4, S5, v6, S7, v8, S9, v10, S11, hst⟩ := hst.openQ5 0 rfl rfl rfl rfl rfl rfl
 obtain ⟨r12, rfl, hst⟩ := hst.toMN1 4 rfl
 have hst := hst.toRow1 5 rfl
 obtain ⟨b13, rfl⟩ := hst.fptr 1 rfl
 obtain ⟨b14, rfl⟩ := hst.fptr 2 rfl
 obtain ⟨b15, rfl⟩ := hst.fptr 3 rfl
 obtain ⟨l16, a17, c18, rfl⟩ := hst.len 5 rfl
 have hst : St _ _ _ [blkI b1 58 [Pt b13, Pt b14, Pt b15, I p0.hooks, I p0.maps, I p0.given, .map (some r12), .slice a17 (p0.waiting).length c18], _, _, _, _, _] := hst
 refine CW.region ?_
 refine pu 6 [(8, Pt b1), (9, I p1), (10, I p2), (13, Pt b1)] ?_
 refine OW.ld rfl rfl rfl rfl (by kernel_rfl) (hst.blk 0 rfl rfl) ?_
 refine pu 1 [(15, .func (.func 83) #[Pt b13] #[])] ?_
 refine OW.inl (args := [Pt b1, I p1, I p2, .func (.func 83) #[Pt b13] #[]]) (M := 32) rfl rfl rfl rfl (by kernel_rfl) Tryz.func54 rfl rfl rfl (rg ?_)
 refine pu 2 [] (nx (CW.seq (CW.block (rg ?_))))
 refine pu 3 [(13, .bool (decide (p1 < 0)))] ?_
 refine OW.split 13 rfl (fun hc72 => ?_) (fun hc72 => ?_)
 ·have hF := ite_t hF hc72
  refine pu 8 [(10, .bool true)] (nx (CW.cond_t rfl rfl (rg ?_)))
  refine pu 2 [(8, I 0), (9, I 2)] (nx (CW.ret (QW.block_ret (QW.then_ret ?_))))
  refine QW.ret2 rfl rfl rfl ?_
  refine ⟨_, rfl, ?_⟩
  refine pu 4 [(6, I 0), (7, I 2)] (nx (CW.ret ?_))
  have hst := hst.ofMN 4 rfl
  have hst := hst.toIt 5 rfl (fun _ => rfl) (by decide)
  obtain ⟨S73, hst⟩ := hst.shutP5 R_t58 rfl 0 1 2 3 4 5 [] rfl rfl rfl rfl rfl rfl rfl p0 rfl rfl
  obtain rfl := inj hF
  refine QW.ret2 rfl rfl rfl ?_
  exact ⟨S73, rfl, hst.keep [0] rfl⟩
 have hF := ite_f hF hc72
 refine pu 4 [(14, I p1), (17, .pointer (some ⟨b1, 3, none⟩))] ?_
 refine OW.ld rfl rfl rfl rfl (by kernel_rfl) (hst.blk 0 rfl rfl) ?_
 refine pu 3 [(10, .bool (decide (p1 ≥ p0.hooks)))] (nx ?_)
 refine br (decide (p1 ≥ p0.hooks)) hF (fun hF hc74 => ?_) (fun hF hc74 => ?_)
 ·refine rg ?_
  refine pu 2 [(8, I 0), (9, I 2)] (nx (CW.ret (QW.block_ret (QW.then_ret ?_))))
  refine QW.ret2 rfl rfl rfl ?_
  refine ⟨_, rfl, ?_⟩
  refine pu 4 [(6, I 0), (7, I 2)] (nx (CW.ret ?_))
  have hst := hst.ofMN 4 rfl
  have hst := hst.toIt 5 rfl (fun _ => rfl) (by decide)
  obtain ⟨S75, hst⟩ := hst.shutP5 R_t58 rfl 0 1 2 3 4 5 [] rfl rfl rfl rfl rfl rfl rfl p0 rfl rfl
  obtain rfl := inj hF
  refine QW.ret2 rfl rfl rfl ?_
  exact ⟨S75, rfl, hst.keep [0] rfl⟩
 refine rg ?_
 refine pu 2 [(22, Pt b1), (23, I p2)] ?_
 refine OW.inl (args := [Pt b1, I p2]) (M := 24) rfl rfl rfl rfl (by kernel_rfl) Tryz.func86 rfl rfl rfl (rg ?_)
 refine pu 1 [] (nx (rg ?_))
 refine pu 3 [(10, .pointer (some ⟨b1, 6, none⟩))] ?_
 refine OW.ld rfl rfl rfl rfl (by kernel_rfl) (hst.blk 0 rfl rfl) ?_
 refine pu 1 [(12, I p2)] ?_
 refine OW.mlook (tk := 3) (te := 95) (kd := .i64) (optP 97 R_t97) (fun o => o) hst 4 rfl rfl rfl rfl rfl rfl (by kernel_rfl) (by kernel_rfl) (.pointer none) (by kernel_rfl) (fun _ => ⟨rfl, rfl⟩) (fun _ _ _ _ h => h) (fun _ _ _ _ h => h) ?_
 intro v99 S100 S101 hst
 refine pu 5 [(5, v99), (6, .bool (mget p0.progs p2).isSome)] (nx (rg ?_))
 refine pu 2 [(17, .bool (mget p0.progs p2).isSome)] ?_
 refine OW.split 17 rfl (fun hc102 => ?_) (fun hc102 => ?_)
 ·have hF := ite_t hF hc102
  refine pu 1 [(18, v99)] ?_
  obtain ⟨y103, hy104, hF⟩ := bs hF
  have hst := hst.optSome 6 rfl hy104
  obtain ⟨b105, rfl⟩ := hst.fptr 6 rfl
  obtain ⟨v106, S107, v108, S109, hst⟩ := hst.openQ2 6 rfl rfl rfl
  have hst := hst.toRow1 7 rfl
  have hst := hst.toRow1 8 rfl
  obtain ⟨l110, a111, c112, rfl⟩ := hst.len 7 rfl
  obtain ⟨l113, a114, c115, rfl⟩ := hst.len 8 rfl
  have hst : St _ _ _ [_, _, _, _, _, _, blkI b105 97 [.slice a111 (y103.module.Maps).length c112, .slice a114 (y103.module.Code).length c115, I y103.retiring], _, _] := hst
  refine pu 2 [(20, .pointer (some ⟨b105, 2, none⟩))] ?_
  refine OW.ld rfl rfl rfl rfl (by kernel_rfl) (hst.blk 6 rfl rfl) ?_
  refine pu 3 [(4, .bool (y103.retiring == 0))] (nx (CW.ret ?_))
  refine QW.ret1 rfl rfl ?_
  refine ⟨_, rfl, ?_⟩
  refine pu 2 [(21, .bool (!(y103.retiring == 0)))] (nx ?_)
  refine br ((!(y103.retiring == 0))) hF (fun hF hc116 => ?_) (fun hF hc116 => ?_)
  ·refine rg ?_
   refine pu 2 [(8, I 0), (9, I 41)] (nx (CW.ret (QW.block_ret (QW.then_ret ?_))))
   refine QW.ret2 rfl rfl rfl ?_
   refine ⟨_, rfl, ?_⟩
   refine pu 4 [(6, I 0), (7, I 41)] (nx (CW.ret ?_))
   have hst := hst.toIt 7 rfl (fun _ => rfl) (by decide)
   have hst := hst.toIt 8 rfl (fun _ => rfl) (by decide)
   obtain ⟨S117, hst⟩ := hst.shutP2 R_t97 rfl 6 7 8 [0, 1, 2, 3, 4, 5] rfl rfl rfl rfl y103 rfl rfl
   have hst := hst.toOpt 6 rfl
   obtain ⟨S118, hst⟩ := hst.mback (f := (fun o => o)) 4 6 rfl rfl rfl (fun _ _ _ _ h => h) y103 (fun _ => rfl)
   rw [mset_self hy104] at hst
   have hst := hst.keep [0, 1, 2, 3, 4, 5] rfl
   have hst := hst.ofMN 4 rfl
   have hst := hst.toIt 5 rfl (fun _ => rfl) (by decide)
   obtain ⟨S119, hst⟩ := hst.shutP5 R_t58 rfl 0 1 2 3 4 5 [] rfl rfl rfl rfl rfl rfl rfl p0 rfl rfl
   obtain rfl := inj hF
   refine QW.ret2 rfl rfl rfl ?_
   exact ⟨S119, rfl, hst.keep [0] rfl⟩
  refine CW.skip (QW.block_normal (QW.next (rg ?_)))
  refine pu 3 [(26, .func (.func 83) #[Pt b13] #[]), (27, I p1), (28, I p2)] ?_
  obtain ⟨r125, hr126, hF⟩ := bs hF
  refine OW.fn rfl rfl rfl rfl (by kernel_rfl) (hooks_Table_Swap_ok _ (Pt b13) S3 p0.Table p1 p2 r125 hr126 (hst.part [1] rfl)) ?_
  rintro e w127 ⟨S129, rfl, hst128⟩
  refine ⟨_, rfl, ?_⟩
  have hst := hst.join (idx := [1]) (rest := [0, 2, 3, 4, 5, 6, 7, 8]) rfl hst128
  refine pu 4 [(8, I r125.1), (9, I r125.2.1)] (nx (CW.ret ?_))
  refine QW.ret2 rfl rfl rfl ?_
  refine ⟨_, rfl, ?_⟩
  refine pu 4 [(6, I r125.1), (7, I r125.2.1)] (nx (CW.ret ?_))
  have hst := hst.toIt 7 rfl (fun _ => rfl) (by decide)
  have hst := hst.toIt 8 rfl (fun _ => rfl) (by decide)
  obtain ⟨S130, hst⟩ := hst.shutP2 R_t97 rfl 6 7 8 [0, 1, 2, 3, 4, 5] rfl rfl rfl rfl y103 rfl rfl
  have hst := hst.toOpt 6 rfl
  obtain ⟨S131, hst⟩ := hst.mback (f := (fun o => o)) 4 6 rfl rfl rfl (fun _ _ _ _ h => h) y103 (fun _ => rfl)
  rw [mset_self hy104] at hst
  have hst := hst.keep [0, 1, 2, 3, 4, 5] rfl
  have hst := hst.ofMN 4 rfl
  have hst := hst.toIt 5 rfl (fun _ => rfl) (by decide)
  obtain ⟨S132, hst⟩ := hst.shutP5 R_t58 rfl 1 0 2 3 4 5 [] rfl rfl rfl rfl rfl rfl rfl (registry_Registry.mk r125.2.2 p0.Refs p0.Clock p0.hooks p0.maps p0.given p0.progs p0.waiting) rfl rfl
  obtain rfl := inj hF
  refine QW.ret2 rfl rfl rfl ?_
  exact ⟨S132, rfl, hst.keep [0] rfl⟩
 have hF := ite_f hF hc102
 refine pu 7 [(4, .bool false)] (nx (CW.ret ?_))
 refine QW.ret1 rfl rfl ?_
 refine ⟨_, rfl, ?_⟩
 refine pu 2 [(21, .bool true)] (nx (CW.cond_t rfl rfl (rg ?_)))
 refine pu 2 [(8, I 0), (9, I 41)] (nx (CW.ret (QW.block_ret (QW.then_ret ?_))))
 refine QW.ret2 rfl rfl rfl ?_
 refine ⟨_, rfl, ?_⟩
 refine pu 4 [(6, I 0), (7, I 41)] (nx (CW.ret ?_))
 obtain ⟨S133, hst⟩ := hst.mback0 (f := (fun o => o)) 4 6 rfl rfl rfl (fun _ _ _ _ h => h)
 have hst := hst.keep [0, 1, 2, 3, 4, 5] rfl
 have hst := hst.ofMN 4 rfl
 have hst := hst.toIt 5 rfl (fun _ => rfl) (by decide)
 obtain ⟨S134, hst⟩ := hst.shutP5 R_t58 rfl 0 1 2 3 4 5 [] rfl rfl rfl rfl rfl rfl rfl p0 rfl rfl
 obtain rfl := inj hF
 refine QW.ret2 rfl rfl rfl ?_
 exact ⟨S134, rfl, hst.keep [0] rfl⟩
theorem hooks_Table_Detach_ok (w : World) (v0 : Value) (S0 : List Nat) (p0 : hooks_Table) (v1 : Value) (p1 : List Int) (r : Int × hooks_Table) (hF : hooks_Table_Detach p0 p1 = some r)
    (hst : St w (fp [itI R_t53 [v0] S0 p0]) w [itI R_t53 [v0] S0 p0]) (h1 : Rd w (fp [itI R_t53 [v0] S0 p0]) v1 (encInt .i64) 1 p1) :
    Calls Tryz.prog 51 [v0, v1].toArray w (fun e w' => ∃ (s0 : List Nat), e = .returned (I r.1) ∧ St w (fp [itI R_t53 [v0] S0 p0]) w' [itI R_t53 [v0] s0 r.2]) := by
 refine CW.start (N := 55) Tryz.func51 rfl rfl rfl ?_
 obtain ⟨l1, a2, c3, rfl⟩ := h1.len
 obtain ⟨b4, rfl⟩ := hst.fptr 0 rfl
 refine rg ?_
 refine pu 1 [] (nx (CW.seq (rg ?_)))
 refine pu 3 [(11, .slice a2 (p1).length c3), (12, I ((p1).length : Int)), (13, I 0)] (nx ?_)
 obtain ⟨o159, ho160, hF⟩ := bs hF
 refine CW.cutK (fun a w1 => ∃ (t161 : Unit) (S158 : List Nat), o159 = .inl t161 ∧ Rep 55 [(0, Pt b4), (1, .slice a2 (p1).length c3)] a ∧ St w (fp [itI R_t53 [Pt b4] S0 p0]) w1 [itI R_t53 [Pt b4] S158 p0]) ?_ ?_
 ·refine CW.block ?_
  refine CW.loop (fun n a w1 => ∃ (i265 : Nat) (s263 : Unit) (S264 : List Nat), i265 + n = (p1).length ∧ Rep 55 [(0, Pt b4), (1, .slice a2 (p1).length c3), (11, .slice a2 (p1).length c3), (12, I ((p1).length : Int)), (13, I (i265 : Int))] a ∧ St w (fp [itI R_t53 [Pt b4] S0 p0]) w1 [itI R_t53 [Pt b4] S264 p0] ∧ forN (hooks_Table_Detach_l1 p0 p1) (fun (s263 : Unit) => (.inl ())) n i265 s263 = some o159) (p1).length (fun a ha => ⟨0, (), S0, Nat.zero_add _, ha.ag, hst.keep [0] rfl, ho160⟩) ?_
  rintro n261 a w1 ⟨i265, s263, S264, hi266, ha, hst, hl262⟩
  refine CW.go ?_ ha
  refine rg ?_
  refine pu 1 [(14, .bool (decide ((i265 : Int) < ((p1).length : Int))))] (nx (CW.seq ?_))
  rcases bft (decide ((i265 : Int) < ((p1).length : Int))) with hc267 | hc267
  ·rcases n261 with _ | n261
   ·exact (cnt0 hi266 hc267).elim
   refine CW.cond_t rfl hc267 (CW.skip (QW.next (CW.seq (CW.block (rg ?_)))))
   refine pu 1 [(15, I (i265 : Int))] ?_
   obtain ⟨x274, hx275, hl262⟩ := bs hl262
   obtain ⟨g277, o278, c279, hv276⟩ := h1.formv (fun _ => ⟨_, rfl⟩) hx275
   refine OW.idx 3 1 rfl rfl rfl rfl hv276 rfl (idx_some hx275).1 (idx_some hx275).2.1 (by kernel_rfl) (by kernel_rfl) ?_
   refine OW.ld rfl rfl rfl rfl (by kernel_rfl) (h1.cellv hst hx275 hv276 0 _ rfl) ?_
   refine pu 2 [(5, I (i265 : Int)), (6, I x274)] (nx (CW.seq ?_))
   obtain ⟨o299, ho300, hl262⟩ := bs hl262
   refine CW.cutK (fun a w1 => ∃ (S298 : List Nat), Rep 55 [(0, Pt b4), (1, .slice a2 (p1).length c3), (11, .slice a2 (p1).length c3), (12, I ((p1).length : Int)), (13, I (i265 : Int)), (28, .bool o299)] a ∧ St w (fp [itI R_t53 [Pt b4] S0 p0]) w1 [itI R_t53 [Pt b4] S298 p0]) ?_ ?_
   ·refine CW.region ?_
    refine pu 2 [(18, Pt b4), (19, I x274)] ?_
    obtain ⟨r301, hr302, ho300⟩ := bs ho300
    refine OW.fn rfl rfl rfl rfl (by kernel_rfl) (hooks_Table_known_ok _ (Pt b4) S264 p0 x274 r301 hr302 (hst.part [0] rfl)) ?_
    rintro e w303 ⟨S305, rfl, hst304⟩
    refine ⟨_, rfl, ?_⟩
    have hst := hst.join (idx := [0]) (rest := []) rfl hst304
    refine pu 2 [(22, .bool (!r301))] ?_
    refine OW.split 22 rfl (fun hc306 => ?_) (fun hc306 => ?_)
    ·have ho300 := ite_t ho300 hc306
     refine pu 6 [(28, .bool true)] (OW.nil rfl ?_)
     obtain rfl := inj ho300
     exact QW.meet (fun a ha => ⟨S305, ha.ag, hst.keep [0] rfl⟩)
    have ho300 := ite_f ho300 hc306
    refine pu 2 [(23, .slice a2 (p1).length c3), (24, I (i265 : Int))] ?_
    obtain ⟨ys307, hcut308, ho300⟩ := bs ho300
    refine OW.op (v := .slice a2 (ys307).length c3) rfl rfl rfl rfl (fun a ha => pre_run (e := 3) 1 rfl rfl rfl hcut308 h1.cap (by kernel_rfl) (by kernel_rfl) a _ ha) ?_
    have hp309 := h1.pre hcut308
    refine pu 1 [(26, I x274)] ?_
    obtain ⟨r310, hr311, ho300⟩ := bs ho300
    refine OW.fn rfl rfl rfl rfl (by kernel_rfl) (slices_Contains_int_int_ok _ (.slice a2 (ys307).length c3) ys307 x274 r310 hr311 (hst.part [] rfl) (hp309.give hst [])) ?_
    rintro e w312 ⟨rfl, hst313⟩
    refine ⟨_, rfl, ?_⟩
    have hst := hst.join (idx := []) (rest := [0]) rfl hst313
    refine pu 1 [(28, .bool r310)] (OW.nil rfl ?_)
    obtain rfl := inj ho300
    exact QW.meet (fun a ha => ⟨S305, ha.ag, hst.keep [0] rfl⟩)
   rintro a w1 ⟨S298, ha, hst⟩
   refine CW.go ?_ ha
   refine br (o299) hl262 (fun hl262 hc314 => ?_) (fun hl262 hc314 => ?_)
   ·refine rg ?_
    refine pu 1 [(4, I 2)] (nx (CW.ret (QW.block_ret (QW.then_ret (QW.then_ret (QW.block_ret (QW.then_ret ?_)))))))
    obtain rfl := inj hl262
    obtain rfl := inj hF
    refine QW.ret1 rfl rfl ?_
    exact ⟨S298, rfl, hst.keep [0] rfl⟩
   refine CW.skip (QW.block_normal (QW.next (CW.region ?_)))
   refine pu 2 [(13, I (w64 ((i265 : Int) + 1)))] (OW.nil rfl ?_)
   refine QW.say 13 rfl (congrArg (Value.int .i64) (w64_cnt hc267 l1)) ?_
   exact QW.meet (fun a ha => ⟨n261, Nat.lt_succ_self _, i265 + 1, (), S298, cnt_next hi266, ha.ag, hst.keep [0] rfl, hl262⟩)
  rcases n261 with _ | n261
  ·refine CW.cond_f rfl hc267 ?_
   refine CW.exit (QW.then_exit (QW.then_exit ?_))
   refine QW.block_here ?_
   obtain rfl := inj hl262
   exact QW.meet (fun a ha => ⟨(), S264, rfl, ha.ag, hst.keep [0] rfl⟩)
  exact (cnt1 hi266 hc267).elim
 rintro a w1 ⟨t161, S158, rfl, ha, hst⟩
 refine CW.go ?_ ha
 refine CW.seq (rg ?_)
 refine pu 3 [(30, .slice a2 (p1).length c3), (31, I ((p1).length : Int)), (32, I 0)] (nx ?_)
 obtain ⟨o397, ho398, hF⟩ := bs hF
 refine CW.cutK (fun a w1 => ∃ (t399 : Unit) (S396 : List Nat), o397 = .inl t399 ∧ Rep 55 [(0, Pt b4), (1, .slice a2 (p1).length c3)] a ∧ St w (fp [itI R_t53 [Pt b4] S0 p0]) w1 [itI R_t53 [Pt b4] S396 p0]) ?_ ?_
 ·refine CW.block ?_
  refine CW.loop (fun n a w1 => ∃ (i455 : Nat) (s453 : Unit) (S454 : List Nat), i455 + n = (p1).length ∧ Rep 55 [(0, Pt b4), (1, .slice a2 (p1).length c3), (30, .slice a2 (p1).length c3), (31, I ((p1).length : Int)), (32, I (i455 : Int))] a ∧ St w (fp [itI R_t53 [Pt b4] S0 p0]) w1 [itI R_t53 [Pt b4] S454 p0] ∧ forN (hooks_Table_Detach_l2 p0 p1) (fun (s453 : Unit) => (.inl ())) n i455 s453 = some o397) (p1).length (fun a ha => ⟨0, (), S158, Nat.zero_add _, ha.ag, hst.keep [0] rfl, ho398⟩) ?_
  rintro n451 a w1 ⟨i455, s453, S454, hi456, ha, hst, hl452⟩
  refine CW.go ?_ ha
  refine rg ?_
  refine pu 1 [(33, .bool (decide ((i455 : Int) < ((p1).length : Int))))] (nx (CW.seq ?_))
  rcases bft (decide ((i455 : Int) < ((p1).length : Int))) with hc457 | hc457
  ·rcases n451 with _ | n451
   ·exact (cnt0 hi456 hc457).elim
   refine CW.cond_t rfl hc457 (CW.skip (QW.next (CW.seq (CW.block (rg ?_)))))
   obtain ⟨x464, hx465, hl452⟩ := bs hl452
   obtain ⟨g467, o468, c469, hv466⟩ := h1.formv (fun _ => ⟨_, rfl⟩) hx465
   refine OW.idx 3 1 rfl rfl rfl rfl hv466 rfl (idx_some hx465).1 (idx_some hx465).2.1 (by kernel_rfl) (by kernel_rfl) ?_
   refine OW.ld rfl rfl rfl rfl (by kernel_rfl) (h1.cellv hst hx465 hv466 0 _ rfl) ?_
   refine pu 1 [(8, I x464)] (nx (rg ?_))
   refine pu 2 [(36, Pt b4), (37, I x464)] ?_
   obtain ⟨r475, hr476, hl452⟩ := bs hl452
   refine OW.fn rfl rfl rfl rfl (by kernel_rfl) (hooks_Table_taken_ok _ (Pt b4) S454 p0 x464 r475 hr476 (hst.part [0] rfl)) ?_
   rintro e w477 ⟨S479, rfl, hst478⟩
   refine ⟨_, rfl, ?_⟩
   have hst := hst.join (idx := [0]) (rest := []) rfl hst478
   refine pu 1 [(39, .bool (!r475))] (nx ?_)
   refine br ((!r475)) hl452 (fun hl452 hc480 => ?_) (fun hl452 hc480 => ?_)
   ·refine rg ?_
    refine pu 1 [(4, I 41)] (nx (CW.ret (QW.block_ret (QW.then_ret (QW.then_ret (QW.block_ret (QW.then_ret ?_)))))))
    obtain rfl := inj hl452
    obtain rfl := inj hF
    refine QW.ret1 rfl rfl ?_
    exact ⟨S479, rfl, hst.keep [0] rfl⟩
   refine CW.skip (QW.block_normal (QW.next (CW.region ?_)))
   refine pu 2 [(32, I (w64 ((i455 : Int) + 1)))] (OW.nil rfl ?_)
   refine QW.say 32 rfl (congrArg (Value.int .i64) (w64_cnt hc457 l1)) ?_
   exact QW.meet (fun a ha => ⟨n451, Nat.lt_succ_self _, i455 + 1, (), S479, cnt_next hi456, ha.ag, hst.keep [0] rfl, hl452⟩)
  rcases n451 with _ | n451
  ·refine CW.cond_f rfl hc457 ?_
   refine CW.exit (QW.then_exit (QW.then_exit ?_))
   refine QW.block_here ?_
   obtain rfl := inj hl452
   exact QW.meet (fun a ha => ⟨(), S454, rfl, ha.ag, hst.keep [0] rfl⟩)
  exact (cnt1 hi456 hc457).elim
 rintro a w1 ⟨t399, S396, rfl, ha, hst⟩
 refine CW.go ?_ ha
 refine CW.seq (rg ?_)
 refine pu 3 [(41, .slice a2 (p1).length c3), (42, I ((p1).length : Int)), (43, I 0)] (nx ?_)
 obtain ⟨o590, ho591, hF⟩ := bs hF
 refine CW.cutK (fun a w1 => ∃ (S589 : List Nat), Rep 55 [] a ∧ St w (fp [itI R_t53 [Pt b4] S0 p0]) w1 [itI R_t53 [Pt b4] S589 o590]) ?_ ?_
 ·refine CW.block ?_
  refine CW.loop (fun n a w1 => ∃ (i665 : Nat) (s663 : hooks_Table) (S664 : List Nat), i665 + n = (p1).length ∧ Rep 55 [(0, Pt b4), (41, .slice a2 (p1).length c3), (42, I ((p1).length : Int)), (43, I (i665 : Int))] a ∧ St w (fp [itI R_t53 [Pt b4] S0 p0]) w1 [itI R_t53 [Pt b4] S664 s663] ∧ forN (hooks_Table_Detach_l3 p1) (fun (s663 : hooks_Table) => s663) n i665 s663 = some o590) (p1).length (fun a ha => ⟨0, p0, S396, Nat.zero_add _, ha.ag, hst.keep [0] rfl, ho591⟩) ?_
  rintro n661 a w1 ⟨i665, s663, S664, hi666, ha, hst, hl662⟩
  refine CW.go ?_ ha
  refine rg ?_
  refine pu 1 [(44, .bool (decide ((i665 : Int) < ((p1).length : Int))))] (nx (CW.seq ?_))
  rcases bft (decide ((i665 : Int) < ((p1).length : Int))) with hc667 | hc667
  ·rcases n661 with _ | n661
   ·exact (cnt0 hi666 hc667).elim
   refine CW.cond_t rfl hc667 (CW.skip (QW.next (CW.seq (CW.block (rg ?_)))))
   obtain ⟨x674, hx675, hl662⟩ := bs hl662
   obtain ⟨g677, o678, c679, hv676⟩ := h1.formv (fun _ => ⟨_, rfl⟩) hx675
   refine OW.idx 3 1 rfl rfl rfl rfl hv676 rfl (idx_some hx675).1 (idx_some hx675).2.1 (by kernel_rfl) (by kernel_rfl) ?_
   refine OW.ld rfl rfl rfl rfl (by kernel_rfl) (h1.cellv hst hx675 hv676 0 _ rfl) ?_
   refine pu 1 [(10, I x674)] (nx ?_)
   obtain ⟨v680, S681, hst⟩ := hst.openQ1 0 rfl rfl
   have hst := hst.toRow1 1 rfl
   obtain ⟨l682, a683, c684, rfl⟩ := hst.len 1 rfl
   have hst : St _ _ _ [blkI b4 69 [I s663.Versions.last, .slice a683 (s663.hooks).length c684], _] := hst
   refine CW.region ?_
   refine pu 3 [(49, .pointer (some ⟨b4, 1, none⟩))] ?_
   refine OW.ld rfl rfl rfl rfl (by kernel_rfl) (hst.blk 0 rfl rfl) ?_
   refine pu 2 [(51, I x674), (52, .agg [I 0, I 0].toArray)] ?_
   obtain ⟨x692, hx693, hl662⟩ := bs hl662
   obtain ⟨g695, o696, c697, hv694⟩ := hst.rowv 1 rfl hx693
   refine OW.idx 165 2 rfl rfl rfl rfl hv694 rfl (idx_some hx693).1 (idx_some hx693).2.1 (by kernel_rfl) (by kernel_rfl) ?_
   refine OW.stR hst 1 rfl hv694 (fun _ => rfl) rfl rfl hx693 0 rfl rfl rfl (by kernel_rfl) rfl rfl (hooks_published.mk 0 0) rfl ?_
   intro w698 hst
   refine OW.nil rfl (QW.block_normal (QW.next (CW.region ?_)))
   refine pu 2 [(43, I (w64 ((i665 : Int) + 1)))] (OW.nil rfl ?_)
   have hst := hst.toIt 1 rfl (fun _ => rfl) (by decide)
   obtain ⟨S699, hst⟩ := hst.shutP1 R_t69 rfl 0 1 [] rfl rfl rfl (hooks_Table.mk s663.Versions (s663.hooks.set (Int.toNat x674) (hooks_published.mk 0 0))) rfl rfl
   refine QW.say 43 rfl (congrArg (Value.int .i64) (w64_cnt hc667 l1)) ?_
   exact QW.meet (fun a ha => ⟨n661, Nat.lt_succ_self _, i665 + 1, (hooks_Table.mk s663.Versions (s663.hooks.set (Int.toNat x674) (hooks_published.mk 0 0))), S699, cnt_next hi666, ha.ag, hst.keep [0] rfl, hl662⟩)
  rcases n661 with _ | n661
  ·refine CW.cond_f rfl hc667 ?_
   refine CW.exit (QW.then_exit (QW.then_exit ?_))
   refine QW.block_here ?_
   obtain rfl := inj hl662
   exact QW.meet (fun a ha => ⟨S664, ha.ag, hst.keep [0] rfl⟩)
  exact (cnt1 hi666 hc667).elim
 rintro a w1 ⟨S589, ha, hst⟩
 refine CW.go ?_ ha
 refine rg ?_
 refine pu 1 [(4, I 0)] (nx (CW.ret ?_))
 obtain rfl := inj hF
 refine QW.ret1 rfl rfl ?_
 exact ⟨S589, rfl, hst.keep [0] rfl⟩
theorem epoch_Clock_Enter_ok (w : World) (v0 : Value) (S0 : List Nat) (p0 : epoch_Clock) (p1 : Int) (r : Int × Int × epoch_Clock) (hF : epoch_Clock_Enter p0 p1 = some r)
    (hst : St w (fp [itI R_t55 [v0] S0 p0]) w [itI R_t55 [v0] S0 p0]) :
    Calls Tryz.prog 52 [v0, I p1].toArray w (fun e w' => ∃ (s0 : List Nat), e = .returned (.tuple #[I r.1, I r.2.1]) ∧ St w (fp [itI R_t55 [v0] S0 p0]) w' [itI R_t55 [v0] s0 r.2.2]) := by
 refine CW.start (N := 34) Tryz.func52 rfl rfl rfl ?_
 obtain ⟨b1, rfl⟩ := hst.fptr 0 rfl
 refine rg ?_
 refine pu 2 [] (nx (CW.seq (CW.block (rg ?_))))
 refine pu 2 [(7, Pt b1), (8, I p1)] ?_
 obtain ⟨r7, hr8, hF⟩ := bs hF
 refine OW.fn rfl rfl rfl rfl (by kernel_rfl) (epoch_Clock_known_ok _ (Pt b1) S0 p0 p1 r7 hr8 (hst.part [0] rfl)) ?_
 rintro e w9 ⟨S11, rfl, hst10⟩
 refine ⟨_, rfl, ?_⟩
 have hst := hst.join (idx := [0]) (rest := []) rfl hst10
 refine pu 2 [(6, .bool (!r7))] (nx ?_)
 refine br ((!r7)) hF (fun hF hc12 => ?_) (fun hF hc12 => ?_)
 ·refine rg ?_
  refine pu 2 [(4, I 0), (5, I 2)] (nx (CW.ret (QW.block_ret (QW.then_ret ?_))))
  obtain rfl := inj hF
  refine QW.ret2 rfl rfl rfl ?_
  exact ⟨S11, rfl, hst.keep [0] rfl⟩
 refine CW.seq ?_
 obtain ⟨v13, S14, hst⟩ := hst.openQ1 0 rfl rfl
 have hst := hst.toRow1 1 rfl
 obtain ⟨l15, a16, c17, rfl⟩ := hst.len 1 rfl
 have hst : St _ _ _ [blkI b1 106 [I p0.now, .slice a16 (p0.in_).length c17], _] := hst
 refine CW.region ?_
 refine pu 3 [(14, .pointer (some ⟨b1, 1, none⟩))] ?_
 refine OW.ld rfl rfl rfl rfl (by kernel_rfl) (hst.blk 0 rfl rfl) ?_
 refine pu 1 [(16, I p1)] ?_
 obtain ⟨x24, hx25, hF⟩ := bs hF
 obtain ⟨g27, o28, c29, hv26⟩ := hst.rowv 1 rfl hx25
 refine OW.idx 3 1 rfl rfl rfl rfl hv26 rfl (idx_some hx25).1 (idx_some hx25).2.1 (by kernel_rfl) (by kernel_rfl) ?_
 refine OW.ld rfl rfl rfl rfl (by kernel_rfl) (hst.rowc 1 rfl (fun _ => rfl) hx25 hv26 0 _ rfl) ?_
 refine pu 2 [(11, .bool (x24 != 0))] (nx ?_)
 refine br ((x24 != 0)) hF (fun hF hc30 => ?_) (fun hF hc30 => ?_)
 ·refine rg ?_
  refine pu 2 [(4, I 0), (5, I 42)] (nx (CW.ret (QW.block_ret (QW.then_ret ?_))))
  have hst := hst.toIt 1 rfl (fun _ => rfl) (by decide)
  obtain ⟨S31, hst⟩ := hst.shutP1 R_t106 rfl 0 1 [] rfl rfl rfl p0 rfl rfl
  obtain rfl := inj hF
  refine QW.ret2 rfl rfl rfl ?_
  exact ⟨S31, rfl, hst.keep [0] rfl⟩
 refine CW.skip (QW.block_normal (QW.next (CW.seq ?_)))
 refine CW.tail 10 (by kernel_rfl) (by kernel_rfl) ?_
 intro w39 hch40
 have hst := hst.same hch40
 refine OS.pure 3 [(22, .pointer (some ⟨b1, 1, none⟩))] rfl (by kernel_rfl) ?_
 refine OS.ld rfl rfl rfl rfl rfl (by kernel_rfl) (hst.blk 0 rfl rfl) ?_
 refine OS.pure 4 [(24, I p1), (27, Pt b1)] rfl (by kernel_rfl) ?_
 refine OS.ld rfl rfl rfl rfl rfl (by kernel_rfl) (hst.blk 0 rfl rfl) ?_
 obtain ⟨g42, o43, c44, hv41⟩ := hst.rowv 1 rfl hx25
 refine OS.idx 3 1 rfl rfl rfl rfl rfl hv41 rfl (idx_some hx25).1 (idx_some hx25).2.1 (by kernel_rfl) (by kernel_rfl) ?_
 refine OS.on ?_
 refine OW.stR hst 1 rfl hv41 (fun _ => rfl) rfl rfl hx25 0 rfl rfl rfl (by kernel_rfl) rfl rfl p0.now rfl ?_
 intro w45 hst
 refine nx (rg ?_)
 refine pu 3 [(32, Pt b1)] ?_
 refine OW.ld rfl rfl rfl rfl (by kernel_rfl) (hst.blk 0 rfl rfl) ?_
 refine pu 2 [(4, I p0.now), (5, I 0)] (nx (CW.ret ?_))
 have hst := hst.toIt 1 rfl (fun _ => rfl) (by decide)
 obtain ⟨S46, hst⟩ := hst.shutP1 R_t106 rfl 0 1 [] rfl rfl rfl (epoch_Clock.mk p0.now (p0.in_.set (Int.toNat p1) p0.now)) rfl rfl
 obtain rfl := inj hF
 refine QW.ret2 rfl rfl rfl ?_
 exact ⟨S46, rfl, hst.keep [0] rfl⟩
theorem tappetlaw24_play_ok (w : World) (fu : Nat) (v0 : Value) (S0 : List Nat) (p0 : registry_Registry) (v1_0 : Value) (p1 : tappetlaw24_Op) (r : Int × Int × registry_Registry) (hF : tappetlaw24_play fu p0 p1 = some r)
    (hst : St w (fp [itI R_t24 [v0] S0 p0]) w [itI R_t24 [v0] S0 p0]) (h1_0 : Rd w (fp [itI R_t24 [v0] S0 p0]) v1_0 (encInt .u8) 1 p1.Bytes) (hT0 : Rd w (fp [itI R_t24 [v0] S0 p0]) (.slice (some ⟨0, 0, none⟩) 23 23) enc_ops_form 2 tab_g0) (hT1 : Rd w (fp [itI R_t24 [v0] S0 p0]) (.slice (some ⟨1, 0, none⟩) 7 7) enc_sigs_sig 5 tab_g1) :
    Calls Tryz.prog 20 [v0, .agg [I p1.Kind, I p1.A, I p1.B, v1_0].toArray].toArray w (fun e w' => ∃ (s0 : List Nat), e = .returned (.tuple #[I r.1, I r.2.1]) ∧ St w (fp [itI R_t24 [v0] S0 p0]) w' [itI R_t24 [v0] s0 r.2.2]) := by
 refine CW.start (N := 89) Tryz.func20 rfl rfl rfl ?_
 obtain ⟨l1, a2, c3, rfl⟩ := h1_0.len
 obtain ⟨b4, rfl⟩ := hst.fptr 0 rfl
 refine rg ?_
 refine OW.box hst rfl rfl rfl rfl [I p1.Kind, I p1.A, I p1.B, .slice a2 (p1.Bytes).length c3] rfl ?_
 intro b7 w8 hst
 refine pu 2 [] (nx (CW.seq (rg ?_)))
 refine pu 1 [(6, Pt b7)] ?_
 refine OW.ld rfl rfl rfl rfl (by kernel_rfl) (hst.blk 1 rfl rfl) (nx (CW.block (rg ?_)))
 refine pu 2 [(8, .bool (p1.Kind == 0))] (nx ?_)
 refine br ((p1.Kind == 0)) hF (fun hF hc9 => ?_) (fun hF hc9 => ?_)
 ·refine rg ?_
  refine pu 1 [(10, Pt b4)] ?_
  refine OW.row (α := Int) (e := 5) (enc := encInt .u8) (sz := 1) hst rfl rfl rfl [] rfl (fun _ => rfl) rfl rfl (fun _ => by kernel_rfl) ?_
  intro g24 w25 hst
  refine pu 1 [(12, .pointer (some ⟨b7, 3, none⟩))] ?_
  refine OW.ld rfl rfl rfl rfl (by kernel_rfl) (hst.blk 1 rfl rfl) ?_
  obtain ⟨u26, hr27, hF⟩ := bs hF
  refine OW.app hst 2 rfl (fun _ => rfl) (fun _ => rfl) rfl rfl rfl rfl rfl rfl (by kernel_rfl) el5 (h1_0.on hst) (room_le hr27) ?_
  intro v28 w29 hst
  obtain ⟨l30, a31, c32, rfl⟩ := hst.len 2 rfl
  obtain ⟨r33, hr34, hF⟩ := bs hF
  refine OW.fn rfl rfl rfl rfl (by kernel_rfl) (registry_Registry_Load_ok _ fu (Pt b4) S0 p0 (.slice a31 ((([] : List Int) ++ p1.Bytes)).length c32) (([] : List Int) ++ p1.Bytes) r33 hr34 (hst.part [0] rfl) (hst.rd 2 rfl (fun _ => rfl) [0] rfl (hst.len 2 rfl).1) (hT0.give hst [0]) (hT1.give hst [0])) ?_
  rintro e w35 ⟨S37, rfl, hst36⟩
  refine ⟨_, rfl, ?_⟩
  have hst := hst.join (idx := [0]) (rest := [1, 2]) rfl hst36
  refine pu 4 [(4, I r33.1), (5, I r33.2.1)] (nx (CW.ret (QW.block_ret (QW.then_ret ?_))))
  obtain rfl := inj hF
  refine QW.ret2 rfl rfl rfl ?_
  exact ⟨S37, rfl, hst.keep [0] rfl⟩
 refine rg ?_
 refine pu 2 [(18, .bool (p1.Kind == 1))] (nx ?_)
 refine br ((p1.Kind == 1)) hF (fun hF hc38 => ?_) (fun hF hc38 => ?_)
 ·refine rg ?_
  refine pu 2 [(20, Pt b4), (21, .pointer (some ⟨b7, 1, none⟩))] ?_
  refine OW.ld rfl rfl rfl rfl (by kernel_rfl) (hst.blk 1 rfl rfl) ?_
  refine pu 1 [(23, .pointer (some ⟨b7, 2, none⟩))] ?_
  refine OW.ld rfl rfl rfl rfl (by kernel_rfl) (hst.blk 1 rfl rfl) ?_
  obtain ⟨r44, hr45, hF⟩ := bs hF
  refine OW.fn rfl rfl rfl rfl (by kernel_rfl) (registry_Registry_Attach_ok _ (Pt b4) S0 p0 p1.A p1.B r44 hr45 (hst.part [0] rfl)) ?_
  rintro e w46 ⟨S48, rfl, hst47⟩
  refine ⟨_, rfl, ?_⟩
  have hst := hst.join (idx := [0]) (rest := [1]) rfl hst47
  refine pu 4 [(4, I r44.1), (5, I r44.2.1)] (nx (CW.ret (QW.block_ret (QW.then_ret ?_))))
  obtain rfl := inj hF
  refine QW.ret2 rfl rfl rfl ?_
  exact ⟨S48, rfl, hst.keep [0] rfl⟩
 refine rg ?_
 refine pu 2 [(28, .bool (p1.Kind == 2))] (nx ?_)
 refine br ((p1.Kind == 2)) hF (fun hF hc49 => ?_) (fun hF hc49 => ?_)
 ·refine rg ?_
  refine pu 2 [(30, Pt b4), (31, .pointer (some ⟨b7, 1, none⟩))] ?_
  refine OW.ld rfl rfl rfl rfl (by kernel_rfl) (hst.blk 1 rfl rfl) ?_
  refine pu 1 [(33, .pointer (some ⟨b7, 2, none⟩))] ?_
  refine OW.ld rfl rfl rfl rfl (by kernel_rfl) (hst.blk 1 rfl rfl) ?_
  obtain ⟨r55, hr56, hF⟩ := bs hF
  refine OW.fn rfl rfl rfl rfl (by kernel_rfl) (registry_Registry_Swap_ok _ (Pt b4) S0 p0 p1.A p1.B r55 hr56 (hst.part [0] rfl)) ?_
  rintro e w57 ⟨S59, rfl, hst58⟩
  refine ⟨_, rfl, ?_⟩
  have hst := hst.join (idx := [0]) (rest := [1]) rfl hst58
  refine pu 4 [(4, I r55.1), (5, I r55.2.1)] (nx (CW.ret (QW.block_ret (QW.then_ret ?_))))
  obtain rfl := inj hF
  refine QW.ret2 rfl rfl rfl ?_
  exact ⟨S59, rfl, hst.keep [0] rfl⟩
 refine rg ?_
 refine pu 2 [(38, .bool (p1.Kind == 3))] (nx ?_)
 refine br ((p1.Kind == 3)) hF (fun hF hc60 => ?_) (fun hF hc60 => ?_)
 ·refine CW.seq ?_
  obtain ⟨v61, S62, v63, S64, v65, S66, v67, S68, v69, S70, hst⟩ := hst.openQ5 0 rfl rfl rfl rfl rfl rfl
  obtain ⟨r71, rfl, hst⟩ := hst.toMN1 5 rfl
  have hst := hst.toRow1 6 rfl
  obtain ⟨b72, rfl⟩ := hst.fptr 2 rfl
  obtain ⟨b73, rfl⟩ := hst.fptr 3 rfl
  obtain ⟨b74, rfl⟩ := hst.fptr 4 rfl
  obtain ⟨l75, a76, c77, rfl⟩ := hst.len 6 rfl
  have hst : St _ _ _ [blkI b4 58 [Pt b72, Pt b73, Pt b74, I p0.hooks, I p0.maps, I p0.given, .map (some r71), .slice a76 (p0.waiting).length c77], _, _, _, _, _, _] := hst
  refine CW.plan (by kernel_rfl) ?_
  intro w87 hch88
  have hst := hst.same hch88
  refine OA.pure [0, 1, 2] [(42, Pt b4)] (by kernel_rfl) ?_
  refine OA.ld (i := 3) rfl (by kernel_rfl) rfl rfl rfl (by kernel_rfl) (hst.blk 0 rfl rfl) ?_
  refine OA.pure [4] [(44, .pointer (some ⟨b7, 1, none⟩))] (by kernel_rfl) ?_
  refine OA.ld (i := 5) rfl (by kernel_rfl) rfl rfl rfl (by kernel_rfl) (hst.blk 1 rfl rfl) ?_
  refine OA.act (i := 6) [3] (by kernel_rfl) rfl rfl (by kernel_rfl) (by kernel_rfl) ?_
  refine OW.row (α := Int) (e := 3) (enc := encInt .i64) (sz := 1) hst rfl rfl rfl [p1.A] rfl (fun _ => rfl) rfl rfl (fun _ => by kernel_rfl) ?_
  intro g89 w90 hst
  refine OA.next ⟨(hst.blk 0 rfl rfl), trivial⟩ ?_
  refine OA.act (i := 7) [] (by kernel_rfl) rfl rfl (by kernel_rfl) (by kernel_rfl) ?_
  obtain ⟨r91, hr92, hF⟩ := bs hF
  refine OW.fn rfl rfl rfl rfl (by kernel_rfl) (hooks_Table_Detach_ok _ (Pt b72) S62 p0.Table (.slice (some ⟨g89, 0, none⟩) 1 1) ([p1.A]) r91 hr92 (hst.part [2] rfl) (hst.rd 7 rfl (fun _ => rfl) [2] rfl (hst.len 7 rfl).1)) ?_
  rintro e w93 ⟨S95, rfl, hst94⟩
  refine ⟨_, rfl, ?_⟩
  have hst := hst.join (idx := [2]) (rest := [0, 1, 3, 4, 5, 6, 7]) rfl hst94
  refine OA.next trivial ?_
  refine OA.act (i := 8) [] (by kernel_rfl) rfl rfl (by kernel_rfl) (by kernel_rfl) ?_
  refine pu 1 [(4, I 0)] (OA.next trivial ?_)
  refine OA.act (i := 9) [] (by kernel_rfl) rfl rfl (by kernel_rfl) (by kernel_rfl) ?_
  refine pu 1 [(5, I r91.1)] (OA.next trivial ?_)
  refine OA.fin (by kernel_rfl) (by kernel_rfl) (QW.next (CW.ret (QW.block_ret (QW.then_ret ?_))))
  have hst := hst.ofMN 5 rfl
  have hst := hst.toIt 6 rfl (fun _ => rfl) (by decide)
  obtain ⟨S96, hst⟩ := hst.shutP5 R_t58 rfl 1 0 3 4 5 6 [2, 7] rfl rfl rfl rfl rfl rfl rfl (registry_Registry.mk r91.2 p0.Refs p0.Clock p0.hooks p0.maps p0.given p0.progs p0.waiting) rfl rfl
  obtain rfl := inj hF
  refine QW.ret2 rfl rfl rfl ?_
  exact ⟨S96, rfl, hst.keep [2] rfl⟩
 refine rg ?_
 refine pu 2 [(48, .bool (p1.Kind == 4))] (nx ?_)
 refine br ((p1.Kind == 4)) hF (fun hF hc97 => ?_) (fun hF hc97 => ?_)
 ·refine rg ?_
  refine pu 2 [(50, Pt b4), (51, .pointer (some ⟨b7, 2, none⟩))] ?_
  refine OW.ld rfl rfl rfl rfl (by kernel_rfl) (hst.blk 1 rfl rfl) ?_
  obtain ⟨r103, hr104, hF⟩ := bs hF
  refine OW.fn rfl rfl rfl rfl (by kernel_rfl) (registry_Registry_Retire_ok _ (Pt b4) S0 p0 p1.B r103 hr104 (hst.part [0] rfl)) ?_
  rintro e w105 ⟨S107, rfl, hst106⟩
  refine ⟨_, rfl, ?_⟩
  have hst := hst.join (idx := [0]) (rest := [1]) rfl hst106
  refine pu 4 [(4, I r103.1), (5, I r103.2.1)] (nx (CW.ret (QW.block_ret (QW.then_ret ?_))))
  obtain rfl := inj hF
  refine QW.ret2 rfl rfl rfl ?_
  exact ⟨S107, rfl, hst.keep [0] rfl⟩
 refine rg ?_
 refine pu 2 [(56, .bool (p1.Kind == 5))] (nx ?_)
 refine br ((p1.Kind == 5)) hF (fun hF hc108 => ?_) (fun hF hc108 => ?_)
 ·refine rg ?_
  refine pu 2 [(58, Pt b4), (59, .pointer (some ⟨b7, 1, none⟩))] ?_
  refine OW.ld rfl rfl rfl rfl (by kernel_rfl) (hst.blk 1 rfl rfl) ?_
  obtain ⟨r118, hr119, hF⟩ := bs hF
  refine OW.fn rfl rfl rfl rfl (by kernel_rfl) (registry_Registry_Settle_ok _ fu (Pt b4) S0 p0 p1.A r118 hr119 (hst.part [0] rfl)) ?_
  rintro e w120 ⟨S122, v123, rfl, hst121⟩
  refine ⟨_, rfl, ?_⟩
  have hst := hst.join (idx := [0]) (rest := [1]) rfl hst121
  obtain ⟨l124, a125, c126, rfl⟩ := hst.len 1 rfl
  refine pu 3 [(4, I ((r118.1).length : Int)), (5, I 0)] (nx (CW.ret (QW.block_ret (QW.then_ret ?_))))
  obtain rfl := inj hF
  refine QW.ret2 rfl rfl rfl ?_
  exact ⟨S122, rfl, hst.keep [0] rfl⟩
 refine rg ?_
 refine pu 2 [(63, .bool (p1.Kind == 6))] (nx ?_)
 refine br ((p1.Kind == 6)) hF (fun hF hc127 => ?_) (fun hF hc127 => ?_)
 ·refine CW.seq ?_
  obtain ⟨v128, S129, v130, S131, v132, S133, v134, S135, v136, S137, hst⟩ := hst.openQ5 0 rfl rfl rfl rfl rfl rfl
  obtain ⟨r138, rfl, hst⟩ := hst.toMN1 5 rfl
  have hst := hst.toRow1 6 rfl
  obtain ⟨b139, rfl⟩ := hst.fptr 2 rfl
  obtain ⟨b140, rfl⟩ := hst.fptr 3 rfl
  obtain ⟨b141, rfl⟩ := hst.fptr 4 rfl
  obtain ⟨l142, a143, c144, rfl⟩ := hst.len 6 rfl
  have hst : St _ _ _ [blkI b4 58 [Pt b139, Pt b140, Pt b141, I p0.hooks, I p0.maps, I p0.given, .map (some r138), .slice a143 (p0.waiting).length c144], _, _, _, _, _, _] := hst
  refine CW.plan (by kernel_rfl) ?_
  intro w152 hch153
  have hst := hst.same hch153
  refine OA.pure [0, 1, 2] [(67, .pointer (some ⟨b4, 2, none⟩))] (by kernel_rfl) ?_
  refine OA.ld (i := 3) rfl (by kernel_rfl) rfl rfl rfl (by kernel_rfl) (hst.blk 0 rfl rfl) ?_
  refine OA.pure [4] [(69, .pointer (some ⟨b7, 1, none⟩))] (by kernel_rfl) ?_
  refine OA.ld (i := 5) rfl (by kernel_rfl) rfl rfl rfl (by kernel_rfl) (hst.blk 1 rfl rfl) ?_
  refine OA.act (i := 6) [] (by kernel_rfl) rfl rfl (by kernel_rfl) (by kernel_rfl) ?_
  obtain ⟨r154, hr155, hF⟩ := bs hF
  refine OW.fn rfl rfl rfl rfl (by kernel_rfl) (epoch_Clock_Enter_ok _ (Pt b141) S133 p0.Clock p1.A r154 hr155 (hst.part [4] rfl)) ?_
  rintro e w156 ⟨S158, rfl, hst157⟩
  refine ⟨_, rfl, ?_⟩
  have hst := hst.join (idx := [4]) (rest := [0, 1, 2, 3, 5, 6]) rfl hst157
  refine OA.next trivial ?_
  refine OA.pure [7, 8] [(72, I r154.1), (73, I r154.2.1)] (by kernel_rfl) ?_
  refine OA.act (i := 9) [] (by kernel_rfl) rfl rfl (by kernel_rfl) (by kernel_rfl) ?_
  refine pu 1 [(4, I r154.1)] (OA.next trivial ?_)
  refine OA.act (i := 10) [] (by kernel_rfl) rfl rfl (by kernel_rfl) (by kernel_rfl) ?_
  refine pu 1 [(5, I r154.2.1)] (OA.next trivial ?_)
  refine OA.fin (by kernel_rfl) (by kernel_rfl) (QW.next (CW.ret (QW.block_ret (QW.then_ret ?_))))
  have hst := hst.ofMN 5 rfl
  have hst := hst.toIt 6 rfl (fun _ => rfl) (by decide)
  obtain ⟨S159, hst⟩ := hst.shutP5 R_t58 rfl 1 3 4 0 5 6 [2] rfl rfl rfl rfl rfl rfl rfl (registry_Registry.mk p0.Table p0.Refs r154.2.2 p0.hooks p0.maps p0.given p0.progs p0.waiting) rfl rfl
  obtain rfl := inj hF
  refine QW.ret2 rfl rfl rfl ?_
  exact ⟨S159, rfl, hst.keep [1] rfl⟩
 refine rg ?_
 refine pu 2 [(74, .bool (p1.Kind == 7))] (nx ?_)
 refine br ((p1.Kind == 7)) hF (fun hF hc160 => ?_) (fun hF hc160 => ?_)
 ·refine CW.seq ?_
  obtain ⟨v161, S162, v163, S164, v165, S166, v167, S168, v169, S170, hst⟩ := hst.openQ5 0 rfl rfl rfl rfl rfl rfl
  obtain ⟨r171, rfl, hst⟩ := hst.toMN1 5 rfl
  have hst := hst.toRow1 6 rfl
  obtain ⟨b172, rfl⟩ := hst.fptr 2 rfl
  obtain ⟨b173, rfl⟩ := hst.fptr 3 rfl
  obtain ⟨b174, rfl⟩ := hst.fptr 4 rfl
  obtain ⟨l175, a176, c177, rfl⟩ := hst.len 6 rfl
  have hst : St _ _ _ [blkI b4 58 [Pt b172, Pt b173, Pt b174, I p0.hooks, I p0.maps, I p0.given, .map (some r171), .slice a176 (p0.waiting).length c177], _, _, _, _, _, _] := hst
  refine CW.plan (by kernel_rfl) ?_
  intro w187 hch188
  have hst := hst.same hch188
  refine OA.pure [0, 1, 2] [(78, .pointer (some ⟨b4, 2, none⟩))] (by kernel_rfl) ?_
  refine OA.ld (i := 3) rfl (by kernel_rfl) rfl rfl rfl (by kernel_rfl) (hst.blk 0 rfl rfl) ?_
  refine OA.pure [4] [(80, .pointer (some ⟨b7, 1, none⟩))] (by kernel_rfl) ?_
  refine OA.ld (i := 5) rfl (by kernel_rfl) rfl rfl rfl (by kernel_rfl) (hst.blk 1 rfl rfl) ?_
  refine OA.act (i := 6) [3] (by kernel_rfl) rfl rfl (by kernel_rfl) (by kernel_rfl) ?_
  refine OW.row (α := Int) (e := 3) (enc := encInt .i64) (sz := 1) hst rfl rfl rfl [p1.A] rfl (fun _ => rfl) rfl rfl (fun _ => by kernel_rfl) ?_
  intro g189 w190 hst
  refine OA.next ⟨(hst.blk 0 rfl rfl), trivial⟩ ?_
  refine OA.act (i := 7) [] (by kernel_rfl) rfl rfl (by kernel_rfl) (by kernel_rfl) ?_
  obtain ⟨r191, hr192, hF⟩ := bs hF
  refine OW.fn rfl rfl rfl rfl (by kernel_rfl) (epoch_Clock_Leave_ok _ (Pt b174) S166 p0.Clock (.slice (some ⟨g189, 0, none⟩) 1 1) ([p1.A]) r191 hr192 (hst.part [4] rfl) (hst.rd 7 rfl (fun _ => rfl) [4] rfl (hst.len 7 rfl).1)) ?_
  rintro e w193 ⟨S195, rfl, hst194⟩
  refine ⟨_, rfl, ?_⟩
  have hst := hst.join (idx := [4]) (rest := [0, 1, 2, 3, 5, 6, 7]) rfl hst194
  refine OA.next trivial ?_
  refine OA.act (i := 8) [] (by kernel_rfl) rfl rfl (by kernel_rfl) (by kernel_rfl) ?_
  refine pu 1 [(4, I 0)] (OA.next trivial ?_)
  refine OA.act (i := 9) [] (by kernel_rfl) rfl rfl (by kernel_rfl) (by kernel_rfl) ?_
  refine pu 1 [(5, I r191.1)] (OA.next trivial ?_)
  refine OA.fin (by kernel_rfl) (by kernel_rfl) (QW.next (CW.ret (QW.block_ret (QW.then_ret ?_))))
  have hst := hst.ofMN 5 rfl
  have hst := hst.toIt 6 rfl (fun _ => rfl) (by decide)
  obtain ⟨S196, hst⟩ := hst.shutP5 R_t58 rfl 1 3 4 0 5 6 [2, 7] rfl rfl rfl rfl rfl rfl rfl (registry_Registry.mk p0.Table p0.Refs r191.2 p0.hooks p0.maps p0.given p0.progs p0.waiting) rfl rfl
  obtain rfl := inj hF
  refine QW.ret2 rfl rfl rfl ?_
  exact ⟨S196, rfl, hst.keep [2] rfl⟩
 refine CW.skip (QW.block_normal (QW.next (CW.seq ?_)))
 obtain ⟨v197, S198, v199, S200, v201, S202, v203, S204, v205, S206, hst⟩ := hst.openQ5 0 rfl rfl rfl rfl rfl rfl
 obtain ⟨r207, rfl, hst⟩ := hst.toMN1 5 rfl
 have hst := hst.toRow1 6 rfl
 obtain ⟨b208, rfl⟩ := hst.fptr 2 rfl
 obtain ⟨b209, rfl⟩ := hst.fptr 3 rfl
 obtain ⟨b210, rfl⟩ := hst.fptr 4 rfl
 obtain ⟨l211, a212, c213, rfl⟩ := hst.len 6 rfl
 have hst : St _ _ _ [blkI b4 58 [Pt b208, Pt b209, Pt b210, I p0.hooks, I p0.maps, I p0.given, .map (some r207), .slice a212 (p0.waiting).length c213], _, _, _, _, _, _] := hst
 refine CW.region ?_
 refine pu 3 [(86, .pointer (some ⟨b4, 2, none⟩))] ?_
 refine OW.ld rfl rfl rfl rfl (by kernel_rfl) (hst.blk 0 rfl rfl) ?_
 obtain ⟨r219, hr220, hF⟩ := bs hF
 refine OW.fn rfl rfl rfl rfl (by kernel_rfl) (epoch_Clock_Advance_ok _ (Pt b210) S202 p0.Clock r219 hr220 (hst.part [4] rfl)) ?_
 rintro e w221 ⟨S223, rfl, hst222⟩
 refine ⟨_, rfl, ?_⟩
 have hst := hst.join (idx := [4]) (rest := [0, 1, 2, 3, 5, 6]) rfl hst222
 refine pu 2 [(4, I r219.1), (5, I 0)] (nx (CW.ret ?_))
 have hst := hst.ofMN 5 rfl
 have hst := hst.toIt 6 rfl (fun _ => rfl) (by decide)
 obtain ⟨S224, hst⟩ := hst.shutP5 R_t58 rfl 1 3 4 0 5 6 [2] rfl rfl rfl rfl rfl rfl rfl (registry_Registry.mk p0.Table p0.Refs r219.2 p0.hooks p0.maps p0.given p0.progs p0.waiting) rfl rfl
 obtain rfl := inj hF
 refine QW.ret2 rfl rfl rfl ?_
 exact ⟨S224, rfl, hst.keep [1] rfl⟩
theorem registry_Registry_Retiring_ok (w : World) (v0 : Value) (S0 : List Nat) (p0 : registry_Registry) (r : (List Int)) (hF : registry_Registry_Retiring p0 = some r)
    (hst : St w (fp [itI R_t24 [v0] S0 p0]) w [itI R_t24 [v0] S0 p0]) :
    Calls Tryz.prog 21 [v0].toArray w (fun e w' => ∃ (s0 : List Nat) (x0 : Value), e = .returned (x0) ∧ St w (fp [itI R_t24 [v0] S0 p0]) w' [itI R_t24 [v0] s0 p0, rowI x0 3 (encInt .i64) 1 r]) := by
 refine CW.start (N := 8) Tryz.func21 rfl rfl rfl ?_
 obtain ⟨b1, rfl⟩ := hst.fptr 0 rfl
 refine rg ?_
 refine pu 1 [] (nx (CW.seq ?_))
 obtain ⟨v2, S3, v4, S5, v6, S7, v8, S9, v10, S11, hst⟩ := hst.openQ5 0 rfl rfl rfl rfl rfl rfl
 obtain ⟨r12, rfl, hst⟩ := hst.toMN1 4 rfl
 have hst := hst.toRow1 5 rfl
 obtain ⟨b13, rfl⟩ := hst.fptr 1 rfl
 obtain ⟨b14, rfl⟩ := hst.fptr 2 rfl
 obtain ⟨b15, rfl⟩ := hst.fptr 3 rfl
 obtain ⟨l16, a17, c18, rfl⟩ := hst.len 5 rfl
 have hst : St _ _ _ [blkI b1 58 [Pt b13, Pt b14, Pt b15, I p0.hooks, I p0.maps, I p0.given, .map (some r12), .slice a17 (p0.waiting).length c18], _, _, _, _, _] := hst
 refine CW.region ?_
 refine pu 3 [(5, .pointer (some ⟨b1, 7, none⟩))] ?_
 refine OW.ld rfl rfl rfl rfl (by kernel_rfl) (hst.blk 0 rfl rfl) ?_
 obtain ⟨r27, hr28, hF⟩ := bs hF
 refine OW.fn rfl rfl rfl rfl (by kernel_rfl) (slices_Clone_int_int_ok _ (.slice a17 (p0.waiting).length c18) p0.waiting r27 hr28 (hst.part [] rfl) (hst.rd 5 rfl (fun _ => rfl) [] rfl (hst.len 5 rfl).1)) ?_
 rintro e w29 ⟨v31, rfl, hst30⟩
 refine ⟨_, rfl, ?_⟩
 have hst := hst.join (idx := []) (rest := [0, 1, 2, 3, 4, 5]) rfl hst30
 obtain ⟨l32, a33, c34, rfl⟩ := hst.len 0 rfl
 refine pu 1 [(2, .slice a33 (r27).length c34)] (nx (CW.ret ?_))
 have hst := hst.ofMN 5 rfl
 have hst := hst.toIt 6 rfl (fun _ => rfl) (by decide)
 obtain ⟨S35, hst⟩ := hst.shutP5 R_t58 rfl 1 2 3 4 5 6 [0] rfl rfl rfl rfl rfl rfl rfl p0 rfl rfl
 obtain rfl := inj hF
 refine QW.ret1 rfl rfl ?_
 exact ⟨S35, (.slice a33 (r27).length c34), rfl, hst.keep [1, 0] rfl⟩
theorem tappetlaw24_RegistryGrace_ok (w : World) (fu : Nat) (v0 : Value) (p0 : List tappetlaw24_Op) (r : Bool) (hF : tappetlaw24_RegistryGrace fu p0 = some r)
    (hst : St w (fp []) w []) (h0 : RdN w (fp []) v0 R_t48.rd 4 p0) (hT0 : Rd w (fp []) (.slice (some ⟨0, 0, none⟩) 23 23) enc_ops_form 2 tab_g0) (hT1 : Rd w (fp []) (.slice (some ⟨1, 0, none⟩) 7 7) enc_sigs_sig 5 tab_g1) :
    Calls Tryz.prog 4 [v0].toArray w (fun e w' => e = .returned (.bool r) ∧ St w (fp []) w' []) := by
 refine CW.start (N := 232) Tryz.func4 rfl rfl rfl ?_
 obtain ⟨l1, a2, c3, rfl⟩ := h0.len
 refine rg ?_
 refine pu 1 [] (nx (CW.seq (rg ?_)))
 obtain ⟨r8, hr9, hF⟩ := bs hF
 refine OW.fn rfl rfl rfl rfl (by kernel_rfl) (tappetlaw24_awake_ok _ fu r8 hr9 (hst.part [] rfl) (hT0.give hst []) (hT1.give hst [])) ?_
 rintro e w10 ⟨rfl, hst11⟩
 refine ⟨_, rfl, ?_⟩
 have hst := hst.join (idx := []) (rest := []) rfl hst11
 refine pu 1 [(19, .bool (!r8))] (nx ?_)
 refine br ((!r8)) hF (fun hF hc12 => ?_) (fun hF hc12 => ?_)
 ·refine rg ?_
  refine pu 1 [(2, .bool false)] (nx (CW.ret (QW.then_ret ?_)))
  obtain rfl := inj hF
  refine QW.ret1 rfl rfl ?_
  exact ⟨rfl, hst.keep [] rfl⟩
 refine CW.skip (QW.next (rg ?_))
 obtain ⟨r23, hr24, hF⟩ := bs hF
 refine OW.fn rfl rfl rfl rfl (by kernel_rfl) (registry_New_ok _ 3 4 2 r23 hr24 (hst.part [] rfl)) ?_
 rintro e w25 (⟨k27, v29, S30, he28, rfl, hst26⟩ | ⟨he31, rfl, hst26⟩)
 ·have hF := ocase_some hF he28
  refine ⟨_, rfl, ?_⟩
  have hst := hst.join (idx := []) (rest := []) rfl hst26
  obtain ⟨b32, rfl⟩ := hst.fptr 0 rfl
  refine pu 5 [(3, Pt b32), (4, I r23.2)] (nx (CW.seq (rg ?_)))
  refine pu 6 [(29, .bool (r23.2 != 0))] (nx ?_)
  refine br ((r23.2 != 0)) hF (fun hF hc33 => ?_) (fun hF hc33 => ?_)
  ·refine rg ?_
   refine pu 1 [(2, .bool false)] (nx (CW.ret (QW.then_ret ?_)))
   obtain rfl := inj hF
   refine QW.ret1 rfl rfl ?_
   exact ⟨rfl, hst.keep [] rfl⟩
  refine CW.skip (QW.next (rg ?_))
  obtain ⟨m38, hm39, hF⟩ := bs hF
  refine OW.make (enc := fit 1) (sz := 1) hst rfl rfl rfl rfl rfl (by kernel_rfl) el50 [.slice none 0 0] (by kernel_rfl) (fun _ => fit_len _ _) hm39 ?_
  intro g40 w41 hst
  have hst := hst.nNew 1 R_t50 rfl rfl [] (fun w => ⟨_, rfl, rfl, Owns.nil w _ _ none⟩)
  refine pu 1 [(5, .slice (some ⟨g40, 0, none⟩) m38 m38)] (nx (CW.seq (rg ?_)))
  refine pu 1 [(6, I 0)] (nx ?_)
  obtain ⟨o4283, ho4284, hF⟩ := bs hF
  refine CW.cutK (fun a w1 => ∃ (t4285 : registry_Registry) (S4282 : List Nat), o4283 = .inl t4285 ∧ Rep 232 [(3, Pt b32)] a ∧ St w (fp []) w1 [itI R_t24 [Pt b32] S4282 t4285]) ?_ ?_
  ·refine CW.block ?_
   refine CW.loop (fun n a w1 => ∃ (s7113 : registry_Registry × (List (List Bool)) × Int) (S7114 : List Nat) (S7115 : List Nat), Rep 232 [(0, .slice a2 (p0).length c3), (3, Pt b32), (5, .slice (some ⟨g40, 0, none⟩) m38 m38), (6, I s7113.2.2)] a ∧ St w (fp []) w1 [itI R_t24 [Pt b32] S7114 s7113.1, nI 50 R_t50 (.slice (some ⟨g40, 0, none⟩) m38 m38) S7115 s7113.2.1 none] ∧ loop (tappetlaw24_RegistryGrace_l1 fu p0 m38) n s7113 = some o4283) fu (fun a ha => ⟨(k27, (List.replicate m38 []), 0), S30, (ownB (.slice (some ⟨g40, 0, none⟩) m38 m38)).toList, ha.ag, hst.keep [0, 1] rfl, ho4284⟩) ?_
   rintro n7111 a w1 ⟨s7113, S7114, S7115, ha, hst, hl7112⟩
   rcases n7111 with _ | n7111
   ·exact (loop_zero hl7112).elim
   refine CW.go ?_ ha
   refine CW.seq (CW.seq ?_)
   refine CW.cutK (fun a w1 => Rep 232 [(0, .slice a2 (p0).length c3), (3, Pt b32), (5, .slice (some ⟨g40, 0, none⟩) m38 m38), (6, I s7113.2.2), (38, .bool (decide (s7113.2.2 < ((p0).length : Int)) && decide (s7113.2.2 < 120)))] a ∧ St w (fp []) w1 [itI R_t24 [Pt b32] S7114 s7113.1, nI 50 R_t50 (.slice (some ⟨g40, 0, none⟩) m38 m38) S7115 s7113.2.1 none]) ?_ ?_
   ·refine CW.region ?_
    refine pu 5 [(35, .bool (decide (s7113.2.2 < ((p0).length : Int))))] ?_
    refine OW.split 35 rfl (fun hc7116 => ?_) (fun hc7116 => ?_)
    ·refine pu 3 [(38, .bool (decide (s7113.2.2 < 120)))] (OW.nil rfl ?_)
     refine QW.say 38 (v := .bool (decide (s7113.2.2 < ((p0).length : Int)) && decide (s7113.2.2 < 120))) rfl (by first | (rw [hc7116]; done) | (rw [hc7116]; rfl) | simp [hc7116]) ?_
     exact QW.meet (fun a ha => ⟨ha.ag, hst.keep [0, 1] rfl⟩)
    refine pu 3 [(38, .bool false)] (OW.nil rfl ?_)
    refine QW.say 38 (v := .bool (decide (s7113.2.2 < ((p0).length : Int)) && decide (s7113.2.2 < 120))) rfl (by first | (rw [hc7116]; done) | (rw [hc7116]; rfl) | simp [hc7116]) ?_
    exact QW.meet (fun a ha => ⟨ha.ag, hst.keep [0, 1] rfl⟩)
   rintro a w1 ⟨ha, hst⟩
   refine CW.go ?_ ha
   refine br ((decide (s7113.2.2 < ((p0).length : Int)) && decide (s7113.2.2 < 120))) hl7112 (fun hl7112 hc7117 => ?_) (fun hl7112 hc7117 => ?_)
   ·refine CW.skip (QW.next (CW.seq (CW.block (rg ?_))))
    refine pu 2 [(41, .slice a2 (p0).length c3), (42, I s7113.2.2)] ?_
    obtain ⟨x7135, hx7136, hl7112⟩ := bs hl7112
    obtain ⟨g7138, o7139, c7140, cs7141, hv7137, hd7142, hl7143⟩ := h0.formv hx7136
    obtain ⟨_, rfl, ⟨v7144, rfl, h7145⟩⟩ := hd7142
    have h7145 : Rd _ _ _ _ _ x7135.Bytes := h7145
    obtain ⟨l7146, a7147, c7148, rfl⟩ := h7145.len
    refine OW.idx 48 4 rfl rfl rfl rfl hv7137 rfl (idx_some hx7136).1 (idx_some hx7136).2.1 (by kernel_rfl) (by kernel_rfl) ?_
    refine OW.ldN (cs := [I x7135.Kind, I x7135.A, I x7135.B, .slice a7147 (x7135.Bytes).length c7148]) rfl rfl rfl rfl (by kernel_rfl) (by kernel_rfl) (fun q u hu => hl7143 q u hu _ _ hst) ?_
    refine OW.alloc hst rfl rfl rfl [I 0, I 0, I 0, .slice none 0 0] (by kernel_rfl) ?_
    intro b7149 w7150 hst
    refine OW.stB hst 2 rfl rfl rfl rfl rfl (by kernel_rfl) rfl rfl [I x7135.Kind, I x7135.A, I x7135.B, .slice a7147 (x7135.Bytes).length c7148] rfl ?_
    intro w7151 hst
    refine nx (rg ?_)
    refine pu 1 [(45, Pt b7149)] ?_
    refine OW.ld rfl rfl rfl rfl (by kernel_rfl) (hst.blk 2 rfl rfl) (nx (CW.block (rg ?_)))
    refine pu 2 [(50, .bool (x7135.Kind == 4))] (nx ?_)
    refine br ((x7135.Kind == 4)) hl7112 (fun hl7112 hc7152 => ?_) (fun hl7112 hc7152 => ?_)
    ·refine rg ?_
     refine pu 2 [(53, Pt b32), (54, .pointer (some ⟨b7149, 2, none⟩))] ?_
     refine OW.ld rfl rfl rfl rfl (by kernel_rfl) (hst.blk 2 rfl rfl) ?_
     obtain ⟨r7158, hr7159, hl7112⟩ := bs hl7112
     refine OW.fn rfl rfl rfl rfl (by kernel_rfl) (registry_Registry_Retire_ok _ (Pt b32) S7114 s7113.1 x7135.B r7158 hr7159 (hst.part [0] rfl)) ?_
     rintro e w7160 ⟨S7162, rfl, hst7161⟩
     refine ⟨_, rfl, ?_⟩
     have hst := hst.join (idx := [0]) (rest := [1, 2]) rfl hst7161
     refine pu 5 [(9, I r7158.2.1)] (nx (CW.seq (rg ?_)))
     refine pu 2 [(60, .bool (r7158.2.1 != 0))] (nx ?_)
     refine br ((r7158.2.1 != 0)) hl7112 (fun hl7112 hc7163 => ?_) (fun hl7112 hc7163 => ?_)
     ·refine CW.exit (QW.then_exit ?_)
      refine QW.block_on rfl ?_
      refine QW.block_here (QW.next (CW.region ?_))
      refine pu 3 [(6, I (w64 (s7113.2.2 + 1)))] (OW.nil rfl ?_)
      exact QW.meet (fun a ha => ⟨n7111, Nat.lt_succ_self _, (r7158.2.2, s7113.2.1, w64 (s7113.2.2 + 1)), S7162, S7115, ha.ag, hst.keep [0, 1] rfl, hl7112⟩)
     refine CW.skip (QW.next (CW.seq (CW.seq ?_)))
     obtain ⟨o7181, ho7182, hl7112⟩ := bs hl7112
     refine CW.cutK (fun a w1 => ∃ (S7180 : List Nat), Rep 232 [(0, .slice a2 (p0).length c3), (3, Pt b32), (5, .slice (some ⟨g40, 0, none⟩) m38 m38), (6, I s7113.2.2), (7, Pt b7149), (79, .bool o7181)] a ∧ St w (fp []) w1 [itI R_t24 [Pt b32] S7162 r7158.2.2, nI 50 R_t50 (.slice (some ⟨g40, 0, none⟩) m38 m38) S7180 s7113.2.1 none, blkI b7149 48 [I x7135.Kind, I x7135.A, I x7135.B, .slice a7147 (x7135.Bytes).length c7148]]) ?_ ?_
     ·refine CW.region ?_
      refine pu 1 [(61, .pointer (some ⟨b7149, 2, none⟩))] ?_
      refine OW.ld rfl rfl rfl rfl (by kernel_rfl) (hst.blk 2 rfl rfl) ?_
      refine pu 2 [(64, .bool (decide (x7135.B < 1)))] ?_
      refine OW.split 64 rfl (fun hc7183 => ?_) (fun hc7183 => ?_)
      ·have ho7182 := ite_t ho7182 hc7183
       refine pu 15 [(79, .bool true)] (OW.nil rfl ?_)
       obtain rfl := inj ho7182
       exact QW.meet (fun a ha => ⟨S7115, ha.ag, hst.keep [0, 1, 2] rfl⟩)
      have ho7182 := ite_f ho7182 hc7183
      refine pu 1 [(65, .pointer (some ⟨b7149, 2, none⟩))] ?_
      refine OW.ld rfl rfl rfl rfl (by kernel_rfl) (hst.blk 2 rfl rfl) ?_
      refine pu 5 [(71, .bool (decide (x7135.B ≥ (m38 : Int))))] ?_
      refine OW.split 71 rfl (fun hc7184 => ?_) (fun hc7184 => ?_)
      ·have ho7182 := ite_t ho7182 hc7184
       refine pu 8 [(79, .bool true)] (OW.nil rfl ?_)
       obtain rfl := inj ho7182
       exact QW.meet (fun a ha => ⟨S7115, ha.ag, hst.keep [0, 1, 2] rfl⟩)
      have ho7182 := ite_f ho7182 hc7184
      refine pu 2 [(72, .slice (some ⟨g40, 0, none⟩) m38 m38), (73, .pointer (some ⟨b7149, 2, none⟩))] ?_
      refine OW.ld rfl rfl rfl rfl (by kernel_rfl) (hst.blk 2 rfl rfl) ?_
      obtain ⟨x7185, hx7186, ho7182⟩ := bs ho7182
      obtain ⟨g7188, o7189, c7190, hv7187⟩ := hst.nrowv 1 rfl hx7186
      refine OW.idx 50 1 rfl rfl rfl rfl hv7187 rfl (idx_some hx7186).1 (idx_some hx7186).2.1 (by kernel_rfl) (by kernel_rfl) ?_
      obtain ⟨v7191, S7192, S7193, hce7194, hst⟩ := hst.nout1 1 rfl rfl hx7186 hv7187
      have hst := hst.toRow1 3 rfl
      obtain ⟨l7195, a7196, c7197, rfl⟩ := hst.len 3 rfl
      refine OW.ld rfl rfl rfl rfl (by kernel_rfl) hce7194 ?_
      refine pu 3 [(79, .bool (decide (((x7185).length : Int) > 0)))] (OW.nil rfl ?_)
      have hst := hst.toIt 3 rfl (fun _ => rfl) (by decide)
      obtain ⟨S7198, hst⟩ := hst.nback0 1 3 rfl rfl rfl hx7186
      have hst := hst.keep [0, 1, 2] rfl
      obtain rfl := inj ho7182
      exact QW.meet (fun a ha => ⟨S7198, ha.ag, hst.keep [0, 1, 2] rfl⟩)
     rintro a w1 ⟨S7180, ha, hst⟩
     refine CW.go ?_ ha
     refine br (o7181) hl7112 (fun hl7112 hc7199 => ?_) (fun hl7112 hc7199 => ?_)
     ·refine rg ?_
      refine pu 1 [(2, .bool false)] (nx (CW.ret (QW.then_ret (QW.block_ret (QW.block_ret (QW.then_ret (QW.then_ret (QW.block_ret (QW.then_ret ?_)))))))))
      obtain rfl := inj hl7112
      obtain rfl := inj hF
      refine QW.ret1 rfl rfl ?_
      exact ⟨rfl, hst.keep [] rfl⟩
     refine CW.skip (QW.next (CW.seq ?_))
     obtain ⟨v7200, S7201, v7202, S7203, v7204, S7205, v7206, S7207, v7208, S7209, hst⟩ := hst.openQ5 0 rfl rfl rfl rfl rfl rfl
     obtain ⟨r7210, rfl, hst⟩ := hst.toMN1 6 rfl
     have hst := hst.toRow1 7 rfl
     obtain ⟨b7211, rfl⟩ := hst.fptr 3 rfl
     obtain ⟨b7212, rfl⟩ := hst.fptr 4 rfl
     obtain ⟨b7213, rfl⟩ := hst.fptr 5 rfl
     obtain ⟨l7214, a7215, c7216, rfl⟩ := hst.len 7 rfl
     have hst : St _ _ _ [blkI b32 58 [Pt b7211, Pt b7212, Pt b7213, I r7158.2.2.hooks, I r7158.2.2.maps, I r7158.2.2.given, .map (some r7210), .slice a7215 (r7158.2.2.waiting).length c7216], _, _, _, _, _, _, _] := hst
     refine CW.region ?_
     refine pu 3 [(83, .pointer (some ⟨b32, 2, none⟩))] ?_
     refine OW.ld rfl rfl rfl rfl (by kernel_rfl) (hst.blk 0 rfl rfl) ?_
     obtain ⟨r7222, hr7223, hl7112⟩ := bs hl7112
     refine OW.fn rfl rfl rfl rfl (by kernel_rfl) (epoch_Clock_In_ok _ (Pt b7213) S7205 r7158.2.2.Clock 0 r7222 hr7223 (hst.part [5] rfl)) ?_
     rintro e w7224 ⟨S7226, rfl, hst7225⟩
     refine ⟨_, rfl, ?_⟩
     have hst := hst.join (idx := [5]) (rest := [0, 1, 2, 3, 4, 6, 7]) rfl hst7225
     refine pu 5 [(11, .bool r7222.2)] (nx (rg ?_))
     refine pu 3 [(91, .pointer (some ⟨b32, 2, none⟩))] ?_
     refine OW.ld rfl rfl rfl rfl (by kernel_rfl) (hst.blk 1 rfl rfl) ?_
     obtain ⟨r7232, hr7233, hl7112⟩ := bs hl7112
     refine OW.fn rfl rfl rfl rfl (by kernel_rfl) (epoch_Clock_In_ok _ (Pt b7213) S7226 r7158.2.2.Clock 1 r7232 hr7233 (hst.part [0] rfl)) ?_
     rintro e w7234 ⟨S7236, rfl, hst7235⟩
     refine ⟨_, rfl, ?_⟩
     have hst := hst.join (idx := [0]) (rest := [1, 2, 3, 4, 5, 6, 7]) rfl hst7235
     refine pu 5 [(13, .bool r7232.2)] (nx (CW.region ?_))
     refine pu 2 [(96, .slice (some ⟨g40, 0, none⟩) m38 m38), (97, .pointer (some ⟨b7149, 2, none⟩))] ?_
     refine OW.ld rfl rfl rfl rfl (by kernel_rfl) (hst.blk 3 rfl rfl) ?_
     refine pu 2 [(99, .bool r7222.2), (100, .bool r7232.2)] ?_
     refine OW.row (α := Bool) (e := 4) (enc := encBool) (sz := 1) hst rfl rfl rfl [r7222.2, r7232.2] rfl (fun _ => rfl) rfl rfl (fun _ => by kernel_rfl) ?_
     intro g7248 w7249 hst
     obtain ⟨x7250, hx7251, hl7112⟩ := bs hl7112
     obtain ⟨g7253, o7254, c7255, hv7252⟩ := hst.nrowv 2 rfl hx7251
     refine OW.idx 50 1 rfl rfl rfl rfl hv7252 rfl (idx_some hx7251).1 (idx_some hx7251).2.1 (by kernel_rfl) (by kernel_rfl) ?_
     have hst := hst.toIt 8 rfl (fun _ => rfl) (by decide)
     refine OW.stN hst 2 8 rfl rfl (fun _ _ e => by cases e) rfl hv7252 rfl rfl hx7251 rfl rfl rfl rfl (by kernel_rfl) rfl ?_
     intro S7258 w7257 hst
     have hst := hst.keep [0, 1, 2, 3, 4, 5, 6, 7] rfl
     refine OW.nil rfl (QW.block_normal (QW.block_normal (QW.next (CW.region ?_))))
     refine pu 3 [(6, I (w64 (s7113.2.2 + 1)))] (OW.nil rfl ?_)
     have hst := hst.ofMN 6 rfl
     have hst := hst.toIt 7 rfl (fun _ => rfl) (by decide)
     obtain ⟨S7259, hst⟩ := hst.shutP5 R_t58 rfl 1 4 5 0 6 7 [2, 3] rfl rfl rfl rfl rfl rfl rfl r7158.2.2 rfl rfl
     exact QW.meet (fun a ha => ⟨n7111, Nat.lt_succ_self _, (r7158.2.2, (s7113.2.1.set (Int.toNat x7135.B) ([r7222.2, r7232.2])), w64 (s7113.2.2 + 1)), S7259, S7258, ha.ag, hst.keep [2, 0] rfl, hl7112⟩)
    refine rg ?_
    refine pu 2 [(103, .bool (x7135.Kind == 5))] (nx ?_)
    refine br ((x7135.Kind == 5)) hl7112 (fun hl7112 hc7260 => ?_) (fun hl7112 hc7260 => ?_)
    ·refine rg ?_
     refine pu 2 [(105, Pt b32), (106, .pointer (some ⟨b7149, 1, none⟩))] ?_
     refine OW.ld rfl rfl rfl rfl (by kernel_rfl) (hst.blk 2 rfl rfl) ?_
     obtain ⟨r7270, hr7271, hl7112⟩ := bs hl7112
     refine OW.fn rfl rfl rfl rfl (by kernel_rfl) (registry_Registry_Settle_ok _ fu (Pt b32) S7114 s7113.1 x7135.A r7270 hr7271 (hst.part [0] rfl)) ?_
     rintro e w7272 ⟨S7274, v7275, rfl, hst7273⟩
     refine ⟨_, rfl, ?_⟩
     have hst := hst.join (idx := [0]) (rest := [1, 2]) rfl hst7273
     obtain ⟨l7276, a7277, c7278, rfl⟩ := hst.len 1 rfl
     refine pu 1 [(14, .slice a7277 (r7270.1).length c7278)] (nx (CW.seq (rg ?_)))
     refine pu 1 [(15, I 0)] (nx ?_)
     obtain ⟨o7694, ho7695, hl7112⟩ := bs hl7112
     refine CW.cutK (fun a w1 => ∃ (t7696 : Unit) (S7693 : List Nat), o7694 = .inl t7696 ∧ Rep 232 [(0, .slice a2 (p0).length c3), (3, Pt b32), (5, .slice (some ⟨g40, 0, none⟩) m38 m38), (6, I s7113.2.2), (7, Pt b7149), (14, .slice a7277 (r7270.1).length c7278)] a ∧ St w (fp []) w1 [itI R_t24 [Pt b32] S7274 r7270.2, nI 50 R_t50 (.slice (some ⟨g40, 0, none⟩) m38 m38) S7693 s7113.2.1 none, blkI b7149 48 [I x7135.Kind, I x7135.A, I x7135.B, .slice a7147 (x7135.Bytes).length c7148], rowI (.slice a7277 (r7270.1).length c7278) 3 (encInt .i64) 1 r7270.1]) ?_ ?_
     ·refine CW.block ?_
      refine CW.loop (fun n a w1 => ∃ (i7974 : Nat) (s7972 : Unit) (S7973 : List Nat), i7974 + n = (r7270.1).length ∧ Rep 232 [(0, .slice a2 (p0).length c3), (3, Pt b32), (5, .slice (some ⟨g40, 0, none⟩) m38 m38), (6, I s7113.2.2), (7, Pt b7149), (14, .slice a7277 (r7270.1).length c7278), (15, I (i7974 : Int))] a ∧ St w (fp []) w1 [itI R_t24 [Pt b32] S7274 r7270.2, nI 50 R_t50 (.slice (some ⟨g40, 0, none⟩) m38 m38) S7973 s7113.2.1 none, blkI b7149 48 [I x7135.Kind, I x7135.A, I x7135.B, .slice a7147 (x7135.Bytes).length c7148], rowI (.slice a7277 (r7270.1).length c7278) 3 (encInt .i64) 1 r7270.1] ∧ forN (tappetlaw24_RegistryGrace_l2 m38 s7113 r7270) (fun (s7972 : Unit) => (.inl ())) n i7974 s7972 = some o7694) (r7270.1).length (fun a ha => ⟨0, (), S7115, Nat.zero_add _, ha.ag, hst.keep [0, 2, 3, 1] rfl, ho7695⟩) ?_
      rintro n7970 a w1 ⟨i7974, s7972, S7973, hi7975, ha, hst, hl7971⟩
      refine CW.go ?_ ha
      refine CW.seq (rg ?_)
      refine pu 4 [(112, .bool (decide ((i7974 : Int) < ((r7270.1).length : Int))))] (nx ?_)
      rcases bft (decide ((i7974 : Int) < ((r7270.1).length : Int))) with hc7976 | hc7976
      ·rcases n7970 with _ | n7970
       ·exact (cnt0 hi7975 hc7976).elim
       refine CW.cond_t rfl hc7976 (CW.skip (QW.next (CW.seq (CW.block (CW.seq ?_)))))
       obtain ⟨o8046, ho8047, hl7971⟩ := bs hl7971
       refine CW.cutK (fun a w1 => ∃ (S8045 : List Nat), Rep 232 [(0, .slice a2 (p0).length c3), (3, Pt b32), (5, .slice (some ⟨g40, 0, none⟩) m38 m38), (6, I s7113.2.2), (7, Pt b7149), (14, .slice a7277 (r7270.1).length c7278), (15, I (i7974 : Int)), (161, .bool o8046)] a ∧ St w (fp []) w1 [itI R_t24 [Pt b32] S7274 r7270.2, nI 50 R_t50 (.slice (some ⟨g40, 0, none⟩) m38 m38) S8045 s7113.2.1 none, blkI b7149 48 [I x7135.Kind, I x7135.A, I x7135.B, .slice a7147 (x7135.Bytes).length c7148], rowI (.slice a7277 (r7270.1).length c7278) 3 (encInt .i64) 1 r7270.1]) ?_ ?_
       ·refine CW.region ?_
        refine pu 2 [(115, .slice a7277 (r7270.1).length c7278), (116, I (i7974 : Int))] ?_
        obtain ⟨x8048, hx8049, ho8047⟩ := bs ho8047
        obtain ⟨g8051, o8052, c8053, hv8050⟩ := hst.rowv 3 rfl hx8049
        refine OW.idx 3 1 rfl rfl rfl rfl hv8050 rfl (idx_some hx8049).1 (idx_some hx8049).2.1 (by kernel_rfl) (by kernel_rfl) ?_
        refine OW.ld rfl rfl rfl rfl (by kernel_rfl) (hst.rowc 3 rfl (fun _ => rfl) hx8049 hv8050 0 _ rfl) ?_
        refine pu 2 [(120, .bool (decide (x8048 < 1)))] ?_
        refine OW.split 120 rfl (fun hc8054 => ?_) (fun hc8054 => ?_)
        ·have ho8047 := ite_t ho8047 hc8054
         refine pu 41 [(161, .bool true)] (OW.nil rfl ?_)
         obtain rfl := inj ho8047
         exact QW.meet (fun a ha => ⟨S7973, ha.ag, hst.keep [0, 1, 2, 3] rfl⟩)
        have ho8047 := ite_f ho8047 hc8054
        refine pu 2 [(121, .slice a7277 (r7270.1).length c7278), (122, I (i7974 : Int))] ?_
        obtain ⟨g8056, o8057, c8058, hv8055⟩ := hst.rowv 3 rfl hx8049
        refine OW.idx 3 1 rfl rfl rfl rfl hv8055 rfl (idx_some hx8049).1 (idx_some hx8049).2.1 (by kernel_rfl) (by kernel_rfl) ?_
        refine OW.ld rfl rfl rfl rfl (by kernel_rfl) (hst.rowc 3 rfl (fun _ => rfl) hx8049 hv8055 0 _ rfl) ?_
        refine pu 5 [(129, .bool (decide (x8048 ≥ (m38 : Int))))] ?_
        refine OW.split 129 rfl (fun hc8059 => ?_) (fun hc8059 => ?_)
        ·have ho8047 := ite_t ho8047 hc8059
         refine pu 32 [(161, .bool true)] (OW.nil rfl ?_)
         obtain rfl := inj ho8047
         exact QW.meet (fun a ha => ⟨S7973, ha.ag, hst.keep [0, 1, 2, 3] rfl⟩)
        have ho8047 := ite_f ho8047 hc8059
        refine pu 3 [(130, .slice (some ⟨g40, 0, none⟩) m38 m38), (131, .slice a7277 (r7270.1).length c7278), (132, I (i7974 : Int))] ?_
        obtain ⟨g8061, o8062, c8063, hv8060⟩ := hst.rowv 3 rfl hx8049
        refine OW.idx 3 1 rfl rfl rfl rfl hv8060 rfl (idx_some hx8049).1 (idx_some hx8049).2.1 (by kernel_rfl) (by kernel_rfl) ?_
        refine OW.ld rfl rfl rfl rfl (by kernel_rfl) (hst.rowc 3 rfl (fun _ => rfl) hx8049 hv8060 0 _ rfl) ?_
        obtain ⟨x8064, hx8065, ho8047⟩ := bs ho8047
        obtain ⟨g8067, o8068, c8069, hv8066⟩ := hst.nrowv 1 rfl hx8065
        refine OW.idx 50 1 rfl rfl rfl rfl hv8066 rfl (idx_some hx8065).1 (idx_some hx8065).2.1 (by kernel_rfl) (by kernel_rfl) ?_
        obtain ⟨v8070, S8071, S8072, hce8073, hst⟩ := hst.nout1 1 rfl rfl hx8065 hv8066
        have hst := hst.toRow1 4 rfl
        obtain ⟨l8074, a8075, c8076, rfl⟩ := hst.len 4 rfl
        refine OW.ld rfl rfl rfl rfl (by kernel_rfl) hce8073 ?_
        refine pu 4 [(140, .bool (((x8064).length : Int) == 0))] ?_
        refine OW.split 140 rfl (fun hc8077 => ?_) (fun hc8077 => ?_)
        ·have ho8047 := ite_t ho8047 hc8077
         refine pu 21 [(161, .bool true)] (OW.nil rfl ?_)
         have hst := hst.toIt 4 rfl (fun _ => rfl) (by decide)
         obtain ⟨S8078, hst⟩ := hst.nback0 1 4 rfl rfl rfl hx8065
         have hst := hst.keep [0, 1, 2, 3] rfl
         obtain rfl := inj ho8047
         exact QW.meet (fun a ha => ⟨S8078, ha.ag, hst.keep [0, 1, 2, 3] rfl⟩)
        have ho8047 := ite_f ho8047 hc8077
        refine pu 3 [(141, .slice (some ⟨g40, 0, none⟩) m38 m38), (142, .slice a7277 (r7270.1).length c7278), (143, I (i7974 : Int))] ?_
        obtain ⟨g8080, o8081, c8082, hv8079⟩ := hst.rowv 3 rfl hx8049
        refine OW.idx 3 1 rfl rfl rfl rfl hv8079 rfl (idx_some hx8049).1 (idx_some hx8049).2.1 (by kernel_rfl) (by kernel_rfl) ?_
        refine OW.ld rfl rfl rfl rfl (by kernel_rfl) (hst.rowc 3 rfl (fun _ => rfl) hx8049 hv8079 0 _ rfl) ?_
        obtain ⟨g8084, o8085, c8086, hv8083⟩ := hst.nrowv 1 rfl hx8065
        refine OW.idx 50 1 rfl rfl rfl rfl hv8083 rfl (idx_some hx8065).1 (idx_some hx8065).2.1 (by kernel_rfl) (by kernel_rfl) ?_
        refine OW.ld rfl rfl rfl rfl (by kernel_rfl) (hst.nhole 1 rfl hv8083 0 _ rfl) ?_
        obtain ⟨x8087, hx8088, ho8047⟩ := bs ho8047
        obtain ⟨g8090, o8091, c8092, hv8089⟩ := hst.rowv 4 rfl hx8088
        refine OW.idx 4 1 rfl rfl rfl rfl hv8089 rfl (idx_some hx8088).1 (idx_some hx8088).2.1 (by kernel_rfl) (by kernel_rfl) ?_
        refine OW.ld rfl rfl rfl rfl (by kernel_rfl) (hst.rowc 4 rfl (fun _ => rfl) hx8088 hv8089 0 _ rfl) ?_
        refine pu 2 [(151, .bool x8087)] ?_
        refine OW.split 151 rfl (fun hc8093 => ?_) (fun hc8093 => ?_)
        ·have ho8047 := ite_t ho8047 hc8093
         refine pu 10 [(161, .bool true)] (OW.nil rfl ?_)
         have hst := hst.toIt 4 rfl (fun _ => rfl) (by decide)
         obtain ⟨S8094, hst⟩ := hst.nback0 1 4 rfl rfl rfl hx8065
         have hst := hst.keep [0, 1, 2, 3] rfl
         obtain rfl := inj ho8047
         exact QW.meet (fun a ha => ⟨S8094, ha.ag, hst.keep [0, 1, 2, 3] rfl⟩)
        have ho8047 := ite_f ho8047 hc8093
        refine pu 3 [(152, .slice (some ⟨g40, 0, none⟩) m38 m38), (153, .slice a7277 (r7270.1).length c7278), (154, I (i7974 : Int))] ?_
        obtain ⟨g8096, o8097, c8098, hv8095⟩ := hst.rowv 3 rfl hx8049
        refine OW.idx 3 1 rfl rfl rfl rfl hv8095 rfl (idx_some hx8049).1 (idx_some hx8049).2.1 (by kernel_rfl) (by kernel_rfl) ?_
        refine OW.ld rfl rfl rfl rfl (by kernel_rfl) (hst.rowc 3 rfl (fun _ => rfl) hx8049 hv8095 0 _ rfl) ?_
        obtain ⟨g8100, o8101, c8102, hv8099⟩ := hst.nrowv 1 rfl hx8065
        refine OW.idx 50 1 rfl rfl rfl rfl hv8099 rfl (idx_some hx8065).1 (idx_some hx8065).2.1 (by kernel_rfl) (by kernel_rfl) ?_
        refine OW.ld rfl rfl rfl rfl (by kernel_rfl) (hst.nhole 1 rfl hv8099 0 _ rfl) ?_
        obtain ⟨x8103, hx8104, ho8047⟩ := bs ho8047
        obtain ⟨g8106, o8107, c8108, hv8105⟩ := hst.rowv 4 rfl hx8104
        refine OW.idx 4 1 rfl rfl rfl rfl hv8105 rfl (idx_some hx8104).1 (idx_some hx8104).2.1 (by kernel_rfl) (by kernel_rfl) ?_
        refine OW.ld rfl rfl rfl rfl (by kernel_rfl) (hst.rowc 4 rfl (fun _ => rfl) hx8104 hv8105 0 _ rfl) ?_
        refine pu 1 [(161, .bool x8103)] (OW.nil rfl ?_)
        have hst := hst.toIt 4 rfl (fun _ => rfl) (by decide)
        obtain ⟨S8109, hst⟩ := hst.nback0 1 4 rfl rfl rfl hx8065
        have hst := hst.keep [0, 1, 2, 3] rfl
        obtain rfl := inj ho8047
        exact QW.meet (fun a ha => ⟨S8109, ha.ag, hst.keep [0, 1, 2, 3] rfl⟩)
       rintro a w1 ⟨S8045, ha, hst⟩
       refine CW.go ?_ ha
       refine br (o8046) hl7971 (fun hl7971 hc8110 => ?_) (fun hl7971 hc8110 => ?_)
       ·refine rg ?_
        refine pu 1 [(2, .bool false)] (nx (CW.ret (QW.block_ret (QW.then_ret (QW.then_ret (QW.block_ret (QW.then_ret (QW.block_ret (QW.block_ret (QW.then_ret (QW.then_ret (QW.block_ret (QW.then_ret ?_)))))))))))))
        obtain rfl := inj hl7971
        obtain rfl := inj hl7112
        obtain rfl := inj hF
        refine QW.ret1 rfl rfl ?_
        exact ⟨rfl, hst.keep [] rfl⟩
       refine CW.skip (QW.block_normal (QW.next (CW.region ?_)))
       refine pu 3 [(15, I (w64 ((i7974 : Int) + 1)))] (OW.nil rfl ?_)
       refine QW.say 15 rfl (congrArg (Value.int .i64) (w64_cnt hc7976 l7276)) ?_
       exact QW.meet (fun a ha => ⟨n7970, Nat.lt_succ_self _, i7974 + 1, (), S8045, cnt_next hi7975, ha.ag, hst.keep [0, 1, 2, 3] rfl, hl7971⟩)
      rcases n7970 with _ | n7970
      ·refine CW.cond_f rfl hc7976 ?_
       refine CW.exit (QW.then_exit (QW.then_exit ?_))
       refine QW.block_here ?_
       obtain rfl := inj hl7971
       exact QW.meet (fun a ha => ⟨(), S7973, rfl, ha.ag, hst.keep [0, 1, 2, 3] rfl⟩)
      exact (cnt1 hi7975 hc7976).elim
     rintro a w1 ⟨t7696, S7693, rfl, ha, hst⟩
     refine CW.go ?_ ha
     refine rg ?_
     refine pu 3 [(163, I ((r7270.1).length : Int)), (164, .pointer (some ⟨b7149, 1, none⟩))] ?_
     refine OW.ld rfl rfl rfl rfl (by kernel_rfl) (hst.blk 2 rfl rfl) ?_
     refine pu 2 [(167, .bool (decide (((r7270.1).length : Int) > (imax 0 x7135.A))))] (nx ?_)
     refine br (decide (((r7270.1).length : Int) > (imax 0 x7135.A))) hl7112 (fun hl7112 hc8111 => ?_) (fun hl7112 hc8111 => ?_)
     ·refine rg ?_
      refine pu 1 [(2, .bool false)] (nx (CW.ret (QW.block_ret (QW.block_ret (QW.then_ret (QW.then_ret (QW.block_ret (QW.then_ret ?_))))))))
      obtain rfl := inj hl7112
      obtain rfl := inj hF
      refine QW.ret1 rfl rfl ?_
      exact ⟨rfl, hst.keep [] rfl⟩
     refine CW.skip (QW.block_normal (QW.block_normal (QW.next (CW.region ?_))))
     refine pu 3 [(6, I (w64 (s7113.2.2 + 1)))] (OW.nil rfl ?_)
     exact QW.meet (fun a ha => ⟨n7111, Nat.lt_succ_self _, (r7270.2, s7113.2.1, w64 (s7113.2.2 + 1)), S7274, S7693, ha.ag, hst.keep [0, 1] rfl, hl7112⟩)
    refine rg ?_
    refine pu 2 [(168, .bool (x7135.Kind == 7))] (nx ?_)
    refine br ((x7135.Kind == 7)) hl7112 (fun hl7112 hc8112 => ?_) (fun hl7112 hc8112 => ?_)
    ·refine CW.seq (CW.seq ?_)
     obtain ⟨v8113, S8114, v8115, S8116, v8117, S8118, v8119, S8120, v8121, S8122, hst⟩ := hst.openQ5 0 rfl rfl rfl rfl rfl rfl
     obtain ⟨r8123, rfl, hst⟩ := hst.toMN1 6 rfl
     have hst := hst.toRow1 7 rfl
     obtain ⟨b8124, rfl⟩ := hst.fptr 3 rfl
     obtain ⟨b8125, rfl⟩ := hst.fptr 4 rfl
     obtain ⟨b8126, rfl⟩ := hst.fptr 5 rfl
     obtain ⟨l8127, a8128, c8129, rfl⟩ := hst.len 7 rfl
     have hst : St _ _ _ [blkI b32 58 [Pt b8124, Pt b8125, Pt b8126, I s7113.1.hooks, I s7113.1.maps, I s7113.1.given, .map (some r8123), .slice a8128 (s7113.1.waiting).length c8129], _, _, _, _, _, _, _] := hst
     refine CW.plan (by kernel_rfl) ?_
     intro w8139 hch8140
     have hst := hst.same hch8140
     refine OA.pure [0, 1, 2] [(172, .pointer (some ⟨b32, 2, none⟩))] (by kernel_rfl) ?_
     refine OA.ld (i := 3) rfl (by kernel_rfl) rfl rfl rfl (by kernel_rfl) (hst.blk 0 rfl rfl) ?_
     refine OA.pure [4] [(174, .pointer (some ⟨b7149, 1, none⟩))] (by kernel_rfl) ?_
     refine OA.ld (i := 5) rfl (by kernel_rfl) rfl rfl rfl (by kernel_rfl) (hst.blk 2 rfl rfl) ?_
     refine OA.act (i := 6) [3] (by kernel_rfl) rfl rfl (by kernel_rfl) (by kernel_rfl) ?_
     refine OW.row (α := Int) (e := 3) (enc := encInt .i64) (sz := 1) hst rfl rfl rfl [x7135.A] rfl (fun _ => rfl) rfl rfl (fun _ => by kernel_rfl) ?_
     intro g8141 w8142 hst
     refine OA.next ⟨(hst.blk 0 rfl rfl), trivial⟩ ?_
     refine OA.act (i := 7) [] (by kernel_rfl) rfl rfl (by kernel_rfl) (by kernel_rfl) ?_
     obtain ⟨r8143, hr8144, hl7112⟩ := bs hl7112
     refine OW.fn rfl rfl rfl rfl (by kernel_rfl) (epoch_Clock_Leave_ok _ (Pt b8126) S8118 s7113.1.Clock (.slice (some ⟨g8141, 0, none⟩) 1 1) ([x7135.A]) r8143 hr8144 (hst.part [5] rfl) (hst.rd 8 rfl (fun _ => rfl) [5] rfl (hst.len 8 rfl).1)) ?_
     rintro e w8145 ⟨S8147, rfl, hst8146⟩
     refine ⟨_, rfl, ?_⟩
     have hst := hst.join (idx := [5]) (rest := [0, 1, 2, 3, 4, 6, 7, 8]) rfl hst8146
     refine OA.next trivial ?_
     refine OA.pure [8] [(178, .bool (r8143.1 != 0))] (by kernel_rfl) ?_
     refine OA.fin (by kernel_rfl) (by kernel_rfl) (QW.next ?_)
     refine br ((r8143.1 != 0)) hl7112 (fun hl7112 hc8148 => ?_) (fun hl7112 hc8148 => ?_)
     ·refine CW.exit (QW.then_exit ?_)
      refine QW.block_on rfl ?_
      refine QW.block_here (QW.next (CW.region ?_))
      refine pu 3 [(6, I (w64 (s7113.2.2 + 1)))] (OW.nil rfl ?_)
      have hst := hst.ofMN 6 rfl
      have hst := hst.toIt 7 rfl (fun _ => rfl) (by decide)
      obtain ⟨S8149, hst⟩ := hst.shutP5 R_t58 rfl 1 4 5 0 6 7 [2, 3, 8] rfl rfl rfl rfl rfl rfl rfl (registry_Registry.mk s7113.1.Table s7113.1.Refs r8143.2 s7113.1.hooks s7113.1.maps s7113.1.given s7113.1.progs s7113.1.waiting) rfl rfl
      exact QW.meet (fun a ha => ⟨n7111, Nat.lt_succ_self _, ((registry_Registry.mk s7113.1.Table s7113.1.Refs r8143.2 s7113.1.hooks s7113.1.maps s7113.1.given s7113.1.progs s7113.1.waiting), s7113.2.1, w64 (s7113.2.2 + 1)), S8149, S7115, ha.ag, hst.keep [3, 0] rfl, hl7112⟩)
     refine CW.skip (QW.next (CW.seq (CW.seq ?_)))
     refine CW.cutK (fun a w1 => Rep 232 [(0, .slice a2 (p0).length c3), (3, Pt b32), (5, .slice (some ⟨g40, 0, none⟩) m38 m38), (6, I s7113.2.2), (7, Pt b7149), (186, .bool (decide (x7135.A < 0) || decide (x7135.A > 1)))] a ∧ St w (fp []) w1 [itI R_t55 [Pt b8126] S8147 r8143.2, blkI b32 58 [Pt b8124, Pt b8125, Pt b8126, I s7113.1.hooks, I s7113.1.maps, I s7113.1.given, .map (some r8123), .slice a8128 (s7113.1.waiting).length c8129], nI 50 R_t50 (.slice (some ⟨g40, 0, none⟩) m38 m38) S7115 s7113.2.1 none, blkI b7149 48 [I x7135.Kind, I x7135.A, I x7135.B, .slice a7147 (x7135.Bytes).length c7148], itI R_t53 [Pt b8124] S8114 s7113.1.Table, itI R_t54 [Pt b8125] S8116 s7113.1.Refs, mN r8123 R_t95 S8120 s7113.1.progs none, rowI (.slice a8128 (s7113.1.waiting).length c8129) 3 (encInt .i64) 1 s7113.1.waiting]) ?_ ?_
     ·refine CW.region ?_
      refine pu 1 [(179, .pointer (some ⟨b7149, 1, none⟩))] ?_
      refine OW.ld rfl rfl rfl rfl (by kernel_rfl) (hst.blk 3 rfl rfl) ?_
      refine pu 2 [(182, .bool (decide (x7135.A < 0)))] ?_
      refine OW.split 182 rfl (fun hc8150 => ?_) (fun hc8150 => ?_)
      ·refine pu 4 [(186, .bool true)] (OW.nil rfl ?_)
       refine QW.say 186 (v := .bool (decide (x7135.A < 0) || decide (x7135.A > 1))) rfl (by first | (rw [hc8150]; done) | (rw [hc8150]; rfl) | simp [hc8150]) ?_
       exact QW.meet (fun a ha => ⟨ha.ag, hst.keep [0, 1, 2, 3, 4, 5, 6, 7] rfl⟩)
      refine pu 1 [(183, .pointer (some ⟨b7149, 1, none⟩))] ?_
      refine OW.ld rfl rfl rfl rfl (by kernel_rfl) (hst.blk 3 rfl rfl) ?_
      refine pu 2 [(186, .bool (decide (x7135.A > 1)))] (OW.nil rfl ?_)
      refine QW.say 186 (v := .bool (decide (x7135.A < 0) || decide (x7135.A > 1))) rfl (by first | (rw [hc8150]; done) | (rw [hc8150]; rfl) | simp [hc8150]) ?_
      exact QW.meet (fun a ha => ⟨ha.ag, hst.keep [0, 1, 2, 3, 4, 5, 6, 7] rfl⟩)
     rintro a w1 ⟨ha, hst⟩
     refine CW.go ?_ ha
     refine br ((decide (x7135.A < 0) || decide (x7135.A > 1))) hl7112 (fun hl7112 hc8151 => ?_) (fun hl7112 hc8151 => ?_)
     ·refine rg ?_
      refine pu 1 [(2, .bool false)] (nx (CW.ret (QW.then_ret (QW.block_ret (QW.block_ret (QW.then_ret (QW.then_ret (QW.block_ret (QW.then_ret ?_)))))))))
      obtain rfl := inj hl7112
      obtain rfl := inj hF
      refine QW.ret1 rfl rfl ?_
      exact ⟨rfl, hst.keep [] rfl⟩
     refine CW.skip (QW.next (rg ?_))
     refine pu 1 [(16, I 0)] (nx ?_)
     obtain ⟨o8334, ho8335, hl7112⟩ := bs hl7112
     refine CW.cutQ (fun a w1 => ∃ (S8332 : List Nat) (S8333 : List Nat), Rep 232 [(0, .slice a2 (p0).length c3), (3, Pt b32), (5, .slice (some ⟨g40, 0, none⟩) m38 m38), (6, I s7113.2.2)] a ∧ St w (fp []) w1 [itI R_t24 [Pt b32] S8332 (registry_Registry.mk s7113.1.Table s7113.1.Refs r8143.2 s7113.1.hooks s7113.1.maps s7113.1.given s7113.1.progs s7113.1.waiting), nI 50 R_t50 (.slice (some ⟨g40, 0, none⟩) m38 m38) S8333 o8334 none]) ?_ ?_
     ·refine CW.block ?_
      have hst := hst.ofMN 6 rfl
      have hst := hst.toIt 7 rfl (fun _ => rfl) (by decide)
      obtain ⟨S8336, hst⟩ := hst.shutP5 R_t58 rfl 1 4 5 0 6 7 [2, 3] rfl rfl rfl rfl rfl rfl rfl (registry_Registry.mk s7113.1.Table s7113.1.Refs r8143.2 s7113.1.hooks s7113.1.maps s7113.1.given s7113.1.progs s7113.1.waiting) rfl rfl
      obtain ⟨u8458, hr8459, ho8335⟩ := bs ho8335
      refine CW.loop (fun n a w1 => ∃ (i8456 : Nat) (s8454 : (List (List Bool))) (S8455 : List Nat), i8456 + n = m38 ∧ Rep 232 [(0, .slice a2 (p0).length c3), (3, Pt b32), (5, .slice (some ⟨g40, 0, none⟩) m38 m38), (6, I s7113.2.2), (7, Pt b7149), (16, I (i8456 : Int))] a ∧ St w (fp []) w1 [itI R_t24 [Pt b32] S8336 (registry_Registry.mk s7113.1.Table s7113.1.Refs r8143.2 s7113.1.hooks s7113.1.maps s7113.1.given s7113.1.progs s7113.1.waiting), nI 50 R_t50 (.slice (some ⟨g40, 0, none⟩) m38 m38) S8455 s8454 none, blkI b7149 48 [I x7135.Kind, I x7135.A, I x7135.B, .slice a7147 (x7135.Bytes).length c7148]] ∧ forN (tappetlaw24_RegistryGrace_l3 x7135) (fun (s8454 : (List (List Bool))) => s8454) n i8456 s8454 = some o8334) m38 (fun a ha => ⟨0, s7113.2.1, S7115, Nat.zero_add _, ha.ag, hst.keep [2, 0, 1] rfl, ho8335⟩) ?_
      rintro n8452 a w1 ⟨i8456, s8454, S8455, hi8457, ha, hst, hl8453⟩
      refine CW.go ?_ ha
      refine CW.seq (rg ?_)
      refine pu 4 [(190, .bool (decide ((i8456 : Int) < (m38 : Int))))] (nx ?_)
      rcases bft (decide ((i8456 : Int) < (m38 : Int))) with hc8460 | hc8460
      ·rcases n8452 with _ | n8452
       ·exact (cnt0 hi8457 hc8460).elim
       refine CW.cond_t rfl hc8460 (CW.skip (QW.next (CW.seq (CW.block (rg ?_)))))
       refine pu 2 [(193, .slice (some ⟨g40, 0, none⟩) m38 m38), (194, I (i8456 : Int))] ?_
       obtain ⟨x8474, hx8475, hl8453⟩ := bs hl8453
       obtain ⟨g8477, o8478, c8479, hv8476⟩ := hst.nrowv 1 rfl hx8475
       refine OW.idx 50 1 rfl rfl rfl rfl hv8476 rfl (idx_some hx8475).1 (idx_some hx8475).2.1 (by kernel_rfl) (by kernel_rfl) ?_
       obtain ⟨v8480, S8481, S8482, hce8483, hst⟩ := hst.nout1 1 rfl rfl hx8475 hv8476
       have hst := hst.toRow1 3 rfl
       obtain ⟨l8484, a8485, c8486, rfl⟩ := hst.len 3 rfl
       refine OW.ld rfl rfl rfl rfl (by kernel_rfl) hce8483 ?_
       refine pu 2 [(198, .bool (decide (((x8474).length : Int) > 0)))] (nx ?_)
       refine br (decide (((x8474).length : Int) > 0)) hl8453 (fun hl8453 hc8487 => ?_) (fun hl8453 hc8487 => ?_)
       ·refine CW.tail 7 (by kernel_rfl) (by kernel_rfl) ?_
        intro w8501 hch8502
        have hst := hst.same hch8502
        refine OS.pure 2 [(199, .slice (some ⟨g40, 0, none⟩) m38 m38), (200, I (i8456 : Int))] rfl (by kernel_rfl) ?_
        obtain ⟨g8504, o8505, c8506, hv8503⟩ := hst.nrowv 1 rfl hx8475
        refine OS.idx 50 1 rfl rfl rfl rfl rfl hv8503 rfl (idx_some hx8475).1 (idx_some hx8475).2.1 (by kernel_rfl) (by kernel_rfl) ?_
        refine OS.ld rfl rfl rfl rfl rfl (by kernel_rfl) (hst.nhole 1 rfl hv8503 0 _ rfl) ?_
        refine OS.pure 1 [(203, .pointer (some ⟨b7149, 1, none⟩))] rfl (by kernel_rfl) ?_
        refine OS.ld rfl rfl rfl rfl rfl (by kernel_rfl) (hst.blk 2 rfl rfl) ?_
        obtain ⟨x8507, hx8508, hl8453⟩ := bs hl8453
        obtain ⟨g8510, o8511, c8512, hv8509⟩ := hst.rowv 3 rfl hx8508
        refine OS.idx 4 1 rfl rfl rfl rfl rfl hv8509 rfl (idx_some hx8508).1 (idx_some hx8508).2.1 (by kernel_rfl) (by kernel_rfl) ?_
        refine OS.on ?_
        refine OW.stR hst 3 rfl hv8509 (fun _ => rfl) rfl rfl hx8508 0 rfl rfl rfl (by kernel_rfl) rfl rfl false rfl ?_
        intro w8513 hst
        refine OW.nil rfl (QW.block_normal (QW.next (CW.region ?_)))
        refine pu 3 [(16, I (w64 ((i8456 : Int) + 1)))] (OW.nil rfl ?_)
        have hst := hst.toIt 3 rfl (fun _ => rfl) (by decide)
        obtain ⟨S8514, hst⟩ := hst.nback 1 3 rfl rfl rfl hx8475
        have hst := hst.keep [0, 1, 2] rfl
        refine QW.say 16 rfl (congrArg (Value.int .i64) (w64_cnt hc8460 (room_sz hr8459))) ?_
        exact QW.meet (fun a ha => ⟨n8452, Nat.lt_succ_self _, i8456 + 1, (s8454.set (Int.toNat (i8456 : Int)) (x8474.set (Int.toNat x7135.A) false)), S8514, cnt_next hi8457, ha.ag, hst.keep [0, 1, 2] rfl, hl8453⟩)
       refine CW.skip (QW.block_normal (QW.next (CW.region ?_)))
       refine pu 3 [(16, I (w64 ((i8456 : Int) + 1)))] (OW.nil rfl ?_)
       have hst := hst.toIt 3 rfl (fun _ => rfl) (by decide)
       obtain ⟨S8515, hst⟩ := hst.nback0 1 3 rfl rfl rfl hx8475
       have hst := hst.keep [0, 1, 2] rfl
       refine QW.say 16 rfl (congrArg (Value.int .i64) (w64_cnt hc8460 (room_sz hr8459))) ?_
       exact QW.meet (fun a ha => ⟨n8452, Nat.lt_succ_self _, i8456 + 1, s8454, S8515, cnt_next hi8457, ha.ag, hst.keep [0, 1, 2] rfl, hl8453⟩)
      rcases n8452 with _ | n8452
      ·refine CW.cond_f rfl hc8460 ?_
       refine CW.exit (QW.then_exit (QW.then_exit ?_))
       refine QW.block_here ?_
       obtain rfl := inj hl8453
       exact QW.meet (fun a ha => ⟨S8336, S8455, ha.ag, hst.keep [0, 1] rfl⟩)
      exact (cnt1 hi8457 hc8460).elim
     rintro a w1 ⟨S8332, S8333, ha, hst⟩
     refine QW.go ?_ ha
     refine QW.block_normal (QW.block_normal (QW.next (CW.region ?_)))
     refine pu 3 [(6, I (w64 (s7113.2.2 + 1)))] (OW.nil rfl ?_)
     exact QW.meet (fun a ha => ⟨n7111, Nat.lt_succ_self _, ((registry_Registry.mk s7113.1.Table s7113.1.Refs r8143.2 s7113.1.hooks s7113.1.maps s7113.1.given s7113.1.progs s7113.1.waiting), o8334, w64 (s7113.2.2 + 1)), S8332, S8333, ha.ag, hst.keep [0, 1] rfl, hl7112⟩)
    refine CW.region ?_
    refine pu 1 [(47, Pt b32)] ?_
    refine OW.ldN (cs := [I x7135.Kind, I x7135.A, I x7135.B, .slice a7147 (x7135.Bytes).length c7148]) rfl rfl rfl rfl (by kernel_rfl) (by kernel_rfl) (hst.blkN 2 rfl 0 4) ?_
    obtain ⟨r8521, hr8522, hl7112⟩ := bs hl7112
    refine OW.fn rfl rfl rfl rfl (by kernel_rfl) (tappetlaw24_play_ok _ fu (Pt b32) S7114 s7113.1 (.slice a7147 (x7135.Bytes).length c7148) x7135 r8521 hr8522 (hst.part [0] rfl) (h7145.give hst [0]) (hT0.give hst [0]) (hT1.give hst [0])) ?_
    rintro e w8523 ⟨S8525, rfl, hst8524⟩
    refine ⟨_, rfl, ?_⟩
    have hst := hst.join (idx := [0]) (rest := [1, 2]) rfl hst8524
    refine OW.nil rfl (QW.block_normal (QW.block_normal (QW.next (CW.region ?_))))
    refine pu 3 [(6, I (w64 (s7113.2.2 + 1)))] (OW.nil rfl ?_)
    exact QW.meet (fun a ha => ⟨n7111, Nat.lt_succ_self _, (r8521.2.2, s7113.2.1, w64 (s7113.2.2 + 1)), S8525, S7115, ha.ag, hst.keep [0, 1] rfl, hl7112⟩)
   refine CW.exit (QW.then_exit (QW.then_exit ?_))
   refine QW.block_here ?_
   obtain rfl := inj hl7112
   exact QW.meet (fun a ha => ⟨s7113.1, S7114, rfl, ha.ag, hst.keep [0] rfl⟩)
  rintro a w1 ⟨t4285, S4282, rfl, ha, hst⟩
  refine CW.go ?_ ha
  refine CW.seq ?_
  obtain ⟨v8526, S8527, v8528, S8529, v8530, S8531, v8532, S8533, v8534, S8535, hst⟩ := hst.openQ5 0 rfl rfl rfl rfl rfl rfl
  obtain ⟨r8536, rfl, hst⟩ := hst.toMN1 4 rfl
  have hst := hst.toRow1 5 rfl
  obtain ⟨b8537, rfl⟩ := hst.fptr 1 rfl
  obtain ⟨b8538, rfl⟩ := hst.fptr 2 rfl
  obtain ⟨b8539, rfl⟩ := hst.fptr 3 rfl
  obtain ⟨l8540, a8541, c8542, rfl⟩ := hst.len 5 rfl
  have hst : St _ _ _ [blkI b32 58 [Pt b8537, Pt b8538, Pt b8539, I t4285.hooks, I t4285.maps, I t4285.given, .map (some r8536), .slice a8541 (t4285.waiting).length c8542], _, _, _, _, _] := hst
  refine CW.region ?_
  refine pu 3 [(208, .pointer (some ⟨b32, 2, none⟩))] ?_
  refine OW.ld rfl rfl rfl rfl (by kernel_rfl) (hst.blk 0 rfl rfl) ?_
  refine OW.row (α := Int) (e := 3) (enc := encInt .i64) (sz := 1) hst rfl rfl rfl [0] rfl (fun _ => rfl) rfl rfl (fun _ => by kernel_rfl) ?_
  intro g8550 w8551 hst
  obtain ⟨r8552, hr8553, hF⟩ := bs hF
  refine OW.fn rfl rfl rfl rfl (by kernel_rfl) (epoch_Clock_Leave_ok _ (Pt b8539) S8531 t4285.Clock (.slice (some ⟨g8550, 0, none⟩) 1 1) ([0] : List Int) r8552 hr8553 (hst.part [3] rfl) (hst.rd 6 rfl (fun _ => rfl) [3] rfl (hst.len 6 rfl).1)) ?_
  rintro e w8554 ⟨S8556, rfl, hst8555⟩
  refine ⟨_, rfl, ?_⟩
  have hst := hst.join (idx := [3]) (rest := [0, 1, 2, 4, 5, 6]) rfl hst8555
  refine nx (rg ?_)
  refine pu 3 [(214, .pointer (some ⟨b32, 2, none⟩))] ?_
  refine OW.ld rfl rfl rfl rfl (by kernel_rfl) (hst.blk 1 rfl rfl) ?_
  refine OW.row (α := Int) (e := 3) (enc := encInt .i64) (sz := 1) hst rfl rfl rfl [1] rfl (fun _ => rfl) rfl rfl (fun _ => by kernel_rfl) ?_
  intro g8564 w8565 hst
  obtain ⟨r8566, hr8567, hF⟩ := bs hF
  refine OW.fn rfl rfl rfl rfl (by kernel_rfl) (epoch_Clock_Leave_ok _ (Pt b8539) S8556 r8552.2 (.slice (some ⟨g8564, 0, none⟩) 1 1) ([1] : List Int) r8566 hr8567 (hst.part [0] rfl) (hst.rd 7 rfl (fun _ => rfl) [0] rfl (hst.len 7 rfl).1)) ?_
  rintro e w8568 ⟨S8570, rfl, hst8569⟩
  refine ⟨_, rfl, ?_⟩
  have hst := hst.join (idx := [0]) (rest := [1, 2, 3, 4, 5, 6, 7]) rfl hst8569
  refine nx (rg ?_)
  refine pu 1 [(218, Pt b32)] ?_
  have hst := hst.ofMN 4 rfl
  have hst := hst.toIt 5 rfl (fun _ => rfl) (by decide)
  obtain ⟨S8581, hst⟩ := hst.shutP5 R_t58 rfl 1 2 3 0 4 5 [6, 7] rfl rfl rfl rfl rfl rfl rfl (registry_Registry.mk t4285.Table t4285.Refs r8566.2 t4285.hooks t4285.maps t4285.given t4285.progs t4285.waiting) rfl rfl
  obtain ⟨r8582, hr8583, hF⟩ := bs hF
  refine OW.fn rfl rfl rfl rfl (by kernel_rfl) (registry_Registry_Retiring_ok _ (Pt b32) S8581 (registry_Registry.mk t4285.Table t4285.Refs r8566.2 t4285.hooks t4285.maps t4285.given t4285.progs t4285.waiting) r8582 hr8583 (hst.part [2] rfl)) ?_
  rintro e w8584 ⟨S8586, v8587, rfl, hst8585⟩
  refine ⟨_, rfl, ?_⟩
  have hst := hst.join (idx := [2]) (rest := [0, 1]) rfl hst8585
  obtain ⟨l8588, a8589, c8590, rfl⟩ := hst.len 1 rfl
  refine pu 2 [(17, I ((r8582).length : Int))] (nx (CW.seq ?_))
  obtain ⟨o8619, ho8620, hF⟩ := bs hF
  refine CW.cutK (fun a w1 => Rep 232 [(2, .bool o8619)] a ∧ St w (fp []) w1 []) ?_ ?_
  ·refine CW.region ?_
   refine pu 1 [(221, Pt b32)] ?_
   obtain ⟨r8621, hr8622, ho8620⟩ := bs ho8620
   refine OW.fn rfl rfl rfl rfl (by kernel_rfl) (registry_Registry_Settle_ok _ fu (Pt b32) S8586 (registry_Registry.mk t4285.Table t4285.Refs r8566.2 t4285.hooks t4285.maps t4285.given t4285.progs t4285.waiting) 1000 r8621 hr8622 (hst.part [0] rfl)) ?_
   rintro e w8623 ⟨S8625, v8626, rfl, hst8624⟩
   refine ⟨_, rfl, ?_⟩
   have hst := hst.join (idx := [0]) (rest := [1, 2, 3]) rfl hst8624
   obtain ⟨l8627, a8628, c8629, rfl⟩ := hst.len 1 rfl
   refine pu 4 [(226, .bool (((r8621.1).length : Int) == ((r8582).length : Int)))] ?_
   refine OW.split 226 rfl (fun hc8630 => ?_) (fun hc8630 => ?_)
   ·have ho8620 := ite_t ho8620 hc8630
    refine pu 1 [(227, Pt b32)] ?_
    obtain ⟨r8631, hr8632, ho8620⟩ := bs ho8620
    refine OW.fn rfl rfl rfl rfl (by kernel_rfl) (registry_Registry_Retiring_ok _ (Pt b32) S8625 r8621.2 r8631 hr8632 (hst.part [0] rfl)) ?_
    rintro e w8633 ⟨S8635, v8636, rfl, hst8634⟩
    refine ⟨_, rfl, ?_⟩
    have hst := hst.join (idx := [0]) (rest := [1, 2, 3, 4]) rfl hst8634
    obtain ⟨l8637, a8638, c8639, rfl⟩ := hst.len 1 rfl
    refine pu 4 [(2, .bool (((r8631).length : Int) == 0))] (OW.nil rfl ?_)
    obtain rfl := inj ho8620
    exact QW.meet (fun a ha => ⟨ha.ag, hst.keep [] rfl⟩)
   have ho8620 := ite_f ho8620 hc8630
   refine pu 6 [(2, .bool false)] (OW.nil rfl ?_)
   obtain rfl := inj ho8620
   exact QW.meet (fun a ha => ⟨ha.ag, hst.keep [] rfl⟩)
  rintro a w1 ⟨ha, hst⟩
  refine CW.go ?_ ha
  refine CW.ret ?_
  obtain rfl := inj hF
  refine QW.ret1 rfl rfl ?_
  exact ⟨rfl, hst.keep [] rfl⟩
 have hF := ocase_none hF he31
 refine ⟨_, rfl, ?_⟩
 have hst := hst.join (idx := []) (rest := []) rfl hst26
 refine pu 5 [(3, .pointer none), (4, I r23.2)] (nx (CW.seq (rg ?_)))
 refine pu 6 [(29, .bool true)] (nx (CW.cond_t rfl rfl (rg ?_)))
 refine pu 1 [(2, .bool false)] (nx (CW.ret (QW.then_ret ?_)))
 obtain rfl := inj hF
 refine QW.ret1 rfl rfl ?_
 exact ⟨rfl, hst.keep [] rfl⟩
end Go.Proofs.YtdnogiegiclcfaaGreatDoor

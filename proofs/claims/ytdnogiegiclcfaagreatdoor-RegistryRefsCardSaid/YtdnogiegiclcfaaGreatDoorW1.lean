/- Written by a program (wip/gen): the walks: each Go function returns what its plain function computes. -/
import Derived.Test.YtdnogiegiclcfaaGreatDoorProg
import Derived.Test.YtdnogiegiclcfaaGreatDoorF1
import Derived.Test.YtdnogiegiclcfaaGreatDoorSq
import Derived.Test.YtdnogiegiclcfaaGreatDoorPart
import Derived.Test.YtdnogiegiclcfaaGreatDoorExt
import Derived.Test.YtdnogiegiclcfaaGreatDoorSh
import Derived.Test.YtdnogiegiclcfaaGreatDoorO1
import Derived.Test.YtdnogiegiclcfaaGreatDoorW1p4
set_option linter.unusedSimpArgs false
namespace Go.Proofs.YtdnogiegiclcfaaGreatDoor
open Go.Sx
set_option linter.unusedVariables false
set_option maxRecDepth 10000
set_option maxHeartbeats 4000000
theorem epoch_Clock_Leave_ok (w : World) (v0 : Value) (S0 : List Nat) (p0 : epoch_Clock) (v1 : Value) (p1 : List Int) (r : Int × epoch_Clock) (hF : epoch_Clock_Leave p0 p1 = some r)
    (hst : St w (fp [itI R_t55 [v0] S0 p0]) w [itI R_t55 [v0] S0 p0]) (h1 : Rd w (fp [itI R_t55 [v0] S0 p0]) v1 (encInt .i64) 1 p1) :
    Calls Tryz.prog 19 [v0, v1].toArray w (fun e w' => ∃ (s0 : List Nat), e = .returned (I r.1) ∧ St w (fp [itI R_t55 [v0] S0 p0]) w' [itI R_t55 [v0] s0 r.2]) := by
 refine CW.start (N := 58) Tryz.func19 rfl rfl rfl ?_
 obtain ⟨l1, a2, c3, rfl⟩ := h1.len
 obtain ⟨b4, rfl⟩ := hst.fptr 0 rfl
 refine rg ?_
 refine pu 1 [] (nx (rg ?_))
 refine OW.alloc hst rfl rfl rfl [.bool false, .bool false, .bool false, .bool false] (by kernel_rfl) ?_
 intro b7 w8 hst
 refine nx (CW.seq (rg ?_))
 refine pu 3 [(12, .slice a2 (p1).length c3), (13, I ((p1).length : Int)), (14, I 0)] (nx ?_)
 obtain ⟨o151, ho152, hF⟩ := bs hF
 refine CW.cutK (fun a w1 => ∃ (t153 : Unit) (S150 : List Nat), o151 = .inl t153 ∧ Rep 58 [(0, Pt b4), (1, .slice a2 (p1).length c3)] a ∧ St w (fp [itI R_t55 [Pt b4] S0 p0]) w1 [itI R_t55 [Pt b4] S150 p0]) ?_ ?_
 ·refine CW.block ?_
  refine CW.loop (fun n a w1 => ∃ (i249 : Nat) (s247 : (Nat → Bool)) (S248 : List Nat), i249 + n = (p1).length ∧ Rep 58 [(0, Pt b4), (1, .slice a2 (p1).length c3), (5, Pt b7), (12, .slice a2 (p1).length c3), (13, I ((p1).length : Int)), (14, I (i249 : Int))] a ∧ St w (fp [itI R_t55 [Pt b4] S0 p0]) w1 [itI R_t55 [Pt b4] S248 p0, blkI b7 108 [.bool (s247 0), .bool (s247 1), .bool (s247 2), .bool (s247 3)]] ∧ forN (epoch_Clock_Leave_l1 p0 p1) (fun (s247 : (Nat → Bool)) => (.inl ())) n i249 s247 = some o151) (p1).length (fun a ha => ⟨0, (fun _ => false), S0, Nat.zero_add _, ha.ag, hst.keep [0, 1] rfl, ho152⟩) ?_
  rintro n245 a w1 ⟨i249, s247, S248, hi250, ha, hst, hl246⟩
  refine CW.go ?_ ha
  refine rg ?_
  refine pu 1 [(15, .bool (decide ((i249 : Int) < ((p1).length : Int))))] (nx (CW.seq ?_))
  rcases bft (decide ((i249 : Int) < ((p1).length : Int))) with hc251 | hc251
  ·rcases n245 with _ | n245
   ·exact (cnt0 hi250 hc251).elim
   refine CW.cond_t rfl hc251 (CW.skip (QW.next (CW.seq (CW.block (rg ?_)))))
   obtain ⟨x258, hx259, hl246⟩ := bs hl246
   obtain ⟨g261, o262, c263, hv260⟩ := h1.formv (fun _ => ⟨_, rfl⟩) hx259
   refine OW.idx 3 1 rfl rfl rfl rfl hv260 rfl (idx_some hx259).1 (idx_some hx259).2.1 (by kernel_rfl) (by kernel_rfl) ?_
   refine OW.ld rfl rfl rfl rfl (by kernel_rfl) (h1.cellv hst hx259 hv260 0 _ rfl) ?_
   refine pu 1 [(7, I x258)] (nx (CW.seq (CW.seq ?_)))
   obtain ⟨o278, ho279, hl246⟩ := bs hl246
   refine CW.cutK (fun a w1 => ∃ (S277 : List Nat), Rep 58 [(0, Pt b4), (1, .slice a2 (p1).length c3), (5, Pt b7), (7, I x258), (12, .slice a2 (p1).length c3), (13, I ((p1).length : Int)), (14, I (i249 : Int)), (26, .bool o278)] a ∧ St w (fp [itI R_t55 [Pt b4] S0 p0]) w1 [itI R_t55 [Pt b4] S277 p0, blkI b7 108 [.bool (s247 0), .bool (s247 1), .bool (s247 2), .bool (s247 3)]]) ?_ ?_
   ·refine CW.region ?_
    refine pu 2 [(18, Pt b4), (19, I x258)] ?_
    obtain ⟨r280, hr281, ho279⟩ := bs ho279
    refine OW.fn rfl rfl rfl rfl (by kernel_rfl) (epoch_Clock_known_ok _ (Pt b4) S248 p0 x258 r280 hr281 (hst.part [0] rfl)) ?_
    rintro e w282 ⟨S284, rfl, hst283⟩
    refine ⟨_, rfl, ?_⟩
    have hst := hst.join (idx := [0]) (rest := [1]) rfl hst283
    refine pu 2 [(22, .bool (!r280))] ?_
    refine OW.split 22 rfl (fun hc285 => ?_) (fun hc285 => ?_)
    ·have ho279 := ite_t ho279 hc285
     refine pu 4 [(26, .bool true)] (OW.nil rfl ?_)
     obtain rfl := inj ho279
     exact QW.meet (fun a ha => ⟨S284, ha.ag, hst.keep [0, 1] rfl⟩)
    have ho279 := ite_f ho279 hc285
    refine pu 1 [(23, I x258)] ?_
    obtain ⟨i286, hi287, ho279⟩ := bs ho279
    refine OW.op (v := .pointer (some ⟨b7, 0 + Int.toNat x258 * 1, none⟩)) rfl rfl rfl rfl (fun a ha => aidx_run (n := 4) 4 1 rfl rfl rfl (ain_some hi287).1 (ain_some hi287).2.1 (by kernel_rfl) (by kernel_rfl) a _ ha) ?_
    refine OW.ld rfl rfl rfl rfl (by kernel_rfl) (hst.arrB 1 rfl encBool (fun _ => rfl) 4 s247 0 rfl rfl hi287 0 _ rfl) ?_
    refine pu 1 [(26, .bool (s247 i286))] (OW.nil rfl ?_)
    obtain rfl := inj ho279
    exact QW.meet (fun a ha => ⟨S284, ha.ag, hst.keep [0, 1] rfl⟩)
   rintro a w1 ⟨S277, ha, hst⟩
   refine CW.go ?_ ha
   refine br (o278) hl246 (fun hl246 hc288 => ?_) (fun hl246 hc288 => ?_)
   ·refine rg ?_
    refine pu 1 [(4, I 2)] (nx (CW.ret (QW.then_ret (QW.block_ret (QW.then_ret (QW.then_ret (QW.block_ret (QW.then_ret ?_))))))))
    obtain rfl := inj hl246
    obtain rfl := inj hF
    refine QW.ret1 rfl rfl ?_
    exact ⟨S277, rfl, hst.keep [0] rfl⟩
   refine CW.skip (QW.next (CW.region ?_))
   refine pu 1 [(27, I x258)] ?_
   obtain ⟨i292, hi293, hl246⟩ := bs hl246
   refine OW.op (v := .pointer (some ⟨b7, 0 + Int.toNat x258 * 1, none⟩)) rfl rfl rfl rfl (fun a ha => aidx_run (n := 4) 4 1 rfl rfl rfl (ain_some hi293).1 (ain_some hi293).2.1 (by kernel_rfl) (by kernel_rfl) a _ ha) ?_
   refine OW.stA hst 1 rfl rfl rfl rfl rfl (by kernel_rfl) rfl encBool (fun _ => rfl) 4 s247 0 rfl rfl hi293 0 rfl rfl true rfl [.bool ((aset s247 i292 true) 0), .bool ((aset s247 i292 true) 1), .bool ((aset s247 i292 true) 2), .bool ((aset s247 i292 true) 3)] rfl ?_
   intro w294 hst
   refine OW.nil rfl (QW.block_normal (QW.next (CW.region ?_)))
   refine pu 2 [(14, I (w64 ((i249 : Int) + 1)))] (OW.nil rfl ?_)
   refine QW.say 14 rfl (congrArg (Value.int .i64) (w64_cnt hc251 l1)) ?_
   exact QW.meet (fun a ha => ⟨n245, Nat.lt_succ_self _, i249 + 1, (aset s247 i292 true), S277, cnt_next hi250, ha.ag, hst.keep [0, 1] rfl, hl246⟩)
  rcases n245 with _ | n245
  ·refine CW.cond_f rfl hc251 ?_
   refine CW.exit (QW.then_exit (QW.then_exit ?_))
   refine QW.block_here ?_
   obtain rfl := inj hl246
   exact QW.meet (fun a ha => ⟨(), S248, rfl, ha.ag, hst.keep [0] rfl⟩)
  exact (cnt1 hi250 hc251).elim
 rintro a w1 ⟨t153, S150, rfl, ha, hst⟩
 refine CW.go ?_ ha
 refine CW.seq (rg ?_)
 refine pu 3 [(30, .slice a2 (p1).length c3), (31, I ((p1).length : Int)), (32, I 0)] (nx ?_)
 obtain ⟨o404, ho405, hF⟩ := bs hF
 refine CW.cutK (fun a w1 => ∃ (t406 : Unit) (S403 : List Nat), o404 = .inl t406 ∧ Rep 58 [(0, Pt b4), (1, .slice a2 (p1).length c3)] a ∧ St w (fp [itI R_t55 [Pt b4] S0 p0]) w1 [itI R_t55 [Pt b4] S403 p0]) ?_ ?_
 ·refine CW.block ?_
  refine CW.loop (fun n a w1 => ∃ (i480 : Nat) (s478 : Unit) (S479 : List Nat), i480 + n = (p1).length ∧ Rep 58 [(0, Pt b4), (1, .slice a2 (p1).length c3), (30, .slice a2 (p1).length c3), (31, I ((p1).length : Int)), (32, I (i480 : Int))] a ∧ St w (fp [itI R_t55 [Pt b4] S0 p0]) w1 [itI R_t55 [Pt b4] S479 p0] ∧ forN (epoch_Clock_Leave_l2 p0 p1) (fun (s478 : Unit) => (.inl ())) n i480 s478 = some o404) (p1).length (fun a ha => ⟨0, (), S150, Nat.zero_add _, ha.ag, hst.keep [0] rfl, ho405⟩) ?_
  rintro n476 a w1 ⟨i480, s478, S479, hi481, ha, hst, hl477⟩
  refine CW.go ?_ ha
  refine rg ?_
  refine pu 1 [(33, .bool (decide ((i480 : Int) < ((p1).length : Int))))] (nx (CW.seq ?_))
  rcases bft (decide ((i480 : Int) < ((p1).length : Int))) with hc482 | hc482
  ·rcases n476 with _ | n476
   ·exact (cnt0 hi481 hc482).elim
   refine CW.cond_t rfl hc482 (CW.skip (QW.next (CW.seq (CW.block (rg ?_)))))
   obtain ⟨x489, hx490, hl477⟩ := bs hl477
   obtain ⟨g492, o493, c494, hv491⟩ := h1.formv (fun _ => ⟨_, rfl⟩) hx490
   refine OW.idx 3 1 rfl rfl rfl rfl hv491 rfl (idx_some hx490).1 (idx_some hx490).2.1 (by kernel_rfl) (by kernel_rfl) ?_
   refine OW.ld rfl rfl rfl rfl (by kernel_rfl) (h1.cellv hst hx490 hv491 0 _ rfl) ?_
   refine pu 1 [(9, I x489)] (nx (CW.seq ?_))
   obtain ⟨v495, S496, hst⟩ := hst.openQ1 0 rfl rfl
   have hst := hst.toRow1 1 rfl
   obtain ⟨l497, a498, c499, rfl⟩ := hst.len 1 rfl
   have hst : St _ _ _ [blkI b4 106 [I p0.now, .slice a498 (p0.in_).length c499], _] := hst
   refine CW.region ?_
   refine pu 3 [(38, .pointer (some ⟨b4, 1, none⟩))] ?_
   refine OW.ld rfl rfl rfl rfl (by kernel_rfl) (hst.blk 0 rfl rfl) ?_
   refine pu 1 [(40, I x489)] ?_
   obtain ⟨x506, hx507, hl477⟩ := bs hl477
   obtain ⟨g509, o510, c511, hv508⟩ := hst.rowv 1 rfl hx507
   refine OW.idx 3 1 rfl rfl rfl rfl hv508 rfl (idx_some hx507).1 (idx_some hx507).2.1 (by kernel_rfl) (by kernel_rfl) ?_
   refine OW.ld rfl rfl rfl rfl (by kernel_rfl) (hst.rowc 1 rfl (fun _ => rfl) hx507 hv508 0 _ rfl) ?_
   refine pu 1 [(43, .bool (x506 == 0))] (nx ?_)
   refine br ((x506 == 0)) hl477 (fun hl477 hc512 => ?_) (fun hl477 hc512 => ?_)
   ·refine rg ?_
    refine pu 1 [(4, I 41)] (nx (CW.ret (QW.block_ret (QW.then_ret (QW.then_ret (QW.block_ret (QW.then_ret ?_)))))))
    have hst := hst.toIt 1 rfl (fun _ => rfl) (by decide)
    obtain ⟨S513, hst⟩ := hst.shutP1 R_t106 rfl 0 1 [] rfl rfl rfl p0 rfl rfl
    obtain rfl := inj hl477
    obtain rfl := inj hF
    refine QW.ret1 rfl rfl ?_
    exact ⟨S513, rfl, hst.keep [0] rfl⟩
   refine CW.skip (QW.block_normal (QW.next (CW.region ?_)))
   refine pu 2 [(32, I (w64 ((i480 : Int) + 1)))] (OW.nil rfl ?_)
   have hst := hst.toIt 1 rfl (fun _ => rfl) (by decide)
   obtain ⟨S514, hst⟩ := hst.shutP1 R_t106 rfl 0 1 [] rfl rfl rfl p0 rfl rfl
   refine QW.say 32 rfl (congrArg (Value.int .i64) (w64_cnt hc482 l1)) ?_
   exact QW.meet (fun a ha => ⟨n476, Nat.lt_succ_self _, i480 + 1, (), S514, cnt_next hi481, ha.ag, hst.keep [0] rfl, hl477⟩)
  rcases n476 with _ | n476
  ·refine CW.cond_f rfl hc482 ?_
   refine CW.exit (QW.then_exit (QW.then_exit ?_))
   refine QW.block_here ?_
   obtain rfl := inj hl477
   exact QW.meet (fun a ha => ⟨(), S479, rfl, ha.ag, hst.keep [0] rfl⟩)
  exact (cnt1 hi481 hc482).elim
 rintro a w1 ⟨t406, S403, rfl, ha, hst⟩
 refine CW.go ?_ ha
 refine CW.seq (rg ?_)
 refine pu 3 [(45, .slice a2 (p1).length c3), (46, I ((p1).length : Int)), (47, I 0)] (nx ?_)
 obtain ⟨o624, ho625, hF⟩ := bs hF
 refine CW.cutK (fun a w1 => ∃ (S623 : List Nat), Rep 58 [] a ∧ St w (fp [itI R_t55 [Pt b4] S0 p0]) w1 [itI R_t55 [Pt b4] S623 o624]) ?_ ?_
 ·refine CW.block ?_
  refine CW.loop (fun n a w1 => ∃ (i699 : Nat) (s697 : epoch_Clock) (S698 : List Nat), i699 + n = (p1).length ∧ Rep 58 [(0, Pt b4), (45, .slice a2 (p1).length c3), (46, I ((p1).length : Int)), (47, I (i699 : Int))] a ∧ St w (fp [itI R_t55 [Pt b4] S0 p0]) w1 [itI R_t55 [Pt b4] S698 s697] ∧ forN (epoch_Clock_Leave_l3 p1) (fun (s697 : epoch_Clock) => s697) n i699 s697 = some o624) (p1).length (fun a ha => ⟨0, p0, S403, Nat.zero_add _, ha.ag, hst.keep [0] rfl, ho625⟩) ?_
  rintro n695 a w1 ⟨i699, s697, S698, hi700, ha, hst, hl696⟩
  refine CW.go ?_ ha
  refine rg ?_
  refine pu 1 [(48, .bool (decide ((i699 : Int) < ((p1).length : Int))))] (nx (CW.seq ?_))
  rcases bft (decide ((i699 : Int) < ((p1).length : Int))) with hc701 | hc701
  ·rcases n695 with _ | n695
   ·exact (cnt0 hi700 hc701).elim
   refine CW.cond_t rfl hc701 (CW.skip (QW.next (CW.seq (CW.block (rg ?_)))))
   obtain ⟨x708, hx709, hl696⟩ := bs hl696
   obtain ⟨g711, o712, c713, hv710⟩ := h1.formv (fun _ => ⟨_, rfl⟩) hx709
   refine OW.idx 3 1 rfl rfl rfl rfl hv710 rfl (idx_some hx709).1 (idx_some hx709).2.1 (by kernel_rfl) (by kernel_rfl) ?_
   refine OW.ld rfl rfl rfl rfl (by kernel_rfl) (h1.cellv hst hx709 hv710 0 _ rfl) ?_
   refine pu 1 [(11, I x708)] (nx ?_)
   obtain ⟨v714, S715, hst⟩ := hst.openQ1 0 rfl rfl
   have hst := hst.toRow1 1 rfl
   obtain ⟨l716, a717, c718, rfl⟩ := hst.len 1 rfl
   have hst : St _ _ _ [blkI b4 106 [I s697.now, .slice a717 (s697.in_).length c718], _] := hst
   refine CW.region ?_
   refine pu 3 [(53, .pointer (some ⟨b4, 1, none⟩))] ?_
   refine OW.ld rfl rfl rfl rfl (by kernel_rfl) (hst.blk 0 rfl rfl) ?_
   refine pu 1 [(55, I x708)] ?_
   obtain ⟨x726, hx727, hl696⟩ := bs hl696
   obtain ⟨g729, o730, c731, hv728⟩ := hst.rowv 1 rfl hx727
   refine OW.idx 3 1 rfl rfl rfl rfl hv728 rfl (idx_some hx727).1 (idx_some hx727).2.1 (by kernel_rfl) (by kernel_rfl) ?_
   refine OW.stR hst 1 rfl hv728 (fun _ => rfl) rfl rfl hx727 0 rfl rfl rfl (by kernel_rfl) rfl rfl 0 rfl ?_
   intro w732 hst
   refine OW.nil rfl (QW.block_normal (QW.next (CW.region ?_)))
   refine pu 2 [(47, I (w64 ((i699 : Int) + 1)))] (OW.nil rfl ?_)
   have hst := hst.toIt 1 rfl (fun _ => rfl) (by decide)
   obtain ⟨S733, hst⟩ := hst.shutP1 R_t106 rfl 0 1 [] rfl rfl rfl (epoch_Clock.mk s697.now (s697.in_.set (Int.toNat x708) 0)) rfl rfl
   refine QW.say 47 rfl (congrArg (Value.int .i64) (w64_cnt hc701 l1)) ?_
   exact QW.meet (fun a ha => ⟨n695, Nat.lt_succ_self _, i699 + 1, (epoch_Clock.mk s697.now (s697.in_.set (Int.toNat x708) 0)), S733, cnt_next hi700, ha.ag, hst.keep [0] rfl, hl696⟩)
  rcases n695 with _ | n695
  ·refine CW.cond_f rfl hc701 ?_
   refine CW.exit (QW.then_exit (QW.then_exit ?_))
   refine QW.block_here ?_
   obtain rfl := inj hl696
   exact QW.meet (fun a ha => ⟨S698, ha.ag, hst.keep [0] rfl⟩)
  exact (cnt1 hi700 hc701).elim
 rintro a w1 ⟨S623, ha, hst⟩
 refine CW.go ?_ ha
 refine rg ?_
 refine pu 1 [(4, I 0)] (nx (CW.ret ?_))
 obtain rfl := inj hF
 refine QW.ret1 rfl rfl ?_
 exact ⟨S623, rfl, hst.keep [0] rfl⟩
theorem hooks_Table_Swap_ok (w : World) (v0 : Value) (S0 : List Nat) (p0 : hooks_Table) (p1 : Int) (p2 : Int) (r : Int × Int × hooks_Table) (hF : hooks_Table_Swap p0 p1 p2 = some r)
    (hst : St w (fp [itI R_t53 [v0] S0 p0]) w [itI R_t53 [v0] S0 p0]) :
    Calls Tryz.prog 83 [v0, I p1, I p2].toArray w (fun e w' => ∃ (s0 : List Nat), e = .returned (.tuple #[I r.1, I r.2.1]) ∧ St w (fp [itI R_t53 [v0] S0 p0]) w' [itI R_t53 [v0] s0 r.2.2]) := by
 refine CW.start (N := 24) Tryz.func83 rfl rfl rfl ?_
 obtain ⟨b1, rfl⟩ := hst.fptr 0 rfl
 refine rg ?_
 refine pu 2 [] (nx (CW.seq (CW.block (rg ?_))))
 refine pu 2 [(9, Pt b1), (10, I p1)] ?_
 obtain ⟨r7, hr8, hF⟩ := bs hF
 refine OW.fn rfl rfl rfl rfl (by kernel_rfl) (hooks_Table_known_ok _ (Pt b1) S0 p0 p1 r7 hr8 (hst.part [0] rfl)) ?_
 rintro e w9 ⟨S11, rfl, hst10⟩
 refine ⟨_, rfl, ?_⟩
 have hst := hst.join (idx := [0]) (rest := []) rfl hst10
 refine pu 2 [(8, .bool (!r7))] (nx ?_)
 refine br ((!r7)) hF (fun hF hc12 => ?_) (fun hF hc12 => ?_)
 ·refine rg ?_
  refine pu 2 [(6, I 0), (7, I 2)] (nx (CW.ret (QW.block_ret (QW.then_ret ?_))))
  obtain rfl := inj hF
  refine QW.ret2 rfl rfl rfl ?_
  exact ⟨S11, rfl, hst.keep [0] rfl⟩
 refine rg ?_
 refine pu 2 [(14, Pt b1), (15, I p1)] ?_
 obtain ⟨r18, hr19, hF⟩ := bs hF
 refine OW.fn rfl rfl rfl rfl (by kernel_rfl) (hooks_Table_taken_ok _ (Pt b1) S11 p0 p1 r18 hr19 (hst.part [0] rfl)) ?_
 rintro e w20 ⟨S22, rfl, hst21⟩
 refine ⟨_, rfl, ?_⟩
 have hst := hst.join (idx := [0]) (rest := []) rfl hst21
 refine pu 2 [(13, .bool (!r18))] (nx ?_)
 refine br ((!r18)) hF (fun hF hc23 => ?_) (fun hF hc23 => ?_)
 ·refine rg ?_
  refine pu 2 [(6, I 0), (7, I 41)] (nx (CW.ret (QW.block_ret (QW.then_ret ?_))))
  obtain rfl := inj hF
  refine QW.ret2 rfl rfl rfl ?_
  exact ⟨S22, rfl, hst.keep [0] rfl⟩
 refine CW.skip (QW.block_normal (QW.next (rg ?_)))
 refine pu 3 [(18, Pt b1), (19, I p1), (20, I p2)] ?_
 obtain ⟨r29, hr30, hF⟩ := bs hF
 refine OW.fn rfl rfl rfl rfl (by kernel_rfl) (hooks_Table_publish_ok _ (Pt b1) S22 p0 p1 p2 r29 hr30 (hst.part [0] rfl)) ?_
 rintro e w31 ⟨S33, rfl, hst32⟩
 refine ⟨_, rfl, ?_⟩
 have hst := hst.join (idx := [0]) (rest := []) rfl hst32
 refine pu 4 [(6, I r29.1), (7, I r29.2.1)] (nx (CW.ret ?_))
 obtain rfl := inj hF
 refine QW.ret2 rfl rfl rfl ?_
 exact ⟨S33, rfl, hst.keep [0] rfl⟩
theorem registry_Registry_Swap_ok (w : World) (v0 : Value) (S0 : List Nat) (p0 : registry_Registry) (p1 : Int) (p2 : Int) (r : Int × Int × registry_Registry) (hF : registry_Registry_Swap p0 p1 p2 = some r)
    (hst : St w (fp [itI R_t24 [v0] S0 p0]) w [itI R_t24 [v0] S0 p0]) :
    Calls Tryz.prog 50 [v0, I p1, I p2].toArray w (fun e w' => ∃ (s0 : List Nat), e = .returned (.tuple #[I r.1, I r.2.1]) ∧ St w (fp [itI R_t24 [v0] S0 p0]) w' [itI R_t24 [v0] s0 r.2.2]) := by
 refine CW.start (N := 19) Tryz.func50 rfl rfl rfl ?_
 obtain ⟨b1, rfl⟩ := hst.fptr 0 rfl
 refine rg ?_
 refine pu 2 [] (nx (CW.seq ?_))
 obtain ⟨v2, S3, v4, S5, v6, S7, v8, S9, v10, S11, hst⟩ := hst.openQ5 0 rfl rfl rfl rfl rfl rfl
 obtain ⟨r12, rfl, hst⟩ := hst.toMN1 4 rfl
 have hst := hst.toRow1 5 rfl
 obtain ⟨b13, rfl⟩ := hst.fptr 1 rfl
 obtain ⟨b14, rfl⟩ := hst.fptr 2 rfl
 obtain ⟨b15, rfl⟩ := hst.fptr 3 rfl
 obtain ⟨l16, a17, c18, rfl⟩ := hst.len 5 rfl
 have hst : St _ _ _ [blkI b1 58 [Pt b13, Pt b14, Pt b15, I p0.hooks, I p0.maps, I p0.given, .map (some r12), .slice a17 (p0.waiting).length c18], _, _, _, _, _] := hst
 refine CW.region ?_
 refine pu 6 [(8, Pt b1), (9, I p1), (10, I p2), (13, Pt b1)] ?_
 refine OW.ld rfl rfl rfl rfl (by kernel_rfl) (hst.blk 0 rfl rfl) ?_
 refine pu 1 [(15, .func (.func 83) #[Pt b13] #[])] ?_
 refine OW.inl (args := [Pt b1, I p1, I p2, .func (.func 83) #[Pt b13] #[]]) (M := 32) rfl rfl rfl rfl (by kernel_rfl) Tryz.func54 rfl rfl rfl (rg ?_)
 refine pu 2 [] (nx (CW.seq (CW.block (rg ?_))))
 refine pu 3 [(13, .bool (decide (p1 < 0)))] ?_
 refine OW.split 13 rfl (fun hc72 => ?_) (fun hc72 => ?_)
 ·have hF := ite_t hF hc72
  refine pu 8 [(10, .bool true)] (nx (CW.cond_t rfl rfl (rg ?_)))
  refine pu 2 [(8, I 0), (9, I 2)] (nx (CW.ret (QW.block_ret (QW.then_ret ?_))))
  refine QW.ret2 rfl rfl rfl ?_
  refine ⟨_, rfl, ?_⟩
  refine pu 4 [(6, I 0), (7, I 2)] (nx (CW.ret ?_))
  have hst := hst.ofMN 4 rfl
  have hst := hst.toIt 5 rfl (fun _ => rfl) (by decide)
  obtain ⟨S73, hst⟩ := hst.shutP5 R_t58 rfl 0 1 2 3 4 5 [] rfl rfl rfl rfl rfl rfl rfl p0 rfl rfl
  obtain rfl := inj hF
  refine QW.ret2 rfl rfl rfl ?_
  exact ⟨S73, rfl, hst.keep [0] rfl⟩
 have hF := ite_f hF hc72
 refine pu 4 [(14, I p1), (17, .pointer (some ⟨b1, 3, none⟩))] ?_
 refine OW.ld rfl rfl rfl rfl (by kernel_rfl) (hst.blk 0 rfl rfl) ?_
 refine pu 3 [(10, .bool (decide (p1 ≥ p0.hooks)))] (nx ?_)
 refine br (decide (p1 ≥ p0.hooks)) hF (fun hF hc74 => ?_) (fun hF hc74 => ?_)
 ·refine rg ?_
  refine pu 2 [(8, I 0), (9, I 2)] (nx (CW.ret (QW.block_ret (QW.then_ret ?_))))
  refine QW.ret2 rfl rfl rfl ?_
  refine ⟨_, rfl, ?_⟩
  refine pu 4 [(6, I 0), (7, I 2)] (nx (CW.ret ?_))
  have hst := hst.ofMN 4 rfl
  have hst := hst.toIt 5 rfl (fun _ => rfl) (by decide)
  obtain ⟨S75, hst⟩ := hst.shutP5 R_t58 rfl 0 1 2 3 4 5 [] rfl rfl rfl rfl rfl rfl rfl p0 rfl rfl
  obtain rfl := inj hF
  refine QW.ret2 rfl rfl rfl ?_
  exact ⟨S75, rfl, hst.keep [0] rfl⟩
 refine rg ?_
 refine pu 2 [(22, Pt b1), (23, I p2)] ?_
 refine OW.inl (args := [Pt b1, I p2]) (M := 24) rfl rfl rfl rfl (by kernel_rfl) Tryz.func86 rfl rfl rfl (rg ?_)
 refine pu 1 [] (nx (rg ?_))
 refine pu 3 [(10, .pointer (some ⟨b1, 6, none⟩))] ?_
 refine OW.ld rfl rfl rfl rfl (by kernel_rfl) (hst.blk 0 rfl rfl) ?_
 refine pu 1 [(12, I p2)] ?_
 refine OW.mlook (tk := 3) (te := 95) (kd := .i64) (optP 97 R_t97) (fun o => o) hst 4 rfl rfl rfl rfl rfl rfl (by kernel_rfl) (by kernel_rfl) (.pointer none) (by kernel_rfl) (fun _ => ⟨rfl, rfl⟩) (fun _ _ _ _ h => h) (fun _ _ _ _ h => h) ?_
 intro v99 S100 S101 hst
 refine pu 5 [(5, v99), (6, .bool (mget p0.progs p2).isSome)] (nx (rg ?_))
 refine pu 2 [(17, .bool (mget p0.progs p2).isSome)] ?_
 refine OW.split 17 rfl (fun hc102 => ?_) (fun hc102 => ?_)
 ·have hF := ite_t hF hc102
  refine pu 1 [(18, v99)] ?_
  obtain ⟨y103, hy104, hF⟩ := bs hF
  have hst := hst.optSome 6 rfl hy104
  obtain ⟨b105, rfl⟩ := hst.fptr 6 rfl
  obtain ⟨v106, S107, v108, S109, hst⟩ := hst.openQ2 6 rfl rfl rfl
  have hst := hst.toRow1 7 rfl
  have hst := hst.toRow1 8 rfl
  obtain ⟨l110, a111, c112, rfl⟩ := hst.len 7 rfl
  obtain ⟨l113, a114, c115, rfl⟩ := hst.len 8 rfl
  have hst : St _ _ _ [_, _, _, _, _, _, blkI b105 97 [.slice a111 (y103.module.Maps).length c112, .slice a114 (y103.module.Code).length c115, I y103.retiring], _, _] := hst
  refine pu 2 [(20, .pointer (some ⟨b105, 2, none⟩))] ?_
  refine OW.ld rfl rfl rfl rfl (by kernel_rfl) (hst.blk 6 rfl rfl) ?_
  refine pu 3 [(4, .bool (y103.retiring == 0))] (nx (CW.ret ?_))
  refine QW.ret1 rfl rfl ?_
  refine ⟨_, rfl, ?_⟩
  refine pu 2 [(21, .bool (!(y103.retiring == 0)))] (nx ?_)
  refine br ((!(y103.retiring == 0))) hF (fun hF hc116 => ?_) (fun hF hc116 => ?_)
  ·refine rg ?_
   refine pu 2 [(8, I 0), (9, I 41)] (nx (CW.ret (QW.block_ret (QW.then_ret ?_))))
   refine QW.ret2 rfl rfl rfl ?_
   refine ⟨_, rfl, ?_⟩
   refine pu 4 [(6, I 0), (7, I 41)] (nx (CW.ret ?_))
   have hst := hst.toIt 7 rfl (fun _ => rfl) (by decide)
   have hst := hst.toIt 8 rfl (fun _ => rfl) (by decide)
   obtain ⟨S117, hst⟩ := hst.shutP2 R_t97 rfl 6 7 8 [0, 1, 2, 3, 4, 5] rfl rfl rfl rfl y103 rfl rfl
   have hst := hst.toOpt 6 rfl
   obtain ⟨S118, hst⟩ := hst.mback (f := (fun o => o)) 4 6 rfl rfl rfl (fun _ _ _ _ h => h) y103 (fun _ => rfl)
   rw [mset_self hy104] at hst
   have hst := hst.keep [0, 1, 2, 3, 4, 5] rfl
   have hst := hst.ofMN 4 rfl
   have hst := hst.toIt 5 rfl (fun _ => rfl) (by decide)
   obtain ⟨S119, hst⟩ := hst.shutP5 R_t58 rfl 0 1 2 3 4 5 [] rfl rfl rfl rfl rfl rfl rfl p0 rfl rfl
   obtain rfl := inj hF
   refine QW.ret2 rfl rfl rfl ?_
   exact ⟨S119, rfl, hst.keep [0] rfl⟩
  refine CW.skip (QW.block_normal (QW.next (rg ?_)))
  refine pu 3 [(26, .func (.func 83) #[Pt b13] #[]), (27, I p1), (28, I p2)] ?_
  obtain ⟨r125, hr126, hF⟩ := bs hF
  refine OW.fn rfl rfl rfl rfl (by kernel_rfl) (hooks_Table_Swap_ok _ (Pt b13) S3 p0.Table p1 p2 r125 hr126 (hst.part [1] rfl)) ?_
  rintro e w127 ⟨S129, rfl, hst128⟩
  refine ⟨_, rfl, ?_⟩
  have hst := hst.join (idx := [1]) (rest := [0, 2, 3, 4, 5, 6, 7, 8]) rfl hst128
  refine pu 4 [(8, I r125.1), (9, I r125.2.1)] (nx (CW.ret ?_))
  refine QW.ret2 rfl rfl rfl ?_
  refine ⟨_, rfl, ?_⟩
  refine pu 4 [(6, I r125.1), (7, I r125.2.1)] (nx (CW.ret ?_))
  have hst := hst.toIt 7 rfl (fun _ => rfl) (by decide)
  have hst := hst.toIt 8 rfl (fun _ => rfl) (by decide)
  obtain ⟨S130, hst⟩ := hst.shutP2 R_t97 rfl 6 7 8 [0, 1, 2, 3, 4, 5] rfl rfl rfl rfl y103 rfl rfl
  have hst := hst.toOpt 6 rfl
  obtain ⟨S131, hst⟩ := hst.mback (f := (fun o => o)) 4 6 rfl rfl rfl (fun _ _ _ _ h => h) y103 (fun _ => rfl)
  rw [mset_self hy104] at hst
  have hst := hst.keep [0, 1, 2, 3, 4, 5] rfl
  have hst := hst.ofMN 4 rfl
  have hst := hst.toIt 5 rfl (fun _ => rfl) (by decide)
  obtain ⟨S132, hst⟩ := hst.shutP5 R_t58 rfl 1 0 2 3 4 5 [] rfl rfl rfl rfl rfl rfl rfl (registry_Registry.mk r125.2.2 p0.Refs p0.Clock p0.hooks p0.maps p0.given p0.progs p0.waiting) rfl rfl
  obtain rfl := inj hF
  refine QW.ret2 rfl rfl rfl ?_
  exact ⟨S132, rfl, hst.keep [0] rfl⟩
 have hF := ite_f hF hc102
 refine pu 7 [(4, .bool false)] (nx (CW.ret ?_))
 refine QW.ret1 rfl rfl ?_
 refine ⟨_, rfl, ?_⟩
 refine pu 2 [(21, .bool true)] (nx (CW.cond_t rfl rfl (rg ?_)))
 refine pu 2 [(8, I 0), (9, I 41)] (nx (CW.ret (QW.block_ret (QW.then_ret ?_))))
 refine QW.ret2 rfl rfl rfl ?_
 refine ⟨_, rfl, ?_⟩
 refine pu 4 [(6, I 0), (7, I 41)] (nx (CW.ret ?_))
 obtain ⟨S133, hst⟩ := hst.mback0 (f := (fun o => o)) 4 6 rfl rfl rfl (fun _ _ _ _ h => h)
 have hst := hst.keep [0, 1, 2, 3, 4, 5] rfl
 have hst := hst.ofMN 4 rfl
 have hst := hst.toIt 5 rfl (fun _ => rfl) (by decide)
 obtain ⟨S134, hst⟩ := hst.shutP5 R_t58 rfl 0 1 2 3 4 5 [] rfl rfl rfl rfl rfl rfl rfl p0 rfl rfl
 obtain rfl := inj hF
 refine QW.ret2 rfl rfl rfl ?_
 exact ⟨S134, rfl, hst.keep [0] rfl⟩
theorem hooks_Table_Detach_ok (w : World) (v0 : Value) (S0 : List Nat) (p0 : hooks_Table) (v1 : Value) (p1 : List Int) (r : Int × hooks_Table) (hF : hooks_Table_Detach p0 p1 = some r)
    (hst : St w (fp [itI R_t53 [v0] S0 p0]) w [itI R_t53 [v0] S0 p0]) (h1 : Rd w (fp [itI R_t53 [v0] S0 p0]) v1 (encInt .i64) 1 p1) :
    Calls Tryz.prog 51 [v0, v1].toArray w (fun e w' => ∃ (s0 : List Nat), e = .returned (I r.1) ∧ St w (fp [itI R_t53 [v0] S0 p0]) w' [itI R_t53 [v0] s0 r.2]) := by
 refine CW.start (N := 55) Tryz.func51 rfl rfl rfl ?_
 obtain ⟨l1, a2, c3, rfl⟩ := h1.len
 obtain ⟨b4, rfl⟩ := hst.fptr 0 rfl
 refine rg ?_
 refine pu 1 [] (nx (CW.seq (rg ?_)))
 refine pu 3 [(11, .slice a2 (p1).length c3), (12, I ((p1).length : Int)), (13, I 0)] (nx ?_)
 obtain ⟨o159, ho160, hF⟩ := bs hF
 refine CW.cutK (fun a w1 => ∃ (t161 : Unit) (S158 : List Nat), o159 = .inl t161 ∧ Rep 55 [(0, Pt b4), (1, .slice a2 (p1).length c3)] a ∧ St w (fp [itI R_t53 [Pt b4] S0 p0]) w1 [itI R_t53 [Pt b4] S158 p0]) ?_ ?_
 ·refine CW.block ?_
  refine CW.loop (fun n a w1 => ∃ (i265 : Nat) (s263 : Unit) (S264 : List Nat), i265 + n = (p1).length ∧ Rep 55 [(0, Pt b4), (1, .slice a2 (p1).length c3), (11, .slice a2 (p1).length c3), (12, I ((p1).length : Int)), (13, I (i265 : Int))] a ∧ St w (fp [itI R_t53 [Pt b4] S0 p0]) w1 [itI R_t53 [Pt b4] S264 p0] ∧ forN (hooks_Table_Detach_l1 p0 p1) (fun (s263 : Unit) => (.inl ())) n i265 s263 = some o159) (p1).length (fun a ha => ⟨0, (), S0, Nat.zero_add _, ha.ag, hst.keep [0] rfl, ho160⟩) ?_
  rintro n261 a w1 ⟨i265, s263, S264, hi266, ha, hst, hl262⟩
  refine CW.go ?_ ha
  refine rg ?_
  refine pu 1 [(14, .bool (decide ((i265 : Int) < ((p1).length : Int))))] (nx (CW.seq ?_))
  rcases bft (decide ((i265 : Int) < ((p1).length : Int))) with hc267 | hc267
  ·rcases n261 with _ | n261
   ·exact (cnt0 hi266 hc267).elim
   refine CW.cond_t rfl hc267 (CW.skip (QW.next (CW.seq (CW.block (rg ?_)))))
   refine pu 1 [(15, I (i265 : Int))] ?_
   obtain ⟨x274, hx275, hl262⟩ := bs hl262
   obtain ⟨g277, o278, c279, hv276⟩ := h1.formv (fun _ => ⟨_, rfl⟩) hx275
   refine OW.idx 3 1 rfl rfl rfl rfl hv276 rfl (idx_some hx275).1 (idx_some hx275).2.1 (by kernel_rfl) (by kernel_rfl) ?_
   refine OW.ld rfl rfl rfl rfl (by kernel_rfl) (h1.cellv hst hx275 hv276 0 _ rfl) ?_
   refine pu 2 [(5, I (i265 : Int)), (6, I x274)] (nx (CW.seq ?_))
   obtain ⟨o299, ho300, hl262⟩ := bs hl262
   refine CW.cutK (fun a w1 => ∃ (S298 : List Nat), Rep 55 [(0, Pt b4), (1, .slice a2 (p1).length c3), (11, .slice a2 (p1).length c3), (12, I ((p1).length : Int)), (13, I (i265 : Int)), (28, .bool o299)] a ∧ St w (fp [itI R_t53 [Pt b4] S0 p0]) w1 [itI R_t53 [Pt b4] S298 p0]) ?_ ?_
   ·refine CW.region ?_
    refine pu 2 [(18, Pt b4), (19, I x274)] ?_
    obtain ⟨r301, hr302, ho300⟩ := bs ho300
    refine OW.fn rfl rfl rfl rfl (by kernel_rfl) (hooks_Table_known_ok _ (Pt b4) S264 p0 x274 r301 hr302 (hst.part [0] rfl)) ?_
    rintro e w303 ⟨S305, rfl, hst304⟩
    refine ⟨_, rfl, ?_⟩
    have hst := hst.join (idx := [0]) (rest := []) rfl hst304
    refine pu 2 [(22, .bool (!r301))] ?_
    refine OW.split 22 rfl (fun hc306 => ?_) (fun hc306 => ?_)
    ·have ho300 := ite_t ho300 hc306
     refine pu 6 [(28, .bool true)] (OW.nil rfl ?_)
     obtain rfl := inj ho300
     exact QW.meet (fun a ha => ⟨S305, ha.ag, hst.keep [0] rfl⟩)
    have ho300 := ite_f ho300 hc306
    refine pu 2 [(23, .slice a2 (p1).length c3), (24, I (i265 : Int))] ?_
    obtain ⟨ys307, hcut308, ho300⟩ := bs ho300
    refine OW.op (v := .slice a2 (ys307).length c3) rfl rfl rfl rfl (fun a ha => pre_run (e := 3) 1 rfl rfl rfl hcut308 h1.cap (by kernel_rfl) (by kernel_rfl) a _ ha) ?_
    have hp309 := h1.pre hcut308
    refine pu 1 [(26, I x274)] ?_
    obtain ⟨r310, hr311, ho300⟩ := bs ho300
    refine OW.fn rfl rfl rfl rfl (by kernel_rfl) (slices_Contains_int_int_ok _ (.slice a2 (ys307).length c3) ys307 x274 r310 hr311 (hst.part [] rfl) (hp309.give hst [])) ?_
    rintro e w312 ⟨rfl, hst313⟩
    refine ⟨_, rfl, ?_⟩
    have hst := hst.join (idx := []) (rest := [0]) rfl hst313
    refine pu 1 [(28, .bool r310)] (OW.nil rfl ?_)
    obtain rfl := inj ho300
    exact QW.meet (fun a ha => ⟨S305, ha.ag, hst.keep [0] rfl⟩)
   rintro a w1 ⟨S298, ha, hst⟩
   refine CW.go ?_ ha
   refine br (o299) hl262 (fun hl262 hc314 => ?_) (fun hl262 hc314 => ?_)
   ·refine rg ?_
    refine pu 1 [(4, I 2)] (nx (CW.ret (QW.block_ret (QW.then_ret (QW.then_ret (QW.block_ret (QW.then_ret ?_)))))))
    obtain rfl := inj hl262
    obtain rfl := inj hF
    refine QW.ret1 rfl rfl ?_
    exact ⟨S298, rfl, hst.keep [0] rfl⟩
   refine CW.skip (QW.block_normal (QW.next (CW.region ?_)))
   refine pu 2 [(13, I (w64 ((i265 : Int) + 1)))] (OW.nil rfl ?_)
   refine QW.say 13 rfl (congrArg (Value.int .i64) (w64_cnt hc267 l1)) ?_
   exact QW.meet (fun a ha => ⟨n261, Nat.lt_succ_self _, i265 + 1, (), S298, cnt_next hi266, ha.ag, hst.keep [0] rfl, hl262⟩)
  rcases n261 with _ | n261
  ·refine CW.cond_f rfl hc267 ?_
   refine CW.exit (QW.then_exit (QW.then_exit ?_))
   refine QW.block_here ?_
   obtain rfl := inj hl262
   exact QW.meet (fun a ha => ⟨(), S264, rfl, ha.ag, hst.keep [0] rfl⟩)
  exact (cnt1 hi266 hc267).elim
 rintro a w1 ⟨t161, S158, rfl, ha, hst⟩
 refine CW.go ?_ ha
 refine CW.seq (rg ?_)
 refine pu 3 [(30, .slice a2 (p1).length c3), (31, I ((p1).length : Int)), (32, I 0)] (nx ?_)
 obtain ⟨o397, ho398, hF⟩ := bs hF
 refine CW.cutK (fun a w1 => ∃ (t399 : Unit) (S396 : List Nat), o397 = .inl t399 ∧ Rep 55 [(0, Pt b4), (1, .slice a2 (p1).length c3)] a ∧ St w (fp [itI R_t53 [Pt b4] S0 p0]) w1 [itI R_t53 [Pt b4] S396 p0]) ?_ ?_
 ·refine CW.block ?_
  refine CW.loop (fun n a w1 => ∃ (i455 : Nat) (s453 : Unit) (S454 : List Nat), i455 + n = (p1).length ∧ Rep 55 [(0, Pt b4), (1, .slice a2 (p1).length c3), (30, .slice a2 (p1).length c3), (31, I ((p1).length : Int)), (32, I (i455 : Int))] a ∧ St w (fp [itI R_t53 [Pt b4] S0 p0]) w1 [itI R_t53 [Pt b4] S454 p0] ∧ forN (hooks_Table_Detach_l2 p0 p1) (fun (s453 : Unit) => (.inl ())) n i455 s453 = some o397) (p1).length (fun a ha => ⟨0, (), S158, Nat.zero_add _, ha.ag, hst.keep [0] rfl, ho398⟩) ?_
  rintro n451 a w1 ⟨i455, s453, S454, hi456, ha, hst, hl452⟩
  refine CW.go ?_ ha
  refine rg ?_
  refine pu 1 [(33, .bool (decide ((i455 : Int) < ((p1).length : Int))))] (nx (CW.seq ?_))
  rcases bft (decide ((i455 : Int) < ((p1).length : Int))) with hc457 | hc457
  ·rcases n451 with _ | n451
   ·exact (cnt0 hi456 hc457).elim
   refine CW.cond_t rfl hc457 (CW.skip (QW.next (CW.seq (CW.block (rg ?_)))))
   obtain ⟨x464, hx465, hl452⟩ := bs hl452
   obtain ⟨g467, o468, c469, hv466⟩ := h1.formv (fun _ => ⟨_, rfl⟩) hx465
   refine OW.idx 3 1 rfl rfl rfl rfl hv466 rfl (idx_some hx465).1 (idx_some hx465).2.1 (by kernel_rfl) (by kernel_rfl) ?_
   refine OW.ld rfl rfl rfl rfl (by kernel_rfl) (h1.cellv hst hx465 hv466 0 _ rfl) ?_
   refine pu 1 [(8, I x464)] (nx (rg ?_))
   refine pu 2 [(36, Pt b4), (37, I x464)] ?_
   obtain ⟨r475, hr476, hl452⟩ := bs hl452
   refine OW.fn rfl rfl rfl rfl (by kernel_rfl) (hooks_Table_taken_ok _ (Pt b4) S454 p0 x464 r475 hr476 (hst.part [0] rfl)) ?_
   rintro e w477 ⟨S479, rfl, hst478⟩
   refine ⟨_, rfl, ?_⟩
   have hst := hst.join (idx := [0]) (rest := []) rfl hst478
   refine pu 1 [(39, .bool (!r475))] (nx ?_)
   refine br ((!r475)) hl452 (fun hl452 hc480 => ?_) (fun hl452 hc480 => ?_)
   ·refine rg ?_
    refine pu 1 [(4, I 41)] (nx (CW.ret (QW.block_ret (QW.then_ret (QW.then_ret (QW.block_ret (QW.then_ret ?_)))))))
    obtain rfl := inj hl452
    obtain rfl := inj hF
    refine QW.ret1 rfl rfl ?_
    exact ⟨S479, rfl, hst.keep [0] rfl⟩
   refine CW.skip (QW.block_normal (QW.next (CW.region ?_)))
   refine pu 2 [(32, I (w64 ((i455 : Int) + 1)))] (OW.nil rfl ?_)
   refine QW.say 32 rfl (congrArg (Value.int .i64) (w64_cnt hc457 l1)) ?_
   exact QW.meet (fun a ha => ⟨n451, Nat.lt_succ_self _, i455 + 1, (), S479, cnt_next hi456, ha.ag, hst.keep [0] rfl, hl452⟩)
  rcases n451 with _ | n451
  ·refine CW.cond_f rfl hc457 ?_
   refine CW.exit (QW.then_exit (QW.then_exit ?_))
   refine QW.block_here ?_
   obtain rfl := inj hl452
   exact QW.meet (fun a ha => ⟨(), S454, rfl, ha.ag, hst.keep [0] rfl⟩)
  exact (cnt1 hi456 hc457).elim
 rintro a w1 ⟨t399, S396, rfl, ha, hst⟩
 refine CW.go ?_ ha
 refine CW.seq (rg ?_)
 refine pu 3 [(41, .slice a2 (p1).length c3), (42, I ((p1).length : Int)), (43, I 0)] (nx ?_)
 obtain ⟨o590, ho591, hF⟩ := bs hF
 refine CW.cutK (fun a w1 => ∃ (S589 : List Nat), Rep 55 [] a ∧ St w (fp [itI R_t53 [Pt b4] S0 p0]) w1 [itI R_t53 [Pt b4] S589 o590]) ?_ ?_
 ·refine CW.block ?_
  refine CW.loop (fun n a w1 => ∃ (i665 : Nat) (s663 : hooks_Table) (S664 : List Nat), i665 + n = (p1).length ∧ Rep 55 [(0, Pt b4), (41, .slice a2 (p1).length c3), (42, I ((p1).length : Int)), (43, I (i665 : Int))] a ∧ St w (fp [itI R_t53 [Pt b4] S0 p0]) w1 [itI R_t53 [Pt b4] S664 s663] ∧ forN (hooks_Table_Detach_l3 p1) (fun (s663 : hooks_Table) => s663) n i665 s663 = some o590) (p1).length (fun a ha => ⟨0, p0, S396, Nat.zero_add _, ha.ag, hst.keep [0] rfl, ho591⟩) ?_
  rintro n661 a w1 ⟨i665, s663, S664, hi666, ha, hst, hl662⟩
  refine CW.go ?_ ha
  refine rg ?_
  refine pu 1 [(44, .bool (decide ((i665 : Int) < ((p1).length : Int))))] (nx (CW.seq ?_))
  rcases bft (decide ((i665 : Int) < ((p1).length : Int))) with hc667 | hc667
  ·rcases n661 with _ | n661
   ·exact (cnt0 hi666 hc667).elim
   refine CW.cond_t rfl hc667 (CW.skip (QW.next (CW.seq (CW.block (rg ?_)))))
   obtain ⟨x674, hx675, hl662⟩ := bs hl662
   obtain ⟨g677, o678, c679, hv676⟩ := h1.formv (fun _ => ⟨_, rfl⟩) hx675
   refine OW.idx 3 1 rfl rfl rfl rfl hv676 rfl (idx_some hx675).1 (idx_some hx675).2.1 (by kernel_rfl) (by kernel_rfl) ?_
   refine OW.ld rfl rfl rfl rfl (by kernel_rfl) (h1.cellv hst hx675 hv676 0 _ rfl) ?_
   refine pu 1 [(10, I x674)] (nx ?_)
   obtain ⟨v680, S681, hst⟩ := hst.openQ1 0 rfl rfl
   have hst := hst.toRow1 1 rfl
   obtain ⟨l682, a683, c684, rfl⟩ := hst.len 1 rfl
   have hst : St _ _ _ [blkI b4 69 [I s663.Versions.last, .slice a683 (s663.hooks).length c684], _] := hst
   refine CW.region ?_
   refine pu 3 [(49, .pointer (some ⟨b4, 1, none⟩))] ?_
   refine OW.ld rfl rfl rfl rfl (by kernel_rfl) (hst.blk 0 rfl rfl) ?_
   refine pu 2 [(51, I x674), (52, .agg [I 0, I 0].toArray)] ?_
   obtain ⟨x692, hx693, hl662⟩ := bs hl662
   obtain ⟨g695, o696, c697, hv694⟩ := hst.rowv 1 rfl hx693
   refine OW.idx 165 2 rfl rfl rfl rfl hv694 rfl (idx_some hx693).1 (idx_some hx693).2.1 (by kernel_rfl) (by kernel_rfl) ?_
   refine OW.stR hst 1 rfl hv694 (fun _ => rfl) rfl rfl hx693 0 rfl rfl rfl (by kernel_rfl) rfl rfl (hooks_published.mk 0 0) rfl ?_
   intro w698 hst
   refine OW.nil rfl (QW.block_normal (QW.next (CW.region ?_)))
   refine pu 2 [(43, I (w64 ((i665 : Int) + 1)))] (OW.nil rfl ?_)
   have hst := hst.toIt 1 rfl (fun _ => rfl) (by decide)
   obtain ⟨S699, hst⟩ := hst.shutP1 R_t69 rfl 0 1 [] rfl rfl rfl (hooks_Table.mk s663.Versions (s663.hooks.set (Int.toNat x674) (hooks_published.mk 0 0))) rfl rfl
   refine QW.say 43 rfl (congrArg (Value.int .i64) (w64_cnt hc667 l1)) ?_
   exact QW.meet (fun a ha => ⟨n661, Nat.lt_succ_self _, i665 + 1, (hooks_Table.mk s663.Versions (s663.hooks.set (Int.toNat x674) (hooks_published.mk 0 0))), S699, cnt_next hi666, ha.ag, hst.keep [0] rfl, hl662⟩)
  rcases n661 with _ | n661
  ·refine CW.cond_f rfl hc667 ?_
   refine CW.exit (QW.then_exit (QW.then_exit ?_))
   refine QW.block_here ?_
   obtain rfl := inj hl662
   exact QW.meet (fun a ha => ⟨S664, ha.ag, hst.keep [0] rfl⟩)
  exact (cnt1 hi666 hc667).elim
 rintro a w1 ⟨S589, ha, hst⟩
 refine CW.go ?_ ha
 refine rg ?_
 refine pu 1 [(4, I 0)] (nx (CW.ret ?_))
 obtain rfl := inj hF
 refine QW.ret1 rfl rfl ?_
 exact ⟨S589, rfl, hst.keep [0] rfl⟩
theorem epoch_Clock_Enter_ok (w : World) (v0 : Value) (S0 : List Nat) (p0 : epoch_Clock) (p1 : Int) (r : Int × Int × epoch_Clock) (hF : epoch_Clock_Enter p0 p1 = some r)
    (hst : St w (fp [itI R_t55 [v0] S0 p0]) w [itI R_t55 [v0] S0 p0]) :
    Calls Tryz.prog 52 [v0, I p1].toArray w (fun e w' => ∃ (s0 : List Nat), e = .returned (.tuple #[I r.1, I r.2.1]) ∧ St w (fp [itI R_t55 [v0] S0 p0]) w' [itI R_t55 [v0] s0 r.2.2]) := by
 refine CW.start (N := 34) Tryz.func52 rfl rfl rfl ?_
 obtain ⟨b1, rfl⟩ := hst.fptr 0 rfl
 refine rg ?_
 refine pu 2 [] (nx (CW.seq (CW.block (rg ?_))))
 refine pu 2 [(7, Pt b1), (8, I p1)] ?_
 obtain ⟨r7, hr8, hF⟩ := bs hF
 refine OW.fn rfl rfl rfl rfl (by kernel_rfl) (epoch_Clock_known_ok _ (Pt b1) S0 p0 p1 r7 hr8 (hst.part [0] rfl)) ?_
 rintro e w9 ⟨S11, rfl, hst10⟩
 refine ⟨_, rfl, ?_⟩
 have hst := hst.join (idx := [0]) (rest := []) rfl hst10
 refine pu 2 [(6, .bool (!r7))] (nx ?_)
 refine br ((!r7)) hF (fun hF hc12 => ?_) (fun hF hc12 => ?_)
 ·refine rg ?_
  refine pu 2 [(4, I 0), (5, I 2)] (nx (CW.ret (QW.block_ret (QW.then_ret ?_))))
  obtain rfl := inj hF
  refine QW.ret2 rfl rfl rfl ?_
  exact ⟨S11, rfl, hst.keep [0] rfl⟩
 refine CW.seq ?_
 obtain ⟨v13, S14, hst⟩ := hst.openQ1 0 rfl rfl
 have hst := hst.toRow1 1 rfl
 obtain ⟨l15, a16, c17, rfl⟩ := hst.len 1 rfl
 have hst : St _ _ _ [blkI b1 106 [I p0.now, .slice a16 (p0.in_).length c17], _] := hst
 refine CW.region ?_
 refine pu 3 [(14, .pointer (some ⟨b1, 1, none⟩))] ?_
 refine OW.ld rfl rfl rfl rfl (by kernel_rfl) (hst.blk 0 rfl rfl) ?_
 refine pu 1 [(16, I p1)] ?_
 obtain ⟨x24, hx25, hF⟩ := bs hF
 obtain ⟨g27, o28, c29, hv26⟩ := hst.rowv 1 rfl hx25
 refine OW.idx 3 1 rfl rfl rfl rfl hv26 rfl (idx_some hx25).1 (idx_some hx25).2.1 (by kernel_rfl) (by kernel_rfl) ?_
 refine OW.ld rfl rfl rfl rfl (by kernel_rfl) (hst.rowc 1 rfl (fun _ => rfl) hx25 hv26 0 _ rfl) ?_
 refine pu 2 [(11, .bool (x24 != 0))] (nx ?_)
 refine br ((x24 != 0)) hF (fun hF hc30 => ?_) (fun hF hc30 => ?_)
 ·refine rg ?_
  refine pu 2 [(4, I 0), (5, I 42)] (nx (CW.ret (QW.block_ret (QW.then_ret ?_))))
  have hst := hst.toIt 1 rfl (fun _ => rfl) (by decide)
  obtain ⟨S31, hst⟩ := hst.shutP1 R_t106 rfl 0 1 [] rfl rfl rfl p0 rfl rfl
  obtain rfl := inj hF
  refine QW.ret2 rfl rfl rfl ?_
  exact ⟨S31, rfl, hst.keep [0] rfl⟩
 refine CW.skip (QW.block_normal (QW.next (CW.seq ?_)))
 refine CW.tail 10 (by kernel_rfl) (by kernel_rfl) ?_
 intro w39 hch40
 have hst := hst.same hch40
 refine OS.pure 3 [(22, .pointer (some ⟨b1, 1, none⟩))] rfl (by kernel_rfl) ?_
 refine OS.ld rfl rfl rfl rfl rfl (by kernel_rfl) (hst.blk 0 rfl rfl) ?_
 refine OS.pure 4 [(24, I p1), (27, Pt b1)] rfl (by kernel_rfl) ?_
 refine OS.ld rfl rfl rfl rfl rfl (by kernel_rfl) (hst.blk 0 rfl rfl) ?_
 obtain ⟨g42, o43, c44, hv41⟩ := hst.rowv 1 rfl hx25
 refine OS.idx 3 1 rfl rfl rfl rfl rfl hv41 rfl (idx_some hx25).1 (idx_some hx25).2.1 (by kernel_rfl) (by kernel_rfl) ?_
 refine OS.on ?_
 refine OW.stR hst 1 rfl hv41 (fun _ => rfl) rfl rfl hx25 0 rfl rfl rfl (by kernel_rfl) rfl rfl p0.now rfl ?_
 intro w45 hst
 refine nx (rg ?_)
 refine pu 3 [(32, Pt b1)] ?_
 refine OW.ld rfl rfl rfl rfl (by kernel_rfl) (hst.blk 0 rfl rfl) ?_
 refine pu 2 [(4, I p0.now), (5, I 0)] (nx (CW.ret ?_))
 have hst := hst.toIt 1 rfl (fun _ => rfl) (by decide)
 obtain ⟨S46, hst⟩ := hst.shutP1 R_t106 rfl 0 1 [] rfl rfl rfl (epoch_Clock.mk p0.now (p0.in_.set (Int.toNat p1) p0.now)) rfl rfl
 obtain rfl := inj hF
 refine QW.ret2 rfl rfl rfl ?_
 exact ⟨S46, rfl, hst.keep [0] rfl⟩
theorem tappetlaw24_play_ok (w : World) (fu : Nat) (v0 : Value) (S0 : List Nat) (p0 : registry_Registry) (v1_0 : Value) (p1 : tappetlaw24_Op) (r : Int × Int × registry_Registry) (hF : tappetlaw24_play fu p0 p1 = some r)
    (hst : St w (fp [itI R_t24 [v0] S0 p0]) w [itI R_t24 [v0] S0 p0]) (h1_0 : Rd w (fp [itI R_t24 [v0] S0 p0]) v1_0 (encInt .u8) 1 p1.Bytes) (hT0 : Rd w (fp [itI R_t24 [v0] S0 p0]) (.slice (some ⟨0, 0, none⟩) 23 23) enc_ops_form 2 tab_g0) (hT1 : Rd w (fp [itI R_t24 [v0] S0 p0]) (.slice (some ⟨1, 0, none⟩) 7 7) enc_sigs_sig 5 tab_g1) :
    Calls Tryz.prog 20 [v0, .agg [I p1.Kind, I p1.A, I p1.B, v1_0].toArray].toArray w (fun e w' => ∃ (s0 : List Nat), e = .returned (.tuple #[I r.1, I r.2.1]) ∧ St w (fp [itI R_t24 [v0] S0 p0]) w' [itI R_t24 [v0] s0 r.2.2]) := by
 refine CW.start (N := 89) Tryz.func20 rfl rfl rfl ?_
 obtain ⟨l1, a2, c3, rfl⟩ := h1_0.len
 obtain ⟨b4, rfl⟩ := hst.fptr 0 rfl
 refine rg ?_
 refine OW.box hst rfl rfl rfl rfl [I p1.Kind, I p1.A, I p1.B, .slice a2 (p1.Bytes).length c3] rfl ?_
 intro b7 w8 hst
 refine pu 2 [] (nx (CW.seq (rg ?_)))
 refine pu 1 [(6, Pt b7)] ?_
 refine OW.ld rfl rfl rfl rfl (by kernel_rfl) (hst.blk 1 rfl rfl) (nx (CW.block (rg ?_)))
 refine pu 2 [(8, .bool (p1.Kind == 0))] (nx ?_)
 refine br ((p1.Kind == 0)) hF (fun hF hc9 => ?_) (fun hF hc9 => ?_)
 ·refine rg ?_
  refine pu 1 [(10, Pt b4)] ?_
  refine OW.row (α := Int) (e := 5) (enc := encInt .u8) (sz := 1) hst rfl rfl rfl [] rfl (fun _ => rfl) rfl rfl (fun _ => by kernel_rfl) ?_
  intro g24 w25 hst
  refine pu 1 [(12, .pointer (some ⟨b7, 3, none⟩))] ?_
  refine OW.ld rfl rfl rfl rfl (by kernel_rfl) (hst.blk 1 rfl rfl) ?_
  obtain ⟨u26, hr27, hF⟩ := bs hF
  refine OW.app hst 2 rfl (fun _ => rfl) (fun _ => rfl) rfl rfl rfl rfl rfl rfl (by kernel_rfl) el5 (h1_0.on hst) (room_le hr27) ?_
  intro v28 w29 hst
  obtain ⟨l30, a31, c32, rfl⟩ := hst.len 2 rfl
  obtain ⟨r33, hr34, hF⟩ := bs hF
  refine OW.fn rfl rfl rfl rfl (by kernel_rfl) (registry_Registry_Load_ok _ fu (Pt b4) S0 p0 (.slice a31 ((([] : List Int) ++ p1.Bytes)).length c32) (([] : List Int) ++ p1.Bytes) r33 hr34 (hst.part [0] rfl) (hst.rd 2 rfl (fun _ => rfl) [0] rfl (hst.len 2 rfl).1) (hT0.give hst [0]) (hT1.give hst [0])) ?_
  rintro e w35 ⟨S37, rfl, hst36⟩
  refine ⟨_, rfl, ?_⟩
  have hst := hst.join (idx := [0]) (rest := [1, 2]) rfl hst36
  refine pu 4 [(4, I r33.1), (5, I r33.2.1)] (nx (CW.ret (QW.block_ret (QW.then_ret ?_))))
  obtain rfl := inj hF
  refine QW.ret2 rfl rfl rfl ?_
  exact ⟨S37, rfl, hst.keep [0] rfl⟩
 refine rg ?_
 refine pu 2 [(18, .bool (p1.Kind == 1))] (nx ?_)
 refine br ((p1.Kind == 1)) hF (fun hF hc38 => ?_) (fun hF hc38 => ?_)
 ·refine rg ?_
  refine pu 2 [(20, Pt b4), (21, .pointer (some ⟨b7, 1, none⟩))] ?_
  refine OW.ld rfl rfl rfl rfl (by kernel_rfl) (hst.blk 1 rfl rfl) ?_
  refine pu 1 [(23, .pointer (some ⟨b7, 2, none⟩))] ?_
  refine OW.ld rfl rfl rfl rfl (by kernel_rfl) (hst.blk 1 rfl rfl) ?_
  obtain ⟨r44, hr45, hF⟩ := bs hF
  refine OW.fn rfl rfl rfl rfl (by kernel_rfl) (registry_Registry_Attach_ok _ (Pt b4) S0 p0 p1.A p1.B r44 hr45 (hst.part [0] rfl)) ?_
  rintro e w46 ⟨S48, rfl, hst47⟩
  refine ⟨_, rfl, ?_⟩
  have hst := hst.join (idx := [0]) (rest := [1]) rfl hst47
  refine pu 4 [(4, I r44.1), (5, I r44.2.1)] (nx (CW.ret (QW.block_ret (QW.then_ret ?_))))
  obtain rfl := inj hF
  refine QW.ret2 rfl rfl rfl ?_
  exact ⟨S48, rfl, hst.keep [0] rfl⟩
 refine rg ?_
 refine pu 2 [(28, .bool (p1.Kind == 2))] (nx ?_)
 refine br ((p1.Kind == 2)) hF (fun hF hc49 => ?_) (fun hF hc49 => ?_)
 ·refine rg ?_
  refine pu 2 [(30, Pt b4), (31, .pointer (some ⟨b7, 1, none⟩))] ?_
  refine OW.ld rfl rfl rfl rfl (by kernel_rfl) (hst.blk 1 rfl rfl) ?_
  refine pu 1 [(33, .pointer (some ⟨b7, 2, none⟩))] ?_
  refine OW.ld rfl rfl rfl rfl (by kernel_rfl) (hst.blk 1 rfl rfl) ?_
  obtain ⟨r55, hr56, hF⟩ := bs hF
  refine OW.fn rfl rfl rfl rfl (by kernel_rfl) (registry_Registry_Swap_ok _ (Pt b4) S0 p0 p1.A p1.B r55 hr56 (hst.part [0] rfl)) ?_
  rintro e w57 ⟨S59, rfl, hst58⟩
  refine ⟨_, rfl, ?_⟩
  have hst := hst.join (idx := [0]) (rest := [1]) rfl hst58
  refine pu 4 [(4, I r55.1), (5, I r55.2.1)] (nx (CW.ret (QW.block_ret (QW.then_ret ?_))))
  obtain rfl := inj hF
  refine QW.ret2 rfl rfl rfl ?_
  exact ⟨S59, rfl, hst.keep [0] rfl⟩
 refine rg ?_
 refine pu 2 [(38, .bool (p1.Kind == 3))] (nx ?_)
 refine br ((p1.Kind == 3)) hF (fun hF hc60 => ?_) (fun hF hc60 => ?_)
 ·refine CW.seq ?_
  obtain ⟨v61, S62, v63, S64, v65, S66, v67, S68, v69, S70, hst⟩ := hst.openQ5 0 rfl rfl rfl rfl rfl rfl
  obtain ⟨r71, rfl, hst⟩ := hst.toMN1 5 rfl
  have hst := hst.toRow1 6 rfl
  obtain ⟨b72, rfl⟩ := hst.fptr 2 rfl
  obtain ⟨b73, rfl⟩ := hst.fptr 3 rfl
  obtain ⟨b74, rfl⟩ := hst.fptr 4 rfl
  obtain ⟨l75, a76, c77, rfl⟩ := hst.len 6 rfl
  have hst : St _ _ _ [blkI b4 58 [Pt b72, Pt b73, Pt b74, I p0.hooks, I p0.maps, I p0.given, .map (some r71), .slice a76 (p0.waiting).length c77], _, _, _, _, _, _] := hst
  refine CW.plan (by kernel_rfl) ?_
  intro w87 hch88
  have hst := hst.same hch88
  refine OA.pure [0, 1, 2] [(42, Pt b4)] (by kernel_rfl) ?_
  refine OA.ld (i := 3) rfl (by kernel_rfl) rfl rfl rfl (by kernel_rfl) (hst.blk 0 rfl rfl) ?_
  refine OA.pure [4] [(44, .pointer (some ⟨b7, 1, none⟩))] (by kernel_rfl) ?_
  refine OA.ld (i := 5) rfl (by kernel_rfl) rfl rfl rfl (by kernel_rfl) (hst.blk 1 rfl rfl) ?_
  refine OA.act (i := 6) [3] (by kernel_rfl) rfl rfl (by kernel_rfl) (by kernel_rfl) ?_
  refine OW.row (α := Int) (e := 3) (enc := encInt .i64) (sz := 1) hst rfl rfl rfl [p1.A] rfl (fun _ => rfl) rfl rfl (fun _ => by kernel_rfl) ?_
  intro g89 w90 hst
  refine OA.next ⟨(hst.blk 0 rfl rfl), trivial⟩ ?_
  refine OA.act (i := 7) [] (by kernel_rfl) rfl rfl (by kernel_rfl) (by kernel_rfl) ?_
  obtain ⟨r91, hr92, hF⟩ := bs hF
  refine OW.fn rfl rfl rfl rfl (by kernel_rfl) (hooks_Table_Detach_ok _ (Pt b72) S62 p0.Table (.slice (some ⟨g89, 0, none⟩) 1 1) ([p1.A]) r91 hr92 (hst.part [2] rfl) (hst.rd 7 rfl (fun _ => rfl) [2] rfl (hst.len 7 rfl).1)) ?_
  rintro e w93 ⟨S95, rfl, hst94⟩
  refine ⟨_, rfl, ?_⟩
  have hst := hst.join (idx := [2]) (rest := [0, 1, 3, 4, 5, 6, 7]) rfl hst94
  refine OA.next trivial ?_
  refine OA.act (i := 8) [] (by kernel_rfl) rfl rfl (by kernel_rfl) (by kernel_rfl) ?_
  refine pu 1 [(4, I 0)] (OA.next trivial ?_)
  refine OA.act (i := 9) [] (by kernel_rfl) rfl rfl (by kernel_rfl) (by kernel_rfl) ?_
  refine pu 1 [(5, I r91.1)] (OA.next trivial ?_)
  refine OA.fin (by kernel_rfl) (by kernel_rfl) (QW.next (CW.ret (QW.block_ret (QW.then_ret ?_))))
  have hst := hst.ofMN 5 rfl
  have hst := hst.toIt 6 rfl (fun _ => rfl) (by decide)
  obtain ⟨S96, hst⟩ := hst.shutP5 R_t58 rfl 1 0 3 4 5 6 [2, 7] rfl rfl rfl rfl rfl rfl rfl (registry_Registry.mk r91.2 p0.Refs p0.Clock p0.hooks p0.maps p0.given p0.progs p0.waiting) rfl rfl
  obtain rfl := inj hF
  refine QW.ret2 rfl rfl rfl ?_
  exact ⟨S96, rfl, hst.keep [2] rfl⟩
 refine rg ?_
 refine pu 2 [(48, .bool (p1.Kind == 4))] (nx ?_)
 refine br ((p1.Kind == 4)) hF (fun hF hc97 => ?_) (fun hF hc97 => ?_)
 ·refine rg ?_
  refine pu 2 [(50, Pt b4), (51, .pointer (some ⟨b7, 2, none⟩))] ?_
  refine OW.ld rfl rfl rfl rfl (by kernel_rfl) (hst.blk 1 rfl rfl) ?_
  obtain ⟨r103, hr104, hF⟩ := bs hF
  refine OW.fn rfl rfl rfl rfl (by kernel_rfl) (registry_Registry_Retire_ok _ (Pt b4) S0 p0 p1.B r103 hr104 (hst.part [0] rfl)) ?_
  rintro e w105 ⟨S107, rfl, hst106⟩
  refine ⟨_, rfl, ?_⟩
  have hst := hst.join (idx := [0]) (rest := [1]) rfl hst106
  refine pu 4 [(4, I r103.1), (5, I r103.2.1)] (nx (CW.ret (QW.block_ret (QW.then_ret ?_))))
  obtain rfl := inj hF
  refine QW.ret2 rfl rfl rfl ?_
  exact ⟨S107, rfl, hst.keep [0] rfl⟩
 refine rg ?_
 refine pu 2 [(56, .bool (p1.Kind == 5))] (nx ?_)
 refine br ((p1.Kind == 5)) hF (fun hF hc108 => ?_) (fun hF hc108 => ?_)
 ·refine rg ?_
  refine pu 2 [(58, Pt b4), (59, .pointer (some ⟨b7, 1, none⟩))] ?_
  refine OW.ld rfl rfl rfl rfl (by kernel_rfl) (hst.blk 1 rfl rfl) ?_
  obtain ⟨r118, hr119, hF⟩ := bs hF
  refine OW.fn rfl rfl rfl rfl (by kernel_rfl) (registry_Registry_Settle_ok _ fu (Pt b4) S0 p0 p1.A r118 hr119 (hst.part [0] rfl)) ?_
  rintro e w120 ⟨S122, v123, rfl, hst121⟩
  refine ⟨_, rfl, ?_⟩
  have hst := hst.join (idx := [0]) (rest := [1]) rfl hst121
  obtain ⟨l124, a125, c126, rfl⟩ := hst.len 1 rfl
  refine pu 3 [(4, I ((r118.1).length : Int)), (5, I 0)] (nx (CW.ret (QW.block_ret (QW.then_ret ?_))))
  obtain rfl := inj hF
  refine QW.ret2 rfl rfl rfl ?_
  exact ⟨S122, rfl, hst.keep [0] rfl⟩
 refine rg ?_
 refine pu 2 [(63, .bool (p1.Kind == 6))] (nx ?_)
 refine br ((p1.Kind == 6)) hF (fun hF hc127 => ?_) (fun hF hc127 => ?_)
 ·refine CW.seq ?_
  obtain ⟨v128, S129, v130, S131, v132, S133, v134, S135, v136, S137, hst⟩ := hst.openQ5 0 rfl rfl rfl rfl rfl rfl
  obtain ⟨r138, rfl, hst⟩ := hst.toMN1 5 rfl
  have hst := hst.toRow1 6 rfl
  obtain ⟨b139, rfl⟩ := hst.fptr 2 rfl
  obtain ⟨b140, rfl⟩ := hst.fptr 3 rfl
  obtain ⟨b141, rfl⟩ := hst.fptr 4 rfl
  obtain ⟨l142, a143, c144, rfl⟩ := hst.len 6 rfl
  have hst : St _ _ _ [blkI b4 58 [Pt b139, Pt b140, Pt b141, I p0.hooks, I p0.maps, I p0.given, .map (some r138), .slice a143 (p0.waiting).length c144], _, _, _, _, _, _] := hst
  refine CW.plan (by kernel_rfl) ?_
  intro w152 hch153
  have hst := hst.same hch153
  refine OA.pure [0, 1, 2] [(67, .pointer (some ⟨b4, 2, none⟩))] (by kernel_rfl) ?_
  refine OA.ld (i := 3) rfl (by kernel_rfl) rfl rfl rfl (by kernel_rfl) (hst.blk 0 rfl rfl) ?_
  refine OA.pure [4] [(69, .pointer (some ⟨b7, 1, none⟩))] (by kernel_rfl) ?_
  refine OA.ld (i := 5) rfl (by kernel_rfl) rfl rfl rfl (by kernel_rfl) (hst.blk 1 rfl rfl) ?_
  refine OA.act (i := 6) [] (by kernel_rfl) rfl rfl (by kernel_rfl) (by kernel_rfl) ?_
  obtain ⟨r154, hr155, hF⟩ := bs hF
  refine OW.fn rfl rfl rfl rfl (by kernel_rfl) (epoch_Clock_Enter_ok _ (Pt b141) S133 p0.Clock p1.A r154 hr155 (hst.part [4] rfl)) ?_
  rintro e w156 ⟨S158, rfl, hst157⟩
  refine ⟨_, rfl, ?_⟩
  have hst := hst.join (idx := [4]) (rest := [0, 1, 2, 3, 5, 6]) rfl hst157
  refine OA.next trivial ?_
  refine OA.pure [7, 8] [(72, I r154.1), (73, I r154.2.1)] (by kernel_rfl) ?_
  refine OA.act (i := 9) [] (by kernel_rfl) rfl rfl (by kernel_rfl) (by kernel_rfl) ?_
  refine pu 1 [(4, I r154.1)] (OA.next trivial ?_)
  refine OA.act (i := 10) [] (by kernel_rfl) rfl rfl (by kernel_rfl) (by kernel_rfl) ?_
  refine pu 1 [(5, I r154.2.1)] (OA.next trivial ?_)
  refine OA.fin (by kernel_rfl) (by kernel_rfl) (QW.next (CW.ret (QW.block_ret (QW.then_ret ?_))))
  have hst := hst.ofMN 5 rfl
  have hst := hst.toIt 6 rfl (fun _ => rfl) (by decide)
  obtain ⟨S159, hst⟩ := hst.shutP5 R_t58 rfl 1 3 4 0 5 6 [2] rfl rfl rfl rfl rfl rfl rfl (registry_Registry.mk p0.Table p0.Refs r154.2.2 p0.hooks p0.maps p0.given p0.progs p0.waiting) rfl rfl
  obtain rfl := inj hF
  refine QW.ret2 rfl rfl rfl ?_
  exact ⟨S159, rfl, hst.keep [1] rfl⟩
 refine rg ?_
 refine pu 2 [(74, .bool (p1.Kind == 7))] (nx ?_)
 refine br ((p1.Kind == 7)) hF (fun hF hc160 => ?_) (fun hF hc160 => ?_)
 ·refine CW.seq ?_
  obtain ⟨v161, S162, v163, S164, v165, S166, v167, S168, v169, S170, hst⟩ := hst.openQ5 0 rfl rfl rfl rfl rfl rfl
  obtain ⟨r171, rfl, hst⟩ := hst.toMN1 5 rfl
  have hst := hst.toRow1 6 rfl
  obtain ⟨b172, rfl⟩ := hst.fptr 2 rfl
  obtain ⟨b173, rfl⟩ := hst.fptr 3 rfl
  obtain ⟨b174, rfl⟩ := hst.fptr 4 rfl
  obtain ⟨l175, a176, c177, rfl⟩ := hst.len 6 rfl
  have hst : St _ _ _ [blkI b4 58 [Pt b172, Pt b173, Pt b174, I p0.hooks, I p0.maps, I p0.given, .map (some r171), .slice a176 (p0.waiting).length c177], _, _, _, _, _, _] := hst
  refine CW.plan (by kernel_rfl) ?_
  intro w187 hch188
  have hst := hst.same hch188
  refine OA.pure [0, 1, 2] [(78, .pointer (some ⟨b4, 2, none⟩))] (by kernel_rfl) ?_
  refine OA.ld (i := 3) rfl (by kernel_rfl) rfl rfl rfl (by kernel_rfl) (hst.blk 0 rfl rfl) ?_
  refine OA.pure [4] [(80, .pointer (some ⟨b7, 1, none⟩))] (by kernel_rfl) ?_
  refine OA.ld (i := 5) rfl (by kernel_rfl) rfl rfl rfl (by kernel_rfl) (hst.blk 1 rfl rfl) ?_
  refine OA.act (i := 6) [3] (by kernel_rfl) rfl rfl (by kernel_rfl) (by kernel_rfl) ?_
  refine OW.row (α := Int) (e := 3) (enc := encInt .i64) (sz := 1) hst rfl rfl rfl [p1.A] rfl (fun _ => rfl) rfl rfl (fun _ => by kernel_rfl) ?_
  intro g189 w190 hst
  refine OA.next ⟨(hst.blk 0 rfl rfl), trivial⟩ ?_
  refine OA.act (i := 7) [] (by kernel_rfl) rfl rfl (by kernel_rfl) (by kernel_rfl) ?_
  obtain ⟨r191, hr192, hF⟩ := bs hF
  refine OW.fn rfl rfl rfl rfl (by kernel_rfl) (epoch_Clock_Leave_ok _ (Pt b174) S166 p0.Clock (.slice (some ⟨g189, 0, none⟩) 1 1) ([p1.A]) r191 hr192 (hst.part [4] rfl) (hst.rd 7 rfl (fun _ => rfl) [4] rfl (hst.len 7 rfl).1)) ?_
  rintro e w193 ⟨S195, rfl, hst194⟩
  refine ⟨_, rfl, ?_⟩
  have hst := hst.join (idx := [4]) (rest := [0, 1, 2, 3, 5, 6, 7]) rfl hst194
  refine OA.next trivial ?_
  refine OA.act (i := 8) [] (by kernel_rfl) rfl rfl (by kernel_rfl) (by kernel_rfl) ?_
  refine pu 1 [(4, I 0)] (OA.next trivial ?_)
  refine OA.act (i := 9) [] (by kernel_rfl) rfl rfl (by kernel_rfl) (by kernel_rfl) ?_
  refine pu 1 [(5, I r191.1)] (OA.next trivial ?_)
  refine OA.fin (by kernel_rfl) (by kernel_rfl) (QW.next (CW.ret (QW.block_ret (QW.then_ret ?_))))
  have hst := hst.ofMN 5 rfl
  have hst := hst.toIt 6 rfl (fun _ => rfl) (by decide)
  obtain ⟨S196, hst⟩ := hst.shutP5 R_t58 rfl 1 3 4 0 5 6 [2, 7] rfl rfl rfl rfl rfl rfl rfl (registry_Registry.mk p0.Table p0.Refs r191.2 p0.hooks p0.maps p0.given p0.progs p0.waiting) rfl rfl
  obtain rfl := inj hF
  refine QW.ret2 rfl rfl rfl ?_
  exact ⟨S196, rfl, hst.keep [2] rfl⟩
 refine CW.skip (QW.block_normal (QW.next (CW.seq ?_)))
 obtain ⟨v197, S198, v199, S200, v201, S202, v203, S204, v205, S206, hst⟩ := hst.openQ5 0 rfl rfl rfl rfl rfl rfl
 obtain ⟨r207, rfl, hst⟩ := hst.toMN1 5 rfl
 have hst := hst.toRow1 6 rfl
 obtain ⟨b208, rfl⟩ := hst.fptr 2 rfl
 obtain ⟨b209, rfl⟩ := hst.fptr 3 rfl
 obtain ⟨b210, rfl⟩ := hst.fptr 4 rfl
 obtain ⟨l211, a212, c213, rfl⟩ := hst.len 6 rfl
 have hst : St _ _ _ [blkI b4 58 [Pt b208, Pt b209, Pt b210, I p0.hooks, I p0.maps, I p0.given, .map (some r207), .slice a212 (p0.waiting).length c213], _, _, _, _, _, _] := hst
 refine CW.region ?_
 refine pu 3 [(86, .pointer (some ⟨b4, 2, none⟩))] ?_
 refine OW.ld rfl rfl rfl rfl (by kernel_rfl) (hst.blk 0 rfl rfl) ?_
 obtain ⟨r219, hr220, hF⟩ := bs hF
 refine OW.fn rfl rfl rfl rfl (by kernel_rfl) (epoch_Clock_Advance_ok _ (Pt b210) S202 p0.Clock r219 hr220 (hst.part [4] rfl)) ?_
 rintro e w221 ⟨S223, rfl, hst222⟩
 refine ⟨_, rfl, ?_⟩
 have hst := hst.join (idx := [4]) (rest := [0, 1, 2, 3, 5, 6]) rfl hst222
 refine pu 2 [(4, I r219.1), (5, I 0)] (nx (CW.ret ?_))
 have hst := hst.ofMN 5 rfl
 have hst := hst.toIt 6 rfl (fun _ => rfl) (by decide)
 obtain ⟨S224, hst⟩ := hst.shutP5 R_t58 rfl 1 3 4 0 5 6 [2] rfl rfl rfl rfl rfl rfl rfl (registry_Registry.mk p0.Table p0.Refs r219.2 p0.hooks p0.maps p0.given p0.progs p0.waiting) rfl rfl
 obtain rfl := inj hF
 refine QW.ret2 rfl rfl rfl ?_
 exact ⟨S224, rfl, hst.keep [1] rfl⟩
theorem registry_Registry_Retiring_ok (w : World) (v0 : Value) (S0 : List Nat) (p0 : registry_Registry) (r : (List Int)) (hF : registry_Registry_Retiring p0 = some r)
    (hst : St w (fp [itI R_t24 [v0] S0 p0]) w [itI R_t24 [v0] S0 p0]) :
    Calls Tryz.prog 21 [v0].toArray w (fun e w' => ∃ (s0 : List Nat) (x0 : Value), e = .returned (x0) ∧ St w (fp [itI R_t24 [v0] S0 p0]) w' [itI R_t24 [v0] s0 p0, rowI x0 3 (encInt .i64) 1 r]) := by
 refine CW.start (N := 8) Tryz.func21 rfl rfl rfl ?_
 obtain ⟨b1, rfl⟩ := hst.fptr 0 rfl
 refine rg ?_
 refine pu 1 [] (nx (CW.seq ?_))
 obtain ⟨v2, S3, v4, S5, v6, S7, v8, S9, v10, S11, hst⟩ := hst.openQ5 0 rfl rfl rfl rfl rfl rfl
 obtain ⟨r12, rfl, hst⟩ := hst.toMN1 4 rfl
 have hst := hst.toRow1 5 rfl
 obtain ⟨b13, rfl⟩ := hst.fptr 1 rfl
 obtain ⟨b14, rfl⟩ := hst.fptr 2 rfl
 obtain ⟨b15, rfl⟩ := hst.fptr 3 rfl
 obtain ⟨l16, a17, c18, rfl⟩ := hst.len 5 rfl
 have hst : St _ _ _ [blkI b1 58 [Pt b13, Pt b14, Pt b15, I p0.hooks, I p0.maps, I p0.given, .map (some r12), .slice a17 (p0.waiting).length c18], _, _, _, _, _] := hst
 refine CW.region ?_
 refine pu 3 [(5, .pointer (some ⟨b1, 7, none⟩))] ?_
 refine OW.ld rfl rfl rfl rfl (by kernel_rfl) (hst.blk 0 rfl rfl) ?_
 obtain ⟨r27, hr28, hF⟩ := bs hF
 refine OW.fn rfl rfl rfl rfl (by kernel_rfl) (slices_Clone_int_int_ok _ (.slice a17 (p0.waiting).length c18) p0.waiting r27 hr28 (hst.part [] rfl) (hst.rd 5 rfl (fun _ => rfl) [] rfl (hst.len 5 rfl).1)) ?_
 rintro e w29 ⟨v31, rfl, hst30⟩
 refine ⟨_, rfl, ?_⟩
 have hst := hst.join (idx := []) (rest := [0, 1, 2, 3, 4, 5]) rfl hst30
 obtain ⟨l32, a33, c34, rfl⟩ := hst.len 0 rfl
 refine pu 1 [(2, .slice a33 (r27).length c34)] (nx (CW.ret ?_))
 have hst := hst.ofMN 5 rfl
 have hst := hst.toIt 6 rfl (fun _ => rfl) (by decide)
 obtain ⟨S35, hst⟩ := hst.shutP5 R_t58 rfl 1 2 3 4 5 6 [0] rfl rfl rfl rfl rfl rfl rfl p0 rfl rfl
 obtain rfl := inj hF
 refine QW.ret1 rfl rfl ?_
 exact ⟨S35, (.slice a33 (r27).length c34), rfl, hst.keep [1, 0] rfl⟩
theorem tappetlaw24_RegistryRefs_ok (w : World) (fu : Nat) (v0 : Value) (p0 : List tappetlaw24_Op) (r : Bool) (hF : tappetlaw24_RegistryRefs fu p0 = some r)
    (hst : St w (fp []) w []) (h0 : RdN w (fp []) v0 R_t48.rd 4 p0) (hT0 : Rd w (fp []) (.slice (some ⟨0, 0, none⟩) 23 23) enc_ops_form 2 tab_g0) (hT1 : Rd w (fp []) (.slice (some ⟨1, 0, none⟩) 7 7) enc_sigs_sig 5 tab_g1) :
    Calls Tryz.prog 6 [v0].toArray w (fun e w' => e = .returned (.bool r) ∧ St w (fp []) w' []) := by
 refine CW.start (N := 240) Tryz.func6 rfl rfl rfl ?_
 obtain ⟨l1, a2, c3, rfl⟩ := h0.len
 refine rg ?_
 refine pu 1 [] (nx (CW.seq (rg ?_)))
 obtain ⟨r8, hr9, hF⟩ := bs hF
 refine OW.fn rfl rfl rfl rfl (by kernel_rfl) (tappetlaw24_awake_ok _ fu r8 hr9 (hst.part [] rfl) (hT0.give hst []) (hT1.give hst [])) ?_
 rintro e w10 ⟨rfl, hst11⟩
 refine ⟨_, rfl, ?_⟩
 have hst := hst.join (idx := []) (rest := []) rfl hst11
 refine pu 1 [(27, .bool (!r8))] (nx ?_)
 refine br ((!r8)) hF (fun hF hc12 => ?_) (fun hF hc12 => ?_)
 ·refine rg ?_
  refine pu 1 [(2, .bool false)] (nx (CW.ret (QW.then_ret ?_)))
  obtain rfl := inj hF
  refine QW.ret1 rfl rfl ?_
  exact ⟨rfl, hst.keep [] rfl⟩
 refine CW.skip (QW.next (rg ?_))
 obtain ⟨r23, hr24, hF⟩ := bs hF
 refine OW.fn rfl rfl rfl rfl (by kernel_rfl) (registry_New_ok _ 3 4 2 r23 hr24 (hst.part [] rfl)) ?_
 rintro e w25 (⟨k27, v29, S30, he28, rfl, hst26⟩ | ⟨he31, rfl, hst26⟩)
 ·have hF := ocase_some hF he28
  refine ⟨_, rfl, ?_⟩
  have hst := hst.join (idx := []) (rest := []) rfl hst26
  obtain ⟨b32, rfl⟩ := hst.fptr 0 rfl
  refine pu 5 [(3, Pt b32), (4, I r23.2)] (nx (CW.seq (rg ?_)))
  refine pu 6 [(37, .bool (r23.2 != 0))] (nx ?_)
  refine br ((r23.2 != 0)) hF (fun hF hc33 => ?_) (fun hF hc33 => ?_)
  ·refine rg ?_
   refine pu 1 [(2, .bool false)] (nx (CW.ret (QW.then_ret ?_)))
   obtain rfl := inj hF
   refine QW.ret1 rfl rfl ?_
   exact ⟨rfl, hst.keep [] rfl⟩
  refine CW.skip (QW.next (rg ?_))
  obtain ⟨m38, hm39, hF⟩ := bs hF
  refine OW.make (enc := encBool) (sz := 1) hst rfl rfl rfl rfl rfl (by kernel_rfl) el4 false (by kernel_rfl) (fun _ => rfl) hm39 ?_
  intro g40 w41 hst
  refine pu 1 [(5, .slice (some ⟨g40, 0, none⟩) m38 m38)] (nx (CW.seq (rg ?_)))
  refine pu 1 [(6, I 0)] (nx ?_)
  obtain ⟨o28808, ho28809, hF⟩ := bs hF
  refine CW.cutK (fun a w1 => ∃ (t28810 : registry_Registry × (List Bool)) (S28807 : List Nat), o28808 = .inl t28810 ∧ Rep 240 [(3, Pt b32), (5, .slice (some ⟨g40, 0, none⟩) m38 m38)] a ∧ St w (fp []) w1 [itI R_t24 [Pt b32] S28807 t28810.1, rowI (.slice (some ⟨g40, 0, none⟩) m38 m38) 4 encBool 1 t28810.2]) ?_ ?_
  ·refine CW.block ?_
   refine CW.loop (fun n a w1 => ∃ (s47988 : registry_Registry × (List Bool) × Int) (S47989 : List Nat), Rep 240 [(0, .slice a2 (p0).length c3), (3, Pt b32), (5, .slice (some ⟨g40, 0, none⟩) m38 m38), (6, I s47988.2.2)] a ∧ St w (fp []) w1 [itI R_t24 [Pt b32] S47989 s47988.1, rowI (.slice (some ⟨g40, 0, none⟩) m38 m38) 4 encBool 1 s47988.2.1] ∧ loop (tappetlaw24_RegistryRefs_l1 fu p0 m38) n s47988 = some o28808) fu (fun a ha => ⟨(k27, (List.replicate m38 false), 0), S30, ha.ag, hst.keep [0, 1] rfl, ho28809⟩) ?_
   rintro n47986 a w1 ⟨s47988, S47989, ha, hst, hl47987⟩
   rcases n47986 with _ | n47986
   ·exact (loop_zero hl47987).elim
   refine CW.go ?_ ha
   refine CW.seq (CW.seq ?_)
   refine CW.cutK (fun a w1 => Rep 240 [(0, .slice a2 (p0).length c3), (3, Pt b32), (5, .slice (some ⟨g40, 0, none⟩) m38 m38), (6, I s47988.2.2), (46, .bool (decide (s47988.2.2 < ((p0).length : Int)) && decide (s47988.2.2 < 120)))] a ∧ St w (fp []) w1 [itI R_t24 [Pt b32] S47989 s47988.1, rowI (.slice (some ⟨g40, 0, none⟩) m38 m38) 4 encBool 1 s47988.2.1]) ?_ ?_
   ·refine CW.region ?_
    refine pu 5 [(43, .bool (decide (s47988.2.2 < ((p0).length : Int))))] ?_
    refine OW.split 43 rfl (fun hc47990 => ?_) (fun hc47990 => ?_)
    ·refine pu 3 [(46, .bool (decide (s47988.2.2 < 120)))] (OW.nil rfl ?_)
     refine QW.say 46 (v := .bool (decide (s47988.2.2 < ((p0).length : Int)) && decide (s47988.2.2 < 120))) rfl (by first | (rw [hc47990]; done) | (rw [hc47990]; rfl) | simp [hc47990]) ?_
     exact QW.meet (fun a ha => ⟨ha.ag, hst.keep [0, 1] rfl⟩)
    refine pu 3 [(46, .bool false)] (OW.nil rfl ?_)
    refine QW.say 46 (v := .bool (decide (s47988.2.2 < ((p0).length : Int)) && decide (s47988.2.2 < 120))) rfl (by first | (rw [hc47990]; done) | (rw [hc47990]; rfl) | simp [hc47990]) ?_
    exact QW.meet (fun a ha => ⟨ha.ag, hst.keep [0, 1] rfl⟩)
   rintro a w1 ⟨ha, hst⟩
   refine CW.go ?_ ha
   refine br ((decide (s47988.2.2 < ((p0).length : Int)) && decide (s47988.2.2 < 120))) hl47987 (fun hl47987 hc47991 => ?_) (fun hl47987 hc47991 => ?_)
   ·refine CW.skip (QW.next (CW.seq (CW.block (rg ?_))))
    refine pu 2 [(49, .slice a2 (p0).length c3), (50, I s47988.2.2)] ?_
    obtain ⟨x48009, hx48010, hl47987⟩ := bs hl47987
    obtain ⟨g48012, o48013, c48014, cs48015, hv48011, hd48016, hl48017⟩ := h0.formv hx48010
    obtain ⟨_, rfl, ⟨v48018, rfl, h48019⟩⟩ := hd48016
    have h48019 : Rd _ _ _ _ _ x48009.Bytes := h48019
    obtain ⟨l48020, a48021, c48022, rfl⟩ := h48019.len
    refine OW.idx 48 4 rfl rfl rfl rfl hv48011 rfl (idx_some hx48010).1 (idx_some hx48010).2.1 (by kernel_rfl) (by kernel_rfl) ?_
    refine OW.ldN (cs := [I x48009.Kind, I x48009.A, I x48009.B, .slice a48021 (x48009.Bytes).length c48022]) rfl rfl rfl rfl (by kernel_rfl) (by kernel_rfl) (fun q u hu => hl48017 q u hu _ _ hst) ?_
    refine OW.alloc hst rfl rfl rfl [I 0, I 0, I 0, .slice none 0 0] (by kernel_rfl) ?_
    intro b48023 w48024 hst
    refine OW.stB hst 2 rfl rfl rfl rfl rfl (by kernel_rfl) rfl rfl [I x48009.Kind, I x48009.A, I x48009.B, .slice a48021 (x48009.Bytes).length c48022] rfl ?_
    intro w48025 hst
    refine nx (CW.seq (rg ?_))
    refine pu 1 [(53, Pt b48023)] ?_
    refine OW.ld rfl rfl rfl rfl (by kernel_rfl) (hst.blk 2 rfl rfl) ?_
    refine pu 1 [(55, .bool (x48009.Kind == 5))] (nx ?_)
    obtain ⟨o48574, ho48575, hl47987⟩ := bs hl47987
    refine CW.cutK (fun a w1 => ∃ (t48576 : registry_Registry × (List Bool)) (S48573 : List Nat), o48574 = .inl t48576 ∧ Rep 240 [(0, .slice a2 (p0).length c3), (3, Pt b32), (5, .slice (some ⟨g40, 0, none⟩) m38 m38), (6, I s47988.2.2)] a ∧ St w (fp []) w1 [itI R_t24 [Pt b32] S48573 t48576.1, rowI (.slice (some ⟨g40, 0, none⟩) m38 m38) 4 encBool 1 t48576.2]) ?_ ?_
    ·refine br ((x48009.Kind == 5)) ho48575 (fun ho48575 hc48577 => ?_) (fun ho48575 hc48577 => ?_)
     ·refine rg ?_
      refine pu 2 [(56, Pt b32), (57, .pointer (some ⟨b48023, 1, none⟩))] ?_
      refine OW.ld rfl rfl rfl rfl (by kernel_rfl) (hst.blk 2 rfl rfl) ?_
      obtain ⟨r48587, hr48588, ho48575⟩ := bs ho48575
      refine OW.fn rfl rfl rfl rfl (by kernel_rfl) (registry_Registry_Settle_ok _ fu (Pt b32) S47989 s47988.1 x48009.A r48587 hr48588 (hst.part [0] rfl)) ?_
      rintro e w48589 ⟨S48591, v48592, rfl, hst48590⟩
      refine ⟨_, rfl, ?_⟩
      have hst := hst.join (idx := [0]) (rest := [1, 2]) rfl hst48590
      obtain ⟨l48593, a48594, c48595, rfl⟩ := hst.len 1 rfl
      refine pu 1 [(8, .slice a48594 (r48587.1).length c48595)] (nx (rg ?_))
      refine pu 1 [(9, I 0)] (nx ?_)
      obtain ⟨o48842, ho48843, ho48575⟩ := bs ho48575
      refine CW.cutQ (fun a w1 => ∃ (t48844 : (List Bool)), o48842 = .inl t48844 ∧ Rep 240 [(0, .slice a2 (p0).length c3), (3, Pt b32), (5, .slice (some ⟨g40, 0, none⟩) m38 m38), (6, I s47988.2.2)] a ∧ St w (fp []) w1 [itI R_t24 [Pt b32] S48591 r48587.2, rowI (.slice (some ⟨g40, 0, none⟩) m38 m38) 4 encBool 1 t48844]) ?_ ?_
      ·refine CW.block ?_
       refine CW.loop (fun n a w1 => ∃ (i49009 : Nat) (s49008 : (List Bool)), i49009 + n = (r48587.1).length ∧ Rep 240 [(0, .slice a2 (p0).length c3), (3, Pt b32), (5, .slice (some ⟨g40, 0, none⟩) m38 m38), (6, I s47988.2.2), (8, .slice a48594 (r48587.1).length c48595), (9, I (i49009 : Int))] a ∧ St w (fp []) w1 [itI R_t24 [Pt b32] S48591 r48587.2, rowI (.slice (some ⟨g40, 0, none⟩) m38 m38) 4 encBool 1 s49008, rowI (.slice a48594 (r48587.1).length c48595) 3 (encInt .i64) 1 r48587.1] ∧ forN (tappetlaw24_RegistryRefs_l2 m38 r48587) (fun (s49008 : (List Bool)) => (.inl s49008)) n i49009 s49008 = some o48842) (r48587.1).length (fun a ha => ⟨0, s47988.2.1, Nat.zero_add _, ha.ag, hst.keep [0, 2, 1] rfl, ho48843⟩) ?_
       rintro n49006 a w1 ⟨i49009, s49008, hi49010, ha, hst, hl49007⟩
       refine CW.go ?_ ha
       refine CW.seq (rg ?_)
       refine pu 4 [(63, .bool (decide ((i49009 : Int) < ((r48587.1).length : Int))))] (nx ?_)
       rcases bft (decide ((i49009 : Int) < ((r48587.1).length : Int))) with hc49011 | hc49011
       ·rcases n49006 with _ | n49006
        ·exact (cnt0 hi49010 hc49011).elim
        refine CW.cond_t rfl hc49011 (CW.skip (QW.next (CW.seq (CW.block (CW.seq (CW.seq ?_))))))
        obtain ⟨o49040, ho49041, hl49007⟩ := bs hl49007
        refine CW.cutK (fun a w1 => Rep 240 [(0, .slice a2 (p0).length c3), (3, Pt b32), (5, .slice (some ⟨g40, 0, none⟩) m38 m38), (6, I s47988.2.2), (8, .slice a48594 (r48587.1).length c48595), (9, I (i49009 : Int)), (88, .bool o49040)] a ∧ St w (fp []) w1 [itI R_t24 [Pt b32] S48591 r48587.2, rowI (.slice (some ⟨g40, 0, none⟩) m38 m38) 4 encBool 1 s49008, rowI (.slice a48594 (r48587.1).length c48595) 3 (encInt .i64) 1 r48587.1]) ?_ ?_
        ·refine CW.region ?_
         refine pu 2 [(66, .slice a48594 (r48587.1).length c48595), (67, I (i49009 : Int))] ?_
         obtain ⟨x49042, hx49043, ho49041⟩ := bs ho49041
         obtain ⟨g49045, o49046, c49047, hv49044⟩ := hst.rowv 2 rfl hx49043
         refine OW.idx 3 1 rfl rfl rfl rfl hv49044 rfl (idx_some hx49043).1 (idx_some hx49043).2.1 (by kernel_rfl) (by kernel_rfl) ?_
         refine OW.ld rfl rfl rfl rfl (by kernel_rfl) (hst.rowc 2 rfl (fun _ => rfl) hx49043 hv49044 0 _ rfl) ?_
         refine pu 2 [(71, .bool (decide (x49042 < 1)))] ?_
         refine OW.split 71 rfl (fun hc49048 => ?_) (fun hc49048 => ?_)
         ·have ho49041 := ite_t ho49041 hc49048
          refine pu 17 [(88, .bool true)] (OW.nil rfl ?_)
          obtain rfl := inj ho49041
          exact QW.meet (fun a ha => ⟨ha.ag, hst.keep [0, 1, 2] rfl⟩)
         have ho49041 := ite_f ho49041 hc49048
         refine pu 2 [(72, .slice a48594 (r48587.1).length c48595), (73, I (i49009 : Int))] ?_
         obtain ⟨g49050, o49051, c49052, hv49049⟩ := hst.rowv 2 rfl hx49043
         refine OW.idx 3 1 rfl rfl rfl rfl hv49049 rfl (idx_some hx49043).1 (idx_some hx49043).2.1 (by kernel_rfl) (by kernel_rfl) ?_
         refine OW.ld rfl rfl rfl rfl (by kernel_rfl) (hst.rowc 2 rfl (fun _ => rfl) hx49043 hv49049 0 _ rfl) ?_
         refine pu 5 [(80, .bool (decide (x49042 ≥ (m38 : Int))))] ?_
         refine OW.split 80 rfl (fun hc49053 => ?_) (fun hc49053 => ?_)
         ·have ho49041 := ite_t ho49041 hc49053
          refine pu 8 [(88, .bool true)] (OW.nil rfl ?_)
          obtain rfl := inj ho49041
          exact QW.meet (fun a ha => ⟨ha.ag, hst.keep [0, 1, 2] rfl⟩)
         have ho49041 := ite_f ho49041 hc49053
         refine pu 3 [(81, .slice (some ⟨g40, 0, none⟩) m38 m38), (82, .slice a48594 (r48587.1).length c48595), (83, I (i49009 : Int))] ?_
         obtain ⟨g49055, o49056, c49057, hv49054⟩ := hst.rowv 2 rfl hx49043
         refine OW.idx 3 1 rfl rfl rfl rfl hv49054 rfl (idx_some hx49043).1 (idx_some hx49043).2.1 (by kernel_rfl) (by kernel_rfl) ?_
         refine OW.ld rfl rfl rfl rfl (by kernel_rfl) (hst.rowc 2 rfl (fun _ => rfl) hx49043 hv49054 0 _ rfl) ?_
         obtain ⟨x49058, hx49059, ho49041⟩ := bs ho49041
         obtain ⟨g49061, o49062, c49063, hv49060⟩ := hst.rowv 1 rfl hx49059
         refine OW.idx 4 1 rfl rfl rfl rfl hv49060 rfl (idx_some hx49059).1 (idx_some hx49059).2.1 (by kernel_rfl) (by kernel_rfl) ?_
         refine OW.ld rfl rfl rfl rfl (by kernel_rfl) (hst.rowc 1 rfl (fun _ => rfl) hx49059 hv49060 0 _ rfl) ?_
         refine pu 1 [(88, .bool x49058)] (OW.nil rfl ?_)
         obtain rfl := inj ho49041
         exact QW.meet (fun a ha => ⟨ha.ag, hst.keep [0, 1, 2] rfl⟩)
        rintro a w1 ⟨ha, hst⟩
        refine CW.go ?_ ha
        refine br (o49040) hl49007 (fun hl49007 hc49064 => ?_) (fun hl49007 hc49064 => ?_)
        ·refine rg ?_
         refine pu 1 [(2, .bool false)] (nx (CW.ret (QW.then_ret (QW.block_ret (QW.then_ret (QW.then_ret (QW.block_ret (QW.then_ret (QW.then_ret (QW.block_ret (QW.then_ret (QW.then_ret (QW.block_ret (QW.then_ret ?_))))))))))))))
         obtain rfl := inj hl49007
         obtain rfl := inj ho48575
         obtain rfl := inj hl47987
         obtain rfl := inj hF
         refine QW.ret1 rfl rfl ?_
         exact ⟨rfl, hst.keep [] rfl⟩
        refine CW.skip (QW.next (CW.region ?_))
        refine pu 3 [(89, .slice (some ⟨g40, 0, none⟩) m38 m38), (90, .slice a48594 (r48587.1).length c48595), (91, I (i49009 : Int))] ?_
        obtain ⟨x49078, hx49079, hl49007⟩ := bs hl49007
        obtain ⟨g49081, o49082, c49083, hv49080⟩ := hst.rowv 2 rfl hx49079
        refine OW.idx 3 1 rfl rfl rfl rfl hv49080 rfl (idx_some hx49079).1 (idx_some hx49079).2.1 (by kernel_rfl) (by kernel_rfl) ?_
        refine OW.ld rfl rfl rfl rfl (by kernel_rfl) (hst.rowc 2 rfl (fun _ => rfl) hx49079 hv49080 0 _ rfl) ?_
        obtain ⟨x49084, hx49085, hl49007⟩ := bs hl49007
        obtain ⟨g49087, o49088, c49089, hv49086⟩ := hst.rowv 1 rfl hx49085
        refine OW.idx 4 1 rfl rfl rfl rfl hv49086 rfl (idx_some hx49085).1 (idx_some hx49085).2.1 (by kernel_rfl) (by kernel_rfl) ?_
        refine OW.stR hst 1 rfl hv49086 (fun _ => rfl) rfl rfl hx49085 0 rfl rfl rfl (by kernel_rfl) rfl rfl true rfl ?_
        intro w49090 hst
        refine OW.nil rfl (QW.block_normal (QW.next (CW.region ?_)))
        refine pu 3 [(9, I (w64 ((i49009 : Int) + 1)))] (OW.nil rfl ?_)
        refine QW.say 9 rfl (congrArg (Value.int .i64) (w64_cnt hc49011 l48593)) ?_
        exact QW.meet (fun a ha => ⟨n49006, Nat.lt_succ_self _, i49009 + 1, (s49008.set (Int.toNat x49078) true), cnt_next hi49010, ha.ag, hst.keep [0, 1, 2] rfl, hl49007⟩)
       rcases n49006 with _ | n49006
       ·refine CW.cond_f rfl hc49011 ?_
        refine CW.exit (QW.then_exit (QW.then_exit ?_))
        refine QW.block_here ?_
        obtain rfl := inj hl49007
        exact QW.meet (fun a ha => ⟨s49008, rfl, ha.ag, hst.keep [0, 1] rfl⟩)
       exact (cnt1 hi49010 hc49011).elim
      rintro a w1 ⟨t48844, rfl, ha, hst⟩
      refine QW.go ?_ ha
      obtain rfl := inj ho48575
      exact QW.meet (fun a ha => ⟨(r48587.2, t48844), S48591, rfl, ha.ag, hst.keep [0, 1] rfl⟩)
     refine rg ?_
     refine pu 1 [(96, Pt b32)] ?_
     refine OW.ldN (cs := [I x48009.Kind, I x48009.A, I x48009.B, .slice a48021 (x48009.Bytes).length c48022]) rfl rfl rfl rfl (by kernel_rfl) (by kernel_rfl) (hst.blkN 2 rfl 0 4) ?_
     obtain ⟨r49096, hr49097, ho48575⟩ := bs ho48575
     refine OW.fn rfl rfl rfl rfl (by kernel_rfl) (tappetlaw24_play_ok _ fu (Pt b32) S47989 s47988.1 (.slice a48021 (x48009.Bytes).length c48022) x48009 r49096 hr49097 (hst.part [0] rfl) (h48019.give hst [0]) (hT0.give hst [0]) (hT1.give hst [0])) ?_
     rintro e w49098 ⟨S49100, rfl, hst49099⟩
     refine ⟨_, rfl, ?_⟩
     have hst := hst.join (idx := [0]) (rest := [1, 2]) rfl hst49099
     refine pu 5 [(10, I r49096.1), (11, I r49096.2.1)] (nx (CW.seq ?_))
     obtain ⟨o49111, ho49112, ho48575⟩ := bs ho48575
     refine CW.cutK (fun a w1 => Rep 240 [(0, .slice a2 (p0).length c3), (3, Pt b32), (5, .slice (some ⟨g40, 0, none⟩) m38 m38), (6, I s47988.2.2), (123, .bool o49111)] a ∧ St w (fp []) w1 [itI R_t24 [Pt b32] S49100 r49096.2.2, rowI (.slice (some ⟨g40, 0, none⟩) m38 m38) 4 encBool 1 s47988.2.1]) ?_ ?_
     ·refine CW.region ?_
      refine pu 1 [(101, Pt b48023)] ?_
      refine OW.ld rfl rfl rfl rfl (by kernel_rfl) (hst.blk 2 rfl rfl) ?_
      refine pu 2 [(104, .bool (x48009.Kind == 0))] ?_
      refine OW.split 104 rfl (fun hc49113 => ?_) (fun hc49113 => ?_)
      ·have ho49112 := ite_t ho49112 hc49113
       refine pu 4 [(108, .bool (r49096.2.1 == 0))] ?_
       refine OW.split 108 rfl (fun hc49114 => ?_) (fun hc49114 => ?_)
       ·have ho49112 := ite_t ho49112 hc49114
        refine pu 3 [(111, .bool (decide (r49096.1 < 1)))] ?_
        refine OW.split 111 rfl (fun hc49115 => ?_) (fun hc49115 => ?_)
        ·have ho49112 := ite_t ho49112 hc49115
         refine pu 12 [(123, .bool true)] (OW.nil rfl ?_)
         obtain rfl := inj ho49112
         exact QW.meet (fun a ha => ⟨ha.ag, hst.keep [0, 1] rfl⟩)
        have ho49112 := ite_f ho49112 hc49115
        refine pu 6 [(117, .bool (decide (r49096.1 ≥ (m38 : Int))))] ?_
        refine OW.split 117 rfl (fun hc49116 => ?_) (fun hc49116 => ?_)
        ·have ho49112 := ite_t ho49112 hc49116
         refine pu 6 [(123, .bool true)] (OW.nil rfl ?_)
         obtain rfl := inj ho49112
         exact QW.meet (fun a ha => ⟨ha.ag, hst.keep [0, 1] rfl⟩)
        have ho49112 := ite_f ho49112 hc49116
        refine pu 2 [(118, .slice (some ⟨g40, 0, none⟩) m38 m38), (119, I r49096.1)] ?_
        obtain ⟨x49117, hx49118, ho49112⟩ := bs ho49112
        obtain ⟨g49120, o49121, c49122, hv49119⟩ := hst.rowv 1 rfl hx49118
        refine OW.idx 4 1 rfl rfl rfl rfl hv49119 rfl (idx_some hx49118).1 (idx_some hx49118).2.1 (by kernel_rfl) (by kernel_rfl) ?_
        refine OW.ld rfl rfl rfl rfl (by kernel_rfl) (hst.rowc 1 rfl (fun _ => rfl) hx49118 hv49119 0 _ rfl) ?_
        refine pu 2 [(123, .bool x49117)] (OW.nil rfl ?_)
        obtain rfl := inj ho49112
        exact QW.meet (fun a ha => ⟨ha.ag, hst.keep [0, 1] rfl⟩)
       have ho49112 := ite_f ho49112 hc49114
       refine pu 15 [(123, .bool false)] (OW.nil rfl ?_)
       obtain rfl := inj ho49112
       exact QW.meet (fun a ha => ⟨ha.ag, hst.keep [0, 1] rfl⟩)
      have ho49112 := ite_f ho49112 hc49113
      refine pu 19 [(123, .bool false)] (OW.nil rfl ?_)
      obtain rfl := inj ho49112
      exact QW.meet (fun a ha => ⟨ha.ag, hst.keep [0, 1] rfl⟩)
     rintro a w1 ⟨ha, hst⟩
     refine CW.go ?_ ha
     refine br (o49111) ho48575 (fun ho48575 hc49123 => ?_) (fun ho48575 hc49123 => ?_)
     ·refine rg ?_
      refine pu 1 [(2, .bool false)] (nx (CW.ret (QW.then_ret (QW.block_ret (QW.then_ret (QW.then_ret (QW.block_ret (QW.then_ret ?_))))))))
      obtain rfl := inj ho48575
      obtain rfl := inj hl47987
      obtain rfl := inj hF
      refine QW.ret1 rfl rfl ?_
      exact ⟨rfl, hst.keep [] rfl⟩
     refine CW.skip ?_
     obtain rfl := inj ho48575
     exact QW.meet (fun a ha => ⟨(r49096.2.2, s47988.2.1), S49100, rfl, ha.ag, hst.keep [0, 1] rfl⟩)
    rintro a w1 ⟨t48576, S48573, rfl, ha, hst⟩
    refine CW.go ?_ ha
    refine rg ?_
    refine pu 1 [(124, Pt b32)] ?_
    obtain ⟨r49149, hr49150, hl47987⟩ := bs hl47987
    refine OW.fn rfl rfl rfl rfl (by kernel_rfl) (registry_Registry_Live_ok _ (Pt b32) S48573 t48576.1 r49149 hr49150 (hst.part [0] rfl)) ?_
    rintro e w49151 ⟨S49153, v49154, rfl, hst49152⟩
    refine ⟨_, rfl, ?_⟩
    have hst := hst.join (idx := [0]) (rest := [1]) rfl hst49152
    obtain ⟨l49155, a49156, c49157, rfl⟩ := hst.len 1 rfl
    refine pu 1 [(126, Pt b32)] ?_
    obtain ⟨r49158, hr49159, hl47987⟩ := bs hl47987
    refine OW.fn rfl rfl rfl rfl (by kernel_rfl) (registry_Registry_Retiring_ok _ (Pt b32) S49153 t48576.1 r49158 hr49159 (hst.part [0] rfl)) ?_
    rintro e w49160 ⟨S49162, v49163, rfl, hst49161⟩
    refine ⟨_, rfl, ?_⟩
    have hst := hst.join (idx := [0]) (rest := [1, 2]) rfl hst49161
    obtain ⟨l49164, a49165, c49166, rfl⟩ := hst.len 1 rfl
    obtain ⟨u49167, hr49168, hl47987⟩ := bs hl47987
    refine OW.app hst 2 rfl (fun _ => rfl) (fun _ => rfl) rfl rfl rfl rfl rfl rfl (by kernel_rfl) el3 (hst.rd 1 rfl (fun _ => rfl) [] rfl (hst.len 1 rfl).1) (room_le hr49168) ?_
    intro v49169 w49170 hst
    obtain ⟨l49171, a49172, c49173, rfl⟩ := hst.len 2 rfl
    refine pu 1 [(12, .slice a49172 ((r49149 ++ r49158)).length c49173)] (nx (rg ?_))
    refine pu 1 [(13, I 0)] (nx ?_)
    obtain ⟨o53374, ho53375, hl47987⟩ := bs hl47987
    refine CW.cutQ (fun a w1 => ∃ (t53376 : Unit) (S53373 : List Nat), o53374 = .inl t53376 ∧ Rep 240 [(0, .slice a2 (p0).length c3), (3, Pt b32), (5, .slice (some ⟨g40, 0, none⟩) m38 m38), (6, I s47988.2.2)] a ∧ St w (fp []) w1 [itI R_t24 [Pt b32] S53373 t48576.1, rowI (.slice (some ⟨g40, 0, none⟩) m38 m38) 4 encBool 1 t48576.2]) ?_ ?_
    ·refine CW.block ?_
     refine CW.loop (fun n a w1 => ∃ (i56177 : Nat) (s56175 : Unit) (S56176 : List Nat), i56177 + n = 4 ∧ Rep 240 [(0, .slice a2 (p0).length c3), (3, Pt b32), (5, .slice (some ⟨g40, 0, none⟩) m38 m38), (6, I s47988.2.2), (12, .slice a49172 ((r49149 ++ r49158)).length c49173), (13, I (i56177 : Int))] a ∧ St w (fp []) w1 [itI R_t24 [Pt b32] S56176 t48576.1, rowI (.slice (some ⟨g40, 0, none⟩) m38 m38) 4 encBool 1 t48576.2, rowI (.slice a49172 ((r49149 ++ r49158)).length c49173) 3 (encInt .i64) 1 (r49149 ++ r49158)] ∧ forN (tappetlaw24_RegistryRefs_l3 m38 t48576 r49149 r49158) (fun (s56175 : Unit) => (.inl ())) n i56177 s56175 = some o53374) 4 (fun a ha => ⟨0, (), S49162, Nat.zero_add _, ha.ag, hst.keep [0, 3, 2] rfl, ho53375⟩) ?_
     rintro n56173 a w1 ⟨i56177, s56175, S56176, hi56178, ha, hst, hl56174⟩
     refine CW.go ?_ ha
     refine CW.seq (rg ?_)
     refine pu 2 [(130, .bool (decide ((i56177 : Int) < 4)))] (nx ?_)
     rcases bft (decide ((i56177 : Int) < 4)) with hc56179 | hc56179
     ·rcases n56173 with _ | n56173
      ·exact (cnt0 hi56178 hc56179).elim
      refine CW.cond_t rfl hc56179 (CW.skip (QW.next (CW.seq (CW.block (rg ?_)))))
      refine pu 1 [(14, I 0)] (nx (CW.seq (rg ?_)))
      refine pu 1 [(15, I 0)] (nx ?_)
      obtain ⟨o56862, ho56863, hl56174⟩ := bs hl56174
      refine CW.cutK (fun a w1 => ∃ (t56864 : Int) (S56861 : List Nat), o56862 = .inl t56864 ∧ Rep 240 [(0, .slice a2 (p0).length c3), (3, Pt b32), (5, .slice (some ⟨g40, 0, none⟩) m38 m38), (6, I s47988.2.2), (12, .slice a49172 ((r49149 ++ r49158)).length c49173), (13, I (i56177 : Int)), (14, I t56864)] a ∧ St w (fp []) w1 [itI R_t24 [Pt b32] S56861 t48576.1, rowI (.slice (some ⟨g40, 0, none⟩) m38 m38) 4 encBool 1 t48576.2, rowI (.slice a49172 ((r49149 ++ r49158)).length c49173) 3 (encInt .i64) 1 (r49149 ++ r49158)]) ?_ ?_
      ·refine CW.block ?_
       refine CW.loop (fun n a w1 => ∃ (i57320 : Nat) (s57318 : Int) (S57319 : List Nat), i57320 + n = ((r49149 ++ r49158)).length ∧ Rep 240 [(0, .slice a2 (p0).length c3), (3, Pt b32), (5, .slice (some ⟨g40, 0, none⟩) m38 m38), (6, I s47988.2.2), (12, .slice a49172 ((r49149 ++ r49158)).length c49173), (13, I (i56177 : Int)), (14, I s57318), (15, I (i57320 : Int))] a ∧ St w (fp []) w1 [itI R_t24 [Pt b32] S57319 t48576.1, rowI (.slice (some ⟨g40, 0, none⟩) m38 m38) 4 encBool 1 t48576.2, rowI (.slice a49172 ((r49149 ++ r49158)).length c49173) 3 (encInt .i64) 1 (r49149 ++ r49158)] ∧ forN (tappetlaw24_RegistryRefs_l4 m38 t48576 r49149 r49158 i56177) (fun (s57318 : Int) => (.inl s57318)) n i57320 s57318 = some o56862) ((r49149 ++ r49158)).length (fun a ha => ⟨0, 0, S56176, Nat.zero_add _, ha.ag, hst.keep [0, 1, 2] rfl, ho56863⟩) ?_
       rintro n57316 a w1 ⟨i57320, s57318, S57319, hi57321, ha, hst, hl57317⟩
       refine CW.go ?_ ha
       refine CW.seq (rg ?_)
       refine pu 4 [(136, .bool (decide ((i57320 : Int) < (((r49149 ++ r49158)).length : Int))))] (nx ?_)
       rcases bft (decide ((i57320 : Int) < (((r49149 ++ r49158)).length : Int))) with hc57322 | hc57322
       ·rcases n57316 with _ | n57316
        ·exact (cnt0 hi57321 hc57322).elim
        refine CW.cond_t rfl hc57322 (CW.skip (QW.next (CW.seq (CW.block (rg ?_)))))
        refine pu 3 [(140, Pt b32), (141, .slice a49172 ((r49149 ++ r49158)).length c49173), (142, I (i57320 : Int))] ?_
        obtain ⟨x57363, hx57364, hl57317⟩ := bs hl57317
        obtain ⟨g57366, o57367, c57368, hv57365⟩ := hst.rowv 2 rfl hx57364
        refine OW.idx 3 1 rfl rfl rfl rfl hv57365 rfl (idx_some hx57364).1 (idx_some hx57364).2.1 (by kernel_rfl) (by kernel_rfl) ?_
        refine OW.ld rfl rfl rfl rfl (by kernel_rfl) (hst.rowc 2 rfl (fun _ => rfl) hx57364 hv57365 0 _ rfl) ?_
        obtain ⟨r57369, hr57370, hl57317⟩ := bs hl57317
        refine OW.fn rfl rfl rfl rfl (by kernel_rfl) (registry_Registry_Module_ok _ (Pt b32) S57319 t48576.1 x57363 r57369 hr57370 (hst.part [0] rfl)) ?_
        rintro e w57371 ⟨S57373, v57374, v57375, rfl, hst57372⟩
        refine ⟨_, rfl, ?_⟩
        have hst := hst.join (idx := [0]) (rest := [1, 2]) rfl hst57372
        obtain ⟨l57394, a57395, c57396, rfl⟩ := hst.len 1 rfl
        obtain ⟨l57397, a57398, c57399, rfl⟩ := hst.len 2 rfl
        refine pu 3 [(146, .agg [.slice a57395 (r57369.1.Maps).length c57396, .slice a57398 (r57369.1.Code).length c57399].toArray), (147, .bool r57369.2)] ?_
        refine OW.alloc hst rfl rfl rfl [.slice none 0 0, .slice none 0 0] (by kernel_rfl) ?_
        intro b57400 w57401 hst
        refine OW.stB hst 5 rfl rfl rfl rfl rfl (by kernel_rfl) rfl rfl [.slice a57395 (r57369.1.Maps).length c57396, .slice a57398 (r57369.1.Code).length c57399] rfl ?_
        intro w57402 hst
        refine pu 1 [(17, .bool r57369.2)] (nx (CW.seq (CW.seq ?_)))
        obtain ⟨o57424, ho57425, hl57317⟩ := bs hl57317
        refine CW.cutK (fun a w1 => Rep 240 [(0, .slice a2 (p0).length c3), (3, Pt b32), (5, .slice (some ⟨g40, 0, none⟩) m38 m38), (6, I s47988.2.2), (12, .slice a49172 ((r49149 ++ r49158)).length c49173), (13, I (i56177 : Int)), (14, I s57318), (15, I (i57320 : Int)), (16, Pt b57400), (174, .bool o57424)] a ∧ St w (fp []) w1 [itI R_t24 [Pt b32] S57373 t48576.1, rowI (.slice (some ⟨g40, 0, none⟩) m38 m38) 4 encBool 1 t48576.2, rowI (.slice a49172 ((r49149 ++ r49158)).length c49173) 3 (encInt .i64) 1 (r49149 ++ r49158), blkI b57400 31 [.slice a57395 (r57369.1.Maps).length c57396, .slice a57398 (r57369.1.Code).length c57399], rowI (.slice a57395 (r57369.1.Maps).length c57396) 3 (encInt .i64) 1 r57369.1.Maps, rowI (.slice a57398 (r57369.1.Code).length c57399) 42 enc_api_Inst 5 r57369.1.Code]) ?_ ?_
        ·refine CW.region ?_
         refine pu 3 [(150, .bool (!r57369.2))] ?_
         refine OW.split 150 rfl (fun hc57426 => ?_) (fun hc57426 => ?_)
         ·have ho57425 := ite_t ho57425 hc57426
          refine pu 24 [(174, .bool true)] (OW.nil rfl ?_)
          obtain rfl := inj ho57425
          exact QW.meet (fun a ha => ⟨ha.ag, hst.keep [0, 3, 4, 5, 1, 2] rfl⟩)
         have ho57425 := ite_f ho57425 hc57426
         refine pu 2 [(151, .slice a49172 ((r49149 ++ r49158)).length c49173), (152, I (i57320 : Int))] ?_
         obtain ⟨g57428, o57429, c57430, hv57427⟩ := hst.rowv 4 rfl hx57364
         refine OW.idx 3 1 rfl rfl rfl rfl hv57427 rfl (idx_some hx57364).1 (idx_some hx57364).2.1 (by kernel_rfl) (by kernel_rfl) ?_
         refine OW.ld rfl rfl rfl rfl (by kernel_rfl) (hst.rowc 4 rfl (fun _ => rfl) hx57364 hv57427 0 _ rfl) ?_
         refine pu 3 [(157, .bool (decide (x57363 < 1)))] ?_
         refine OW.split 157 rfl (fun hc57431 => ?_) (fun hc57431 => ?_)
         ·have ho57425 := ite_t ho57425 hc57431
          refine pu 17 [(174, .bool true)] (OW.nil rfl ?_)
          obtain rfl := inj ho57425
          exact QW.meet (fun a ha => ⟨ha.ag, hst.keep [0, 3, 4, 5, 1, 2] rfl⟩)
         have ho57425 := ite_f ho57425 hc57431
         refine pu 2 [(158, .slice a49172 ((r49149 ++ r49158)).length c49173), (159, I (i57320 : Int))] ?_
         obtain ⟨g57433, o57434, c57435, hv57432⟩ := hst.rowv 4 rfl hx57364
         refine OW.idx 3 1 rfl rfl rfl rfl hv57432 rfl (idx_some hx57364).1 (idx_some hx57364).2.1 (by kernel_rfl) (by kernel_rfl) ?_
         refine OW.ld rfl rfl rfl rfl (by kernel_rfl) (hst.rowc 4 rfl (fun _ => rfl) hx57364 hv57432 0 _ rfl) ?_
         refine pu 5 [(166, .bool (decide (x57363 ≥ (m38 : Int))))] ?_
         refine OW.split 166 rfl (fun hc57436 => ?_) (fun hc57436 => ?_)
         ·have ho57425 := ite_t ho57425 hc57436
          refine pu 8 [(174, .bool true)] (OW.nil rfl ?_)
          obtain rfl := inj ho57425
          exact QW.meet (fun a ha => ⟨ha.ag, hst.keep [0, 3, 4, 5, 1, 2] rfl⟩)
         have ho57425 := ite_f ho57425 hc57436
         refine pu 3 [(167, .slice (some ⟨g40, 0, none⟩) m38 m38), (168, .slice a49172 ((r49149 ++ r49158)).length c49173), (169, I (i57320 : Int))] ?_
         obtain ⟨g57438, o57439, c57440, hv57437⟩ := hst.rowv 4 rfl hx57364
         refine OW.idx 3 1 rfl rfl rfl rfl hv57437 rfl (idx_some hx57364).1 (idx_some hx57364).2.1 (by kernel_rfl) (by kernel_rfl) ?_
         refine OW.ld rfl rfl rfl rfl (by kernel_rfl) (hst.rowc 4 rfl (fun _ => rfl) hx57364 hv57437 0 _ rfl) ?_
         obtain ⟨x57441, hx57442, ho57425⟩ := bs ho57425
         obtain ⟨g57444, o57445, c57446, hv57443⟩ := hst.rowv 3 rfl hx57442
         refine OW.idx 4 1 rfl rfl rfl rfl hv57443 rfl (idx_some hx57442).1 (idx_some hx57442).2.1 (by kernel_rfl) (by kernel_rfl) ?_
         refine OW.ld rfl rfl rfl rfl (by kernel_rfl) (hst.rowc 3 rfl (fun _ => rfl) hx57442 hv57443 0 _ rfl) ?_
         refine pu 1 [(174, .bool x57441)] (OW.nil rfl ?_)
         obtain rfl := inj ho57425
         exact QW.meet (fun a ha => ⟨ha.ag, hst.keep [0, 3, 4, 5, 1, 2] rfl⟩)
        rintro a w1 ⟨ha, hst⟩
        refine CW.go ?_ ha
        refine br (o57424) hl57317 (fun hl57317 hc57447 => ?_) (fun hl57317 hc57447 => ?_)
        ·refine rg ?_
         refine pu 1 [(2, .bool false)] (nx (CW.ret (QW.then_ret (QW.block_ret (QW.then_ret (QW.then_ret (QW.block_ret (QW.then_ret (QW.block_ret (QW.then_ret (QW.then_ret (QW.block_ret (QW.then_ret (QW.block_ret (QW.then_ret (QW.then_ret (QW.block_ret (QW.then_ret ?_))))))))))))))))))
         obtain rfl := inj hl57317
         obtain rfl := inj hl56174
         obtain rfl := inj hl47987
         obtain rfl := inj hF
         refine QW.ret1 rfl rfl ?_
         exact ⟨rfl, hst.keep [] rfl⟩
        refine CW.skip (QW.next (rg ?_))
        refine pu 1 [(18, I 0)] (nx ?_)
        obtain ⟨o57496, ho57497, hl57317⟩ := bs hl57317
        refine CW.cutQ (fun a w1 => Rep 240 [(0, .slice a2 (p0).length c3), (3, Pt b32), (5, .slice (some ⟨g40, 0, none⟩) m38 m38), (6, I s47988.2.2), (12, .slice a49172 ((r49149 ++ r49158)).length c49173), (13, I (i56177 : Int)), (14, I o57496), (15, I (i57320 : Int))] a ∧ St w (fp []) w1 [itI R_t24 [Pt b32] S57373 t48576.1, rowI (.slice (some ⟨g40, 0, none⟩) m38 m38) 4 encBool 1 t48576.2, rowI (.slice a49172 ((r49149 ++ r49158)).length c49173) 3 (encInt .i64) 1 (r49149 ++ r49158)]) ?_ ?_
        ·refine CW.block ?_
         refine CW.loop (fun n a w1 => ∃ (i57530 : Nat) (s57529 : Int), i57530 + n = (r57369.1.Maps).length ∧ Rep 240 [(0, .slice a2 (p0).length c3), (3, Pt b32), (5, .slice (some ⟨g40, 0, none⟩) m38 m38), (6, I s47988.2.2), (12, .slice a49172 ((r49149 ++ r49158)).length c49173), (13, I (i56177 : Int)), (14, I s57529), (15, I (i57320 : Int)), (16, Pt b57400), (18, I (i57530 : Int))] a ∧ St w (fp []) w1 [itI R_t24 [Pt b32] S57373 t48576.1, rowI (.slice (some ⟨g40, 0, none⟩) m38 m38) 4 encBool 1 t48576.2, rowI (.slice a49172 ((r49149 ++ r49158)).length c49173) 3 (encInt .i64) 1 (r49149 ++ r49158), blkI b57400 31 [.slice a57395 (r57369.1.Maps).length c57396, .slice a57398 (r57369.1.Code).length c57399], rowI (.slice a57395 (r57369.1.Maps).length c57396) 3 (encInt .i64) 1 r57369.1.Maps, rowI (.slice a57398 (r57369.1.Code).length c57399) 42 enc_api_Inst 5 r57369.1.Code] ∧ forN (tappetlaw24_RegistryRefs_l5 i56177 r57369) (fun (s57529 : Int) => s57529) n i57530 s57529 = some o57496) (r57369.1.Maps).length (fun a ha => ⟨0, s57318, Nat.zero_add _, ha.ag, hst.keep [0, 1, 2, 3, 4, 5] rfl, ho57497⟩) ?_
         rintro n57527 a w1 ⟨i57530, s57529, hi57531, ha, hst, hl57528⟩
         refine CW.go ?_ ha
         refine CW.seq (rg ?_)
         refine pu 2 [(175, I (i57530 : Int)), (176, Pt b57400)] ?_
         refine OW.ld rfl rfl rfl rfl (by kernel_rfl) (hst.blk 3 rfl rfl) ?_
         refine pu 2 [(179, .bool (decide ((i57530 : Int) < ((r57369.1.Maps).length : Int))))] (nx ?_)
         rcases bft (decide ((i57530 : Int) < ((r57369.1.Maps).length : Int))) with hc57532 | hc57532
         ·rcases n57527 with _ | n57527
          ·exact (cnt0 hi57531 hc57532).elim
          refine CW.cond_t rfl hc57532 (CW.skip (QW.next (CW.seq (CW.block (rg ?_)))))
          refine pu 1 [(182, Pt b57400)] ?_
          refine OW.ld rfl rfl rfl rfl (by kernel_rfl) (hst.blk 3 rfl rfl) ?_
          refine pu 1 [(184, I (i57530 : Int))] ?_
          obtain ⟨x57539, hx57540, hl57528⟩ := bs hl57528
          obtain ⟨g57542, o57543, c57544, hv57541⟩ := hst.rowv 4 rfl hx57540
          refine OW.idx 3 1 rfl rfl rfl rfl hv57541 rfl (idx_some hx57540).1 (idx_some hx57540).2.1 (by kernel_rfl) (by kernel_rfl) ?_
          refine OW.ld rfl rfl rfl rfl (by kernel_rfl) (hst.rowc 4 rfl (fun _ => rfl) hx57540 hv57541 0 _ rfl) ?_
          refine pu 2 [(188, .bool (x57539 == (i56177 : Int)))] (nx ?_)
          refine br ((x57539 == (i56177 : Int))) hl57528 (fun hl57528 hc57545 => ?_) (fun hl57528 hc57545 => ?_)
          ·refine CW.region ?_
           refine pu 3 [(14, I (w64 (s57529 + 1)))] (OW.nil rfl (QW.block_normal (QW.next (CW.region ?_))))
           refine pu 3 [(18, I (w64 ((i57530 : Int) + 1)))] (OW.nil rfl ?_)
           refine QW.say 18 rfl (congrArg (Value.int .i64) (w64_cnt hc57532 l57394)) ?_
           exact QW.meet (fun a ha => ⟨n57527, Nat.lt_succ_self _, i57530 + 1, (w64 (s57529 + 1)), cnt_next hi57531, ha.ag, hst.keep [0, 1, 2, 3, 4, 5] rfl, hl57528⟩)
          refine CW.skip (QW.block_normal (QW.next (CW.region ?_)))
          refine pu 3 [(18, I (w64 ((i57530 : Int) + 1)))] (OW.nil rfl ?_)
          refine QW.say 18 rfl (congrArg (Value.int .i64) (w64_cnt hc57532 l57394)) ?_
          exact QW.meet (fun a ha => ⟨n57527, Nat.lt_succ_self _, i57530 + 1, s57529, cnt_next hi57531, ha.ag, hst.keep [0, 1, 2, 3, 4, 5] rfl, hl57528⟩)
         rcases n57527 with _ | n57527
         ·refine CW.cond_f rfl hc57532 ?_
          refine CW.exit (QW.then_exit (QW.then_exit ?_))
          refine QW.block_here ?_
          obtain rfl := inj hl57528
          exact QW.meet (fun a ha => ⟨ha.ag, hst.keep [0, 1, 2] rfl⟩)
         exact (cnt1 hi57531 hc57532).elim
        rintro a w1 ⟨ha, hst⟩
        refine QW.go ?_ ha
        refine QW.block_normal (QW.next (CW.region ?_))
        refine pu 3 [(15, I (w64 ((i57320 : Int) + 1)))] (OW.nil rfl ?_)
        refine QW.say 15 rfl (congrArg (Value.int .i64) (w64_cnt hc57322 l49171)) ?_
        exact QW.meet (fun a ha => ⟨n57316, Nat.lt_succ_self _, i57320 + 1, o57496, S57373, cnt_next hi57321, ha.ag, hst.keep [0, 1, 2] rfl, hl57317⟩)
       rcases n57316 with _ | n57316
       ·refine CW.cond_f rfl hc57322 ?_
        refine CW.exit (QW.then_exit (QW.then_exit ?_))
        refine QW.block_here ?_
        obtain rfl := inj hl57317
        exact QW.meet (fun a ha => ⟨s57318, S57319, rfl, ha.ag, hst.keep [0, 1, 2] rfl⟩)
       exact (cnt1 hi57321 hc57322).elim
      rintro a w1 ⟨t56864, S56861, rfl, ha, hst⟩
      refine CW.go ?_ ha
      refine CW.seq ?_
      obtain ⟨v57546, S57547, v57548, S57549, v57550, S57551, v57552, S57553, v57554, S57555, hst⟩ := hst.openQ5 0 rfl rfl rfl rfl rfl rfl
      obtain ⟨r57556, rfl, hst⟩ := hst.toMN1 6 rfl
      have hst := hst.toRow1 7 rfl
      obtain ⟨b57557, rfl⟩ := hst.fptr 3 rfl
      obtain ⟨b57558, rfl⟩ := hst.fptr 4 rfl
      obtain ⟨b57559, rfl⟩ := hst.fptr 5 rfl
      obtain ⟨l57560, a57561, c57562, rfl⟩ := hst.len 7 rfl
      have hst : St _ _ _ [blkI b32 58 [Pt b57557, Pt b57558, Pt b57559, I t48576.1.hooks, I t48576.1.maps, I t48576.1.given, .map (some r57556), .slice a57561 (t48576.1.waiting).length c57562], _, _, _, _, _, _, _] := hst
      refine CW.region ?_
      refine pu 3 [(194, .pointer (some ⟨b32, 1, none⟩))] ?_
      refine OW.ld rfl rfl rfl rfl (by kernel_rfl) (hst.blk 0 rfl rfl) ?_
      refine pu 1 [(196, I (i56177 : Int))] ?_
      obtain ⟨r57568, hr57569, hl56174⟩ := bs hl56174
      refine OW.fn rfl rfl rfl rfl (by kernel_rfl) (refs_Refs_Count_ok _ (Pt b57558) S57549 t48576.1.Refs (i56177 : Int) r57568 hr57569 (hst.part [4] rfl)) ?_
      rintro e w57570 ⟨S57572, rfl, hst57571⟩
      refine ⟨_, rfl, ?_⟩
      have hst := hst.join (idx := [4]) (rest := [0, 1, 2, 3, 5, 6, 7]) rfl hst57571
      refine pu 5 [(19, I r57568.1), (20, I r57568.2)] (nx (CW.seq ?_))
      refine CW.cutK (fun a w1 => Rep 240 [(0, .slice a2 (p0).length c3), (3, Pt b32), (5, .slice (some ⟨g40, 0, none⟩) m38 m38), (6, I s47988.2.2), (12, .slice a49172 ((r49149 ++ r49158)).length c49173), (13, I (i56177 : Int)), (206, .bool ((r57568.1 != t56864) || (r57568.2 != 0)))] a ∧ St w (fp []) w1 [itI R_t54 [Pt b57558] S57572 t48576.1.Refs, blkI b32 58 [Pt b57557, Pt b57558, Pt b57559, I t48576.1.hooks, I t48576.1.maps, I t48576.1.given, .map (some r57556), .slice a57561 (t48576.1.waiting).length c57562], rowI (.slice (some ⟨g40, 0, none⟩) m38 m38) 4 encBool 1 t48576.2, rowI (.slice a49172 ((r49149 ++ r49158)).length c49173) 3 (encInt .i64) 1 (r49149 ++ r49158), itI R_t53 [Pt b57557] S57547 t48576.1.Table, itI R_t55 [Pt b57559] S57551 t48576.1.Clock, mN r57556 R_t95 S57553 t48576.1.progs none, rowI (.slice a57561 (t48576.1.waiting).length c57562) 3 (encInt .i64) 1 t48576.1.waiting]) ?_ ?_
      ·refine CW.region ?_
       refine pu 4 [(203, .bool (r57568.1 != t56864))] ?_
       refine OW.split 203 rfl (fun hc57573 => ?_) (fun hc57573 => ?_)
       ·refine pu 3 [(206, .bool true)] (OW.nil rfl ?_)
        refine QW.say 206 (v := .bool ((r57568.1 != t56864) || (r57568.2 != 0))) rfl (by first | (rw [hc57573]; done) | (rw [hc57573]; rfl) | simp [hc57573]) ?_
        exact QW.meet (fun a ha => ⟨ha.ag, hst.keep [0, 1, 2, 3, 4, 5, 6, 7] rfl⟩)
       refine pu 3 [(206, .bool (r57568.2 != 0))] (OW.nil rfl ?_)
       refine QW.say 206 (v := .bool ((r57568.1 != t56864) || (r57568.2 != 0))) rfl (by first | (rw [hc57573]; done) | (rw [hc57573]; rfl) | simp [hc57573]) ?_
       exact QW.meet (fun a ha => ⟨ha.ag, hst.keep [0, 1, 2, 3, 4, 5, 6, 7] rfl⟩)
      rintro a w1 ⟨ha, hst⟩
      refine CW.go ?_ ha
      refine br (((r57568.1 != t56864) || (r57568.2 != 0))) hl56174 (fun hl56174 hc57574 => ?_) (fun hl56174 hc57574 => ?_)
      ·refine rg ?_
       refine pu 1 [(2, .bool false)] (nx (CW.ret (QW.block_ret (QW.then_ret (QW.then_ret (QW.block_ret (QW.then_ret (QW.block_ret (QW.then_ret (QW.then_ret (QW.block_ret (QW.then_ret ?_))))))))))))
       obtain rfl := inj hl56174
       obtain rfl := inj hl47987
       obtain rfl := inj hF
       refine QW.ret1 rfl rfl ?_
       exact ⟨rfl, hst.keep [] rfl⟩
      refine CW.skip (QW.block_normal (QW.next (CW.region ?_)))
      refine pu 3 [(13, I (w64 ((i56177 : Int) + 1)))] (OW.nil rfl ?_)
      have hst := hst.ofMN 6 rfl
      have hst := hst.toIt 7 rfl (fun _ => rfl) (by decide)
      obtain ⟨S57575, hst⟩ := hst.shutP5 R_t58 rfl 1 4 0 5 6 7 [2, 3] rfl rfl rfl rfl rfl rfl rfl t48576.1 rfl rfl
      refine QW.say 13 rfl (congrArg (Value.int .i64) (w64_cnt hc56179 (by decide))) ?_
      exact QW.meet (fun a ha => ⟨n56173, Nat.lt_succ_self _, i56177 + 1, (), S57575, cnt_next hi56178, ha.ag, hst.keep [2, 0, 1] rfl, hl56174⟩)
     rcases n56173 with _ | n56173
     ·refine CW.cond_f rfl hc56179 ?_
      refine CW.exit (QW.then_exit (QW.then_exit ?_))
      refine QW.block_here ?_
      obtain rfl := inj hl56174
      exact QW.meet (fun a ha => ⟨(), S56176, rfl, ha.ag, hst.keep [0, 1] rfl⟩)
     exact (cnt1 hi56178 hc56179).elim
    rintro a w1 ⟨t53376, S53373, rfl, ha, hst⟩
    refine QW.go ?_ ha
    refine QW.block_normal (QW.next (CW.region ?_))
    refine pu 3 [(6, I (w64 (s47988.2.2 + 1)))] (OW.nil rfl ?_)
    exact QW.meet (fun a ha => ⟨n47986, Nat.lt_succ_self _, (t48576.1, t48576.2, w64 (s47988.2.2 + 1)), S53373, ha.ag, hst.keep [0, 1] rfl, hl47987⟩)
   refine CW.exit (QW.then_exit (QW.then_exit ?_))
   refine QW.block_here ?_
   obtain rfl := inj hl47987
   exact QW.meet (fun a ha => ⟨(s47988.1, s47988.2.1), S47989, rfl, ha.ag, hst.keep [0, 1] rfl⟩)
  rintro a w1 ⟨t28810, S28807, rfl, ha, hst⟩
  refine CW.go ?_ ha
  refine CW.seq (rg ?_)
  refine pu 1 [(21, I 0)] (nx ?_)
  obtain ⟨o57905, ho57906, hF⟩ := bs hF
  refine CW.cutK (fun a w1 => ∃ (t57907 : Unit), o57905 = .inl t57907 ∧ Rep 240 [] a ∧ St w (fp []) w1 []) ?_ ?_
  ·refine CW.block ?_
   obtain ⟨u58129, hr58130, ho57906⟩ := bs ho57906
   refine CW.loop (fun n a w1 => ∃ (i58127 : Nat) (s58125 : registry_Registry) (S58126 : List Nat), i58127 + n = m38 ∧ Rep 240 [(3, Pt b32), (5, .slice (some ⟨g40, 0, none⟩) m38 m38), (21, I (i58127 : Int))] a ∧ St w (fp []) w1 [itI R_t24 [Pt b32] S58126 s58125, rowI (.slice (some ⟨g40, 0, none⟩) m38 m38) 4 encBool 1 t28810.2] ∧ forN (tappetlaw24_RegistryRefs_l6 t28810) (fun (s58125 : registry_Registry) => (.inl ())) n i58127 s58125 = some o57905) m38 (fun a ha => ⟨0, t28810.1, S28807, Nat.zero_add _, ha.ag, hst.keep [0, 1] rfl, ho57906⟩) ?_
   rintro n58123 a w1 ⟨i58127, s58125, S58126, hi58128, ha, hst, hl58124⟩
   refine CW.go ?_ ha
   refine CW.seq (rg ?_)
   refine pu 4 [(210, .bool (decide ((i58127 : Int) < (m38 : Int))))] (nx ?_)
   rcases bft (decide ((i58127 : Int) < (m38 : Int))) with hc58131 | hc58131
   ·rcases n58123 with _ | n58123
    ·exact (cnt0 hi58128 hc58131).elim
    refine CW.cond_t rfl hc58131 (CW.skip (QW.next (CW.seq (CW.block (rg ?_)))))
    refine pu 2 [(214, Pt b32), (215, I (i58127 : Int))] ?_
    obtain ⟨r58166, hr58167, hl58124⟩ := bs hl58124
    refine OW.fn rfl rfl rfl rfl (by kernel_rfl) (registry_Registry_Module_ok _ (Pt b32) S58126 s58125 (i58127 : Int) r58166 hr58167 (hst.part [0] rfl)) ?_
    rintro e w58168 ⟨S58170, v58171, v58172, rfl, hst58169⟩
    refine ⟨_, rfl, ?_⟩
    have hst := hst.join (idx := [0]) (rest := [1]) rfl hst58169
    obtain ⟨l58191, a58192, c58193, rfl⟩ := hst.len 1 rfl
    obtain ⟨l58194, a58195, c58196, rfl⟩ := hst.len 2 rfl
    refine pu 3 [(217, .agg [.slice a58192 (r58166.1.Maps).length c58193, .slice a58195 (r58166.1.Code).length c58196].toArray), (218, .bool r58166.2)] ?_
    refine OW.alloc hst rfl rfl rfl [.slice none 0 0, .slice none 0 0] (by kernel_rfl) ?_
    intro b58197 w58198 hst
    refine OW.stB hst 4 rfl rfl rfl rfl rfl (by kernel_rfl) rfl rfl [.slice a58192 (r58166.1.Maps).length c58193, .slice a58195 (r58166.1.Code).length c58196] rfl ?_
    intro w58199 hst
    refine pu 1 [(23, .bool r58166.2)] (nx (rg ?_))
    refine pu 2 [(220, Pt b32), (221, I (i58127 : Int))] ?_
    obtain ⟨r58205, hr58206, hl58124⟩ := bs hl58124
    refine OW.fn rfl rfl rfl rfl (by kernel_rfl) (registry_Registry_Attach_ok _ (Pt b32) S58170 s58125 0 (i58127 : Int) r58205 hr58206 (hst.part [0] rfl)) ?_
    rintro e w58207 ⟨S58209, rfl, hst58208⟩
    refine ⟨_, rfl, ?_⟩
    have hst := hst.join (idx := [0]) (rest := [1, 2, 3, 4]) rfl hst58208
    refine pu 5 [(24, I r58205.1), (25, I r58205.2.1)] (nx (CW.seq ?_))
    obtain ⟨o58225, ho58226, hl58124⟩ := bs hl58124
    refine CW.cutK (fun a w1 => Rep 240 [(3, Pt b32), (5, .slice (some ⟨g40, 0, none⟩) m38 m38), (21, I (i58127 : Int)), (239, .bool o58225)] a ∧ St w (fp []) w1 [itI R_t24 [Pt b32] S58209 r58205.2.2, rowI (.slice (some ⟨g40, 0, none⟩) m38 m38) 4 encBool 1 t28810.2]) ?_ ?_
    ·refine CW.region ?_
     refine pu 2 [(225, .slice (some ⟨g40, 0, none⟩) m38 m38), (226, I (i58127 : Int))] ?_
     obtain ⟨x58227, hx58228, ho58226⟩ := bs ho58226
     obtain ⟨g58230, o58231, c58232, hv58229⟩ := hst.rowv 3 rfl hx58228
     refine OW.idx 4 1 rfl rfl rfl rfl hv58229 rfl (idx_some hx58228).1 (idx_some hx58228).2.1 (by kernel_rfl) (by kernel_rfl) ?_
     refine OW.ld rfl rfl rfl rfl (by kernel_rfl) (hst.rowc 3 rfl (fun _ => rfl) hx58228 hv58229 0 _ rfl) ?_
     refine pu 1 [(229, .bool x58227)] ?_
     refine OW.split 229 rfl (fun hc58233 => ?_) (fun hc58233 => ?_)
     ·have ho58226 := ite_t ho58226 hc58233
      refine pu 2 [(231, .bool r58166.2)] ?_
      refine OW.split 231 rfl (fun hc58234 => ?_) (fun hc58234 => ?_)
      ·have ho58226 := ite_t ho58226 hc58234
       refine pu 8 [(239, .bool true)] (OW.nil rfl ?_)
       obtain rfl := inj ho58226
       exact QW.meet (fun a ha => ⟨ha.ag, hst.keep [0, 3] rfl⟩)
      have ho58226 := ite_f ho58226 hc58234
      refine pu 4 [(235, .bool (r58205.1 != 0))] ?_
      refine OW.split 235 rfl (fun hc58235 => ?_) (fun hc58235 => ?_)
      ·have ho58226 := ite_t ho58226 hc58235
       refine pu 4 [(239, .bool true)] (OW.nil rfl ?_)
       obtain rfl := inj ho58226
       exact QW.meet (fun a ha => ⟨ha.ag, hst.keep [0, 3] rfl⟩)
      have ho58226 := ite_f ho58226 hc58235
      refine pu 4 [(239, .bool (r58205.2.1 != 41))] (OW.nil rfl ?_)
      obtain rfl := inj ho58226
      exact QW.meet (fun a ha => ⟨ha.ag, hst.keep [0, 3] rfl⟩)
     have ho58226 := ite_f ho58226 hc58233
     refine pu 10 [(239, .bool false)] (OW.nil rfl ?_)
     obtain rfl := inj ho58226
     exact QW.meet (fun a ha => ⟨ha.ag, hst.keep [0, 3] rfl⟩)
    rintro a w1 ⟨ha, hst⟩
    refine CW.go ?_ ha
    refine br (o58225) hl58124 (fun hl58124 hc58236 => ?_) (fun hl58124 hc58236 => ?_)
    ·refine rg ?_
     refine pu 1 [(2, .bool false)] (nx (CW.ret (QW.block_ret (QW.then_ret (QW.then_ret (QW.block_ret (QW.then_ret ?_)))))))
     obtain rfl := inj hl58124
     obtain rfl := inj hF
     refine QW.ret1 rfl rfl ?_
     exact ⟨rfl, hst.keep [] rfl⟩
    refine CW.skip (QW.block_normal (QW.next (CW.region ?_)))
    refine pu 3 [(21, I (w64 ((i58127 : Int) + 1)))] (OW.nil rfl ?_)
    refine QW.say 21 rfl (congrArg (Value.int .i64) (w64_cnt hc58131 (room_sz hr58130))) ?_
    exact QW.meet (fun a ha => ⟨n58123, Nat.lt_succ_self _, i58127 + 1, r58205.2.2, S58209, cnt_next hi58128, ha.ag, hst.keep [0, 1] rfl, hl58124⟩)
   rcases n58123 with _ | n58123
   ·refine CW.cond_f rfl hc58131 ?_
    refine CW.exit (QW.then_exit (QW.then_exit ?_))
    refine QW.block_here ?_
    obtain rfl := inj hl58124
    exact QW.meet (fun a ha => ⟨(), rfl, ha.ag, hst.keep [] rfl⟩)
   exact (cnt1 hi58128 hc58131).elim
  rintro a w1 ⟨t57907, rfl, ha, hst⟩
  refine CW.go ?_ ha
  refine rg ?_
  refine pu 1 [(2, .bool true)] (nx (CW.ret ?_))
  obtain rfl := inj hF
  refine QW.ret1 rfl rfl ?_
  exact ⟨rfl, hst.keep [] rfl⟩
 have hF := ocase_none hF he31
 refine ⟨_, rfl, ?_⟩
 have hst := hst.join (idx := []) (rest := []) rfl hst26
 refine pu 5 [(3, .pointer none), (4, I r23.2)] (nx (CW.seq (rg ?_)))
 refine pu 6 [(37, .bool true)] (nx (CW.cond_t rfl rfl (rg ?_)))
 refine pu 1 [(2, .bool false)] (nx (CW.ret (QW.then_ret ?_)))
 obtain rfl := inj hF
 refine QW.ret1 rfl rfl ?_
 exact ⟨rfl, hst.keep [] rfl⟩
end Go.Proofs.YtdnogiegiclcfaaGreatDoor

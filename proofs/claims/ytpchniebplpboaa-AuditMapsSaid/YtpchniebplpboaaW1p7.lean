/- Written by a program (wip/gen): the walks: each Go function returns what its plain function computes. -/
import Derived.Test.YtpchniebplpboaaProg
import Derived.Test.YtpchniebplpboaaF1
import Derived.Test.YtpchniebplpboaaSq
import Derived.Test.YtpchniebplpboaaPart
import Derived.Test.YtpchniebplpboaaO1
import Derived.Test.YtpchniebplpboaaW1p6
set_option linter.unusedSimpArgs false
namespace Go.Proofs.Ytpchniebplpboaa
open Go.Sx
set_option linter.unusedVariables false
set_option maxRecDepth 10000
set_option maxHeartbeats 4000000
theorem tappetref27_Maps_ok (w : World) (fu : Nat) (v0_0 : Value) (p0 : api_Config) (v1 : Value) (p1 : List api_Entry) (r : Int × Int) (hF : tappetref27_Maps fu p0 p1 = some r)
    (hst : St w (fp []) w []) (h0_0 : Rd w (fp []) v0_0 enc_api_MapDef 2 p0.Maps) (h1 : Rd w (fp []) v1 enc_api_Entry 22 p1) :
    Calls Try.prog 9 [.agg [I p0.Workers, I p0.Shards, I p0.Hooks, I p0.Ring, v0_0].toArray, v1].toArray w (fun e w' => e = .returned (.tuple #[I r.1, I r.2]) ∧ St w (fp []) w' []) := by
 refine CW.start (N := 108) Try.func9 rfl rfl rfl ?_
 obtain ⟨l1, a2, c3, rfl⟩ := h0_0.len
 obtain ⟨l4, a5, c6, rfl⟩ := h1.len
 refine rg ?_
 refine OW.box hst rfl rfl rfl rfl [I p0.Workers, I p0.Shards, I p0.Hooks, I p0.Ring, .slice a2 (p0.Maps).length c3] rfl ?_
 intro b9 w10 hst
 refine pu 2 [] (nx (CW.seq (CW.seq ?_)))
 refine CW.cutK (fun a w1 => Rep 108 [(1, .slice a5 (p1).length c6), (2, Pt b9), (25, .bool ((decide (p0.Shards < 1) || decide (p0.Shards > 4)) || decide (((p0.Maps).length : Int) > 4)))] a ∧ St w (fp []) w1 [blkI b9 24 [I p0.Workers, I p0.Shards, I p0.Hooks, I p0.Ring, .slice a2 (p0.Maps).length c3]]) ?_ ?_
 ·refine CW.region ?_
  refine pu 1 [(12, .pointer (some ⟨b9, 1, none⟩))] ?_
  refine OW.ld rfl rfl rfl rfl (by kernel_rfl) (hst.blk 0 rfl rfl) ?_
  refine pu 2 [(15, .bool (decide (p0.Shards < 1)))] ?_
  refine OW.split 15 rfl (fun hc11 => ?_) (fun hc11 => ?_)
  ·refine pu 10 [(25, .bool true)] (OW.nil rfl ?_)
   refine QW.say 25 (v := .bool ((decide (p0.Shards < 1) || decide (p0.Shards > 4)) || decide (((p0.Maps).length : Int) > 4))) rfl (by first | (rw [hc11]; done) | (rw [hc11]; rfl) | simp [hc11]) ?_
   exact QW.meet (fun a ha => ⟨ha.ag, hst.keep [0] rfl⟩)
  refine pu 1 [(16, .pointer (some ⟨b9, 1, none⟩))] ?_
  refine OW.ld rfl rfl rfl rfl (by kernel_rfl) (hst.blk 0 rfl rfl) ?_
  refine pu 3 [(20, .bool (decide (p0.Shards > 4)))] ?_
  refine OW.split 20 rfl (fun hc12 => ?_) (fun hc12 => ?_)
  ·refine pu 5 [(25, .bool true)] (OW.nil rfl ?_)
   refine QW.say 25 (v := .bool ((decide (p0.Shards < 1) || decide (p0.Shards > 4)) || decide (((p0.Maps).length : Int) > 4))) rfl (by first | (rw [hc11, hc12]; done) | (rw [hc11, hc12]; rfl) | simp [hc11, hc12]) ?_
   exact QW.meet (fun a ha => ⟨ha.ag, hst.keep [0] rfl⟩)
  refine pu 1 [(21, .pointer (some ⟨b9, 4, none⟩))] ?_
  refine OW.ld rfl rfl rfl rfl (by kernel_rfl) (hst.blk 0 rfl rfl) ?_
  refine pu 3 [(25, .bool (decide (((p0.Maps).length : Int) > 4)))] (OW.nil rfl ?_)
  refine QW.say 25 (v := .bool ((decide (p0.Shards < 1) || decide (p0.Shards > 4)) || decide (((p0.Maps).length : Int) > 4))) rfl (by first | (rw [hc11, hc12]; done) | (rw [hc11, hc12]; rfl) | simp [hc11, hc12]) ?_
  exact QW.meet (fun a ha => ⟨ha.ag, hst.keep [0] rfl⟩)
 rintro a w1 ⟨ha, hst⟩
 refine CW.go ?_ ha
 refine br (((decide (p0.Shards < 1) || decide (p0.Shards > 4)) || decide (((p0.Maps).length : Int) > 4))) hF (fun hF hc13 => ?_) (fun hF hc13 => ?_)
 ·refine rg ?_
  refine pu 2 [(4, I 0), (5, I 2)] (nx (CW.ret (QW.then_ret ?_)))
  obtain rfl := inj hF
  refine QW.ret2 rfl rfl rfl ?_
  exact ⟨rfl, hst.keep [] rfl⟩
 refine CW.skip (QW.next (rg ?_))
 refine pu 1 [(6, .slice none 0 0)] (nx (CW.seq (rg ?_)))
 refine pu 1 [(7, I 0)] (nx ?_)
 obtain ⟨o221, ho222, hF⟩ := bs hF
 refine CW.cutK (fun a w1 => ∃ (t223 : (List tappetref15_Map)) (v219 : Value) (S220 : List Nat), o221 = .inl t223 ∧ Rep 108 [(1, .slice a5 (p1).length c6), (6, v219)] a ∧ St w (fp []) w1 [nI 56 R_t56 v219 S220 t223 none]) ?_ ?_
 ·refine CW.block ?_
  have hst := hst.nNil 56 R_t56 none
  refine CW.loop (fun n a w1 => ∃ (i363 : Nat) (s360 : (List tappetref15_Map)) (v361 : Value) (S362 : List Nat), i363 + n = (p0.Maps).length ∧ Rep 108 [(1, .slice a5 (p1).length c6), (2, Pt b9), (6, v361), (7, I (i363 : Int))] a ∧ St w (fp []) w1 [blkI b9 24 [I p0.Workers, I p0.Shards, I p0.Hooks, I p0.Ring, .slice a2 (p0.Maps).length c3], nI 56 R_t56 v361 S362 s360 none] ∧ forN (tappetref27_Maps_l1 fu p0) (fun (s360 : (List tappetref15_Map)) => (.inl s360)) n i363 s360 = some o221) (p0.Maps).length (fun a ha => ⟨0, ([] : List tappetref15_Map), (.slice none 0 0), ([]), Nat.zero_add _, ha.ag, hst.keep [0, 1] rfl, ho222⟩) ?_
  rintro n358 a w1 ⟨i363, s360, v361, S362, hi364, ha, hst, hl359⟩
  refine CW.go ?_ ha
  obtain ⟨l365, a366, c367, rfl⟩ := hst.nlen 1 rfl
  refine CW.seq (rg ?_)
  refine pu 2 [(26, I (i363 : Int)), (27, .pointer (some ⟨b9, 4, none⟩))] ?_
  refine OW.ld rfl rfl rfl rfl (by kernel_rfl) (hst.blk 0 rfl rfl) ?_
  refine pu 2 [(30, .bool (decide ((i363 : Int) < ((p0.Maps).length : Int))))] (nx ?_)
  rcases bft (decide ((i363 : Int) < ((p0.Maps).length : Int))) with hc368 | hc368
  ·rcases n358 with _ | n358
   ·exact (cnt0 hi364 hc368).elim
   refine CW.cond_t rfl hc368 (CW.skip (QW.next (CW.seq (CW.block (CW.seq ?_)))))
   refine CW.plan (by kernel_rfl) ?_
   intro w387 hch388
   have hst := hst.same hch388
   refine OA.pure [0] [(34, .pointer (some ⟨b9, 4, none⟩))] (by kernel_rfl) ?_
   refine OA.ld (i := 1) rfl (by kernel_rfl) rfl rfl rfl (by kernel_rfl) (hst.blk 0 rfl rfl) ?_
   refine OA.pure [2] [(36, I (i363 : Int))] (by kernel_rfl) ?_
   obtain ⟨x389, hx390, hl359⟩ := bs hl359
   obtain ⟨g392, o393, c394, hv391⟩ := h0_0.formv (fun _ => ⟨_, rfl⟩) hx390
   refine OA.idx (i := 3) 61 2 rfl (by kernel_rfl) rfl rfl rfl hv391 rfl (idx_some hx390).1 (idx_some hx390).2.1 (by kernel_rfl) (by kernel_rfl) ?_
   refine OA.ldN (i := 4) (cs := enc_api_MapDef x389) rfl (by kernel_rfl) rfl rfl rfl (by kernel_rfl) (by kernel_rfl) (h0_0.cellv hst hx390 hv391) ?_
   refine OA.pure [5] [(39, .pointer (some ⟨b9, 1, none⟩))] (by kernel_rfl) ?_
   refine OA.ld (i := 6) rfl (by kernel_rfl) rfl rfl rfl (by kernel_rfl) (hst.blk 0 rfl rfl) ?_
   refine OA.act (i := 7) [] (by kernel_rfl) rfl rfl (by kernel_rfl) (by kernel_rfl) ?_
   obtain ⟨r395, hr396, hl359⟩ := bs hl359
   refine OW.fn rfl rfl rfl rfl (by kernel_rfl) (tappetref15_New_ok _ fu x389 p0.Shards r395 hr396 (hst.part [] rfl)) ?_
   rintro e w397 (⟨k399, v401, S402, he400, rfl, hst398⟩ | ⟨he403, rfl, hst398⟩)
   ·have hl359 := ocase_some hl359 he400
    refine ⟨_, rfl, ?_⟩
    have hst := hst.join (idx := []) (rest := [0, 1]) rfl hst398
    obtain ⟨b404, rfl⟩ := hst.fptr 0 rfl
    refine OA.next trivial ?_
    refine OA.pure [8, 9, 10] [(42, Pt b404), (43, I r395.2)] (by kernel_rfl) ?_
    refine OA.act (i := 11) [] (by kernel_rfl) rfl rfl (by kernel_rfl) (by kernel_rfl) ?_
    refine pu 1 [(8, Pt b404)] (OA.next trivial ?_)
    refine OA.act (i := 12) [] (by kernel_rfl) rfl rfl (by kernel_rfl) (by kernel_rfl) ?_
    refine pu 1 [(9, I r395.2)] (OA.next trivial ?_)
    refine OA.fin (by kernel_rfl) (by kernel_rfl) (QW.next (CW.seq (rg ?_)))
    refine pu 2 [(45, .bool (r395.2 != 0))] (nx ?_)
    refine br ((r395.2 != 0)) hl359 (fun hl359 hc405 => ?_) (fun hl359 hc405 => ?_)
    ·refine rg ?_
     refine pu 2 [(4, I 0), (5, I 2)] (nx (CW.ret (QW.then_ret (QW.block_ret (QW.then_ret (QW.then_ret (QW.block_ret (QW.then_ret ?_))))))))
     obtain rfl := inj hl359
     obtain rfl := inj hF
     refine QW.ret2 rfl rfl rfl ?_
     exact ⟨rfl, hst.keep [] rfl⟩
    refine CW.skip (QW.next (CW.region ?_))
    refine pu 2 [(46, .slice a366 (s360).length c367), (47, Pt b404)] ?_
    refine OW.row (α := List Value) (e := 56) (enc := fit 1) (sz := 1) hst rfl rfl rfl [[Pt b404]] rfl (fun _ => fit_len _ _) rfl rfl (fun _ => by kernel_rfl) ?_
    intro g417 w418 hst
    have hst := hst.bchOne (R := R_t56) 0 rfl
    have hst := hst.keep [1, 2, 0, 3] rfl
    have hst : St _ _ _ [_, _, bchI R_t56 [[Pt b404]] _ [k399], _] := hst
    obtain ⟨S419, hst⟩ := hst.nOf 3 2 rfl rfl rfl rfl
    have hst := hst.keep [0, 1, 3] rfl
    have hst : St _ _ _ [_, _, nI 56 R_t56 (.slice (some ⟨g417, 0, none⟩) 1 1) S419 ([k399]) none] := hst
    obtain ⟨u420, hr421, hl359⟩ := bs hl359
    refine OW.appN hst 1 2 rfl rfl rfl rfl rfl rfl rfl rfl rfl (by kernel_rfl) el56 (room_le hr421) (fun _ _ _ _ h => ones_ptr h) ?_
    intro v422 S423 w424 hst
    have hst := hst.keep [0, 1] rfl
    obtain ⟨l425, a426, c427, rfl⟩ := hst.nlen 1 rfl
    refine pu 1 [(6, .slice a426 ((s360 ++ [k399])).length c427)] (OW.nil rfl (QW.block_normal (QW.next (CW.region ?_))))
    refine pu 3 [(7, I (w64 ((i363 : Int) + 1)))] (OW.nil rfl ?_)
    refine QW.say 7 rfl (congrArg (Value.int .i64) (w64_cnt hc368 l1)) ?_
    exact QW.meet (fun a ha => ⟨n358, Nat.lt_succ_self _, i363 + 1, (s360 ++ [k399]), (.slice a426 ((s360 ++ [k399])).length c427), S423, cnt_next hi364, ha.ag, hst.keep [0, 1] rfl, hl359⟩)
   have hl359 := ocase_none hl359 he403
   refine ⟨_, rfl, ?_⟩
   have hst := hst.join (idx := []) (rest := [0, 1]) rfl hst398
   refine OA.next trivial ?_
   refine OA.pure [8, 9, 10] [(42, .pointer none), (43, I r395.2)] (by kernel_rfl) ?_
   refine OA.act (i := 11) [] (by kernel_rfl) rfl rfl (by kernel_rfl) (by kernel_rfl) ?_
   refine pu 1 [(8, .pointer none)] (OA.next trivial ?_)
   refine OA.act (i := 12) [] (by kernel_rfl) rfl rfl (by kernel_rfl) (by kernel_rfl) ?_
   refine pu 1 [(9, I r395.2)] (OA.next trivial ?_)
   refine OA.fin (by kernel_rfl) (by kernel_rfl) (QW.next (CW.seq (rg ?_)))
   refine pu 2 [(45, .bool (r395.2 != 0))] (nx ?_)
   refine br ((r395.2 != 0)) hl359 (fun hl359 hc429 => ?_) (fun hl359 hc429 => ?_)
   ·refine rg ?_
    refine pu 2 [(4, I 0), (5, I 2)] (nx (CW.ret (QW.then_ret (QW.block_ret (QW.then_ret (QW.then_ret (QW.block_ret (QW.then_ret ?_))))))))
    obtain rfl := inj hl359
    obtain rfl := inj hF
    refine QW.ret2 rfl rfl rfl ?_
    exact ⟨rfl, hst.keep [] rfl⟩
   refine CW.skip (QW.next (CW.region ?_))
   refine pu 2 [(46, .slice a366 (s360).length c367), (47, .pointer none)] ?_
   cases hl359
  rcases n358 with _ | n358
  ·refine CW.cond_f rfl hc368 ?_
   refine CW.exit (QW.then_exit (QW.then_exit ?_))
   refine QW.block_here ?_
   obtain rfl := inj hl359
   exact QW.meet (fun a ha => ⟨s360, (.slice a366 (s360).length c367), S362, rfl, ha.ag, hst.keep [1] rfl⟩)
  exact (cnt1 hi364 hc368).elim
 rintro a w1 ⟨t223, v219, S220, rfl, ha, hst⟩
 refine CW.go ?_ ha
 obtain ⟨l431, a432, c433, rfl⟩ := hst.nlen 0 rfl
 refine CW.seq (rg ?_)
 refine pu 1 [(10, I 0)] (nx ?_)
 obtain ⟨o749, ho750, hF⟩ := bs hF
 refine CW.cutK (fun a w1 => ∃ (t751 : Unit), o749 = .inl t751 ∧ Rep 108 [] a ∧ St w (fp []) w1 []) ?_ ?_
 ·refine CW.block ?_
  refine CW.loop (fun n a w1 => ∃ (i962 : Nat) (s959 : (List tappetref15_Map)) (v960 : Value) (S961 : List Nat), i962 + n = (p1).length ∧ Rep 108 [(1, .slice a5 (p1).length c6), (6, v960), (10, I (i962 : Int))] a ∧ St w (fp []) w1 [nI 56 R_t56 v960 S961 s959 none] ∧ forN (tappetref27_Maps_l2 fu p1) (fun (s959 : (List tappetref15_Map)) => (.inl ())) n i962 s959 = some o749) (p1).length (fun a ha => ⟨0, t223, (.slice a432 (t223).length c433), S220, Nat.zero_add _, ha.ag, hst.keep [0] rfl, ho750⟩) ?_
  rintro n957 a w1 ⟨i962, s959, v960, S961, hi963, ha, hst, hl958⟩
  refine CW.go ?_ ha
  obtain ⟨l964, a965, c966, rfl⟩ := hst.nlen 0 rfl
  refine CW.seq (rg ?_)
  refine pu 4 [(53, .bool (decide ((i962 : Int) < ((p1).length : Int))))] (nx ?_)
  rcases bft (decide ((i962 : Int) < ((p1).length : Int))) with hc967 | hc967
  ·rcases n957 with _ | n957
   ·exact (cnt0 hi963 hc967).elim
   refine CW.cond_t rfl hc967 (CW.skip (QW.next (CW.seq (CW.block (rg ?_)))))
   refine pu 2 [(56, .slice a5 (p1).length c6), (57, I (i962 : Int))] ?_
   obtain ⟨x977, hx978, hl958⟩ := bs hl958
   obtain ⟨g980, o981, c982, hv979⟩ := h1.formv (fun _ => ⟨_, rfl⟩) hx978
   refine OW.idx 48 22 rfl rfl rfl rfl hv979 rfl (idx_some hx978).1 (idx_some hx978).2.1 (by kernel_rfl) (by kernel_rfl) ?_
   refine pu 1 [(59, .pointer (some ⟨g980, o981 + Int.toNat (i962 : Int) * 22 + 10, none⟩))] ?_
   refine OW.ldN (cs := [I x977.Item.Map, I x977.Item.Op, U x977.Item.Key, U x977.Item.Val]) rfl rfl rfl rfl (by kernel_rfl) (by kernel_rfl) (elN (h1.cellv hst hx978 hv979) 10 4) ?_
   refine OW.alloc hst rfl rfl rfl [I 0, I 0, U 0, U 0] (by kernel_rfl) ?_
   intro b983 w984 hst
   refine OW.stB hst 1 rfl rfl rfl rfl rfl (by kernel_rfl) rfl rfl [I x977.Item.Map, I x977.Item.Op, U x977.Item.Key, U x977.Item.Val] rfl ?_
   intro w985 hst
   refine nx (CW.seq (rg ?_))
   refine pu 2 [(61, .slice a5 (p1).length c6), (62, I (i962 : Int))] ?_
   obtain ⟨g991, o992, c993, hv990⟩ := h1.formv (fun _ => ⟨_, rfl⟩) hx978
   refine OW.idx 48 22 rfl rfl rfl rfl hv990 rfl (idx_some hx978).1 (idx_some hx978).2.1 (by kernel_rfl) (by kernel_rfl) ?_
   refine pu 1 [(64, .pointer (some ⟨g991, o992 + Int.toNat (i962 : Int) * 22, none⟩))] ?_
   refine OW.ld rfl rfl rfl rfl (by kernel_rfl) (h1.cellv hst hx978 hv990 0 _ rfl) ?_
   refine pu 1 [(66, .bool (x977.What != 3))] (nx ?_)
   refine br ((x977.What != 3)) hl958 (fun hl958 hc994 => ?_) (fun hl958 hc994 => ?_)
   ·refine CW.exit (QW.then_exit ?_)
    refine QW.block_here (QW.next (CW.region ?_))
    refine pu 3 [(10, I (w64 ((i962 : Int) + 1)))] (OW.nil rfl ?_)
    refine QW.say 10 rfl (congrArg (Value.int .i64) (w64_cnt hc967 l4)) ?_
    exact QW.meet (fun a ha => ⟨n957, Nat.lt_succ_self _, i962 + 1, s959, (.slice a965 (s959).length c966), S961, cnt_next hi963, ha.ag, hst.keep [0] rfl, hl958⟩)
   refine CW.skip (QW.next (CW.seq ?_))
   obtain ⟨o1027, ho1028, hl958⟩ := bs hl958
   refine CW.cutK (fun a w1 => ∃ (v1025 : Value) (S1026 : List Nat), Rep 108 [(1, .slice a5 (p1).length c6), (6, v1025), (10, I (i962 : Int)), (106, .bool o1027.2)] a ∧ St w (fp []) w1 [nI 56 R_t56 v1025 S1026 o1027.1 none]) ?_ ?_
   ·refine CW.plan (by kernel_rfl) ?_
    intro w1029 hch1030
    have hst := hst.same hch1030
    refine OA.pure [0] [(67, Pt b983)] (by kernel_rfl) ?_
    refine OA.ld (i := 1) rfl (by kernel_rfl) rfl rfl rfl (by kernel_rfl) (hst.blk 1 rfl rfl) ?_
    refine OA.pure [2, 3] [(70, .bool (decide (x977.Item.Map < 0)))] (by kernel_rfl) ?_
    refine OA.split 70 rfl (fun hc1031 => ?_) (fun hc1031 => ?_)
    ·have ho1028 := ite_t ho1028 hc1031
     refine OA.pure [4, 5, 6, 7, 8, 9, 10, 11, 12, 13, 14, 15, 16, 17, 18, 19, 20, 21, 22, 23, 24, 25, 26, 27, 28, 29, 30, 31, 32, 33, 34, 35, 36, 37, 38, 39] [(106, .bool true)] (by kernel_rfl) ?_
     refine OA.fin (by kernel_rfl) (by kernel_rfl) ?_
     obtain rfl := inj ho1028
     exact QW.meet (fun a ha => ⟨(.slice a965 (s959).length c966), S961, ha.ag, hst.keep [0] rfl⟩)
    have ho1028 := ite_f ho1028 hc1031
    refine OA.pure [4] [(71, Pt b983)] (by kernel_rfl) ?_
    refine OA.ld (i := 5) rfl (by kernel_rfl) rfl rfl rfl (by kernel_rfl) (hst.blk 1 rfl rfl) ?_
    refine OA.pure [6, 7, 8, 9, 10] [(77, .bool (decide (x977.Item.Map ≥ ((s959).length : Int))))] (by kernel_rfl) ?_
    refine OA.split 77 rfl (fun hc1033 => ?_) (fun hc1033 => ?_)
    ·have ho1028 := ite_t ho1028 hc1033
     refine OA.pure [11, 12, 13, 14, 15, 16, 17, 18, 19, 20, 21, 22, 23, 24, 25, 26, 27, 28, 29, 30, 31, 32, 33, 34, 35, 36, 37, 38, 39] [(106, .bool true)] (by kernel_rfl) ?_
     refine OA.fin (by kernel_rfl) (by kernel_rfl) ?_
     obtain rfl := inj ho1028
     exact QW.meet (fun a ha => ⟨(.slice a965 (s959).length c966), S961, ha.ag, hst.keep [0] rfl⟩)
    have ho1028 := ite_f ho1028 hc1033
    refine OA.pure [11] [(78, .pointer (some ⟨b983, 1, none⟩))] (by kernel_rfl) ?_
    refine OA.ld (i := 12) rfl (by kernel_rfl) rfl rfl rfl (by kernel_rfl) (hst.blk 1 rfl rfl) ?_
    refine OA.pure [13, 14, 15] [(82, .bool (decide (x977.Item.Op < 0)))] (by kernel_rfl) ?_
    refine OA.split 82 rfl (fun hc1035 => ?_) (fun hc1035 => ?_)
    ·have ho1028 := ite_t ho1028 hc1035
     refine OA.pure [16, 17, 18, 19, 20, 21, 22, 23, 24, 25, 26, 27, 28, 29, 30, 31, 32, 33, 34, 35, 36, 37, 38, 39] [(106, .bool true)] (by kernel_rfl) ?_
     refine OA.fin (by kernel_rfl) (by kernel_rfl) ?_
     obtain rfl := inj ho1028
     exact QW.meet (fun a ha => ⟨(.slice a965 (s959).length c966), S961, ha.ag, hst.keep [0] rfl⟩)
    have ho1028 := ite_f ho1028 hc1035
    refine OA.pure [16] [(83, .pointer (some ⟨b983, 1, none⟩))] (by kernel_rfl) ?_
    refine OA.ld (i := 17) rfl (by kernel_rfl) rfl rfl rfl (by kernel_rfl) (hst.blk 1 rfl rfl) ?_
    refine OA.pure [18, 19, 20] [(87, .bool (decide (x977.Item.Op > 4)))] (by kernel_rfl) ?_
    refine OA.split 87 rfl (fun hc1037 => ?_) (fun hc1037 => ?_)
    ·have ho1028 := ite_t ho1028 hc1037
     refine OA.pure [21, 22, 23, 24, 25, 26, 27, 28, 29, 30, 31, 32, 33, 34, 35, 36, 37, 38, 39] [(106, .bool true)] (by kernel_rfl) ?_
     refine OA.fin (by kernel_rfl) (by kernel_rfl) ?_
     obtain rfl := inj ho1028
     exact QW.meet (fun a ha => ⟨(.slice a965 (s959).length c966), S961, ha.ag, hst.keep [0] rfl⟩)
    have ho1028 := ite_f ho1028 hc1037
    refine OA.pure [21, 22] [(88, .slice a965 (s959).length c966), (89, Pt b983)] (by kernel_rfl) ?_
    refine OA.ld (i := 23) rfl (by kernel_rfl) rfl rfl rfl (by kernel_rfl) (hst.blk 1 rfl rfl) ?_
    obtain ⟨x1039, hx1040, ho1028⟩ := bs ho1028
    obtain ⟨g1042, o1043, c1044, hv1041⟩ := hst.nrowv 0 rfl hx1040
    refine OA.idx (i := 24) 56 1 rfl (by kernel_rfl) rfl rfl rfl hv1041 rfl (idx_some hx1040).1 (idx_some hx1040).2.1 (by kernel_rfl) (by kernel_rfl) ?_
    obtain ⟨v1045, S1046, S1047, hce1048, hst⟩ := hst.nout1 0 rfl rfl hx1040 hv1041
    obtain ⟨b1049, rfl⟩ := hst.fptr 2 rfl
    refine OA.ld (i := 25) rfl (by kernel_rfl) rfl rfl rfl (by kernel_rfl) hce1048 ?_
    refine OA.pure [26] [(93, .pointer (some ⟨b983, 1, none⟩))] (by kernel_rfl) ?_
    refine OA.ld (i := 27) rfl (by kernel_rfl) rfl rfl rfl (by kernel_rfl) (hst.blk 1 rfl rfl) ?_
    refine OA.pure [28] [(95, .pointer (some ⟨b983, 2, none⟩))] (by kernel_rfl) ?_
    refine OA.ld (i := 29) rfl (by kernel_rfl) rfl rfl rfl (by kernel_rfl) (hst.blk 1 rfl rfl) ?_
    refine OA.pure [30] [(97, .pointer (some ⟨b983, 3, none⟩))] (by kernel_rfl) ?_
    refine OA.ld (i := 31) rfl (by kernel_rfl) rfl rfl rfl (by kernel_rfl) (hst.blk 1 rfl rfl) ?_
    refine OA.pure [33, 34] [(100, .slice a5 (p1).length c6), (101, I (i962 : Int))] (by kernel_rfl) ?_
    obtain ⟨g1051, o1052, c1053, hv1050⟩ := h1.formv (fun _ => ⟨_, rfl⟩) hx978
    refine OA.idx (i := 35) 48 22 rfl (by kernel_rfl) rfl rfl rfl hv1050 rfl (idx_some hx978).1 (idx_some hx978).2.1 (by kernel_rfl) (by kernel_rfl) ?_
    refine OA.pure [36] [(103, .pointer (some ⟨g1051, o1052 + Int.toNat (i962 : Int) * 22 + 14, none⟩))] (by kernel_rfl) ?_
    refine OA.ldN (i := 37) (cs := [I x977.Res.E, .bool x977.Res.Found, U x977.Res.Val, .bool x977.Res.Out, U x977.Res.OutKey, U x977.Res.OutVal]) rfl (by kernel_rfl) rfl rfl rfl (by kernel_rfl) (by kernel_rfl) (elN (h1.cellv hst hx978 hv1050) 14 6) ?_
    refine OA.act (i := 32) [37] (by kernel_rfl) rfl rfl (by kernel_rfl) (by kernel_rfl) ?_
    obtain ⟨r1054, hr1055, ho1028⟩ := bs ho1028
    refine OW.fn rfl rfl rfl rfl (by kernel_rfl) (tappetref15_Map_Do_ok _ fu (Pt b1049) S1047 x1039 x977.Item.Op x977.Item.Key x977.Item.Val r1054 hr1055 (hst.part [2] rfl)) ?_
    rintro e w1056 ⟨S1058, rfl, hst1057⟩
    refine ⟨_, rfl, ?_⟩
    have hst := hst.join (idx := [2]) (rest := [0, 1]) rfl hst1057
    refine OA.next ⟨(elN (h1.cellv hst hx978 hv1050) 14 6), trivial⟩ ?_
    refine OA.val (i := 38) (v := .bool (!((r1054.1.E == x977.Res.E) && ((r1054.1.Found == x977.Res.Found) && ((r1054.1.Val == x977.Res.Val) && ((r1054.1.Out == x977.Res.Out) && ((r1054.1.OutKey == x977.Res.OutKey) && ((r1054.1.OutVal == x977.Res.OutVal) && true)))))))) rfl (by kernel_rfl) rfl rfl rfl rfl (fun a w ha => sneq_run rfl rfl rfl (by kernel_rfl) (by kernel_rfl) a w ha) ?_
    refine OA.pure [39] [(106, .bool (!((r1054.1.E == x977.Res.E) && ((r1054.1.Found == x977.Res.Found) && ((r1054.1.Val == x977.Res.Val) && ((r1054.1.Out == x977.Res.Out) && ((r1054.1.OutKey == x977.Res.OutKey) && ((r1054.1.OutVal == x977.Res.OutVal) && true))))))))] (by kernel_rfl) ?_
    refine OA.fin (by kernel_rfl) (by kernel_rfl) ?_
    obtain ⟨S1059, hst⟩ := hst.nback 1 0 rfl rfl rfl hx1040
    have hst := hst.keep [1, 2] rfl
    obtain rfl := inj ho1028
    exact QW.meet (fun a ha => ⟨(.slice a965 (s959).length c966), S1059, ha.ag, hst.keep [0] rfl⟩)
   rintro a w1 ⟨v1025, S1026, ha, hst⟩
   refine CW.go ?_ ha
   obtain ⟨l1061, a1062, c1063, rfl⟩ := hst.nlen 0 rfl
   refine br (o1027.2) hl958 (fun hl958 hc1064 => ?_) (fun hl958 hc1064 => ?_)
   ·refine rg ?_
    refine pu 3 [(4, I (i962 : Int)), (5, I 0)] (nx (CW.ret (QW.block_ret (QW.then_ret (QW.then_ret (QW.block_ret (QW.then_ret ?_)))))))
    obtain rfl := inj hl958
    obtain rfl := inj hF
    refine QW.ret2 rfl rfl rfl ?_
    exact ⟨rfl, hst.keep [] rfl⟩
   refine CW.skip (QW.block_normal (QW.next (CW.region ?_)))
   refine pu 3 [(10, I (w64 ((i962 : Int) + 1)))] (OW.nil rfl ?_)
   refine QW.say 10 rfl (congrArg (Value.int .i64) (w64_cnt hc967 l4)) ?_
   exact QW.meet (fun a ha => ⟨n957, Nat.lt_succ_self _, i962 + 1, o1027.1, (.slice a1062 (o1027.1).length c1063), S1026, cnt_next hi963, ha.ag, hst.keep [0] rfl, hl958⟩)
  rcases n957 with _ | n957
  ·refine CW.cond_f rfl hc967 ?_
   refine CW.exit (QW.then_exit (QW.then_exit ?_))
   refine QW.block_here ?_
   obtain rfl := inj hl958
   exact QW.meet (fun a ha => ⟨(), rfl, ha.ag, hst.keep [] rfl⟩)
  exact (cnt1 hi963 hc967).elim
 rintro a w1 ⟨t751, rfl, ha, hst⟩
 refine CW.go ?_ ha
 refine rg ?_
 refine pu 2 [(4, I (-1)), (5, I 0)] (nx (CW.ret ?_))
 obtain rfl := inj hF
 refine QW.ret2 rfl rfl rfl ?_
 exact ⟨rfl, hst.keep [] rfl⟩
theorem tappetlaw27_AuditMaps_ok (w : World) (fu : Nat) (v0_0 : Value) (p0 : api_Config) (v1 : Value) (p1 : List api_Entry) (r : Bool) (hF : tappetlaw27_AuditMaps fu p0 p1 = some r)
    (hst : St w (fp []) w []) (h0_0 : Rd w (fp []) v0_0 enc_api_MapDef 2 p0.Maps) (h1 : Rd w (fp []) v1 enc_api_Entry 22 p1) :
    Calls Try.prog 3 [.agg [I p0.Workers, I p0.Shards, I p0.Hooks, I p0.Ring, v0_0].toArray, v1].toArray w (fun e w' => e = .returned (.bool r) ∧ St w (fp []) w' []) := by
 refine CW.start (N := 33) Try.func3 rfl rfl rfl ?_
 obtain ⟨l1, a2, c3, rfl⟩ := h0_0.len
 obtain ⟨l4, a5, c6, rfl⟩ := h1.len
 refine rg ?_
 refine OW.box hst rfl rfl rfl rfl [I p0.Workers, I p0.Shards, I p0.Hooks, I p0.Ring, .slice a2 (p0.Maps).length c3] rfl ?_
 intro b9 w10 hst
 refine pu 1 [] (nx (CW.seq (rg ?_)))
 obtain ⟨r15, hr16, hF⟩ := bs hF
 refine OW.fn rfl rfl rfl rfl (by kernel_rfl) (tappetlaw27_awake_ok _ fu r15 hr16 (hst.part [] rfl)) ?_
 rintro e w17 ⟨rfl, hst18⟩
 refine ⟨_, rfl, ?_⟩
 have hst := hst.join (idx := []) (rest := [0]) rfl hst18
 refine pu 1 [(10, .bool (!r15))] (nx ?_)
 refine br ((!r15)) hF (fun hF hc19 => ?_) (fun hF hc19 => ?_)
 ·refine rg ?_
  refine pu 1 [(4, .bool false)] (nx (CW.ret (QW.then_ret ?_)))
  obtain rfl := inj hF
  refine QW.ret1 rfl rfl ?_
  exact ⟨rfl, hst.keep [] rfl⟩
 refine CW.skip (QW.next (CW.seq ?_))
 refine CW.plan (by kernel_rfl) ?_
 intro w35 hch36
 have hst := hst.same hch36
 refine OA.ldN (i := 0) (cs := [I p0.Workers, I p0.Shards, I p0.Hooks, I p0.Ring, .slice a2 (p0.Maps).length c3]) rfl (by kernel_rfl) rfl rfl rfl (by kernel_rfl) (by kernel_rfl) (hst.blkN 0 rfl 0 5) ?_
 refine OA.pure [1] [(13, .slice a5 (p1).length c6)] (by kernel_rfl) ?_
 refine OA.act (i := 2) [0] (by kernel_rfl) rfl rfl (by kernel_rfl) (by kernel_rfl) ?_
 obtain ⟨r37, hr38, hF⟩ := bs hF
 refine OW.fn rfl rfl rfl rfl (by kernel_rfl) (tappetlaw27_cut_ok _ (.slice a5 (p1).length c6) p1 r37 hr38 (hst.part [] rfl) (h1.give hst [])) ?_
 rintro e w39 ⟨v41, rfl, hst40⟩
 refine ⟨_, rfl, ?_⟩
 have hst := hst.join (idx := []) (rest := [0]) rfl hst40
 obtain ⟨l42, a43, c44, rfl⟩ := hst.len 0 rfl
 refine OA.next ⟨(hst.blkN 1 rfl 0 5), trivial⟩ ?_
 refine OA.act (i := 3) [] (by kernel_rfl) rfl rfl (by kernel_rfl) (by kernel_rfl) ?_
 obtain ⟨r45, hr46, hF⟩ := bs hF
 refine OW.fn rfl rfl rfl rfl (by kernel_rfl) (audit_Maps_ok _ fu (.slice a2 (p0.Maps).length c3) p0 (.slice a43 (r37).length c44) r37 r45 hr46 (hst.part [] rfl) (h0_0.give hst []) (hst.rd 0 rfl (fun _ => rfl) [] rfl (hst.len 0 rfl).1)) ?_
 rintro e w47 ⟨rfl, hst48⟩
 refine ⟨_, rfl, ?_⟩
 have hst := hst.join (idx := []) (rest := [0, 1]) rfl hst48
 refine OA.next trivial ?_
 refine OA.pure [4, 5, 6] [(16, I r45.1), (17, I r45.2)] (by kernel_rfl) ?_
 refine OA.act (i := 7) [] (by kernel_rfl) rfl rfl (by kernel_rfl) (by kernel_rfl) ?_
 refine pu 1 [(5, I r45.1)] (OA.next trivial ?_)
 refine OA.act (i := 8) [] (by kernel_rfl) rfl rfl (by kernel_rfl) (by kernel_rfl) ?_
 refine pu 1 [(6, I r45.2)] (OA.next trivial ?_)
 refine OA.fin (by kernel_rfl) (by kernel_rfl) (QW.next (CW.seq ?_))
 refine CW.plan (by kernel_rfl) ?_
 intro w63 hch64
 have hst := hst.same hch64
 refine OA.ldN (i := 0) (cs := [I p0.Workers, I p0.Shards, I p0.Hooks, I p0.Ring, .slice a2 (p0.Maps).length c3]) rfl (by kernel_rfl) rfl rfl rfl (by kernel_rfl) (by kernel_rfl) (hst.blkN 1 rfl 0 5) ?_
 refine OA.pure [1] [(20, .slice a5 (p1).length c6)] (by kernel_rfl) ?_
 refine OA.act (i := 2) [0] (by kernel_rfl) rfl rfl (by kernel_rfl) (by kernel_rfl) ?_
 obtain ⟨r65, hr66, hF⟩ := bs hF
 refine OW.fn rfl rfl rfl rfl (by kernel_rfl) (tappetlaw27_cut_ok _ (.slice a5 (p1).length c6) p1 r65 hr66 (hst.part [] rfl) (h1.give hst [])) ?_
 rintro e w67 ⟨v69, rfl, hst68⟩
 refine ⟨_, rfl, ?_⟩
 have hst := hst.join (idx := []) (rest := [0, 1]) rfl hst68
 obtain ⟨l70, a71, c72, rfl⟩ := hst.len 0 rfl
 refine OA.next ⟨(hst.blkN 2 rfl 0 5), trivial⟩ ?_
 refine OA.act (i := 3) [] (by kernel_rfl) rfl rfl (by kernel_rfl) (by kernel_rfl) ?_
 obtain ⟨r73, hr74, hF⟩ := bs hF
 refine OW.fn rfl rfl rfl rfl (by kernel_rfl) (tappetref27_Maps_ok _ fu (.slice a2 (p0.Maps).length c3) p0 (.slice a71 (r65).length c72) r65 r73 hr74 (hst.part [] rfl) (h0_0.give hst []) (hst.rd 0 rfl (fun _ => rfl) [] rfl (hst.len 0 rfl).1)) ?_
 rintro e w75 ⟨rfl, hst76⟩
 refine ⟨_, rfl, ?_⟩
 have hst := hst.join (idx := []) (rest := [0, 1, 2]) rfl hst76
 refine OA.next trivial ?_
 refine OA.pure [4, 5, 6] [(23, I r73.1), (24, I r73.2)] (by kernel_rfl) ?_
 refine OA.act (i := 7) [] (by kernel_rfl) rfl rfl (by kernel_rfl) (by kernel_rfl) ?_
 refine pu 1 [(7, I r73.1)] (OA.next trivial ?_)
 refine OA.act (i := 8) [] (by kernel_rfl) rfl rfl (by kernel_rfl) (by kernel_rfl) ?_
 refine pu 1 [(8, I r73.2)] (OA.next trivial ?_)
 refine OA.fin (by kernel_rfl) (by kernel_rfl) (QW.next (CW.seq ?_))
 refine CW.cutK (fun a w1 => Rep 33 [(4, .bool ((r45.1 == r73.1) && (r45.2 == r73.2)))] a ∧ St w (fp []) w1 []) ?_ ?_
 ·refine CW.region ?_
  refine pu 4 [(28, .bool (r45.1 == r73.1))] ?_
  refine OW.split 28 rfl (fun hc77 => ?_) (fun hc77 => ?_)
  ·refine pu 5 [(4, .bool (r45.2 == r73.2))] (OW.nil rfl ?_)
   refine QW.say 4 (v := .bool ((r45.1 == r73.1) && (r45.2 == r73.2))) rfl (by first | (rw [hc77]; done) | (rw [hc77]; rfl) | simp [hc77]) ?_
   exact QW.meet (fun a ha => ⟨ha.ag, hst.keep [] rfl⟩)
  refine pu 5 [(4, .bool false)] (OW.nil rfl ?_)
  refine QW.say 4 (v := .bool ((r45.1 == r73.1) && (r45.2 == r73.2))) rfl (by first | (rw [hc77]; done) | (rw [hc77]; rfl) | simp [hc77]) ?_
  exact QW.meet (fun a ha => ⟨ha.ag, hst.keep [] rfl⟩)
 rintro a w1 ⟨ha, hst⟩
 refine CW.go ?_ ha
 refine CW.ret ?_
 obtain rfl := inj hF
 refine QW.ret1 rfl rfl ?_
 exact ⟨rfl, hst.keep [] rfl⟩
end Go.Proofs.Ytpchniebplpboaa

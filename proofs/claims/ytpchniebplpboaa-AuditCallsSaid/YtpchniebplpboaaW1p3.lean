/- Written by a program (wip/gen): the walks: each Go function returns what its plain function computes. -/
import Derived.Test.YtpchniebplpboaaProg
import Derived.Test.YtpchniebplpboaaF1
import Derived.Test.YtpchniebplpboaaSq
import Derived.Test.YtpchniebplpboaaPart
import Derived.Test.YtpchniebplpboaaO1
import Derived.Test.YtpchniebplpboaaW1p2
set_option linter.unusedSimpArgs false
namespace Go.Proofs.Ytpchniebplpboaa
open Go.Sx
set_option linter.unusedVariables false
set_option maxRecDepth 10000
set_option maxHeartbeats 4000000
theorem book_Book_Do_ok (w : World) (fu : Nat) (v0 : Value) (S0 : List Nat) (p0 : book_Book) (p1 : Int) (p2 : Int) (p3 : Int) (r : api_Res × book_Book) (hF : book_Book_Do fu p0 p1 p2 p3 = some r)
    (hst : St w (fp [itI R_t114 [v0] S0 p0]) w [itI R_t114 [v0] S0 p0]) :
    Calls Try.prog 76 [v0, I p1, U p2, U p3].toArray w (fun e w' => ∃ (s0 : List Nat), e = .returned (.agg [I r.1.E, .bool r.1.Found, U r.1.Val, .bool r.1.Out, U r.1.OutKey, U r.1.OutVal].toArray) ∧ St w (fp [itI R_t114 [v0] S0 p0]) w' [itI R_t114 [v0] s0 r.2]) := by
 refine CW.start (N := 106) Try.func76 rfl rfl rfl ?_
 obtain ⟨b1, rfl⟩ := hst.fptr 0 rfl
 refine rg ?_
 refine OW.alloc hst rfl rfl rfl [I 0, .bool false, U 0, .bool false, U 0, U 0] (by kernel_rfl) ?_
 intro b4 w5 hst
 refine nx (CW.seq (CW.seq ?_))
 refine CW.cutK (fun a w1 => Rep 106 [(0, Pt b1), (1, I p1), (2, U p2), (3, U p3), (8, Pt b4), (17, .bool (decide (p1 < 0) || decide (p1 ≥ 5)))] a ∧ St w (fp [itI R_t114 [Pt b1] S0 p0]) w1 [itI R_t114 [Pt b1] S0 p0, blkI b4 46 [I 0, .bool false, U 0, .bool false, U 0, U 0]]) ?_ ?_
 ·refine CW.region ?_
  refine pu 3 [(14, .bool (decide (p1 < 0)))] ?_
  refine OW.split 14 rfl (fun hc6 => ?_) (fun hc6 => ?_)
  ·refine pu 3 [(17, .bool true)] (OW.nil rfl ?_)
   refine QW.say 17 (v := .bool (decide (p1 < 0) || decide (p1 ≥ 5))) rfl (by first | (rw [hc6]; done) | (rw [hc6]; rfl) | simp [hc6]) ?_
   exact QW.meet (fun a ha => ⟨ha.ag, hst.keep [0, 1] rfl⟩)
  refine pu 3 [(17, .bool (decide (p1 ≥ 5)))] (OW.nil rfl ?_)
  refine QW.say 17 (v := .bool (decide (p1 < 0) || decide (p1 ≥ 5))) rfl (by first | (rw [hc6]; done) | (rw [hc6]; rfl) | simp [hc6]) ?_
  exact QW.meet (fun a ha => ⟨ha.ag, hst.keep [0, 1] rfl⟩)
 rintro a w1 ⟨ha, hst⟩
 refine CW.go ?_ ha
 refine br ((decide (p1 < 0) || decide (p1 ≥ 5))) hF (fun hF hc7 => ?_) (fun hF hc7 => ?_)
 ·refine rg ?_
  refine pu 1 [(18, .agg [I 2, .bool false, U 0, .bool false, U 0, U 0].toArray)] ?_
  refine OW.stB hst 1 rfl rfl rfl rfl rfl (by kernel_rfl) rfl rfl [I 2, .bool false, U 0, .bool false, U 0, U 0] rfl ?_
  intro w9 hst
  refine nx (CW.ret (QW.then_ret ?_))
  obtain rfl := inj hF
  refine QW.ret_c rfl rfl (run_loadN (cs := [I 2, .bool false, U 0, .bool false, U 0, U 0]) (by kernel_rfl) (by kernel_rfl) (hst.blkN 1 rfl 0 6)) ?_
  exact ⟨S0, rfl, hst.keep [0] rfl⟩
 refine CW.skip (QW.next (rg ?_))
 refine pu 2 [(20, Pt b1), (21, U p2)] ?_
 obtain ⟨r15, hr16, hF⟩ := bs hF
 refine OW.fn rfl rfl rfl rfl (by kernel_rfl) (book_Book_find_ok _ fu (Pt b1) S0 p0 p2 r15 hr16 (hst.part [0] rfl)) ?_
 rintro e w17 ⟨S19, rfl, hst18⟩
 refine ⟨_, rfl, ?_⟩
 have hst := hst.join (idx := [0]) (rest := [1]) rfl hst18
 refine pu 5 [(9, I r15.1), (10, .bool r15.2)] (nx (rg ?_))
 refine pu 2 [(26, .agg [I 0, .bool r15.2, U 0, .bool false, U 0, U 0].toArray)] ?_
 refine OW.alloc hst rfl rfl rfl [I 0, .bool false, U 0, .bool false, U 0, U 0] (by kernel_rfl) ?_
 intro b23 w24 hst
 refine OW.stB hst 2 rfl rfl rfl rfl rfl (by kernel_rfl) rfl rfl [I 0, .bool r15.2, U 0, .bool false, U 0, U 0] rfl ?_
 intro w25 hst
 refine nx (CW.seq (CW.seq ?_))
 refine CW.cutK (fun a w1 => Rep 106 [(0, Pt b1), (1, I p1), (2, U p2), (3, U p3), (8, Pt b4), (9, I r15.1), (10, .bool r15.2), (11, Pt b23), (31, .bool (r15.2 && (p1 != 1)))] a ∧ St w (fp [itI R_t114 [Pt b1] S0 p0]) w1 [itI R_t114 [Pt b1] S19 p0, blkI b4 46 [I 0, .bool false, U 0, .bool false, U 0, U 0], blkI b23 46 [I 0, .bool r15.2, U 0, .bool false, U 0, U 0]]) ?_ ?_
 ·refine CW.region ?_
  refine pu 2 [(28, .bool r15.2)] ?_
  refine OW.split 28 rfl (fun hc26 => ?_) (fun hc26 => ?_)
  ·refine pu 3 [(31, .bool (p1 != 1))] (OW.nil rfl ?_)
   refine QW.say 31 (v := .bool (r15.2 && (p1 != 1))) rfl (by first | (rw [hc26]; done) | (rw [hc26]; rfl) | simp [hc26]) ?_
   exact QW.meet (fun a ha => ⟨ha.ag, hst.keep [0, 1, 2] rfl⟩)
  refine pu 3 [(31, .bool false)] (OW.nil rfl ?_)
  refine QW.say 31 (v := .bool (r15.2 && (p1 != 1))) rfl (by first | (rw [hc26]; done) | (rw [hc26]; rfl) | simp [hc26]) ?_
  exact QW.meet (fun a ha => ⟨ha.ag, hst.keep [0, 1, 2] rfl⟩)
 rintro a w1 ⟨ha, hst⟩
 refine CW.go ?_ ha
 obtain ⟨o49, ho50, hF⟩ := bs hF
 refine CW.cutK (fun a w1 => ∃ (S48 : List Nat), Rep 106 [(0, Pt b1), (1, I p1), (2, U p2), (3, U p3), (8, Pt b4), (9, I r15.1), (10, .bool r15.2), (11, Pt b23)] a ∧ St w (fp [itI R_t114 [Pt b1] S0 p0]) w1 [itI R_t114 [Pt b1] S48 p0, itI R_t171 [Pt b4] ([b4]) (api_Res.mk 0 false 0 false 0 0), itI R_t171 [Pt b23] ([b23]) o49]) ?_ ?_
 ·refine br ((r15.2 && (p1 != 1))) ho50 (fun ho50 hc51 => ?_) (fun ho50 hc51 => ?_)
  ·obtain ⟨v52, S53, hst⟩ := hst.openQ1 0 rfl rfl
   have hst := hst.toRow1 3 rfl
   obtain ⟨l54, a55, c56, rfl⟩ := hst.len 3 rfl
   have hst : St _ _ _ [blkI b1 131 [I p0.cap, .slice a55 (p0.pairs).length c56], _, _, _] := hst
   refine CW.region ?_
   refine pu 3 [(34, .pointer (some ⟨b1, 1, none⟩))] ?_
   refine OW.ld rfl rfl rfl rfl (by kernel_rfl) (hst.blk 0 rfl rfl) ?_
   refine pu 1 [(36, I r15.1)] ?_
   obtain ⟨x64, hx65, ho50⟩ := bs ho50
   obtain ⟨g67, o68, c69, hv66⟩ := hst.rowv 3 rfl hx65
   refine OW.idx 129 2 rfl rfl rfl rfl hv66 rfl (idx_some hx65).1 (idx_some hx65).2.1 (by kernel_rfl) (by kernel_rfl) ?_
   refine pu 1 [(38, .pointer (some ⟨g67, o68 + Int.toNat r15.1 * 2 + 1, none⟩))] ?_
   refine OW.ld rfl rfl rfl rfl (by kernel_rfl) (hst.rowc 3 rfl (fun _ => rfl) hx65 hv66 1 _ rfl) ?_
   refine pu 1 [(40, .pointer (some ⟨b23, 2, none⟩))] ?_
   refine OW.stB hst 2 rfl rfl rfl rfl rfl (by kernel_rfl) rfl rfl [I 0, .bool r15.2, U x64.Val, .bool false, U 0, U 0] rfl ?_
   intro w70 hst
   refine OW.nil rfl ?_
   have hst := hst.toIt 3 rfl (fun _ => rfl) (by decide)
   obtain ⟨S71, hst⟩ := hst.shutP1 R_t131 rfl 0 3 [1, 2] rfl rfl rfl p0 rfl rfl
   have hst := hst.shutP0 (enc := enc_api_Res) (sz := 6) (he := fun _ => rfl) 0 rfl (api_Res.mk 0 false 0 false 0 0) rfl
   have hst := hst.shutP0 (enc := enc_api_Res) (sz := 6) (he := fun _ => rfl) 1 rfl (api_Res.mk 0 r15.2 x64.Val false 0 0) rfl
   obtain rfl := inj ho50
   exact QW.meet (fun a ha => ⟨S71, ha.ag, hst.keep [2, 0, 1] rfl⟩)
  refine CW.skip ?_
  have hst := hst.shutP0 (enc := enc_api_Res) (sz := 6) (he := fun _ => rfl) 1 rfl (api_Res.mk 0 false 0 false 0 0) rfl
  have hst := hst.shutP0 (enc := enc_api_Res) (sz := 6) (he := fun _ => rfl) 2 rfl (api_Res.mk 0 r15.2 0 false 0 0) rfl
  obtain rfl := inj ho50
  exact QW.meet (fun a ha => ⟨S19, ha.ag, hst.keep [0, 1, 2] rfl⟩)
 rintro a w1 ⟨S48, ha, hst⟩
 refine CW.go ?_ ha
 refine CW.seq (rg ?_)
 refine pu 1 [(41, I p1)] (nx (CW.block (rg ?_)))
 refine pu 2 [(42, .bool (p1 == 3))] (nx ?_)
 refine br ((p1 == 3)) hF (fun hF hc72 => ?_) (fun hF hc72 => ?_)
 ·refine rg ?_
  refine pu 1 [(44, .bool r15.2)] (nx ?_)
  refine br (r15.2) hF (fun hF hc73 => ?_) (fun hF hc73 => ?_)
  ·obtain ⟨v74, S75, hst⟩ := hst.openQ1 0 rfl rfl
   have hst := hst.toRow1 3 rfl
   obtain ⟨l76, a77, c78, rfl⟩ := hst.len 3 rfl
   have hst : St _ _ _ [blkI b1 131 [I p0.cap, .slice a77 (p0.pairs).length c78], _, _, _] := hst
   refine CW.region ?_
   refine pu 4 [(45, Pt b1), (48, .pointer (some ⟨b1, 1, none⟩))] ?_
   refine OW.ld rfl rfl rfl rfl (by kernel_rfl) (hst.blk 0 rfl rfl) ?_
   refine pu 3 [(50, I r15.1), (52, I (w64 (r15.1 + 1)))] ?_
   obtain ⟨r88, hr89, hF⟩ := bs hF
   refine OW.fn rfl rfl rfl rfl (by kernel_rfl) (slices_Delete_tappet_api_Pair_tappet_api_Pair_ok _ (.slice a77 (p0.pairs).length c78) p0.pairs r15.1 (w64 (r15.1 + 1)) r88 hr89 (hst.part [3] rfl)) ?_
   rintro e w90 ⟨v92, rfl, hst91⟩
   refine ⟨_, rfl, ?_⟩
   have hst := hst.join (idx := [3]) (rest := [0, 1, 2]) rfl hst91
   obtain ⟨l93, a94, c95, rfl⟩ := hst.len 0 rfl
   refine pu 2 [(55, .pointer (some ⟨b1, 1, none⟩))] ?_
   refine OW.stB hst 1 rfl rfl rfl rfl rfl (by kernel_rfl) rfl rfl [I p0.cap, .slice a94 (r88).length c95] rfl ?_
   intro w96 hst
   refine OW.nil rfl (QW.block_normal (QW.next (CW.seq ?_)))
   have hst := hst.openQ0 3 rfl
   have hst := hst.openQ0 2 rfl
   refine CW.region ?_
   refine OW.ldN (cs := [I o49.E, .bool o49.Found, U o49.Val, .bool o49.Out, U o49.OutKey, U o49.OutVal]) rfl rfl rfl rfl (by kernel_rfl) (by kernel_rfl) (hst.blkN 3 rfl 0 6) ?_
   refine OW.stB hst 2 rfl rfl rfl rfl rfl (by kernel_rfl) rfl rfl [I o49.E, .bool o49.Found, U o49.Val, .bool o49.Out, U o49.OutKey, U o49.OutVal] rfl ?_
   intro w98 hst
   refine nx (CW.ret ?_)
   have hst := hst.toIt 0 rfl (fun _ => rfl) (by decide)
   obtain ⟨S99, hst⟩ := hst.shutP1 R_t131 rfl 1 0 [2, 3] rfl rfl rfl (book_Book.mk p0.cap r88) rfl rfl
   obtain rfl := inj hF
   refine QW.ret_c rfl rfl (run_loadN (cs := [I o49.E, .bool o49.Found, U o49.Val, .bool o49.Out, U o49.OutKey, U o49.OutVal]) (by kernel_rfl) (by kernel_rfl) (hst.blkN 0 rfl 0 6)) ?_
   exact ⟨S99, rfl, hst.keep [2] rfl⟩
  refine CW.skip (QW.block_normal (QW.next (CW.seq ?_)))
  have hst := hst.openQ0 2 rfl
  have hst := hst.openQ0 1 rfl
  refine CW.region ?_
  refine OW.ldN (cs := [I o49.E, .bool o49.Found, U o49.Val, .bool o49.Out, U o49.OutKey, U o49.OutVal]) rfl rfl rfl rfl (by kernel_rfl) (by kernel_rfl) (hst.blkN 2 rfl 0 6) ?_
  refine OW.stB hst 1 rfl rfl rfl rfl rfl (by kernel_rfl) rfl rfl [I o49.E, .bool o49.Found, U o49.Val, .bool o49.Out, U o49.OutKey, U o49.OutVal] rfl ?_
  intro w101 hst
  refine nx (CW.ret ?_)
  obtain rfl := inj hF
  refine QW.ret_c rfl rfl (run_loadN (cs := [I o49.E, .bool o49.Found, U o49.Val, .bool o49.Out, U o49.OutKey, U o49.OutVal]) (by kernel_rfl) (by kernel_rfl) (hst.blkN 1 rfl 0 6)) ?_
  exact ⟨S48, rfl, hst.keep [0] rfl⟩
 refine CW.seq (rg ?_)
 refine pu 2 [(56, .bool (p1 == 2))] (nx ?_)
 obtain ⟨o103, ho104, hF⟩ := bs hF
 refine CW.cutK (fun a w1 => Rep 106 [(0, Pt b1), (1, I p1), (2, U p2), (3, U p3), (8, Pt b4), (9, I r15.1), (10, .bool r15.2), (11, Pt b23), (56, .bool o103)] a ∧ St w (fp [itI R_t114 [Pt b1] S0 p0]) w1 [itI R_t114 [Pt b1] S48 p0, itI R_t171 [Pt b4] ([b4]) (api_Res.mk 0 false 0 false 0 0), itI R_t171 [Pt b23] ([b23]) o49]) ?_ ?_
 ·refine br ((p1 == 2)) ho104 (fun ho104 hc105 => ?_) (fun ho104 hc105 => ?_)
  ·refine CW.skip ?_
   obtain rfl := inj ho104
   exact QW.meet (fun a ha => ⟨ha.ag, hst.keep [0, 1, 2] rfl⟩)
  refine CW.region ?_
  refine pu 2 [(56, .bool (p1 == 4))] (OW.nil rfl ?_)
  obtain rfl := inj ho104
  exact QW.meet (fun a ha => ⟨ha.ag, hst.keep [0, 1, 2] rfl⟩)
 rintro a w1 ⟨ha, hst⟩
 refine CW.go ?_ ha
 refine br (o103) hF (fun hF hc106 => ?_) (fun hF hc106 => ?_)
 ·refine CW.seq (CW.seq ?_)
  obtain ⟨v107, S108, hst⟩ := hst.openQ1 0 rfl rfl
  have hst := hst.toRow1 3 rfl
  obtain ⟨l109, a110, c111, rfl⟩ := hst.len 3 rfl
  have hst : St _ _ _ [blkI b1 131 [I p0.cap, .slice a110 (p0.pairs).length c111], _, _, _] := hst
  refine CW.cutK (fun a w1 => Rep 106 [(0, Pt b1), (1, I p1), (2, U p2), (3, U p3), (8, Pt b4), (9, I r15.1), (10, .bool r15.2), (11, Pt b23), (72, .bool ((!r15.2) && (((p0.pairs).length : Int) == p0.cap)))] a ∧ St w (fp [itI R_t114 [Pt b1] S0 p0]) w1 [blkI b1 131 [I p0.cap, .slice a110 (p0.pairs).length c111], itI R_t171 [Pt b4] ([b4]) (api_Res.mk 0 false 0 false 0 0), itI R_t171 [Pt b23] ([b23]) o49, rowI (.slice a110 (p0.pairs).length c111) 129 enc_api_Pair 2 p0.pairs]) ?_ ?_
  ·refine CW.still (by kernel_rfl) (by kernel_rfl) ?_
   intro w114 hch115
   have hst := hst.same hch115
   refine OS.pure 3 [(61, .bool (!r15.2))] rfl (by kernel_rfl) ?_
   refine OS.split 61 rfl (fun hc116 => ?_) (fun hc116 => ?_)
   ·refine OS.pure 3 [(64, .pointer (some ⟨b1, 1, none⟩))] rfl (by kernel_rfl) ?_
    refine OS.ld rfl rfl rfl rfl rfl (by kernel_rfl) (hst.blk 0 rfl rfl) ?_
    refine OS.pure 4 [(66, I ((p0.pairs).length : Int)), (69, Pt b1)] rfl (by kernel_rfl) ?_
    refine OS.ld rfl rfl rfl rfl rfl (by kernel_rfl) (hst.blk 0 rfl rfl) ?_
    refine OS.pure 2 [(72, .bool (((p0.pairs).length : Int) == p0.cap))] rfl (by kernel_rfl) ?_
    refine OS.fin rfl ?_
    refine QW.say 72 (v := .bool ((!r15.2) && (((p0.pairs).length : Int) == p0.cap))) rfl (by first | (rw [hc116]; done) | (rw [hc116]; rfl) | simp [hc116]) ?_
    exact QW.meet (fun a ha => ⟨ha.ag, hst.keep [0, 1, 2, 3] rfl⟩)
   refine OS.pure 11 [(72, .bool false)] rfl (by kernel_rfl) ?_
   refine OS.fin rfl ?_
   refine QW.say 72 (v := .bool ((!r15.2) && (((p0.pairs).length : Int) == p0.cap))) rfl (by first | (rw [hc116]; done) | (rw [hc116]; rfl) | simp [hc116]) ?_
   exact QW.meet (fun a ha => ⟨ha.ag, hst.keep [0, 1, 2, 3] rfl⟩)
  rintro a w1 ⟨ha, hst⟩
  refine CW.go ?_ ha
  refine br (((!r15.2) && (((p0.pairs).length : Int) == p0.cap))) hF (fun hF hc117 => ?_) (fun hF hc117 => ?_)
  ·refine CW.seq ?_
   have hst := hst.openQ0 1 rfl
   refine CW.region ?_
   refine pu 1 [(73, .agg [I 40, .bool false, U 0, .bool false, U 0, U 0].toArray)] ?_
   refine OW.stB hst 1 rfl rfl rfl rfl rfl (by kernel_rfl) rfl rfl [I 40, .bool false, U 0, .bool false, U 0, U 0] rfl ?_
   intro w119 hst
   refine nx (CW.ret (QW.then_ret (QW.block_ret (QW.then_ret ?_))))
   have hst := hst.toIt 3 rfl (fun _ => rfl) (by decide)
   obtain ⟨S120, hst⟩ := hst.shutP1 R_t131 rfl 0 3 [1, 2] rfl rfl rfl p0 rfl rfl
   obtain rfl := inj hF
   refine QW.ret_c rfl rfl (run_loadN (cs := [I 40, .bool false, U 0, .bool false, U 0, U 0]) (by kernel_rfl) (by kernel_rfl) (hst.blkN 0 rfl 0 6)) ?_
   exact ⟨S120, rfl, hst.keep [2] rfl⟩
  refine CW.skip (QW.next (CW.seq (rg ?_)))
  refine pu 2 [(75, .bool (!r15.2))] (nx ?_)
  obtain ⟨o147, ho148, hF⟩ := bs hF
  refine CW.cutK (fun a w1 => ∃ (S146 : List Nat), Rep 106 [(0, Pt b1), (1, I p1), (3, U p3), (8, Pt b4), (9, I r15.1), (11, Pt b23)] a ∧ St w (fp [itI R_t114 [Pt b1] S0 p0]) w1 [itI R_t114 [Pt b1] S146 o147, itI R_t171 [Pt b4] ([b4]) (api_Res.mk 0 false 0 false 0 0), itI R_t171 [Pt b23] ([b23]) o49]) ?_ ?_
  ·refine br ((!r15.2)) ho148 (fun ho148 hc149 => ?_) (fun ho148 hc149 => ?_)
   ·refine CW.region ?_
    refine pu 4 [(76, Pt b1), (79, .pointer (some ⟨b1, 1, none⟩))] ?_
    refine OW.ld rfl rfl rfl rfl (by kernel_rfl) (hst.blk 0 rfl rfl) ?_
    refine pu 3 [(81, I r15.1), (83, .agg [U p2, U 0].toArray)] ?_
    refine OW.row (α := api_Pair) (e := 129) (enc := enc_api_Pair) (sz := 2) hst rfl rfl rfl [(api_Pair.mk p2 0)] rfl (fun _ => rfl) rfl rfl (fun _ => by kernel_rfl) ?_
    intro g161 w162 hst
    obtain ⟨r163, hr164, ho148⟩ := bs ho148
    refine OW.fn rfl rfl rfl rfl (by kernel_rfl) (slices_Insert_tappet_api_Pair_tappet_api_Pair_ok _ (.slice a110 (p0.pairs).length c111) p0.pairs r15.1 (.slice (some ⟨g161, 0, none⟩) 1 1) ([(api_Pair.mk p2 0)]) r163 hr164 (hst.part [3, 4] rfl)) ?_
    rintro e w165 ⟨v167, rfl, hst166⟩
    refine ⟨_, rfl, ?_⟩
    have hst := hst.join (idx := [3, 4]) (rest := [0, 1, 2]) rfl hst166
    obtain ⟨l168, a169, c170, rfl⟩ := hst.len 1 rfl
    refine pu 2 [(87, .pointer (some ⟨b1, 1, none⟩))] ?_
    refine OW.stB hst 2 rfl rfl rfl rfl rfl (by kernel_rfl) rfl rfl [I p0.cap, .slice a169 (r163.1).length c170] rfl ?_
    intro w171 hst
    refine OW.nil rfl ?_
    have hst := hst.toIt 1 rfl (fun _ => rfl) (by decide)
    obtain ⟨S172, hst⟩ := hst.shutP1 R_t131 rfl 2 1 [0, 3, 4] rfl rfl rfl (book_Book.mk p0.cap r163.1) rfl rfl
    obtain rfl := inj ho148
    exact QW.meet (fun a ha => ⟨S172, ha.ag, hst.keep [3, 1, 2] rfl⟩)
   refine CW.skip ?_
   have hst := hst.toIt 3 rfl (fun _ => rfl) (by decide)
   obtain ⟨S173, hst⟩ := hst.shutP1 R_t131 rfl 0 3 [1, 2] rfl rfl rfl p0 rfl rfl
   obtain rfl := inj ho148
   exact QW.meet (fun a ha => ⟨S173, ha.ag, hst.keep [2, 0, 1] rfl⟩)
  rintro a w1 ⟨S146, ha, hst⟩
  refine CW.go ?_ ha
  refine CW.seq (rg ?_)
  refine pu 2 [(89, .bool (p1 == 4))] (nx ?_)
  obtain ⟨o177, ho178, hF⟩ := bs hF
  refine CW.cutK (fun a w1 => Rep 106 [(0, Pt b1), (3, U o177.1), (8, Pt b4), (9, I r15.1), (11, Pt b23)] a ∧ St w (fp [itI R_t114 [Pt b1] S0 p0]) w1 [itI R_t114 [Pt b1] S146 o147, itI R_t171 [Pt b4] ([b4]) (api_Res.mk 0 false 0 false 0 0), itI R_t171 [Pt b23] ([b23]) o177.2]) ?_ ?_
  ·refine br ((p1 == 4)) ho178 (fun ho178 hc179 => ?_) (fun ho178 hc179 => ?_)
   ·refine CW.seq ?_
    have hst := hst.openQ0 2 rfl
    refine CW.region ?_
    refine pu 1 [(90, .pointer (some ⟨b23, 2, none⟩))] ?_
    refine OW.ld rfl rfl rfl rfl (by kernel_rfl) (hst.blk 2 rfl rfl) ?_
    refine pu 3 [(93, U (wu64 (o49.Val + p3))), (94, .pointer (some ⟨b23, 2, none⟩))] ?_
    refine OW.stB hst 2 rfl rfl rfl rfl rfl (by kernel_rfl) rfl rfl [I o49.E, .bool o49.Found, U (wu64 (o49.Val + p3)), .bool o49.Out, U o49.OutKey, U o49.OutVal] rfl ?_
    intro w181 hst
    refine nx (CW.region ?_)
    refine pu 1 [(95, .pointer (some ⟨b23, 2, none⟩))] ?_
    refine OW.ld rfl rfl rfl rfl (by kernel_rfl) (hst.blk 2 rfl rfl) ?_
    refine pu 1 [(3, U (wu64 (o49.Val + p3)))] (OW.nil rfl ?_)
    have hst := hst.shutP0 (enc := enc_api_Res) (sz := 6) (he := fun _ => rfl) 2 rfl (api_Res.mk o49.E o49.Found (wu64 (o49.Val + p3)) o49.Out o49.OutKey o49.OutVal) rfl
    obtain rfl := inj ho178
    exact QW.meet (fun a ha => ⟨ha.ag, hst.keep [0, 1, 2] rfl⟩)
   refine CW.skip ?_
   obtain rfl := inj ho178
   exact QW.meet (fun a ha => ⟨ha.ag, hst.keep [0, 1, 2] rfl⟩)
  rintro a w1 ⟨ha, hst⟩
  refine CW.go ?_ ha
  obtain ⟨v182, S183, hst⟩ := hst.openQ1 0 rfl rfl
  have hst := hst.toRow1 3 rfl
  obtain ⟨l184, a185, c186, rfl⟩ := hst.len 3 rfl
  have hst : St _ _ _ [blkI b1 131 [I o147.cap, .slice a185 (o147.pairs).length c186], _, _, _] := hst
  refine CW.region ?_
  refine pu 3 [(99, .pointer (some ⟨b1, 1, none⟩))] ?_
  refine OW.ld rfl rfl rfl rfl (by kernel_rfl) (hst.blk 0 rfl rfl) ?_
  refine pu 2 [(101, I r15.1), (102, U o177.1)] ?_
  obtain ⟨x194, hx195, hF⟩ := bs hF
  obtain ⟨g197, o198, c199, hv196⟩ := hst.rowv 3 rfl hx195
  refine OW.idx 129 2 rfl rfl rfl rfl hv196 rfl (idx_some hx195).1 (idx_some hx195).2.1 (by kernel_rfl) (by kernel_rfl) ?_
  refine pu 1 [(104, .pointer (some ⟨g197, o198 + Int.toNat r15.1 * 2 + 1, none⟩))] ?_
  refine OW.stR hst 3 rfl hv196 (fun _ => rfl) rfl rfl hx195 1 rfl rfl rfl (by kernel_rfl) rfl rfl (api_Pair.mk x194.Key o177.1) rfl ?_
  intro w200 hst
  refine OW.nil rfl (QW.block_normal (QW.next (CW.seq ?_)))
  have hst := hst.openQ0 2 rfl
  have hst := hst.openQ0 1 rfl
  refine CW.region ?_
  refine OW.ldN (cs := [I o177.2.E, .bool o177.2.Found, U o177.2.Val, .bool o177.2.Out, U o177.2.OutKey, U o177.2.OutVal]) rfl rfl rfl rfl (by kernel_rfl) (by kernel_rfl) (hst.blkN 2 rfl 0 6) ?_
  refine OW.stB hst 1 rfl rfl rfl rfl rfl (by kernel_rfl) rfl rfl [I o177.2.E, .bool o177.2.Found, U o177.2.Val, .bool o177.2.Out, U o177.2.OutKey, U o177.2.OutVal] rfl ?_
  intro w202 hst
  refine nx (CW.ret ?_)
  have hst := hst.toIt 3 rfl (fun _ => rfl) (by decide)
  obtain ⟨S203, hst⟩ := hst.shutP1 R_t131 rfl 0 3 [1, 2] rfl rfl rfl (book_Book.mk o147.cap (o147.pairs.set (Int.toNat r15.1) (api_Pair.mk x194.Key o177.1))) rfl rfl
  obtain rfl := inj hF
  refine QW.ret_c rfl rfl (run_loadN (cs := [I o177.2.E, .bool o177.2.Found, U o177.2.Val, .bool o177.2.Out, U o177.2.OutKey, U o177.2.OutVal]) (by kernel_rfl) (by kernel_rfl) (hst.blkN 0 rfl 0 6)) ?_
  exact ⟨S203, rfl, hst.keep [2] rfl⟩
 refine CW.skip (QW.block_normal (QW.next (CW.seq ?_)))
 have hst := hst.openQ0 2 rfl
 have hst := hst.openQ0 1 rfl
 refine CW.region ?_
 refine OW.ldN (cs := [I o49.E, .bool o49.Found, U o49.Val, .bool o49.Out, U o49.OutKey, U o49.OutVal]) rfl rfl rfl rfl (by kernel_rfl) (by kernel_rfl) (hst.blkN 2 rfl 0 6) ?_
 refine OW.stB hst 1 rfl rfl rfl rfl rfl (by kernel_rfl) rfl rfl [I o49.E, .bool o49.Found, U o49.Val, .bool o49.Out, U o49.OutKey, U o49.OutVal] rfl ?_
 intro w205 hst
 refine nx (CW.ret ?_)
 obtain rfl := inj hF
 refine QW.ret_c rfl rfl (run_loadN (cs := [I o49.E, .bool o49.Found, U o49.Val, .bool o49.Out, U o49.OutKey, U o49.OutVal]) (by kernel_rfl) (by kernel_rfl) (hst.blkN 1 rfl 0 6)) ?_
 exact ⟨S48, rfl, hst.keep [0] rfl⟩
theorem slices_IndexFunc_uint64_uint64_94_ok (w : World) (v0 : Value) (p0 : List Int) (c1 : Nat) (p1 : Int) (r : Int) (hF : slices_IndexFunc_uint64_uint64_94 p0 p1 = some r)
    (hst : St w (fp []) w []) (h0 : Rd w (fp []) v0 (encInt .u64) 1 p0) (hc1 : RdB w (fp []) c1 [U p1]) :
    Calls Try.prog 97 [v0, .func (.func 94) #[] #[Pt c1]].toArray w (fun e w' => e = .returned (I r) ∧ St w (fp []) w' []) := by
 refine CW.start (N := 19) Try.func97 rfl rfl rfl ?_
 obtain ⟨l1, a2, c3, rfl⟩ := h0.len
 refine rg ?_
 refine pu 1 [] (nx (CW.seq (rg ?_)))
 refine pu 3 [(7, I ((p0).length : Int)), (8, I 0)] (nx ?_)
 obtain ⟨o76, ho77, hF⟩ := bs hF
 refine CW.cutK (fun a w1 => ∃ (t78 : Unit), o76 = .inl t78 ∧ Rep 19 [] a ∧ St w (fp []) w1 []) ?_ ?_
 ·refine CW.block ?_
  refine CW.loop (fun n a w1 => ∃ (i127 : Nat) (s126 : Unit), i127 + n = (p0).length ∧ Rep 19 [(0, .slice a2 (p0).length c3), (1, .func (.func 94) #[] #[Pt c1]), (7, I ((p0).length : Int)), (8, I (i127 : Int))] a ∧ St w (fp []) w1 [] ∧ forN (slices_IndexFunc_uint64_uint64_94_l1 p0 p1) (fun (s126 : Unit) => (.inl ())) n i127 s126 = some o76) (p0).length (fun a ha => ⟨0, (), Nat.zero_add _, ha.ag, hst.keep [] rfl, ho77⟩) ?_
  rintro n124 a w1 ⟨i127, s126, hi128, ha, hst, hl125⟩
  refine CW.go ?_ ha
  refine rg ?_
  refine pu 1 [(9, .bool (decide ((i127 : Int) < ((p0).length : Int))))] (nx (CW.seq ?_))
  rcases bft (decide ((i127 : Int) < ((p0).length : Int))) with hc129 | hc129
  ·rcases n124 with _ | n124
   ·exact (cnt0 hi128 hc129).elim
   refine CW.cond_t rfl hc129 (CW.skip (QW.next (CW.seq (CW.block (rg ?_)))))
   refine pu 2 [(5, I (i127 : Int))] (nx (rg ?_))
   refine pu 3 [(11, .func (.func 94) #[] #[Pt c1]), (12, .slice a2 (p0).length c3), (13, I (i127 : Int))] ?_
   obtain ⟨x140, hx141, hl125⟩ := bs hl125
   obtain ⟨g143, o144, c145, hv142⟩ := h0.formv (fun _ => ⟨_, rfl⟩) hx141
   refine OW.idx 42 1 rfl rfl rfl rfl hv142 rfl (idx_some hx141).1 (idx_some hx141).2.1 (by kernel_rfl) (by kernel_rfl) ?_
   refine OW.ld rfl rfl rfl rfl (by kernel_rfl) (h0.cellv hst hx141 hv142 0 _ rfl) ?_
   obtain ⟨r146, hr147, hl125⟩ := bs hl125
   refine OW.fn rfl rfl rfl rfl (by kernel_rfl) (lru_LRU_drop_1_ok _ x140 c1 p1 r146 hr147 (hst.part [] rfl) (hc1.give hst [])) ?_
   rintro e w148 ⟨rfl, hst149⟩
   refine ⟨_, rfl, ?_⟩
   have hst := hst.join (idx := []) (rest := []) rfl hst149
   refine nx ?_
   refine br (r146) hl125 (fun hl125 hc150 => ?_) (fun hl125 hc150 => ?_)
   ·refine rg ?_
    refine pu 2 [(4, I (i127 : Int))] (nx (CW.ret (QW.block_ret (QW.then_ret (QW.then_ret (QW.block_ret (QW.then_ret ?_)))))))
    obtain rfl := inj hl125
    obtain rfl := inj hF
    refine QW.ret1 rfl rfl ?_
    exact ⟨rfl, hst.keep [] rfl⟩
   refine CW.skip (QW.block_normal (QW.next (CW.region ?_)))
   refine pu 2 [(8, I (w64 ((i127 : Int) + 1)))] (OW.nil rfl ?_)
   refine QW.say 8 rfl (congrArg (Value.int .i64) (w64_cnt hc129 l1)) ?_
   exact QW.meet (fun a ha => ⟨n124, Nat.lt_succ_self _, i127 + 1, (), cnt_next hi128, ha.ag, hst.keep [] rfl, hl125⟩)
  rcases n124 with _ | n124
  ·refine CW.cond_f rfl hc129 ?_
   refine CW.exit (QW.then_exit (QW.then_exit ?_))
   refine QW.block_here ?_
   obtain rfl := inj hl125
   exact QW.meet (fun a ha => ⟨(), rfl, ha.ag, hst.keep [] rfl⟩)
  exact (cnt1 hi128 hc129).elim
 rintro a w1 ⟨t78, rfl, ha, hst⟩
 refine CW.go ?_ ha
 refine rg ?_
 refine pu 1 [(4, I (-1))] (nx (CW.ret ?_))
 obtain rfl := inj hF
 refine QW.ret1 rfl rfl ?_
 exact ⟨rfl, hst.keep [] rfl⟩
theorem slices_DeleteFunc_uint64_uint64_94_ok (w : World) (fu : Nat) (v0 : Value) (p0 : List Int) (c1 : Nat) (p1 : Int) (r : (List Int)) (hF : slices_DeleteFunc_uint64_uint64_94 fu p0 p1 = some r)
    (hst : St w (fp [rowI v0 42 (encInt .u64) 1 p0]) w [rowI v0 42 (encInt .u64) 1 p0]) (hc1 : RdB w (fp [rowI v0 42 (encInt .u64) 1 p0]) c1 [U p1]) :
    Calls Try.prog 93 [v0, .func (.func 94) #[] #[Pt c1]].toArray w (fun e w' => ∃ (x0 : Value), e = .returned (x0) ∧ St w (fp [rowI v0 42 (encInt .u64) 1 p0]) w' [rowI x0 42 (encInt .u64) 1 r]) := by
 refine CW.start (N := 42) Try.func93 rfl rfl rfl ?_
 obtain ⟨l1, a2, c3, rfl⟩ := hst.len 0 rfl
 refine rg ?_
 refine pu 1 [] (nx (rg ?_))
 refine pu 2 [(8, .slice a2 (p0).length c3), (9, .func (.func 94) #[] #[Pt c1])] ?_
 obtain ⟨r8, hr9, hF⟩ := bs hF
 refine OW.fn rfl rfl rfl rfl (by kernel_rfl) (slices_IndexFunc_uint64_uint64_94_ok _ (.slice a2 (p0).length c3) p0 c1 p1 r8 hr9 (hst.part [] rfl) (hst.rd 0 rfl (fun _ => rfl) [] rfl (hst.len 0 rfl).1) (hc1.give hst [])) ?_
 rintro e w10 ⟨rfl, hst11⟩
 refine ⟨_, rfl, ?_⟩
 have hst := hst.join (idx := []) (rest := [0]) rfl hst11
 refine pu 1 [(5, I r8)] (nx (CW.seq (rg ?_)))
 refine pu 2 [(12, .bool (r8 == (-1)))] (nx ?_)
 refine br ((r8 == (-1))) hF (fun hF hc12 => ?_) (fun hF hc12 => ?_)
 ·refine rg ?_
  refine pu 2 [(4, .slice a2 (p0).length c3)] (nx (CW.ret (QW.then_ret ?_)))
  obtain rfl := inj hF
  refine QW.ret1 rfl rfl ?_
  exact ⟨(.slice a2 (p0).length c3), rfl, hst.keep [0] rfl⟩
 refine CW.skip (QW.next (CW.seq (rg ?_)))
 refine pu 3 [(6, I (w64 (r8 + 1)))] (nx ?_)
 obtain ⟨o138, ho139, hF⟩ := bs hF
 refine CW.cutK (fun a w1 => ∃ (v137 : Value), Rep 42 [(0, v137), (5, I o138.2)] a ∧ St w (fp [rowI (.slice a2 (p0).length c3) 42 (encInt .u64) 1 p0]) w1 [rowI v137 42 (encInt .u64) 1 o138.1]) ?_ ?_
 ·refine CW.block ?_
  refine CW.loop (fun n a w1 => ∃ (s222 : (List Int) × Int × Int) (v223 : Value), Rep 42 [(0, v223), (1, .func (.func 94) #[] #[Pt c1]), (5, I s222.2.1), (6, I s222.2.2)] a ∧ St w (fp [rowI (.slice a2 (p0).length c3) 42 (encInt .u64) 1 p0]) w1 [rowI v223 42 (encInt .u64) 1 s222.1] ∧ loop (slices_DeleteFunc_uint64_uint64_94_l1 p1) n s222 = some o138) fu (fun a ha => ⟨(p0, r8, w64 (r8 + 1)), (.slice a2 (p0).length c3), ha.ag, hst.keep [0] rfl, ho139⟩) ?_
  rintro n220 a w1 ⟨s222, v223, ha, hst, hl221⟩
  rcases n220 with _ | n220
  ·exact (loop_zero hl221).elim
  refine CW.go ?_ ha
  obtain ⟨l224, a225, c226, rfl⟩ := hst.len 0 rfl
  refine CW.seq (rg ?_)
  refine pu 4 [(19, .bool (decide (s222.2.2 < ((s222.1).length : Int))))] (nx ?_)
  refine br (decide (s222.2.2 < ((s222.1).length : Int))) hl221 (fun hl221 hc227 => ?_) (fun hl221 hc227 => ?_)
  ·refine CW.skip (QW.next (CW.seq (CW.block (rg ?_))))
   refine pu 2 [(22, .slice a225 (s222.1).length c226), (23, I s222.2.2)] ?_
   obtain ⟨x234, hx235, hl221⟩ := bs hl221
   obtain ⟨g237, o238, c239, hv236⟩ := hst.rowv 0 rfl hx235
   refine OW.idx 42 1 rfl rfl rfl rfl hv236 rfl (idx_some hx235).1 (idx_some hx235).2.1 (by kernel_rfl) (by kernel_rfl) ?_
   refine OW.ld rfl rfl rfl rfl (by kernel_rfl) (hst.rowc 0 rfl (fun _ => rfl) hx235 hv236 0 _ rfl) ?_
   refine pu 1 [(7, U x234)] (nx (rg ?_))
   refine pu 2 [(26, .func (.func 94) #[] #[Pt c1]), (27, U x234)] ?_
   obtain ⟨r244, hr245, hl221⟩ := bs hl221
   refine OW.fn rfl rfl rfl rfl (by kernel_rfl) (lru_LRU_drop_1_ok _ x234 c1 p1 r244 hr245 (hst.part [] rfl) (hc1.give hst [])) ?_
   rintro e w246 ⟨rfl, hst247⟩
   refine ⟨_, rfl, ?_⟩
   have hst := hst.join (idx := []) (rest := [0]) rfl hst247
   refine pu 1 [(29, .bool (!r244))] (nx ?_)
   refine br ((!r244)) hl221 (fun hl221 hc248 => ?_) (fun hl221 hc248 => ?_)
   ·refine rg ?_
    refine pu 3 [(30, .slice a225 (s222.1).length c226), (31, I s222.2.1), (32, U x234)] ?_
    obtain ⟨x256, hx257, hl221⟩ := bs hl221
    obtain ⟨g259, o260, c261, hv258⟩ := hst.rowv 0 rfl hx257
    refine OW.idx 42 1 rfl rfl rfl rfl hv258 rfl (idx_some hx257).1 (idx_some hx257).2.1 (by kernel_rfl) (by kernel_rfl) ?_
    refine OW.stR hst 0 rfl hv258 (fun _ => rfl) rfl rfl hx257 0 rfl rfl rfl (by kernel_rfl) rfl rfl x234 rfl ?_
    intro w262 hst
    refine nx (CW.region ?_)
    refine pu 3 [(5, I (w64 (s222.2.1 + 1)))] (OW.nil rfl (QW.block_normal (QW.next (CW.region ?_))))
    refine pu 3 [(6, I (w64 (s222.2.2 + 1)))] (OW.nil rfl ?_)
    exact QW.meet (fun a ha => ⟨n220, Nat.lt_succ_self _, ((s222.1.set (Int.toNat s222.2.1) x234), w64 (s222.2.1 + 1), w64 (s222.2.2 + 1)), (.slice a225 (s222.1).length c226), ha.ag, hst.keep [0] rfl, hl221⟩)
   refine CW.skip (QW.block_normal (QW.next (CW.region ?_)))
   refine pu 3 [(6, I (w64 (s222.2.2 + 1)))] (OW.nil rfl ?_)
   exact QW.meet (fun a ha => ⟨n220, Nat.lt_succ_self _, (s222.1, s222.2.1, w64 (s222.2.2 + 1)), (.slice a225 (s222.1).length c226), ha.ag, hst.keep [0] rfl, hl221⟩)
  refine CW.exit (QW.then_exit (QW.then_exit ?_))
  refine QW.block_here ?_
  obtain rfl := inj hl221
  exact QW.meet (fun a ha => ⟨(.slice a225 (s222.1).length c226), ha.ag, hst.keep [0] rfl⟩)
 rintro a w1 ⟨v137, ha, hst⟩
 refine CW.go ?_ ha
 obtain ⟨l267, a268, c269, rfl⟩ := hst.len 0 rfl
 refine rg ?_
 refine pu 2 [(36, .slice a268 (o138.1).length c269), (37, I o138.2)] ?_
 obtain ⟨ys273, hcut274, hF⟩ := bs hF
 refine OW.op (v := .slice (shd a268 c269 (Int.toNat o138.2) 1) (ys273).length (c269 - Int.toNat o138.2)) rfl rfl rfl rfl (fun a ha => suf_run (xs := o138.1) (e := 42) 1 rfl rfl rfl rfl hcut274 (by kernel_rfl) (by kernel_rfl) a _ ha) ?_
 refine OW.clearR (e := 42) hst 0 rfl (fun _ => rfl) rfl rfl hcut274 rfl rfl (by kernel_rfl) 0 (by kernel_rfl) rfl ?_
 intro w275 hst
 refine nx (rg ?_)
 refine pu 2 [(39, .slice a268 (o138.1).length c269), (40, I o138.2)] ?_
 obtain ⟨ys278, hcut279, hF⟩ := bs hF
 refine OW.op (v := .slice a268 (ys278).length c269) rfl rfl rfl rfl (fun a ha => pre_run (e := 42) 1 rfl rfl rfl hcut279 (hst.cap 0 rfl) (by kernel_rfl) (by kernel_rfl) a _ ha) ?_
 refine pu 1 [(4, .slice a268 (ys278).length c269)] (nx (CW.ret ?_))
 have hst := hst.cutRow 0 rfl (fun _ => rfl) hcut279
 obtain rfl := inj hF
 refine QW.ret1 rfl rfl ?_
 exact ⟨(.slice a268 (ys278).length c269), rfl, hst.keep [0] rfl⟩
theorem lru_LRU_drop_ok (w : World) (fu : Nat) (v0 : Value) (S0 : List Nat) (p0 : lru_LRU) (p1 : Int) (r : lru_LRU) (hF : lru_LRU_drop fu p0 p1 = some r)
    (hst : St w (fp [itI R_t117 [v0] S0 p0]) w [itI R_t117 [v0] S0 p0]) :
    Calls Try.prog 91 [v0, U p1].toArray w (fun e w' => ∃ (s0 : List Nat), e = .returned (.tuple #[]) ∧ St w (fp [itI R_t117 [v0] S0 p0]) w' [itI R_t117 [v0] s0 r]) := by
 refine CW.start (N := 13) Try.func91 rfl rfl rfl ?_
 obtain ⟨b1, rfl⟩ := hst.fptr 0 rfl
 refine rg ?_
 refine OW.box hst rfl rfl rfl rfl [U p1] rfl ?_
 intro b4 w5 hst
 refine nx ?_
 obtain ⟨v6, S7, v8, S9, hst⟩ := hst.openQ2 0 rfl rfl rfl
 have hst := hst.toRow1 3 rfl
 obtain ⟨b10, rfl⟩ := hst.fptr 2 rfl
 obtain ⟨l11, a12, c13, rfl⟩ := hst.len 3 rfl
 have hst : St _ _ _ [blkI b1 133 [Pt b10, .slice a12 (p0.order).length c13], _, _, _] := hst
 refine CW.region ?_
 refine pu 4 [(4, Pt b1), (7, .pointer (some ⟨b1, 1, none⟩))] ?_
 refine OW.ld rfl rfl rfl rfl (by kernel_rfl) (hst.blk 0 rfl rfl) ?_
 refine pu 1 [(9, .func (.func 94) #[] #[Pt b4])] ?_
 obtain ⟨r23, hr24, hF⟩ := bs hF
 refine OW.fn rfl rfl rfl rfl (by kernel_rfl) (slices_DeleteFunc_uint64_uint64_94_ok _ fu (.slice a12 (p0.order).length c13) p0.order b4 p1 r23 hr24 (hst.part [3] rfl) (hst.rdB 1 rfl [3] rfl)) ?_
 rintro e w25 ⟨v27, rfl, hst26⟩
 refine ⟨_, rfl, ?_⟩
 have hst := hst.join (idx := [3]) (rest := [0, 1, 2]) rfl hst26
 obtain ⟨l28, a29, c30, rfl⟩ := hst.len 0 rfl
 refine pu 2 [(12, .pointer (some ⟨b1, 1, none⟩))] ?_
 refine OW.stB hst 1 rfl rfl rfl rfl rfl (by kernel_rfl) rfl rfl [Pt b10, .slice a29 (r23).length c30] rfl ?_
 intro w31 hst
 refine OW.nil rfl ?_
 have hst := hst.toIt 0 rfl (fun _ => rfl) (by decide)
 obtain ⟨S32, hst⟩ := hst.shutP2 R_t133 rfl 1 3 0 [2] rfl rfl rfl rfl (lru_LRU.mk p0.Book r23) rfl rfl
 obtain rfl := inj hF
 refine QW.end0 rfl ?_
 exact ⟨S32, rfl, hst.keep [1] rfl⟩
theorem lru_LRU_evict_ok (w : World) (fu : Nat) (v0 : Value) (S0 : List Nat) (p0 : lru_LRU) (v1 : Value) (S1 : List Nat) (p1 : api_Res) (r : lru_LRU × api_Res) (hF : lru_LRU_evict fu p0 p1 = some r)
    (hst : St w (fp [itI R_t117 [v0] S0 p0, itI R_t171 [v1] S1 p1]) w [itI R_t117 [v0] S0 p0, itI R_t171 [v1] S1 p1]) :
    Calls Try.prog 89 [v0, v1].toArray w (fun e w' => ∃ (s0 : List Nat) (s1 : List Nat), e = .returned (.tuple #[]) ∧ St w (fp [itI R_t117 [v0] S0 p0, itI R_t171 [v1] S1 p1]) w' [itI R_t117 [v0] s0 r.1, itI R_t171 [v1] s1 r.2]) := by
 refine CW.start (N := 39) Try.func89 rfl rfl rfl ?_
 obtain ⟨b1, rfl⟩ := hst.fptr 0 rfl
 obtain ⟨b2, rfl⟩ := hst.fptr 1 rfl
 refine CW.seq ?_
 obtain ⟨v3, S4, v5, S6, hst⟩ := hst.openQ2 0 rfl rfl rfl
 have hst := hst.toRow1 3 rfl
 obtain ⟨b7, rfl⟩ := hst.fptr 2 rfl
 obtain ⟨l8, a9, c10, rfl⟩ := hst.len 3 rfl
 have hst : St _ _ _ [blkI b1 133 [Pt b7, .slice a9 (p0.order).length c10], _, _, _] := hst
 refine CW.still (by kernel_rfl) (by kernel_rfl) ?_
 intro w19 hch20
 have hst := hst.same hch20
 refine OS.pure 3 [(8, .pointer (some ⟨b1, 1, none⟩))] rfl (by kernel_rfl) ?_
 refine OS.ld rfl rfl rfl rfl rfl (by kernel_rfl) (hst.blk 0 rfl rfl) ?_
 refine OS.pure 3 [(12, .pointer (some ⟨b1, 1, none⟩))] rfl (by kernel_rfl) ?_
 refine OS.ld rfl rfl rfl rfl rfl (by kernel_rfl) (hst.blk 0 rfl rfl) ?_
 refine OS.pure 2 [(15, I (w64 (((p0.order).length : Int) - 1)))] rfl (by kernel_rfl) ?_
 obtain ⟨x21, hx22, hF⟩ := bs hF
 obtain ⟨g24, o25, c26, hv23⟩ := hst.rowv 3 rfl hx22
 refine OS.idx 42 1 rfl rfl rfl rfl rfl hv23 rfl (idx_some hx22).1 (idx_some hx22).2.1 (by kernel_rfl) (by kernel_rfl) ?_
 refine OS.ld rfl rfl rfl rfl rfl (by kernel_rfl) (hst.rowc 3 rfl (fun _ => rfl) hx22 hv23 0 _ rfl) ?_
 refine OS.pure 1 [(4, U x21)] rfl (by kernel_rfl) ?_
 refine OS.fin rfl (QW.next (rg ?_))
 refine pu 3 [(20, Pt b1)] ?_
 refine OW.ld rfl rfl rfl rfl (by kernel_rfl) (hst.blk 0 rfl rfl) ?_
 refine pu 1 [(22, U x21)] ?_
 obtain ⟨r35, hr36, hF⟩ := bs hF
 refine OW.fn rfl rfl rfl rfl (by kernel_rfl) (book_Book_Do_ok _ fu (Pt b7) S4 p0.Book 3 x21 0 r35 hr36 (hst.part [2] rfl)) ?_
 rintro e w37 ⟨S39, rfl, hst38⟩
 refine ⟨_, rfl, ?_⟩
 have hst := hst.join (idx := [2]) (rest := [0, 1, 3]) rfl hst38
 refine OW.alloc hst rfl rfl rfl [I 0, .bool false, U 0, .bool false, U 0, U 0] (by kernel_rfl) ?_
 intro b40 w41 hst
 refine OW.stB hst 4 rfl rfl rfl rfl rfl (by kernel_rfl) rfl rfl [I r35.1.E, .bool r35.1.Found, U r35.1.Val, .bool r35.1.Out, U r35.1.OutKey, U r35.1.OutVal] rfl ?_
 intro w42 hst
 refine nx (rg ?_)
 refine pu 2 [(24, Pt b1), (25, U x21)] ?_
 have hst := hst.toIt 3 rfl (fun _ => rfl) (by decide)
 obtain ⟨S49, hst⟩ := hst.shutP2 R_t133 rfl 1 0 3 [2, 4] rfl rfl rfl rfl (lru_LRU.mk r35.2 p0.order) rfl rfl
 obtain ⟨r50, hr51, hF⟩ := bs hF
 refine OW.fn rfl rfl rfl rfl (by kernel_rfl) (lru_LRU_drop_ok _ fu (Pt b1) S49 (lru_LRU.mk r35.2 p0.order) x21 r50 hr51 (hst.part [2] rfl)) ?_
 rintro e w52 ⟨S54, rfl, hst53⟩
 refine ⟨_, rfl, ?_⟩
 have hst := hst.join (idx := [2]) (rest := [0, 1]) rfl hst53
 refine nx ?_
 have hst := hst.openQ0 1 rfl
 refine CW.plan (by kernel_rfl) ?_
 intro w60 hch61
 have hst := hst.same hch61
 refine OA.pure [0, 1, 2, 3, 4] [(27, Pt b2), (28, Pt b2), (29, Pt b2), (30, U x21), (31, .pointer (some ⟨b40, 2, none⟩))] (by kernel_rfl) ?_
 refine OA.ld (i := 5) rfl (by kernel_rfl) rfl rfl rfl (by kernel_rfl) (hst.blk 2 rfl rfl) ?_
 refine OA.pure [6, 7] [(34, .pointer (some ⟨b2, 3, none⟩))] (by kernel_rfl) ?_
 refine OA.act (i := 8) [5] (by kernel_rfl) rfl rfl (by kernel_rfl) (by kernel_rfl) ?_
 refine OW.stB hst 1 rfl rfl rfl rfl rfl (by kernel_rfl) rfl rfl [I p1.E, .bool p1.Found, U p1.Val, .bool true, U p1.OutKey, U p1.OutVal] rfl ?_
 intro w62 hst
 refine OA.next ⟨(hst.blk 2 rfl rfl), trivial⟩ ?_
 refine OA.pure [9, 10] [(36, .pointer (some ⟨b2, 4, none⟩))] (by kernel_rfl) ?_
 refine OA.act (i := 11) [5] (by kernel_rfl) rfl rfl (by kernel_rfl) (by kernel_rfl) ?_
 refine OW.stB hst 1 rfl rfl rfl rfl rfl (by kernel_rfl) rfl rfl [I p1.E, .bool p1.Found, U p1.Val, .bool true, U x21, U p1.OutVal] rfl ?_
 intro w63 hst
 refine OA.next ⟨(hst.blk 2 rfl rfl), trivial⟩ ?_
 refine OA.pure [12, 13] [(38, .pointer (some ⟨b2, 5, none⟩))] (by kernel_rfl) ?_
 refine OA.act (i := 14) [] (by kernel_rfl) rfl rfl (by kernel_rfl) (by kernel_rfl) ?_
 refine OW.stB hst 1 rfl rfl rfl rfl rfl (by kernel_rfl) rfl rfl [I p1.E, .bool p1.Found, U p1.Val, .bool true, U x21, U r35.1.Val] rfl ?_
 intro w65 hst
 refine OA.next trivial ?_
 refine OA.fin (by kernel_rfl) (by kernel_rfl) ?_
 have hst := hst.shutP0 (enc := enc_api_Res) (sz := 6) (he := fun _ => rfl) 1 rfl (api_Res.mk p1.E p1.Found p1.Val true x21 r35.1.Val) rfl
 obtain rfl := inj hF
 refine QW.end0 rfl ?_
 exact ⟨S54, ([b2]), rfl, hst.keep [0, 1] rfl⟩
theorem slices_Insert_uint64_uint64_ok (w : World) (v0 : Value) (p0 : List Int) (p1 : Int) (v2 : Value) (p2 : List Int) (r : List Int × List Int) (hF : slices_Insert_uint64_uint64 p0 p1 p2 = some r)
    (hst : St w (fp [rowI v0 42 (encInt .u64) 1 p0, rowI v2 42 (encInt .u64) 1 p2]) w [rowI v0 42 (encInt .u64) 1 p0, rowI v2 42 (encInt .u64) 1 p2]) :
    Calls Try.prog 92 [v0, I p1, v2].toArray w (fun e w' => ∃ x0 : Value, e = .returned x0 ∧ St w (fp [rowI v0 42 (encInt .u64) 1 p0, rowI v2 42 (encInt .u64) 1 p2]) w' [rowI v2 42 (encInt .u64) 1 r.2, rowI x0 42 (encInt .u64) 1 r.1]) := by
  obtain ⟨k, rfl, hk, hroom, rfl⟩ := insF_some hF
  refine CW.start (N := 95) Try.func92 rfl rfl rfl ?_
  obtain ⟨l0, a0, c0, rfl⟩ := hst.len 0 rfl
  obtain ⟨l2, a2, c2, rfl⟩ := hst.len 1 rfl
  have hbs : p0.length + p2.length ≤ 140737488355328 := Nat.le_trans (Nat.le_mul_of_pos_right _ (show 0 < 8 by decide)) hroom
  have hcap : p0.length ≤ c0 := hst.cap 0 rfl
  refine rg ?_
  refine pu 1 [] ?_
  refine nx ?_
  refine rg ?_
  refine pu 2 [(10, .slice a0 p0.length c0), (11, I (k : Int))] ?_
  refine OW.op (v := .slice (shd a0 c0 (Int.toNat (k : Int)) 1) (p0.drop k).length (c0 - Int.toNat (k : Int))) rfl rfl rfl rfl (fun a ha => suf_run (xs := p0) (e := 42) 1 rfl rfl rfl rfl (cut_suf rfl hk) (by kernel_rfl) (by kernel_rfl) a _ ha) ?_
  refine nx ?_
  refine rg ?_
  refine pu 3 [(7, I (p2.length : Int))] ?_
  refine nx ?_
  refine CW.seq (rg ?_)
  refine pu 2 [(16, .bool ((p2.length : Int) == 0))] ?_
  refine nx ?_
  rcases bft ((p2.length : Int) == 0) with hm | hm
  · refine CW.cond_t rfl hm (rg ?_)
    refine pu 2 [(6, .slice a0 p0.length c0)] (nx (CW.ret (QW.then_ret ?_)))
    refine QW.ret1 rfl rfl ?_
    have e0 : p2 = [] := List.eq_nil_of_length_eq_zero (by simpa using hm)
    have e1 : p0.take k ++ p2 ++ p0.drop k = p0 := by rw [e0, List.append_nil, List.take_append_drop]
    exact ⟨_, rfl, by rw [e1]; exact hst.keep [1, 0] rfl⟩
  have hm0 : 0 < p2.length := by have : ¬ p2.length = 0 := by (simpa using hm)
                                 omega
  refine CW.cond_f rfl hm (CW.skip (QW.next ?_))
  refine rg ?_
  refine pu 3 [(8, I (p0.length : Int))] ?_
  refine nx ?_
  refine CW.seq (rg ?_)
  refine pu 3 [(22, .bool ((k : Int) == (p0.length : Int)))] ?_
  refine nx ?_
  rcases bft ((k : Int) == (p0.length : Int)) with hn | hn
  · refine CW.cond_t rfl hn (rg ?_)
    refine pu 2 [(23, .slice a0 p0.length c0), (24, .slice a2 p2.length c2)] ?_
    refine OW.app hst 0 rfl (fun _ => rfl) (fun _ => rfl) rfl rfl rfl rfl rfl rfl (by kernel_rfl) el42 (hst.rd 1 rfl (fun _ => rfl) [] rfl (hst.len 1 rfl).1) hroom ?_
    intro v3 w1 hst
    refine pu 1 [(6, v3)] (nx (CW.ret (QW.then_ret ?_)))
    refine QW.ret1 rfl rfl ?_
    have e0 : k = p0.length := by have := (show (k : Int) = (p0.length : Int) from (by simpa using hn))
                                  omega
    have e1 : p0.take k ++ p2 ++ p0.drop k = p0 ++ p2 := by rw [e0, List.take_length, List.drop_length, List.append_nil]
    exact ⟨_, rfl, by rw [e1]; exact hst.keep [1, 0] rfl⟩
  have hkn : k < p0.length := by have : ¬ k = p0.length := by (intro e; rw [e] at hn; simp at hn)
                                 omega
  refine CW.cond_f rfl hn (CW.skip (QW.next ?_))
  have hw1 : w64 ((p0.length : Int) + (p2.length : Int)) = ((p0.length + p2.length : Nat) : Int) := by rw [w64_eq (by omega) (by omega)]; simp
  refine CW.seq (rg ?_)
  refine pu 6 [(31, .bool (decide (w64 ((p0.length : Int) + (p2.length : Int)) > (c0 : Int))))] ?_
  refine nx ?_
  rcases bft (decide (w64 ((p0.length : Int) + (p2.length : Int)) > (c0 : Int))) with hg | hg
  · have hg2 : c0 < p0.length + p2.length := by rw [hw1] at hg; simp at hg; omega
    have hw2 : w64 (w64 ((p0.length : Int) + (p2.length : Int)) - (k : Int)) = ((p0.length + p2.length - k : Nat) : Int) := by rw [hw1, w64_eq (by omega) (by omega)]; omega
    have hw3 : w64 ((k : Int) + (p2.length : Int)) = ((k + p2.length : Nat) : Int) := by rw [w64_eq (by omega) (by omega)]; simp
    have htk : (p0.take k).length = k := by rw [List.length_take]; omega
    refine CW.cond_t rfl hg (rg ?_)
    refine pu 2 [(32, .slice a0 p0.length c0), (33, I (k : Int))] ?_
    refine OW.op (v := .slice a0 (p0.take k).length c0) rfl rfl rfl rfl (fun a ha => pre_run (xs := p0) (e := 42) 1 rfl rfl rfl (cut_prf rfl hk) hcap (by kernel_rfl) (by kernel_rfl) a _ ha) ?_
    refine pu 5 [(39, I (w64 (w64 ((p0.length : Int) + (p2.length : Int)) - (k : Int))))] ?_
    refine OW.appZ (enc := (encInt .u64)) (sz := 1) hst (fun _ => rfl) rfl rfl rfl rfl (ys := p0.take k) rfl rfl hw2 (by kernel_rfl) (by kernel_rfl) el42 ((hst.rd 0 rfl (fun _ => rfl) [] rfl (hst.len 0 rfl).1).pre (cut_prf rfl hk)) 0 (by kernel_rfl) (by omega) (by omega) (by rw [htk, show k + (p0.length + p2.length - k) = p0.length + p2.length by omega]; exact hroom) ?_
    intro g cc w1 hst hcc
    have hX : (p0.take k ++ List.replicate (p0.length + p2.length - k) 0).length = (p0.take k).length + (p0.length + p2.length - k) := by simp
    have hXk : k ≤ (p0.take k ++ List.replicate (p0.length + p2.length - k) 0).length := by omega
    refine pu 1 [(9, .slice (some ⟨g, 0, none⟩) ((p0.take k).length + (p0.length + p2.length - k)) cc)] (nx (rg ?_))
    refine pu 2 [(41, .slice (some ⟨g, 0, none⟩) ((p0.take k).length + (p0.length + p2.length - k)) cc), (42, I (k : Int))] ?_
    refine OW.op (v := .slice (shd (some ⟨g, 0, none⟩) cc (Int.toNat (k : Int)) 1) ((p0.take k ++ List.replicate (p0.length + p2.length - k) 0).drop k).length (cc - Int.toNat (k : Int))) rfl rfl rfl rfl (fun a ha => suf_run (xs := (p0.take k ++ List.replicate (p0.length + p2.length - k) 0)) (e := 42) 1 rfl rfl hX.symm rfl (cut_suf rfl hXk) (by kernel_rfl) (by kernel_rfl) a _ ha) ?_
    refine pu 1 [(44, .slice a2 p2.length c2)] ?_
    refine OW.copyR (e := 42) hst 2 rfl (fun _ => rfl) (by decide) rfl rfl rfl rfl (cut_suf (k := k) rfl hXk) rfl rfl (by kernel_rfl) (by kernel_rfl) (hst.rd 1 rfl (fun _ => rfl) [] rfl (hst.len 1 rfl).1) (fun _ _ => rfl) ?_
    intro w2 hst
    refine nx (CW.seq (CW.tail 8 (by kernel_rfl) (by kernel_rfl) ?_))
    intro w3 hch
    have hst := hst.same hch
    have hX1 : (over (p0.take k ++ List.replicate (p0.length + p2.length - k) 0) (Int.toNat (k : Int)) p2).length = (p0.take k).length + (p0.length + p2.length - k) := (over_len _ _ _ hXk).trans hX
    have hX1k : k + p2.length ≤ (over (p0.take k ++ List.replicate (p0.length + p2.length - k) 0) (Int.toNat (k : Int)) p2).length := by omega
    refine OS.pure 4 [(46, .slice (some ⟨g, 0, none⟩) ((p0.take k).length + (p0.length + p2.length - k)) cc), (49, I (w64 ((k : Int) + (p2.length : Int))))] rfl (by kernel_rfl) ?_
    refine OS.op (v := .slice (shd (some ⟨g, 0, none⟩) cc (Int.toNat (w64 ((k : Int) + (p2.length : Int)))) 1) ((over (p0.take k ++ List.replicate (p0.length + p2.length - k) 0) (Int.toNat (k : Int)) p2).drop (k + p2.length)).length (cc - Int.toNat (w64 ((k : Int) + (p2.length : Int))))) rfl rfl rfl rfl rfl (fun a ha => suf_run (xs := (over (p0.take k ++ List.replicate (p0.length + p2.length - k) 0) (Int.toNat (k : Int)) p2)) (e := 42) 1 rfl rfl hX1.symm rfl (cut_suf hw3 hX1k) (by kernel_rfl) (by kernel_rfl) a _ ha) ?_
    refine OS.pure 2 [(51, .slice a0 p0.length c0), (52, I (k : Int))] rfl (by kernel_rfl) ?_
    refine OS.op (v := .slice (shd a0 c0 (Int.toNat (k : Int)) 1) (p0.drop k).length (c0 - Int.toNat (k : Int))) rfl rfl rfl rfl rfl (fun a ha => suf_run (xs := p0) (e := 42) 1 rfl rfl rfl rfl (cut_suf rfl hk) (by kernel_rfl) (by kernel_rfl) a _ ha) ?_
    refine OS.on ?_
    refine OW.copyR (e := 42) hst 2 rfl (fun _ => rfl) (by decide) rfl rfl rfl rfl (cut_suf hw3 hX1k) rfl rfl (by kernel_rfl) (by kernel_rfl) ((hst.rd 0 rfl (fun _ => rfl) [] rfl (hst.len 0 rfl).1).part (cut_suf (k := k) rfl hk)) (fun _ _ => rfl) ?_
    intro w4 hst
    refine nx (rg ?_)
    refine pu 2 [(6, .slice (some ⟨g, 0, none⟩) ((p0.take k).length + (p0.length + p2.length - k)) cc)] (nx (CW.ret (QW.then_ret ?_)))
    refine QW.ret1 rfl rfl ?_
    rw [hw3, Int.toNat_natCast, Int.toNat_natCast, insA hk] at hst
    exact ⟨_, rfl, hst.keep [1, 2] rfl⟩
  have hg2 : p0.length + p2.length ≤ c0 := by rw [hw1] at hg; simp at hg; omega
  have hw3 : w64 ((k : Int) + (p2.length : Int)) = ((k + p2.length : Nat) : Int) := by rw [w64_eq (by omega) (by omega)]; simp
  refine CW.cond_f rfl hg (CW.skip (QW.next ?_))
  refine rg ?_
  refine pu 4 [(56, .slice a0 p0.length c0), (59, I (w64 ((p0.length : Int) + (p2.length : Int))))] ?_
  refine OW.op (v := .slice a0 (p0.length + p2.length) c0) rfl rfl rfl rfl (fun a ha => room_run (k := p0.length + p2.length) (e := 42) (sz := 1) rfl rfl rfl hw1 hg2 (by kernel_rfl) (by kernel_rfl) a _ ha) ?_
  refine pu 1 [(0, .slice a0 (p0.length + p2.length) c0)] ?_
  refine nx ?_
  obtain ⟨junk, hjl, hst⟩ := hst.spare 0 rfl (fun _ => rfl) (k := p0.length + p2.length) (by omega) hg2
  have hjl : junk.length = p2.length := by omega
  have hX : (p0.map (encInt .u64) ++ junk).length = p0.length + p2.length := by simp [hjl]
  have hXk : k ≤ (p0.map (encInt .u64) ++ junk).length := by omega
  have hXm : k + p2.length ≤ (p0.map (encInt .u64) ++ junk).length := by omega
  refine CW.seq (rg ?_)
  refine pu 5 [(61, .slice a2 p2.length c2), (62, .slice a0 (p0.length + p2.length) c0), (65, I (w64 ((k : Int) + (p2.length : Int))))] ?_
  refine OW.op (v := .slice (shd a0 c0 (Int.toNat (w64 ((k : Int) + (p2.length : Int)))) 1) ((p0.map (encInt .u64) ++ junk).drop (k + p2.length)).length (c0 - Int.toNat (w64 ((k : Int) + (p2.length : Int))))) rfl rfl rfl rfl (fun a ha => suf_run (xs := (p0.map (encInt .u64) ++ junk)) (e := 42) 1 rfl rfl hX.symm rfl (cut_suf hw3 hXm) (by kernel_rfl) (by kernel_rfl) a _ ha) ?_
  refine OW.op (v := .bool false) rfl rfl rfl rfl (fun a ha => ovl_run (tS := 123) (tR := 4) (e := 42) (sz := 1) hst 1 0 rfl rfl rfl rfl rfl rfl Try.func95 (by kernel_rfl) (by kernel_rfl) (by kernel_rfl) (by kernel_rfl) (by kernel_rfl) (by kernel_rfl) (by decide) hm0 (by omega) a ha) ?_
  refine pu 1 [(68, .bool true)] ?_
  refine nx ?_
  refine CW.cond_t rfl rfl (CW.seq (CW.tail 8 (by kernel_rfl) (by kernel_rfl) ?_))
  intro w3 hch
  have hst := hst.same hch
  refine OS.pure 4 [(69, .slice a0 (p0.length + p2.length) c0), (72, I (w64 ((k : Int) + (p2.length : Int))))] rfl (by kernel_rfl) ?_
  refine OS.op (v := .slice (shd a0 c0 (Int.toNat (w64 ((k : Int) + (p2.length : Int)))) 1) ((p0.map (encInt .u64) ++ junk).drop (k + p2.length)).length (c0 - Int.toNat (w64 ((k : Int) + (p2.length : Int))))) rfl rfl rfl rfl rfl (fun a ha => suf_run (xs := (p0.map (encInt .u64) ++ junk)) (e := 42) 1 rfl rfl hX.symm rfl (cut_suf hw3 hXm) (by kernel_rfl) (by kernel_rfl) a _ ha) ?_
  refine OS.pure 2 [(74, .slice a0 (p0.length + p2.length) c0), (75, I (k : Int))] rfl (by kernel_rfl) ?_
  refine OS.op (v := .slice (shd a0 c0 (Int.toNat (k : Int)) 1) ((p0.map (encInt .u64) ++ junk).drop k).length (c0 - Int.toNat (k : Int))) rfl rfl rfl rfl rfl (fun a ha => suf_run (xs := (p0.map (encInt .u64) ++ junk)) (e := 42) 1 rfl rfl hX.symm rfl (cut_suf rfl hXk) (by kernel_rfl) (by kernel_rfl) a _ ha) ?_
  refine OS.on ?_
  have hrd := (hst.rd 0 rfl (fit_len 1) [] rfl (hst.len 0 rfl).1)
  rw [← hX] at hrd
  refine OW.copyR (e := 42) hst 0 rfl (fit_len 1) (by decide) rfl rfl rfl rfl (cut_suf hw3 hXm) rfl rfl (by kernel_rfl) (by kernel_rfl) (hrd.part (cut_suf (k := k) rfl hXk)) (insOnes hk hjl (fun _ => rfl) (fun _ => rfl)) ?_
  intro w4 hst
  have hX1 : (over (p0.map (encInt .u64) ++ junk) (Int.toNat (w64 ((k : Int) + (p2.length : Int)))) ((p0.map (encInt .u64) ++ junk).drop k)).length = p0.length + p2.length := (over_len _ _ _ (by rw [hw3, Int.toNat_natCast]; exact hXm)).trans hX
  have hX1k : k ≤ (over (p0.map (encInt .u64) ++ junk) (Int.toNat (w64 ((k : Int) + (p2.length : Int)))) ((p0.map (encInt .u64) ++ junk).drop k)).length := by omega
  refine nx (rg ?_)
  refine pu 2 [(78, .slice a0 (p0.length + p2.length) c0), (79, I (k : Int))] ?_
  refine OW.op (v := .slice (shd a0 c0 (Int.toNat (k : Int)) 1) ((over (p0.map (encInt .u64) ++ junk) (Int.toNat (w64 ((k : Int) + (p2.length : Int)))) ((p0.map (encInt .u64) ++ junk).drop k)).drop k).length (c0 - Int.toNat (k : Int))) rfl rfl rfl rfl (fun a ha => suf_run (xs := (over (p0.map (encInt .u64) ++ junk) (Int.toNat (w64 ((k : Int) + (p2.length : Int)))) ((p0.map (encInt .u64) ++ junk).drop k))) (e := 42) 1 rfl rfl hX1.symm rfl (cut_suf rfl hX1k) (by kernel_rfl) (by kernel_rfl) a _ ha) ?_
  refine pu 1 [(81, .slice a2 p2.length c2)] ?_
  refine OW.copyR (e := 42) hst 0 rfl (fit_len 1) (by decide) rfl rfl rfl rfl (cut_suf (k := k) rfl hX1k) rfl rfl (by kernel_rfl) (by kernel_rfl) ((hst.rd 1 rfl (fun _ => rfl) [] rfl (hst.len 1 rfl).1).raw (fun _ => rfl)) (insOnes2 (fun _ => rfl) (fun _ => rfl)) ?_
  intro w5 hst
  refine nx (rg ?_)
  refine pu 2 [(6, .slice a0 (p0.length + p2.length) c0)] (nx (CW.ret (QW.then_ret ?_)))
  refine QW.ret1 rfl rfl ?_
  rw [hw3, Int.toNat_natCast, Int.toNat_natCast, insB hk hjl] at hst
  have hst := hst.typed 0 rfl (fun _ => rfl) rfl
  exact ⟨_, rfl, hst.keep [1, 0] rfl⟩
theorem lru_LRU_touch_ok (w : World) (fu : Nat) (v0 : Value) (S0 : List Nat) (p0 : lru_LRU) (p1 : Int) (r : lru_LRU) (hF : lru_LRU_touch fu p0 p1 = some r)
    (hst : St w (fp [itI R_t117 [v0] S0 p0]) w [itI R_t117 [v0] S0 p0]) :
    Calls Try.prog 90 [v0, U p1].toArray w (fun e w' => ∃ (s0 : List Nat), e = .returned (.tuple #[]) ∧ St w (fp [itI R_t117 [v0] S0 p0]) w' [itI R_t117 [v0] s0 r]) := by
 refine CW.start (N := 17) Try.func90 rfl rfl rfl ?_
 obtain ⟨b1, rfl⟩ := hst.fptr 0 rfl
 refine rg ?_
 refine pu 2 [(4, Pt b1), (5, U p1)] ?_
 obtain ⟨r7, hr8, hF⟩ := bs hF
 refine OW.fn rfl rfl rfl rfl (by kernel_rfl) (lru_LRU_drop_ok _ fu (Pt b1) S0 p0 p1 r7 hr8 (hst.part [0] rfl)) ?_
 rintro e w9 ⟨S11, rfl, hst10⟩
 refine ⟨_, rfl, ?_⟩
 have hst := hst.join (idx := [0]) (rest := []) rfl hst10
 refine nx ?_
 obtain ⟨v12, S13, v14, S15, hst⟩ := hst.openQ2 0 rfl rfl rfl
 have hst := hst.toRow1 2 rfl
 obtain ⟨b16, rfl⟩ := hst.fptr 1 rfl
 obtain ⟨l17, a18, c19, rfl⟩ := hst.len 2 rfl
 have hst : St _ _ _ [blkI b1 133 [Pt b16, .slice a18 (r7.order).length c19], _, _] := hst
 refine CW.region ?_
 refine pu 4 [(7, Pt b1), (10, .pointer (some ⟨b1, 1, none⟩))] ?_
 refine OW.ld rfl rfl rfl rfl (by kernel_rfl) (hst.blk 0 rfl rfl) ?_
 refine pu 1 [(12, U p1)] ?_
 refine OW.row (α := Int) (e := 42) (enc := encInt .u64) (sz := 1) hst rfl rfl rfl [p1] rfl (fun _ => rfl) rfl rfl (fun _ => by kernel_rfl) ?_
 intro g31 w33 hst
 obtain ⟨r34, hr35, hF⟩ := bs hF
 refine OW.fn rfl rfl rfl rfl (by kernel_rfl) (slices_Insert_uint64_uint64_ok _ (.slice a18 (r7.order).length c19) r7.order 0 (.slice (some ⟨g31, 0, none⟩) 1 1) ([p1]) r34 hr35 (hst.part [2, 3] rfl)) ?_
 rintro e w36 ⟨v38, rfl, hst37⟩
 refine ⟨_, rfl, ?_⟩
 have hst := hst.join (idx := [2, 3]) (rest := [0, 1]) rfl hst37
 obtain ⟨l39, a40, c41, rfl⟩ := hst.len 1 rfl
 refine pu 2 [(16, .pointer (some ⟨b1, 1, none⟩))] ?_
 refine OW.stB hst 2 rfl rfl rfl rfl rfl (by kernel_rfl) rfl rfl [Pt b16, .slice a40 (r34.1).length c41] rfl ?_
 intro w42 hst
 refine OW.nil rfl ?_
 have hst := hst.toIt 1 rfl (fun _ => rfl) (by decide)
 obtain ⟨S43, hst⟩ := hst.shutP2 R_t133 rfl 2 3 1 [0] rfl rfl rfl rfl (lru_LRU.mk r7.Book r34.1) rfl rfl
 obtain rfl := inj hF
 refine QW.end0 rfl ?_
 exact ⟨S43, rfl, hst.keep [1] rfl⟩
theorem lru_LRU_Do_ok (w : World) (fu : Nat) (v0 : Value) (S0 : List Nat) (p0 : lru_LRU) (p1 : Int) (p2 : Int) (p3 : Int) (r : api_Res × lru_LRU) (hF : lru_LRU_Do fu p0 p1 p2 p3 = some r)
    (hst : St w (fp [itI R_t117 [v0] S0 p0]) w [itI R_t117 [v0] S0 p0]) :
    Calls Try.prog 88 [v0, I p1, U p2, U p3].toArray w (fun e w' => ∃ (s0 : List Nat), e = .returned (.agg [I r.1.E, .bool r.1.Found, U r.1.Val, .bool r.1.Out, U r.1.OutKey, U r.1.OutVal].toArray) ∧ St w (fp [itI R_t117 [v0] S0 p0]) w' [itI R_t117 [v0] s0 r.2]) := by
 refine CW.start (N := 66) Try.func88 rfl rfl rfl ?_
 obtain ⟨b1, rfl⟩ := hst.fptr 0 rfl
 refine rg ?_
 refine OW.alloc hst rfl rfl rfl [I 0, .bool false, U 0, .bool false, U 0, U 0] (by kernel_rfl) ?_
 intro b4 w5 hst
 refine nx (CW.seq ?_)
 obtain ⟨v6, S7, v8, S9, hst⟩ := hst.openQ2 0 rfl rfl rfl
 have hst := hst.toRow1 3 rfl
 obtain ⟨b10, rfl⟩ := hst.fptr 2 rfl
 obtain ⟨l11, a12, c13, rfl⟩ := hst.len 3 rfl
 have hst : St _ _ _ [blkI b1 133 [Pt b10, .slice a12 (p0.order).length c13], _, _, _] := hst
 refine CW.region ?_
 refine pu 3 [(13, Pt b1)] ?_
 refine OW.ld rfl rfl rfl rfl (by kernel_rfl) (hst.blk 0 rfl rfl) ?_
 refine pu 3 [(15, I p1), (16, U p2), (17, U p3)] ?_
 obtain ⟨r22, hr23, hF⟩ := bs hF
 refine OW.fn rfl rfl rfl rfl (by kernel_rfl) (book_Book_Do_ok _ fu (Pt b10) S7 p0.Book p1 p2 p3 r22 hr23 (hst.part [2] rfl)) ?_
 rintro e w24 ⟨S26, rfl, hst25⟩
 refine ⟨_, rfl, ?_⟩
 have hst := hst.join (idx := [2]) (rest := [0, 1, 3]) rfl hst25
 refine OW.alloc hst rfl rfl rfl [I 0, .bool false, U 0, .bool false, U 0, U 0] (by kernel_rfl) ?_
 intro b27 w28 hst
 refine OW.stB hst 4 rfl rfl rfl rfl rfl (by kernel_rfl) rfl rfl [I r22.1.E, .bool r22.1.Found, U r22.1.Val, .bool r22.1.Out, U r22.1.OutKey, U r22.1.OutVal] rfl ?_
 intro w29 hst
 refine nx (CW.seq (rg ?_))
 refine pu 1 [(19, Pt b27)] ?_
 refine OW.ld rfl rfl rfl rfl (by kernel_rfl) (hst.blk 4 rfl rfl) ?_
 refine pu 1 [(21, .bool (r22.1.E == 40))] (nx ?_)
 obtain ⟨o83, ho84, hF⟩ := bs hF
 refine CW.cutK (fun a w1 => ∃ (S82 : List Nat), Rep 66 [(0, Pt b1), (1, I p1), (2, U p2), (8, Pt b4), (9, Pt b27)] a ∧ St w (fp [itI R_t117 [Pt b1] S0 p0]) w1 [itI R_t117 [Pt b1] S82 o83.1, itI R_t171 [Pt b4] ([b4]) (api_Res.mk 0 false 0 false 0 0), itI R_t171 [Pt b27] ([b27]) o83.2]) ?_ ?_
 ·refine br ((r22.1.E == 40)) ho84 (fun ho84 hc85 => ?_) (fun ho84 hc85 => ?_)
  ·refine rg ?_
   refine OW.alloc hst rfl rfl rfl [I 0, .bool false, U 0, .bool false, U 0, U 0] (by kernel_rfl) ?_
   intro b88 w89 hst
   refine nx (rg ?_)
   refine pu 1 [(22, Pt b1)] ?_
   have hst := hst.toIt 3 rfl (fun _ => rfl) (by decide)
   obtain ⟨S97, hst⟩ := hst.shutP2 R_t133 rfl 1 0 3 [2, 4, 5] rfl rfl rfl rfl (lru_LRU.mk r22.2 p0.order) rfl rfl
   have hst := hst.shutP0 (enc := enc_api_Res) (sz := 6) (he := fun _ => rfl) 2 rfl (api_Res.mk 0 false 0 false 0 0) rfl
   obtain ⟨r98, hr99, ho84⟩ := bs ho84
   refine OW.fn rfl rfl rfl rfl (by kernel_rfl) (lru_LRU_evict_ok _ fu (Pt b1) S97 (lru_LRU.mk r22.2 p0.order) (Pt b88) ([b88]) (api_Res.mk 0 false 0 false 0 0) r98 hr99 (hst.part [3, 2] rfl)) ?_
   rintro e w100 ⟨S102, S103, rfl, hst101⟩
   refine ⟨_, rfl, ?_⟩
   have hst := hst.join (idx := [3, 2]) (rest := [0, 1]) rfl hst101
   refine nx (CW.seq ?_)
   obtain ⟨v104, S105, v106, S107, hst⟩ := hst.openQ2 0 rfl rfl rfl
   have hst := hst.toRow1 5 rfl
   obtain ⟨b108, rfl⟩ := hst.fptr 4 rfl
   obtain ⟨l109, a110, c111, rfl⟩ := hst.len 5 rfl
   have hst : St _ _ _ [blkI b1 133 [Pt b108, .slice a110 (r98.1.order).length c111], _, _, _, _, _] := hst
   refine CW.region ?_
   refine pu 3 [(26, Pt b1)] ?_
   refine OW.ld rfl rfl rfl rfl (by kernel_rfl) (hst.blk 0 rfl rfl) ?_
   refine pu 3 [(28, I p1), (29, U p2), (30, U p3)] ?_
   obtain ⟨r118, hr119, ho84⟩ := bs ho84
   refine OW.fn rfl rfl rfl rfl (by kernel_rfl) (book_Book_Do_ok _ fu (Pt b108) S105 r98.1.Book p1 p2 p3 r118 hr119 (hst.part [4] rfl)) ?_
   rintro e w120 ⟨S122, rfl, hst121⟩
   refine ⟨_, rfl, ?_⟩
   have hst := hst.join (idx := [4]) (rest := [0, 1, 2, 3, 5]) rfl hst121
   refine OW.stB hst 4 rfl rfl rfl rfl rfl (by kernel_rfl) rfl rfl [I r118.1.E, .bool r118.1.Found, U r118.1.Val, .bool r118.1.Out, U r118.1.OutKey, U r118.1.OutVal] rfl ?_
   intro w123 hst
   refine nx ?_
   have hst := hst.openQ0 2 rfl
   refine CW.plan (by kernel_rfl) ?_
   intro w129 hch130
   have hst := hst.same hch130
   refine OA.pure [0] [(32, .pointer (some ⟨b88, 3, none⟩))] (by kernel_rfl) ?_
   refine OA.ld (i := 1) rfl (by kernel_rfl) rfl rfl rfl (by kernel_rfl) (hst.blk 2 rfl rfl) ?_
   refine OA.pure [2] [(34, .pointer (some ⟨b88, 4, none⟩))] (by kernel_rfl) ?_
   refine OA.ld (i := 3) rfl (by kernel_rfl) rfl rfl rfl (by kernel_rfl) (hst.blk 2 rfl rfl) ?_
   refine OA.pure [4] [(36, .pointer (some ⟨b88, 5, none⟩))] (by kernel_rfl) ?_
   refine OA.ld (i := 5) rfl (by kernel_rfl) rfl rfl rfl (by kernel_rfl) (hst.blk 2 rfl rfl) ?_
   refine OA.pure [6] [(38, .pointer (some ⟨b27, 3, none⟩))] (by kernel_rfl) ?_
   refine OA.act (i := 7) [5, 3] (by kernel_rfl) rfl rfl (by kernel_rfl) (by kernel_rfl) ?_
   refine OW.stB hst 4 rfl rfl rfl rfl rfl (by kernel_rfl) rfl rfl [I r118.1.E, .bool r118.1.Found, U r118.1.Val, .bool r98.2.Out, U r118.1.OutKey, U r118.1.OutVal] rfl ?_
   intro w131 hst
   refine OA.next ⟨(hst.blk 2 rfl rfl), (hst.blk 2 rfl rfl), trivial⟩ ?_
   refine OA.pure [8] [(39, .pointer (some ⟨b27, 4, none⟩))] (by kernel_rfl) ?_
   refine OA.act (i := 9) [5] (by kernel_rfl) rfl rfl (by kernel_rfl) (by kernel_rfl) ?_
   refine OW.stB hst 4 rfl rfl rfl rfl rfl (by kernel_rfl) rfl rfl [I r118.1.E, .bool r118.1.Found, U r118.1.Val, .bool r98.2.Out, U r98.2.OutKey, U r118.1.OutVal] rfl ?_
   intro w132 hst
   refine OA.next ⟨(hst.blk 2 rfl rfl), trivial⟩ ?_
   refine OA.pure [10] [(40, .pointer (some ⟨b27, 5, none⟩))] (by kernel_rfl) ?_
   refine OA.act (i := 11) [] (by kernel_rfl) rfl rfl (by kernel_rfl) (by kernel_rfl) ?_
   refine OW.stB hst 4 rfl rfl rfl rfl rfl (by kernel_rfl) rfl rfl [I r118.1.E, .bool r118.1.Found, U r118.1.Val, .bool r98.2.Out, U r98.2.OutKey, U r98.2.OutVal] rfl ?_
   intro w133 hst
   refine OA.next trivial ?_
   refine OA.fin (by kernel_rfl) (by kernel_rfl) ?_
   have hst := hst.toIt 5 rfl (fun _ => rfl) (by decide)
   obtain ⟨S134, hst⟩ := hst.shutP2 R_t133 rfl 1 0 5 [2, 3, 4] rfl rfl rfl rfl (lru_LRU.mk r118.2 r98.1.order) rfl rfl
   have hst := hst.shutP0 (enc := enc_api_Res) (sz := 6) (he := fun _ => rfl) 0 rfl r98.2 rfl
   have hst := hst.shutP0 (enc := enc_api_Res) (sz := 6) (he := fun _ => rfl) 1 rfl (api_Res.mk 0 false 0 false 0 0) rfl
   have hst := hst.shutP0 (enc := enc_api_Res) (sz := 6) (he := fun _ => rfl) 2 rfl (api_Res.mk r118.1.E r118.1.Found r118.1.Val r98.2.Out r98.2.OutKey r98.2.OutVal) rfl
   obtain rfl := inj ho84
   exact QW.meet (fun a ha => ⟨S134, ha.ag, hst.keep [3, 1, 2] rfl⟩)
  refine CW.skip ?_
  have hst := hst.toIt 3 rfl (fun _ => rfl) (by decide)
  obtain ⟨S135, hst⟩ := hst.shutP2 R_t133 rfl 1 0 3 [2, 4] rfl rfl rfl rfl (lru_LRU.mk r22.2 p0.order) rfl rfl
  have hst := hst.shutP0 (enc := enc_api_Res) (sz := 6) (he := fun _ => rfl) 0 rfl (api_Res.mk 0 false 0 false 0 0) rfl
  have hst := hst.shutP0 (enc := enc_api_Res) (sz := 6) (he := fun _ => rfl) 1 rfl r22.1 rfl
  obtain rfl := inj ho84
  exact QW.meet (fun a ha => ⟨S135, ha.ag, hst.keep [2, 0, 1] rfl⟩)
 rintro a w1 ⟨S82, ha, hst⟩
 refine CW.go ?_ ha
 refine CW.seq (CW.block (CW.seq ?_))
 have hst := hst.openQ0 2 rfl
 refine CW.region ?_
 refine pu 1 [(42, Pt b27)] ?_
 refine OW.ld rfl rfl rfl rfl (by kernel_rfl) (hst.blk 2 rfl rfl) ?_
 refine pu 2 [(41, .bool (o83.2.E != 0))] (nx ?_)
 refine br ((o83.2.E != 0)) hF (fun hF hc136 => ?_) (fun hF hc136 => ?_)
 ·refine CW.skip (QW.block_normal (QW.next (CW.seq ?_)))
  have hst := hst.openQ0 1 rfl
  refine CW.region ?_
  refine OW.ldN (cs := [I o83.2.E, .bool o83.2.Found, U o83.2.Val, .bool o83.2.Out, U o83.2.OutKey, U o83.2.OutVal]) rfl rfl rfl rfl (by kernel_rfl) (by kernel_rfl) (hst.blkN 2 rfl 0 6) ?_
  refine OW.stB hst 1 rfl rfl rfl rfl rfl (by kernel_rfl) rfl rfl [I o83.2.E, .bool o83.2.Found, U o83.2.Val, .bool o83.2.Out, U o83.2.OutKey, U o83.2.OutVal] rfl ?_
  intro w138 hst
  refine nx (CW.ret ?_)
  obtain rfl := inj hF
  refine QW.ret_c rfl rfl (run_loadN (cs := [I o83.2.E, .bool o83.2.Found, U o83.2.Val, .bool o83.2.Out, U o83.2.OutKey, U o83.2.OutVal]) (by kernel_rfl) (by kernel_rfl) (hst.blkN 1 rfl 0 6)) ?_
  exact ⟨S82, rfl, hst.keep [0] rfl⟩
 refine CW.seq (rg ?_)
 refine pu 3 [(45, .bool (p1 == 2))] (nx ?_)
 obtain ⟨o142, ho143, hF⟩ := bs hF
 refine CW.cutK (fun a w1 => Rep 66 [(0, Pt b1), (1, I p1), (2, U p2), (8, Pt b4), (9, Pt b27), (45, .bool o142)] a ∧ St w (fp [itI R_t117 [Pt b1] S0 p0]) w1 [itI R_t117 [Pt b1] S82 o83.1, itI R_t171 [Pt b4] ([b4]) (api_Res.mk 0 false 0 false 0 0), itI R_t171 [Pt b27] ([b27]) o83.2]) ?_ ?_
 ·refine br ((p1 == 2)) ho143 (fun ho143 hc144 => ?_) (fun ho143 hc144 => ?_)
  ·refine CW.skip ?_
   have hst := hst.shutP0 (enc := enc_api_Res) (sz := 6) (he := fun _ => rfl) 2 rfl o83.2 rfl
   obtain rfl := inj ho143
   exact QW.meet (fun a ha => ⟨ha.ag, hst.keep [0, 1, 2] rfl⟩)
  refine rg ?_
  refine pu 3 [(45, .bool (p1 == 4))] (nx ?_)
  refine br ((p1 == 4)) ho143 (fun ho143 hc145 => ?_) (fun ho143 hc145 => ?_)
  ·refine CW.skip ?_
   have hst := hst.shutP0 (enc := enc_api_Res) (sz := 6) (he := fun _ => rfl) 2 rfl o83.2 rfl
   obtain rfl := inj ho143
   exact QW.meet (fun a ha => ⟨ha.ag, hst.keep [0, 1, 2] rfl⟩)
  refine CW.region ?_
  refine pu 3 [(52, .bool (p1 == 0))] ?_
  refine OW.split 52 rfl (fun hc146 => ?_) (fun hc146 => ?_)
  ·have ho143 := ite_t ho143 hc146
   refine pu 1 [(53, .pointer (some ⟨b27, 1, none⟩))] ?_
   refine OW.ld rfl rfl rfl rfl (by kernel_rfl) (hst.blk 2 rfl rfl) ?_
   refine pu 2 [(45, .bool o83.2.Found)] (OW.nil rfl ?_)
   have hst := hst.shutP0 (enc := enc_api_Res) (sz := 6) (he := fun _ => rfl) 2 rfl o83.2 rfl
   obtain rfl := inj ho143
   exact QW.meet (fun a ha => ⟨ha.ag, hst.keep [0, 1, 2] rfl⟩)
  have ho143 := ite_f ho143 hc146
  refine pu 4 [(45, .bool false)] (OW.nil rfl ?_)
  have hst := hst.shutP0 (enc := enc_api_Res) (sz := 6) (he := fun _ => rfl) 2 rfl o83.2 rfl
  obtain rfl := inj ho143
  exact QW.meet (fun a ha => ⟨ha.ag, hst.keep [0, 1, 2] rfl⟩)
 rintro a w1 ⟨ha, hst⟩
 refine CW.go ?_ ha
 refine br (o142) hF (fun hF hc147 => ?_) (fun hF hc147 => ?_)
 ·refine CW.region ?_
  refine pu 2 [(56, Pt b1), (57, U p2)] ?_
  obtain ⟨r153, hr154, hF⟩ := bs hF
  refine OW.fn rfl rfl rfl rfl (by kernel_rfl) (lru_LRU_touch_ok _ fu (Pt b1) S82 o83.1 p2 r153 hr154 (hst.part [0] rfl)) ?_
  rintro e w155 ⟨S157, rfl, hst156⟩
  refine ⟨_, rfl, ?_⟩
  have hst := hst.join (idx := [0]) (rest := [1, 2]) rfl hst156
  refine OW.nil rfl (QW.block_normal (QW.next (CW.seq ?_)))
  have hst := hst.openQ0 2 rfl
  have hst := hst.openQ0 1 rfl
  refine CW.region ?_
  refine OW.ldN (cs := [I o83.2.E, .bool o83.2.Found, U o83.2.Val, .bool o83.2.Out, U o83.2.OutKey, U o83.2.OutVal]) rfl rfl rfl rfl (by kernel_rfl) (by kernel_rfl) (hst.blkN 2 rfl 0 6) ?_
  refine OW.stB hst 1 rfl rfl rfl rfl rfl (by kernel_rfl) rfl rfl [I o83.2.E, .bool o83.2.Found, U o83.2.Val, .bool o83.2.Out, U o83.2.OutKey, U o83.2.OutVal] rfl ?_
  intro w159 hst
  refine nx (CW.ret ?_)
  obtain rfl := inj hF
  refine QW.ret_c rfl rfl (run_loadN (cs := [I o83.2.E, .bool o83.2.Found, U o83.2.Val, .bool o83.2.Out, U o83.2.OutKey, U o83.2.OutVal]) (by kernel_rfl) (by kernel_rfl) (hst.blkN 1 rfl 0 6)) ?_
  exact ⟨S157, rfl, hst.keep [0] rfl⟩
 refine rg ?_
 refine pu 3 [(59, .bool (p1 == 3))] (nx ?_)
 refine br ((p1 == 3)) hF (fun hF hc160 => ?_) (fun hF hc160 => ?_)
 ·refine CW.region ?_
  refine pu 2 [(62, Pt b1), (63, U p2)] ?_
  obtain ⟨r166, hr167, hF⟩ := bs hF
  refine OW.fn rfl rfl rfl rfl (by kernel_rfl) (lru_LRU_drop_ok _ fu (Pt b1) S82 o83.1 p2 r166 hr167 (hst.part [0] rfl)) ?_
  rintro e w168 ⟨S170, rfl, hst169⟩
  refine ⟨_, rfl, ?_⟩
  have hst := hst.join (idx := [0]) (rest := [1, 2]) rfl hst169
  refine OW.nil rfl (QW.block_normal (QW.next (CW.seq ?_)))
  have hst := hst.openQ0 2 rfl
  have hst := hst.openQ0 1 rfl
  refine CW.region ?_
  refine OW.ldN (cs := [I o83.2.E, .bool o83.2.Found, U o83.2.Val, .bool o83.2.Out, U o83.2.OutKey, U o83.2.OutVal]) rfl rfl rfl rfl (by kernel_rfl) (by kernel_rfl) (hst.blkN 2 rfl 0 6) ?_
  refine OW.stB hst 1 rfl rfl rfl rfl rfl (by kernel_rfl) rfl rfl [I o83.2.E, .bool o83.2.Found, U o83.2.Val, .bool o83.2.Out, U o83.2.OutKey, U o83.2.OutVal] rfl ?_
  intro w172 hst
  refine nx (CW.ret ?_)
  obtain rfl := inj hF
  refine QW.ret_c rfl rfl (run_loadN (cs := [I o83.2.E, .bool o83.2.Found, U o83.2.Val, .bool o83.2.Out, U o83.2.OutKey, U o83.2.OutVal]) (by kernel_rfl) (by kernel_rfl) (hst.blkN 1 rfl 0 6)) ?_
  exact ⟨S170, rfl, hst.keep [0] rfl⟩
 refine CW.skip (QW.block_normal (QW.next (CW.seq ?_)))
 have hst := hst.openQ0 2 rfl
 have hst := hst.openQ0 1 rfl
 refine CW.region ?_
 refine OW.ldN (cs := [I o83.2.E, .bool o83.2.Found, U o83.2.Val, .bool o83.2.Out, U o83.2.OutKey, U o83.2.OutVal]) rfl rfl rfl rfl (by kernel_rfl) (by kernel_rfl) (hst.blkN 2 rfl 0 6) ?_
 refine OW.stB hst 1 rfl rfl rfl rfl rfl (by kernel_rfl) rfl rfl [I o83.2.E, .bool o83.2.Found, U o83.2.Val, .bool o83.2.Out, U o83.2.OutKey, U o83.2.OutVal] rfl ?_
 intro w174 hst
 refine nx (CW.ret ?_)
 obtain rfl := inj hF
 refine QW.ret_c rfl rfl (run_loadN (cs := [I o83.2.E, .bool o83.2.Found, U o83.2.Val, .bool o83.2.Out, U o83.2.OutKey, U o83.2.OutVal]) (by kernel_rfl) (by kernel_rfl) (hst.blkN 1 rfl 0 6)) ?_
 exact ⟨S82, rfl, hst.keep [0] rfl⟩
theorem I_cmap_Shard_Do_iv (w : World) (fu : Nat) (v0 : Value) (S0 : List Nat) (p0 : I_cmap_Shard) (p1 : Int) (p2 : Int) (p3 : Int) (r : api_Res × I_cmap_Shard) (hF : I_cmap_Shard_Do fu p0 p1 p2 p3 = some r)
    (hst : St w (fp [itI R_t103 [v0] S0 p0]) w [itI R_t103 [v0] S0 p0]) :
    InvC Try.prog v0 "Do" [I p1, U p2, U p3] w (fun e w' => ∃ (s0 : List Nat), e = .returned (.agg [I r.1.E, .bool r.1.Found, U r.1.Val, .bool r.1.Out, U r.1.OutKey, U r.1.OutVal].toArray) ∧ St w (fp [itI R_t103 [v0] S0 p0]) w' [itI R_t103 [v0] s0 r.2]) := by
 unfold I_cmap_Shard_Do at hF
 rcases p0 with x | x
 ·have hst := hst.sumL 0 rfl
  obtain ⟨u, rfl, hst⟩ := hst.untag 0 rfl
  obtain ⟨b, rfl⟩ := hst.fptr 0 rfl
  obtain ⟨q, hq, hF⟩ := bs hF
  cases hF
  refine ⟨76, [Pt b, I p1, U p2, U p3], inv_of (by kernel_rfl), ?_⟩
  refine (book_Book_Do_ok w fu (Pt b) S0 x p1 p2 p3 q hq (hst : St w (fp [itI R_t114 [Pt b] S0 x]) w [itI R_t114 [Pt b] S0 x])).mono ?_
  rintro e w' ⟨s0, rfl, hst⟩
  have hst := hst.tag 114 0 rfl
  have hst := hst.ofL (tagP 117 R_t117) rfl rfl 0 rfl
  exact ⟨s0, rfl, hst⟩
 have hst := hst.sumR 0 rfl
 obtain ⟨u, rfl, hst⟩ := hst.untag 0 rfl
 obtain ⟨b, rfl⟩ := hst.fptr 0 rfl
 obtain ⟨q, hq, hF⟩ := bs hF
 cases hF
 refine ⟨88, [Pt b, I p1, U p2, U p3], inv_of (by kernel_rfl), ?_⟩
 refine (lru_LRU_Do_ok w fu (Pt b) S0 x p1 p2 p3 q hq (hst : St w (fp [itI R_t117 [Pt b] S0 x]) w [itI R_t117 [Pt b] S0 x])).mono ?_
 rintro e w' ⟨s0, rfl, hst⟩
 have hst := hst.tag 117 0 rfl
 have hst := hst.ofR (tagP 114 R_t114) rfl rfl 0 rfl
 exact ⟨s0, rfl, hst⟩
theorem cmap_Map_Do_ok (w : World) (fu : Nat) (v0 : Value) (S0 : List Nat) (p0 : cmap_Map) (p1 : Int) (p2 : Int) (p3 : Int) (r : api_Res × cmap_Map) (hF : cmap_Map_Do fu p0 p1 p2 p3 = some r)
    (hst : St w (fp [itI R_t73 [v0] S0 p0]) w [itI R_t73 [v0] S0 p0]) :
    Calls Try.prog 59 [v0, I p1, U p2, U p3].toArray w (fun e w' => ∃ (s0 : List Nat), e = .returned (.agg [I r.1.E, .bool r.1.Found, U r.1.Val, .bool r.1.Out, U r.1.OutKey, U r.1.OutVal].toArray) ∧ St w (fp [itI R_t73 [v0] S0 p0]) w' [itI R_t73 [v0] s0 r.2]) := by
 refine CW.start (N := 26) Try.func59 rfl rfl rfl ?_
 obtain ⟨b1, rfl⟩ := hst.fptr 0 rfl
 refine rg ?_
 refine OW.alloc hst rfl rfl rfl [I 0, .bool false, U 0, .bool false, U 0, U 0] (by kernel_rfl) ?_
 intro b4 w5 hst
 refine nx (CW.seq ?_)
 obtain ⟨v6, S7, hst⟩ := hst.openQ1 0 rfl rfl
 have hst := hst.toN1 2 rfl
 obtain ⟨l8, a9, c10, rfl⟩ := hst.nlen 2 rfl
 have hst : St _ _ _ [blkI b1 101 [I p0.def_.Kind, I p0.def_.Cap, .slice a9 (p0.shards).length c10], _, _] := hst
 refine CW.plan (by kernel_rfl) ?_
 intro w34 hch35
 have hst := hst.same hch35
 refine OA.pure [0, 1, 2] [(11, .pointer (some ⟨b1, 2, none⟩))] (by kernel_rfl) ?_
 refine OA.ld (i := 3) rfl (by kernel_rfl) rfl rfl rfl (by kernel_rfl) (hst.blk 0 rfl rfl) ?_
 refine OA.pure [4, 5, 6, 7] [(13, U p2), (16, .pointer (some ⟨b1, 2, none⟩))] (by kernel_rfl) ?_
 refine OA.ld (i := 8) rfl (by kernel_rfl) rfl rfl rfl (by kernel_rfl) (hst.blk 0 rfl rfl) ?_
 refine OA.pure [9, 13, 14, 15] [(18, I ((p0.shards).length : Int)), (22, I p1), (23, U p2), (24, U p3)] (by kernel_rfl) ?_
 refine OA.act (i := 10) [3] (by kernel_rfl) rfl rfl (by kernel_rfl) (by kernel_rfl) ?_
 obtain ⟨r36, hr37, hF⟩ := bs hF
 refine OW.fn rfl rfl rfl rfl (by kernel_rfl) (place_Of_ok _ p2 ((p0.shards).length : Int) r36 hr37 (hst.part [] rfl)) ?_
 rintro e w38 ⟨rfl, hst39⟩
 refine ⟨_, rfl, ?_⟩
 have hst := hst.join (idx := []) (rest := [0, 1, 2]) rfl hst39
 refine OA.next ⟨(hst.blk 0 rfl rfl), trivial⟩ ?_
 obtain ⟨x40, hx41, hF⟩ := bs hF
 obtain ⟨g43, o44, c45, hv42⟩ := hst.nrowv 2 rfl hx41
 refine OA.idx (i := 11) 103 1 rfl (by kernel_rfl) rfl rfl rfl hv42 rfl (idx_some hx41).1 (idx_some hx41).2.1 (by kernel_rfl) (by kernel_rfl) ?_
 obtain ⟨v46, S47, S48, hce49, hst⟩ := hst.nout1 2 rfl rfl hx41 hv42
 refine OA.ld (i := 12) rfl (by kernel_rfl) rfl rfl rfl (by kernel_rfl) hce49 ?_
 refine OA.act (i := 16) [] (by kernel_rfl) rfl rfl (by kernel_rfl) (by kernel_rfl) ?_
 obtain ⟨r50, hr51, hF⟩ := bs hF
 refine OW.inv rfl rfl rfl rfl rfl (I_cmap_Shard_Do_iv _ fu v46 S48 x40 p1 p2 p3 r50 hr51 (hst.part [3] rfl)) ?_
 rintro e w52 ⟨S54, rfl, hst53⟩
 refine ⟨_, rfl, ?_⟩
 have hst := hst.join (idx := [3]) (rest := [0, 1, 2]) rfl hst53
 refine OA.next trivial ?_
 refine OA.act (i := 17) [] (by kernel_rfl) rfl rfl (by kernel_rfl) (by kernel_rfl) ?_
 refine OW.stB hst 2 rfl rfl rfl rfl rfl (by kernel_rfl) rfl rfl [I r50.1.E, .bool r50.1.Found, U r50.1.Val, .bool r50.1.Out, U r50.1.OutKey, U r50.1.OutVal] rfl ?_
 intro w55 hst
 refine OA.next trivial ?_
 refine OA.fin (by kernel_rfl) (by kernel_rfl) (QW.next (CW.ret ?_))
 obtain ⟨S56, hst⟩ := hst.nback 3 0 rfl rfl rfl hx41
 have hst := hst.keep [1, 2, 3] rfl
 have hst := hst.ofN 2 rfl (by decide)
 obtain ⟨S57, hst⟩ := hst.shutP1 R_t101 rfl 0 2 [1] rfl rfl rfl (cmap_Map.mk p0.def_ (p0.shards.set (Int.toNat r36) r50.2)) rfl rfl
 obtain rfl := inj hF
 refine QW.ret_c rfl rfl (run_loadN (cs := [I r50.1.E, .bool r50.1.Found, U r50.1.Val, .bool r50.1.Out, U r50.1.OutKey, U r50.1.OutVal]) (by kernel_rfl) (by kernel_rfl) (hst.blkN 0 rfl 0 6)) ?_
 exact ⟨S57, rfl, hst.keep [1] rfl⟩
theorem audit_maps_right_ok (w : World) (fu : Nat) (v0 : Value) (Sv0 : List Nat) (p0 : List cmap_Map) (p1 : api_Entry) (r : Bool × (List cmap_Map)) (hF : audit_maps_right fu p0 p1 = some r)
    (hst : St w (fp [nI 73 R_t73 v0 Sv0 p0 none]) w [nI 73 R_t73 v0 Sv0 p0 none]) :
    Calls Try.prog 58 [v0, .agg [I p1.What, I p1.Task, I p1.From, I p1.Cmd, I p1.Tag, I p1.Event, I p1.Hook, I p1.Prog, I p1.Version, I p1.Pc, I p1.Item.Map, I p1.Item.Op, U p1.Item.Key, U p1.Item.Val, I p1.Res.E, .bool p1.Res.Found, U p1.Res.Val, .bool p1.Res.Out, U p1.Res.OutKey, U p1.Res.OutVal, U p1.Val, I p1.E].toArray].toArray w (fun e w' => ∃ (uSv0 : List Nat), e = .returned (.bool r.1) ∧ St w (fp [nI 73 R_t73 v0 Sv0 p0 none]) w' [nI 73 R_t73 v0 uSv0 r.2 none]) := by
 refine CW.start (N := 48) Try.func58 rfl rfl rfl ?_
 obtain ⟨l1, a2, c3, rfl⟩ := hst.nlen 0 rfl
 refine rg ?_
 refine OW.box hst rfl rfl rfl rfl [I p1.What, I p1.Task, I p1.From, I p1.Cmd, I p1.Tag, I p1.Event, I p1.Hook, I p1.Prog, I p1.Version, I p1.Pc, I p1.Item.Map, I p1.Item.Op, U p1.Item.Key, U p1.Item.Val, I p1.Res.E, .bool p1.Res.Found, U p1.Res.Val, .bool p1.Res.Out, U p1.Res.OutKey, U p1.Res.OutVal, U p1.Val, I p1.E] rfl ?_
 intro b6 w7 hst
 refine pu 1 [] (nx (rg ?_))
 refine pu 1 [(6, .pointer (some ⟨b6, 10, none⟩))] ?_
 refine OW.ldN (cs := [I p1.Item.Map, I p1.Item.Op, U p1.Item.Key, U p1.Item.Val]) rfl rfl rfl rfl (by kernel_rfl) (by kernel_rfl) (hst.blkN 1 rfl 10 4) ?_
 refine OW.alloc hst rfl rfl rfl [I 0, I 0, U 0, U 0] (by kernel_rfl) ?_
 intro b11 w12 hst
 refine OW.stB hst 2 rfl rfl rfl rfl rfl (by kernel_rfl) rfl rfl [I p1.Item.Map, I p1.Item.Op, U p1.Item.Key, U p1.Item.Val] rfl ?_
 intro w13 hst
 refine nx (CW.seq (CW.block (rg ?_)))
 refine pu 1 [(9, Pt b6)] ?_
 refine OW.ld rfl rfl rfl rfl (by kernel_rfl) (hst.blk 1 rfl rfl) ?_
 refine pu 2 [(8, .bool (p1.What != 3))] (nx ?_)
 refine br ((p1.What != 3)) hF (fun hF hc14 => ?_) (fun hF hc14 => ?_)
 ·refine rg ?_
  refine pu 1 [(4, .bool true)] (nx (CW.ret (QW.block_ret (QW.then_ret ?_))))
  obtain rfl := inj hF
  refine QW.ret1 rfl rfl ?_
  exact ⟨Sv0, rfl, hst.keep [0] rfl⟩
 refine CW.seq ?_
 refine CW.cutK (fun a w1 => Rep 48 [(0, .slice a2 (p0).length c3), (3, Pt b6), (5, Pt b11), (12, .bool (((decide (p1.Item.Map < 0) || decide (p1.Item.Map ≥ ((p0).length : Int))) || decide (p1.Item.Op < 0)) || decide (p1.Item.Op ≥ 5)))] a ∧ St w (fp [nI 73 R_t73 (.slice a2 (p0).length c3) Sv0 p0 none]) w1 [nI 73 R_t73 (.slice a2 (p0).length c3) Sv0 p0 none, blkI b6 48 [I p1.What, I p1.Task, I p1.From, I p1.Cmd, I p1.Tag, I p1.Event, I p1.Hook, I p1.Prog, I p1.Version, I p1.Pc, I p1.Item.Map, I p1.Item.Op, U p1.Item.Key, U p1.Item.Val, I p1.Res.E, .bool p1.Res.Found, U p1.Res.Val, .bool p1.Res.Out, U p1.Res.OutKey, U p1.Res.OutVal, U p1.Val, I p1.E], blkI b11 44 [I p1.Item.Map, I p1.Item.Op, U p1.Item.Key, U p1.Item.Val]]) ?_ ?_
 ·refine CW.region ?_
  refine pu 1 [(13, Pt b11)] ?_
  refine OW.ld rfl rfl rfl rfl (by kernel_rfl) (hst.blk 2 rfl rfl) ?_
  refine pu 2 [(16, .bool (decide (p1.Item.Map < 0)))] ?_
  refine OW.split 16 rfl (fun hc15 => ?_) (fun hc15 => ?_)
  ·refine pu 17 [(12, .bool true)] (OW.nil rfl ?_)
   refine QW.say 12 (v := .bool (((decide (p1.Item.Map < 0) || decide (p1.Item.Map ≥ ((p0).length : Int))) || decide (p1.Item.Op < 0)) || decide (p1.Item.Op ≥ 5))) rfl (by first | (rw [hc15]; done) | (rw [hc15]; rfl) | simp [hc15]) ?_
   exact QW.meet (fun a ha => ⟨ha.ag, hst.keep [0, 1, 2] rfl⟩)
  refine pu 1 [(17, Pt b11)] ?_
  refine OW.ld rfl rfl rfl rfl (by kernel_rfl) (hst.blk 2 rfl rfl) ?_
  refine pu 5 [(23, .bool (decide (p1.Item.Map ≥ ((p0).length : Int))))] ?_
  refine OW.split 23 rfl (fun hc16 => ?_) (fun hc16 => ?_)
  ·refine pu 10 [(12, .bool true)] (OW.nil rfl ?_)
   refine QW.say 12 (v := .bool (((decide (p1.Item.Map < 0) || decide (p1.Item.Map ≥ ((p0).length : Int))) || decide (p1.Item.Op < 0)) || decide (p1.Item.Op ≥ 5))) rfl (by first | (rw [hc15, hc16]; done) | (rw [hc15, hc16]; rfl) | simp [hc15, hc16]) ?_
   exact QW.meet (fun a ha => ⟨ha.ag, hst.keep [0, 1, 2] rfl⟩)
  refine pu 1 [(24, .pointer (some ⟨b11, 1, none⟩))] ?_
  refine OW.ld rfl rfl rfl rfl (by kernel_rfl) (hst.blk 2 rfl rfl) ?_
  refine pu 3 [(28, .bool (decide (p1.Item.Op < 0)))] ?_
  refine OW.split 28 rfl (fun hc17 => ?_) (fun hc17 => ?_)
  ·refine pu 5 [(12, .bool true)] (OW.nil rfl ?_)
   refine QW.say 12 (v := .bool (((decide (p1.Item.Map < 0) || decide (p1.Item.Map ≥ ((p0).length : Int))) || decide (p1.Item.Op < 0)) || decide (p1.Item.Op ≥ 5))) rfl (by first | (rw [hc15, hc16, hc17]; done) | (rw [hc15, hc16, hc17]; rfl) | simp [hc15, hc16, hc17]) ?_
   exact QW.meet (fun a ha => ⟨ha.ag, hst.keep [0, 1, 2] rfl⟩)
  refine pu 1 [(29, .pointer (some ⟨b11, 1, none⟩))] ?_
  refine OW.ld rfl rfl rfl rfl (by kernel_rfl) (hst.blk 2 rfl rfl) ?_
  refine pu 3 [(12, .bool (decide (p1.Item.Op ≥ 5)))] (OW.nil rfl ?_)
  refine QW.say 12 (v := .bool (((decide (p1.Item.Map < 0) || decide (p1.Item.Map ≥ ((p0).length : Int))) || decide (p1.Item.Op < 0)) || decide (p1.Item.Op ≥ 5))) rfl (by first | (rw [hc15, hc16, hc17]; done) | (rw [hc15, hc16, hc17]; rfl) | simp [hc15, hc16, hc17]) ?_
  exact QW.meet (fun a ha => ⟨ha.ag, hst.keep [0, 1, 2] rfl⟩)
 rintro a w1 ⟨ha, hst⟩
 refine CW.go ?_ ha
 refine br ((((decide (p1.Item.Map < 0) || decide (p1.Item.Map ≥ ((p0).length : Int))) || decide (p1.Item.Op < 0)) || decide (p1.Item.Op ≥ 5))) hF (fun hF hc18 => ?_) (fun hF hc18 => ?_)
 ·refine rg ?_
  refine pu 1 [(4, .bool false)] (nx (CW.ret (QW.block_ret (QW.then_ret ?_))))
  obtain rfl := inj hF
  refine QW.ret1 rfl rfl ?_
  exact ⟨Sv0, rfl, hst.keep [0] rfl⟩
 refine CW.skip (QW.block_normal (QW.next (CW.seq ?_)))
 refine CW.plan (by kernel_rfl) ?_
 intro w37 hch38
 have hst := hst.same hch38
 refine OA.pure [0, 1] [(33, .slice a2 (p0).length c3), (34, Pt b11)] (by kernel_rfl) ?_
 refine OA.ld (i := 2) rfl (by kernel_rfl) rfl rfl rfl (by kernel_rfl) (hst.blk 2 rfl rfl) ?_
 obtain ⟨x39, hx40, hF⟩ := bs hF
 obtain ⟨g42, o43, c44, hv41⟩ := hst.nrowv 0 rfl hx40
 refine OA.idx (i := 3) 73 1 rfl (by kernel_rfl) rfl rfl rfl hv41 rfl (idx_some hx40).1 (idx_some hx40).2.1 (by kernel_rfl) (by kernel_rfl) ?_
 obtain ⟨v45, S46, S47, hce48, hst⟩ := hst.nout1 0 rfl rfl hx40 hv41
 obtain ⟨b49, rfl⟩ := hst.fptr 3 rfl
 refine OA.ld (i := 4) rfl (by kernel_rfl) rfl rfl rfl (by kernel_rfl) hce48 ?_
 refine OA.pure [5] [(38, .pointer (some ⟨b11, 1, none⟩))] (by kernel_rfl) ?_
 refine OA.ld (i := 6) rfl (by kernel_rfl) rfl rfl rfl (by kernel_rfl) (hst.blk 2 rfl rfl) ?_
 refine OA.pure [7] [(40, .pointer (some ⟨b11, 2, none⟩))] (by kernel_rfl) ?_
 refine OA.ld (i := 8) rfl (by kernel_rfl) rfl rfl rfl (by kernel_rfl) (hst.blk 2 rfl rfl) ?_
 refine OA.pure [9] [(42, .pointer (some ⟨b11, 3, none⟩))] (by kernel_rfl) ?_
 refine OA.ld (i := 10) rfl (by kernel_rfl) rfl rfl rfl (by kernel_rfl) (hst.blk 2 rfl rfl) ?_
 refine OA.pure [12] [(45, .pointer (some ⟨b6, 14, none⟩))] (by kernel_rfl) ?_
 refine OA.ldN (i := 13) (cs := [I p1.Res.E, .bool p1.Res.Found, U p1.Res.Val, .bool p1.Res.Out, U p1.Res.OutKey, U p1.Res.OutVal]) rfl (by kernel_rfl) rfl rfl rfl (by kernel_rfl) (by kernel_rfl) (hst.blkN 1 rfl 14 6) ?_
 refine OA.act (i := 11) [13] (by kernel_rfl) rfl rfl (by kernel_rfl) (by kernel_rfl) ?_
 obtain ⟨r50, hr51, hF⟩ := bs hF
 refine OW.fn rfl rfl rfl rfl (by kernel_rfl) (cmap_Map_Do_ok _ fu (Pt b49) S47 x39 p1.Item.Op p1.Item.Key p1.Item.Val r50 hr51 (hst.part [3] rfl)) ?_
 rintro e w52 ⟨S54, rfl, hst53⟩
 refine ⟨_, rfl, ?_⟩
 have hst := hst.join (idx := [3]) (rest := [0, 1, 2]) rfl hst53
 refine OA.next ⟨(hst.blkN 2 rfl 14 6), trivial⟩ ?_
 refine OA.val (i := 14) (v := .bool ((r50.1.E == p1.Res.E) && ((r50.1.Found == p1.Res.Found) && ((r50.1.Val == p1.Res.Val) && ((r50.1.Out == p1.Res.Out) && ((r50.1.OutKey == p1.Res.OutKey) && ((r50.1.OutVal == p1.Res.OutVal) && true))))))) rfl (by kernel_rfl) rfl rfl rfl rfl (fun a w ha => seq_run rfl rfl rfl (by kernel_rfl) (by kernel_rfl) a w ha) ?_
 refine OA.act (i := 15) [] (by kernel_rfl) rfl rfl (by kernel_rfl) (by kernel_rfl) ?_
 refine pu 1 [(4, .bool ((r50.1.E == p1.Res.E) && ((r50.1.Found == p1.Res.Found) && ((r50.1.Val == p1.Res.Val) && ((r50.1.Out == p1.Res.Out) && ((r50.1.OutKey == p1.Res.OutKey) && ((r50.1.OutVal == p1.Res.OutVal) && true)))))))] (OA.next trivial ?_)
 refine OA.fin (by kernel_rfl) (by kernel_rfl) (QW.next (CW.ret ?_))
 obtain ⟨S55, hst⟩ := hst.nback 1 0 rfl rfl rfl hx40
 have hst := hst.keep [1, 2, 3] rfl
 obtain rfl := inj hF
 refine QW.ret1 rfl rfl ?_
 exact ⟨S55, rfl, hst.keep [0] rfl⟩
end Go.Proofs.Ytpchniebplpboaa

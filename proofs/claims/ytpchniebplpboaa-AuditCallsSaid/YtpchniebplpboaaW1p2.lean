/- Written by a program (wip/gen): the walks: each Go function returns what its plain function computes. -/
import Derived.Test.YtpchniebplpboaaProg
import Derived.Test.YtpchniebplpboaaF1
import Derived.Test.YtpchniebplpboaaSq
import Derived.Test.YtpchniebplpboaaPart
import Derived.Test.YtpchniebplpboaaO1
import Derived.Test.YtpchniebplpboaaW1p1
set_option linter.unusedSimpArgs false
namespace Go.Proofs.Ytpchniebplpboaa
open Go.Sx
set_option linter.unusedVariables false
set_option maxRecDepth 10000
set_option maxHeartbeats 4000000
theorem book_Book_find_1_ok (w : World) (p0 : api_Pair) (p1 : Int) (r : Int) (hF : book_Book_find_1 p0 p1 = some r)
    (hst : St w (fp []) w []) :
    Calls Try.prog 83 [.agg [U p0.Key, U p0.Val].toArray, U p1].toArray w (fun e w' => e = .returned (I r) ∧ St w (fp []) w' []) := by
 refine CW.start (N := 15) Try.func83 rfl rfl rfl (rg ?_)
 refine OW.box hst rfl rfl rfl rfl [U p0.Key, U p0.Val] rfl ?_
 intro b3 w4 hst
 refine pu 1 [] (nx (CW.seq (CW.block (rg ?_))))
 refine pu 1 [(6, Pt b3)] ?_
 refine OW.ld rfl rfl rfl rfl (by kernel_rfl) (hst.blk 0 rfl rfl) ?_
 refine pu 3 [(5, .bool (decide (p0.Key < p1)))] (nx ?_)
 refine br (decide (p0.Key < p1)) hF (fun hF hc5 => ?_) (fun hF hc5 => ?_)
 ·refine rg ?_
  refine pu 1 [(4, I (-1))] (nx (CW.ret (QW.block_ret (QW.then_ret ?_))))
  obtain rfl := inj hF
  refine QW.ret1 rfl rfl ?_
  exact ⟨rfl, hst.keep [] rfl⟩
 refine rg ?_
 refine pu 1 [(11, Pt b3)] ?_
 refine OW.ld rfl rfl rfl rfl (by kernel_rfl) (hst.blk 0 rfl rfl) ?_
 refine pu 3 [(10, .bool (decide (p0.Key > p1)))] (nx ?_)
 refine br (decide (p0.Key > p1)) hF (fun hF hc6 => ?_) (fun hF hc6 => ?_)
 ·refine rg ?_
  refine pu 1 [(4, I 1)] (nx (CW.ret (QW.block_ret (QW.then_ret ?_))))
  obtain rfl := inj hF
  refine QW.ret1 rfl rfl ?_
  exact ⟨rfl, hst.keep [] rfl⟩
 refine CW.skip (QW.block_normal (QW.next (rg ?_)))
 refine pu 1 [(4, I 0)] (nx (CW.ret ?_))
 obtain rfl := inj hF
 refine QW.ret1 rfl rfl ?_
 exact ⟨rfl, hst.keep [] rfl⟩
theorem slices_BinarySearchFunc_tappet_api_Pair_tappet_api_Pair_uint64_83_ok (w : World) (fu : Nat) (v0 : Value) (p0 : List api_Pair) (p1 : Int) (r : Int × Bool) (hF : slices_BinarySearchFunc_tappet_api_Pair_tappet_api_Pair_uint64_83 fu p0 p1 = some r)
    (hst : St w (fp []) w []) (h0 : Rd w (fp []) v0 enc_api_Pair 2 p0) :
    Calls Try.prog 82 [v0, U p1, .func (.func 83) #[] #[]].toArray w (fun e w' => e = .returned (.tuple #[I r.1, .bool r.2]) ∧ St w (fp []) w' []) := by
 refine CW.start (N := 49) Try.func82 rfl rfl rfl ?_
 obtain ⟨l1, a2, c3, rfl⟩ := h0.len
 refine rg ?_
 refine pu 2 [] (nx (rg ?_))
 refine pu 3 [(8, I ((p0).length : Int))] (nx (rg ?_))
 refine pu 3 [(9, I 0), (10, I ((p0).length : Int))] (nx (CW.seq ?_))
 obtain ⟨o74, ho75, hF⟩ := bs hF
 refine CW.cutK (fun a w1 => Rep 49 [(0, .slice a2 (p0).length c3), (1, U p1), (2, .func (.func 83) #[] #[]), (8, I ((p0).length : Int)), (9, I o74)] a ∧ St w (fp []) w1 []) ?_ ?_
 ·refine CW.block ?_
  refine CW.loop (fun n a w1 => ∃ (s123 : Int × Int), Rep 49 [(0, .slice a2 (p0).length c3), (1, U p1), (2, .func (.func 83) #[] #[]), (8, I ((p0).length : Int)), (9, I s123.1), (10, I s123.2)] a ∧ St w (fp []) w1 [] ∧ loop (slices_BinarySearchFunc_tappet_api_Pair_tappet_api_Pair_uint64_83_l1 p0 p1) n s123 = some o74) fu (fun a ha => ⟨(0, ((p0).length : Int)), ha.ag, hst.keep [] rfl, ho75⟩) ?_
  rintro n121 a w1 ⟨s123, ha, hst, hl122⟩
  rcases n121 with _ | n121
  ·exact (loop_zero hl122).elim
  refine CW.go ?_ ha
  refine CW.seq (rg ?_)
  refine pu 3 [(17, .bool (decide (s123.1 < s123.2)))] (nx ?_)
  refine br (decide (s123.1 < s123.2)) hl122 (fun hl122 hc124 => ?_) (fun hl122 hc124 => ?_)
  ·refine CW.skip (QW.next (CW.block (rg ?_)))
   refine pu 7 [(11, I (w64 (bShr .u64 (wu64 (w64 (s123.1 + s123.2))) 1)))] (nx (rg ?_))
   refine pu 3 [(24, .func (.func 83) #[] #[]), (25, .slice a2 (p0).length c3), (26, I (w64 (bShr .u64 (wu64 (w64 (s123.1 + s123.2))) 1)))] ?_
   obtain ⟨x135, hx136, hl122⟩ := bs hl122
   obtain ⟨g138, o139, c140, hv137⟩ := h0.formv (fun _ => ⟨_, rfl⟩) hx136
   refine OW.idx 129 2 rfl rfl rfl rfl hv137 rfl (idx_some hx136).1 (idx_some hx136).2.1 (by kernel_rfl) (by kernel_rfl) ?_
   refine OW.ldN (cs := enc_api_Pair x135) rfl rfl rfl rfl (by kernel_rfl) (by kernel_rfl) (h0.cellv hst hx136 hv137) ?_
   refine pu 1 [(29, U p1)] ?_
   obtain ⟨r141, hr142, hl122⟩ := bs hl122
   refine OW.fn rfl rfl rfl rfl (by kernel_rfl) (book_Book_find_1_ok _ x135 p1 r141 hr142 (hst.part [] rfl)) ?_
   rintro e w143 ⟨rfl, hst144⟩
   refine ⟨_, rfl, ?_⟩
   have hst := hst.join (idx := []) (rest := []) rfl hst144
   refine pu 1 [(31, .bool (decide (r141 < 0)))] (nx ?_)
   refine br (decide (r141 < 0)) hl122 (fun hl122 hc145 => ?_) (fun hl122 hc145 => ?_)
   ·refine CW.region ?_
    refine pu 3 [(9, I (w64 ((w64 (bShr .u64 (wu64 (w64 (s123.1 + s123.2))) 1)) + 1)))] (OW.nil rfl (QW.block_normal ?_))
    exact QW.meet (fun a ha => ⟨n121, Nat.lt_succ_self _, (w64 ((w64 (bShr .u64 (wu64 (w64 (s123.1 + s123.2))) 1)) + 1), s123.2), ha.ag, hst.keep [] rfl, hl122⟩)
   refine CW.region ?_
   refine pu 2 [(10, I (w64 (bShr .u64 (wu64 (w64 (s123.1 + s123.2))) 1)))] (OW.nil rfl (QW.block_normal ?_))
   exact QW.meet (fun a ha => ⟨n121, Nat.lt_succ_self _, (s123.1, w64 (bShr .u64 (wu64 (w64 (s123.1 + s123.2))) 1)), ha.ag, hst.keep [] rfl, hl122⟩)
  refine CW.exit (QW.then_exit (QW.then_exit ?_))
  refine QW.block_here ?_
  obtain rfl := inj hl122
  exact QW.meet (fun a ha => ⟨ha.ag, hst.keep [] rfl⟩)
 rintro a w1 ⟨ha, hst⟩
 refine CW.go ?_ ha
 refine CW.seq ?_
 obtain ⟨o157, ho158, hF⟩ := bs hF
 refine CW.cutK (fun a w1 => Rep 49 [(6, I o74), (7, .bool o157)] a ∧ St w (fp []) w1 []) ?_ ?_
 ·refine CW.region ?_
  refine pu 5 [(35, I o74), (39, .bool (decide (o74 < ((p0).length : Int))))] ?_
  refine OW.split 39 rfl (fun hc159 => ?_) (fun hc159 => ?_)
  ·have ho158 := ite_t ho158 hc159
   refine pu 3 [(40, .func (.func 83) #[] #[]), (41, .slice a2 (p0).length c3), (42, I o74)] ?_
   obtain ⟨x160, hx161, ho158⟩ := bs ho158
   obtain ⟨g163, o164, c165, hv162⟩ := h0.formv (fun _ => ⟨_, rfl⟩) hx161
   refine OW.idx 129 2 rfl rfl rfl rfl hv162 rfl (idx_some hx161).1 (idx_some hx161).2.1 (by kernel_rfl) (by kernel_rfl) ?_
   refine OW.ldN (cs := enc_api_Pair x160) rfl rfl rfl rfl (by kernel_rfl) (by kernel_rfl) (h0.cellv hst hx161 hv162) ?_
   refine pu 1 [(45, U p1)] ?_
   obtain ⟨r166, hr167, ho158⟩ := bs ho158
   refine OW.fn rfl rfl rfl rfl (by kernel_rfl) (book_Book_find_1_ok _ x160 p1 r166 hr167 (hst.part [] rfl)) ?_
   rintro e w168 ⟨rfl, hst169⟩
   refine ⟨_, rfl, ?_⟩
   have hst := hst.join (idx := []) (rest := []) rfl hst169
   refine pu 4 [(6, I o74), (7, .bool (r166 == 0))] (OW.nil rfl ?_)
   obtain rfl := inj ho158
   exact QW.meet (fun a ha => ⟨ha.ag, hst.keep [] rfl⟩)
  have ho158 := ite_f ho158 hc159
  refine pu 11 [(6, I o74), (7, .bool false)] (OW.nil rfl ?_)
  obtain rfl := inj ho158
  exact QW.meet (fun a ha => ⟨ha.ag, hst.keep [] rfl⟩)
 rintro a w1 ⟨ha, hst⟩
 refine CW.go ?_ ha
 refine CW.ret ?_
 obtain rfl := inj hF
 refine QW.ret2 rfl rfl rfl ?_
 exact ⟨rfl, hst.keep [] rfl⟩
theorem book_Book_find_ok (w : World) (fu : Nat) (v0 : Value) (S0 : List Nat) (p0 : book_Book) (p1 : Int) (r : Int × Bool) (hF : book_Book_find fu p0 p1 = some r)
    (hst : St w (fp [itI R_t114 [v0] S0 p0]) w [itI R_t114 [v0] S0 p0]) :
    Calls Try.prog 79 [v0, U p1].toArray w (fun e w' => ∃ (s0 : List Nat), e = .returned (.tuple #[I r.1, .bool r.2]) ∧ St w (fp [itI R_t114 [v0] S0 p0]) w' [itI R_t114 [v0] s0 p0]) := by
 refine CW.start (N := 14) Try.func79 rfl rfl rfl ?_
 obtain ⟨b1, rfl⟩ := hst.fptr 0 rfl
 refine rg ?_
 refine pu 2 [] (nx (CW.seq ?_))
 obtain ⟨v2, S3, hst⟩ := hst.openQ1 0 rfl rfl
 have hst := hst.toRow1 1 rfl
 obtain ⟨l4, a5, c6, rfl⟩ := hst.len 1 rfl
 have hst : St _ _ _ [blkI b1 131 [I p0.cap, .slice a5 (p0.pairs).length c6], _] := hst
 refine CW.region ?_
 refine pu 3 [(8, .pointer (some ⟨b1, 1, none⟩))] ?_
 refine OW.ld rfl rfl rfl rfl (by kernel_rfl) (hst.blk 0 rfl rfl) ?_
 refine pu 1 [(10, U p1)] ?_
 obtain ⟨r11, hr12, hF⟩ := bs hF
 refine OW.fn rfl rfl rfl rfl (by kernel_rfl) (slices_BinarySearchFunc_tappet_api_Pair_tappet_api_Pair_uint64_83_ok _ fu (.slice a5 (p0.pairs).length c6) p0.pairs p1 r11 hr12 (hst.part [] rfl) (hst.rd 1 rfl (fun _ => rfl) [] rfl (hst.len 1 rfl).1)) ?_
 rintro e w13 ⟨rfl, hst14⟩
 refine ⟨_, rfl, ?_⟩
 have hst := hst.join (idx := []) (rest := [0, 1]) rfl hst14
 refine pu 4 [(4, I r11.1), (5, .bool r11.2)] (nx (CW.ret ?_))
 have hst := hst.toIt 1 rfl (fun _ => rfl) (by decide)
 obtain ⟨S15, hst⟩ := hst.shutP1 R_t131 rfl 0 1 [] rfl rfl rfl p0 rfl rfl
 obtain rfl := inj hF
 refine QW.ret2 rfl rfl rfl ?_
 exact ⟨S15, rfl, hst.keep [0] rfl⟩
theorem slices_Delete_tappet_api_Pair_tappet_api_Pair_ok (w : World) (v0 : Value) (p0 : List api_Pair) (p1 : Int) (p2 : Int) (r : List api_Pair) (hF : slices_Delete_tappet_api_Pair_tappet_api_Pair p0 p1 p2 = some r)
    (hst : St w (fp [rowI v0 129 enc_api_Pair 2 p0]) w [rowI v0 129 enc_api_Pair 2 p0]) :
    Calls Try.prog 80 [v0, I p1, I p2].toArray w (fun e w' => ∃ x0 : Value, e = .returned x0 ∧ St w (fp [rowI v0 129 enc_api_Pair 2 p0]) w' [rowI x0 129 enc_api_Pair 2 r]) := by
  obtain ⟨p, q, rfl, rfl, hpq, hq, rfl⟩ := delF_some hF
  refine CW.start (N := 33) Try.func80 rfl rfl rfl ?_
  obtain ⟨l0, a0, c0, rfl⟩ := hst.len 0 rfl
  have hcap : p0.length ≤ c0 := hst.cap 0 rfl
  have hp : p ≤ p0.length := by omega
  refine rg ?_
  refine pu 1 [] (nx (rg ?_))
  refine pu 5 [(8, .slice a0 p0.length c0), (9, I (p : Int)), (10, I (q : Int)), (12, I (p0.length : Int))] ?_
  obtain ⟨v3, h3⟩ := sub3_val (P := Try.prog) (N := 33) (t := 120) (e := 129) (sz := 2) a0 p0.length c0 (q := (p : Int)) (r := (q : Int)) (m := (p0.length : Int)) (by omega) (by omega) (by omega) (by omega) (by kernel_rfl) (by kernel_rfl)
  refine OW.op (v := v3) rfl rfl rfl rfl (fun a ha => h3 _ _ rfl rfl rfl rfl rfl a _ ha) ?_
  refine nx (CW.seq (rg ?_))
  refine pu 3 [(16, .bool ((p : Int) == (q : Int)))] (nx ?_)
  rcases bft ((p : Int) == (q : Int)) with hc | hc
  · refine CW.cond_t rfl hc (rg ?_)
    refine pu 2 [(6, .slice a0 p0.length c0)] (nx (CW.ret (QW.then_ret ?_)))
    refine QW.ret1 rfl rfl ?_
    have e0 : p = q := by have := (show (p : Int) = (q : Int) from (by simpa using hc))
                          omega
    have e1 : p0.take p ++ p0.drop q = p0 := by rw [e0, List.take_append_drop]
    exact ⟨_, rfl, by rw [e1]; exact hst.keep [0] rfl⟩
  refine CW.cond_f rfl hc (CW.skip (QW.next (rg ?_)))
  refine pu 3 [(7, I (p0.length : Int))] (nx (CW.seq (CW.tail 6 (by kernel_rfl) (by kernel_rfl) ?_)))
  intro w3 hch
  have hst := hst.same hch
  have hdl : (p0.drop q).length = p0.length - q := List.length_drop
  have htl : (p0.take p).length = p := by rw [List.length_take]; omega
  refine OS.pure 2 [(20, .slice a0 p0.length c0), (21, I (p : Int))] rfl (by kernel_rfl) ?_
  refine OS.op (v := .slice a0 (p0.take p).length c0) rfl rfl rfl rfl rfl (fun a ha => pre_run (xs := p0) (e := 129) 2 rfl rfl rfl (cut_prf rfl hp) hcap (by kernel_rfl) (by kernel_rfl) a _ ha) ?_
  refine OS.pure 2 [(23, .slice a0 p0.length c0), (24, I (q : Int))] rfl (by kernel_rfl) ?_
  refine OS.op (v := .slice (shd a0 c0 (Int.toNat (q : Int)) 2) (p0.drop q).length (c0 - Int.toNat (q : Int))) rfl rfl rfl rfl rfl (fun a ha => suf_run (xs := p0) (e := 129) 2 rfl rfl rfl rfl (cut_suf rfl hq) (by kernel_rfl) (by kernel_rfl) a _ ha) ?_
  refine OS.on ?_
  refine OW.appW hst 0 rfl (fun _ => rfl) (fun _ => rfl) rfl rfl rfl rfl rfl rfl (by kernel_rfl) el129 ((hst.rd 0 rfl (fun _ => rfl) [] rfl (hst.len 0 rfl).1).part (cut_suf (k := q) rfl hq)) (by omega) ?_
  intro w4 hst
  have hX : (over p0 (p0.take p).length (p0.drop q)).length = p0.length := over_len _ _ _ (by omega)
  have hk : (p0.take p).length + (p0.drop q).length ≤ (over p0 (p0.take p).length (p0.drop q)).length := by omega
  refine pu 1 [(0, .slice a0 ((p0.take p).length + (p0.drop q).length) c0)] (nx (rg ?_))
  refine pu 4 [(27, .slice a0 ((p0.take p).length + (p0.drop q).length) c0), (29, I (((p0.take p).length + (p0.drop q).length : Nat) : Int)), (30, I (p0.length : Int))] ?_
  have hcs : cut (over p0 (p0.take p).length (p0.drop q)) (((p0.take p).length + (p0.drop q).length : Nat) : Int) ((over p0 (p0.take p).length (p0.drop q)).length : Int) = some ((over p0 (p0.take p).length (p0.drop q)).drop ((p0.take p).length + (p0.drop q).length)) := cut_suf rfl hk
  have hcs2 : cut (over p0 (p0.take p).length (p0.drop q)) (((p0.take p).length + (p0.drop q).length : Nat) : Int) (p0.length : Int) = some ((over p0 (p0.take p).length (p0.drop q)).drop ((p0.take p).length + (p0.drop q).length)) := by rw [← hcs, hX]
  refine OW.op (v := .slice (shd a0 c0 (Int.toNat (((p0.take p).length + (p0.drop q).length : Nat) : Int)) 2) ((over p0 (p0.take p).length (p0.drop q)).drop ((p0.take p).length + (p0.drop q).length)).length (c0 - Int.toNat (((p0.take p).length + (p0.drop q).length : Nat) : Int))) rfl rfl rfl rfl (fun a ha => sub_run (xs := (over p0 (p0.take p).length (p0.drop q))) (e := 129) 2 rfl rfl rfl rfl hcs2 (by omega) (by kernel_rfl) (by kernel_rfl) a _ ha) ?_
  refine OW.clearR (e := 129) hst 0 rfl (fun _ => rfl) rfl rfl hcs rfl rfl (by kernel_rfl) (api_Pair.mk 0 0) (by kernel_rfl) rfl ?_
  intro w5 hst
  refine nx (rg ?_)
  refine pu 2 [(6, .slice a0 ((p0.take p).length + (p0.drop q).length) c0)] (nx (CW.ret ?_))
  refine QW.ret1 rfl rfl ?_
  rw [Int.toNat_natCast] at hst
  have hc5 := cut_prf (xs := ((over p0 (p0.take p).length (p0.drop q)).take ((p0.take p).length + (p0.drop q).length) ++ List.replicate ((over p0 (p0.take p).length (p0.drop q)).drop ((p0.take p).length + (p0.drop q).length)).length (api_Pair.mk 0 0))) (k := (p0.take p).length + (p0.drop q).length) rfl (by rw [List.length_append, List.length_take_of_le hk]; omega)
  have hst := hst.cutRow 0 rfl (fun _ => rfl) hc5
  have e5 := delL (xs := p0) (p := (p0.take p).length) (q := q) (by omega) hq (api_Pair.mk 0 0) ((over p0 (p0.take p).length (p0.drop q)).drop ((p0.take p).length + (p0.drop q).length)).length
  rw [e5, htl] at hst
  have e6 : (p0.take p ++ p0.drop q).length = p + (p0.drop q).length := by rw [List.length_append, htl]
  rw [e6] at hst
  rw [htl]
  exact ⟨_, rfl, hst.keep [0] rfl⟩
theorem slices_Insert_tappet_api_Pair_tappet_api_Pair_ok (w : World) (v0 : Value) (p0 : List api_Pair) (p1 : Int) (v2 : Value) (p2 : List api_Pair) (r : List api_Pair × List api_Pair) (hF : slices_Insert_tappet_api_Pair_tappet_api_Pair p0 p1 p2 = some r)
    (hst : St w (fp [rowI v0 129 enc_api_Pair 2 p0, rowI v2 129 enc_api_Pair 2 p2]) w [rowI v0 129 enc_api_Pair 2 p0, rowI v2 129 enc_api_Pair 2 p2]) :
    Calls Try.prog 81 [v0, I p1, v2].toArray w (fun e w' => ∃ x0 : Value, e = .returned x0 ∧ St w (fp [rowI v0 129 enc_api_Pair 2 p0, rowI v2 129 enc_api_Pair 2 p2]) w' [rowI v2 129 enc_api_Pair 2 r.2, rowI x0 129 enc_api_Pair 2 r.1]) := by
  obtain ⟨k, rfl, hk, hroom, rfl⟩ := insF_some hF
  refine CW.start (N := 95) Try.func81 rfl rfl rfl ?_
  obtain ⟨l0, a0, c0, rfl⟩ := hst.len 0 rfl
  obtain ⟨l2, a2, c2, rfl⟩ := hst.len 1 rfl
  have hbs : p0.length + p2.length ≤ 140737488355328 := Nat.le_trans (Nat.le_mul_of_pos_right _ (show 0 < 16 by decide)) hroom
  have hcap : p0.length ≤ c0 := hst.cap 0 rfl
  refine rg ?_
  refine pu 1 [] ?_
  refine nx ?_
  refine rg ?_
  refine pu 2 [(10, .slice a0 p0.length c0), (11, I (k : Int))] ?_
  refine OW.op (v := .slice (shd a0 c0 (Int.toNat (k : Int)) 2) (p0.drop k).length (c0 - Int.toNat (k : Int))) rfl rfl rfl rfl (fun a ha => suf_run (xs := p0) (e := 129) 2 rfl rfl rfl rfl (cut_suf rfl hk) (by kernel_rfl) (by kernel_rfl) a _ ha) ?_
  refine nx ?_
  refine rg ?_
  refine pu 3 [(7, I (p2.length : Int))] ?_
  refine nx ?_
  refine CW.seq (rg ?_)
  refine pu 2 [(16, .bool ((p2.length : Int) == 0))] ?_
  refine nx ?_
  rcases bft ((p2.length : Int) == 0) with hm | hm
  · refine CW.cond_t rfl hm (rg ?_)
    refine pu 2 [(6, .slice a0 p0.length c0)] (nx (CW.ret (QW.then_ret ?_)))
    refine QW.ret1 rfl rfl ?_
    have e0 : p2 = [] := List.eq_nil_of_length_eq_zero (by simpa using hm)
    have e1 : p0.take k ++ p2 ++ p0.drop k = p0 := by rw [e0, List.append_nil, List.take_append_drop]
    exact ⟨_, rfl, by rw [e1]; exact hst.keep [1, 0] rfl⟩
  have hm0 : 0 < p2.length := by have : ¬ p2.length = 0 := by (simpa using hm)
                                 omega
  refine CW.cond_f rfl hm (CW.skip (QW.next ?_))
  refine rg ?_
  refine pu 3 [(8, I (p0.length : Int))] ?_
  refine nx ?_
  refine CW.seq (rg ?_)
  refine pu 3 [(22, .bool ((k : Int) == (p0.length : Int)))] ?_
  refine nx ?_
  rcases bft ((k : Int) == (p0.length : Int)) with hn | hn
  · refine CW.cond_t rfl hn (rg ?_)
    refine pu 2 [(23, .slice a0 p0.length c0), (24, .slice a2 p2.length c2)] ?_
    refine OW.app hst 0 rfl (fun _ => rfl) (fun _ => rfl) rfl rfl rfl rfl rfl rfl (by kernel_rfl) el129 (hst.rd 1 rfl (fun _ => rfl) [] rfl (hst.len 1 rfl).1) hroom ?_
    intro v3 w1 hst
    refine pu 1 [(6, v3)] (nx (CW.ret (QW.then_ret ?_)))
    refine QW.ret1 rfl rfl ?_
    have e0 : k = p0.length := by have := (show (k : Int) = (p0.length : Int) from (by simpa using hn))
                                  omega
    have e1 : p0.take k ++ p2 ++ p0.drop k = p0 ++ p2 := by rw [e0, List.take_length, List.drop_length, List.append_nil]
    exact ⟨_, rfl, by rw [e1]; exact hst.keep [1, 0] rfl⟩
  have hkn : k < p0.length := by have : ¬ k = p0.length := by (intro e; rw [e] at hn; simp at hn)
                                 omega
  refine CW.cond_f rfl hn (CW.skip (QW.next ?_))
  have hw1 : w64 ((p0.length : Int) + (p2.length : Int)) = ((p0.length + p2.length : Nat) : Int) := by rw [w64_eq (by omega) (by omega)]; simp
  refine CW.seq (rg ?_)
  refine pu 6 [(31, .bool (decide (w64 ((p0.length : Int) + (p2.length : Int)) > (c0 : Int))))] ?_
  refine nx ?_
  rcases bft (decide (w64 ((p0.length : Int) + (p2.length : Int)) > (c0 : Int))) with hg | hg
  · have hg2 : c0 < p0.length + p2.length := by rw [hw1] at hg; simp at hg; omega
    have hw2 : w64 (w64 ((p0.length : Int) + (p2.length : Int)) - (k : Int)) = ((p0.length + p2.length - k : Nat) : Int) := by rw [hw1, w64_eq (by omega) (by omega)]; omega
    have hw3 : w64 ((k : Int) + (p2.length : Int)) = ((k + p2.length : Nat) : Int) := by rw [w64_eq (by omega) (by omega)]; simp
    have htk : (p0.take k).length = k := by rw [List.length_take]; omega
    refine CW.cond_t rfl hg (rg ?_)
    refine pu 2 [(32, .slice a0 p0.length c0), (33, I (k : Int))] ?_
    refine OW.op (v := .slice a0 (p0.take k).length c0) rfl rfl rfl rfl (fun a ha => pre_run (xs := p0) (e := 129) 2 rfl rfl rfl (cut_prf rfl hk) hcap (by kernel_rfl) (by kernel_rfl) a _ ha) ?_
    refine pu 5 [(39, I (w64 (w64 ((p0.length : Int) + (p2.length : Int)) - (k : Int))))] ?_
    refine OW.appZ (enc := enc_api_Pair) (sz := 2) hst (fun _ => rfl) rfl rfl rfl rfl (ys := p0.take k) rfl rfl hw2 (by kernel_rfl) (by kernel_rfl) el129 ((hst.rd 0 rfl (fun _ => rfl) [] rfl (hst.len 0 rfl).1).pre (cut_prf rfl hk)) (api_Pair.mk 0 0) (by kernel_rfl) (by omega) (by omega) (by rw [htk, show k + (p0.length + p2.length - k) = p0.length + p2.length by omega]; exact hroom) ?_
    intro g cc w1 hst hcc
    have hX : (p0.take k ++ List.replicate (p0.length + p2.length - k) (api_Pair.mk 0 0)).length = (p0.take k).length + (p0.length + p2.length - k) := by simp
    have hXk : k ≤ (p0.take k ++ List.replicate (p0.length + p2.length - k) (api_Pair.mk 0 0)).length := by omega
    refine pu 1 [(9, .slice (some ⟨g, 0, none⟩) ((p0.take k).length + (p0.length + p2.length - k)) cc)] (nx (rg ?_))
    refine pu 2 [(41, .slice (some ⟨g, 0, none⟩) ((p0.take k).length + (p0.length + p2.length - k)) cc), (42, I (k : Int))] ?_
    refine OW.op (v := .slice (shd (some ⟨g, 0, none⟩) cc (Int.toNat (k : Int)) 2) ((p0.take k ++ List.replicate (p0.length + p2.length - k) (api_Pair.mk 0 0)).drop k).length (cc - Int.toNat (k : Int))) rfl rfl rfl rfl (fun a ha => suf_run (xs := (p0.take k ++ List.replicate (p0.length + p2.length - k) (api_Pair.mk 0 0))) (e := 129) 2 rfl rfl hX.symm rfl (cut_suf rfl hXk) (by kernel_rfl) (by kernel_rfl) a _ ha) ?_
    refine pu 1 [(44, .slice a2 p2.length c2)] ?_
    refine OW.copyR (e := 129) hst 2 rfl (fun _ => rfl) (by decide) rfl rfl rfl rfl (cut_suf (k := k) rfl hXk) rfl rfl (by kernel_rfl) (by kernel_rfl) (hst.rd 1 rfl (fun _ => rfl) [] rfl (hst.len 1 rfl).1) (fun _ _ => rfl) ?_
    intro w2 hst
    refine nx (CW.seq (CW.tail 8 (by kernel_rfl) (by kernel_rfl) ?_))
    intro w3 hch
    have hst := hst.same hch
    have hX1 : (over (p0.take k ++ List.replicate (p0.length + p2.length - k) (api_Pair.mk 0 0)) (Int.toNat (k : Int)) p2).length = (p0.take k).length + (p0.length + p2.length - k) := (over_len _ _ _ hXk).trans hX
    have hX1k : k + p2.length ≤ (over (p0.take k ++ List.replicate (p0.length + p2.length - k) (api_Pair.mk 0 0)) (Int.toNat (k : Int)) p2).length := by omega
    refine OS.pure 4 [(46, .slice (some ⟨g, 0, none⟩) ((p0.take k).length + (p0.length + p2.length - k)) cc), (49, I (w64 ((k : Int) + (p2.length : Int))))] rfl (by kernel_rfl) ?_
    refine OS.op (v := .slice (shd (some ⟨g, 0, none⟩) cc (Int.toNat (w64 ((k : Int) + (p2.length : Int)))) 2) ((over (p0.take k ++ List.replicate (p0.length + p2.length - k) (api_Pair.mk 0 0)) (Int.toNat (k : Int)) p2).drop (k + p2.length)).length (cc - Int.toNat (w64 ((k : Int) + (p2.length : Int))))) rfl rfl rfl rfl rfl (fun a ha => suf_run (xs := (over (p0.take k ++ List.replicate (p0.length + p2.length - k) (api_Pair.mk 0 0)) (Int.toNat (k : Int)) p2)) (e := 129) 2 rfl rfl hX1.symm rfl (cut_suf hw3 hX1k) (by kernel_rfl) (by kernel_rfl) a _ ha) ?_
    refine OS.pure 2 [(51, .slice a0 p0.length c0), (52, I (k : Int))] rfl (by kernel_rfl) ?_
    refine OS.op (v := .slice (shd a0 c0 (Int.toNat (k : Int)) 2) (p0.drop k).length (c0 - Int.toNat (k : Int))) rfl rfl rfl rfl rfl (fun a ha => suf_run (xs := p0) (e := 129) 2 rfl rfl rfl rfl (cut_suf rfl hk) (by kernel_rfl) (by kernel_rfl) a _ ha) ?_
    refine OS.on ?_
    refine OW.copyR (e := 129) hst 2 rfl (fun _ => rfl) (by decide) rfl rfl rfl rfl (cut_suf hw3 hX1k) rfl rfl (by kernel_rfl) (by kernel_rfl) ((hst.rd 0 rfl (fun _ => rfl) [] rfl (hst.len 0 rfl).1).part (cut_suf (k := k) rfl hk)) (fun _ _ => rfl) ?_
    intro w4 hst
    refine nx (rg ?_)
    refine pu 2 [(6, .slice (some ⟨g, 0, none⟩) ((p0.take k).length + (p0.length + p2.length - k)) cc)] (nx (CW.ret (QW.then_ret ?_)))
    refine QW.ret1 rfl rfl ?_
    rw [hw3, Int.toNat_natCast, Int.toNat_natCast, insA hk] at hst
    exact ⟨_, rfl, hst.keep [1, 2] rfl⟩
  have hg2 : p0.length + p2.length ≤ c0 := by rw [hw1] at hg; simp at hg; omega
  have hw3 : w64 ((k : Int) + (p2.length : Int)) = ((k + p2.length : Nat) : Int) := by rw [w64_eq (by omega) (by omega)]; simp
  refine CW.cond_f rfl hg (CW.skip (QW.next ?_))
  refine rg ?_
  refine pu 4 [(56, .slice a0 p0.length c0), (59, I (w64 ((p0.length : Int) + (p2.length : Int))))] ?_
  refine OW.op (v := .slice a0 (p0.length + p2.length) c0) rfl rfl rfl rfl (fun a ha => room_run (k := p0.length + p2.length) (e := 129) (sz := 2) rfl rfl rfl hw1 hg2 (by kernel_rfl) (by kernel_rfl) a _ ha) ?_
  refine pu 1 [(0, .slice a0 (p0.length + p2.length) c0)] ?_
  refine nx ?_
  obtain ⟨junk, hjl, hst⟩ := hst.spare 0 rfl (fun _ => rfl) (k := p0.length + p2.length) (by omega) hg2
  have hjl : junk.length = p2.length := by omega
  have hX : (p0.map enc_api_Pair ++ junk).length = p0.length + p2.length := by simp [hjl]
  have hXk : k ≤ (p0.map enc_api_Pair ++ junk).length := by omega
  have hXm : k + p2.length ≤ (p0.map enc_api_Pair ++ junk).length := by omega
  refine CW.seq (rg ?_)
  refine pu 5 [(61, .slice a2 p2.length c2), (62, .slice a0 (p0.length + p2.length) c0), (65, I (w64 ((k : Int) + (p2.length : Int))))] ?_
  refine OW.op (v := .slice (shd a0 c0 (Int.toNat (w64 ((k : Int) + (p2.length : Int)))) 2) ((p0.map enc_api_Pair ++ junk).drop (k + p2.length)).length (c0 - Int.toNat (w64 ((k : Int) + (p2.length : Int))))) rfl rfl rfl rfl (fun a ha => suf_run (xs := (p0.map enc_api_Pair ++ junk)) (e := 129) 2 rfl rfl hX.symm rfl (cut_suf hw3 hXm) (by kernel_rfl) (by kernel_rfl) a _ ha) ?_
  refine OW.op (v := .bool false) rfl rfl rfl rfl (fun a ha => ovl_run (tS := 120) (tR := 4) (e := 129) (sz := 2) hst 1 0 rfl rfl rfl rfl rfl rfl Try.func84 (by kernel_rfl) (by kernel_rfl) (by kernel_rfl) (by kernel_rfl) (by kernel_rfl) (by kernel_rfl) (by decide) hm0 (by omega) a ha) ?_
  refine pu 1 [(68, .bool true)] ?_
  refine nx ?_
  refine CW.cond_t rfl rfl (CW.seq (CW.tail 8 (by kernel_rfl) (by kernel_rfl) ?_))
  intro w3 hch
  have hst := hst.same hch
  refine OS.pure 4 [(69, .slice a0 (p0.length + p2.length) c0), (72, I (w64 ((k : Int) + (p2.length : Int))))] rfl (by kernel_rfl) ?_
  refine OS.op (v := .slice (shd a0 c0 (Int.toNat (w64 ((k : Int) + (p2.length : Int)))) 2) ((p0.map enc_api_Pair ++ junk).drop (k + p2.length)).length (c0 - Int.toNat (w64 ((k : Int) + (p2.length : Int))))) rfl rfl rfl rfl rfl (fun a ha => suf_run (xs := (p0.map enc_api_Pair ++ junk)) (e := 129) 2 rfl rfl hX.symm rfl (cut_suf hw3 hXm) (by kernel_rfl) (by kernel_rfl) a _ ha) ?_
  refine OS.pure 2 [(74, .slice a0 (p0.length + p2.length) c0), (75, I (k : Int))] rfl (by kernel_rfl) ?_
  refine OS.op (v := .slice (shd a0 c0 (Int.toNat (k : Int)) 2) ((p0.map enc_api_Pair ++ junk).drop k).length (c0 - Int.toNat (k : Int))) rfl rfl rfl rfl rfl (fun a ha => suf_run (xs := (p0.map enc_api_Pair ++ junk)) (e := 129) 2 rfl rfl hX.symm rfl (cut_suf rfl hXk) (by kernel_rfl) (by kernel_rfl) a _ ha) ?_
  refine OS.on ?_
  have hrd := (hst.rd 0 rfl (fit_len 2) [] rfl (hst.len 0 rfl).1)
  rw [← hX] at hrd
  refine OW.copyR (e := 129) hst 0 rfl (fit_len 2) (by decide) rfl rfl rfl rfl (cut_suf hw3 hXm) rfl rfl (by kernel_rfl) (by kernel_rfl) (hrd.part (cut_suf (k := k) rfl hXk)) (insOnes hk hjl (fun _ => rfl) (fun _ => rfl)) ?_
  intro w4 hst
  have hX1 : (over (p0.map enc_api_Pair ++ junk) (Int.toNat (w64 ((k : Int) + (p2.length : Int)))) ((p0.map enc_api_Pair ++ junk).drop k)).length = p0.length + p2.length := (over_len _ _ _ (by rw [hw3, Int.toNat_natCast]; exact hXm)).trans hX
  have hX1k : k ≤ (over (p0.map enc_api_Pair ++ junk) (Int.toNat (w64 ((k : Int) + (p2.length : Int)))) ((p0.map enc_api_Pair ++ junk).drop k)).length := by omega
  refine nx (rg ?_)
  refine pu 2 [(78, .slice a0 (p0.length + p2.length) c0), (79, I (k : Int))] ?_
  refine OW.op (v := .slice (shd a0 c0 (Int.toNat (k : Int)) 2) ((over (p0.map enc_api_Pair ++ junk) (Int.toNat (w64 ((k : Int) + (p2.length : Int)))) ((p0.map enc_api_Pair ++ junk).drop k)).drop k).length (c0 - Int.toNat (k : Int))) rfl rfl rfl rfl (fun a ha => suf_run (xs := (over (p0.map enc_api_Pair ++ junk) (Int.toNat (w64 ((k : Int) + (p2.length : Int)))) ((p0.map enc_api_Pair ++ junk).drop k))) (e := 129) 2 rfl rfl hX1.symm rfl (cut_suf rfl hX1k) (by kernel_rfl) (by kernel_rfl) a _ ha) ?_
  refine pu 1 [(81, .slice a2 p2.length c2)] ?_
  refine OW.copyR (e := 129) hst 0 rfl (fit_len 2) (by decide) rfl rfl rfl rfl (cut_suf (k := k) rfl hX1k) rfl rfl (by kernel_rfl) (by kernel_rfl) ((hst.rd 1 rfl (fun _ => rfl) [] rfl (hst.len 1 rfl).1).raw (fun _ => rfl)) (insOnes2 (fun _ => rfl) (fun _ => rfl)) ?_
  intro w5 hst
  refine nx (rg ?_)
  refine pu 2 [(6, .slice a0 (p0.length + p2.length) c0)] (nx (CW.ret (QW.then_ret ?_)))
  refine QW.ret1 rfl rfl ?_
  rw [hw3, Int.toNat_natCast, Int.toNat_natCast, insB hk hjl] at hst
  have hst := hst.typed 0 rfl (fun _ => rfl) rfl
  exact ⟨_, rfl, hst.keep [1, 0] rfl⟩
end Go.Proofs.Ytpchniebplpboaa

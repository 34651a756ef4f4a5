/- Written by a program (wip/gen): the walks: each Go function returns what its plain function computes. -/
import Derived.Test.YtpchniebplpboaaProg
import Derived.Test.YtpchniebplpboaaF1
import Derived.Test.YtpchniebplpboaaSq
import Derived.Test.YtpchniebplpboaaPart
import Derived.Test.YtpchniebplpboaaO1
import Derived.Test.YtpchniebplpboaaW1p5
set_option linter.unusedSimpArgs false
namespace Go.Proofs.Ytpchniebplpboaa
open Go.Sx
set_option linter.unusedVariables false
set_option maxRecDepth 10000
set_option maxHeartbeats 4000000
theorem audit_first_ok (w : World) (fu : Nat) (v0 : Value) (p0 : List api_Entry) (v1 : Value) (Sv1 : List Nat) (p1 : List I_audit_rule) (r : Int) (hF : audit_first fu p0 p1 = some r)
    (hst : St w (fp [nI 78 R_t78 v1 Sv1 p1 none]) w [nI 78 R_t78 v1 Sv1 p1 none]) (h0 : Rd w (fp [nI 78 R_t78 v1 Sv1 p1 none]) v0 enc_api_Entry 22 p0) :
    Calls Try.prog 19 [v0, v1].toArray w (fun e w' => e = .returned (I r) ∧ St w (fp [nI 78 R_t78 v1 Sv1 p1 none]) w' []) := by
 refine CW.start (N := 29) Try.func19 rfl rfl rfl ?_
 obtain ⟨l1, a2, c3, rfl⟩ := h0.len
 obtain ⟨l4, a5, c6, rfl⟩ := hst.nlen 0 rfl
 refine rg ?_
 refine pu 1 [] (nx (CW.seq (rg ?_)))
 refine pu 3 [(9, .slice a2 (p0).length c3), (10, I ((p0).length : Int)), (11, I 0)] (nx ?_)
 obtain ⟨o872, ho873, hF⟩ := bs hF
 refine CW.cutK (fun a w1 => ∃ (t874 : (List I_audit_rule)) (v870 : Value) (S871 : List Nat), o872 = .inl t874 ∧ Rep 29 [] a ∧ St w (fp [nI 78 R_t78 (.slice a5 (p1).length c6) Sv1 p1 none]) w1 [nI 78 R_t78 v870 S871 t874 none]) ?_ ?_
 ·refine CW.block ?_
  refine CW.loop (fun n a w1 => ∃ (i1453 : Nat) (s1450 : (List I_audit_rule)) (v1451 : Value) (S1452 : List Nat), i1453 + n = (p0).length ∧ Rep 29 [(1, v1451), (9, .slice a2 (p0).length c3), (10, I ((p0).length : Int)), (11, I (i1453 : Int))] a ∧ St w (fp [nI 78 R_t78 (.slice a5 (p1).length c6) Sv1 p1 none]) w1 [nI 78 R_t78 v1451 S1452 s1450 none] ∧ forN (audit_first_l1 fu p0) (fun (s1450 : (List I_audit_rule)) => (.inl s1450)) n i1453 s1450 = some o872) (p0).length (fun a ha => ⟨0, p1, (.slice a5 (p1).length c6), Sv1, Nat.zero_add _, ha.ag, hst.keep [0] rfl, ho873⟩) ?_
  rintro n1448 a w1 ⟨i1453, s1450, v1451, S1452, hi1454, ha, hst, hl1449⟩
  refine CW.go ?_ ha
  obtain ⟨l1455, a1456, c1457, rfl⟩ := hst.nlen 0 rfl
  refine rg ?_
  refine pu 1 [(12, .bool (decide ((i1453 : Int) < ((p0).length : Int))))] (nx (CW.seq ?_))
  rcases bft (decide ((i1453 : Int) < ((p0).length : Int))) with hc1458 | hc1458
  ·rcases n1448 with _ | n1448
   ·exact (cnt0 hi1454 hc1458).elim
   refine CW.cond_t rfl hc1458 (CW.skip (QW.next (CW.seq (CW.block (rg ?_)))))
   refine pu 1 [(13, I (i1453 : Int))] ?_
   obtain ⟨x1468, hx1469, hl1449⟩ := bs hl1449
   obtain ⟨g1471, o1472, c1473, hv1470⟩ := h0.formv (fun _ => ⟨_, rfl⟩) hx1469
   refine OW.idx 48 22 rfl rfl rfl rfl hv1470 rfl (idx_some hx1469).1 (idx_some hx1469).2.1 (by kernel_rfl) (by kernel_rfl) ?_
   refine OW.ldN (cs := enc_api_Entry x1468) rfl rfl rfl rfl (by kernel_rfl) (by kernel_rfl) (h0.cellv hst hx1469 hv1470) ?_
   refine OW.alloc hst rfl rfl rfl [I 0, I 0, I 0, I 0, I 0, I 0, I 0, I 0, I 0, I 0, I 0, I 0, U 0, U 0, I 0, .bool false, U 0, .bool false, U 0, U 0, U 0, I 0] (by kernel_rfl) ?_
   intro b1474 w1475 hst
   refine pu 1 [(5, I (i1453 : Int))] ?_
   refine OW.stB hst 1 rfl rfl rfl rfl rfl (by kernel_rfl) rfl rfl [I x1468.What, I x1468.Task, I x1468.From, I x1468.Cmd, I x1468.Tag, I x1468.Event, I x1468.Hook, I x1468.Prog, I x1468.Version, I x1468.Pc, I x1468.Item.Map, I x1468.Item.Op, U x1468.Item.Key, U x1468.Item.Val, I x1468.Res.E, .bool x1468.Res.Found, U x1468.Res.Val, .bool x1468.Res.Out, U x1468.Res.OutKey, U x1468.Res.OutVal, U x1468.Val, I x1468.E] rfl ?_
   intro w1476 hst
   refine nx (rg ?_)
   refine pu 3 [(16, .slice a1456 (s1450).length c1457), (17, I ((s1450).length : Int)), (18, I 0)] (nx ?_)
   obtain ⟨o1604, ho1605, hl1449⟩ := bs hl1449
   refine CW.cutQ (fun a w1 => ∃ (t1606 : (List I_audit_rule)) (v1602 : Value) (S1603 : List Nat), o1604 = .inl t1606 ∧ Rep 29 [(1, v1602), (9, .slice a2 (p0).length c3), (10, I ((p0).length : Int)), (11, I (i1453 : Int))] a ∧ St w (fp [nI 78 R_t78 (.slice a5 (p1).length c6) Sv1 p1 none]) w1 [nI 78 R_t78 v1602 S1603 t1606 none]) ?_ ?_
   ·refine CW.block ?_
    refine CW.loop (fun n a w1 => ∃ (i1693 : Nat) (s1690 : (List I_audit_rule)) (v1691 : Value) (S1692 : List Nat), i1693 + n = (s1450).length ∧ Rep 29 [(1, v1691), (5, I (i1453 : Int)), (6, Pt b1474), (9, .slice a2 (p0).length c3), (10, I ((p0).length : Int)), (11, I (i1453 : Int)), (16, v1691), (17, I ((s1450).length : Int)), (18, I (i1693 : Int))] a ∧ St w (fp [nI 78 R_t78 (.slice a5 (p1).length c6) Sv1 p1 none]) w1 [nI 78 R_t78 v1691 S1692 s1690 none, blkI b1474 48 [I x1468.What, I x1468.Task, I x1468.From, I x1468.Cmd, I x1468.Tag, I x1468.Event, I x1468.Hook, I x1468.Prog, I x1468.Version, I x1468.Pc, I x1468.Item.Map, I x1468.Item.Op, U x1468.Item.Key, U x1468.Item.Val, I x1468.Res.E, .bool x1468.Res.Found, U x1468.Res.Val, .bool x1468.Res.Out, U x1468.Res.OutKey, U x1468.Res.OutVal, U x1468.Val, I x1468.E]] ∧ forN (audit_first_l2 fu i1453 x1468) (fun (s1690 : (List I_audit_rule)) => (.inl s1690)) n i1693 s1690 = some o1604) (s1450).length (fun a ha => ⟨0, s1450, (.slice a1456 (s1450).length c1457), S1452, Nat.zero_add _, ha.ag, hst.keep [0, 1] rfl, ho1605⟩) ?_
    rintro n1688 a w1 ⟨i1693, s1690, v1691, S1692, hi1694, ha, hst, hl1689⟩
    refine CW.go ?_ ha
    obtain ⟨l1695, a1696, c1697, rfl⟩ := hst.nlen 0 rfl
    refine rg ?_
    refine pu 1 [(19, .bool (decide ((i1693 : Int) < ((s1450).length : Int))))] (nx (CW.seq ?_))
    rcases bft (decide ((i1693 : Int) < ((s1450).length : Int))) with hc1698 | hc1698
    ·rcases n1688 with _ | n1688
     ·exact (cnt0 hi1694 hc1698).elim
     refine CW.cond_t rfl hc1698 (CW.skip (QW.next (CW.seq (CW.block (rg ?_)))))
     obtain ⟨x1709, hx1710, hl1689⟩ := bs hl1689
     obtain ⟨g1712, o1713, c1714, hv1711⟩ := hst.nrowv 0 rfl hx1710
     refine OW.idx 78 1 rfl rfl rfl rfl hv1711 rfl (idx_some hx1710).1 (idx_some hx1710).2.1 (by kernel_rfl) (by kernel_rfl) ?_
     obtain ⟨v1715, S1716, S1717, hce1718, hst⟩ := hst.nout1 0 rfl rfl hx1710 hv1711
     refine OW.ld rfl rfl rfl rfl (by kernel_rfl) hce1718 ?_
     refine pu 1 [(8, v1715)] (nx (rg ?_))
     refine pu 1 [(22, v1715)] ?_
     refine OW.ldN (cs := [I x1468.What, I x1468.Task, I x1468.From, I x1468.Cmd, I x1468.Tag, I x1468.Event, I x1468.Hook, I x1468.Prog, I x1468.Version, I x1468.Pc, I x1468.Item.Map, I x1468.Item.Op, U x1468.Item.Key, U x1468.Item.Val, I x1468.Res.E, .bool x1468.Res.Found, U x1468.Res.Val, .bool x1468.Res.Out, U x1468.Res.OutKey, U x1468.Res.OutVal, U x1468.Val, I x1468.E]) rfl rfl rfl rfl (by kernel_rfl) (by kernel_rfl) (hst.blkN 1 rfl 0 22) ?_
     obtain ⟨r1724, hr1725, hl1689⟩ := bs hl1689
     refine OW.inv rfl rfl rfl rfl rfl (I_audit_rule_right_iv _ fu v1715 S1717 x1709 x1468 r1724 hr1725 (hst.part [2] rfl)) ?_
     rintro e w1726 ⟨S1728, rfl, hst1727⟩
     refine ⟨_, rfl, ?_⟩
     have hst := hst.join (idx := [2]) (rest := [0, 1]) rfl hst1727
     refine pu 1 [(25, .bool (!r1724.1))] (nx ?_)
     refine br ((!r1724.1)) hl1689 (fun hl1689 hc1729 => ?_) (fun hl1689 hc1729 => ?_)
     ·refine rg ?_
      refine pu 2 [(4, I (i1453 : Int))] (nx (CW.ret (QW.block_ret (QW.then_ret (QW.then_ret (QW.block_ret (QW.then_ret (QW.block_ret (QW.then_ret (QW.then_ret (QW.block_ret (QW.then_ret ?_))))))))))))
      obtain ⟨S1730, hst⟩ := hst.nback 1 0 rfl rfl rfl hx1710
      have hst := hst.keep [1, 2] rfl
      obtain rfl := inj hl1689
      obtain rfl := inj hl1449
      obtain rfl := inj hF
      refine QW.ret1 rfl rfl ?_
      exact ⟨rfl, hst.keep [] rfl⟩
     refine CW.skip (QW.block_normal (QW.next (CW.region ?_)))
     refine pu 2 [(18, I (w64 ((i1693 : Int) + 1)))] (OW.nil rfl ?_)
     obtain ⟨S1731, hst⟩ := hst.nback 1 0 rfl rfl rfl hx1710
     have hst := hst.keep [1, 2] rfl
     refine QW.say 18 rfl (congrArg (Value.int .i64) (w64_cnt hc1698 l1455)) ?_
     exact QW.meet (fun a ha => ⟨n1688, Nat.lt_succ_self _, i1693 + 1, (s1690.set (Int.toNat (i1693 : Int)) r1724.2), (.slice a1696 (s1690).length c1697), S1731, cnt_next hi1694, ha.ag, hst.keep [0, 1] rfl, hl1689⟩)
    rcases n1688 with _ | n1688
    ·refine CW.cond_f rfl hc1698 ?_
     refine CW.exit (QW.then_exit (QW.then_exit ?_))
     refine QW.block_here ?_
     obtain rfl := inj hl1689
     exact QW.meet (fun a ha => ⟨s1690, (.slice a1696 (s1690).length c1697), S1692, rfl, ha.ag, hst.keep [0] rfl⟩)
    exact (cnt1 hi1694 hc1698).elim
   rintro a w1 ⟨t1606, v1602, S1603, rfl, ha, hst⟩
   refine QW.go ?_ ha
   obtain ⟨l1735, a1736, c1737, rfl⟩ := hst.nlen 0 rfl
   refine QW.block_normal (QW.next (CW.region ?_))
   refine pu 2 [(11, I (w64 ((i1453 : Int) + 1)))] (OW.nil rfl ?_)
   refine QW.say 11 rfl (congrArg (Value.int .i64) (w64_cnt hc1458 l1)) ?_
   exact QW.meet (fun a ha => ⟨n1448, Nat.lt_succ_self _, i1453 + 1, t1606, (.slice a1736 (t1606).length c1737), S1603, cnt_next hi1454, ha.ag, hst.keep [0] rfl, hl1449⟩)
  rcases n1448 with _ | n1448
  ·refine CW.cond_f rfl hc1458 ?_
   refine CW.exit (QW.then_exit (QW.then_exit ?_))
   refine QW.block_here ?_
   obtain rfl := inj hl1449
   exact QW.meet (fun a ha => ⟨s1450, (.slice a1456 (s1450).length c1457), S1452, rfl, ha.ag, hst.keep [0] rfl⟩)
  exact (cnt1 hi1454 hc1458).elim
 rintro a w1 ⟨t874, v870, S871, rfl, ha, hst⟩
 refine CW.go ?_ ha
 obtain ⟨l1741, a1742, c1743, rfl⟩ := hst.nlen 0 rfl
 refine rg ?_
 refine pu 1 [(4, I (-1))] (nx (CW.ret ?_))
 obtain rfl := inj hF
 refine QW.ret1 rfl rfl ?_
 exact ⟨rfl, hst.keep [] rfl⟩
theorem audit_Maps_ok (w : World) (fu : Nat) (v0_0 : Value) (p0 : api_Config) (v1 : Value) (p1 : List api_Entry) (r : Int × Int) (hF : audit_Maps fu p0 p1 = some r)
    (hst : St w (fp []) w []) (h0_0 : Rd w (fp []) v0_0 enc_api_MapDef 2 p0.Maps) (h1 : Rd w (fp []) v1 enc_api_Entry 22 p1) :
    Calls Try.prog 7 [.agg [I p0.Workers, I p0.Shards, I p0.Hooks, I p0.Ring, v0_0].toArray, v1].toArray w (fun e w' => e = .returned (.tuple #[I r.1, I r.2]) ∧ St w (fp []) w' []) := by
 refine CW.start (N := 21) Try.func7 rfl rfl rfl ?_
 obtain ⟨l1, a2, c3, rfl⟩ := h0_0.len
 obtain ⟨l4, a5, c6, rfl⟩ := h1.len
 refine rg ?_
 refine OW.box hst rfl rfl rfl rfl [I p0.Workers, I p0.Shards, I p0.Hooks, I p0.Ring, .slice a2 (p0.Maps).length c3] rfl ?_
 intro b9 w10 hst
 refine pu 2 [] (nx (rg ?_))
 refine OW.ldN (cs := [I p0.Workers, I p0.Shards, I p0.Hooks, I p0.Ring, .slice a2 (p0.Maps).length c3]) rfl rfl rfl rfl (by kernel_rfl) (by kernel_rfl) (hst.blkN 0 rfl 0 5) ?_
 obtain ⟨r19, hr20, hF⟩ := bs hF
 refine OW.fn rfl rfl rfl rfl (by kernel_rfl) (audit_newMaps_ok _ fu (.slice a2 (p0.Maps).length c3) p0 r19 hr20 (hst.part [] rfl) (h0_0.give hst [])) ?_
 rintro e w21 ⟨v23, Sv23, rfl, hst22⟩
 refine ⟨_, rfl, ?_⟩
 have hst := hst.join (idx := []) (rest := [0]) rfl hst22
 obtain ⟨l24, a25, c26, rfl⟩ := hst.nlen 0 rfl
 refine pu 5 [(6, .slice a25 (r19.1).length c26), (7, I r19.2)] (nx (CW.seq (rg ?_)))
 refine pu 2 [(14, .bool (r19.2 != 0))] (nx ?_)
 refine br ((r19.2 != 0)) hF (fun hF hc27 => ?_) (fun hF hc27 => ?_)
 ·refine rg ?_
  refine pu 3 [(4, I 0), (5, I r19.2)] (nx (CW.ret (QW.then_ret ?_)))
  obtain rfl := inj hF
  refine QW.ret2 rfl rfl rfl ?_
  exact ⟨rfl, hst.keep [] rfl⟩
 refine CW.skip (QW.next (rg ?_))
 refine pu 2 [(16, .slice a5 (p1).length c6), (17, .slice a25 (r19.1).length c26)] ?_
 have hst := hst.ofN 0 rfl (by decide)
 have hst := hst.tag 51 0 rfl
 have hst := hst.ofL (sumP (tagP 63 R_t63) (sumP (tagP 67 R_t67) (sumP (tagP 69 R_t69) (tagP 71 R_t71) rfl rfl) rfl rfl) rfl rfl) rfl rfl 0 rfl
 refine OW.op (v := .iface 51 (.slice a25 (r19.1).length c26)) rfl rfl rfl rfl (fun a ha => mkif_run rfl rfl (by kernel_rfl) a _ ha) ?_
 refine OW.row (α := List Value) (e := 78) (enc := fit 1) (sz := 1) hst rfl rfl rfl [[.iface 51 (.slice a25 (r19.1).length c26)]] rfl (fun _ => fit_len _ _) rfl rfl (fun _ => by kernel_rfl) ?_
 intro g35 w36 hst
 have hst := hst.bchOne (R := R_t78) 0 rfl
 have hst := hst.keep [1, 0, 2] rfl
 have hst : St _ _ _ [_, bchI R_t78 [[.iface 51 (.slice a25 (r19.1).length c26)]] _ [(.inl r19.1)], _] := hst
 obtain ⟨S37, hst⟩ := hst.nOf 2 1 rfl rfl rfl rfl
 have hst := hst.keep [0, 2] rfl
 have hst : St _ _ _ [_, nI 78 R_t78 (.slice (some ⟨g35, 0, none⟩) 1 1) S37 ([(.inl r19.1)]) none] := hst
 obtain ⟨r38, hr39, hF⟩ := bs hF
 refine OW.fn rfl rfl rfl rfl (by kernel_rfl) (audit_first_ok _ fu (.slice a5 (p1).length c6) p1 (.slice (some ⟨g35, 0, none⟩) 1 1) S37 ([(.inl r19.1)]) r38 hr39 (hst.part [1] rfl) (h1.give hst [1])) ?_
 rintro e w40 ⟨rfl, hst41⟩
 refine ⟨_, rfl, ?_⟩
 have hst := hst.join (idx := [1]) (rest := [0]) rfl hst41
 refine pu 2 [(4, I r38), (5, I 0)] (nx (CW.ret ?_))
 obtain rfl := inj hF
 refine QW.ret2 rfl rfl rfl ?_
 exact ⟨rfl, hst.keep [] rfl⟩
theorem audit_newCalls_ok (w : World)  (r : audit_calls) (hF : audit_newCalls  = some r)
    (hst : St w (fp []) w []) :
    Calls Try.prog 22 [].toArray w (fun e w' => ∃ (y0 : Value) (z0 : List Nat), e = .returned (y0) ∧ St w (fp []) w' [itI R_t63 [y0] z0 r]) := by
 refine CW.start (N := 6) Try.func22 rfl rfl rfl (rg ?_)
 refine pu 1 [] (nx (rg ?_))
 refine OW.mnew (Value.int .i64) hst rfl rfl rfl ?_
 intro r9 w10 hst
 refine OW.mnew (Value.int .i64) hst rfl rfl rfl ?_
 intro r11 w12 hst
 refine OW.mnewN R_t154 hst rfl rfl rfl ?_
 intro r13 w14 hst
 refine pu 1 [(4, .agg [.map (some r9), .map (some r11), .map (some r13)].toArray)] ?_
 refine OW.box hst rfl rfl rfl rfl [.map (some r9), .map (some r11), .map (some r13)] rfl ?_
 intro b15 w16 hst
 refine pu 1 [(0, Pt b15)] (nx (CW.ret ?_))
 have hst := hst.ofMF 0 rfl
 have hst := hst.ofMF 1 rfl
 have hst := hst.ofMN 2 rfl
 obtain ⟨S17, hst⟩ := hst.shutP3 R_t90 rfl 3 0 1 2 [] rfl rfl rfl rfl rfl (audit_calls.mk ([] : List (Int × Int)) ([] : List (Int × Int)) ([] : List (Int × audit_ask))) rfl rfl
 obtain rfl := inj hF
 refine QW.ret1 rfl rfl ?_
 exact ⟨(Pt b15), S17, rfl, hst.keep [0] rfl⟩
theorem audit_newRuns_ok (w : World)  (r : audit_runs) (hF : audit_newRuns  = some r)
    (hst : St w (fp []) w []) :
    Calls Try.prog 26 [].toArray w (fun e w' => ∃ (y0 : Value) (z0 : List Nat), e = .returned (y0) ∧ St w (fp []) w' [itI R_t69 [y0] z0 r]) := by
 refine CW.start (N := 5) Try.func26 rfl rfl rfl (rg ?_)
 refine pu 1 [] (nx (rg ?_))
 refine OW.mnew (fun x => .agg (enc_api_Entry x).toArray) hst rfl rfl rfl ?_
 intro r7 w8 hst
 refine OW.mnew (fun x => .agg (enc_api_Entry x).toArray) hst rfl rfl rfl ?_
 intro r9 w10 hst
 refine pu 1 [(3, .agg [.map (some r7), .map (some r9), I 0].toArray)] ?_
 refine OW.box hst rfl rfl rfl rfl [.map (some r7), .map (some r9), I 0] rfl ?_
 intro b11 w12 hst
 refine pu 1 [(0, Pt b11)] (nx (CW.ret ?_))
 have hst := hst.ofMF 0 rfl
 have hst := hst.ofMF 1 rfl
 obtain ⟨S13, hst⟩ := hst.shutP2 R_t96 rfl 2 0 1 [] rfl rfl rfl rfl (audit_runs.mk ([] : List (Int × api_Entry)) ([] : List (Int × api_Entry)) 0) rfl rfl
 obtain rfl := inj hF
 refine QW.ret1 rfl rfl ?_
 exact ⟨(Pt b11), S13, rfl, hst.keep [0] rfl⟩
theorem audit_newGrace_ok (w : World)  (r : audit_grace) (hF : audit_newGrace  = some r)
    (hst : St w (fp []) w []) :
    Calls Try.prog 27 [].toArray w (fun e w' => ∃ (y0 : Value) (z0 : List Nat), e = .returned (y0) ∧ St w (fp []) w' [itI R_t71 [y0] z0 r]) := by
 refine CW.start (N := 4) Try.func27 rfl rfl rfl (rg ?_)
 refine pu 1 [] (nx (rg ?_))
 refine OW.mnew (Value.int .i64) hst rfl rfl rfl ?_
 intro r5 w6 hst
 refine pu 1 [(2, .agg [.slice none 0 0, .slice none 0 0, .map (some r5)].toArray)] ?_
 refine OW.box hst rfl rfl rfl rfl [.slice none 0 0, .slice none 0 0, .map (some r5)] rfl ?_
 intro b7 w8 hst
 refine pu 1 [(0, Pt b7)] (nx (CW.ret ?_))
 have hst := hst.nilRow Int 3 (encInt .i64) 1
 have hst := hst.nilRow Int 3 (encInt .i64) 1
 have hst := hst.toIt 2 rfl (fun _ => rfl) (by decide)
 have hst := hst.toIt 3 rfl (fun _ => rfl) (by decide)
 have hst := hst.ofMF 0 rfl
 obtain ⟨S9, hst⟩ := hst.shutP3 R_t98 rfl 1 2 3 0 [] rfl rfl rfl rfl rfl (audit_grace.mk ([] : List Int) ([] : List Int) ([] : List (Int × Int))) rfl rfl
 obtain rfl := inj hF
 refine QW.ret1 rfl rfl ?_
 exact ⟨(Pt b7), S9, rfl, hst.keep [0] rfl⟩
theorem audit_newEvents_ok (w : World) (p0 : Int) (r : audit_events) (hF : audit_newEvents p0 = some r)
    (hst : St w (fp []) w []) :
    Calls Try.prog 25 [I p0].toArray w (fun e w' => ∃ (y0 : Value) (z0 : List Nat), e = .returned (y0) ∧ St w (fp []) w' [itI R_t67 [y0] z0 r]) := by
 refine CW.start (N := 7) Try.func25 rfl rfl rfl (rg ?_)
 refine pu 1 [] (nx (rg ?_))
 refine pu 1 [(3, I p0)] ?_
 refine OW.mnewN R_t39 hst rfl rfl rfl ?_
 intro r5 w6 hst
 refine pu 1 [(5, .agg [I p0, I 0, .map (some r5)].toArray)] ?_
 refine OW.box hst rfl rfl rfl rfl [I p0, I 0, .map (some r5)] rfl ?_
 intro b7 w8 hst
 refine pu 1 [(2, Pt b7)] (nx (CW.ret ?_))
 have hst := hst.ofMN 0 rfl
 obtain ⟨S9, hst⟩ := hst.shutP1 R_t93 rfl 1 0 [] rfl rfl rfl (audit_events.mk p0 0 ([] : List (Int × (List Int)))) rfl rfl
 obtain rfl := inj hF
 refine QW.ret1 rfl rfl ?_
 exact ⟨(Pt b7), S9, rfl, hst.keep [0] rfl⟩
theorem audit_All_ok (w : World) (fu : Nat) (v0_0 : Value) (p0 : api_Config) (v1 : Value) (p1 : List api_Entry) (r : Int × Int) (hF : audit_All fu p0 p1 = some r)
    (hst : St w (fp []) w []) (h0_0 : Rd w (fp []) v0_0 enc_api_MapDef 2 p0.Maps) (h1 : Rd w (fp []) v1 enc_api_Entry 22 p1) :
    Calls Try.prog 14 [.agg [I p0.Workers, I p0.Shards, I p0.Hooks, I p0.Ring, v0_0].toArray, v1].toArray w (fun e w' => e = .returned (.tuple #[I r.1, I r.2]) ∧ St w (fp []) w' []) := by
 refine CW.start (N := 31) Try.func14 rfl rfl rfl ?_
 obtain ⟨l1, a2, c3, rfl⟩ := h0_0.len
 obtain ⟨l4, a5, c6, rfl⟩ := h1.len
 refine rg ?_
 refine OW.box hst rfl rfl rfl rfl [I p0.Workers, I p0.Shards, I p0.Hooks, I p0.Ring, .slice a2 (p0.Maps).length c3] rfl ?_
 intro b9 w10 hst
 refine pu 2 [] (nx (rg ?_))
 refine OW.ldN (cs := [I p0.Workers, I p0.Shards, I p0.Hooks, I p0.Ring, .slice a2 (p0.Maps).length c3]) rfl rfl rfl rfl (by kernel_rfl) (by kernel_rfl) (hst.blkN 0 rfl 0 5) ?_
 obtain ⟨r19, hr20, hF⟩ := bs hF
 refine OW.fn rfl rfl rfl rfl (by kernel_rfl) (audit_newMaps_ok _ fu (.slice a2 (p0.Maps).length c3) p0 r19 hr20 (hst.part [] rfl) (h0_0.give hst [])) ?_
 rintro e w21 ⟨v23, Sv23, rfl, hst22⟩
 refine ⟨_, rfl, ?_⟩
 have hst := hst.join (idx := []) (rest := [0]) rfl hst22
 obtain ⟨l24, a25, c26, rfl⟩ := hst.nlen 0 rfl
 refine pu 5 [(6, .slice a25 (r19.1).length c26), (7, I r19.2)] (nx (CW.seq (rg ?_)))
 refine pu 2 [(14, .bool (r19.2 != 0))] (nx ?_)
 refine br ((r19.2 != 0)) hF (fun hF hc27 => ?_) (fun hF hc27 => ?_)
 ·refine rg ?_
  refine pu 3 [(4, I 0), (5, I r19.2)] (nx (CW.ret (QW.then_ret ?_)))
  obtain rfl := inj hF
  refine QW.ret2 rfl rfl rfl ?_
  exact ⟨rfl, hst.keep [] rfl⟩
 refine CW.skip (QW.next (CW.seq ?_))
 refine CW.plan (by kernel_rfl) ?_
 intro w67 hch68
 have hst := hst.same hch68
 refine OA.pure [0, 1] [(16, .slice a5 (p1).length c6), (17, .slice a25 (r19.1).length c26)] (by kernel_rfl) ?_
 have hst := hst.ofN 0 rfl (by decide)
 have hst := hst.tag 51 0 rfl
 have hst := hst.ofL (sumP (tagP 63 R_t63) (sumP (tagP 67 R_t67) (sumP (tagP 69 R_t69) (tagP 71 R_t71) rfl rfl) rfl rfl) rfl rfl) rfl rfl 0 rfl
 refine OA.val (i := 2) (v := .iface 51 (.slice a25 (r19.1).length c26)) rfl (by kernel_rfl) rfl rfl rfl rfl (fun a w ha => mkif_run rfl rfl (by kernel_rfl) a w ha) ?_
 refine OA.pure [9] [(25, .pointer (some ⟨b9, 3, none⟩))] (by kernel_rfl) ?_
 refine OA.ld (i := 10) rfl (by kernel_rfl) rfl rfl rfl (by kernel_rfl) (hst.blk 1 rfl rfl) ?_
 refine OA.act (i := 3) [10] (by kernel_rfl) rfl rfl (by kernel_rfl) (by kernel_rfl) ?_
 obtain ⟨r69, hr70, hF⟩ := bs hF
 refine OW.fn rfl rfl rfl rfl (by kernel_rfl) (audit_newCalls_ok _ r69 hr70 (hst.part [] rfl)) ?_
 rintro e w71 ⟨v73, S74, rfl, hst72⟩
 refine ⟨_, rfl, ?_⟩
 have hst := hst.join (idx := []) (rest := [0, 1]) rfl hst72
 obtain ⟨b75, rfl⟩ := hst.fptr 0 rfl
 refine OA.next ⟨(hst.blk 2 rfl rfl), trivial⟩ ?_
 have hst := hst.tag 63 0 rfl
 have hst := hst.ofL (sumP (tagP 67 R_t67) (sumP (tagP 69 R_t69) (tagP 71 R_t71) rfl rfl) rfl rfl) rfl rfl 0 rfl
 have hst := hst.ofR (tagP 51 R_t51) rfl rfl 0 rfl
 refine OA.val (i := 4) (v := .iface 63 (Pt b75)) rfl (by kernel_rfl) rfl rfl rfl rfl (fun a w ha => mkif_run rfl rfl (by kernel_rfl) a w ha) ?_
 refine OA.act (i := 5) [10] (by kernel_rfl) rfl rfl (by kernel_rfl) (by kernel_rfl) ?_
 obtain ⟨r76, hr77, hF⟩ := bs hF
 refine OW.fn rfl rfl rfl rfl (by kernel_rfl) (audit_newRuns_ok _ r76 hr77 (hst.part [] rfl)) ?_
 rintro e w78 ⟨v80, S81, rfl, hst79⟩
 refine ⟨_, rfl, ?_⟩
 have hst := hst.join (idx := []) (rest := [0, 1, 2]) rfl hst79
 obtain ⟨b82, rfl⟩ := hst.fptr 0 rfl
 refine OA.next ⟨(hst.blk 3 rfl rfl), trivial⟩ ?_
 have hst := hst.tag 69 0 rfl
 have hst := hst.ofL (tagP 71 R_t71) rfl rfl 0 rfl
 have hst := hst.ofR (tagP 67 R_t67) rfl rfl 0 rfl
 have hst := hst.ofR (tagP 63 R_t63) rfl rfl 0 rfl
 have hst := hst.ofR (tagP 51 R_t51) rfl rfl 0 rfl
 refine OA.val (i := 6) (v := .iface 69 (Pt b82)) rfl (by kernel_rfl) rfl rfl rfl rfl (fun a w ha => mkif_run rfl rfl (by kernel_rfl) a w ha) ?_
 refine OA.act (i := 7) [10] (by kernel_rfl) rfl rfl (by kernel_rfl) (by kernel_rfl) ?_
 obtain ⟨r83, hr84, hF⟩ := bs hF
 refine OW.fn rfl rfl rfl rfl (by kernel_rfl) (audit_newGrace_ok _ r83 hr84 (hst.part [] rfl)) ?_
 rintro e w85 ⟨v87, S88, rfl, hst86⟩
 refine ⟨_, rfl, ?_⟩
 have hst := hst.join (idx := []) (rest := [0, 1, 2, 3]) rfl hst86
 obtain ⟨b89, rfl⟩ := hst.fptr 0 rfl
 refine OA.next ⟨(hst.blk 4 rfl rfl), trivial⟩ ?_
 have hst := hst.tag 71 0 rfl
 have hst := hst.ofR (tagP 69 R_t69) rfl rfl 0 rfl
 have hst := hst.ofR (tagP 67 R_t67) rfl rfl 0 rfl
 have hst := hst.ofR (tagP 63 R_t63) rfl rfl 0 rfl
 have hst := hst.ofR (tagP 51 R_t51) rfl rfl 0 rfl
 refine OA.val (i := 8) (v := .iface 71 (Pt b89)) rfl (by kernel_rfl) rfl rfl rfl rfl (fun a w ha => mkif_run rfl rfl (by kernel_rfl) a w ha) ?_
 refine OA.act (i := 11) [] (by kernel_rfl) rfl rfl (by kernel_rfl) (by kernel_rfl) ?_
 obtain ⟨r90, hr91, hF⟩ := bs hF
 refine OW.fn rfl rfl rfl rfl (by kernel_rfl) (audit_newEvents_ok _ p0.Ring r90 hr91 (hst.part [] rfl)) ?_
 rintro e w92 ⟨v94, S95, rfl, hst93⟩
 refine ⟨_, rfl, ?_⟩
 have hst := hst.join (idx := []) (rest := [0, 1, 2, 3, 4]) rfl hst93
 obtain ⟨b96, rfl⟩ := hst.fptr 0 rfl
 refine OA.next trivial ?_
 have hst := hst.tag 67 0 rfl
 have hst := hst.ofL (sumP (tagP 69 R_t69) (tagP 71 R_t71) rfl rfl) rfl rfl 0 rfl
 have hst := hst.ofR (tagP 63 R_t63) rfl rfl 0 rfl
 have hst := hst.ofR (tagP 51 R_t51) rfl rfl 0 rfl
 refine OA.val (i := 12) (v := .iface 67 (Pt b96)) rfl (by kernel_rfl) rfl rfl rfl rfl (fun a w ha => mkif_run rfl rfl (by kernel_rfl) a w ha) ?_
 refine OA.act (i := 13) [] (by kernel_rfl) rfl rfl (by kernel_rfl) (by kernel_rfl) ?_
 refine OW.row (α := List Value) (e := 78) (enc := fit 1) (sz := 1) hst rfl rfl rfl [[.iface 51 (.slice a25 (r19.1).length c26)], [.iface 63 (Pt b75)], [.iface 69 (Pt b82)], [.iface 71 (Pt b89)], [.iface 67 (Pt b96)]] rfl (fun _ => fit_len _ _) rfl rfl (fun _ => by kernel_rfl) ?_
 intro g97 w98 hst
 have hst := hst.bchOne (R := R_t78) 4 rfl
 have hst := hst.bchOne (R := R_t78) 3 rfl
 have hst := hst.bchOne (R := R_t78) 2 rfl
 have hst := hst.bchOne (R := R_t78) 1 rfl
 have hst := hst.bchOne (R := R_t78) 0 rfl
 have hst := hst.bchApp 4 3 rfl rfl rfl
 have hst := hst.bchApp 4 2 rfl rfl rfl
 have hst := hst.bchApp 4 1 rfl rfl rfl
 have hst := hst.bchApp 4 0 rfl rfl rfl
 have hst := hst.keep [5, 4, 6] rfl
 have hst : St _ _ _ [_, bchI R_t78 [[.iface 51 (.slice a25 (r19.1).length c26)], [.iface 63 (Pt b75)], [.iface 69 (Pt b82)], [.iface 71 (Pt b89)], [.iface 67 (Pt b96)]] _ [(.inl r19.1), (.inr (.inl r69)), (.inr (.inr (.inr (.inl r76)))), (.inr (.inr (.inr (.inr r83)))), (.inr (.inr (.inl r90)))], _] := hst
 obtain ⟨S99, hst⟩ := hst.nOf 2 1 rfl rfl rfl rfl
 have hst := hst.keep [0, 2] rfl
 have hst : St _ _ _ [_, nI 78 R_t78 (.slice (some ⟨g97, 0, none⟩) 5 5) S99 ([(.inl r19.1), (.inr (.inl r69)), (.inr (.inr (.inr (.inl r76)))), (.inr (.inr (.inr (.inr r83)))), (.inr (.inr (.inl r90)))]) none] := hst
 refine OA.next trivial ?_
 refine OA.act (i := 14) [] (by kernel_rfl) rfl rfl (by kernel_rfl) (by kernel_rfl) ?_
 obtain ⟨r100, hr101, hF⟩ := bs hF
 refine OW.fn rfl rfl rfl rfl (by kernel_rfl) (audit_first_ok _ fu (.slice a5 (p1).length c6) p1 (.slice (some ⟨g97, 0, none⟩) 5 5) S99 ([(.inl r19.1), (.inr (.inl r69)), (.inr (.inr (.inr (.inl r76)))), (.inr (.inr (.inr (.inr r83)))), (.inr (.inr (.inl r90)))]) r100 hr101 (hst.part [1] rfl) (h1.give hst [1])) ?_
 rintro e w102 ⟨rfl, hst103⟩
 refine ⟨_, rfl, ?_⟩
 have hst := hst.join (idx := [1]) (rest := [0]) rfl hst103
 refine OA.next trivial ?_
 refine OA.act (i := 15) [] (by kernel_rfl) rfl rfl (by kernel_rfl) (by kernel_rfl) ?_
 refine pu 1 [(4, I r100)] (OA.next trivial ?_)
 refine OA.act (i := 16) [] (by kernel_rfl) rfl rfl (by kernel_rfl) (by kernel_rfl) ?_
 refine pu 1 [(5, I 0)] (OA.next trivial ?_)
 refine OA.fin (by kernel_rfl) (by kernel_rfl) (QW.next (CW.ret ?_))
 obtain rfl := inj hF
 refine QW.ret2 rfl rfl rfl ?_
 exact ⟨rfl, hst.keep [] rfl⟩
theorem audit_Calls_ok (w : World) (fu : Nat) (v0 : Value) (p0 : List api_Entry) (r : Int) (hF : audit_Calls fu p0 = some r)
    (hst : St w (fp []) w []) (h0 : Rd w (fp []) v0 enc_api_Entry 22 p0) :
    Calls Try.prog 10 [v0].toArray w (fun e w' => e = .returned (I r) ∧ St w (fp []) w' []) := by
 refine CW.start (N := 8) Try.func10 rfl rfl rfl ?_
 obtain ⟨l1, a2, c3, rfl⟩ := h0.len
 refine rg ?_
 refine pu 1 [] (nx (rg ?_))
 refine pu 1 [(3, .slice a2 (p0).length c3)] ?_
 obtain ⟨r18, hr19, hF⟩ := bs hF
 refine OW.fn rfl rfl rfl rfl (by kernel_rfl) (audit_newCalls_ok _ r18 hr19 (hst.part [] rfl)) ?_
 rintro e w20 ⟨v22, S23, rfl, hst21⟩
 refine ⟨_, rfl, ?_⟩
 have hst := hst.join (idx := []) (rest := []) rfl hst21
 obtain ⟨b24, rfl⟩ := hst.fptr 0 rfl
 have hst := hst.tag 63 0 rfl
 have hst := hst.ofL (sumP (tagP 67 R_t67) (sumP (tagP 69 R_t69) (tagP 71 R_t71) rfl rfl) rfl rfl) rfl rfl 0 rfl
 have hst := hst.ofR (tagP 51 R_t51) rfl rfl 0 rfl
 refine OW.op (v := .iface 63 (Pt b24)) rfl rfl rfl rfl (fun a ha => mkif_run rfl rfl (by kernel_rfl) a _ ha) ?_
 refine OW.row (α := List Value) (e := 78) (enc := fit 1) (sz := 1) hst rfl rfl rfl [[.iface 63 (Pt b24)]] rfl (fun _ => fit_len _ _) rfl rfl (fun _ => by kernel_rfl) ?_
 intro g25 w26 hst
 have hst := hst.bchOne (R := R_t78) 0 rfl
 have hst := hst.keep [0, 1] rfl
 have hst : St _ _ _ [bchI R_t78 [[.iface 63 (Pt b24)]] _ [(.inr (.inl r18))], _] := hst
 obtain ⟨S27, hst⟩ := hst.nOf 1 0 rfl rfl rfl rfl
 have hst := hst.keep [1] rfl
 have hst : St _ _ _ [nI 78 R_t78 (.slice (some ⟨g25, 0, none⟩) 1 1) S27 ([(.inr (.inl r18))]) none] := hst
 obtain ⟨r28, hr29, hF⟩ := bs hF
 refine OW.fn rfl rfl rfl rfl (by kernel_rfl) (audit_first_ok _ fu (.slice a2 (p0).length c3) p0 (.slice (some ⟨g25, 0, none⟩) 1 1) S27 ([(.inr (.inl r18))]) r28 hr29 (hst.part [0] rfl) (h0.give hst [0])) ?_
 rintro e w30 ⟨rfl, hst31⟩
 refine ⟨_, rfl, ?_⟩
 have hst := hst.join (idx := [0]) (rest := []) rfl hst31
 refine pu 1 [(2, I r28)] (nx (CW.ret ?_))
 obtain rfl := inj hF
 refine QW.ret1 rfl rfl ?_
 exact ⟨rfl, hst.keep [] rfl⟩
theorem tappetlaw27_awake_ok (w : World) (fu : Nat)  (r : Bool) (hF : tappetlaw27_awake fu = some r)
    (hst : St w (fp []) w []) :
    Calls Try.prog 6 [].toArray w (fun e w' => e = .returned (.bool r) ∧ St w (fp []) w' []) := by
 refine CW.start (N := 45) Try.func6 rfl rfl rfl (rg ?_)
 refine pu 1 [] (nx (rg ?_))
 refine pu 2 [(7, .agg [I 3, I 2, I 0, I 0, I 0, I 0, I 0, I 0, I 0, I 0, I 0, I 2, U 3, U 9, I 0, .bool false, U 0, .bool false, U 0, U 0, U 0, I 0].toArray)] ?_
 refine OW.alloc hst rfl rfl rfl [I 0, I 0, I 0, I 0, I 0, I 0, I 0, I 0, I 0, I 0, I 0, I 0, U 0, U 0, I 0, .bool false, U 0, .bool false, U 0, U 0, U 0, I 0] (by kernel_rfl) ?_
 intro b4 w5 hst
 refine OW.stB hst 0 rfl rfl rfl rfl rfl (by kernel_rfl) rfl rfl [I 3, I 2, I 0, I 0, I 0, I 0, I 0, I 0, I 0, I 0, I 0, I 2, U 3, U 9, I 0, .bool false, U 0, .bool false, U 0, U 0, U 0, I 0] rfl ?_
 intro w6 hst
 refine nx (CW.seq ?_)
 obtain ⟨o77, ho78, hF⟩ := bs hF
 refine CW.cutK (fun a w1 => Rep 45 [(1, Pt b4), (2, I o77.1), (3, I o77.2)] a ∧ St w (fp []) w1 [blkI b4 48 [I 3, I 2, I 0, I 0, I 0, I 0, I 0, I 0, I 0, I 0, I 0, I 2, U 3, U 9, I 0, .bool false, U 0, .bool false, U 0, U 0, U 0, I 0]]) ?_ ?_
 ·refine CW.plan (by kernel_rfl) ?_
  intro w79 hch80
  have hst := hst.same hch80
  refine OA.ldN (i := 1) (cs := [I 3, I 2, I 0, I 0, I 0, I 0, I 0, I 0, I 0, I 0, I 0, I 2, U 3, U 9, I 0, .bool false, U 0, .bool false, U 0, U 0, U 0, I 0]) rfl (by kernel_rfl) rfl rfl rfl (by kernel_rfl) (by kernel_rfl) (hst.blkN 0 rfl 0 22) ?_
  refine OA.ldN (i := 2) (cs := [I 3, I 2, I 0, I 0, I 0, I 0, I 0, I 0, I 0, I 0, I 0, I 2, U 3, U 9, I 0, .bool false, U 0, .bool false, U 0, U 0, U 0, I 0]) rfl (by kernel_rfl) rfl rfl rfl (by kernel_rfl) (by kernel_rfl) (hst.blkN 0 rfl 0 22) ?_
  refine OA.acts [0, 3] 0 (by kernel_rfl) (by kernel_rfl) (by kernel_rfl) (alts_cons ?_ (alts_cons ?_ alts_nil))
  ·refine Alt.of (i := 0) [2, 1] rfl rfl (by kernel_rfl) (by kernel_rfl) ?_
   obtain ⟨r81, hr82, ho78⟩ := bs ho78
   refine OW.fn rfl rfl rfl rfl (by kernel_rfl) (tappetlaw27_one_ok _ r81 hr82 (hst.part [] rfl)) ?_
   rintro e w83 ⟨v85, rfl, hst84⟩
   refine ⟨_, rfl, ?_⟩
   have hst := hst.join (idx := []) (rest := [0]) rfl hst84
   obtain ⟨l105, a106, c107, rfl⟩ := hst.len 0 rfl
   refine OA.next ⟨(hst.blkN 1 rfl 0 22), (hst.blkN 1 rfl 0 22), trivial⟩ ?_
   refine OA.act (i := 3) [] (by kernel_rfl) rfl rfl (by kernel_rfl) (by kernel_rfl) ?_
   refine OW.row (α := api_Entry) (e := 48) (enc := enc_api_Entry) (sz := 22) hst rfl rfl rfl [(api_Entry.mk 3 2 0 0 0 0 0 0 0 0 (api_Item.mk 0 2 3 9) (api_Res.mk 0 false 0 false 0 0) 0 0), (api_Entry.mk 3 2 0 0 0 0 0 0 0 0 (api_Item.mk 0 2 3 9) (api_Res.mk 0 false 0 false 0 0) 0 0)] rfl (fun _ => rfl) rfl rfl (fun _ => by kernel_rfl) ?_
   intro g108 w109 hst
   refine OA.next trivial ?_
   refine OA.act (i := 4) [] (by kernel_rfl) rfl rfl (by kernel_rfl) (by kernel_rfl) ?_
   obtain ⟨r110, hr111, ho78⟩ := bs ho78
   refine OW.fn rfl rfl rfl rfl (by kernel_rfl) (audit_Maps_ok _ fu (.slice a106 (r81.Maps).length c107) r81 (.slice (some ⟨g108, 0, none⟩) 2 2) ([(api_Entry.mk 3 2 0 0 0 0 0 0 0 0 (api_Item.mk 0 2 3 9) (api_Res.mk 0 false 0 false 0 0) 0 0), (api_Entry.mk 3 2 0 0 0 0 0 0 0 0 (api_Item.mk 0 2 3 9) (api_Res.mk 0 false 0 false 0 0) 0 0)]) r110 hr111 (hst.part [] rfl) (hst.rd 0 rfl (fun _ => rfl) [] rfl (hst.len 0 rfl).1) (hst.rd 2 rfl (fun _ => rfl) [] rfl (hst.len 2 rfl).1)) ?_
   rintro e w112 ⟨rfl, hst113⟩
   refine ⟨_, rfl, ?_⟩
   have hst := hst.join (idx := []) (rest := [0, 1, 2]) rfl hst113
   refine OA.next trivial ?_
   refine OA.pure [5, 6, 7] [(14, I r110.1), (15, I r110.2)] (by kernel_rfl) ?_
   refine OA.act (i := 8) [] (by kernel_rfl) rfl rfl (by kernel_rfl) (by kernel_rfl) ?_
   refine pu 1 [(2, I r110.1)] (OA.next trivial ?_)
   refine OA.act (i := 9) [] (by kernel_rfl) rfl rfl (by kernel_rfl) (by kernel_rfl) ?_
   refine pu 1 [(3, I r110.2)] (OA.next trivial ?_)
   refine OA.fin (by kernel_rfl) (by kernel_rfl) ?_
   obtain rfl := inj ho78
   exact QW.meet (fun a ha => ⟨ha.ag, hst.keep [1] rfl⟩)
  refine Alt.of (i := 3) [] rfl rfl (by kernel_rfl) (by kernel_rfl) ?_
  refine OW.row (α := api_Entry) (e := 48) (enc := enc_api_Entry) (sz := 22) hst rfl rfl rfl [(api_Entry.mk 3 2 0 0 0 0 0 0 0 0 (api_Item.mk 0 2 3 9) (api_Res.mk 0 false 0 false 0 0) 0 0), (api_Entry.mk 3 2 0 0 0 0 0 0 0 0 (api_Item.mk 0 2 3 9) (api_Res.mk 0 false 0 false 0 0) 0 0)] rfl (fun _ => rfl) rfl rfl (fun _ => by kernel_rfl) ?_
  intro g114 w115 hst
  refine OA.next trivial ?_
  refine OA.act (i := 0) [] (by kernel_rfl) rfl rfl (by kernel_rfl) (by kernel_rfl) ?_
  obtain ⟨r116, hr117, ho78⟩ := bs ho78
  refine OW.fn rfl rfl rfl rfl (by kernel_rfl) (tappetlaw27_one_ok _ r116 hr117 (hst.part [] rfl)) ?_
  rintro e w118 ⟨v120, rfl, hst119⟩
  refine ⟨_, rfl, ?_⟩
  have hst := hst.join (idx := []) (rest := [0, 1]) rfl hst119
  obtain ⟨l140, a141, c142, rfl⟩ := hst.len 0 rfl
  refine OA.next trivial ?_
  refine OA.act (i := 4) [] (by kernel_rfl) rfl rfl (by kernel_rfl) (by kernel_rfl) ?_
  obtain ⟨r143, hr144, ho78⟩ := bs ho78
  refine OW.fn rfl rfl rfl rfl (by kernel_rfl) (audit_Maps_ok _ fu (.slice a141 (r116.Maps).length c142) r116 (.slice (some ⟨g114, 0, none⟩) 2 2) ([(api_Entry.mk 3 2 0 0 0 0 0 0 0 0 (api_Item.mk 0 2 3 9) (api_Res.mk 0 false 0 false 0 0) 0 0), (api_Entry.mk 3 2 0 0 0 0 0 0 0 0 (api_Item.mk 0 2 3 9) (api_Res.mk 0 false 0 false 0 0) 0 0)]) r143 hr144 (hst.part [] rfl) (hst.rd 0 rfl (fun _ => rfl) [] rfl (hst.len 0 rfl).1) (hst.rd 2 rfl (fun _ => rfl) [] rfl (hst.len 2 rfl).1)) ?_
  rintro e w145 ⟨rfl, hst146⟩
  refine ⟨_, rfl, ?_⟩
  have hst := hst.join (idx := []) (rest := [0, 1, 2]) rfl hst146
  refine OA.next trivial ?_
  refine OA.pure [5, 6, 7] [(14, I r143.1), (15, I r143.2)] (by kernel_rfl) ?_
  refine OA.act (i := 8) [] (by kernel_rfl) rfl rfl (by kernel_rfl) (by kernel_rfl) ?_
  refine pu 1 [(2, I r143.1)] (OA.next trivial ?_)
  refine OA.act (i := 9) [] (by kernel_rfl) rfl rfl (by kernel_rfl) (by kernel_rfl) ?_
  refine pu 1 [(3, I r143.2)] (OA.next trivial ?_)
  refine OA.fin (by kernel_rfl) (by kernel_rfl) ?_
  obtain rfl := inj ho78
  exact QW.meet (fun a ha => ⟨ha.ag, hst.keep [1] rfl⟩)
 rintro a w1 ⟨ha, hst⟩
 refine CW.go ?_ ha
 refine CW.seq ?_
 obtain ⟨o217, ho218, hF⟩ := bs hF
 refine CW.cutK (fun a w1 => Rep 45 [(1, Pt b4), (2, I o77.1), (3, I o77.2), (4, I o217.1), (5, I o217.2)] a ∧ St w (fp []) w1 [blkI b4 48 [I 3, I 2, I 0, I 0, I 0, I 0, I 0, I 0, I 0, I 0, I 0, I 2, U 3, U 9, I 0, .bool false, U 0, .bool false, U 0, U 0, U 0, I 0]]) ?_ ?_
 ·refine CW.plan (by kernel_rfl) ?_
  intro w219 hch220
  have hst := hst.same hch220
  refine OA.pure [1] [(18, .agg [I 1, I 0, I 0, I 0, I 0, I 0, I 0, I 0, I 0, I 0, I 0, I 0, U 0, U 0, I 0, .bool false, U 0, .bool false, U 0, U 0, U 0, I 0].toArray)] (by kernel_rfl) ?_
  refine OA.ldN (i := 2) (cs := [I 3, I 2, I 0, I 0, I 0, I 0, I 0, I 0, I 0, I 0, I 0, I 2, U 3, U 9, I 0, .bool false, U 0, .bool false, U 0, U 0, U 0, I 0]) rfl (by kernel_rfl) rfl rfl rfl (by kernel_rfl) (by kernel_rfl) (hst.blkN 0 rfl 0 22) ?_
  refine OA.pure [3] [(20, .agg [I 2, I 0, I 0, I 0, I 0, I 0, I 0, I 0, I 0, I 0, I 0, I 0, U 0, U 0, I 0, .bool false, U 0, .bool false, U 0, U 0, U 0, I 0].toArray)] (by kernel_rfl) ?_
  refine OA.acts [0, 4] 0 (by kernel_rfl) (by kernel_rfl) (by kernel_rfl) (alts_cons ?_ (alts_cons ?_ alts_nil))
  ·refine Alt.of (i := 0) [2] rfl rfl (by kernel_rfl) (by kernel_rfl) ?_
   obtain ⟨r221, hr222, ho218⟩ := bs ho218
   refine OW.fn rfl rfl rfl rfl (by kernel_rfl) (tappetlaw27_one_ok _ r221 hr222 (hst.part [] rfl)) ?_
   rintro e w223 ⟨v225, rfl, hst224⟩
   refine ⟨_, rfl, ?_⟩
   have hst := hst.join (idx := []) (rest := [0]) rfl hst224
   obtain ⟨l245, a246, c247, rfl⟩ := hst.len 0 rfl
   refine OA.next ⟨(hst.blkN 1 rfl 0 22), trivial⟩ ?_
   refine OA.act (i := 4) [] (by kernel_rfl) rfl rfl (by kernel_rfl) (by kernel_rfl) ?_
   refine OW.row (α := api_Entry) (e := 48) (enc := enc_api_Entry) (sz := 22) hst rfl rfl rfl [(api_Entry.mk 1 0 0 0 0 0 0 0 0 0 (api_Item.mk 0 0 0 0) (api_Res.mk 0 false 0 false 0 0) 0 0), (api_Entry.mk 3 2 0 0 0 0 0 0 0 0 (api_Item.mk 0 2 3 9) (api_Res.mk 0 false 0 false 0 0) 0 0), (api_Entry.mk 2 0 0 0 0 0 0 0 0 0 (api_Item.mk 0 0 0 0) (api_Res.mk 0 false 0 false 0 0) 0 0)] rfl (fun _ => rfl) rfl rfl (fun _ => by kernel_rfl) ?_
   intro g248 w249 hst
   refine OA.next trivial ?_
   refine OA.act (i := 5) [] (by kernel_rfl) rfl rfl (by kernel_rfl) (by kernel_rfl) ?_
   obtain ⟨r250, hr251, ho218⟩ := bs ho218
   refine OW.fn rfl rfl rfl rfl (by kernel_rfl) (audit_All_ok _ fu (.slice a246 (r221.Maps).length c247) r221 (.slice (some ⟨g248, 0, none⟩) 3 3) ([(api_Entry.mk 1 0 0 0 0 0 0 0 0 0 (api_Item.mk 0 0 0 0) (api_Res.mk 0 false 0 false 0 0) 0 0), (api_Entry.mk 3 2 0 0 0 0 0 0 0 0 (api_Item.mk 0 2 3 9) (api_Res.mk 0 false 0 false 0 0) 0 0), (api_Entry.mk 2 0 0 0 0 0 0 0 0 0 (api_Item.mk 0 0 0 0) (api_Res.mk 0 false 0 false 0 0) 0 0)]) r250 hr251 (hst.part [] rfl) (hst.rd 0 rfl (fun _ => rfl) [] rfl (hst.len 0 rfl).1) (hst.rd 2 rfl (fun _ => rfl) [] rfl (hst.len 2 rfl).1)) ?_
   rintro e w252 ⟨rfl, hst253⟩
   refine ⟨_, rfl, ?_⟩
   have hst := hst.join (idx := []) (rest := [0, 1, 2]) rfl hst253
   refine OA.next trivial ?_
   refine OA.pure [6, 7, 8] [(23, I r250.1), (24, I r250.2)] (by kernel_rfl) ?_
   refine OA.act (i := 9) [] (by kernel_rfl) rfl rfl (by kernel_rfl) (by kernel_rfl) ?_
   refine pu 1 [(4, I r250.1)] (OA.next trivial ?_)
   refine OA.act (i := 10) [] (by kernel_rfl) rfl rfl (by kernel_rfl) (by kernel_rfl) ?_
   refine pu 1 [(5, I r250.2)] (OA.next trivial ?_)
   refine OA.fin (by kernel_rfl) (by kernel_rfl) ?_
   obtain rfl := inj ho218
   exact QW.meet (fun a ha => ⟨ha.ag, hst.keep [1] rfl⟩)
  refine Alt.of (i := 4) [] rfl rfl (by kernel_rfl) (by kernel_rfl) ?_
  refine OW.row (α := api_Entry) (e := 48) (enc := enc_api_Entry) (sz := 22) hst rfl rfl rfl [(api_Entry.mk 1 0 0 0 0 0 0 0 0 0 (api_Item.mk 0 0 0 0) (api_Res.mk 0 false 0 false 0 0) 0 0), (api_Entry.mk 3 2 0 0 0 0 0 0 0 0 (api_Item.mk 0 2 3 9) (api_Res.mk 0 false 0 false 0 0) 0 0), (api_Entry.mk 2 0 0 0 0 0 0 0 0 0 (api_Item.mk 0 0 0 0) (api_Res.mk 0 false 0 false 0 0) 0 0)] rfl (fun _ => rfl) rfl rfl (fun _ => by kernel_rfl) ?_
  intro g254 w255 hst
  refine OA.next trivial ?_
  refine OA.act (i := 0) [] (by kernel_rfl) rfl rfl (by kernel_rfl) (by kernel_rfl) ?_
  obtain ⟨r256, hr257, ho218⟩ := bs ho218
  refine OW.fn rfl rfl rfl rfl (by kernel_rfl) (tappetlaw27_one_ok _ r256 hr257 (hst.part [] rfl)) ?_
  rintro e w258 ⟨v260, rfl, hst259⟩
  refine ⟨_, rfl, ?_⟩
  have hst := hst.join (idx := []) (rest := [0, 1]) rfl hst259
  obtain ⟨l280, a281, c282, rfl⟩ := hst.len 0 rfl
  refine OA.next trivial ?_
  refine OA.act (i := 5) [] (by kernel_rfl) rfl rfl (by kernel_rfl) (by kernel_rfl) ?_
  obtain ⟨r283, hr284, ho218⟩ := bs ho218
  refine OW.fn rfl rfl rfl rfl (by kernel_rfl) (audit_All_ok _ fu (.slice a281 (r256.Maps).length c282) r256 (.slice (some ⟨g254, 0, none⟩) 3 3) ([(api_Entry.mk 1 0 0 0 0 0 0 0 0 0 (api_Item.mk 0 0 0 0) (api_Res.mk 0 false 0 false 0 0) 0 0), (api_Entry.mk 3 2 0 0 0 0 0 0 0 0 (api_Item.mk 0 2 3 9) (api_Res.mk 0 false 0 false 0 0) 0 0), (api_Entry.mk 2 0 0 0 0 0 0 0 0 0 (api_Item.mk 0 0 0 0) (api_Res.mk 0 false 0 false 0 0) 0 0)]) r283 hr284 (hst.part [] rfl) (hst.rd 0 rfl (fun _ => rfl) [] rfl (hst.len 0 rfl).1) (hst.rd 2 rfl (fun _ => rfl) [] rfl (hst.len 2 rfl).1)) ?_
  rintro e w285 ⟨rfl, hst286⟩
  refine ⟨_, rfl, ?_⟩
  have hst := hst.join (idx := []) (rest := [0, 1, 2]) rfl hst286
  refine OA.next trivial ?_
  refine OA.pure [6, 7, 8] [(23, I r283.1), (24, I r283.2)] (by kernel_rfl) ?_
  refine OA.act (i := 9) [] (by kernel_rfl) rfl rfl (by kernel_rfl) (by kernel_rfl) ?_
  refine pu 1 [(4, I r283.1)] (OA.next trivial ?_)
  refine OA.act (i := 10) [] (by kernel_rfl) rfl rfl (by kernel_rfl) (by kernel_rfl) ?_
  refine pu 1 [(5, I r283.2)] (OA.next trivial ?_)
  refine OA.fin (by kernel_rfl) (by kernel_rfl) ?_
  obtain rfl := inj ho218
  exact QW.meet (fun a ha => ⟨ha.ag, hst.keep [1] rfl⟩)
 rintro a w1 ⟨ha, hst⟩
 refine CW.go ?_ ha
 refine CW.seq ?_
 obtain ⟨o297, ho298, hF⟩ := bs hF
 refine CW.cutK (fun a w1 => Rep 45 [(0, .bool o297)] a ∧ St w (fp []) w1 []) ?_ ?_
 ·refine CW.region ?_
  refine pu 3 [(27, .bool (o77.1 == 1))] ?_
  refine OW.split 27 rfl (fun hc299 => ?_) (fun hc299 => ?_)
  ·have ho298 := ite_t ho298 hc299
   refine pu 4 [(31, .bool (o77.2 == 0))] ?_
   refine OW.split 31 rfl (fun hc300 => ?_) (fun hc300 => ?_)
   ·have ho298 := ite_t ho298 hc300
    refine pu 4 [(35, .bool (o217.1 == (-1)))] ?_
    refine OW.split 35 rfl (fun hc301 => ?_) (fun hc301 => ?_)
    ·have ho298 := ite_t ho298 hc301
     refine pu 4 [(39, .bool (o217.2 == 0))] ?_
     refine OW.split 39 rfl (fun hc302 => ?_) (fun hc302 => ?_)
     ·have ho298 := ite_t ho298 hc302
      refine OW.ldN (cs := [I 3, I 2, I 0, I 0, I 0, I 0, I 0, I 0, I 0, I 0, I 0, I 2, U 3, U 9, I 0, .bool false, U 0, .bool false, U 0, U 0, U 0, I 0]) rfl rfl rfl rfl (by kernel_rfl) (by kernel_rfl) (hst.blkN 0 rfl 0 22) ?_
      refine OW.row (α := api_Entry) (e := 48) (enc := enc_api_Entry) (sz := 22) hst rfl rfl rfl [(api_Entry.mk 3 2 0 0 0 0 0 0 0 0 (api_Item.mk 0 2 3 9) (api_Res.mk 0 false 0 false 0 0) 0 0)] rfl (fun _ => rfl) rfl rfl (fun _ => by kernel_rfl) ?_
      intro g303 w304 hst
      obtain ⟨r305, hr306, ho298⟩ := bs ho298
      refine OW.fn rfl rfl rfl rfl (by kernel_rfl) (audit_Calls_ok _ fu (.slice (some ⟨g303, 0, none⟩) 1 1) ([(api_Entry.mk 3 2 0 0 0 0 0 0 0 0 (api_Item.mk 0 2 3 9) (api_Res.mk 0 false 0 false 0 0) 0 0)]) r305 hr306 (hst.part [] rfl) (hst.rd 1 rfl (fun _ => rfl) [] rfl (hst.len 1 rfl).1)) ?_
      rintro e w307 ⟨rfl, hst308⟩
      refine ⟨_, rfl, ?_⟩
      have hst := hst.join (idx := []) (rest := [0, 1]) rfl hst308
      refine pu 3 [(0, .bool (r305 == 0))] (OW.nil rfl ?_)
      obtain rfl := inj ho298
      exact QW.meet (fun a ha => ⟨ha.ag, hst.keep [] rfl⟩)
     have ho298 := ite_f ho298 hc302
     refine pu 6 [(0, .bool false)] (OW.nil rfl ?_)
     obtain rfl := inj ho298
     exact QW.meet (fun a ha => ⟨ha.ag, hst.keep [] rfl⟩)
    have ho298 := ite_f ho298 hc301
    refine pu 10 [(0, .bool false)] (OW.nil rfl ?_)
    obtain rfl := inj ho298
    exact QW.meet (fun a ha => ⟨ha.ag, hst.keep [] rfl⟩)
   have ho298 := ite_f ho298 hc300
   refine pu 14 [(0, .bool false)] (OW.nil rfl ?_)
   obtain rfl := inj ho298
   exact QW.meet (fun a ha => ⟨ha.ag, hst.keep [] rfl⟩)
  have ho298 := ite_f ho298 hc299
  refine pu 18 [(0, .bool false)] (OW.nil rfl ?_)
  obtain rfl := inj ho298
  exact QW.meet (fun a ha => ⟨ha.ag, hst.keep [] rfl⟩)
 rintro a w1 ⟨ha, hst⟩
 refine CW.go ?_ ha
 refine CW.ret ?_
 obtain rfl := inj hF
 refine QW.ret1 rfl rfl ?_
 exact ⟨rfl, hst.keep [] rfl⟩
theorem tappetlaw27_cut_ok (w : World) (v0 : Value) (p0 : List api_Entry) (r : (List api_Entry)) (hF : tappetlaw27_cut p0 = some r)
    (hst : St w (fp []) w []) (h0 : Rd w (fp []) v0 enc_api_Entry 22 p0) :
    Calls Try.prog 8 [v0].toArray w (fun e w' => ∃ (x0 : Value), e = .returned (x0) ∧ St w (fp []) w' [rowI x0 48 enc_api_Entry 22 r]) := by
 refine CW.start (N := 10) Try.func8 rfl rfl rfl ?_
 obtain ⟨l1, a2, c3, rfl⟩ := h0.len
 refine rg ?_
 refine pu 1 [] (nx (rg ?_))
 refine OW.row (α := api_Entry) (e := 48) (enc := enc_api_Entry) (sz := 22) hst rfl rfl rfl [] rfl (fun _ => rfl) rfl rfl (fun _ => by kernel_rfl) ?_
 intro g16 w17 hst
 refine pu 4 [(4, .slice a2 (p0).length c3), (7, I (imin ((p0).length : Int) 1500))] ?_
 obtain ⟨ys18, hcut19, hF⟩ := bs hF
 refine OW.op (v := .slice a2 (ys18).length c3) rfl rfl rfl rfl (fun a ha => pre_run (e := 48) 22 rfl rfl rfl hcut19 h0.cap (by kernel_rfl) (by kernel_rfl) a _ ha) ?_
 have hp20 := h0.pre hcut19
 obtain ⟨u21, hr22, hF⟩ := bs hF
 refine OW.app hst 0 rfl (fun _ => rfl) (fun _ => rfl) rfl rfl rfl rfl rfl rfl (by kernel_rfl) el48 (hp20.on hst) (room_le hr22) ?_
 intro v23 w24 hst
 obtain ⟨l25, a26, c27, rfl⟩ := hst.len 0 rfl
 refine pu 1 [(2, .slice a26 ((([] : List api_Entry) ++ ys18)).length c27)] (nx (CW.ret ?_))
 obtain rfl := inj hF
 refine QW.ret1 rfl rfl ?_
 exact ⟨(.slice a26 ((([] : List api_Entry) ++ ys18)).length c27), rfl, hst.keep [0] rfl⟩
end Go.Proofs.Ytpchniebplpboaa

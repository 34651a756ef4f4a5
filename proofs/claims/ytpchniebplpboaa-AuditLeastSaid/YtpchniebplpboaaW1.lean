/- Written by a program (wip/gen): the walks: each Go function returns what its plain function computes. -/
import Derived.Test.YtpchniebplpboaaProg
import Derived.Test.YtpchniebplpboaaF1
import Derived.Test.YtpchniebplpboaaSq
import Derived.Test.YtpchniebplpboaaPart
import Derived.Test.YtpchniebplpboaaO1
import Derived.Test.YtpchniebplpboaaW1p7
set_option linter.unusedSimpArgs false
namespace Go.Proofs.Ytpchniebplpboaa
open Go.Sx
set_option linter.unusedVariables false
set_option maxRecDepth 10000
set_option maxHeartbeats 4000000
theorem audit_Runs_ok (w : World) (fu : Nat) (v0 : Value) (p0 : List api_Entry) (r : Int) (hF : audit_Runs fu p0 = some r)
    (hst : St w (fp []) w []) (h0 : Rd w (fp []) v0 enc_api_Entry 22 p0) :
    Calls Try.prog 15 [v0].toArray w (fun e w' => e = .returned (I r) ∧ St w (fp []) w' []) := by
 refine CW.start (N := 8) Try.func15 rfl rfl rfl ?_
 obtain ⟨l1, a2, c3, rfl⟩ := h0.len
 refine rg ?_
 refine pu 1 [] (nx (rg ?_))
 refine pu 1 [(3, .slice a2 (p0).length c3)] ?_
 obtain ⟨r18, hr19, hF⟩ := bs hF
 refine OW.fn rfl rfl rfl rfl (by kernel_rfl) (audit_newRuns_ok _ r18 hr19 (hst.part [] rfl)) ?_
 rintro e w20 ⟨v22, S23, rfl, hst21⟩
 refine ⟨_, rfl, ?_⟩
 have hst := hst.join (idx := []) (rest := []) rfl hst21
 obtain ⟨b24, rfl⟩ := hst.fptr 0 rfl
 have hst := hst.tag 69 0 rfl
 have hst := hst.ofL (tagP 71 R_t71) rfl rfl 0 rfl
 have hst := hst.ofR (tagP 67 R_t67) rfl rfl 0 rfl
 have hst := hst.ofR (tagP 63 R_t63) rfl rfl 0 rfl
 have hst := hst.ofR (tagP 51 R_t51) rfl rfl 0 rfl
 refine OW.op (v := .iface 69 (Pt b24)) rfl rfl rfl rfl (fun a ha => mkif_run rfl rfl (by kernel_rfl) a _ ha) ?_
 refine OW.row (α := List Value) (e := 78) (enc := fit 1) (sz := 1) hst rfl rfl rfl [[.iface 69 (Pt b24)]] rfl (fun _ => fit_len _ _) rfl rfl (fun _ => by kernel_rfl) ?_
 intro g25 w26 hst
 have hst := hst.bchOne (R := R_t78) 0 rfl
 have hst := hst.keep [0, 1] rfl
 have hst : St _ _ _ [bchI R_t78 [[.iface 69 (Pt b24)]] _ [(.inr (.inr (.inr (.inl r18))))], _] := hst
 obtain ⟨S27, hst⟩ := hst.nOf 1 0 rfl rfl rfl rfl
 have hst := hst.keep [1] rfl
 have hst : St _ _ _ [nI 78 R_t78 (.slice (some ⟨g25, 0, none⟩) 1 1) S27 ([(.inr (.inr (.inr (.inl r18))))]) none] := hst
 obtain ⟨r28, hr29, hF⟩ := bs hF
 refine OW.fn rfl rfl rfl rfl (by kernel_rfl) (audit_first_ok _ fu (.slice a2 (p0).length c3) p0 (.slice (some ⟨g25, 0, none⟩) 1 1) S27 ([(.inr (.inr (.inr (.inl r18))))]) r28 hr29 (hst.part [0] rfl) (h0.give hst [0])) ?_
 rintro e w30 ⟨rfl, hst31⟩
 refine ⟨_, rfl, ?_⟩
 have hst := hst.join (idx := [0]) (rest := []) rfl hst31
 refine pu 1 [(2, I r28)] (nx (CW.ret ?_))
 obtain rfl := inj hF
 refine QW.ret1 rfl rfl ?_
 exact ⟨rfl, hst.keep [] rfl⟩
theorem audit_Grace_ok (w : World) (fu : Nat) (v0 : Value) (p0 : List api_Entry) (r : Int) (hF : audit_Grace fu p0 = some r)
    (hst : St w (fp []) w []) (h0 : Rd w (fp []) v0 enc_api_Entry 22 p0) :
    Calls Try.prog 16 [v0].toArray w (fun e w' => e = .returned (I r) ∧ St w (fp []) w' []) := by
 refine CW.start (N := 8) Try.func16 rfl rfl rfl ?_
 obtain ⟨l1, a2, c3, rfl⟩ := h0.len
 refine rg ?_
 refine pu 1 [] (nx (rg ?_))
 refine pu 1 [(3, .slice a2 (p0).length c3)] ?_
 obtain ⟨r18, hr19, hF⟩ := bs hF
 refine OW.fn rfl rfl rfl rfl (by kernel_rfl) (audit_newGrace_ok _ r18 hr19 (hst.part [] rfl)) ?_
 rintro e w20 ⟨v22, S23, rfl, hst21⟩
 refine ⟨_, rfl, ?_⟩
 have hst := hst.join (idx := []) (rest := []) rfl hst21
 obtain ⟨b24, rfl⟩ := hst.fptr 0 rfl
 have hst := hst.tag 71 0 rfl
 have hst := hst.ofR (tagP 69 R_t69) rfl rfl 0 rfl
 have hst := hst.ofR (tagP 67 R_t67) rfl rfl 0 rfl
 have hst := hst.ofR (tagP 63 R_t63) rfl rfl 0 rfl
 have hst := hst.ofR (tagP 51 R_t51) rfl rfl 0 rfl
 refine OW.op (v := .iface 71 (Pt b24)) rfl rfl rfl rfl (fun a ha => mkif_run rfl rfl (by kernel_rfl) a _ ha) ?_
 refine OW.row (α := List Value) (e := 78) (enc := fit 1) (sz := 1) hst rfl rfl rfl [[.iface 71 (Pt b24)]] rfl (fun _ => fit_len _ _) rfl rfl (fun _ => by kernel_rfl) ?_
 intro g25 w26 hst
 have hst := hst.bchOne (R := R_t78) 0 rfl
 have hst := hst.keep [0, 1] rfl
 have hst : St _ _ _ [bchI R_t78 [[.iface 71 (Pt b24)]] _ [(.inr (.inr (.inr (.inr r18))))], _] := hst
 obtain ⟨S27, hst⟩ := hst.nOf 1 0 rfl rfl rfl rfl
 have hst := hst.keep [1] rfl
 have hst : St _ _ _ [nI 78 R_t78 (.slice (some ⟨g25, 0, none⟩) 1 1) S27 ([(.inr (.inr (.inr (.inr r18))))]) none] := hst
 obtain ⟨r28, hr29, hF⟩ := bs hF
 refine OW.fn rfl rfl rfl rfl (by kernel_rfl) (audit_first_ok _ fu (.slice a2 (p0).length c3) p0 (.slice (some ⟨g25, 0, none⟩) 1 1) S27 ([(.inr (.inr (.inr (.inr r18))))]) r28 hr29 (hst.part [0] rfl) (h0.give hst [0])) ?_
 rintro e w30 ⟨rfl, hst31⟩
 refine ⟨_, rfl, ?_⟩
 have hst := hst.join (idx := [0]) (rest := []) rfl hst31
 refine pu 1 [(2, I r28)] (nx (CW.ret ?_))
 obtain rfl := inj hF
 refine QW.ret1 rfl rfl ?_
 exact ⟨rfl, hst.keep [] rfl⟩
theorem tappetlaw27_AuditLeast_ok (w : World) (fu : Nat) (v0_0 : Value) (p0 : api_Config) (v1 : Value) (p1 : List api_Entry) (r : Bool) (hF : tappetlaw27_AuditLeast fu p0 p1 = some r)
    (hst : St w (fp []) w []) (h0_0 : Rd w (fp []) v0_0 enc_api_MapDef 2 p0.Maps) (h1 : Rd w (fp []) v1 enc_api_Entry 22 p1) :
    Calls Try.prog 5 [.agg [I p0.Workers, I p0.Shards, I p0.Hooks, I p0.Ring, v0_0].toArray, v1].toArray w (fun e w' => e = .returned (.bool r) ∧ St w (fp []) w' []) := by
 refine CW.start (N := 134) Try.func5 rfl rfl rfl ?_
 obtain ⟨l1, a2, c3, rfl⟩ := h0_0.len
 obtain ⟨l4, a5, c6, rfl⟩ := h1.len
 refine rg ?_
 refine OW.box hst rfl rfl rfl rfl [I p0.Workers, I p0.Shards, I p0.Hooks, I p0.Ring, .slice a2 (p0.Maps).length c3] rfl ?_
 intro b9 w10 hst
 refine pu 1 [] (nx (CW.seq (rg ?_)))
 obtain ⟨r15, hr16, hF⟩ := bs hF
 refine OW.fn rfl rfl rfl rfl (by kernel_rfl) (tappetlaw27_awake_ok _ fu r15 hr16 (hst.part [] rfl)) ?_
 rintro e w17 ⟨rfl, hst18⟩
 refine ⟨_, rfl, ?_⟩
 have hst := hst.join (idx := []) (rest := [0]) rfl hst18
 refine pu 1 [(16, .bool (!r15))] (nx ?_)
 refine br ((!r15)) hF (fun hF hc19 => ?_) (fun hF hc19 => ?_)
 ·refine rg ?_
  refine pu 1 [(4, .bool false)] (nx (CW.ret (QW.then_ret ?_)))
  obtain rfl := inj hF
  refine QW.ret1 rfl rfl ?_
  exact ⟨rfl, hst.keep [] rfl⟩
 refine CW.skip (QW.next (rg ?_))
 refine OW.ldN (cs := [I p0.Workers, I p0.Shards, I p0.Hooks, I p0.Ring, .slice a2 (p0.Maps).length c3]) rfl rfl rfl rfl (by kernel_rfl) (by kernel_rfl) (hst.blkN 0 rfl 0 5) ?_
 refine pu 1 [(19, .slice a5 (p1).length c6)] ?_
 obtain ⟨r24, hr25, hF⟩ := bs hF
 refine OW.fn rfl rfl rfl rfl (by kernel_rfl) (audit_All_ok _ fu (.slice a2 (p0.Maps).length c3) p0 (.slice a5 (p1).length c6) p1 r24 hr25 (hst.part [] rfl) (h0_0.give hst []) (h1.give hst [])) ?_
 rintro e w26 ⟨rfl, hst27⟩
 refine ⟨_, rfl, ?_⟩
 have hst := hst.join (idx := []) (rest := [0]) rfl hst27
 refine pu 5 [(5, I r24.1), (6, I r24.2)] (nx (rg ?_))
 refine OW.ldN (cs := [I p0.Workers, I p0.Shards, I p0.Hooks, I p0.Ring, .slice a2 (p0.Maps).length c3]) rfl rfl rfl rfl (by kernel_rfl) (by kernel_rfl) (hst.blkN 0 rfl 0 5) ?_
 refine pu 1 [(25, .slice a5 (p1).length c6)] ?_
 obtain ⟨r32, hr33, hF⟩ := bs hF
 refine OW.fn rfl rfl rfl rfl (by kernel_rfl) (audit_Maps_ok _ fu (.slice a2 (p0.Maps).length c3) p0 (.slice a5 (p1).length c6) p1 r32 hr33 (hst.part [] rfl) (h0_0.give hst []) (h1.give hst [])) ?_
 rintro e w34 ⟨rfl, hst35⟩
 refine ⟨_, rfl, ?_⟩
 have hst := hst.join (idx := []) (rest := [0]) rfl hst35
 refine pu 5 [(7, I r32.1), (8, I r32.2)] (nx (CW.seq (rg ?_)))
 refine pu 3 [(31, .bool (r24.2 != r32.2))] (nx ?_)
 refine br ((r24.2 != r32.2)) hF (fun hF hc36 => ?_) (fun hF hc36 => ?_)
 ·refine rg ?_
  refine pu 1 [(4, .bool false)] (nx (CW.ret (QW.then_ret ?_)))
  obtain rfl := inj hF
  refine QW.ret1 rfl rfl ?_
  exact ⟨rfl, hst.keep [] rfl⟩
 refine CW.skip (QW.next (CW.seq (rg ?_)))
 refine pu 2 [(33, .bool (r24.2 != 0))] (nx ?_)
 refine br ((r24.2 != 0)) hF (fun hF hc37 => ?_) (fun hF hc37 => ?_)
 ·refine CW.seq ?_
  refine CW.cutK (fun a w1 => Rep 134 [(4, .bool (((r24.1 == 0) && (r32.1 == 0)) && (r24.2 == 2)))] a ∧ St w (fp []) w1 []) ?_ ?_
  ·refine CW.region ?_
   refine pu 3 [(36, .bool (r24.1 == 0))] ?_
   refine OW.split 36 rfl (fun hc38 => ?_) (fun hc38 => ?_)
   ·refine pu 4 [(40, .bool (r32.1 == 0))] ?_
    refine OW.split 40 rfl (fun hc39 => ?_) (fun hc39 => ?_)
    ·refine pu 4 [(4, .bool (r24.2 == 2))] (OW.nil rfl ?_)
     refine QW.say 4 (v := .bool (((r24.1 == 0) && (r32.1 == 0)) && (r24.2 == 2))) rfl (by first | (rw [hc38, hc39]; done) | (rw [hc38, hc39]; rfl) | simp [hc38, hc39]) ?_
     exact QW.meet (fun a ha => ⟨ha.ag, hst.keep [] rfl⟩)
    refine pu 4 [(4, .bool false)] (OW.nil rfl ?_)
    refine QW.say 4 (v := .bool (((r24.1 == 0) && (r32.1 == 0)) && (r24.2 == 2))) rfl (by first | (rw [hc38, hc39]; done) | (rw [hc38, hc39]; rfl) | simp [hc38, hc39]) ?_
    exact QW.meet (fun a ha => ⟨ha.ag, hst.keep [] rfl⟩)
   refine pu 8 [(4, .bool false)] (OW.nil rfl ?_)
   refine QW.say 4 (v := .bool (((r24.1 == 0) && (r32.1 == 0)) && (r24.2 == 2))) rfl (by first | (rw [hc38]; done) | (rw [hc38]; rfl) | simp [hc38]) ?_
   exact QW.meet (fun a ha => ⟨ha.ag, hst.keep [] rfl⟩)
  rintro a w1 ⟨ha, hst⟩
  refine CW.go ?_ ha
  refine CW.ret (QW.then_ret ?_)
  obtain rfl := inj hF
  refine QW.ret1 rfl rfl ?_
  exact ⟨rfl, hst.keep [] rfl⟩
 refine CW.skip (QW.next (CW.seq ?_))
 refine CW.plan (by kernel_rfl) ?_
 intro w60 hch61
 have hst := hst.same hch61
 refine OA.pure [0, 2, 4, 6] [(44, .slice a5 (p1).length c6), (46, .slice a5 (p1).length c6), (48, .slice a5 (p1).length c6), (50, .pointer (some ⟨b9, 3, none⟩))] (by kernel_rfl) ?_
 refine OA.ld (i := 7) rfl (by kernel_rfl) rfl rfl rfl (by kernel_rfl) (hst.blk 0 rfl rfl) ?_
 refine OA.pure [8] [(52, .slice a5 (p1).length c6)] (by kernel_rfl) ?_
 refine OA.act (i := 1) [7] (by kernel_rfl) rfl rfl (by kernel_rfl) (by kernel_rfl) ?_
 obtain ⟨r62, hr63, hF⟩ := bs hF
 refine OW.fn rfl rfl rfl rfl (by kernel_rfl) (audit_Calls_ok _ fu (.slice a5 (p1).length c6) p1 r62 hr63 (hst.part [] rfl) (h1.give hst [])) ?_
 rintro e w65 ⟨rfl, hst66⟩
 refine ⟨_, rfl, ?_⟩
 have hst := hst.join (idx := []) (rest := [0]) rfl hst66
 refine OA.next ⟨(hst.blk 0 rfl rfl), trivial⟩ ?_
 refine OA.act (i := 3) [7] (by kernel_rfl) rfl rfl (by kernel_rfl) (by kernel_rfl) ?_
 obtain ⟨r67, hr68, hF⟩ := bs hF
 refine OW.fn rfl rfl rfl rfl (by kernel_rfl) (audit_Runs_ok _ fu (.slice a5 (p1).length c6) p1 r67 hr68 (hst.part [] rfl) (h1.give hst [])) ?_
 rintro e w69 ⟨rfl, hst70⟩
 refine ⟨_, rfl, ?_⟩
 have hst := hst.join (idx := []) (rest := [0]) rfl hst70
 refine OA.next ⟨(hst.blk 0 rfl rfl), trivial⟩ ?_
 refine OA.act (i := 5) [7] (by kernel_rfl) rfl rfl (by kernel_rfl) (by kernel_rfl) ?_
 obtain ⟨r71, hr72, hF⟩ := bs hF
 refine OW.fn rfl rfl rfl rfl (by kernel_rfl) (audit_Grace_ok _ fu (.slice a5 (p1).length c6) p1 r71 hr72 (hst.part [] rfl) (h1.give hst [])) ?_
 rintro e w73 ⟨rfl, hst74⟩
 refine ⟨_, rfl, ?_⟩
 have hst := hst.join (idx := []) (rest := [0]) rfl hst74
 refine OA.next ⟨(hst.blk 0 rfl rfl), trivial⟩ ?_
 refine OA.act (i := 9) [] (by kernel_rfl) rfl rfl (by kernel_rfl) (by kernel_rfl) ?_
 obtain ⟨r75, hr76, hF⟩ := bs hF
 refine OW.fn rfl rfl rfl rfl (by kernel_rfl) (audit_Events_ok _ fu p0.Ring (.slice a5 (p1).length c6) p1 r75 hr76 (hst.part [] rfl) (h1.give hst [])) ?_
 rintro e w77 ⟨rfl, hst78⟩
 refine ⟨_, rfl, ?_⟩
 have hst := hst.join (idx := []) (rest := [0]) rfl hst78
 refine OA.next trivial ?_
 refine OA.act (i := 10) [] (by kernel_rfl) rfl rfl (by kernel_rfl) (by kernel_rfl) ?_
 refine OW.row (α := Int) (e := 3) (enc := encInt .i64) (sz := 1) hst rfl rfl rfl [r62, r67, r71, r75] rfl (fun _ => rfl) rfl rfl (fun _ => by kernel_rfl) ?_
 intro g79 w80 hst
 refine OA.next trivial ?_
 refine OA.act (i := 11) [] (by kernel_rfl) rfl rfl (by kernel_rfl) (by kernel_rfl) ?_
 refine pu 1 [(9, .slice (some ⟨g79, 0, none⟩) 4 4)] (OA.next trivial ?_)
 refine OA.fin (by kernel_rfl) (by kernel_rfl) (QW.next (CW.seq (rg ?_)))
 refine pu 1 [(10, I 0)] (nx ?_)
 obtain ⟨o224, ho225, hF⟩ := bs hF
 refine CW.cutK (fun a w1 => Rep 134 [(1, .slice a5 (p1).length c6), (2, Pt b9), (5, I r24.1), (7, I o224)] a ∧ St w (fp []) w1 [blkI b9 24 [I p0.Workers, I p0.Shards, I p0.Hooks, I p0.Ring, .slice a2 (p0.Maps).length c3]]) ?_ ?_
 ·refine CW.block ?_
  refine CW.loop (fun n a w1 => ∃ (i321 : Nat) (s320 : Int), i321 + n = 4 ∧ Rep 134 [(1, .slice a5 (p1).length c6), (2, Pt b9), (5, I r24.1), (7, I s320), (9, .slice (some ⟨g79, 0, none⟩) 4 4), (10, I (i321 : Int))] a ∧ St w (fp []) w1 [blkI b9 24 [I p0.Workers, I p0.Shards, I p0.Hooks, I p0.Ring, .slice a2 (p0.Maps).length c3], rowI (.slice (some ⟨g79, 0, none⟩) 4 4) 3 (encInt .i64) 1 ([r62, r67, r71, r75])] ∧ forN (tappetlaw27_AuditLeast_l1 r62 r67 r71 r75) (fun (s320 : Int) => s320) n i321 s320 = some o224) 4 (fun a ha => ⟨0, r32.1, Nat.zero_add _, ha.ag, hst.keep [0, 1] rfl, ho225⟩) ?_
  rintro n318 a w1 ⟨i321, s320, hi322, ha, hst, hl319⟩
  refine CW.go ?_ ha
  refine CW.seq (rg ?_)
  refine pu 2 [(56, .bool (decide ((i321 : Int) < 4)))] (nx ?_)
  rcases bft (decide ((i321 : Int) < 4)) with hc323 | hc323
  ·rcases n318 with _ | n318
   ·exact (cnt0 hi322 hc323).elim
   refine CW.cond_t rfl hc323 (CW.skip (QW.next (CW.seq (CW.block (CW.seq ?_)))))
   obtain ⟨o342, ho343, hl319⟩ := bs hl319
   refine CW.cutK (fun a w1 => Rep 134 [(1, .slice a5 (p1).length c6), (2, Pt b9), (5, I r24.1), (7, I s320), (9, .slice (some ⟨g79, 0, none⟩) 4 4), (10, I (i321 : Int)), (75, .bool o342)] a ∧ St w (fp []) w1 [blkI b9 24 [I p0.Workers, I p0.Shards, I p0.Hooks, I p0.Ring, .slice a2 (p0.Maps).length c3], rowI (.slice (some ⟨g79, 0, none⟩) 4 4) 3 (encInt .i64) 1 ([r62, r67, r71, r75])]) ?_ ?_
   ·refine CW.region ?_
    refine pu 2 [(59, .slice (some ⟨g79, 0, none⟩) 4 4), (60, I (i321 : Int))] ?_
    obtain ⟨x344, hx345, ho343⟩ := bs ho343
    obtain ⟨g347, o348, c349, hv346⟩ := hst.rowv 1 rfl hx345
    refine OW.idx 3 1 rfl rfl rfl rfl hv346 rfl (idx_some hx345).1 (idx_some hx345).2.1 (by kernel_rfl) (by kernel_rfl) ?_
    refine OW.ld rfl rfl rfl rfl (by kernel_rfl) (hst.rowc 1 rfl (fun _ => rfl) hx345 hv346 0 _ rfl) ?_
    refine pu 2 [(64, .bool (decide (x344 ≥ 0)))] ?_
    refine OW.split 64 rfl (fun hc350 => ?_) (fun hc350 => ?_)
    ·have ho343 := ite_t ho343 hc350
     refine pu 3 [(67, .bool (decide (s320 < 0)))] ?_
     refine OW.split 67 rfl (fun hc351 => ?_) (fun hc351 => ?_)
     ·have ho343 := ite_t ho343 hc351
      refine pu 8 [(75, .bool true)] (OW.nil rfl ?_)
      obtain rfl := inj ho343
      exact QW.meet (fun a ha => ⟨ha.ag, hst.keep [0, 1] rfl⟩)
     have ho343 := ite_f ho343 hc351
     refine pu 2 [(68, .slice (some ⟨g79, 0, none⟩) 4 4), (69, I (i321 : Int))] ?_
     obtain ⟨g353, o354, c355, hv352⟩ := hst.rowv 1 rfl hx345
     refine OW.idx 3 1 rfl rfl rfl rfl hv352 rfl (idx_some hx345).1 (idx_some hx345).2.1 (by kernel_rfl) (by kernel_rfl) ?_
     refine OW.ld rfl rfl rfl rfl (by kernel_rfl) (hst.rowc 1 rfl (fun _ => rfl) hx345 hv352 0 _ rfl) ?_
     refine pu 4 [(75, .bool (decide (x344 < s320)))] (OW.nil rfl ?_)
     obtain rfl := inj ho343
     exact QW.meet (fun a ha => ⟨ha.ag, hst.keep [0, 1] rfl⟩)
    have ho343 := ite_f ho343 hc350
    refine pu 11 [(75, .bool false)] (OW.nil rfl ?_)
    obtain rfl := inj ho343
    exact QW.meet (fun a ha => ⟨ha.ag, hst.keep [0, 1] rfl⟩)
   rintro a w1 ⟨ha, hst⟩
   refine CW.go ?_ ha
   refine br (o342) hl319 (fun hl319 hc356 => ?_) (fun hl319 hc356 => ?_)
   ·refine CW.region ?_
    refine pu 2 [(76, .slice (some ⟨g79, 0, none⟩) 4 4), (77, I (i321 : Int))] ?_
    obtain ⟨x363, hx364, hl319⟩ := bs hl319
    obtain ⟨g366, o367, c368, hv365⟩ := hst.rowv 1 rfl hx364
    refine OW.idx 3 1 rfl rfl rfl rfl hv365 rfl (idx_some hx364).1 (idx_some hx364).2.1 (by kernel_rfl) (by kernel_rfl) ?_
    refine OW.ld rfl rfl rfl rfl (by kernel_rfl) (hst.rowc 1 rfl (fun _ => rfl) hx364 hv365 0 _ rfl) ?_
    refine pu 1 [(7, I x363)] (OW.nil rfl (QW.block_normal (QW.next (CW.region ?_))))
    refine pu 3 [(10, I (w64 ((i321 : Int) + 1)))] (OW.nil rfl ?_)
    refine QW.say 10 rfl (congrArg (Value.int .i64) (w64_cnt hc323 (by decide))) ?_
    exact QW.meet (fun a ha => ⟨n318, Nat.lt_succ_self _, i321 + 1, x363, cnt_next hi322, ha.ag, hst.keep [0, 1] rfl, hl319⟩)
   refine CW.skip (QW.block_normal (QW.next (CW.region ?_)))
   refine pu 3 [(10, I (w64 ((i321 : Int) + 1)))] (OW.nil rfl ?_)
   refine QW.say 10 rfl (congrArg (Value.int .i64) (w64_cnt hc323 (by decide))) ?_
   exact QW.meet (fun a ha => ⟨n318, Nat.lt_succ_self _, i321 + 1, s320, cnt_next hi322, ha.ag, hst.keep [0, 1] rfl, hl319⟩)
  rcases n318 with _ | n318
  ·refine CW.cond_f rfl hc323 ?_
   refine CW.exit (QW.then_exit (QW.then_exit ?_))
   refine QW.block_here ?_
   obtain rfl := inj hl319
   exact QW.meet (fun a ha => ⟨ha.ag, hst.keep [0] rfl⟩)
  exact (cnt1 hi322 hc323).elim
 rintro a w1 ⟨ha, hst⟩
 refine CW.go ?_ ha
 refine rg ?_
 refine pu 1 [(11, .slice none 0 0)] (nx (CW.seq (rg ?_)))
 refine pu 1 [(12, I 0)] (nx ?_)
 obtain ⟨o576, ho577, hF⟩ := bs hF
 refine CW.cutK (fun a w1 => ∃ (v575 : Value), Rep 134 [(1, .slice a5 (p1).length c6), (2, Pt b9), (5, I r24.1), (7, I o224), (11, v575)] a ∧ St w (fp []) w1 [blkI b9 24 [I p0.Workers, I p0.Shards, I p0.Hooks, I p0.Ring, .slice a2 (p0.Maps).length c3], rowI v575 48 enc_api_Entry 22 o576]) ?_ ?_
 ·refine CW.block ?_
  have hst := hst.nilRow api_Entry 48 enc_api_Entry 22
  refine CW.loop (fun n a w1 => ∃ (i716 : Nat) (s714 : (List api_Entry)) (v715 : Value), i716 + n = (p1).length ∧ Rep 134 [(1, .slice a5 (p1).length c6), (2, Pt b9), (5, I r24.1), (7, I o224), (11, v715), (12, I (i716 : Int))] a ∧ St w (fp []) w1 [blkI b9 24 [I p0.Workers, I p0.Shards, I p0.Hooks, I p0.Ring, .slice a2 (p0.Maps).length c3], rowI v715 48 enc_api_Entry 22 s714] ∧ forN (tappetlaw27_AuditLeast_l2 p1) (fun (s714 : (List api_Entry)) => s714) n i716 s714 = some o576) (p1).length (fun a ha => ⟨0, ([] : List api_Entry), (.slice none 0 0), Nat.zero_add _, ha.ag, hst.keep [0, 1] rfl, ho577⟩) ?_
  rintro n712 a w1 ⟨i716, s714, v715, hi717, ha, hst, hl713⟩
  refine CW.go ?_ ha
  obtain ⟨l718, a719, c720, rfl⟩ := hst.len 1 rfl
  refine CW.seq (rg ?_)
  refine pu 4 [(83, .bool (decide ((i716 : Int) < ((p1).length : Int))))] (nx ?_)
  rcases bft (decide ((i716 : Int) < ((p1).length : Int))) with hc721 | hc721
  ·rcases n712 with _ | n712
   ·exact (cnt0 hi717 hc721).elim
   refine CW.cond_t rfl hc721 (CW.skip (QW.next (CW.seq (CW.block (CW.seq ?_)))))
   obtain ⟨o739, ho740, hl713⟩ := bs hl713
   refine CW.cutK (fun a w1 => Rep 134 [(1, .slice a5 (p1).length c6), (2, Pt b9), (5, I r24.1), (7, I o224), (11, .slice a719 (s714).length c720), (12, I (i716 : Int)), (99, .bool o739)] a ∧ St w (fp []) w1 [blkI b9 24 [I p0.Workers, I p0.Shards, I p0.Hooks, I p0.Ring, .slice a2 (p0.Maps).length c3], rowI (.slice a719 (s714).length c720) 48 enc_api_Entry 22 s714]) ?_ ?_
   ·refine CW.region ?_
    refine pu 2 [(86, .slice a5 (p1).length c6), (87, I (i716 : Int))] ?_
    obtain ⟨x741, hx742, ho740⟩ := bs ho740
    obtain ⟨g744, o745, c746, hv743⟩ := h1.formv (fun _ => ⟨_, rfl⟩) hx742
    refine OW.idx 48 22 rfl rfl rfl rfl hv743 rfl (idx_some hx742).1 (idx_some hx742).2.1 (by kernel_rfl) (by kernel_rfl) ?_
    refine pu 1 [(89, .pointer (some ⟨g744, o745 + Int.toNat (i716 : Int) * 22, none⟩))] ?_
    refine OW.ld rfl rfl rfl rfl (by kernel_rfl) (h1.cellv hst hx742 hv743 0 _ rfl) ?_
    refine pu 2 [(92, .bool (x741.What == 15))] ?_
    refine OW.split 92 rfl (fun hc747 => ?_) (fun hc747 => ?_)
    ·have ho740 := ite_t ho740 hc747
     refine pu 7 [(99, .bool true)] (OW.nil rfl ?_)
     obtain rfl := inj ho740
     exact QW.meet (fun a ha => ⟨ha.ag, hst.keep [0, 1] rfl⟩)
    have ho740 := ite_f ho740 hc747
    refine pu 2 [(93, .slice a5 (p1).length c6), (94, I (i716 : Int))] ?_
    obtain ⟨g749, o750, c751, hv748⟩ := h1.formv (fun _ => ⟨_, rfl⟩) hx742
    refine OW.idx 48 22 rfl rfl rfl rfl hv748 rfl (idx_some hx742).1 (idx_some hx742).2.1 (by kernel_rfl) (by kernel_rfl) ?_
    refine pu 1 [(96, .pointer (some ⟨g749, o750 + Int.toNat (i716 : Int) * 22, none⟩))] ?_
    refine OW.ld rfl rfl rfl rfl (by kernel_rfl) (h1.cellv hst hx742 hv748 0 _ rfl) ?_
    refine pu 2 [(99, .bool (x741.What == 14))] (OW.nil rfl ?_)
    obtain rfl := inj ho740
    exact QW.meet (fun a ha => ⟨ha.ag, hst.keep [0, 1] rfl⟩)
   rintro a w1 ⟨ha, hst⟩
   refine CW.go ?_ ha
   refine br (o739) hl713 (fun hl713 hc752 => ?_) (fun hl713 hc752 => ?_)
   ·refine CW.region ?_
    refine pu 3 [(100, .slice a719 (s714).length c720), (101, .slice a5 (p1).length c6), (102, I (i716 : Int))] ?_
    obtain ⟨x768, hx769, hl713⟩ := bs hl713
    obtain ⟨g771, o772, c773, hv770⟩ := h1.formv (fun _ => ⟨_, rfl⟩) hx769
    refine OW.idx 48 22 rfl rfl rfl rfl hv770 rfl (idx_some hx769).1 (idx_some hx769).2.1 (by kernel_rfl) (by kernel_rfl) ?_
    refine OW.ldN (cs := enc_api_Entry x768) rfl rfl rfl rfl (by kernel_rfl) (by kernel_rfl) (h1.cellv hst hx769 hv770) ?_
    refine OW.row (α := api_Entry) (e := 48) (enc := enc_api_Entry) (sz := 22) hst rfl rfl rfl [x768] rfl (fun _ => rfl) rfl rfl (fun _ => by kernel_rfl) ?_
    intro g774 w775 hst
    obtain ⟨u776, hr777, hl713⟩ := bs hl713
    refine OW.app hst 1 rfl (fun _ => rfl) (fun _ => rfl) rfl rfl rfl rfl rfl rfl (by kernel_rfl) el48 (hst.rd 2 rfl (fun _ => rfl) [] rfl (hst.len 2 rfl).1) (room_le hr777) ?_
    intro v778 w779 hst
    obtain ⟨l780, a781, c782, rfl⟩ := hst.len 1 rfl
    refine pu 1 [(11, .slice a781 ((s714 ++ [x768])).length c782)] (OW.nil rfl (QW.block_normal (QW.next (CW.region ?_))))
    refine pu 3 [(12, I (w64 ((i716 : Int) + 1)))] (OW.nil rfl ?_)
    refine QW.say 12 rfl (congrArg (Value.int .i64) (w64_cnt hc721 l4)) ?_
    exact QW.meet (fun a ha => ⟨n712, Nat.lt_succ_self _, i716 + 1, (s714 ++ [x768]), (.slice a781 ((s714 ++ [x768])).length c782), cnt_next hi717, ha.ag, hst.keep [0, 1] rfl, hl713⟩)
   refine CW.skip (QW.block_normal (QW.next (CW.region ?_)))
   refine pu 3 [(12, I (w64 ((i716 : Int) + 1)))] (OW.nil rfl ?_)
   refine QW.say 12 rfl (congrArg (Value.int .i64) (w64_cnt hc721 l4)) ?_
   exact QW.meet (fun a ha => ⟨n712, Nat.lt_succ_self _, i716 + 1, s714, (.slice a719 (s714).length c720), cnt_next hi717, ha.ag, hst.keep [0, 1] rfl, hl713⟩)
  rcases n712 with _ | n712
  ·refine CW.cond_f rfl hc721 ?_
   refine CW.exit (QW.then_exit (QW.then_exit ?_))
   refine QW.block_here ?_
   obtain rfl := inj hl713
   exact QW.meet (fun a ha => ⟨(.slice a719 (s714).length c720), ha.ag, hst.keep [0, 1] rfl⟩)
  exact (cnt1 hi717 hc721).elim
 rintro a w1 ⟨v575, ha, hst⟩
 refine CW.go ?_ ha
 obtain ⟨l786, a787, c788, rfl⟩ := hst.len 1 rfl
 refine rg ?_
 refine OW.ldN (cs := [I p0.Workers, I p0.Shards, I p0.Hooks, I p0.Ring, .slice a2 (p0.Maps).length c3]) rfl rfl rfl rfl (by kernel_rfl) (by kernel_rfl) (hst.blkN 0 rfl 0 5) ?_
 refine pu 1 [(109, .slice a787 (o576).length c788)] ?_
 obtain ⟨r793, hr794, hF⟩ := bs hF
 refine OW.fn rfl rfl rfl rfl (by kernel_rfl) (audit_All_ok _ fu (.slice a2 (p0.Maps).length c3) p0 (.slice a787 (o576).length c788) o576 r793 hr794 (hst.part [] rfl) (h0_0.give hst []) (hst.rd 1 rfl (fun _ => rfl) [] rfl (hst.len 1 rfl).1)) ?_
 rintro e w795 ⟨rfl, hst796⟩
 refine ⟨_, rfl, ?_⟩
 have hst := hst.join (idx := []) (rest := [0, 1]) rfl hst796
 refine pu 5 [(13, I r793.1), (14, I r793.2)] (nx (CW.seq ?_))
 refine CW.cutK (fun a w1 => Rep 134 [(4, .bool (((((r24.1 == o224) && decide (r24.1 ≥ (-1))) && decide (r24.1 < ((p1).length : Int))) && (r793.1 == (-1))) && (r793.2 == 0)))] a ∧ St w (fp []) w1 []) ?_ ?_
 ·refine CW.region ?_
  refine pu 4 [(116, .bool (r24.1 == o224))] ?_
  refine OW.split 116 rfl (fun hc797 => ?_) (fun hc797 => ?_)
  ·refine pu 4 [(120, .bool (decide (r24.1 ≥ (-1))))] ?_
   refine OW.split 120 rfl (fun hc798 => ?_) (fun hc798 => ?_)
   ·refine pu 6 [(126, .bool (decide (r24.1 < ((p1).length : Int))))] ?_
    refine OW.split 126 rfl (fun hc799 => ?_) (fun hc799 => ?_)
    ·refine pu 4 [(130, .bool (r793.1 == (-1)))] ?_
     refine OW.split 130 rfl (fun hc800 => ?_) (fun hc800 => ?_)
     ·refine pu 4 [(4, .bool (r793.2 == 0))] (OW.nil rfl ?_)
      refine QW.say 4 (v := .bool (((((r24.1 == o224) && decide (r24.1 ≥ (-1))) && decide (r24.1 < ((p1).length : Int))) && (r793.1 == (-1))) && (r793.2 == 0))) rfl (by first | (rw [hc797, hc798, hc799, hc800]; done) | (rw [hc797, hc798, hc799, hc800]; rfl) | simp [hc797, hc798, hc799, hc800]) ?_
      exact QW.meet (fun a ha => ⟨ha.ag, hst.keep [] rfl⟩)
     refine pu 4 [(4, .bool false)] (OW.nil rfl ?_)
     refine QW.say 4 (v := .bool (((((r24.1 == o224) && decide (r24.1 ≥ (-1))) && decide (r24.1 < ((p1).length : Int))) && (r793.1 == (-1))) && (r793.2 == 0))) rfl (by first | (rw [hc797, hc798, hc799, hc800]; done) | (rw [hc797, hc798, hc799, hc800]; rfl) | simp [hc797, hc798, hc799, hc800]) ?_
     exact QW.meet (fun a ha => ⟨ha.ag, hst.keep [] rfl⟩)
    refine pu 8 [(4, .bool false)] (OW.nil rfl ?_)
    refine QW.say 4 (v := .bool (((((r24.1 == o224) && decide (r24.1 ≥ (-1))) && decide (r24.1 < ((p1).length : Int))) && (r793.1 == (-1))) && (r793.2 == 0))) rfl (by first | (rw [hc797, hc798, hc799]; done) | (rw [hc797, hc798, hc799]; rfl) | simp [hc797, hc798, hc799]) ?_
    exact QW.meet (fun a ha => ⟨ha.ag, hst.keep [] rfl⟩)
   refine pu 14 [(4, .bool false)] (OW.nil rfl ?_)
   refine QW.say 4 (v := .bool (((((r24.1 == o224) && decide (r24.1 ≥ (-1))) && decide (r24.1 < ((p1).length : Int))) && (r793.1 == (-1))) && (r793.2 == 0))) rfl (by first | (rw [hc797, hc798]; done) | (rw [hc797, hc798]; rfl) | simp [hc797, hc798]) ?_
   exact QW.meet (fun a ha => ⟨ha.ag, hst.keep [] rfl⟩)
  refine pu 18 [(4, .bool false)] (OW.nil rfl ?_)
  refine QW.say 4 (v := .bool (((((r24.1 == o224) && decide (r24.1 ≥ (-1))) && decide (r24.1 < ((p1).length : Int))) && (r793.1 == (-1))) && (r793.2 == 0))) rfl (by first | (rw [hc797]; done) | (rw [hc797]; rfl) | simp [hc797]) ?_
  exact QW.meet (fun a ha => ⟨ha.ag, hst.keep [] rfl⟩)
 rintro a w1 ⟨ha, hst⟩
 refine CW.go ?_ ha
 refine CW.ret ?_
 obtain rfl := inj hF
 refine QW.ret1 rfl rfl ?_
 exact ⟨rfl, hst.keep [] rfl⟩
end Go.Proofs.Ytpchniebplpboaa

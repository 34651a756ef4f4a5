/- Texts W1p15 of this proof. -/
import Derived.Test.YtbmknhpfkpmigaaGreatDoorW1p14
set_option linter.unusedVariables false
set_option linter.unusedSimpArgs false
set_option maxRecDepth 10000
set_option maxHeartbeats 4000000
namespace Go.Proofs.YtbmknhpfkpmigaaGreatDoor
open Go.Sx
set_option maxRecDepth 10000 in
set_option maxHeartbeats 4000000 in
theorem zcL (w : World) (wb : World) (Sb : List Nat) (fu : Nat) (v0 : Value) (S0 : List Nat) (p0 : zd) (r : zA × Bool × zd) (hF : zV fu p0 = some r)
    (hst : St w (fp [itI (xi wb Sb) [v0] S0 p0]) w [itI (xi wb Sb) [v0] S0 p0]) (hb : Bor wb Sb w (fp [itI (xi wb Sb) [v0] S0 p0])) :
    Calls Tryz.prog 84 [v0].toArray w (fun e w' => ∃ (s0 : List Nat), e = .returned (.tuple #[.agg [.int .i64 r.1.Ki, .int .i64 r.1.Pc, .int .i64 r.1.It.Map, .int .i64 r.1.It.Op, .int .u64 r.1.It.Key, .int .u64 r.1.It.Val, .int .u64 r.1.Val].toArray, .bool r.2.1]) /\ St w (fp [itI (xi wb Sb) [v0] S0 p0]) w' [itI (xi wb Sb) [v0] s0 r.2.2]) := by
 refine CW.start (N := 68) Tryz.func84 rfl rfl rfl ?_
 obtain ⟨b1, rfl⟩ := hst.fptr 0 rfl
 refine CW.seq ?_
 refine CW.region ?_
 refine OW.alloc hst rfl rfl rfl [.int .i64 0, .int .i64 0, .int .i64 0, .int .i64 0, .int .u64 0, .int .u64 0, .int .u64 0] (by kernel_rfl) ?_
 intro b4 w5 hst
 refine OW.pure 1 [] (by kernel_rfl) ?_
 refine OW.nil rfl ?_
 refine QW.next ?_
 refine CW.seq ?_
 refine CW.seq ?_
 obtain ⟨v6, S7, v8, S9, v10, S11, hst⟩ := hst.openD3 0 rfl rfl rfl rfl
 have hst := hst.toRow1 3 rfl
 obtain ⟨b12, rfl⟩ := hst.fptr 2 rfl
 obtain ⟨l13, a14, c15, rfl⟩ := hst.len 3 rfl
 have hst : St _ _ _ [jD b1 94 [.pointer (some ⟨b12, 0, none⟩), .slice a14 (p0.Told).length c15, .int .i64 p0.Mode, .int .i64 p0.Hook, .int .i64 p0.Ev.N, .int .u64 p0.Ev.Ev.A, .int .u64 p0.Ev.Ev.B, .int .i64 p0.Version, .int .i64 p0.Prog, .int .i64 p0.Calls, v10], _, _, _, _] := hst
 refine CW.region ?_
 refine OW.pure 3 [(9, .pointer (some ⟨b1, 2, none⟩))] (by kernel_rfl) ?_
 refine OW.ld rfl rfl rfl rfl (by kernel_rfl) (hst.blk 0 rfl rfl) ?_
 refine OW.pure 1 [(11, .bool (p0.Mode != 2))] (by kernel_rfl) ?_
 refine OW.nil rfl ?_
 refine QW.next ?_
 rcases zft ((p0.Mode != 2)) with hc16 | hc16
 ·have hF := zaS hF hc16
  refine CW.cond_t rfl hc16 ?_
  refine CW.seq ?_
  refine CW.region ?_
  refine OW.pure 1 [(12, .agg [.int .i64 0, .int .i64 0, .int .i64 0, .int .i64 0, .int .u64 0, .int .u64 0, .int .u64 0].toArray)] (by kernel_rfl) ?_
  refine OW.stB hst 1 rfl rfl rfl rfl rfl (by kernel_rfl) rfl rfl [.int .i64 0, .int .i64 0, .int .i64 0, .int .i64 0, .int .u64 0, .int .u64 0, .int .u64 0] rfl ?_
  intro w18 hst
  refine OW.pure 1 [(3, .bool false)] (by kernel_rfl) ?_
  refine OW.nil rfl ?_
  refine QW.next ?_
  refine CW.ret ?_
  refine QW.then_ret ?_
  have hst := hst.toIt 3 rfl (fun _ => rfl) (by decide)
  obtain ⟨S19, hst⟩ := hst.shutD3 (zbj wb Sb) rfl 0 2 3 4 [1] rfl rfl rfl rfl rfl p0 rfl rfl
  obtain rfl := Option.some.inj hF
  refine QW.ret_ct rfl rfl (zan (cs := [.int .i64 0, .int .i64 0, .int .i64 0, .int .i64 0, .int .u64 0, .int .u64 0, .int .u64 0]) (by kernel_rfl) (by kernel_rfl) (hst.blkN 0 rfl 0 7)) rfl ?_
  exact ⟨S19, rfl, hst.keep [1] rfl⟩
 ·have hF := zaT hF hc16
  refine CW.cond_f rfl hc16 ?_
  refine CW.skip ?_
  refine QW.next ?_
  refine CW.seq ?_
  refine CW.region ?_
  refine OW.pure 3 [(15, .pointer (some ⟨b1, 10, none⟩))] (by kernel_rfl) ?_
  refine OW.ld rfl rfl rfl rfl (by kernel_rfl) (hst.blk 0 rfl rfl) ?_
  obtain ⟨y32, hy33, hF⟩ := zn hF
  have hst := hst.optSome 4 rfl hy33
  obtain ⟨b34, rfl⟩ := hst.fptr 4 rfl
  obtain ⟨r35, hr36, hF⟩ := zn hF
  refine OW.fn rfl rfl rfl rfl (by kernel_rfl) (zc8 _ wb Sb fu (.pointer (some ⟨b34, 0, none⟩)) S11 y32 (.pointer (some ⟨b12, 0, none⟩)) S7 p0.Book r35 hr36 (hst.part [4, 2] rfl) (hb.on hst [4, 2])) ?_
  rintro e w37 ⟨S39, S40, rfl, hst38⟩
  refine ⟨_, rfl, ?_⟩
  have hst := hst.join (idx := [4, 2]) (rest := [0, 1, 3]) rfl hst38
  refine OW.alloc hst rfl rfl rfl [.int .i64 0, .int .i64 0, .int .i64 0, .int .i64 0, .int .u64 0, .int .u64 0, .int .u64 0] (by kernel_rfl) ?_
  intro b41 w42 hst
  refine OW.stB hst 5 rfl rfl rfl rfl rfl (by kernel_rfl) rfl rfl [.int .i64 r35.1.Ki, .int .i64 r35.1.Pc, .int .i64 r35.1.It.Map, .int .i64 r35.1.It.Op, .int .u64 r35.1.It.Key, .int .u64 r35.1.It.Val, .int .u64 r35.1.Val] rfl ?_
  intro w43 hst
  refine OW.nil rfl ?_
  refine QW.next ?_
  refine CW.seq ?_
  refine CW.seq ?_
  refine CW.region ?_
  refine OW.pure 1 [(18, .pointer (some ⟨b41, 0, none⟩))] (by kernel_rfl) ?_
  refine OW.ld rfl rfl rfl rfl (by kernel_rfl) (hst.blk 5 rfl rfl) ?_
  refine OW.pure 1 [(20, .bool (r35.1.Ki == 2))] (by kernel_rfl) ?_
  refine OW.nil rfl ?_
  refine QW.next ?_
  obtain ⟨o52, ho53, hF⟩ := zn hF
  refine CW.cutK (fun a w1 => ∃ (S51 : List Nat), Rep 68 [(0, .pointer (some ⟨b1, 0, none⟩)), (2, .pointer (some ⟨b4, 0, none⟩)), (4, .pointer (some ⟨b41, 0, none⟩))] a /\ St w (fp [itI (xi wb Sb) [.pointer (some ⟨b1, 0, none⟩)] S0 p0]) w1 [itI (xi wb Sb) [.pointer (some ⟨b1, 0, none⟩)] S51 o52, jD b4 71 [.int .i64 0, .int .i64 0, .int .i64 0, .int .i64 0, .int .u64 0, .int .u64 0, .int .u64 0], jD b41 71 [.int .i64 r35.1.Ki, .int .i64 r35.1.Pc, .int .i64 r35.1.It.Map, .int .i64 r35.1.It.Op, .int .u64 r35.1.It.Key, .int .u64 r35.1.It.Val, .int .u64 r35.1.Val]]) ?_ ?_
  ·rcases zft ((r35.1.Ki == 2)) with hc54 | hc54
   ·have ho53 := zaS ho53 hc54
    refine CW.cond_t rfl hc54 ?_
    refine CW.seq ?_
    refine CW.region ?_
    refine OW.pure 3 [(23, .pointer (some ⟨b1, 2, none⟩))] (by kernel_rfl) ?_
    refine OW.stB hst 2 rfl rfl rfl rfl rfl (by kernel_rfl) rfl rfl [.pointer (some ⟨b12, 0, none⟩), .slice a14 (p0.Told).length c15, .int .i64 3, .int .i64 p0.Hook, .int .i64 p0.Ev.N, .int .u64 p0.Ev.Ev.A, .int .u64 p0.Ev.Ev.B, .int .i64 p0.Version, .int .i64 p0.Prog, .int .i64 p0.Calls, .pointer (some ⟨b34, 0, none⟩)] rfl ?_
    intro w56 hst
    refine OW.nil rfl ?_
    refine QW.next ?_
    refine CW.region ?_
    refine OW.pure 3 [(24, .pointer (some ⟨b1, 0, none⟩)), (26, .pointer (some ⟨b1, 9, none⟩))] (by kernel_rfl) ?_
    refine OW.ld rfl rfl rfl rfl (by kernel_rfl) (hst.blk 2 rfl rfl) ?_
    refine OW.pure 3 [(28, .int .i64 (w64 (p0.Calls + 1))), (30, .pointer (some ⟨b1, 9, none⟩))] (by kernel_rfl) ?_
    refine OW.stB hst 2 rfl rfl rfl rfl rfl (by kernel_rfl) rfl rfl [.pointer (some ⟨b12, 0, none⟩), .slice a14 (p0.Told).length c15, .int .i64 3, .int .i64 p0.Hook, .int .i64 p0.Ev.N, .int .u64 p0.Ev.Ev.A, .int .u64 p0.Ev.Ev.B, .int .i64 p0.Version, .int .i64 p0.Prog, .int .i64 (w64 (p0.Calls + 1)), .pointer (some ⟨b34, 0, none⟩)] rfl ?_
    intro w58 hst
    refine OW.nil rfl ?_
    have hst := hst.toOpt 0 rfl
    have hst := hst.toIt 4 rfl (fun _ => rfl) (by decide)
    obtain ⟨S59, hst⟩ := hst.shutD3 (zbj wb Sb) rfl 2 1 4 0 [3, 5] rfl rfl rfl rfl rfl (zd.mk r35.2.2 p0.Told 3 p0.Hook p0.Ev p0.Version p0.Prog (w64 (p0.Calls + 1)) (some r35.2.1)) rfl rfl
    obtain rfl := Option.some.inj ho53
    exact QW.meet (fun a ha => ⟨S59, ha.agrees (by kernel_rfl), hst.keep [2, 0, 1] rfl⟩)
   ·have ho53 := zaT ho53 hc54
    refine CW.cond_f rfl hc54 ?_
    refine CW.skip ?_
    have hst := hst.toOpt 0 rfl
    have hst := hst.toIt 4 rfl (fun _ => rfl) (by decide)
    obtain ⟨S60, hst⟩ := hst.shutD3 (zbj wb Sb) rfl 2 1 4 0 [3, 5] rfl rfl rfl rfl rfl (zd.mk r35.2.2 p0.Told p0.Mode p0.Hook p0.Ev p0.Version p0.Prog p0.Calls (some r35.2.1)) rfl rfl
    obtain rfl := Option.some.inj ho53
    exact QW.meet (fun a ha => ⟨S60, ha.agrees (by kernel_rfl), hst.keep [2, 0, 1] rfl⟩)
  ·rintro a w1 ⟨S51, ha, hst⟩
   refine CW.go ?_ ha
   refine CW.seq ?_
   refine CW.seq ?_
   refine CW.region ?_
   refine OW.pure 1 [(31, .pointer (some ⟨b41, 0, none⟩))] (by kernel_rfl) ?_
   refine OW.ld rfl rfl rfl rfl (by kernel_rfl) (hst.blk 2 rfl rfl) ?_
   refine OW.pure 1 [(33, .bool (r35.1.Ki == 4))] (by kernel_rfl) ?_
   refine OW.nil rfl ?_
   refine QW.next ?_
   rcases zft ((r35.1.Ki == 4)) with hc61 | hc61
   ·have hF := zaS hF hc61
    refine CW.cond_t rfl hc61 ?_
    refine CW.seq ?_
    obtain ⟨v62, S63, v64, S65, v66, S67, hst⟩ := hst.openD3 0 rfl rfl rfl rfl
    have hst := hst.toRow1 4 rfl
    obtain ⟨b68, rfl⟩ := hst.fptr 3 rfl
    obtain ⟨l69, a70, c71, rfl⟩ := hst.len 4 rfl
    have hst : St _ _ _ [jD b1 94 [.pointer (some ⟨b68, 0, none⟩), .slice a70 (o52.Told).length c71, .int .i64 o52.Mode, .int .i64 o52.Hook, .int .i64 o52.Ev.N, .int .u64 o52.Ev.Ev.A, .int .u64 o52.Ev.Ev.B, .int .i64 o52.Version, .int .i64 o52.Prog, .int .i64 o52.Calls, v66], _, _, _, _, _] := hst
    refine CW.plan (by kernel_rfl) ?_
    intro w110 hch111
    have hst := hst.same hch111
    refine OA.pure [0, 1, 2] [(37, .pointer (some ⟨b1, 1, none⟩))] (by kernel_rfl) ?_
    refine OA.ld (i := 3) rfl (by kernel_rfl) rfl rfl rfl (by kernel_rfl) (hst.blk 0 rfl rfl) ?_
    refine OA.pure [4, 5, 6] [(41, .pointer (some ⟨b1, 3, none⟩))] (by kernel_rfl) ?_
    refine OA.ld (i := 7) rfl (by kernel_rfl) rfl rfl rfl (by kernel_rfl) (hst.blk 0 rfl rfl) ?_
    refine OA.pure [8, 9, 10] [(45, .pointer (some ⟨b1, 10, none⟩))] (by kernel_rfl) ?_
    refine OA.ld (i := 11) rfl (by kernel_rfl) rfl rfl rfl (by kernel_rfl) (hst.blk 0 rfl rfl) ?_
    obtain ⟨y112, hy113, hF⟩ := zn hF
    have hst := hst.optSome 5 rfl hy113
    obtain ⟨b114, rfl⟩ := hst.fptr 5 rfl
    obtain ⟨v115, S116, v117, S118, v119, S120, v121, S122, hst⟩ := hst.openQ4 5 rfl rfl rfl rfl rfl
    have hbo123 := hst.borOut 6 rfl
    have hbr124 := hbo123.bor hb
    have hbo125 := hst.borOut 7 rfl
    have hbr126 := hbo125.bor hb
    have hst := hst.toRow1 8 rfl
    have hst := hst.toRow1 9 rfl
    have hst := hst.keep [0, 1, 2, 3, 4, 5, 8, 9] rfl
    obtain ⟨l127, a128, c129, rfl⟩ := hbr124.len
    obtain ⟨l130, a131, c132, rfl⟩ := hbr126.len
    obtain ⟨l133, a134, c135, rfl⟩ := hst.len 6 rfl
    obtain ⟨l136, a137, c138, rfl⟩ := hst.len 7 rfl
    have hst : St _ _ _ [_, _, _, _, _, jD b114 233 [.slice a128 (y112.M.Ms).length c129, .slice a131 (y112.M.Co).length c132, .int .u64 y112.E.A, .int .u64 y112.E.B, .pointer (some ⟨b68, 0, none⟩), .slice a134 (y112.Rg).length c135, .slice a137 (y112.Tu).length c138, .int .i64 y112.At, .int .i64 y112.Steps, .int .i64 y112.Mode], _, _] := hst
    refine OA.pure [12, 13] [(48, .pointer (some ⟨b114, 8, none⟩))] (by kernel_rfl) ?_
    refine OA.ld (i := 14) rfl (by kernel_rfl) rfl rfl rfl (by kernel_rfl) (hst.blk 5 rfl rfl) ?_
    refine OA.pure [15, 16, 17, 18] [(50, .int .u64 (qf y112.Steps)), (53, .pointer (some ⟨b1, 9, none⟩))] (by kernel_rfl) ?_
    refine OA.ld (i := 19) rfl (by kernel_rfl) rfl rfl rfl (by kernel_rfl) (hst.blk 0 rfl rfl) ?_
    refine OA.pure [20, 21] [(55, .int .u64 (qf o52.Calls)), (56, .pointer (some ⟨b41, 6, none⟩))] (by kernel_rfl) ?_
    refine OA.ld (i := 22) rfl (by kernel_rfl) rfl rfl rfl (by kernel_rfl) (hst.blk 2 rfl rfl) ?_
    refine OA.act (i := 23) [] (by kernel_rfl) rfl rfl (by kernel_rfl) (by kernel_rfl) ?_
    obtain ⟨r140, hr141, hF⟩ := zn hF
    refine OW.fn rfl rfl rfl rfl (by kernel_rfl) (zfQ _ (.slice a70 (o52.Told).length c71) o52.Told o52.Hook (qf y112.Steps) (qf o52.Calls) r35.1.Val r140 hr141 (hst.part [4] rfl)) ?_
    rintro e w142 ⟨v144, rfl, hst143⟩
    refine ⟨_, rfl, ?_⟩
    have hst := hst.join (idx := [4]) (rest := [0, 1, 2, 3, 5, 6, 7]) rfl hst143
    obtain ⟨l145, a146, c147, rfl⟩ := hst.len 0 rfl
    refine OA.next trivial ?_
    refine OA.pure [24, 25, 26] [(59, .slice a146 (r140.1).length c147), (60, .int .i64 r140.2)] (by kernel_rfl) ?_
    refine OA.act (i := 27) [] (by kernel_rfl) rfl rfl (by kernel_rfl) (by kernel_rfl) ?_
    refine OW.pure 1 [(5, .slice a146 (r140.1).length c147)] (by kernel_rfl) ?_
    refine OA.next trivial ?_
    refine OA.act (i := 28) [] (by kernel_rfl) rfl rfl (by kernel_rfl) (by kernel_rfl) ?_
    refine OW.pure 1 [(6, .int .i64 r140.2)] (by kernel_rfl) ?_
    refine OA.next trivial ?_
    refine OA.fin (by kernel_rfl) (by kernel_rfl) ?_
    refine QW.next ?_
    refine CW.seq ?_
    refine CW.region ?_
    refine OW.pure 4 [(62, .slice a146 (r140.1).length c147), (64, .pointer (some ⟨b1, 1, none⟩))] (by kernel_rfl) ?_
    refine OW.stB hst 1 rfl rfl rfl rfl rfl (by kernel_rfl) rfl rfl [.pointer (some ⟨b68, 0, none⟩), .slice a146 (r140.1).length c147, .int .i64 o52.Mode, .int .i64 o52.Hook, .int .i64 o52.Ev.N, .int .u64 o52.Ev.Ev.A, .int .u64 o52.Ev.Ev.B, .int .i64 o52.Version, .int .i64 o52.Prog, .int .i64 o52.Calls, .pointer (some ⟨b114, 0, none⟩)] rfl ?_
    intro w149 hst
    refine OW.nil rfl ?_
    refine QW.next ?_
    refine CW.region ?_
    refine OW.pure 1 [(65, .pointer (some ⟨b1, 0, none⟩))] (by kernel_rfl) ?_
    have hst := hst.borIn hbo123
    have hst := hst.borIn hbo125
    have hst := hst.toIt 6 rfl (fun _ => rfl) (by decide)
    have hst := hst.toIt 7 rfl (fun _ => rfl) (by decide)
    obtain ⟨S157, hst⟩ := hst.shutP4 (xY wb Sb (.pointer (some ⟨b68, 0, none⟩))) rfl 5 8 9 6 7 [0, 1, 2, 3, 4] rfl rfl rfl rfl rfl rfl (ze.mk y112.M y112.E y112.Rg y112.Tu y112.At y112.Steps y112.Mode) rfl rfl
    have hst := hst.toOpt 5 rfl
    have hst := hst.toIt 0 rfl (fun _ => rfl) (by decide)
    obtain ⟨S158, hst⟩ := hst.shutD3 (zbj wb Sb) rfl 1 4 0 5 [2, 3] rfl rfl rfl rfl rfl (zd.mk o52.Book r140.1 o52.Mode o52.Hook o52.Ev o52.Version o52.Prog o52.Calls (some (ze.mk y112.M y112.E y112.Rg y112.Tu y112.At y112.Steps y112.Mode))) rfl rfl
    obtain ⟨r159, hr160, hF⟩ := zn hF
    refine OW.fn rfl rfl rfl rfl (by kernel_rfl) (zcK _ wb Sb (.pointer (some ⟨b1, 0, none⟩)) S158 (zd.mk o52.Book r140.1 o52.Mode o52.Hook o52.Ev o52.Version o52.Prog o52.Calls (some (ze.mk y112.M y112.E y112.Rg y112.Tu y112.At y112.Steps y112.Mode))) r159 hr160 (hst.part [2] rfl) (hb.on hst [2])) ?_
    rintro e w161 ⟨S163, rfl, hst162⟩
    refine ⟨_, rfl, ?_⟩
    have hst := hst.join (idx := [2]) (rest := [0, 1]) rfl hst162
    refine OW.nil rfl ?_
    refine QW.next ?_
    refine CW.seq ?_
    refine CW.region ?_
    refine OW.ldN (cs := [.int .i64 r35.1.Ki, .int .i64 r35.1.Pc, .int .i64 r35.1.It.Map, .int .i64 r35.1.It.Op, .int .u64 r35.1.It.Key, .int .u64 r35.1.It.Val, .int .u64 r35.1.Val]) rfl rfl rfl rfl (by kernel_rfl) (by kernel_rfl) (hst.blkN 2 rfl 0 7) ?_
    refine OW.stB hst 1 rfl rfl rfl rfl rfl (by kernel_rfl) rfl rfl [.int .i64 r35.1.Ki, .int .i64 r35.1.Pc, .int .i64 r35.1.It.Map, .int .i64 r35.1.It.Op, .int .u64 r35.1.It.Key, .int .u64 r35.1.It.Val, .int .u64 r35.1.Val] rfl ?_
    intro w165 hst
    refine OW.pure 1 [(3, .bool true)] (by kernel_rfl) ?_
    refine OW.nil rfl ?_
    refine QW.next ?_
    refine CW.ret ?_
    obtain rfl := Option.some.inj hF
    refine QW.ret_ct rfl rfl (zan (cs := [.int .i64 r35.1.Ki, .int .i64 r35.1.Pc, .int .i64 r35.1.It.Map, .int .i64 r35.1.It.Op, .int .u64 r35.1.It.Key, .int .u64 r35.1.It.Val, .int .u64 r35.1.Val]) (by kernel_rfl) (by kernel_rfl) (hst.blkN 1 rfl 0 7)) rfl ?_
    exact ⟨S163, rfl, hst.keep [0] rfl⟩
   ·have hF := zaT hF hc61
    refine CW.cond_f rfl hc61 ?_
    refine CW.skip ?_
    refine QW.next ?_
    refine CW.seq ?_
    refine CW.region ?_
    refine OW.ldN (cs := [.int .i64 r35.1.Ki, .int .i64 r35.1.Pc, .int .i64 r35.1.It.Map, .int .i64 r35.1.It.Op, .int .u64 r35.1.It.Key, .int .u64 r35.1.It.Val, .int .u64 r35.1.Val]) rfl rfl rfl rfl (by kernel_rfl) (by kernel_rfl) (hst.blkN 2 rfl 0 7) ?_
    refine OW.stB hst 1 rfl rfl rfl rfl rfl (by kernel_rfl) rfl rfl [.int .i64 r35.1.Ki, .int .i64 r35.1.Pc, .int .i64 r35.1.It.Map, .int .i64 r35.1.It.Op, .int .u64 r35.1.It.Key, .int .u64 r35.1.It.Val, .int .u64 r35.1.Val] rfl ?_
    intro w167 hst
    refine OW.pure 1 [(3, .bool true)] (by kernel_rfl) ?_
    refine OW.nil rfl ?_
    refine QW.next ?_
    refine CW.ret ?_
    obtain rfl := Option.some.inj hF
    refine QW.ret_ct rfl rfl (zan (cs := [.int .i64 r35.1.Ki, .int .i64 r35.1.Pc, .int .i64 r35.1.It.Map, .int .i64 r35.1.It.Op, .int .u64 r35.1.It.Key, .int .u64 r35.1.It.Val, .int .u64 r35.1.Val]) (by kernel_rfl) (by kernel_rfl) (hst.blkN 1 rfl 0 7)) rfl ?_
    exact ⟨S51, rfl, hst.keep [0] rfl⟩
instance tappetref23_Worker_Step_g {fu : Nat} {p0 : zd} : HasC (zV fu p0) (∀ (wb : World) (Sb : List Nat) (b1 : Nat) (S0 : List Nat), Ctr Tryz.prog 84 [.pointer (some ⟨b1, 0, none⟩)] [.bo wb Sb] [itI (xi wb Sb) [.pointer (some ⟨b1, 0, none⟩)] S0 p0] (zV fu p0) (fun (r : zA × Bool × zd) (i : (List Nat) × Unit) => (.tuple #[.agg [.int .i64 r.1.Ki, .int .i64 r.1.Pc, .int .i64 r.1.It.Map, .int .i64 r.1.It.Op, .int .u64 r.1.It.Key, .int .u64 r.1.It.Val, .int .u64 r.1.Val].toArray, .bool r.2.1], [itI (xi wb Sb) [.pointer (some ⟨b1, 0, none⟩)] i.1 r.2.2]))) := ⟨fun wb Sb b1 S0 => ⟨fun w r a hst hF => by
  refine (zcL w wb Sb fu _ _ _ r hF hst (a.1)).mono ?_
  rintro e w' ⟨s0, rfl, hst⟩
  exact ⟨(s0, ()), rfl, hst⟩⟩⟩
instance tappetlaw23_steps_g {fu : Nat} {p0 : zg} {p1 : zd} {p2 : Int} : HasC (ju fu p0 p1 p2) (∀ (wb : World) (Sb : List Nat) (b1 : Nat) (b2 : Nat) (S0 : List Nat) (S1 : List Nat), Ctr Tryz.prog 28 [.pointer (some ⟨b1, 0, none⟩), .pointer (some ⟨b2, 0, none⟩), .int .i64 p2] [.bo wb Sb, .rd (.slice (some ⟨0, 0, none⟩) 7 7) zM 5 zaq] [itI qF [.pointer (some ⟨b1, 0, none⟩)] S0 p0, itI (xi wb Sb) [.pointer (some ⟨b2, 0, none⟩)] S1 p1] (ju fu p0 p1 p2) (fun (r : Bool × zg × zd) (i : (List Nat) × (List Nat) × Unit) => (.bool r.1, [itI qF [.pointer (some ⟨b1, 0, none⟩)] i.1 r.2.1, itI (xi wb Sb) [.pointer (some ⟨b2, 0, none⟩)] i.2.1 r.2.2]))) := ⟨fun wb Sb b1 b2 S0 S1 => .w (wk Tryz.func28 [.p 1, .fi, .p 1, .fi, .dn 0, .cs [] (fun (t131 : zg × zd) (i : (List Nat) × (List Nat) × Unit) => []) [0, 0] (fun (t131 : zg × zd) (i : (List Nat) × (List Nat) × Unit) => [itI qF [.pointer (some ⟨b1, 0, none⟩)] i.1 t131.1, itI (xi wb Sb) [.pointer (some ⟨b2, 0, none⟩)] i.2.1 t131.2]) [.lg [0, 1, 2] (fun (s215 : zg × zd × Int) (i : (List Nat) × (List Nat) × Unit) => [(7, .int .i64 s215.2.2)]) [0, 0] (fun (s215 : zg × zd × Int) (i : (List Nat) × (List Nat) × Unit) => [itI qF [.pointer (some ⟨b1, 0, none⟩)] i.1 s215.1, itI (xi wb Sb) [.pointer (some ⟨b2, 0, none⟩)] i.2.1 s215.2.1]) [0, 1], .p 3, .fi, .br [.p 1, .ca [0] [.f 1] [1], .p 3, .al 71 [.int .i64 0, .int .i64 0, .int .i64 0, .int .i64 0, .int .u64 0, .int .u64 0, .int .u64 0], .st 2 0 7, .p 1, .fi, .p 1, .ca [1] [.b 0] [0, 2], .p 3, .al 71 [.int .i64 0, .int .i64 0, .int .i64 0, .int .i64 0, .int .u64 0, .int .u64 0, .int .u64 0], .st 3 0 7, .p 1, .fi, .ck [0, 1, 2, 7] (fun (o252 : Bool) (i : Unit) => [(34, .bool o252)]) [2, 1] (fun (o252 : Bool) (i : Unit) => []) [.lN 2 0 7, .lN 3 0 7, .kv .sn, .p 1, .sp 30 [.p 4, .fi, .mt [1, 0]] [.p 4, .fi, .mt [1, 0]]], .br [.p 1, .fi, .pop 2, .rt [0, 1]] [.p 3, .fi, .bg [0, 1]]] [.mt [0, 1]]], .p 1, .fi, .rt [0, 1]])⟩
instance sigs_Value_g {p0 : Int} {p1 : xz} : HasC (zbc p0 p1) (Ctr Tryz.prog 120 [.int .i64 p0, .agg [.int .i64 p1.E, .bool p1.Found, .int .u64 p1.Val, .bool p1.Out, .int .u64 p1.OutKey, .int .u64 p1.OutVal].toArray] [] [] (zbc p0 p1) (fun (r : Int) (i : Unit) => (.int .u64 r, []))) := ⟨.w (wk Tryz.func120 [.bx 40 6, .p 1, .fi, .p 1, .fi, .p 1, .fi, .p 2, .fi, .ck [3, 5, 6] (fun (o6 : Bool) (i : Unit) => [(7, .bool o6)]) [1] (fun (o6 : Bool) (i : Unit) => []) [.br [.mt [0]] [.p 2, .fi, .mt [0]]], .br [.p 1, .ld 0 2, .p 1, .fi, .rt []] [.p 2, .fi, .ck [3, 5, 6] (fun (o11 : Bool) (i : Unit) => [(12, .bool o11)]) [1] (fun (o11 : Bool) (i : Unit) => []) [.br [.mt [0]] [.p 2, .fi, .mt [0]]], .br [.p 1, .ld 0 1, .p 1, .fi, .p 1, .fi, .br [.p 1, .fi, .rt []] [.p 1, .fi, .rt []]] [.p 2, .fi, .br [.p 1, .ld 0 0, .p 2, .fi, .p 1, .fi, .br [.p 1, .fi, .rt []] [.p 1, .fi, .rt []]] [.p 1, .fi, .cf, .p 1, .fi, .rt []]]]])⟩
instance engine_Machine_Answer_g {p0 : zh} {p1 : xz} {g0 : zk} : HasC (jR p0 p1 g0) (∀ (b1 : Nat) (b2 : Nat) (S0 : List Nat) (S2 : List Nat), Ctr Tryz.prog 85 [.pointer (some ⟨b1, 0, none⟩), .agg [.int .i64 p1.E, .bool p1.Found, .int .u64 p1.Val, .bool p1.Out, .int .u64 p1.OutKey, .int .u64 p1.OutVal].toArray] [] [itI (zd9 (.pointer (some ⟨b2, 0, none⟩))) [.pointer (some ⟨b1, 0, none⟩)] S0 p0, itI zdx [.pointer (some ⟨b2, 0, none⟩)] S2 g0] (jR p0 p1 g0) (fun (r : Int × zh) (i : (List Nat) × (List Nat) × Unit) => (.int .i64 r.1, [itI (zd9 (.pointer (some ⟨b2, 0, none⟩))) [.pointer (some ⟨b1, 0, none⟩)] i.1 r.2, itI zdx [.pointer (some ⟨b2, 0, none⟩)] i.2.1 g0]))) := ⟨fun b1 b2 S0 S2 => .w (wk Tryz.func85 [.bx 40 6, .p 1, .fi, .op 0 0 [0, 0], .p 3, .ld 0 79, .p 1, .fi, .br [.p 1, .fi, .sh 0 [.r 3, .r 4] [1, 2] (vi (.pointer (some ⟨b2, 0, none⟩))), .rt [2, 0]] [.pl, .q [0, 1, 2, 3, 4], .l 5 (.ld 0 3), .q [6, 7, 8], .l 9 (.ld 0 77), .bo 4, .lv 10 (.ix 0 5), .q [11], .l 12 (.lr 4 0 4), .lm 13 (.lN 2 0 6), .q [15, 16], .ac 14 [], .ca [] [] [0, 1, 2, 3, 4], .nx [], .lv 17 (.al), .ac 18 [], .st 0 5 1, .nx [], .fi, .p 3, .ld 0 77, .p 3, .st 0 77 1, .fi, .p 3, .st 0 79 1, .fi, .p 1, .fi, .sh 0 [.r 3, .r 4] [1, 2] (vi (.pointer (some ⟨b2, 0, none⟩))), .rt [2, 0]]])⟩
instance worker_Worker_Answer_g {p0 : zg} {p1 : xz} : HasC (xM p0 p1) (∀ (b1 : Nat) (S0 : List Nat), Ctr Tryz.prog 29 [.pointer (some ⟨b1, 0, none⟩), .agg [.int .i64 p1.E, .bool p1.Found, .int .u64 p1.Val, .bool p1.Out, .int .u64 p1.OutKey, .int .u64 p1.OutVal].toArray] [] [itI qF [.pointer (some ⟨b1, 0, none⟩)] S0 p0] (xM p0 p1) (fun (r : Int × zg) (i : (List Nat) × Unit) => (.int .i64 r.1, [itI qF [.pointer (some ⟨b1, 0, none⟩)] i.1 r.2]))) := ⟨fun b1 S0 => .w (wk Tryz.func29 [.bx 40 6, .p 1, .fi, .op 0 0 [8, 2], .p 3, .ld 0 2, .p 1, .fi, .br [.p 1, .fi, .sh 0 [.s, .r 2, .r 3, .r 4] [1] zbm, .rt [1]] [.p 3, .st 0 2 1, .fi, .tl 6, .p 4, .ld 0 10, .lN 1 0 6, .fi, .fo 4, .ca [4, 2] [] [0, 1, 3], .p 1, .fi, .sh 2 [.s, .r 1, .r 4, .os 0] [3] zbm, .rt [1]]])⟩
instance tappetref08_Value_g {p0 : Int} {p1 : xz} : HasC (xW p0 p1) (Ctr Tryz.prog 121 [.int .i64 p0, .agg [.int .i64 p1.E, .bool p1.Found, .int .u64 p1.Val, .bool p1.Out, .int .u64 p1.OutKey, .int .u64 p1.OutVal].toArray] [] [] (xW p0 p1) (fun (r : Int) (i : Unit) => (.int .u64 r, []))) := ⟨.w (wk Tryz.func121 [.bx 40 6, .p 1, .fi, .sc [0, 3, 10] [] [] [(5, true)], .br [.p 1, .ld 0 2, .p 1, .fi, .rt []] [.sc [31] [(8, .ld 0 1), (15, .ld 0 0)] [] [(5, true), (9, false), (17, false), (18, true)], .kp [], .br [.p 1, .fi, .rt []] [.p 1, .fi, .rt []]]])⟩
end Go.Proofs.YtbmknhpfkpmigaaGreatDoor

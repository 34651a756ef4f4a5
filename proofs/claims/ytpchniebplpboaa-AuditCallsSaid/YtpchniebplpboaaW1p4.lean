/- Written by a program (wip/gen): the walks: each Go function returns what its plain function computes. -/
import Derived.Test.YtpchniebplpboaaProg
import Derived.Test.YtpchniebplpboaaF1
import Derived.Test.YtpchniebplpboaaSq
import Derived.Test.YtpchniebplpboaaPart
import Derived.Test.YtpchniebplpboaaO1
import Derived.Test.YtpchniebplpboaaW1p3
set_option linter.unusedSimpArgs false
namespace Go.Proofs.Ytpchniebplpboaa
open Go.Sx
set_option linter.unusedVariables false
set_option maxRecDepth 10000
set_option maxHeartbeats 4000000
theorem audit_calls_apply_ok (w : World) (v0 : Value) (S0 : List Nat) (p0 : audit_calls) (p1 : api_Entry) (r : Bool × audit_calls) (hF : audit_calls_apply p0 p1 = some r)
    (hst : St w (fp [itI R_t63 [v0] S0 p0]) w [itI R_t63 [v0] S0 p0]) :
    Calls Try.prog 62 [v0, .agg [I p1.What, I p1.Task, I p1.From, I p1.Cmd, I p1.Tag, I p1.Event, I p1.Hook, I p1.Prog, I p1.Version, I p1.Pc, I p1.Item.Map, I p1.Item.Op, U p1.Item.Key, U p1.Item.Val, I p1.Res.E, .bool p1.Res.Found, U p1.Res.Val, .bool p1.Res.Out, U p1.Res.OutKey, U p1.Res.OutVal, U p1.Val, I p1.E].toArray].toArray w (fun e w' => ∃ (s0 : List Nat), e = .returned (.bool r.1) ∧ St w (fp [itI R_t63 [v0] S0 p0]) w' [itI R_t63 [v0] s0 r.2]) := by
 refine CW.start (N := 85) Try.func62 rfl rfl rfl ?_
 obtain ⟨b1, rfl⟩ := hst.fptr 0 rfl
 refine rg ?_
 refine OW.box hst rfl rfl rfl rfl [I p1.What, I p1.Task, I p1.From, I p1.Cmd, I p1.Tag, I p1.Event, I p1.Hook, I p1.Prog, I p1.Version, I p1.Pc, I p1.Item.Map, I p1.Item.Op, U p1.Item.Key, U p1.Item.Val, I p1.Res.E, .bool p1.Res.Found, U p1.Res.Val, .bool p1.Res.Out, U p1.Res.OutKey, U p1.Res.OutVal, U p1.Val, I p1.E] rfl ?_
 intro b4 w5 hst
 refine pu 1 [] (nx (CW.seq (rg ?_)))
 refine pu 1 [(9, .pointer (some ⟨b4, 5, none⟩))] ?_
 refine OW.ld rfl rfl rfl rfl (by kernel_rfl) (hst.blk 1 rfl rfl) ?_
 refine pu 1 [(11, .bool (p1.Event == 0))] (nx ?_)
 refine br ((p1.Event == 0)) hF (fun hF hc6 => ?_) (fun hF hc6 => ?_)
 ·refine CW.seq ?_
  obtain ⟨v7, S8, v9, S10, v11, S12, hst⟩ := hst.openQ3 0 rfl rfl rfl rfl
  obtain ⟨r13, rfl, hst⟩ := hst.toMF1 2 rfl
  obtain ⟨r14, rfl, hst⟩ := hst.toMF1 3 rfl
  obtain ⟨r15, rfl, hst⟩ := hst.toMN1 4 rfl
  have hst : St _ _ _ [blkI b1 90 [.map (some r13), .map (some r14), .map (some r15)], _, _, _, _] := hst
  refine CW.still (by kernel_rfl) (by kernel_rfl) ?_
  intro w18 hch19
  have hst := hst.same hch19
  refine OS.pure 3 [(15, Pt b1)] rfl (by kernel_rfl) ?_
  refine OS.ld rfl rfl rfl rfl rfl (by kernel_rfl) (hst.blk 0 rfl rfl) ?_
  refine OS.pure 1 [(17, .pointer (some ⟨b4, 2, none⟩))] rfl (by kernel_rfl) ?_
  refine OS.ld rfl rfl rfl rfl rfl (by kernel_rfl) (hst.blk 1 rfl rfl) ?_
  refine OS.op (v := .tuple [I ((mget p0.open_ p1.From).getD 0), .bool (mget p0.open_ p1.From).isSome].toArray) rfl rfl rfl rfl rfl (fun a ha => look2F (tk := 3) (te := 3) (kd := .i64) (val := Value.int .i64) 0 (hst.mapIs 2 rfl) rfl rfl rfl (by kernel_rfl) (by kernel_rfl) (by kernel_rfl) a ha) ?_
  refine OS.pure 5 [(5, I ((mget p0.open_ p1.From).getD 0)), (6, .bool (mget p0.open_ p1.From).isSome)] rfl (by kernel_rfl) ?_
  refine OS.fin rfl (QW.next (CW.seq ?_))
  refine CW.cutK (fun a w1 => Rep 85 [(4, .bool ((mget p0.open_ p1.From).isSome && (((mget p0.open_ p1.From).getD 0) == p1.Cmd)))] a ∧ St w (fp [itI R_t63 [Pt b1] S0 p0]) w1 [blkI b1 90 [.map (some r13), .map (some r14), .map (some r15)], mapI r13 (Value.int .i64) p0.open_, mapI r14 (Value.int .i64) p0.count, mN r15 R_t154 S12 p0.asks none]) ?_ ?_
  ·refine CW.region ?_
   refine pu 2 [(23, .bool (mget p0.open_ p1.From).isSome)] ?_
   refine OW.split 23 rfl (fun hc20 => ?_) (fun hc20 => ?_)
   ·refine pu 2 [(24, I ((mget p0.open_ p1.From).getD 0)), (25, .pointer (some ⟨b4, 3, none⟩))] ?_
    refine OW.ld rfl rfl rfl rfl (by kernel_rfl) (hst.blk 1 rfl rfl) ?_
    refine pu 3 [(4, .bool (((mget p0.open_ p1.From).getD 0) == p1.Cmd))] (OW.nil rfl ?_)
    refine QW.say 4 (v := .bool ((mget p0.open_ p1.From).isSome && (((mget p0.open_ p1.From).getD 0) == p1.Cmd))) rfl (by first | (rw [hc20]; done) | (rw [hc20]; rfl) | simp [hc20]) ?_
    exact QW.meet (fun a ha => ⟨ha.ag, hst.keep [0, 2, 3, 4] rfl⟩)
   refine pu 6 [(4, .bool false)] (OW.nil rfl ?_)
   refine QW.say 4 (v := .bool ((mget p0.open_ p1.From).isSome && (((mget p0.open_ p1.From).getD 0) == p1.Cmd))) rfl (by first | (rw [hc20]; done) | (rw [hc20]; rfl) | simp [hc20]) ?_
   exact QW.meet (fun a ha => ⟨ha.ag, hst.keep [0, 2, 3, 4] rfl⟩)
  rintro a w1 ⟨ha, hst⟩
  refine CW.go ?_ ha
  refine CW.ret (QW.then_ret ?_)
  have hst := hst.ofMF 1 rfl
  have hst := hst.ofMF 2 rfl
  have hst := hst.ofMN 3 rfl
  obtain ⟨S21, hst⟩ := hst.shutP3 R_t90 rfl 0 1 2 3 [] rfl rfl rfl rfl rfl p0 rfl rfl
  obtain rfl := inj hF
  refine QW.ret1 rfl rfl ?_
  exact ⟨S21, rfl, hst.keep [0] rfl⟩
 refine CW.skip (QW.next (CW.seq ?_))
 obtain ⟨v22, S23, v24, S25, v26, S27, hst⟩ := hst.openQ3 0 rfl rfl rfl rfl
 obtain ⟨r28, rfl, hst⟩ := hst.toMF1 2 rfl
 obtain ⟨r29, rfl, hst⟩ := hst.toMF1 3 rfl
 obtain ⟨r30, rfl, hst⟩ := hst.toMN1 4 rfl
 have hst : St _ _ _ [blkI b1 90 [.map (some r28), .map (some r29), .map (some r30)], _, _, _, _] := hst
 refine CW.still (by kernel_rfl) (by kernel_rfl) ?_
 intro w38 hch39
 have hst := hst.same hch39
 refine OS.pure 3 [(32, .pointer (some ⟨b1, 2, none⟩))] rfl (by kernel_rfl) ?_
 refine OS.ld rfl rfl rfl rfl rfl (by kernel_rfl) (hst.blk 0 rfl rfl) ?_
 refine OS.pure 1 [(34, .pointer (some ⟨b4, 2, none⟩))] rfl (by kernel_rfl) ?_
 refine OS.ld rfl rfl rfl rfl rfl (by kernel_rfl) (hst.blk 1 rfl rfl) ?_
 obtain ⟨v40, S41, S42, h043, hml44, hst⟩ := hst.mlookS (k := p1.From) (optP 157 R_t157) (fun o => o) 4 rfl (.pointer none) (fun _ => ⟨rfl, rfl⟩) (fun _ _ _ _ h => h) (fun _ _ _ _ h => h)
 refine OS.op (v := .tuple [v40, .bool (mget p0.asks p1.From).isSome].toArray) rfl rfl rfl rfl rfl (fun a ha => mlk2_run (tk := 3) (te := 154) (kd := .i64) (vz := .pointer none) hml44 rfl rfl rfl (by kernel_rfl) (by kernel_rfl) (by kernel_rfl) a ha) ?_
 refine OS.pure 5 [(7, v40), (8, .bool (mget p0.asks p1.From).isSome)] rfl (by kernel_rfl) ?_
 refine OS.fin rfl (QW.next (CW.seq (CW.seq ?_)))
 obtain ⟨o59, ho60, hF⟩ := bs hF
 refine CW.cutK (fun a w1 => ∃ (v57 : Value) (S58 : List Nat), Rep 85 [(3, Pt b4), (7, v57), (76, .bool o59)] a ∧ St w (fp [itI R_t63 [Pt b1] S0 p0]) w1 [blkI b4 48 [I p1.What, I p1.Task, I p1.From, I p1.Cmd, I p1.Tag, I p1.Event, I p1.Hook, I p1.Prog, I p1.Version, I p1.Pc, I p1.Item.Map, I p1.Item.Op, U p1.Item.Key, U p1.Item.Val, I p1.Res.E, .bool p1.Res.Found, U p1.Res.Val, .bool p1.Res.Out, U p1.Res.OutKey, U p1.Res.OutVal, U p1.Val, I p1.E], itI (optP 157 R_t157) [v57] S58 (mget p0.asks p1.From), mN r30 R_t154 S41 p0.asks (some (p1.From, v57)), blkI b1 90 [.map (some r28), .map (some r29), .map (some r30)], mapI r28 (Value.int .i64) p0.open_, mapI r29 (Value.int .i64) p0.count]) ?_ ?_
 ·refine CW.still (by kernel_rfl) (by kernel_rfl) ?_
  intro w61 hch62
  have hst := hst.same hch62
  refine OS.pure 3 [(41, .bool (!(mget p0.asks p1.From).isSome))] rfl (by kernel_rfl) ?_
  refine OS.split 41 rfl (fun hc63 => ?_) (fun hc63 => ?_)
  ·have ho60 := ite_t ho60 hc63
   refine OS.pure 35 [(76, .bool true)] rfl (by kernel_rfl) ?_
   refine OS.fin rfl ?_
   obtain rfl := inj ho60
   exact QW.meet (fun a ha => ⟨v40, S42, ha.ag, hst.keep [1, 5, 4, 0, 2, 3] rfl⟩)
  have ho60 := ite_f ho60 hc63
  refine OS.pure 1 [(42, v40)] rfl (by kernel_rfl) ?_
  obtain ⟨y64, hy65, ho60⟩ := bs ho60
  have hst := hst.optSome 5 rfl hy65
  obtain ⟨b66, rfl⟩ := hst.fptr 5 rfl
  have hst := hst.openQ0 5 rfl
  refine OS.pure 2 [(44, .pointer (some ⟨b66, 22, none⟩))] rfl (by kernel_rfl) ?_
  refine OS.ld rfl rfl rfl rfl rfl (by kernel_rfl) (hst.blk 5 rfl rfl) ?_
  refine OS.pure 2 [(47, .bool y64.done)] rfl (by kernel_rfl) ?_
  refine OS.split 47 rfl (fun hc67 => ?_) (fun hc67 => ?_)
  ·have ho60 := ite_t ho60 hc67
   refine OS.pure 29 [(76, .bool true)] rfl (by kernel_rfl) ?_
   refine OS.fin rfl ?_
   have hst := hst.shutP0 (enc := enc_audit_ask) (sz := 29) (he := fun _ => rfl) 5 rfl y64 rfl
   have hst := hst.toOptEq 5 rfl hy65
   obtain rfl := inj ho60
   exact QW.meet (fun a ha => ⟨(Pt b66), ([b66]), ha.ag, hst.keep [1, 5, 4, 0, 2, 3] rfl⟩)
  have ho60 := ite_f ho60 hc67
  refine OS.pure 4 [(51, .pointer (some ⟨b66, 5, none⟩))] rfl (by kernel_rfl) ?_
  refine OS.ld rfl rfl rfl rfl rfl (by kernel_rfl) (hst.blk 5 rfl rfl) ?_
  refine OS.pure 1 [(53, .pointer (some ⟨b4, 5, none⟩))] rfl (by kernel_rfl) ?_
  refine OS.ld rfl rfl rfl rfl rfl (by kernel_rfl) (hst.blk 1 rfl rfl) ?_
  refine OS.pure 3 [(57, .bool (y64.Entry.Event != p1.Event))] rfl (by kernel_rfl) ?_
  refine OS.split 57 rfl (fun hc68 => ?_) (fun hc68 => ?_)
  ·have ho60 := ite_t ho60 hc68
   refine OS.pure 19 [(76, .bool true)] rfl (by kernel_rfl) ?_
   refine OS.fin rfl ?_
   have hst := hst.shutP0 (enc := enc_audit_ask) (sz := 29) (he := fun _ => rfl) 5 rfl y64 rfl
   have hst := hst.toOptEq 5 rfl hy65
   obtain rfl := inj ho60
   exact QW.meet (fun a ha => ⟨(Pt b66), ([b66]), ha.ag, hst.keep [1, 5, 4, 0, 2, 3] rfl⟩)
  have ho60 := ite_f ho60 hc68
  refine OS.pure 4 [(61, .pointer (some ⟨b66, 10, none⟩))] rfl (by kernel_rfl) ?_
  refine OS.ldN (cs := [I y64.Entry.Item.Map, I y64.Entry.Item.Op, U y64.Entry.Item.Key, U y64.Entry.Item.Val]) rfl rfl rfl rfl rfl (by kernel_rfl) (by kernel_rfl) (hst.blkN 5 rfl 10 4) ?_
  refine OS.pure 1 [(63, .pointer (some ⟨b4, 10, none⟩))] rfl (by kernel_rfl) ?_
  refine OS.ldN (cs := [I p1.Item.Map, I p1.Item.Op, U p1.Item.Key, U p1.Item.Val]) rfl rfl rfl rfl rfl (by kernel_rfl) (by kernel_rfl) (hst.blkN 1 rfl 10 4) ?_
  refine OS.op (v := .bool (!((y64.Entry.Item.Map == p1.Item.Map) && ((y64.Entry.Item.Op == p1.Item.Op) && ((y64.Entry.Item.Key == p1.Item.Key) && ((y64.Entry.Item.Val == p1.Item.Val) && true)))))) rfl rfl rfl rfl rfl (fun a ha => sneq_run rfl rfl rfl (by kernel_rfl) (by kernel_rfl) a _ ha) ?_
  refine OS.pure 2 [(67, .bool (!((y64.Entry.Item.Map == p1.Item.Map) && ((y64.Entry.Item.Op == p1.Item.Op) && ((y64.Entry.Item.Key == p1.Item.Key) && ((y64.Entry.Item.Val == p1.Item.Val) && true))))))] rfl (by kernel_rfl) ?_
  refine OS.split 67 rfl (fun hc69 => ?_) (fun hc69 => ?_)
  ·have ho60 := ite_t ho60 hc69
   refine OS.pure 9 [(76, .bool true)] rfl (by kernel_rfl) ?_
   refine OS.fin rfl ?_
   have hst := hst.shutP0 (enc := enc_audit_ask) (sz := 29) (he := fun _ => rfl) 5 rfl y64 rfl
   have hst := hst.toOptEq 5 rfl hy65
   obtain rfl := inj ho60
   exact QW.meet (fun a ha => ⟨(Pt b66), ([b66]), ha.ag, hst.keep [1, 5, 4, 0, 2, 3] rfl⟩)
  have ho60 := ite_f ho60 hc69
  refine OS.pure 1 [(68, .pointer (some ⟨b4, 3, none⟩))] rfl (by kernel_rfl) ?_
  refine OS.ld rfl rfl rfl rfl rfl (by kernel_rfl) (hst.blk 1 rfl rfl) ?_
  refine OS.pure 3 [(72, .bool (p1.Cmd != 0))] rfl (by kernel_rfl) ?_
  refine OS.split 72 rfl (fun hc70 => ?_) (fun hc70 => ?_)
  ·have ho60 := ite_t ho60 hc70
   refine OS.pure 4 [(76, .bool true)] rfl (by kernel_rfl) ?_
   refine OS.fin rfl ?_
   have hst := hst.shutP0 (enc := enc_audit_ask) (sz := 29) (he := fun _ => rfl) 5 rfl y64 rfl
   have hst := hst.toOptEq 5 rfl hy65
   obtain rfl := inj ho60
   exact QW.meet (fun a ha => ⟨(Pt b66), ([b66]), ha.ag, hst.keep [1, 5, 4, 0, 2, 3] rfl⟩)
  have ho60 := ite_f ho60 hc70
  refine OS.pure 1 [(73, .pointer (some ⟨b4, 4, none⟩))] rfl (by kernel_rfl) ?_
  refine OS.ld rfl rfl rfl rfl rfl (by kernel_rfl) (hst.blk 1 rfl rfl) ?_
  refine OS.pure 2 [(76, .bool (p1.Tag != 0))] rfl (by kernel_rfl) ?_
  refine OS.fin rfl ?_
  have hst := hst.shutP0 (enc := enc_audit_ask) (sz := 29) (he := fun _ => rfl) 5 rfl y64 rfl
  have hst := hst.toOptEq 5 rfl hy65
  obtain rfl := inj ho60
  exact QW.meet (fun a ha => ⟨(Pt b66), ([b66]), ha.ag, hst.keep [1, 5, 4, 0, 2, 3] rfl⟩)
 rintro a w1 ⟨v57, S58, ha, hst⟩
 refine CW.go ?_ ha
 refine br (o59) hF (fun hF hc71 => ?_) (fun hF hc71 => ?_)
 ·refine rg ?_
  refine pu 1 [(4, .bool false)] (nx (CW.ret (QW.then_ret ?_)))
  obtain ⟨S72, hst⟩ := hst.mback0 (f := (fun o => o)) 2 1 rfl rfl rfl (fun _ _ _ _ h => h)
  have hst := hst.keep [0, 2, 3, 4, 5] rfl
  have hst := hst.ofMF 3 rfl
  have hst := hst.ofMF 4 rfl
  have hst := hst.ofMN 1 rfl
  obtain ⟨S73, hst⟩ := hst.shutP3 R_t90 rfl 2 3 4 1 [0] rfl rfl rfl rfl rfl p0 rfl rfl
  obtain rfl := inj hF
  refine QW.ret1 rfl rfl ?_
  exact ⟨S73, rfl, hst.keep [1] rfl⟩
 refine CW.skip (QW.next (CW.seq ?_))
 refine CW.plan (by kernel_rfl) ?_
 intro w81 hch82
 have hst := hst.same hch82
 refine OA.pure [0, 1, 2] [(77, v57), (78, v57), (79, .pointer (some ⟨b4, 14, none⟩))] (by kernel_rfl) ?_
 refine OA.ldN (i := 3) (cs := [I p1.Res.E, .bool p1.Res.Found, U p1.Res.Val, .bool p1.Res.Out, U p1.Res.OutKey, U p1.Res.OutVal]) rfl (by kernel_rfl) rfl rfl rfl (by kernel_rfl) (by kernel_rfl) (hst.blkN 0 rfl 14 6) ?_
 obtain ⟨y83, hy84, hF⟩ := bs hF
 have hst := hst.optSome 1 rfl hy84
 obtain ⟨b85, rfl⟩ := hst.fptr 1 rfl
 have hst := hst.openQ0 1 rfl
 refine OA.pure [4, 5] [(82, .pointer (some ⟨b85, 22, none⟩))] (by kernel_rfl) ?_
 refine OA.act (i := 6) [3] (by kernel_rfl) rfl rfl (by kernel_rfl) (by kernel_rfl) ?_
 refine OW.stB hst 1 rfl rfl rfl rfl rfl (by kernel_rfl) rfl rfl [I y83.Entry.What, I y83.Entry.Task, I y83.Entry.From, I y83.Entry.Cmd, I y83.Entry.Tag, I y83.Entry.Event, I y83.Entry.Hook, I y83.Entry.Prog, I y83.Entry.Version, I y83.Entry.Pc, I y83.Entry.Item.Map, I y83.Entry.Item.Op, U y83.Entry.Item.Key, U y83.Entry.Item.Val, I y83.Entry.Res.E, .bool y83.Entry.Res.Found, U y83.Entry.Res.Val, .bool y83.Entry.Res.Out, U y83.Entry.Res.OutKey, U y83.Entry.Res.OutVal, U y83.Entry.Val, I y83.Entry.E, .bool true, I y83.res.E, .bool y83.res.Found, U y83.res.Val, .bool y83.res.Out, U y83.res.OutKey, U y83.res.OutVal] rfl ?_
 intro w86 hst
 refine OA.next ⟨(hst.blkN 0 rfl 14 6), trivial⟩ ?_
 refine OA.pure [7, 8] [(84, .pointer (some ⟨b85, 23, none⟩))] (by kernel_rfl) ?_
 refine OA.act (i := 9) [] (by kernel_rfl) rfl rfl (by kernel_rfl) (by kernel_rfl) ?_
 refine OW.stB hst 1 rfl rfl rfl rfl rfl (by kernel_rfl) rfl rfl [I y83.Entry.What, I y83.Entry.Task, I y83.Entry.From, I y83.Entry.Cmd, I y83.Entry.Tag, I y83.Entry.Event, I y83.Entry.Hook, I y83.Entry.Prog, I y83.Entry.Version, I y83.Entry.Pc, I y83.Entry.Item.Map, I y83.Entry.Item.Op, U y83.Entry.Item.Key, U y83.Entry.Item.Val, I y83.Entry.Res.E, .bool y83.Entry.Res.Found, U y83.Entry.Res.Val, .bool y83.Entry.Res.Out, U y83.Entry.Res.OutKey, U y83.Entry.Res.OutVal, U y83.Entry.Val, I y83.Entry.E, .bool true, I p1.Res.E, .bool p1.Res.Found, U p1.Res.Val, .bool p1.Res.Out, U p1.Res.OutKey, U p1.Res.OutVal] rfl ?_
 intro w87 hst
 refine OA.next trivial ?_
 refine OA.fin (by kernel_rfl) (by kernel_rfl) (QW.next (rg ?_))
 refine pu 1 [(4, .bool true)] (nx (CW.ret ?_))
 have hst := hst.shutP0 (enc := enc_audit_ask) (sz := 29) (he := fun _ => rfl) 1 rfl (audit_ask.mk y83.Entry true p1.Res) rfl
 have hst := hst.toOpt 1 rfl
 obtain ⟨S88, hst⟩ := hst.mback (f := (fun o => o)) 2 1 rfl rfl rfl (fun _ _ _ _ h => h) (audit_ask.mk y83.Entry true p1.Res) (fun _ => rfl)
 have hst := hst.keep [0, 2, 3, 4, 5] rfl
 have hst := hst.ofMF 3 rfl
 have hst := hst.ofMF 4 rfl
 have hst := hst.ofMN 1 rfl
 obtain ⟨S89, hst⟩ := hst.shutP3 R_t90 rfl 2 3 4 1 [0] rfl rfl rfl rfl rfl (audit_calls.mk p0.open_ p0.count (mset p0.asks p1.From (audit_ask.mk y83.Entry true p1.Res))) rfl rfl
 obtain rfl := inj hF
 refine QW.ret1 rfl rfl ?_
 exact ⟨S89, rfl, hst.keep [1] rfl⟩
theorem audit_calls_right_ok (w : World) (v0 : Value) (S0 : List Nat) (p0 : audit_calls) (p1 : api_Entry) (r : Bool × audit_calls) (hF : audit_calls_right p0 p1 = some r)
    (hst : St w (fp [itI R_t63 [v0] S0 p0]) w [itI R_t63 [v0] S0 p0]) :
    Calls Try.prog 63 [v0, .agg [I p1.What, I p1.Task, I p1.From, I p1.Cmd, I p1.Tag, I p1.Event, I p1.Hook, I p1.Prog, I p1.Version, I p1.Pc, I p1.Item.Map, I p1.Item.Op, U p1.Item.Key, U p1.Item.Val, I p1.Res.E, .bool p1.Res.Found, U p1.Res.Val, .bool p1.Res.Out, U p1.Res.OutKey, U p1.Res.OutVal, U p1.Val, I p1.E].toArray].toArray w (fun e w' => ∃ (s0 : List Nat), e = .returned (.bool r.1) ∧ St w (fp [itI R_t63 [v0] S0 p0]) w' [itI R_t63 [v0] s0 r.2]) := by
 refine CW.start (N := 166) Try.func63 rfl rfl rfl ?_
 obtain ⟨b1, rfl⟩ := hst.fptr 0 rfl
 refine rg ?_
 refine OW.box hst rfl rfl rfl rfl [I p1.What, I p1.Task, I p1.From, I p1.Cmd, I p1.Tag, I p1.Event, I p1.Hook, I p1.Prog, I p1.Version, I p1.Pc, I p1.Item.Map, I p1.Item.Op, U p1.Item.Key, U p1.Item.Val, I p1.Res.E, .bool p1.Res.Found, U p1.Res.Val, .bool p1.Res.Out, U p1.Res.OutKey, U p1.Res.OutVal, U p1.Val, I p1.E] rfl ?_
 intro b4 w5 hst
 refine pu 1 [] (nx (CW.seq ?_))
 obtain ⟨v6, S7, v8, S9, v10, S11, hst⟩ := hst.openQ3 0 rfl rfl rfl rfl
 obtain ⟨r12, rfl, hst⟩ := hst.toMF1 2 rfl
 obtain ⟨r13, rfl, hst⟩ := hst.toMF1 3 rfl
 obtain ⟨r14, rfl, hst⟩ := hst.toMN1 4 rfl
 have hst : St _ _ _ [blkI b1 90 [.map (some r12), .map (some r13), .map (some r14)], _, _, _, _] := hst
 refine CW.still (by kernel_rfl) (by kernel_rfl) ?_
 intro w17 hch18
 have hst := hst.same hch18
 refine OS.pure 3 [(12, Pt b1)] rfl (by kernel_rfl) ?_
 refine OS.ld rfl rfl rfl rfl rfl (by kernel_rfl) (hst.blk 0 rfl rfl) ?_
 refine OS.pure 1 [(14, .pointer (some ⟨b4, 1, none⟩))] rfl (by kernel_rfl) ?_
 refine OS.ld rfl rfl rfl rfl rfl (by kernel_rfl) (hst.blk 1 rfl rfl) ?_
 refine OS.op (v := .tuple [I ((mget p0.open_ p1.Task).getD 0), .bool (mget p0.open_ p1.Task).isSome].toArray) rfl rfl rfl rfl rfl (fun a ha => look2F (tk := 3) (te := 3) (kd := .i64) (val := Value.int .i64) 0 (hst.mapIs 2 rfl) rfl rfl rfl (by kernel_rfl) (by kernel_rfl) (by kernel_rfl) a ha) ?_
 refine OS.pure 5 [(5, I ((mget p0.open_ p1.Task).getD 0)), (6, .bool (mget p0.open_ p1.Task).isSome)] rfl (by kernel_rfl) ?_
 refine OS.fin rfl (QW.next (CW.seq ?_))
 refine CW.still (by kernel_rfl) (by kernel_rfl) ?_
 intro w26 hch27
 have hst := hst.same hch27
 refine OS.pure 3 [(22, .pointer (some ⟨b1, 2, none⟩))] rfl (by kernel_rfl) ?_
 refine OS.ld rfl rfl rfl rfl rfl (by kernel_rfl) (hst.blk 0 rfl rfl) ?_
 refine OS.pure 1 [(24, .pointer (some ⟨b4, 1, none⟩))] rfl (by kernel_rfl) ?_
 refine OS.ld rfl rfl rfl rfl rfl (by kernel_rfl) (hst.blk 1 rfl rfl) ?_
 obtain ⟨v28, S29, S30, h031, hml32, hst⟩ := hst.mlookS (k := p1.Task) (optP 157 R_t157) (fun o => o) 4 rfl (.pointer none) (fun _ => ⟨rfl, rfl⟩) (fun _ _ _ _ h => h) (fun _ _ _ _ h => h)
 refine OS.op (v := .tuple [v28, .bool (mget p0.asks p1.Task).isSome].toArray) rfl rfl rfl rfl rfl (fun a ha => mlk2_run (tk := 3) (te := 154) (kd := .i64) (vz := .pointer none) hml32 rfl rfl rfl (by kernel_rfl) (by kernel_rfl) (by kernel_rfl) a ha) ?_
 refine OS.pure 5 [(7, v28), (8, .bool (mget p0.asks p1.Task).isSome)] rfl (by kernel_rfl) ?_
 refine OS.fin rfl (QW.next (CW.seq (rg ?_)))
 refine pu 1 [(29, Pt b4)] ?_
 refine OW.ld rfl rfl rfl rfl (by kernel_rfl) (hst.blk 1 rfl rfl) (nx (CW.block (rg ?_)))
 refine pu 2 [(31, .bool (p1.What == 1))] (nx ?_)
 refine br ((p1.What == 1)) hF (fun hF hc33 => ?_) (fun hF hc33 => ?_)
 ·refine CW.seq (CW.seq ?_)
  obtain ⟨o44, ho45, hF⟩ := bs hF
  refine CW.cutK (fun a w1 => ∃ (S43 : List Nat), Rep 166 [(0, Pt b1), (3, Pt b4), (45, .bool o44)] a ∧ St w (fp [itI R_t63 [Pt b1] S0 p0]) w1 [itI R_t63 [Pt b1] S43 p0, blkI b4 48 [I p1.What, I p1.Task, I p1.From, I p1.Cmd, I p1.Tag, I p1.Event, I p1.Hook, I p1.Prog, I p1.Version, I p1.Pc, I p1.Item.Map, I p1.Item.Op, U p1.Item.Key, U p1.Item.Val, I p1.Res.E, .bool p1.Res.Found, U p1.Res.Val, .bool p1.Res.Out, U p1.Res.OutKey, U p1.Res.OutVal, U p1.Val, I p1.E]]) ?_ ?_
  ·refine CW.still (by kernel_rfl) (by kernel_rfl) ?_
   intro w46 hch47
   have hst := hst.same hch47
   refine OS.pure 2 [(34, .bool (mget p0.open_ p1.Task).isSome)] rfl (by kernel_rfl) ?_
   refine OS.split 34 rfl (fun hc48 => ?_) (fun hc48 => ?_)
   ·have ho45 := ite_t ho45 hc48
    refine OS.pure 11 [(45, .bool true)] rfl (by kernel_rfl) ?_
    refine OS.fin rfl ?_
    obtain ⟨S49, hst⟩ := hst.mback0 (f := (fun o => o)) 4 5 rfl rfl rfl (fun _ _ _ _ h => h)
    have hst := hst.keep [0, 1, 2, 3, 4] rfl
    have hst := hst.ofMF 2 rfl
    have hst := hst.ofMF 3 rfl
    have hst := hst.ofMN 4 rfl
    obtain ⟨S50, hst⟩ := hst.shutP3 R_t90 rfl 0 2 3 4 [1] rfl rfl rfl rfl rfl p0 rfl rfl
    obtain rfl := inj ho45
    exact QW.meet (fun a ha => ⟨S50, ha.ag, hst.keep [1, 0] rfl⟩)
   have ho45 := ite_f ho45 hc48
   refine OS.pure 1 [(35, .pointer (some ⟨b4, 3, none⟩))] rfl (by kernel_rfl) ?_
   refine OS.ld rfl rfl rfl rfl rfl (by kernel_rfl) (hst.blk 1 rfl rfl) ?_
   refine OS.pure 3 [(39, .pointer (some ⟨b1, 1, none⟩))] rfl (by kernel_rfl) ?_
   refine OS.ld rfl rfl rfl rfl rfl (by kernel_rfl) (hst.blk 0 rfl rfl) ?_
   refine OS.pure 1 [(41, .pointer (some ⟨b4, 1, none⟩))] rfl (by kernel_rfl) ?_
   refine OS.ld rfl rfl rfl rfl rfl (by kernel_rfl) (hst.blk 1 rfl rfl) ?_
   refine OS.op (v := I ((mget p0.count p1.Task).getD 0)) rfl rfl rfl rfl rfl (fun a ha => look1F (tk := 3) (te := 3) (kd := .i64) (val := Value.int .i64) 0 (hst.mapIs 3 rfl) rfl rfl rfl (by kernel_rfl) (by kernel_rfl) (by kernel_rfl) a ha) ?_
   refine OS.pure 2 [(45, .bool (p1.Cmd != ((mget p0.count p1.Task).getD 0)))] rfl (by kernel_rfl) ?_
   refine OS.fin rfl ?_
   obtain ⟨S51, hst⟩ := hst.mback0 (f := (fun o => o)) 4 5 rfl rfl rfl (fun _ _ _ _ h => h)
   have hst := hst.keep [0, 1, 2, 3, 4] rfl
   have hst := hst.ofMF 2 rfl
   have hst := hst.ofMF 3 rfl
   have hst := hst.ofMN 4 rfl
   obtain ⟨S52, hst⟩ := hst.shutP3 R_t90 rfl 0 2 3 4 [1] rfl rfl rfl rfl rfl p0 rfl rfl
   obtain rfl := inj ho45
   exact QW.meet (fun a ha => ⟨S52, ha.ag, hst.keep [1, 0] rfl⟩)
  rintro a w1 ⟨S43, ha, hst⟩
  refine CW.go ?_ ha
  refine br (o44) hF (fun hF hc53 => ?_) (fun hF hc53 => ?_)
  ·refine rg ?_
   refine pu 1 [(4, .bool false)] (nx (CW.ret (QW.then_ret (QW.block_ret (QW.then_ret ?_)))))
   obtain rfl := inj hF
   refine QW.ret1 rfl rfl ?_
   exact ⟨S43, rfl, hst.keep [0] rfl⟩
  refine CW.skip (QW.next (CW.seq ?_))
  obtain ⟨v54, S55, v56, S57, v58, S59, hst⟩ := hst.openQ3 0 rfl rfl rfl rfl
  obtain ⟨r60, rfl, hst⟩ := hst.toMF1 2 rfl
  obtain ⟨r61, rfl, hst⟩ := hst.toMF1 3 rfl
  obtain ⟨r62, rfl, hst⟩ := hst.toMN1 4 rfl
  have hst : St _ _ _ [blkI b1 90 [.map (some r60), .map (some r61), .map (some r62)], _, _, _, _] := hst
  refine CW.tail 8 (by kernel_rfl) (by kernel_rfl) ?_
  intro w66 hch67
  have hst := hst.same hch67
  refine OS.pure 3 [(48, Pt b1)] rfl (by kernel_rfl) ?_
  refine OS.ld rfl rfl rfl rfl rfl (by kernel_rfl) (hst.blk 0 rfl rfl) ?_
  refine OS.pure 1 [(50, .pointer (some ⟨b4, 1, none⟩))] rfl (by kernel_rfl) ?_
  refine OS.ld rfl rfl rfl rfl rfl (by kernel_rfl) (hst.blk 1 rfl rfl) ?_
  refine OS.pure 1 [(52, .pointer (some ⟨b4, 3, none⟩))] rfl (by kernel_rfl) ?_
  refine OS.ld rfl rfl rfl rfl rfl (by kernel_rfl) (hst.blk 1 rfl rfl) ?_
  refine OS.on ?_
  refine OW.mput (tk := 3) (te := 3) (kd := .i64) (val := Value.int .i64) hst 2 rfl rfl rfl rfl rfl p1.Cmd rfl (by kernel_rfl) (by kernel_rfl) ?_
  intro w68 hst
  refine nx ?_
  refine CW.tail 8 (by kernel_rfl) (by kernel_rfl) ?_
  intro w72 hch73
  have hst := hst.same hch73
  refine OS.pure 3 [(56, .pointer (some ⟨b1, 1, none⟩))] rfl (by kernel_rfl) ?_
  refine OS.ld rfl rfl rfl rfl rfl (by kernel_rfl) (hst.blk 0 rfl rfl) ?_
  refine OS.pure 1 [(58, .pointer (some ⟨b4, 1, none⟩))] rfl (by kernel_rfl) ?_
  refine OS.ld rfl rfl rfl rfl rfl (by kernel_rfl) (hst.blk 1 rfl rfl) ?_
  refine OS.op (v := I ((mget p0.count p1.Task).getD 0)) rfl rfl rfl rfl rfl (fun a ha => look1F (tk := 3) (te := 3) (kd := .i64) (val := Value.int .i64) 0 (hst.mapIs 3 rfl) rfl rfl rfl (by kernel_rfl) (by kernel_rfl) (by kernel_rfl) a ha) ?_
  refine OS.pure 1 [(61, I (w64 (((mget p0.count p1.Task).getD 0) + 1)))] rfl (by kernel_rfl) ?_
  refine OS.on ?_
  refine OW.mput (tk := 3) (te := 3) (kd := .i64) (val := Value.int .i64) hst 3 rfl rfl rfl rfl rfl (w64 (((mget p0.count p1.Task).getD 0) + 1)) rfl (by kernel_rfl) (by kernel_rfl) ?_
  intro w74 hst
  refine OW.nil rfl (QW.block_normal (QW.next (rg ?_)))
  refine pu 1 [(4, .bool true)] (nx (CW.ret ?_))
  have hst := hst.ofMF 2 rfl
  have hst := hst.ofMF 3 rfl
  have hst := hst.ofMN 4 rfl
  obtain ⟨S75, hst⟩ := hst.shutP3 R_t90 rfl 0 2 3 4 [1] rfl rfl rfl rfl rfl (audit_calls.mk (mput p0.open_ p1.Task p1.Cmd) (mput p0.count p1.Task (w64 (((mget p0.count p1.Task).getD 0) + 1))) p0.asks) rfl rfl
  obtain rfl := inj hF
  refine QW.ret1 rfl rfl ?_
  exact ⟨S75, rfl, hst.keep [1] rfl⟩
 refine rg ?_
 refine pu 2 [(62, .bool (p1.What == 2))] (nx ?_)
 refine br ((p1.What == 2)) hF (fun hF hc76 => ?_) (fun hF hc76 => ?_)
 ·refine CW.seq (CW.seq ?_)
  refine CW.cutK (fun a w1 => Rep 166 [(0, Pt b1), (3, Pt b4), (71, .bool ((!(mget p0.open_ p1.Task).isSome) || (((mget p0.open_ p1.Task).getD 0) != p1.Cmd)))] a ∧ St w (fp [itI R_t63 [Pt b1] S0 p0]) w1 [blkI b1 90 [.map (some r12), .map (some r13), .map (some r14)], blkI b4 48 [I p1.What, I p1.Task, I p1.From, I p1.Cmd, I p1.Tag, I p1.Event, I p1.Hook, I p1.Prog, I p1.Version, I p1.Pc, I p1.Item.Map, I p1.Item.Op, U p1.Item.Key, U p1.Item.Val, I p1.Res.E, .bool p1.Res.Found, U p1.Res.Val, .bool p1.Res.Out, U p1.Res.OutKey, U p1.Res.OutVal, U p1.Val, I p1.E], mapI r12 (Value.int .i64) p0.open_, mapI r13 (Value.int .i64) p0.count, mN r14 R_t154 S29 p0.asks (some (p1.Task, v28)), itI (optP 157 R_t157) [v28] S30 (mget p0.asks p1.Task)]) ?_ ?_
  ·refine CW.region ?_
   refine pu 3 [(66, .bool (!(mget p0.open_ p1.Task).isSome))] ?_
   refine OW.split 66 rfl (fun hc77 => ?_) (fun hc77 => ?_)
   ·refine pu 5 [(71, .bool true)] (OW.nil rfl ?_)
    refine QW.say 71 (v := .bool ((!(mget p0.open_ p1.Task).isSome) || (((mget p0.open_ p1.Task).getD 0) != p1.Cmd))) rfl (by first | (rw [hc77]; done) | (rw [hc77]; rfl) | simp [hc77]) ?_
    exact QW.meet (fun a ha => ⟨ha.ag, hst.keep [0, 1, 2, 3, 4, 5] rfl⟩)
   refine pu 2 [(67, I ((mget p0.open_ p1.Task).getD 0)), (68, .pointer (some ⟨b4, 3, none⟩))] ?_
   refine OW.ld rfl rfl rfl rfl (by kernel_rfl) (hst.blk 1 rfl rfl) ?_
   refine pu 2 [(71, .bool (((mget p0.open_ p1.Task).getD 0) != p1.Cmd))] (OW.nil rfl ?_)
   refine QW.say 71 (v := .bool ((!(mget p0.open_ p1.Task).isSome) || (((mget p0.open_ p1.Task).getD 0) != p1.Cmd))) rfl (by first | (rw [hc77]; done) | (rw [hc77]; rfl) | simp [hc77]) ?_
   exact QW.meet (fun a ha => ⟨ha.ag, hst.keep [0, 1, 2, 3, 4, 5] rfl⟩)
  rintro a w1 ⟨ha, hst⟩
  refine CW.go ?_ ha
  refine br (((!(mget p0.open_ p1.Task).isSome) || (((mget p0.open_ p1.Task).getD 0) != p1.Cmd))) hF (fun hF hc78 => ?_) (fun hF hc78 => ?_)
  ·refine rg ?_
   refine pu 1 [(4, .bool false)] (nx (CW.ret (QW.then_ret (QW.block_ret (QW.then_ret ?_)))))
   obtain ⟨S79, hst⟩ := hst.mback0 (f := (fun o => o)) 4 5 rfl rfl rfl (fun _ _ _ _ h => h)
   have hst := hst.keep [0, 1, 2, 3, 4] rfl
   have hst := hst.ofMF 2 rfl
   have hst := hst.ofMF 3 rfl
   have hst := hst.ofMN 4 rfl
   obtain ⟨S80, hst⟩ := hst.shutP3 R_t90 rfl 0 2 3 4 [1] rfl rfl rfl rfl rfl p0 rfl rfl
   obtain rfl := inj hF
   refine QW.ret1 rfl rfl ?_
   exact ⟨S80, rfl, hst.keep [1] rfl⟩
  refine CW.skip (QW.next ?_)
  refine CW.tail 6 (by kernel_rfl) (by kernel_rfl) ?_
  intro w84 hch85
  have hst := hst.same hch85
  refine OS.pure 3 [(74, Pt b1)] rfl (by kernel_rfl) ?_
  refine OS.ld rfl rfl rfl rfl rfl (by kernel_rfl) (hst.blk 0 rfl rfl) ?_
  refine OS.pure 1 [(76, .pointer (some ⟨b4, 1, none⟩))] rfl (by kernel_rfl) ?_
  refine OS.ld rfl rfl rfl rfl rfl (by kernel_rfl) (hst.blk 1 rfl rfl) ?_
  refine OS.on ?_
  refine OW.mdel (tk := 3) (te := 3) (kd := .i64) hst 2 rfl rfl rfl rfl rfl rfl (by kernel_rfl) (by kernel_rfl) ?_
  intro w86 hst
  refine OW.nil rfl (QW.block_normal (QW.next (rg ?_)))
  refine pu 1 [(4, .bool true)] (nx (CW.ret ?_))
  obtain ⟨S87, hst⟩ := hst.mback0 (f := (fun o => o)) 4 5 rfl rfl rfl (fun _ _ _ _ h => h)
  have hst := hst.keep [0, 1, 2, 3, 4] rfl
  have hst := hst.ofMF 2 rfl
  have hst := hst.ofMF 3 rfl
  have hst := hst.ofMN 4 rfl
  obtain ⟨S88, hst⟩ := hst.shutP3 R_t90 rfl 0 2 3 4 [1] rfl rfl rfl rfl rfl (audit_calls.mk (mdel p0.open_ p1.Task) p0.count p0.asks) rfl rfl
  obtain rfl := inj hF
  refine QW.ret1 rfl rfl ?_
  exact ⟨S88, rfl, hst.keep [1] rfl⟩
 refine rg ?_
 refine pu 2 [(78, .bool (p1.What == 16))] (nx ?_)
 refine br ((p1.What == 16)) hF (fun hF hc89 => ?_) (fun hF hc89 => ?_)
 ·refine CW.seq (CW.seq ?_)
  refine CW.cutK (fun a w1 => Rep 166 [(0, Pt b1), (3, Pt b4), (85, .bool ((mget p0.asks p1.Task).isSome || (p1.Event == 0)))] a ∧ St w (fp [itI R_t63 [Pt b1] S0 p0]) w1 [blkI b1 90 [.map (some r12), .map (some r13), .map (some r14)], blkI b4 48 [I p1.What, I p1.Task, I p1.From, I p1.Cmd, I p1.Tag, I p1.Event, I p1.Hook, I p1.Prog, I p1.Version, I p1.Pc, I p1.Item.Map, I p1.Item.Op, U p1.Item.Key, U p1.Item.Val, I p1.Res.E, .bool p1.Res.Found, U p1.Res.Val, .bool p1.Res.Out, U p1.Res.OutKey, U p1.Res.OutVal, U p1.Val, I p1.E], mapI r12 (Value.int .i64) p0.open_, mapI r13 (Value.int .i64) p0.count, mN r14 R_t154 S29 p0.asks (some (p1.Task, v28)), itI (optP 157 R_t157) [v28] S30 (mget p0.asks p1.Task)]) ?_ ?_
  ·refine CW.region ?_
   refine pu 2 [(81, .bool (mget p0.asks p1.Task).isSome)] ?_
   refine OW.split 81 rfl (fun hc90 => ?_) (fun hc90 => ?_)
   ·refine pu 4 [(85, .bool true)] (OW.nil rfl ?_)
    refine QW.say 85 (v := .bool ((mget p0.asks p1.Task).isSome || (p1.Event == 0))) rfl (by first | (rw [hc90]; done) | (rw [hc90]; rfl) | simp [hc90]) ?_
    exact QW.meet (fun a ha => ⟨ha.ag, hst.keep [0, 1, 2, 3, 4, 5] rfl⟩)
   refine pu 1 [(82, .pointer (some ⟨b4, 5, none⟩))] ?_
   refine OW.ld rfl rfl rfl rfl (by kernel_rfl) (hst.blk 1 rfl rfl) ?_
   refine pu 2 [(85, .bool (p1.Event == 0))] (OW.nil rfl ?_)
   refine QW.say 85 (v := .bool ((mget p0.asks p1.Task).isSome || (p1.Event == 0))) rfl (by first | (rw [hc90]; done) | (rw [hc90]; rfl) | simp [hc90]) ?_
   exact QW.meet (fun a ha => ⟨ha.ag, hst.keep [0, 1, 2, 3, 4, 5] rfl⟩)
  rintro a w1 ⟨ha, hst⟩
  refine CW.go ?_ ha
  refine br (((mget p0.asks p1.Task).isSome || (p1.Event == 0))) hF (fun hF hc91 => ?_) (fun hF hc91 => ?_)
  ·refine rg ?_
   refine pu 1 [(4, .bool false)] (nx (CW.ret (QW.then_ret (QW.block_ret (QW.then_ret ?_)))))
   obtain ⟨S92, hst⟩ := hst.mback0 (f := (fun o => o)) 4 5 rfl rfl rfl (fun _ _ _ _ h => h)
   have hst := hst.keep [0, 1, 2, 3, 4] rfl
   have hst := hst.ofMF 2 rfl
   have hst := hst.ofMF 3 rfl
   have hst := hst.ofMN 4 rfl
   obtain ⟨S93, hst⟩ := hst.shutP3 R_t90 rfl 0 2 3 4 [1] rfl rfl rfl rfl rfl p0 rfl rfl
   obtain rfl := inj hF
   refine QW.ret1 rfl rfl ?_
   exact ⟨S93, rfl, hst.keep [1] rfl⟩
  refine CW.skip (QW.next ?_)
  refine CW.plan (by kernel_rfl) ?_
  intro w100 hch101
  have hst := hst.same hch101
  refine OA.pure [0, 1, 2] [(88, .pointer (some ⟨b1, 2, none⟩))] (by kernel_rfl) ?_
  refine OA.ld (i := 3) rfl (by kernel_rfl) rfl rfl rfl (by kernel_rfl) (hst.blk 0 rfl rfl) ?_
  refine OA.pure [4] [(90, .pointer (some ⟨b4, 1, none⟩))] (by kernel_rfl) ?_
  refine OA.ld (i := 5) rfl (by kernel_rfl) rfl rfl rfl (by kernel_rfl) (hst.blk 1 rfl rfl) ?_
  refine OA.ldN (i := 6) (cs := [I p1.What, I p1.Task, I p1.From, I p1.Cmd, I p1.Tag, I p1.Event, I p1.Hook, I p1.Prog, I p1.Version, I p1.Pc, I p1.Item.Map, I p1.Item.Op, U p1.Item.Key, U p1.Item.Val, I p1.Res.E, .bool p1.Res.Found, U p1.Res.Val, .bool p1.Res.Out, U p1.Res.OutKey, U p1.Res.OutVal, U p1.Val, I p1.E]) rfl (by kernel_rfl) rfl rfl rfl (by kernel_rfl) (by kernel_rfl) (hst.blkN 1 rfl 0 22) ?_
  refine OA.pure [7] [(93, .agg [I p1.What, I p1.Task, I p1.From, I p1.Cmd, I p1.Tag, I p1.Event, I p1.Hook, I p1.Prog, I p1.Version, I p1.Pc, I p1.Item.Map, I p1.Item.Op, U p1.Item.Key, U p1.Item.Val, I p1.Res.E, .bool p1.Res.Found, U p1.Res.Val, .bool p1.Res.Out, U p1.Res.OutKey, U p1.Res.OutVal, U p1.Val, I p1.E, .bool false, I 0, .bool false, U 0, .bool false, U 0, U 0].toArray)] (by kernel_rfl) ?_
  refine OA.act (i := 8) [5, 3] (by kernel_rfl) rfl rfl (by kernel_rfl) (by kernel_rfl) ?_
  refine OW.box hst rfl rfl rfl rfl [I p1.What, I p1.Task, I p1.From, I p1.Cmd, I p1.Tag, I p1.Event, I p1.Hook, I p1.Prog, I p1.Version, I p1.Pc, I p1.Item.Map, I p1.Item.Op, U p1.Item.Key, U p1.Item.Val, I p1.Res.E, .bool p1.Res.Found, U p1.Res.Val, .bool p1.Res.Out, U p1.Res.OutKey, U p1.Res.OutVal, U p1.Val, I p1.E, .bool false, I 0, .bool false, U 0, .bool false, U 0, U 0] rfl ?_
  intro b102 w103 hst
  refine OA.next ⟨(hst.blk 1 rfl rfl), (hst.blk 0 rfl rfl), trivial⟩ ?_
  refine OA.act (i := 9) [] (by kernel_rfl) rfl rfl (by kernel_rfl) (by kernel_rfl) ?_
  have hst := hst.keep [0, 1, 2, 3, 4, 6] rfl
  refine OW.mputH (tk := 3) (te := 154) (kd := .i64) hst 4 (audit_ask.mk p1 false (api_Res.mk 0 false 0 false 0 0)) rfl (fun _ _ e => by cases e; rfl) rfl rfl rfl rfl rfl (by kernel_rfl) (by kernel_rfl) ?_
  intro S105 w104 hst
  refine OA.next trivial ?_
  refine OA.fin (by kernel_rfl) (by kernel_rfl) (QW.block_normal (QW.next (rg ?_)))
  refine pu 1 [(4, .bool true)] (nx (CW.ret ?_))
  have hst := hst.shutP0 (enc := enc_audit_ask) (sz := 29) (he := fun _ => rfl) 5 rfl (audit_ask.mk p1 false (api_Res.mk 0 false 0 false 0 0)) rfl
  have hst := hst.toOpt 5 rfl
  obtain ⟨S106, hst⟩ := hst.mback (f := (fun o => o)) 4 5 rfl rfl rfl (fun _ _ _ _ h => h) (audit_ask.mk p1 false (api_Res.mk 0 false 0 false 0 0)) (fun _ => rfl)
  rw [mset_self mget_put] at hst
  have hst := hst.keep [0, 1, 2, 3, 4] rfl
  have hst := hst.ofMF 2 rfl
  have hst := hst.ofMF 3 rfl
  have hst := hst.ofMN 4 rfl
  obtain ⟨S107, hst⟩ := hst.shutP3 R_t90 rfl 0 2 3 4 [1] rfl rfl rfl rfl rfl (audit_calls.mk p0.open_ p0.count (mput p0.asks p1.Task (audit_ask.mk p1 false (api_Res.mk 0 false 0 false 0 0)))) rfl rfl
  obtain rfl := inj hF
  refine QW.ret1 rfl rfl ?_
  exact ⟨S107, rfl, hst.keep [1] rfl⟩
 refine rg ?_
 refine pu 2 [(95, .bool (p1.What == 3))] (nx ?_)
 refine br ((p1.What == 3)) hF (fun hF hc108 => ?_) (fun hF hc108 => ?_)
 ·refine rg ?_
  refine pu 1 [(97, Pt b1)] ?_
  refine OW.ldN (cs := [I p1.What, I p1.Task, I p1.From, I p1.Cmd, I p1.Tag, I p1.Event, I p1.Hook, I p1.Prog, I p1.Version, I p1.Pc, I p1.Item.Map, I p1.Item.Op, U p1.Item.Key, U p1.Item.Val, I p1.Res.E, .bool p1.Res.Found, U p1.Res.Val, .bool p1.Res.Out, U p1.Res.OutKey, U p1.Res.OutVal, U p1.Val, I p1.E]) rfl rfl rfl rfl (by kernel_rfl) (by kernel_rfl) (hst.blkN 1 rfl 0 22) ?_
  have hst := hst.ofMF 2 rfl
  have hst := hst.ofMF 3 rfl
  obtain ⟨S116, hst⟩ := hst.mback0 (f := (fun o => o)) 4 5 rfl rfl rfl (fun _ _ _ _ h => h)
  have hst := hst.keep [0, 1, 2, 3, 4] rfl
  have hst := hst.ofMN 4 rfl
  obtain ⟨S117, hst⟩ := hst.shutP3 R_t90 rfl 0 2 3 4 [1] rfl rfl rfl rfl rfl p0 rfl rfl
  obtain ⟨r118, hr119, hF⟩ := bs hF
  refine OW.fn rfl rfl rfl rfl (by kernel_rfl) (audit_calls_apply_ok _ (Pt b1) S117 p0 p1 r118 hr119 (hst.part [1] rfl)) ?_
  rintro e w120 ⟨S122, rfl, hst121⟩
  refine ⟨_, rfl, ?_⟩
  have hst := hst.join (idx := [1]) (rest := [0]) rfl hst121
  refine pu 1 [(4, .bool r118.1)] (nx (CW.ret (QW.block_ret (QW.then_ret ?_))))
  obtain rfl := inj hF
  refine QW.ret1 rfl rfl ?_
  exact ⟨S122, rfl, hst.keep [0] rfl⟩
 refine rg ?_
 refine pu 2 [(100, .bool (p1.What == 17))] (nx ?_)
 refine br ((p1.What == 17)) hF (fun hF hc123 => ?_) (fun hF hc123 => ?_)
 ·refine CW.seq (CW.seq ?_)
  obtain ⟨o152, ho153, hF⟩ := bs hF
  refine CW.cutK (fun a w1 => ∃ (S151 : List Nat), Rep 166 [(0, Pt b1), (3, Pt b4), (159, .bool o152)] a ∧ St w (fp [itI R_t63 [Pt b1] S0 p0]) w1 [itI R_t63 [Pt b1] S151 p0, blkI b4 48 [I p1.What, I p1.Task, I p1.From, I p1.Cmd, I p1.Tag, I p1.Event, I p1.Hook, I p1.Prog, I p1.Version, I p1.Pc, I p1.Item.Map, I p1.Item.Op, U p1.Item.Key, U p1.Item.Val, I p1.Res.E, .bool p1.Res.Found, U p1.Res.Val, .bool p1.Res.Out, U p1.Res.OutKey, U p1.Res.OutVal, U p1.Val, I p1.E]]) ?_ ?_
  ·refine CW.still (by kernel_rfl) (by kernel_rfl) ?_
   intro w154 hch155
   have hst := hst.same hch155
   refine OS.pure 3 [(104, .bool (!(mget p0.asks p1.Task).isSome))] rfl (by kernel_rfl) ?_
   refine OS.split 104 rfl (fun hc156 => ?_) (fun hc156 => ?_)
   ·have ho153 := ite_t ho153 hc156
    refine OS.pure 55 [(159, .bool true)] rfl (by kernel_rfl) ?_
    refine OS.fin rfl ?_
    obtain ⟨S157, hst⟩ := hst.mback0 (f := (fun o => o)) 4 5 rfl rfl rfl (fun _ _ _ _ h => h)
    have hst := hst.keep [0, 1, 2, 3, 4] rfl
    have hst := hst.ofMF 2 rfl
    have hst := hst.ofMF 3 rfl
    have hst := hst.ofMN 4 rfl
    obtain ⟨S158, hst⟩ := hst.shutP3 R_t90 rfl 0 2 3 4 [1] rfl rfl rfl rfl rfl p0 rfl rfl
    obtain rfl := inj ho153
    exact QW.meet (fun a ha => ⟨S158, ha.ag, hst.keep [1, 0] rfl⟩)
   have ho153 := ite_f ho153 hc156
   refine OS.pure 1 [(105, v28)] rfl (by kernel_rfl) ?_
   obtain ⟨y159, hy160, ho153⟩ := bs ho153
   have hst := hst.optSome 5 rfl hy160
   obtain ⟨b161, rfl⟩ := hst.fptr 5 rfl
   have hst := hst.openQ0 5 rfl
   refine OS.pure 2 [(107, .pointer (some ⟨b161, 22, none⟩))] rfl (by kernel_rfl) ?_
   refine OS.ld rfl rfl rfl rfl rfl (by kernel_rfl) (hst.blk 5 rfl rfl) ?_
   refine OS.pure 3 [(111, .bool (!y159.done))] rfl (by kernel_rfl) ?_
   refine OS.split 111 rfl (fun hc162 => ?_) (fun hc162 => ?_)
   ·have ho153 := ite_t ho153 hc162
    refine OS.pure 48 [(159, .bool true)] rfl (by kernel_rfl) ?_
    refine OS.fin rfl ?_
    have hst := hst.shutP0 (enc := enc_audit_ask) (sz := 29) (he := fun _ => rfl) 5 rfl y159 rfl
    have hst := hst.toOpt 5 rfl
    obtain ⟨S163, hst⟩ := hst.mback (f := (fun o => o)) 4 5 rfl rfl rfl (fun _ _ _ _ h => h) y159 (fun _ => rfl)
    rw [mset_self hy160] at hst
    have hst := hst.keep [0, 1, 2, 3, 4] rfl
    have hst := hst.ofMF 2 rfl
    have hst := hst.ofMF 3 rfl
    have hst := hst.ofMN 4 rfl
    obtain ⟨S164, hst⟩ := hst.shutP3 R_t90 rfl 0 2 3 4 [1] rfl rfl rfl rfl rfl p0 rfl rfl
    obtain rfl := inj ho153
    exact QW.meet (fun a ha => ⟨S164, ha.ag, hst.keep [1, 0] rfl⟩)
   have ho153 := ite_f ho153 hc162
   refine OS.pure 3 [(114, .pointer (some ⟨b161, 23, none⟩))] rfl (by kernel_rfl) ?_
   refine OS.ldN (cs := [I y159.res.E, .bool y159.res.Found, U y159.res.Val, .bool y159.res.Out, U y159.res.OutKey, U y159.res.OutVal]) rfl rfl rfl rfl rfl (by kernel_rfl) (by kernel_rfl) (hst.blkN 5 rfl 23 6) ?_
   refine OS.pure 1 [(116, .pointer (some ⟨b4, 14, none⟩))] rfl (by kernel_rfl) ?_
   refine OS.ldN (cs := [I p1.Res.E, .bool p1.Res.Found, U p1.Res.Val, .bool p1.Res.Out, U p1.Res.OutKey, U p1.Res.OutVal]) rfl rfl rfl rfl rfl (by kernel_rfl) (by kernel_rfl) (hst.blkN 1 rfl 14 6) ?_
   refine OS.op (v := .bool (!((y159.res.E == p1.Res.E) && ((y159.res.Found == p1.Res.Found) && ((y159.res.Val == p1.Res.Val) && ((y159.res.Out == p1.Res.Out) && ((y159.res.OutKey == p1.Res.OutKey) && ((y159.res.OutVal == p1.Res.OutVal) && true)))))))) rfl rfl rfl rfl rfl (fun a ha => sneq_run rfl rfl rfl (by kernel_rfl) (by kernel_rfl) a _ ha) ?_
   refine OS.pure 2 [(120, .bool (!((y159.res.E == p1.Res.E) && ((y159.res.Found == p1.Res.Found) && ((y159.res.Val == p1.Res.Val) && ((y159.res.Out == p1.Res.Out) && ((y159.res.OutKey == p1.Res.OutKey) && ((y159.res.OutVal == p1.Res.OutVal) && true))))))))] rfl (by kernel_rfl) ?_
   refine OS.split 120 rfl (fun hc165 => ?_) (fun hc165 => ?_)
   ·have ho153 := ite_t ho153 hc165
    refine OS.pure 39 [(159, .bool true)] rfl (by kernel_rfl) ?_
    refine OS.fin rfl ?_
    have hst := hst.shutP0 (enc := enc_audit_ask) (sz := 29) (he := fun _ => rfl) 5 rfl y159 rfl
    have hst := hst.toOpt 5 rfl
    obtain ⟨S166, hst⟩ := hst.mback (f := (fun o => o)) 4 5 rfl rfl rfl (fun _ _ _ _ h => h) y159 (fun _ => rfl)
    rw [mset_self hy160] at hst
    have hst := hst.keep [0, 1, 2, 3, 4] rfl
    have hst := hst.ofMF 2 rfl
    have hst := hst.ofMF 3 rfl
    have hst := hst.ofMN 4 rfl
    obtain ⟨S167, hst⟩ := hst.shutP3 R_t90 rfl 0 2 3 4 [1] rfl rfl rfl rfl rfl p0 rfl rfl
    obtain rfl := inj ho153
    exact QW.meet (fun a ha => ⟨S167, ha.ag, hst.keep [1, 0] rfl⟩)
   have ho153 := ite_f ho153 hc165
   refine OS.pure 4 [(124, .pointer (some ⟨b161, 5, none⟩))] rfl (by kernel_rfl) ?_
   refine OS.ld rfl rfl rfl rfl rfl (by kernel_rfl) (hst.blk 5 rfl rfl) ?_
   refine OS.pure 1 [(126, .pointer (some ⟨b4, 5, none⟩))] rfl (by kernel_rfl) ?_
   refine OS.ld rfl rfl rfl rfl rfl (by kernel_rfl) (hst.blk 1 rfl rfl) ?_
   refine OS.pure 3 [(130, .bool (y159.Entry.Event != p1.Event))] rfl (by kernel_rfl) ?_
   refine OS.split 130 rfl (fun hc168 => ?_) (fun hc168 => ?_)
   ·have ho153 := ite_t ho153 hc168
    refine OS.pure 29 [(159, .bool true)] rfl (by kernel_rfl) ?_
    refine OS.fin rfl ?_
    have hst := hst.shutP0 (enc := enc_audit_ask) (sz := 29) (he := fun _ => rfl) 5 rfl y159 rfl
    have hst := hst.toOpt 5 rfl
    obtain ⟨S169, hst⟩ := hst.mback (f := (fun o => o)) 4 5 rfl rfl rfl (fun _ _ _ _ h => h) y159 (fun _ => rfl)
    rw [mset_self hy160] at hst
    have hst := hst.keep [0, 1, 2, 3, 4] rfl
    have hst := hst.ofMF 2 rfl
    have hst := hst.ofMF 3 rfl
    have hst := hst.ofMN 4 rfl
    obtain ⟨S170, hst⟩ := hst.shutP3 R_t90 rfl 0 2 3 4 [1] rfl rfl rfl rfl rfl p0 rfl rfl
    obtain rfl := inj ho153
    exact QW.meet (fun a ha => ⟨S170, ha.ag, hst.keep [1, 0] rfl⟩)
   have ho153 := ite_f ho153 hc168
   refine OS.pure 4 [(134, .pointer (some ⟨b161, 7, none⟩))] rfl (by kernel_rfl) ?_
   refine OS.ld rfl rfl rfl rfl rfl (by kernel_rfl) (hst.blk 5 rfl rfl) ?_
   refine OS.pure 1 [(136, .pointer (some ⟨b4, 7, none⟩))] rfl (by kernel_rfl) ?_
   refine OS.ld rfl rfl rfl rfl rfl (by kernel_rfl) (hst.blk 1 rfl rfl) ?_
   refine OS.pure 3 [(140, .bool (y159.Entry.Prog != p1.Prog))] rfl (by kernel_rfl) ?_
   refine OS.split 140 rfl (fun hc171 => ?_) (fun hc171 => ?_)
   ·have ho153 := ite_t ho153 hc171
    refine OS.pure 19 [(159, .bool true)] rfl (by kernel_rfl) ?_
    refine OS.fin rfl ?_
    have hst := hst.shutP0 (enc := enc_audit_ask) (sz := 29) (he := fun _ => rfl) 5 rfl y159 rfl
    have hst := hst.toOpt 5 rfl
    obtain ⟨S172, hst⟩ := hst.mback (f := (fun o => o)) 4 5 rfl rfl rfl (fun _ _ _ _ h => h) y159 (fun _ => rfl)
    rw [mset_self hy160] at hst
    have hst := hst.keep [0, 1, 2, 3, 4] rfl
    have hst := hst.ofMF 2 rfl
    have hst := hst.ofMF 3 rfl
    have hst := hst.ofMN 4 rfl
    obtain ⟨S173, hst⟩ := hst.shutP3 R_t90 rfl 0 2 3 4 [1] rfl rfl rfl rfl rfl p0 rfl rfl
    obtain rfl := inj ho153
    exact QW.meet (fun a ha => ⟨S173, ha.ag, hst.keep [1, 0] rfl⟩)
   have ho153 := ite_f ho153 hc171
   refine OS.pure 4 [(144, .pointer (some ⟨b161, 8, none⟩))] rfl (by kernel_rfl) ?_
   refine OS.ld rfl rfl rfl rfl rfl (by kernel_rfl) (hst.blk 5 rfl rfl) ?_
   refine OS.pure 1 [(146, .pointer (some ⟨b4, 8, none⟩))] rfl (by kernel_rfl) ?_
   refine OS.ld rfl rfl rfl rfl rfl (by kernel_rfl) (hst.blk 1 rfl rfl) ?_
   refine OS.pure 3 [(150, .bool (y159.Entry.Version != p1.Version))] rfl (by kernel_rfl) ?_
   refine OS.split 150 rfl (fun hc174 => ?_) (fun hc174 => ?_)
   ·have ho153 := ite_t ho153 hc174
    refine OS.pure 9 [(159, .bool true)] rfl (by kernel_rfl) ?_
    refine OS.fin rfl ?_
    have hst := hst.shutP0 (enc := enc_audit_ask) (sz := 29) (he := fun _ => rfl) 5 rfl y159 rfl
    have hst := hst.toOpt 5 rfl
    obtain ⟨S175, hst⟩ := hst.mback (f := (fun o => o)) 4 5 rfl rfl rfl (fun _ _ _ _ h => h) y159 (fun _ => rfl)
    rw [mset_self hy160] at hst
    have hst := hst.keep [0, 1, 2, 3, 4] rfl
    have hst := hst.ofMF 2 rfl
    have hst := hst.ofMF 3 rfl
    have hst := hst.ofMN 4 rfl
    obtain ⟨S176, hst⟩ := hst.shutP3 R_t90 rfl 0 2 3 4 [1] rfl rfl rfl rfl rfl p0 rfl rfl
    obtain rfl := inj ho153
    exact QW.meet (fun a ha => ⟨S176, ha.ag, hst.keep [1, 0] rfl⟩)
   have ho153 := ite_f ho153 hc174
   refine OS.pure 4 [(154, .pointer (some ⟨b161, 9, none⟩))] rfl (by kernel_rfl) ?_
   refine OS.ld rfl rfl rfl rfl rfl (by kernel_rfl) (hst.blk 5 rfl rfl) ?_
   refine OS.pure 1 [(156, .pointer (some ⟨b4, 9, none⟩))] rfl (by kernel_rfl) ?_
   refine OS.ld rfl rfl rfl rfl rfl (by kernel_rfl) (hst.blk 1 rfl rfl) ?_
   refine OS.pure 2 [(159, .bool (y159.Entry.Pc != p1.Pc))] rfl (by kernel_rfl) ?_
   refine OS.fin rfl ?_
   have hst := hst.shutP0 (enc := enc_audit_ask) (sz := 29) (he := fun _ => rfl) 5 rfl y159 rfl
   have hst := hst.toOpt 5 rfl
   obtain ⟨S177, hst⟩ := hst.mback (f := (fun o => o)) 4 5 rfl rfl rfl (fun _ _ _ _ h => h) y159 (fun _ => rfl)
   rw [mset_self hy160] at hst
   have hst := hst.keep [0, 1, 2, 3, 4] rfl
   have hst := hst.ofMF 2 rfl
   have hst := hst.ofMF 3 rfl
   have hst := hst.ofMN 4 rfl
   obtain ⟨S178, hst⟩ := hst.shutP3 R_t90 rfl 0 2 3 4 [1] rfl rfl rfl rfl rfl p0 rfl rfl
   obtain rfl := inj ho153
   exact QW.meet (fun a ha => ⟨S178, ha.ag, hst.keep [1, 0] rfl⟩)
  rintro a w1 ⟨S151, ha, hst⟩
  refine CW.go ?_ ha
  refine br (o152) hF (fun hF hc179 => ?_) (fun hF hc179 => ?_)
  ·refine rg ?_
   refine pu 1 [(4, .bool false)] (nx (CW.ret (QW.then_ret (QW.block_ret (QW.then_ret ?_)))))
   obtain rfl := inj hF
   refine QW.ret1 rfl rfl ?_
   exact ⟨S151, rfl, hst.keep [0] rfl⟩
  refine CW.skip (QW.next ?_)
  obtain ⟨v180, S181, v182, S183, v184, S185, hst⟩ := hst.openQ3 0 rfl rfl rfl rfl
  obtain ⟨r186, rfl, hst⟩ := hst.toMF1 2 rfl
  obtain ⟨r187, rfl, hst⟩ := hst.toMF1 3 rfl
  obtain ⟨r188, rfl, hst⟩ := hst.toMN1 4 rfl
  have hst : St _ _ _ [blkI b1 90 [.map (some r186), .map (some r187), .map (some r188)], _, _, _, _] := hst
  refine CW.tail 6 (by kernel_rfl) (by kernel_rfl) ?_
  intro w193 hch194
  have hst := hst.same hch194
  refine OS.pure 3 [(162, .pointer (some ⟨b1, 2, none⟩))] rfl (by kernel_rfl) ?_
  refine OS.ld rfl rfl rfl rfl rfl (by kernel_rfl) (hst.blk 0 rfl rfl) ?_
  refine OS.pure 1 [(164, .pointer (some ⟨b4, 1, none⟩))] rfl (by kernel_rfl) ?_
  refine OS.ld rfl rfl rfl rfl rfl (by kernel_rfl) (hst.blk 1 rfl rfl) ?_
  refine OS.on ?_
  refine OW.mdelN (tk := 3) (te := 154) (kd := .i64) hst 4 rfl rfl rfl rfl rfl rfl (by kernel_rfl) (by kernel_rfl) ?_
  intro S196 w195 hst
  refine OW.nil rfl (QW.block_normal (QW.next (rg ?_)))
  refine pu 1 [(4, .bool true)] (nx (CW.ret ?_))
  have hst := hst.ofMF 2 rfl
  have hst := hst.ofMF 3 rfl
  have hst := hst.ofMN 4 rfl
  obtain ⟨S197, hst⟩ := hst.shutP3 R_t90 rfl 0 2 3 4 [1] rfl rfl rfl rfl rfl (audit_calls.mk p0.open_ p0.count (mdel p0.asks p1.Task)) rfl rfl
  obtain rfl := inj hF
  refine QW.ret1 rfl rfl ?_
  exact ⟨S197, rfl, hst.keep [1] rfl⟩
 refine CW.skip (QW.block_normal (QW.next (rg ?_)))
 refine pu 1 [(4, .bool true)] (nx (CW.ret ?_))
 obtain ⟨S198, hst⟩ := hst.mback0 (f := (fun o => o)) 4 5 rfl rfl rfl (fun _ _ _ _ h => h)
 have hst := hst.keep [0, 1, 2, 3, 4] rfl
 have hst := hst.ofMF 2 rfl
 have hst := hst.ofMF 3 rfl
 have hst := hst.ofMN 4 rfl
 obtain ⟨S199, hst⟩ := hst.shutP3 R_t90 rfl 0 2 3 4 [1] rfl rfl rfl rfl rfl p0 rfl rfl
 obtain rfl := inj hF
 refine QW.ret1 rfl rfl ?_
 exact ⟨S199, rfl, hst.keep [1] rfl⟩
theorem audit_events_right_ok (w : World) (v0 : Value) (S0 : List Nat) (p0 : audit_events) (p1 : api_Entry) (r : Bool × audit_events) (hF : audit_events_right p0 p1 = some r)
    (hst : St w (fp [itI R_t67 [v0] S0 p0]) w [itI R_t67 [v0] S0 p0]) :
    Calls Try.prog 64 [v0, .agg [I p1.What, I p1.Task, I p1.From, I p1.Cmd, I p1.Tag, I p1.Event, I p1.Hook, I p1.Prog, I p1.Version, I p1.Pc, I p1.Item.Map, I p1.Item.Op, U p1.Item.Key, U p1.Item.Val, I p1.Res.E, .bool p1.Res.Found, U p1.Res.Val, .bool p1.Res.Out, U p1.Res.OutKey, U p1.Res.OutVal, U p1.Val, I p1.E].toArray].toArray w (fun e w' => ∃ (s0 : List Nat), e = .returned (.bool r.1) ∧ St w (fp [itI R_t67 [v0] S0 p0]) w' [itI R_t67 [v0] s0 r.2]) := by
 refine CW.start (N := 73) Try.func64 rfl rfl rfl ?_
 obtain ⟨b1, rfl⟩ := hst.fptr 0 rfl
 refine rg ?_
 refine OW.box hst rfl rfl rfl rfl [I p1.What, I p1.Task, I p1.From, I p1.Cmd, I p1.Tag, I p1.Event, I p1.Hook, I p1.Prog, I p1.Version, I p1.Pc, I p1.Item.Map, I p1.Item.Op, U p1.Item.Key, U p1.Item.Val, I p1.Res.E, .bool p1.Res.Found, U p1.Res.Val, .bool p1.Res.Out, U p1.Res.OutKey, U p1.Res.OutVal, U p1.Val, I p1.E] rfl ?_
 intro b4 w5 hst
 refine pu 1 [] (nx (CW.seq ?_))
 obtain ⟨v6, S7, hst⟩ := hst.openQ1 0 rfl rfl
 obtain ⟨r8, rfl, hst⟩ := hst.toMN1 2 rfl
 have hst : St _ _ _ [blkI b1 93 [I p0.room, I p0.count, .map (some r8)], _, _] := hst
 refine CW.still (by kernel_rfl) (by kernel_rfl) ?_
 intro w19 hch20
 have hst := hst.same hch20
 refine OS.pure 3 [(8, .pointer (some ⟨b1, 2, none⟩))] rfl (by kernel_rfl) ?_
 refine OS.ld rfl rfl rfl rfl rfl (by kernel_rfl) (hst.blk 0 rfl rfl) ?_
 refine OS.pure 1 [(10, .pointer (some ⟨b4, 6, none⟩))] rfl (by kernel_rfl) ?_
 refine OS.ld rfl rfl rfl rfl rfl (by kernel_rfl) (hst.blk 1 rfl rfl) ?_
 obtain ⟨v21, S22, S23, h024, hml25, hst⟩ := hst.mlookS (k := p1.Hook) R_t39 (fun o => o.getD []) 2 rfl (.slice none 0 0) (fun w => ⟨_, rfl, rfl, Owns.nil w _ _ none⟩) (fun _ _ _ _ h => h) (fun _ _ _ _ h => h)
 have hst := hst.toRow1 3 rfl
 obtain ⟨l26, a27, c28, rfl⟩ := hst.len 3 rfl
 refine OS.op (v := .slice a27 (((mget p0.wait p1.Hook).getD [])).length c28) rfl rfl rfl rfl rfl (fun a ha => mlk1_run (tk := 3) (te := 39) (kd := .i64) (vz := .slice none 0 0) hml25 rfl rfl rfl (by kernel_rfl) (by kernel_rfl) (by kernel_rfl) a ha) ?_
 refine OS.pure 1 [(5, .slice a27 (((mget p0.wait p1.Hook).getD [])).length c28)] rfl (by kernel_rfl) ?_
 refine OS.fin rfl (QW.next (CW.seq (rg ?_)))
 refine pu 1 [(13, Pt b4)] ?_
 refine OW.ld rfl rfl rfl rfl (by kernel_rfl) (hst.blk 1 rfl rfl) (nx (CW.block (rg ?_)))
 refine pu 2 [(15, .bool (p1.What == 4))] (nx ?_)
 refine br ((p1.What == 4)) hF (fun hF hc29 => ?_) (fun hF hc29 => ?_)
 ·refine rg ?_
  refine pu 3 [(17, Pt b1), (19, .pointer (some ⟨b1, 1, none⟩))] ?_
  refine OW.ld rfl rfl rfl rfl (by kernel_rfl) (hst.blk 0 rfl rfl) ?_
  refine pu 3 [(21, I (w64 (p0.count + 1))), (23, .pointer (some ⟨b1, 1, none⟩))] ?_
  refine OW.stB hst 0 rfl rfl rfl rfl rfl (by kernel_rfl) rfl rfl [I p0.room, I (w64 (p0.count + 1)), .map (some r8)] rfl ?_
  intro w31 hst
  refine nx (CW.seq (CW.seq ?_))
  refine CW.cutK (fun a w1 => Rep 73 [(0, Pt b1), (3, Pt b4), (5, .slice a27 (((mget p0.wait p1.Hook).getD [])).length c28), (39, .bool ((p1.Event != (w64 (p0.count + 1))) || decide (((((mget p0.wait p1.Hook).getD [])).length : Int) ≥ p0.room)))] a ∧ St w (fp [itI R_t67 [Pt b1] S0 p0]) w1 [blkI b1 93 [I p0.room, I (w64 (p0.count + 1)), .map (some r8)], blkI b4 48 [I p1.What, I p1.Task, I p1.From, I p1.Cmd, I p1.Tag, I p1.Event, I p1.Hook, I p1.Prog, I p1.Version, I p1.Pc, I p1.Item.Map, I p1.Item.Op, U p1.Item.Key, U p1.Item.Val, I p1.Res.E, .bool p1.Res.Found, U p1.Res.Val, .bool p1.Res.Out, U p1.Res.OutKey, U p1.Res.OutVal, U p1.Val, I p1.E], mN r8 R_t39 S22 p0.wait (some (p1.Hook, .slice a27 (((mget p0.wait p1.Hook).getD [])).length c28)), rowI (.slice a27 (((mget p0.wait p1.Hook).getD [])).length c28) 3 (encInt .i64) 1 ((mget p0.wait p1.Hook).getD [])]) ?_ ?_
  ·refine CW.still (by kernel_rfl) (by kernel_rfl) ?_
   intro w35 hch36
   have hst := hst.same hch36
   refine OS.pure 1 [(24, .pointer (some ⟨b4, 5, none⟩))] rfl (by kernel_rfl) ?_
   refine OS.ld rfl rfl rfl rfl rfl (by kernel_rfl) (hst.blk 1 rfl rfl) ?_
   refine OS.pure 3 [(28, .pointer (some ⟨b1, 1, none⟩))] rfl (by kernel_rfl) ?_
   refine OS.ld rfl rfl rfl rfl rfl (by kernel_rfl) (hst.blk 0 rfl rfl) ?_
   refine OS.pure 2 [(31, .bool (p1.Event != (w64 (p0.count + 1))))] rfl (by kernel_rfl) ?_
   refine OS.split 31 rfl (fun hc37 => ?_) (fun hc37 => ?_)
   ·refine OS.pure 8 [(39, .bool true)] rfl (by kernel_rfl) ?_
    refine OS.fin rfl ?_
    refine QW.say 39 (v := .bool ((p1.Event != (w64 (p0.count + 1))) || decide (((((mget p0.wait p1.Hook).getD [])).length : Int) ≥ p0.room))) rfl (by first | (rw [hc37]; done) | (rw [hc37]; rfl) | simp [hc37]) ?_
    exact QW.meet (fun a ha => ⟨ha.ag, hst.keep [0, 1, 2, 3] rfl⟩)
   refine OS.pure 5 [(33, I ((((mget p0.wait p1.Hook).getD [])).length : Int)), (36, Pt b1)] rfl (by kernel_rfl) ?_
   refine OS.ld rfl rfl rfl rfl rfl (by kernel_rfl) (hst.blk 0 rfl rfl) ?_
   refine OS.pure 2 [(39, .bool (decide (((((mget p0.wait p1.Hook).getD [])).length : Int) ≥ p0.room)))] rfl (by kernel_rfl) ?_
   refine OS.fin rfl ?_
   refine QW.say 39 (v := .bool ((p1.Event != (w64 (p0.count + 1))) || decide (((((mget p0.wait p1.Hook).getD [])).length : Int) ≥ p0.room))) rfl (by first | (rw [hc37]; done) | (rw [hc37]; rfl) | simp [hc37]) ?_
   exact QW.meet (fun a ha => ⟨ha.ag, hst.keep [0, 1, 2, 3] rfl⟩)
  rintro a w1 ⟨ha, hst⟩
  refine CW.go ?_ ha
  refine br (((p1.Event != (w64 (p0.count + 1))) || decide (((((mget p0.wait p1.Hook).getD [])).length : Int) ≥ p0.room))) hF (fun hF hc38 => ?_) (fun hF hc38 => ?_)
  ·refine rg ?_
   refine pu 1 [(4, .bool false)] (nx (CW.ret (QW.then_ret (QW.block_ret (QW.then_ret ?_)))))
   have hst := hst.toIt 3 rfl (fun _ => rfl) (by decide)
   obtain ⟨S39, hst⟩ := hst.mback0 (f := (fun o => o.getD [])) 2 3 rfl rfl rfl (fun _ _ _ _ h => h)
   have hst := hst.keep [0, 1, 2] rfl
   have hst := hst.ofMN 2 rfl
   obtain ⟨S40, hst⟩ := hst.shutP1 R_t93 rfl 0 2 [1] rfl rfl rfl (audit_events.mk p0.room (w64 (p0.count + 1)) p0.wait) rfl rfl
   obtain rfl := inj hF
   refine QW.ret1 rfl rfl ?_
   exact ⟨S40, rfl, hst.keep [1] rfl⟩
  refine CW.skip (QW.next ?_)
  refine CW.plan (by kernel_rfl) ?_
  intro w54 hch55
  have hst := hst.same hch55
  refine OA.pure [0, 1, 2] [(42, .pointer (some ⟨b1, 2, none⟩))] (by kernel_rfl) ?_
  refine OA.ld (i := 3) rfl (by kernel_rfl) rfl rfl rfl (by kernel_rfl) (hst.blk 0 rfl rfl) ?_
  refine OA.pure [4] [(44, .pointer (some ⟨b4, 6, none⟩))] (by kernel_rfl) ?_
  refine OA.ld (i := 5) rfl (by kernel_rfl) rfl rfl rfl (by kernel_rfl) (hst.blk 1 rfl rfl) ?_
  refine OA.pure [6, 7] [(46, .slice a27 (((mget p0.wait p1.Hook).getD [])).length c28), (47, .pointer (some ⟨b4, 5, none⟩))] (by kernel_rfl) ?_
  refine OA.ld (i := 8) rfl (by kernel_rfl) rfl rfl rfl (by kernel_rfl) (hst.blk 1 rfl rfl) ?_
  refine OA.act (i := 9) [5, 3] (by kernel_rfl) rfl rfl (by kernel_rfl) (by kernel_rfl) ?_
  refine OW.row (α := Int) (e := 3) (enc := encInt .i64) (sz := 1) hst rfl rfl rfl [p1.Event] rfl (fun _ => rfl) rfl rfl (fun _ => by kernel_rfl) ?_
  intro g56 w57 hst
  refine OA.next ⟨(hst.blk 1 rfl rfl), (hst.blk 0 rfl rfl), trivial⟩ ?_
  refine OA.act (i := 10) [5, 3] (by kernel_rfl) rfl rfl (by kernel_rfl) (by kernel_rfl) ?_
  obtain ⟨u58, hr59, hF⟩ := bs hF
  refine OW.app hst 3 rfl (fun _ => rfl) (fun _ => rfl) rfl rfl rfl rfl rfl rfl (by kernel_rfl) el3 (hst.rd 4 rfl (fun _ => rfl) [] rfl (hst.len 4 rfl).1) (room_le hr59) ?_
  intro v60 w61 hst
  obtain ⟨l62, a63, c64, rfl⟩ := hst.len 3 rfl
  refine OA.next ⟨(hst.blk 1 rfl rfl), (hst.blk 0 rfl rfl), trivial⟩ ?_
  refine OA.act (i := 11) [] (by kernel_rfl) rfl rfl (by kernel_rfl) (by kernel_rfl) ?_
  have hst := hst.toIt 3 rfl (fun _ => rfl) (by decide)
  refine OW.mputN (tk := 3) (te := 39) (kd := .i64) hst 2 3 rfl rfl (fun _ _ e => by cases e; rfl) rfl rfl rfl rfl rfl rfl (by kernel_rfl) (by kernel_rfl) ?_
  intro S66 w65 hst
  have hst := hst.keep [0, 1, 2, 4] rfl
  refine OA.next trivial ?_
  refine OA.fin (by kernel_rfl) (by kernel_rfl) (QW.block_normal (QW.next (rg ?_)))
  refine pu 1 [(4, .bool true)] (nx (CW.ret ?_))
  have hst := hst.ofMN 2 rfl
  obtain ⟨S67, hst⟩ := hst.shutP1 R_t93 rfl 0 2 [1, 3] rfl rfl rfl (audit_events.mk p0.room (w64 (p0.count + 1)) (mput p0.wait p1.Hook (((mget p0.wait p1.Hook).getD []) ++ [p1.Event]))) rfl rfl
  obtain rfl := inj hF
  refine QW.ret1 rfl rfl ?_
  exact ⟨S67, rfl, hst.keep [2] rfl⟩
 refine CW.seq (rg ?_)
 refine pu 2 [(51, .bool (p1.What == 5))] (nx ?_)
 obtain ⟨o69, ho70, hF⟩ := bs hF
 refine CW.cutK (fun a w1 => Rep 73 [(0, Pt b1), (3, Pt b4), (5, .slice a27 (((mget p0.wait p1.Hook).getD [])).length c28), (51, .bool o69)] a ∧ St w (fp [itI R_t67 [Pt b1] S0 p0]) w1 [blkI b1 93 [I p0.room, I p0.count, .map (some r8)], mN r8 R_t39 S22 p0.wait (some (p1.Hook, .slice a27 (((mget p0.wait p1.Hook).getD [])).length c28)), rowI (.slice a27 (((mget p0.wait p1.Hook).getD [])).length c28) 3 (encInt .i64) 1 ((mget p0.wait p1.Hook).getD []), blkI b4 48 [I p1.What, I p1.Task, I p1.From, I p1.Cmd, I p1.Tag, I p1.Event, I p1.Hook, I p1.Prog, I p1.Version, I p1.Pc, I p1.Item.Map, I p1.Item.Op, U p1.Item.Key, U p1.Item.Val, I p1.Res.E, .bool p1.Res.Found, U p1.Res.Val, .bool p1.Res.Out, U p1.Res.OutKey, U p1.Res.OutVal, U p1.Val, I p1.E]]) ?_ ?_
 ·refine br ((p1.What == 5)) ho70 (fun ho70 hc71 => ?_) (fun ho70 hc71 => ?_)
  ·refine CW.skip ?_
   obtain rfl := inj ho70
   exact QW.meet (fun a ha => ⟨ha.ag, hst.keep [0, 2, 3, 1] rfl⟩)
  refine CW.region ?_
  refine pu 2 [(51, .bool (p1.What == 10))] (OW.nil rfl ?_)
  obtain rfl := inj ho70
  exact QW.meet (fun a ha => ⟨ha.ag, hst.keep [0, 2, 3, 1] rfl⟩)
 rintro a w1 ⟨ha, hst⟩
 refine CW.go ?_ ha
 refine br (o69) hF (fun hF hc72 => ?_) (fun hF hc72 => ?_)
 ·refine CW.seq (CW.seq ?_)
  obtain ⟨o84, ho85, hF⟩ := bs hF
  refine CW.cutK (fun a w1 => Rep 73 [(0, Pt b1), (3, Pt b4), (5, .slice a27 (((mget p0.wait p1.Hook).getD [])).length c28), (64, .bool o84)] a ∧ St w (fp [itI R_t67 [Pt b1] S0 p0]) w1 [blkI b1 93 [I p0.room, I p0.count, .map (some r8)], mN r8 R_t39 S22 p0.wait (some (p1.Hook, .slice a27 (((mget p0.wait p1.Hook).getD [])).length c28)), rowI (.slice a27 (((mget p0.wait p1.Hook).getD [])).length c28) 3 (encInt .i64) 1 ((mget p0.wait p1.Hook).getD []), blkI b4 48 [I p1.What, I p1.Task, I p1.From, I p1.Cmd, I p1.Tag, I p1.Event, I p1.Hook, I p1.Prog, I p1.Version, I p1.Pc, I p1.Item.Map, I p1.Item.Op, U p1.Item.Key, U p1.Item.Val, I p1.Res.E, .bool p1.Res.Found, U p1.Res.Val, .bool p1.Res.Out, U p1.Res.OutKey, U p1.Res.OutVal, U p1.Val, I p1.E]]) ?_ ?_
  ·refine CW.still (by kernel_rfl) (by kernel_rfl) ?_
   intro w86 hch87
   have hst := hst.same hch87
   refine OS.pure 4 [(57, .bool (((((mget p0.wait p1.Hook).getD [])).length : Int) == 0))] rfl (by kernel_rfl) ?_
   refine OS.split 57 rfl (fun hc88 => ?_) (fun hc88 => ?_)
   ·have ho85 := ite_t ho85 hc88
    refine OS.pure 7 [(64, .bool true)] rfl (by kernel_rfl) ?_
    refine OS.fin rfl ?_
    obtain rfl := inj ho85
    exact QW.meet (fun a ha => ⟨ha.ag, hst.keep [0, 1, 2, 3] rfl⟩)
   have ho85 := ite_f ho85 hc88
   refine OS.pure 1 [(58, .slice a27 (((mget p0.wait p1.Hook).getD [])).length c28)] rfl (by kernel_rfl) ?_
   obtain ⟨x89, hx90, ho85⟩ := bs ho85
   obtain ⟨g92, o93, c94, hv91⟩ := hst.rowv 2 rfl hx90
   refine OS.idx 3 1 rfl rfl rfl rfl rfl hv91 rfl (idx_some hx90).1 (idx_some hx90).2.1 (by kernel_rfl) (by kernel_rfl) ?_
   refine OS.ld rfl rfl rfl rfl rfl (by kernel_rfl) (hst.rowc 2 rfl (fun _ => rfl) hx90 hv91 0 _ rfl) ?_
   refine OS.pure 1 [(61, .pointer (some ⟨b4, 5, none⟩))] rfl (by kernel_rfl) ?_
   refine OS.ld rfl rfl rfl rfl rfl (by kernel_rfl) (hst.blk 3 rfl rfl) ?_
   refine OS.pure 2 [(64, .bool (x89 != p1.Event))] rfl (by kernel_rfl) ?_
   refine OS.fin rfl ?_
   obtain rfl := inj ho85
   exact QW.meet (fun a ha => ⟨ha.ag, hst.keep [0, 1, 2, 3] rfl⟩)
  rintro a w1 ⟨ha, hst⟩
  refine CW.go ?_ ha
  refine br (o84) hF (fun hF hc95 => ?_) (fun hF hc95 => ?_)
  ·refine rg ?_
   refine pu 1 [(4, .bool false)] (nx (CW.ret (QW.then_ret (QW.block_ret (QW.then_ret ?_)))))
   have hst := hst.toIt 2 rfl (fun _ => rfl) (by decide)
   obtain ⟨S96, hst⟩ := hst.mback0 (f := (fun o => o.getD [])) 1 2 rfl rfl rfl (fun _ _ _ _ h => h)
   have hst := hst.keep [0, 1, 3] rfl
   have hst := hst.ofMN 1 rfl
   obtain ⟨S97, hst⟩ := hst.shutP1 R_t93 rfl 0 1 [2] rfl rfl rfl p0 rfl rfl
   obtain rfl := inj hF
   refine QW.ret1 rfl rfl ?_
   exact ⟨S97, rfl, hst.keep [1] rfl⟩
  refine CW.skip (QW.next ?_)
  refine CW.tail 8 (by kernel_rfl) (by kernel_rfl) ?_
  intro w104 hch105
  have hst := hst.same hch105
  refine OS.pure 3 [(67, .pointer (some ⟨b1, 2, none⟩))] rfl (by kernel_rfl) ?_
  refine OS.ld rfl rfl rfl rfl rfl (by kernel_rfl) (hst.blk 0 rfl rfl) ?_
  refine OS.pure 1 [(69, .pointer (some ⟨b4, 6, none⟩))] rfl (by kernel_rfl) ?_
  refine OS.ld rfl rfl rfl rfl rfl (by kernel_rfl) (hst.blk 3 rfl rfl) ?_
  refine OS.pure 1 [(71, .slice a27 (((mget p0.wait p1.Hook).getD [])).length c28)] rfl (by kernel_rfl) ?_
  obtain ⟨ys106, hcut107, hF⟩ := bs hF
  refine OS.op (v := .slice (shd a27 c28 (Int.toNat 1) 1) (ys106).length (c28 - Int.toNat 1)) rfl rfl rfl rfl rfl (fun a ha => suf_run (xs := ((mget p0.wait p1.Hook).getD [])) (e := 3) 1 rfl rfl rfl rfl hcut107 (by kernel_rfl) (by kernel_rfl) a _ ha) ?_
  refine OS.on ?_
  have hst := hst.sufRow 2 rfl (fun _ => rfl) hcut107
  have hst := hst.toIt 2 rfl (fun _ => rfl) (by decide)
  refine OW.mputN (tk := 3) (te := 39) (kd := .i64) hst 1 2 rfl rfl (fun _ _ e => by cases e; rfl) rfl rfl rfl rfl rfl rfl (by kernel_rfl) (by kernel_rfl) ?_
  intro S109 w108 hst
  have hst := hst.keep [0, 1, 3] rfl
  refine OW.nil rfl (QW.block_normal (QW.next (rg ?_)))
  refine pu 1 [(4, .bool true)] (nx (CW.ret ?_))
  have hst := hst.ofMN 1 rfl
  obtain ⟨S110, hst⟩ := hst.shutP1 R_t93 rfl 0 1 [2] rfl rfl rfl (audit_events.mk p0.room p0.count (mput p0.wait p1.Hook ys106)) rfl rfl
  obtain rfl := inj hF
  refine QW.ret1 rfl rfl ?_
  exact ⟨S110, rfl, hst.keep [1] rfl⟩
 refine CW.skip (QW.block_normal (QW.next (rg ?_)))
 refine pu 1 [(4, .bool true)] (nx (CW.ret ?_))
 have hst := hst.toIt 2 rfl (fun _ => rfl) (by decide)
 obtain ⟨S111, hst⟩ := hst.mback0 (f := (fun o => o.getD [])) 1 2 rfl rfl rfl (fun _ _ _ _ h => h)
 have hst := hst.keep [0, 1, 3] rfl
 have hst := hst.ofMN 1 rfl
 obtain ⟨S112, hst⟩ := hst.shutP1 R_t93 rfl 0 1 [2] rfl rfl rfl p0 rfl rfl
 obtain rfl := inj hF
 refine QW.ret1 rfl rfl ?_
 exact ⟨S112, rfl, hst.keep [1] rfl⟩
theorem audit_runs_publish_ok (w : World) (v0 : Value) (S0 : List Nat) (p0 : audit_runs) (p1 : api_Entry) (r : Bool × audit_runs) (hF : audit_runs_publish p0 p1 = some r)
    (hst : St w (fp [itI R_t69 [v0] S0 p0]) w [itI R_t69 [v0] S0 p0]) :
    Calls Try.prog 65 [v0, .agg [I p1.What, I p1.Task, I p1.From, I p1.Cmd, I p1.Tag, I p1.Event, I p1.Hook, I p1.Prog, I p1.Version, I p1.Pc, I p1.Item.Map, I p1.Item.Op, U p1.Item.Key, U p1.Item.Val, I p1.Res.E, .bool p1.Res.Found, U p1.Res.Val, .bool p1.Res.Out, U p1.Res.OutKey, U p1.Res.OutVal, U p1.Val, I p1.E].toArray].toArray w (fun e w' => ∃ (s0 : List Nat), e = .returned (.bool r.1) ∧ St w (fp [itI R_t69 [v0] S0 p0]) w' [itI R_t69 [v0] s0 r.2]) := by
 refine CW.start (N := 52) Try.func65 rfl rfl rfl ?_
 obtain ⟨b1, rfl⟩ := hst.fptr 0 rfl
 refine rg ?_
 refine OW.box hst rfl rfl rfl rfl [I p1.What, I p1.Task, I p1.From, I p1.Cmd, I p1.Tag, I p1.Event, I p1.Hook, I p1.Prog, I p1.Version, I p1.Pc, I p1.Item.Map, I p1.Item.Op, U p1.Item.Key, U p1.Item.Val, I p1.Res.E, .bool p1.Res.Found, U p1.Res.Val, .bool p1.Res.Out, U p1.Res.OutKey, U p1.Res.OutVal, U p1.Val, I p1.E] rfl ?_
 intro b4 w5 hst
 refine pu 1 [] (nx (CW.seq (CW.seq ?_)))
 obtain ⟨v6, S7, v8, S9, hst⟩ := hst.openQ2 0 rfl rfl rfl
 obtain ⟨r10, rfl, hst⟩ := hst.toMF1 2 rfl
 obtain ⟨r11, rfl, hst⟩ := hst.toMF1 3 rfl
 have hst : St _ _ _ [blkI b1 96 [.map (some r10), .map (some r11), I p0.last], _, _, _] := hst
 obtain ⟨o22, ho23, hF⟩ := bs hF
 refine CW.cutK (fun a w1 => ∃ (S21 : List Nat), Rep 52 [(0, Pt b1), (3, Pt b4), (24, .bool o22)] a ∧ St w (fp [itI R_t69 [Pt b1] S0 p0]) w1 [itI R_t69 [Pt b1] S21 p0, blkI b4 48 [I p1.What, I p1.Task, I p1.From, I p1.Cmd, I p1.Tag, I p1.Event, I p1.Hook, I p1.Prog, I p1.Version, I p1.Pc, I p1.Item.Map, I p1.Item.Op, U p1.Item.Key, U p1.Item.Val, I p1.Res.E, .bool p1.Res.Found, U p1.Res.Val, .bool p1.Res.Out, U p1.Res.OutKey, U p1.Res.OutVal, U p1.Val, I p1.E]]) ?_ ?_
 ·refine CW.still (by kernel_rfl) (by kernel_rfl) ?_
  intro w24 hch25
  have hst := hst.same hch25
  refine OS.pure 1 [(5, .pointer (some ⟨b4, 8, none⟩))] rfl (by kernel_rfl) ?_
  refine OS.ld rfl rfl rfl rfl rfl (by kernel_rfl) (hst.blk 1 rfl rfl) ?_
  refine OS.pure 2 [(8, .bool (p1.Version != 0))] rfl (by kernel_rfl) ?_
  refine OS.split 8 rfl (fun hc26 => ?_) (fun hc26 => ?_)
  ·have ho23 := ite_t ho23 hc26
   refine OS.pure 3 [(11, Pt b1)] rfl (by kernel_rfl) ?_
   refine OS.ld rfl rfl rfl rfl rfl (by kernel_rfl) (hst.blk 0 rfl rfl) ?_
   refine OS.op (v := I (p0.at_.length : Int)) rfl rfl rfl rfl rfl (mlenI_run (tk := 3) (te := 48) hst 2 rfl rfl rfl rfl (by kernel_rfl)) ?_
   refine OS.pure 3 [(16, .bool (decide ((p0.at_.length : Int) > 0)))] rfl (by kernel_rfl) ?_
   refine OS.split 16 rfl (fun hc27 => ?_) (fun hc27 => ?_)
   ·have ho23 := ite_t ho23 hc27
    refine OS.pure 1 [(17, .pointer (some ⟨b4, 8, none⟩))] rfl (by kernel_rfl) ?_
    refine OS.ld rfl rfl rfl rfl rfl (by kernel_rfl) (hst.blk 1 rfl rfl) ?_
    refine OS.pure 3 [(21, .pointer (some ⟨b1, 2, none⟩))] rfl (by kernel_rfl) ?_
    refine OS.ld rfl rfl rfl rfl rfl (by kernel_rfl) (hst.blk 0 rfl rfl) ?_
    refine OS.pure 2 [(24, .bool (decide (p1.Version ≤ p0.last)))] rfl (by kernel_rfl) ?_
    refine OS.fin rfl ?_
    have hst := hst.ofMF 2 rfl
    have hst := hst.ofMF 3 rfl
    obtain ⟨S28, hst⟩ := hst.shutP2 R_t96 rfl 0 2 3 [1] rfl rfl rfl rfl p0 rfl rfl
    obtain rfl := inj ho23
    exact QW.meet (fun a ha => ⟨S28, ha.ag, hst.keep [1, 0] rfl⟩)
   have ho23 := ite_f ho23 hc27
   refine OS.pure 8 [(24, .bool false)] rfl (by kernel_rfl) ?_
   refine OS.fin rfl ?_
   have hst := hst.ofMF 2 rfl
   have hst := hst.ofMF 3 rfl
   obtain ⟨S29, hst⟩ := hst.shutP2 R_t96 rfl 0 2 3 [1] rfl rfl rfl rfl p0 rfl rfl
   obtain rfl := inj ho23
   exact QW.meet (fun a ha => ⟨S29, ha.ag, hst.keep [1, 0] rfl⟩)
  have ho23 := ite_f ho23 hc26
  refine OS.pure 16 [(24, .bool false)] rfl (by kernel_rfl) ?_
  refine OS.fin rfl ?_
  have hst := hst.ofMF 2 rfl
  have hst := hst.ofMF 3 rfl
  obtain ⟨S30, hst⟩ := hst.shutP2 R_t96 rfl 0 2 3 [1] rfl rfl rfl rfl p0 rfl rfl
  obtain rfl := inj ho23
  exact QW.meet (fun a ha => ⟨S30, ha.ag, hst.keep [1, 0] rfl⟩)
 rintro a w1 ⟨S21, ha, hst⟩
 refine CW.go ?_ ha
 refine br (o22) hF (fun hF hc31 => ?_) (fun hF hc31 => ?_)
 ·refine rg ?_
  refine pu 1 [(4, .bool false)] (nx (CW.ret (QW.then_ret ?_)))
  obtain rfl := inj hF
  refine QW.ret1 rfl rfl ?_
  exact ⟨S21, rfl, hst.keep [0] rfl⟩
 refine CW.skip (QW.next (CW.seq (CW.seq ?_)))
 obtain ⟨v32, S33, v34, S35, hst⟩ := hst.openQ2 0 rfl rfl rfl
 obtain ⟨r36, rfl, hst⟩ := hst.toMF1 2 rfl
 obtain ⟨r37, rfl, hst⟩ := hst.toMF1 3 rfl
 have hst : St _ _ _ [blkI b1 96 [.map (some r36), .map (some r37), I p0.last], _, _, _] := hst
 obtain ⟨o46, ho47, hF⟩ := bs hF
 refine CW.cutK (fun a w1 => ∃ (S45 : List Nat), Rep 52 [(0, Pt b1), (3, Pt b4), (39, .bool o46)] a ∧ St w (fp [itI R_t69 [Pt b1] S0 p0]) w1 [itI R_t69 [Pt b1] S45 p0, blkI b4 48 [I p1.What, I p1.Task, I p1.From, I p1.Cmd, I p1.Tag, I p1.Event, I p1.Hook, I p1.Prog, I p1.Version, I p1.Pc, I p1.Item.Map, I p1.Item.Op, U p1.Item.Key, U p1.Item.Val, I p1.Res.E, .bool p1.Res.Found, U p1.Res.Val, .bool p1.Res.Out, U p1.Res.OutKey, U p1.Res.OutVal, U p1.Val, I p1.E]]) ?_ ?_
 ·refine CW.still (by kernel_rfl) (by kernel_rfl) ?_
  intro w48 hch49
  have hst := hst.same hch49
  refine OS.pure 3 [(27, Pt b1)] rfl (by kernel_rfl) ?_
  refine OS.ld rfl rfl rfl rfl rfl (by kernel_rfl) (hst.blk 0 rfl rfl) ?_
  refine OS.op (v := I (p0.at_.length : Int)) rfl rfl rfl rfl rfl (mlenI_run (tk := 3) (te := 48) hst 2 rfl rfl rfl rfl (by kernel_rfl)) ?_
  refine OS.pure 2 [(31, .bool ((p0.at_.length : Int) == 0))] rfl (by kernel_rfl) ?_
  refine OS.split 31 rfl (fun hc50 => ?_) (fun hc50 => ?_)
  ·have ho47 := ite_t ho47 hc50
   refine OS.pure 8 [(39, .bool true)] rfl (by kernel_rfl) ?_
   refine OS.fin rfl ?_
   have hst := hst.ofMF 2 rfl
   have hst := hst.ofMF 3 rfl
   obtain ⟨S51, hst⟩ := hst.shutP2 R_t96 rfl 0 2 3 [1] rfl rfl rfl rfl p0 rfl rfl
   obtain rfl := inj ho47
   exact QW.meet (fun a ha => ⟨S51, ha.ag, hst.keep [1, 0] rfl⟩)
  have ho47 := ite_f ho47 hc50
  refine OS.pure 1 [(32, .pointer (some ⟨b4, 8, none⟩))] rfl (by kernel_rfl) ?_
  refine OS.ld rfl rfl rfl rfl rfl (by kernel_rfl) (hst.blk 1 rfl rfl) ?_
  refine OS.pure 3 [(36, .pointer (some ⟨b1, 2, none⟩))] rfl (by kernel_rfl) ?_
  refine OS.ld rfl rfl rfl rfl rfl (by kernel_rfl) (hst.blk 0 rfl rfl) ?_
  refine OS.pure 2 [(39, .bool (decide (p1.Version > p0.last)))] rfl (by kernel_rfl) ?_
  refine OS.fin rfl ?_
  have hst := hst.ofMF 2 rfl
  have hst := hst.ofMF 3 rfl
  obtain ⟨S52, hst⟩ := hst.shutP2 R_t96 rfl 0 2 3 [1] rfl rfl rfl rfl p0 rfl rfl
  obtain rfl := inj ho47
  exact QW.meet (fun a ha => ⟨S52, ha.ag, hst.keep [1, 0] rfl⟩)
 rintro a w1 ⟨S45, ha, hst⟩
 refine CW.go ?_ ha
 obtain ⟨o64, ho65, hF⟩ := bs hF
 refine CW.cutK (fun a w1 => ∃ (S63 : List Nat), Rep 52 [(0, Pt b1), (3, Pt b4)] a ∧ St w (fp [itI R_t69 [Pt b1] S0 p0]) w1 [itI R_t69 [Pt b1] S63 o64, blkI b4 48 [I p1.What, I p1.Task, I p1.From, I p1.Cmd, I p1.Tag, I p1.Event, I p1.Hook, I p1.Prog, I p1.Version, I p1.Pc, I p1.Item.Map, I p1.Item.Op, U p1.Item.Key, U p1.Item.Val, I p1.Res.E, .bool p1.Res.Found, U p1.Res.Val, .bool p1.Res.Out, U p1.Res.OutKey, U p1.Res.OutVal, U p1.Val, I p1.E]]) ?_ ?_
 ·refine br (o46) ho65 (fun ho65 hc66 => ?_) (fun ho65 hc66 => ?_)
  ·obtain ⟨v67, S68, v69, S70, hst⟩ := hst.openQ2 0 rfl rfl rfl
   obtain ⟨r71, rfl, hst⟩ := hst.toMF1 2 rfl
   obtain ⟨r72, rfl, hst⟩ := hst.toMF1 3 rfl
   have hst : St _ _ _ [blkI b1 96 [.map (some r71), .map (some r72), I p0.last], _, _, _] := hst
   refine CW.region ?_
   refine pu 2 [(40, Pt b1), (41, .pointer (some ⟨b4, 8, none⟩))] ?_
   refine OW.ld rfl rfl rfl rfl (by kernel_rfl) (hst.blk 1 rfl rfl) ?_
   refine pu 2 [(44, .pointer (some ⟨b1, 2, none⟩))] ?_
   refine OW.stB hst 0 rfl rfl rfl rfl rfl (by kernel_rfl) rfl rfl [.map (some r71), .map (some r72), I p1.Version] rfl ?_
   intro w74 hst
   refine OW.nil rfl ?_
   have hst := hst.ofMF 2 rfl
   have hst := hst.ofMF 3 rfl
   obtain ⟨S75, hst⟩ := hst.shutP2 R_t96 rfl 0 2 3 [1] rfl rfl rfl rfl (audit_runs.mk p0.at_ p0.in_ p1.Version) rfl rfl
   obtain rfl := inj ho65
   exact QW.meet (fun a ha => ⟨S75, ha.ag, hst.keep [1, 0] rfl⟩)
  refine CW.skip ?_
  obtain rfl := inj ho65
  exact QW.meet (fun a ha => ⟨S45, ha.ag, hst.keep [0, 1] rfl⟩)
 rintro a w1 ⟨S63, ha, hst⟩
 refine CW.go ?_ ha
 refine CW.seq ?_
 obtain ⟨v76, S77, v78, S79, hst⟩ := hst.openQ2 0 rfl rfl rfl
 obtain ⟨r80, rfl, hst⟩ := hst.toMF1 2 rfl
 obtain ⟨r81, rfl, hst⟩ := hst.toMF1 3 rfl
 have hst : St _ _ _ [blkI b1 96 [.map (some r80), .map (some r81), I o64.last], _, _, _] := hst
 refine CW.tail 7 (by kernel_rfl) (by kernel_rfl) ?_
 intro w85 hch86
 have hst := hst.same hch86
 refine OS.pure 3 [(47, Pt b1)] rfl (by kernel_rfl) ?_
 refine OS.ld rfl rfl rfl rfl rfl (by kernel_rfl) (hst.blk 0 rfl rfl) ?_
 refine OS.pure 1 [(49, .pointer (some ⟨b4, 6, none⟩))] rfl (by kernel_rfl) ?_
 refine OS.ld rfl rfl rfl rfl rfl (by kernel_rfl) (hst.blk 1 rfl rfl) ?_
 refine OS.ldN (cs := [I p1.What, I p1.Task, I p1.From, I p1.Cmd, I p1.Tag, I p1.Event, I p1.Hook, I p1.Prog, I p1.Version, I p1.Pc, I p1.Item.Map, I p1.Item.Op, U p1.Item.Key, U p1.Item.Val, I p1.Res.E, .bool p1.Res.Found, U p1.Res.Val, .bool p1.Res.Out, U p1.Res.OutKey, U p1.Res.OutVal, U p1.Val, I p1.E]) rfl rfl rfl rfl rfl (by kernel_rfl) (by kernel_rfl) (hst.blkN 1 rfl 0 22) ?_
 refine OS.on ?_
 refine OW.mput (tk := 3) (te := 48) (kd := .i64) (val := fun x => .agg (enc_api_Entry x).toArray) hst 2 rfl rfl rfl rfl rfl p1 rfl (by kernel_rfl) (by kernel_rfl) ?_
 intro w87 hst
 refine nx (rg ?_)
 refine pu 1 [(4, .bool true)] (nx (CW.ret ?_))
 have hst := hst.ofMF 2 rfl
 have hst := hst.ofMF 3 rfl
 obtain ⟨S88, hst⟩ := hst.shutP2 R_t96 rfl 0 2 3 [1] rfl rfl rfl rfl (audit_runs.mk (mput o64.at_ p1.Hook p1) o64.in_ o64.last) rfl rfl
 obtain rfl := inj hF
 refine QW.ret1 rfl rfl ?_
 exact ⟨S88, rfl, hst.keep [1] rfl⟩
theorem audit_runs_same_ok (w : World) (v0 : Value) (S0 : List Nat) (p0 : audit_runs) (p1 : api_Entry) (r : Bool) (hF : audit_runs_same p0 p1 = some r)
    (hst : St w (fp [itI R_t69 [v0] S0 p0]) w [itI R_t69 [v0] S0 p0]) :
    Calls Try.prog 67 [v0, .agg [I p1.What, I p1.Task, I p1.From, I p1.Cmd, I p1.Tag, I p1.Event, I p1.Hook, I p1.Prog, I p1.Version, I p1.Pc, I p1.Item.Map, I p1.Item.Op, U p1.Item.Key, U p1.Item.Val, I p1.Res.E, .bool p1.Res.Found, U p1.Res.Val, .bool p1.Res.Out, U p1.Res.OutKey, U p1.Res.OutVal, U p1.Val, I p1.E].toArray].toArray w (fun e w' => ∃ (s0 : List Nat), e = .returned (.bool r) ∧ St w (fp [itI R_t69 [v0] S0 p0]) w' [itI R_t69 [v0] s0 p0]) := by
 refine CW.start (N := 39) Try.func67 rfl rfl rfl ?_
 obtain ⟨b1, rfl⟩ := hst.fptr 0 rfl
 refine rg ?_
 refine OW.box hst rfl rfl rfl rfl [I p1.What, I p1.Task, I p1.From, I p1.Cmd, I p1.Tag, I p1.Event, I p1.Hook, I p1.Prog, I p1.Version, I p1.Pc, I p1.Item.Map, I p1.Item.Op, U p1.Item.Key, U p1.Item.Val, I p1.Res.E, .bool p1.Res.Found, U p1.Res.Val, .bool p1.Res.Out, U p1.Res.OutKey, U p1.Res.OutVal, U p1.Val, I p1.E] rfl ?_
 intro b4 w5 hst
 refine pu 1 [] (nx (CW.seq ?_))
 obtain ⟨v6, S7, v8, S9, hst⟩ := hst.openQ2 0 rfl rfl rfl
 obtain ⟨r10, rfl, hst⟩ := hst.toMF1 2 rfl
 obtain ⟨r11, rfl, hst⟩ := hst.toMF1 3 rfl
 have hst : St _ _ _ [blkI b1 96 [.map (some r10), .map (some r11), I p0.last], _, _, _] := hst
 refine CW.plan (by kernel_rfl) ?_
 intro w17 hch18
 have hst := hst.same hch18
 refine OA.pure [0, 1, 2] [(10, .pointer (some ⟨b1, 1, none⟩))] (by kernel_rfl) ?_
 refine OA.ld (i := 3) rfl (by kernel_rfl) rfl rfl rfl (by kernel_rfl) (hst.blk 0 rfl rfl) ?_
 refine OA.pure [4] [(12, .pointer (some ⟨b4, 1, none⟩))] (by kernel_rfl) ?_
 refine OA.ld (i := 5) rfl (by kernel_rfl) rfl rfl rfl (by kernel_rfl) (hst.blk 1 rfl rfl) ?_
 refine OA.sees (i := 6) (v := .tuple [.agg [I ((mget p0.in_ p1.Task).getD (api_Entry.mk 0 0 0 0 0 0 0 0 0 0 (api_Item.mk 0 0 0 0) (api_Res.mk 0 false 0 false 0 0) 0 0)).What, I ((mget p0.in_ p1.Task).getD (api_Entry.mk 0 0 0 0 0 0 0 0 0 0 (api_Item.mk 0 0 0 0) (api_Res.mk 0 false 0 false 0 0) 0 0)).Task, I ((mget p0.in_ p1.Task).getD (api_Entry.mk 0 0 0 0 0 0 0 0 0 0 (api_Item.mk 0 0 0 0) (api_Res.mk 0 false 0 false 0 0) 0 0)).From, I ((mget p0.in_ p1.Task).getD (api_Entry.mk 0 0 0 0 0 0 0 0 0 0 (api_Item.mk 0 0 0 0) (api_Res.mk 0 false 0 false 0 0) 0 0)).Cmd, I ((mget p0.in_ p1.Task).getD (api_Entry.mk 0 0 0 0 0 0 0 0 0 0 (api_Item.mk 0 0 0 0) (api_Res.mk 0 false 0 false 0 0) 0 0)).Tag, I ((mget p0.in_ p1.Task).getD (api_Entry.mk 0 0 0 0 0 0 0 0 0 0 (api_Item.mk 0 0 0 0) (api_Res.mk 0 false 0 false 0 0) 0 0)).Event, I ((mget p0.in_ p1.Task).getD (api_Entry.mk 0 0 0 0 0 0 0 0 0 0 (api_Item.mk 0 0 0 0) (api_Res.mk 0 false 0 false 0 0) 0 0)).Hook, I ((mget p0.in_ p1.Task).getD (api_Entry.mk 0 0 0 0 0 0 0 0 0 0 (api_Item.mk 0 0 0 0) (api_Res.mk 0 false 0 false 0 0) 0 0)).Prog, I ((mget p0.in_ p1.Task).getD (api_Entry.mk 0 0 0 0 0 0 0 0 0 0 (api_Item.mk 0 0 0 0) (api_Res.mk 0 false 0 false 0 0) 0 0)).Version, I ((mget p0.in_ p1.Task).getD (api_Entry.mk 0 0 0 0 0 0 0 0 0 0 (api_Item.mk 0 0 0 0) (api_Res.mk 0 false 0 false 0 0) 0 0)).Pc, I ((mget p0.in_ p1.Task).getD (api_Entry.mk 0 0 0 0 0 0 0 0 0 0 (api_Item.mk 0 0 0 0) (api_Res.mk 0 false 0 false 0 0) 0 0)).Item.Map, I ((mget p0.in_ p1.Task).getD (api_Entry.mk 0 0 0 0 0 0 0 0 0 0 (api_Item.mk 0 0 0 0) (api_Res.mk 0 false 0 false 0 0) 0 0)).Item.Op, U ((mget p0.in_ p1.Task).getD (api_Entry.mk 0 0 0 0 0 0 0 0 0 0 (api_Item.mk 0 0 0 0) (api_Res.mk 0 false 0 false 0 0) 0 0)).Item.Key, U ((mget p0.in_ p1.Task).getD (api_Entry.mk 0 0 0 0 0 0 0 0 0 0 (api_Item.mk 0 0 0 0) (api_Res.mk 0 false 0 false 0 0) 0 0)).Item.Val, I ((mget p0.in_ p1.Task).getD (api_Entry.mk 0 0 0 0 0 0 0 0 0 0 (api_Item.mk 0 0 0 0) (api_Res.mk 0 false 0 false 0 0) 0 0)).Res.E, .bool ((mget p0.in_ p1.Task).getD (api_Entry.mk 0 0 0 0 0 0 0 0 0 0 (api_Item.mk 0 0 0 0) (api_Res.mk 0 false 0 false 0 0) 0 0)).Res.Found, U ((mget p0.in_ p1.Task).getD (api_Entry.mk 0 0 0 0 0 0 0 0 0 0 (api_Item.mk 0 0 0 0) (api_Res.mk 0 false 0 false 0 0) 0 0)).Res.Val, .bool ((mget p0.in_ p1.Task).getD (api_Entry.mk 0 0 0 0 0 0 0 0 0 0 (api_Item.mk 0 0 0 0) (api_Res.mk 0 false 0 false 0 0) 0 0)).Res.Out, U ((mget p0.in_ p1.Task).getD (api_Entry.mk 0 0 0 0 0 0 0 0 0 0 (api_Item.mk 0 0 0 0) (api_Res.mk 0 false 0 false 0 0) 0 0)).Res.OutKey, U ((mget p0.in_ p1.Task).getD (api_Entry.mk 0 0 0 0 0 0 0 0 0 0 (api_Item.mk 0 0 0 0) (api_Res.mk 0 false 0 false 0 0) 0 0)).Res.OutVal, U ((mget p0.in_ p1.Task).getD (api_Entry.mk 0 0 0 0 0 0 0 0 0 0 (api_Item.mk 0 0 0 0) (api_Res.mk 0 false 0 false 0 0) 0 0)).Val, I ((mget p0.in_ p1.Task).getD (api_Entry.mk 0 0 0 0 0 0 0 0 0 0 (api_Item.mk 0 0 0 0) (api_Res.mk 0 false 0 false 0 0) 0 0)).E].toArray, .bool (mget p0.in_ p1.Task).isSome].toArray) (MapIs (fun x => .agg (enc_api_Entry x).toArray) r11 p0.in_) rfl (by kernel_rfl) rfl rfl rfl rfl (fun a w ha h => look2F (tk := 3) (te := 48) (kd := .i64) (val := fun x => .agg (enc_api_Entry x).toArray) (api_Entry.mk 0 0 0 0 0 0 0 0 0 0 (api_Item.mk 0 0 0 0) (api_Res.mk 0 false 0 false 0 0) 0 0) h rfl rfl rfl (by kernel_rfl) (by kernel_rfl) (by kernel_rfl) a ha) (hst.mapIs 3 rfl) ?_
 refine OA.pure [7, 8, 9] [(15, .agg [I ((mget p0.in_ p1.Task).getD (api_Entry.mk 0 0 0 0 0 0 0 0 0 0 (api_Item.mk 0 0 0 0) (api_Res.mk 0 false 0 false 0 0) 0 0)).What, I ((mget p0.in_ p1.Task).getD (api_Entry.mk 0 0 0 0 0 0 0 0 0 0 (api_Item.mk 0 0 0 0) (api_Res.mk 0 false 0 false 0 0) 0 0)).Task, I ((mget p0.in_ p1.Task).getD (api_Entry.mk 0 0 0 0 0 0 0 0 0 0 (api_Item.mk 0 0 0 0) (api_Res.mk 0 false 0 false 0 0) 0 0)).From, I ((mget p0.in_ p1.Task).getD (api_Entry.mk 0 0 0 0 0 0 0 0 0 0 (api_Item.mk 0 0 0 0) (api_Res.mk 0 false 0 false 0 0) 0 0)).Cmd, I ((mget p0.in_ p1.Task).getD (api_Entry.mk 0 0 0 0 0 0 0 0 0 0 (api_Item.mk 0 0 0 0) (api_Res.mk 0 false 0 false 0 0) 0 0)).Tag, I ((mget p0.in_ p1.Task).getD (api_Entry.mk 0 0 0 0 0 0 0 0 0 0 (api_Item.mk 0 0 0 0) (api_Res.mk 0 false 0 false 0 0) 0 0)).Event, I ((mget p0.in_ p1.Task).getD (api_Entry.mk 0 0 0 0 0 0 0 0 0 0 (api_Item.mk 0 0 0 0) (api_Res.mk 0 false 0 false 0 0) 0 0)).Hook, I ((mget p0.in_ p1.Task).getD (api_Entry.mk 0 0 0 0 0 0 0 0 0 0 (api_Item.mk 0 0 0 0) (api_Res.mk 0 false 0 false 0 0) 0 0)).Prog, I ((mget p0.in_ p1.Task).getD (api_Entry.mk 0 0 0 0 0 0 0 0 0 0 (api_Item.mk 0 0 0 0) (api_Res.mk 0 false 0 false 0 0) 0 0)).Version, I ((mget p0.in_ p1.Task).getD (api_Entry.mk 0 0 0 0 0 0 0 0 0 0 (api_Item.mk 0 0 0 0) (api_Res.mk 0 false 0 false 0 0) 0 0)).Pc, I ((mget p0.in_ p1.Task).getD (api_Entry.mk 0 0 0 0 0 0 0 0 0 0 (api_Item.mk 0 0 0 0) (api_Res.mk 0 false 0 false 0 0) 0 0)).Item.Map, I ((mget p0.in_ p1.Task).getD (api_Entry.mk 0 0 0 0 0 0 0 0 0 0 (api_Item.mk 0 0 0 0) (api_Res.mk 0 false 0 false 0 0) 0 0)).Item.Op, U ((mget p0.in_ p1.Task).getD (api_Entry.mk 0 0 0 0 0 0 0 0 0 0 (api_Item.mk 0 0 0 0) (api_Res.mk 0 false 0 false 0 0) 0 0)).Item.Key, U ((mget p0.in_ p1.Task).getD (api_Entry.mk 0 0 0 0 0 0 0 0 0 0 (api_Item.mk 0 0 0 0) (api_Res.mk 0 false 0 false 0 0) 0 0)).Item.Val, I ((mget p0.in_ p1.Task).getD (api_Entry.mk 0 0 0 0 0 0 0 0 0 0 (api_Item.mk 0 0 0 0) (api_Res.mk 0 false 0 false 0 0) 0 0)).Res.E, .bool ((mget p0.in_ p1.Task).getD (api_Entry.mk 0 0 0 0 0 0 0 0 0 0 (api_Item.mk 0 0 0 0) (api_Res.mk 0 false 0 false 0 0) 0 0)).Res.Found, U ((mget p0.in_ p1.Task).getD (api_Entry.mk 0 0 0 0 0 0 0 0 0 0 (api_Item.mk 0 0 0 0) (api_Res.mk 0 false 0 false 0 0) 0 0)).Res.Val, .bool ((mget p0.in_ p1.Task).getD (api_Entry.mk 0 0 0 0 0 0 0 0 0 0 (api_Item.mk 0 0 0 0) (api_Res.mk 0 false 0 false 0 0) 0 0)).Res.Out, U ((mget p0.in_ p1.Task).getD (api_Entry.mk 0 0 0 0 0 0 0 0 0 0 (api_Item.mk 0 0 0 0) (api_Res.mk 0 false 0 false 0 0) 0 0)).Res.OutKey, U ((mget p0.in_ p1.Task).getD (api_Entry.mk 0 0 0 0 0 0 0 0 0 0 (api_Item.mk 0 0 0 0) (api_Res.mk 0 false 0 false 0 0) 0 0)).Res.OutVal, U ((mget p0.in_ p1.Task).getD (api_Entry.mk 0 0 0 0 0 0 0 0 0 0 (api_Item.mk 0 0 0 0) (api_Res.mk 0 false 0 false 0 0) 0 0)).Val, I ((mget p0.in_ p1.Task).getD (api_Entry.mk 0 0 0 0 0 0 0 0 0 0 (api_Item.mk 0 0 0 0) (api_Res.mk 0 false 0 false 0 0) 0 0)).E].toArray), (16, .bool (mget p0.in_ p1.Task).isSome)] (by kernel_rfl) ?_
 refine OA.act (i := 10) [6, 5, 3] (by kernel_rfl) rfl rfl (by kernel_rfl) (by kernel_rfl) ?_
 refine OW.alloc hst rfl rfl rfl [I 0, I 0, I 0, I 0, I 0, I 0, I 0, I 0, I 0, I 0, I 0, I 0, U 0, U 0, I 0, .bool false, U 0, .bool false, U 0, U 0, U 0, I 0] (by kernel_rfl) ?_
 intro b19 w20 hst
 refine OA.next ⟨(hst.mapIs 3 rfl), (hst.blk 1 rfl rfl), (hst.blk 0 rfl rfl), trivial⟩ ?_
 refine OA.act (i := 11) [] (by kernel_rfl) rfl rfl (by kernel_rfl) (by kernel_rfl) ?_
 refine OW.stB hst 4 rfl rfl rfl rfl rfl (by kernel_rfl) rfl rfl [I ((mget p0.in_ p1.Task).getD (api_Entry.mk 0 0 0 0 0 0 0 0 0 0 (api_Item.mk 0 0 0 0) (api_Res.mk 0 false 0 false 0 0) 0 0)).What, I ((mget p0.in_ p1.Task).getD (api_Entry.mk 0 0 0 0 0 0 0 0 0 0 (api_Item.mk 0 0 0 0) (api_Res.mk 0 false 0 false 0 0) 0 0)).Task, I ((mget p0.in_ p1.Task).getD (api_Entry.mk 0 0 0 0 0 0 0 0 0 0 (api_Item.mk 0 0 0 0) (api_Res.mk 0 false 0 false 0 0) 0 0)).From, I ((mget p0.in_ p1.Task).getD (api_Entry.mk 0 0 0 0 0 0 0 0 0 0 (api_Item.mk 0 0 0 0) (api_Res.mk 0 false 0 false 0 0) 0 0)).Cmd, I ((mget p0.in_ p1.Task).getD (api_Entry.mk 0 0 0 0 0 0 0 0 0 0 (api_Item.mk 0 0 0 0) (api_Res.mk 0 false 0 false 0 0) 0 0)).Tag, I ((mget p0.in_ p1.Task).getD (api_Entry.mk 0 0 0 0 0 0 0 0 0 0 (api_Item.mk 0 0 0 0) (api_Res.mk 0 false 0 false 0 0) 0 0)).Event, I ((mget p0.in_ p1.Task).getD (api_Entry.mk 0 0 0 0 0 0 0 0 0 0 (api_Item.mk 0 0 0 0) (api_Res.mk 0 false 0 false 0 0) 0 0)).Hook, I ((mget p0.in_ p1.Task).getD (api_Entry.mk 0 0 0 0 0 0 0 0 0 0 (api_Item.mk 0 0 0 0) (api_Res.mk 0 false 0 false 0 0) 0 0)).Prog, I ((mget p0.in_ p1.Task).getD (api_Entry.mk 0 0 0 0 0 0 0 0 0 0 (api_Item.mk 0 0 0 0) (api_Res.mk 0 false 0 false 0 0) 0 0)).Version, I ((mget p0.in_ p1.Task).getD (api_Entry.mk 0 0 0 0 0 0 0 0 0 0 (api_Item.mk 0 0 0 0) (api_Res.mk 0 false 0 false 0 0) 0 0)).Pc, I ((mget p0.in_ p1.Task).getD (api_Entry.mk 0 0 0 0 0 0 0 0 0 0 (api_Item.mk 0 0 0 0) (api_Res.mk 0 false 0 false 0 0) 0 0)).Item.Map, I ((mget p0.in_ p1.Task).getD (api_Entry.mk 0 0 0 0 0 0 0 0 0 0 (api_Item.mk 0 0 0 0) (api_Res.mk 0 false 0 false 0 0) 0 0)).Item.Op, U ((mget p0.in_ p1.Task).getD (api_Entry.mk 0 0 0 0 0 0 0 0 0 0 (api_Item.mk 0 0 0 0) (api_Res.mk 0 false 0 false 0 0) 0 0)).Item.Key, U ((mget p0.in_ p1.Task).getD (api_Entry.mk 0 0 0 0 0 0 0 0 0 0 (api_Item.mk 0 0 0 0) (api_Res.mk 0 false 0 false 0 0) 0 0)).Item.Val, I ((mget p0.in_ p1.Task).getD (api_Entry.mk 0 0 0 0 0 0 0 0 0 0 (api_Item.mk 0 0 0 0) (api_Res.mk 0 false 0 false 0 0) 0 0)).Res.E, .bool ((mget p0.in_ p1.Task).getD (api_Entry.mk 0 0 0 0 0 0 0 0 0 0 (api_Item.mk 0 0 0 0) (api_Res.mk 0 false 0 false 0 0) 0 0)).Res.Found, U ((mget p0.in_ p1.Task).getD (api_Entry.mk 0 0 0 0 0 0 0 0 0 0 (api_Item.mk 0 0 0 0) (api_Res.mk 0 false 0 false 0 0) 0 0)).Res.Val, .bool ((mget p0.in_ p1.Task).getD (api_Entry.mk 0 0 0 0 0 0 0 0 0 0 (api_Item.mk 0 0 0 0) (api_Res.mk 0 false 0 false 0 0) 0 0)).Res.Out, U ((mget p0.in_ p1.Task).getD (api_Entry.mk 0 0 0 0 0 0 0 0 0 0 (api_Item.mk 0 0 0 0) (api_Res.mk 0 false 0 false 0 0) 0 0)).Res.OutKey, U ((mget p0.in_ p1.Task).getD (api_Entry.mk 0 0 0 0 0 0 0 0 0 0 (api_Item.mk 0 0 0 0) (api_Res.mk 0 false 0 false 0 0) 0 0)).Res.OutVal, U ((mget p0.in_ p1.Task).getD (api_Entry.mk 0 0 0 0 0 0 0 0 0 0 (api_Item.mk 0 0 0 0) (api_Res.mk 0 false 0 false 0 0) 0 0)).Val, I ((mget p0.in_ p1.Task).getD (api_Entry.mk 0 0 0 0 0 0 0 0 0 0 (api_Item.mk 0 0 0 0) (api_Res.mk 0 false 0 false 0 0) 0 0)).E] rfl ?_
 intro w21 hst
 refine OA.next trivial ?_
 refine OA.act (i := 12) [] (by kernel_rfl) rfl rfl (by kernel_rfl) (by kernel_rfl) ?_
 refine pu 1 [(6, .bool (mget p0.in_ p1.Task).isSome)] (OA.next trivial ?_)
 refine OA.fin (by kernel_rfl) (by kernel_rfl) (QW.next (CW.seq ?_))
 refine CW.cutK (fun a w1 => Rep 39 [(4, .bool ((((mget p0.in_ p1.Task).isSome && (((mget p0.in_ p1.Task).getD (api_Entry.mk 0 0 0 0 0 0 0 0 0 0 (api_Item.mk 0 0 0 0) (api_Res.mk 0 false 0 false 0 0) 0 0)).Event == p1.Event)) && (((mget p0.in_ p1.Task).getD (api_Entry.mk 0 0 0 0 0 0 0 0 0 0 (api_Item.mk 0 0 0 0) (api_Res.mk 0 false 0 false 0 0) 0 0)).Prog == p1.Prog)) && (((mget p0.in_ p1.Task).getD (api_Entry.mk 0 0 0 0 0 0 0 0 0 0 (api_Item.mk 0 0 0 0) (api_Res.mk 0 false 0 false 0 0) 0 0)).Version == p1.Version)))] a ∧ St w (fp [itI R_t69 [Pt b1] S0 p0]) w1 [blkI b1 96 [.map (some r10), .map (some r11), I p0.last], mapI r10 (fun x => .agg (enc_api_Entry x).toArray) p0.at_, mapI r11 (fun x => .agg (enc_api_Entry x).toArray) p0.in_]) ?_ ?_
 ·refine CW.region ?_
  refine pu 2 [(18, .bool (mget p0.in_ p1.Task).isSome)] ?_
  refine OW.split 18 rfl (fun hc22 => ?_) (fun hc22 => ?_)
  ·refine pu 1 [(19, .pointer (some ⟨b19, 5, none⟩))] ?_
   refine OW.ld rfl rfl rfl rfl (by kernel_rfl) (hst.blk 4 rfl rfl) ?_
   refine pu 1 [(21, .pointer (some ⟨b4, 5, none⟩))] ?_
   refine OW.ld rfl rfl rfl rfl (by kernel_rfl) (hst.blk 1 rfl rfl) ?_
   refine pu 3 [(25, .bool (((mget p0.in_ p1.Task).getD (api_Entry.mk 0 0 0 0 0 0 0 0 0 0 (api_Item.mk 0 0 0 0) (api_Res.mk 0 false 0 false 0 0) 0 0)).Event == p1.Event))] ?_
   refine OW.split 25 rfl (fun hc23 => ?_) (fun hc23 => ?_)
   ·refine pu 1 [(26, .pointer (some ⟨b19, 7, none⟩))] ?_
    refine OW.ld rfl rfl rfl rfl (by kernel_rfl) (hst.blk 4 rfl rfl) ?_
    refine pu 1 [(28, .pointer (some ⟨b4, 7, none⟩))] ?_
    refine OW.ld rfl rfl rfl rfl (by kernel_rfl) (hst.blk 1 rfl rfl) ?_
    refine pu 3 [(32, .bool (((mget p0.in_ p1.Task).getD (api_Entry.mk 0 0 0 0 0 0 0 0 0 0 (api_Item.mk 0 0 0 0) (api_Res.mk 0 false 0 false 0 0) 0 0)).Prog == p1.Prog))] ?_
    refine OW.split 32 rfl (fun hc24 => ?_) (fun hc24 => ?_)
    ·refine pu 1 [(33, .pointer (some ⟨b19, 8, none⟩))] ?_
     refine OW.ld rfl rfl rfl rfl (by kernel_rfl) (hst.blk 4 rfl rfl) ?_
     refine pu 1 [(35, .pointer (some ⟨b4, 8, none⟩))] ?_
     refine OW.ld rfl rfl rfl rfl (by kernel_rfl) (hst.blk 1 rfl rfl) ?_
     refine pu 3 [(4, .bool (((mget p0.in_ p1.Task).getD (api_Entry.mk 0 0 0 0 0 0 0 0 0 0 (api_Item.mk 0 0 0 0) (api_Res.mk 0 false 0 false 0 0) 0 0)).Version == p1.Version))] (OW.nil rfl ?_)
     refine QW.say 4 (v := .bool ((((mget p0.in_ p1.Task).isSome && (((mget p0.in_ p1.Task).getD (api_Entry.mk 0 0 0 0 0 0 0 0 0 0 (api_Item.mk 0 0 0 0) (api_Res.mk 0 false 0 false 0 0) 0 0)).Event == p1.Event)) && (((mget p0.in_ p1.Task).getD (api_Entry.mk 0 0 0 0 0 0 0 0 0 0 (api_Item.mk 0 0 0 0) (api_Res.mk 0 false 0 false 0 0) 0 0)).Prog == p1.Prog)) && (((mget p0.in_ p1.Task).getD (api_Entry.mk 0 0 0 0 0 0 0 0 0 0 (api_Item.mk 0 0 0 0) (api_Res.mk 0 false 0 false 0 0) 0 0)).Version == p1.Version))) rfl (by first | (rw [hc22, hc23, hc24]; done) | (rw [hc22, hc23, hc24]; rfl) | simp [hc22, hc23, hc24]) ?_
     exact QW.meet (fun a ha => ⟨ha.ag, hst.keep [0, 2, 3] rfl⟩)
    refine pu 7 [(4, .bool false)] (OW.nil rfl ?_)
    refine QW.say 4 (v := .bool ((((mget p0.in_ p1.Task).isSome && (((mget p0.in_ p1.Task).getD (api_Entry.mk 0 0 0 0 0 0 0 0 0 0 (api_Item.mk 0 0 0 0) (api_Res.mk 0 false 0 false 0 0) 0 0)).Event == p1.Event)) && (((mget p0.in_ p1.Task).getD (api_Entry.mk 0 0 0 0 0 0 0 0 0 0 (api_Item.mk 0 0 0 0) (api_Res.mk 0 false 0 false 0 0) 0 0)).Prog == p1.Prog)) && (((mget p0.in_ p1.Task).getD (api_Entry.mk 0 0 0 0 0 0 0 0 0 0 (api_Item.mk 0 0 0 0) (api_Res.mk 0 false 0 false 0 0) 0 0)).Version == p1.Version))) rfl (by first | (rw [hc22, hc23, hc24]; done) | (rw [hc22, hc23, hc24]; rfl) | simp [hc22, hc23, hc24]) ?_
    exact QW.meet (fun a ha => ⟨ha.ag, hst.keep [0, 2, 3] rfl⟩)
   refine pu 14 [(4, .bool false)] (OW.nil rfl ?_)
   refine QW.say 4 (v := .bool ((((mget p0.in_ p1.Task).isSome && (((mget p0.in_ p1.Task).getD (api_Entry.mk 0 0 0 0 0 0 0 0 0 0 (api_Item.mk 0 0 0 0) (api_Res.mk 0 false 0 false 0 0) 0 0)).Event == p1.Event)) && (((mget p0.in_ p1.Task).getD (api_Entry.mk 0 0 0 0 0 0 0 0 0 0 (api_Item.mk 0 0 0 0) (api_Res.mk 0 false 0 false 0 0) 0 0)).Prog == p1.Prog)) && (((mget p0.in_ p1.Task).getD (api_Entry.mk 0 0 0 0 0 0 0 0 0 0 (api_Item.mk 0 0 0 0) (api_Res.mk 0 false 0 false 0 0) 0 0)).Version == p1.Version))) rfl (by first | (rw [hc22, hc23]; done) | (rw [hc22, hc23]; rfl) | simp [hc22, hc23]) ?_
   exact QW.meet (fun a ha => ⟨ha.ag, hst.keep [0, 2, 3] rfl⟩)
  refine pu 21 [(4, .bool false)] (OW.nil rfl ?_)
  refine QW.say 4 (v := .bool ((((mget p0.in_ p1.Task).isSome && (((mget p0.in_ p1.Task).getD (api_Entry.mk 0 0 0 0 0 0 0 0 0 0 (api_Item.mk 0 0 0 0) (api_Res.mk 0 false 0 false 0 0) 0 0)).Event == p1.Event)) && (((mget p0.in_ p1.Task).getD (api_Entry.mk 0 0 0 0 0 0 0 0 0 0 (api_Item.mk 0 0 0 0) (api_Res.mk 0 false 0 false 0 0) 0 0)).Prog == p1.Prog)) && (((mget p0.in_ p1.Task).getD (api_Entry.mk 0 0 0 0 0 0 0 0 0 0 (api_Item.mk 0 0 0 0) (api_Res.mk 0 false 0 false 0 0) 0 0)).Version == p1.Version))) rfl (by first | (rw [hc22]; done) | (rw [hc22]; rfl) | simp [hc22]) ?_
  exact QW.meet (fun a ha => ⟨ha.ag, hst.keep [0, 2, 3] rfl⟩)
 rintro a w1 ⟨ha, hst⟩
 refine CW.go ?_ ha
 refine CW.ret ?_
 have hst := hst.ofMF 1 rfl
 have hst := hst.ofMF 2 rfl
 obtain ⟨S25, hst⟩ := hst.shutP2 R_t96 rfl 0 1 2 [] rfl rfl rfl rfl p0 rfl rfl
 obtain rfl := inj hF
 refine QW.ret1 rfl rfl ?_
 exact ⟨S25, rfl, hst.keep [0] rfl⟩
end Go.Proofs.Ytpchniebplpboaa
